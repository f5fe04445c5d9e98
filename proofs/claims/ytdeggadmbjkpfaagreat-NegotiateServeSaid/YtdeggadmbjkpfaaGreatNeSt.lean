/- What a store into a talk's box leaves as it was. -/
import Derived.Test.YtdeggadmbjkpfaaGreatNeIn
set_option maxRecDepth 100000
set_option maxHeartbeats 16000000
namespace Go.Proofs.YtdeggadmbjkpfaaGreat
open Go.RowKit Go.Shelf
set_option linter.unusedVariables false
def NoInt (cs:Array Value):Prop:=∀ (j:Nat) (x:Int),cs[j]? ≠ some (.int .u64 x)
theorem noint_tk (t:Tk) (A:TkA):NoInt (t.arr A):=by
 intro j x
 unfold Tk.arr
 match j with
 | 0=>simp
 | 1=>simp
 | 2=>simp
 | 3=>simp
 | 4=>simp
 | n + 5=>simp
theorem digs_store {W W':World} {tb:Nat} {cs:Array Value} {T:TypeId} {a:Option Addr} {ds:List (Int × Int)} (hd:Digs W.heap.size W a ds) (hk:BK tb cs T W) (hn:NoInt cs) (hg:W.grownBy W' (some tb)):Digs W'.heap.size W' a ds:=by
 intro i hi
 obtain ⟨b,off,rfl,hb,h0,h1⟩:=hd i hi
 have hne:some b ≠ some tb:=fun e=>by
  cases e
  rw [hk.cell] at h0
  exact hn _ _ h0
 exact ⟨b,off,rfl,Nat.lt_of_lt_of_le hb hg.size,(hg.cell_far ⟨b,off + i * 2,none⟩ hb hne).trans h0,(hg.cell_far ⟨b,off + i * 2 + 1,none⟩ hb hne).trans h1⟩
theorem its_store {W W':World} {tb:Nat} {cs:Array Value} {T:TypeId} {a:Option Addr} {xs:List Itm} (hd:Its W.heap.size W a xs) (hk:BK tb cs T W) (hn:NoInt cs) (hg:W.grownBy W' (some tb)):Its W'.heap.size W' a xs:=by
 intro i hi
 obtain ⟨b,off,rfl,hb,h0,h1,h2⟩:=hd i hi
 have hne:some b ≠ some tb:=fun e=>by
  cases e
  rw [hk.cell] at h0
  exact hn _ _ h0
 exact ⟨b,off,rfl,Nat.lt_of_lt_of_le hb hg.size,(hg.cell_far ⟨b,off + i * 3,none⟩ hb hne).trans h0,(hg.cell_far ⟨b,off + i * 3 + 1,none⟩ hb hne).trans h1,(hg.cell_far ⟨b,off + i * 3 + 2,none⟩ hb hne).trans h2⟩
theorem TkIn.store {W W':World} {tb:Nat} {cs:Array Value} {T:TypeId} {t:Tk} {A:TkA} (h:TkIn W t A) (hk:BK tb cs T W) (hn:NoInt cs) (hg:W.grownBy W' (some tb)):TkIn W' t A:=
 ⟨digs_store h.w hk hn hg,digs_store h.q hk hn hg,digs_store h.a hk hn hg,digs_store h.c hk hn hg,h.wl,h.ql,h.al,h.cl⟩
def Apt (k:Nat) (a:Option Addr) (ds:List (Int × Int)):Prop:=ds ≠ [] → ∀ ad,a=some ad → ad.block ≠ k
theorem apt_digs {B k:Nat} {W:World} {a:Option Addr} {ds:List (Int × Int)} (h:Digs B W a ds) (hk:B ≤ k):Apt k a ds:=fun hne ad e=>by
 obtain ⟨b,off,e2,hb,_⟩:=h 0 (List.length_pos_iff.2 hne)
 rw [e2] at e
 cases e
 show b ≠ k
 omega
theorem digs_apart {W W':World} {row:Option Nat} {a:Option Addr} {ds:List (Int × Int)} (hd:Digs W.heap.size W a ds) (hg:W.grownBy W' row) (hr:∀ k,row=some k → Apt k a ds):Digs W'.heap.size W' a ds:=by
 intro i hi
 obtain ⟨b,off,e,hb,h0,h1⟩:=hd i hi
 have hne:some b ≠ row:=fun e2=>hr b e2.symm (by intro e3; subst e3; simp at hi) _ e rfl
 exact ⟨b,off,e,Nat.lt_of_lt_of_le hb hg.size,(hg.cell_far ⟨b,off + i * 2,none⟩ hb hne).trans h0,(hg.cell_far ⟨b,off + i * 2 + 1,none⟩ hb hne).trans h1⟩
structure TkApt (k:Nat) (t:Tk) (A:TkA):Prop where
 w:Apt k A.wa t.want
 q:Apt k A.qa t.queue
 a:Apt k A.aa t.asked
 c:Apt k A.ca t.common
theorem TkIn.apt {W:World} {t:Tk} {A:TkA} {k:Nat} (h:TkIn W t A) (hk:W.heap.size ≤ k):TkApt k t A:=⟨apt_digs h.w hk,apt_digs h.q hk,apt_digs h.a hk,apt_digs h.c hk⟩
theorem TkIn.apart {W W':World} {row:Option Nat} {t:Tk} {A:TkA} (h:TkIn W t A) (hg:W.grownBy W' row) (hr:∀ k,row=some k → TkApt k t A):TkIn W' t A:=
 ⟨digs_apart h.w hg (fun k e=>(hr k e).w),digs_apart h.q hg (fun k e=>(hr k e).q),digs_apart h.a hg (fun k e=>(hr k e).a),digs_apart h.c hg (fun k e=>(hr k e).c),h.wl,h.ql,h.al,h.cl⟩
def talkW (W:World) (rb:Nat) (t:Tk) (A:TkA):World:=((((W.setCell ⟨rb,0,none⟩ (.slice A.wa t.want.length A.wc)).setCell ⟨rb,1,none⟩ (.slice A.qa t.queue.length A.qc)).setCell ⟨rb,2,none⟩ (.slice A.aa t.asked.length A.ac)).setCell ⟨rb,3,none⟩ (.slice A.ca t.common.length A.cc)).setCell ⟨rb,4,none⟩ (.bool t.done)
theorem talkW_bk {W:World} {rb:Nat} {T:TypeId} {s:Tk} {B:TkA} (h:BK rb (s.arr B) T W) (t:Tk) (A:TkA):BK rb (t.arr A) T (talkW W rb t A):=((((h.set 0 _).set 1 _).set 2 _).set 3 _).set 4 _
theorem talkW_gr (W:World) (rb:Nat) (t:Tk) (A:TkA):W.grownBy (talkW W rb t A) (some rb):=gown (gown (gown (gown (gset _ _ _ _) _ _) _ _) _ _) _ _
theorem tk_cells {W:World} {tb:Nat} {T:TypeId} {t:Tk} {A:TkA} (h:BK tb (t.arr A) T W):W.cell? ⟨tb,0,none⟩=some (.slice A.wa t.want.length A.wc) ∧ W.cell? ⟨tb,1,none⟩=some (.slice A.qa t.queue.length A.qc) ∧ W.cell? ⟨tb,2,none⟩=some (.slice A.aa t.asked.length A.ac) ∧ W.cell? ⟨tb,3,none⟩=some (.slice A.ca t.common.length A.cc) ∧ W.cell? ⟨tb,4,none⟩=some (.bool t.done):=by
 refine ⟨?_,?_,?_,?_,?_⟩ <;> (rw [h.cell]; rfl)
end Go.Proofs.YtdeggadmbjkpfaaGreat
