/- What a store into a talk's box leaves as it was. -/
import Derived.Test.YtfdahmicigpnoaaGreatNeIn
set_option maxRecDepth 100000
set_option maxHeartbeats 16000000
open Go.Lib (hid)
namespace Go.Proofs.YtfdahmicigpnoaaGreat
open Go.RowKit Go.Shelf
set_option linter.unusedVariables false
def NoInt (cs:Array Value):Prop:=∀ (j:Nat) (x:Int),cs[j]? ≠ some (.int .u64 x)
theorem noint_tk (t:Tk) (A:TkA):NoInt (t.arr A):=by
 intro j x
 unfold Tk.arr
 match j with
 | 0=>simp
 | 1=>simp
 | 2=>simp
 | 3=>simp
 | 4=>simp
 | n + 5=>simp
theorem digs_store {W W':World} {tb:Nat} {cs:Array Value} {T:TypeId} {a:Option Addr} {ds:List (Int × Int)} (hd:Digs W.heap.size W a ds) (hk:BK tb cs T W) (hn:NoInt cs) (hg:W.grownBy W' (some tb)):Digs W'.heap.size W' a ds:=by
 intro i hi
 obtain ⟨b,off,rfl,hb,h0,h1⟩:=hd i hi
 have hne:some b ≠ some tb:=fun e=>by
  cases e
  rw [hk.cell] at h0
  exact hn _ _ h0
 exact ⟨b,off,rfl,Nat.lt_of_lt_of_le hb hg.size,(hg.cell_far ⟨b,off + i * 2,none⟩ hb hne).trans h0,(hg.cell_far ⟨b,off + i * 2 + 1,none⟩ hb hne).trans h1⟩
theorem its_store {W W':World} {tb:Nat} {cs:Array Value} {T:TypeId} {a:Option Addr} {xs:List Itm} (hd:Its W.heap.size W a xs) (hk:BK tb cs T W) (hn:NoInt cs) (hg:W.grownBy W' (some tb)):Its W'.heap.size W' a xs:=by
 intro i hi
 obtain ⟨b,off,rfl,hb,h0,h1,h2⟩:=hd i hi
 have hne:some b ≠ some tb:=fun e=>by
  cases e
  rw [hk.cell] at h0
  exact hn _ _ h0
 exact ⟨b,off,rfl,Nat.lt_of_lt_of_le hb hg.size,(hg.cell_far ⟨b,off + i * 3,none⟩ hb hne).trans h0,(hg.cell_far ⟨b,off + i * 3 + 1,none⟩ hb hne).trans h1,(hg.cell_far ⟨b,off + i * 3 + 2,none⟩ hb hne).trans h2⟩
theorem TkIn.store {W W':World} {tb:Nat} {cs:Array Value} {T:TypeId} {t:Tk} {A:TkA} (h:TkIn W t A) (hk:BK tb cs T W) (hn:NoInt cs) (hg:W.grownBy W' (some tb)):TkIn W' t A:=
 ⟨digs_store h.w hk hn hg,digs_store h.q hk hn hg,digs_store h.a hk hn hg,digs_store h.c hk hn hg,h.wl,h.ql,h.al,h.cl⟩
def Apt (k:Nat) (a:Option Addr) (ds:List (Int × Int)):Prop:=ds ≠ []->∀ ad,a=some ad->ad.block ≠ k
theorem digs_apart {W W':World} {row:Option Nat} {a:Option Addr} {ds:List (Int × Int)} (hd:Digs W.heap.size W a ds) (hg:W.grownBy W' row) (hr:∀ k,row=some k->Apt k a ds):Digs W'.heap.size W' a ds:=by
 intro i hi
 obtain ⟨b,off,e,hb,h0,h1⟩:=hd i hi
 have hne:some b ≠ row:=fun e2=>hr b e2.symm (by intro e3; subst e3; simp at hi) _ e rfl
 exact ⟨b,off,e,Nat.lt_of_lt_of_le hb hg.size,(hg.cell_far ⟨b,off + i * 2,none⟩ hb hne).trans h0,(hg.cell_far ⟨b,off + i * 2 + 1,none⟩ hb hne).trans h1⟩
structure TkApt (k:Nat) (t:Tk) (A:TkA):Prop where
 w:Apt k A.wa t.want
 q:Apt k A.qa t.queue
 a:Apt k A.aa t.asked
 c:Apt k A.ca t.common
theorem TkIn.apart {W W':World} {row:Option Nat} {t:Tk} {A:TkA} (h:TkIn W t A) (hg:W.grownBy W' row) (hr:∀ k,row=some k->TkApt k t A):TkIn W' t A:=
 ⟨digs_apart h.w hg (fun k e=>(hr k e).w),digs_apart h.q hg (fun k e=>(hr k e).q),digs_apart h.a hg (fun k e=>(hr k e).a),digs_apart h.c hg (fun k e=>(hr k e).c),h.wl,h.ql,h.al,h.cl⟩
end Go.Proofs.YtfdahmicigpnoaaGreat
