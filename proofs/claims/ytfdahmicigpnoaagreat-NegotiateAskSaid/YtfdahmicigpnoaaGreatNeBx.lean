/- Rows in the fields of a box; results that are talks. -/
import Derived.Test.YtfdahmicigpnoaaGreatNeIn
import Derived.Test.YtfdahmicigpnoaaGreatNePq
import Derived.Test.YtfdahmicigpnoaaGreatNeSd
set_option maxRecDepth 100000
set_option maxHeartbeats 16000000
open Go.Lib (hid)
namespace Go.Proofs.YtfdahmicigpnoaaGreat
open Go.RowKit Go.Shelf
set_option linter.unusedVariables false
theorem gext {u x y:World} {b:Nat} {r:Option Nat} (h:u.grownBy x (some b)) (g:x.grownBy y r) (hr:∀ k,r=some k->u.heap.size<=k\/k=b):u.grownBy y (some b):=
 ⟨g.os.trans h.os,g.tape.trans h.tape,g.output.trans h.output,Nat.le_trans h.size g.size,fun k hk hb=>(g.block k (Nat.lt_of_lt_of_le hk h.size) (fun e=>by
  rcases hr k e.symm with h1 | h1
  ·omega
  ·exact hb (by rw [h1]))).trans (h.block k hk hb)⟩
theorem gbel {u x y:World} {b:Nat} (h:u.grownBy x (some b)) (g:Below x.heap.size x y):u.grownBy y (some b):=gext h (r:=none) ⟨g.os,g.tape,g.output,g.size,fun k hk _=>g.block k hk⟩ (fun k e=>by cases e)
theorem box_push {u W:World} {tb j m:Nat} {cs:Array Value} {t:TypeId} {va:Option Addr} {vc:Nat} {out:List (Int × Int)} (hm:m=out.length) (hk:BK tb cs t W) (ho:W.ownsRow u.heap.size 41 2 (.slice va m vc) m (dcells out)) (htb:tb < u.heap.size) (hg:u.grownBy W (some tb)) (d1 d2:Int) (hlen:(m:Int)<=1000000) :
  ∃ va' vc' W',Hid ((Builtin.append_ #[24,24] 24 #[.slice va m vc,.slice (some ⟨W.heap.size,0,none⟩) 1 1]).run Tryz.prog (W.alloc (.cells #[.int .u64 d1,.int .u64 d2] 41)) = .ok (.slice va' (m + 1) vc') W')/\BK tb cs t W'/\
   BK tb (cs.setIfInBounds j (.slice va' (m + 1) vc')) t (W'.setCell ⟨tb,j,none⟩ (.slice va' (m + 1) vc'))/\(W'.setCell ⟨tb,j,none⟩ (.slice va' (m + 1) vc')).ownsRow u.heap.size 41 2 (.slice va' (m + 1) vc') (m + 1) (dcells (out ++ [(d1,d2)]))/\u.grownBy (W'.setCell ⟨tb,j,none⟩ (.slice va' (m + 1) vc')) (some tb):=by
 subst hm
 obtain ⟨v',W',hrun,hown,hgr,_⟩:=append_one ho d1 d2 hlen (by have:=hg.size; omega)
 obtain ⟨va',vc',rfl,_⟩:=ownsRow_sliceN hown
 have hl:(out ++ [(d1,d2)]).length=out.length + 1:=by simp
 rw [hl] at hrun hown
 have hk2:BK tb cs t W':=(hk.alloc _).grow hgr (fun k e hkb=>by have:=(ho.lt k e).1; omega)
 refine ⟨va',vc',W',hid hrun,hk2,hk2.set j _,own_kept hown (gset _ _ _ _) (by omega),?_⟩
 exact gtrans (gext (galloc hg _) hgr (fun k e=>.inl (ho.lt k e).1)) (gset _ _ _ _)
theorem digs_box {u W:World} {tb base:Nat} {a:Option Addr} {n c:Nat} {ds:List (Int × Int)} (ho:u.ownsRow base 41 2 (.slice a n c) n (dcells ds)) (hn:n=ds.length) (hg:u.grownBy W (some tb)) (htb:tb < base):Digs W.heap.size W a ds:=own_digs hn (own_kept ho hg htb)
def TkA0:TkA:=⟨none,0,none,0,none,0,none,0⟩
theorem TkIn.zero (W:World):TkIn W tk0 TkA0:=⟨Digs.nil _ _ _,Digs.nil _ _ _,Digs.nil _ _ _,Digs.nil _ _ _,Nat.le_refl _,Nat.le_refl _,Nat.le_refl _,Nat.le_refl _⟩
def New (n:Nat) (a:Option Addr):Prop:=∀ ad,a=some ad->n<=ad.block
theorem New.none (n:Nat):New n Option.none:=fun ad e=>by cases e
theorem new_own {W:World} {base n0:Nat} {e:TypeId} {z:Nat} {a:Option Addr} {n c:Nat} {xs:List Value} (h:W.ownsRow base e z (.slice a n c) n xs) (hb:n0<=base):New n0 a:=fun ad he=>Nat.le_trans hb (own_new h ad he)
structure TkNew (n:Nat) (wa0 ca0:Option Addr) (A:TkA):Prop where
 w:A.wa=wa0\/New n A.wa
 q:New n A.qa
 a:New n A.aa
 c:A.ca=ca0\/New n A.ca
theorem TkNew.zero (n:Nat) (wa0 ca0:Option Addr):TkNew n wa0 ca0 TkA0:=⟨.inr (New.none _),New.none _,New.none _,.inr (New.none _)⟩
def GotT (w:World) (wa0 ca0:Option Addr) (r:Tk × Int) (e:Ending) (w':World):Prop:=∃ A,e = .returned (.tuple #[r.1.val A,.int .i64 r.2])/\TkIn w' r.1 A/\Below w.heap.size w w'/\TkNew w.heap.size wa0 ca0 A
def GotTL (w:World) (wa0 ca0:Option Addr) (r:Tk × List (Int × Int) × Int) (e:Ending) (w':World):Prop:=∃ A la lc,e = .returned (.tuple #[r.1.val A,.slice la r.2.1.length lc,.int .i64 r.2.2])/\TkIn w' r.1 A/\Digs w'.heap.size w' la r.2.1/\r.2.1.length<=lc/\Below w.heap.size w w'/\TkNew w.heap.size wa0 ca0 A
theorem GotT.bad {w w':World} {wa0 ca0:Option Addr} (er:Int) (h:Below w.heap.size w w'):GotT w wa0 ca0 (tk0,er) (.returned (.tuple #[.agg #[.slice none 0 0,.slice none 0 0,.slice none 0 0,.slice none 0 0,.bool false],.int .i64 er])) w':=⟨TkA0,rfl,TkIn.zero _,h,TkNew.zero _ _ _⟩
theorem GotTL.bad {w w':World} {wa0 ca0:Option Addr} (er:Int) (h:Below w.heap.size w w'):GotTL w wa0 ca0 (tk0,[],er) (.returned (.tuple #[.agg #[.slice none 0 0,.slice none 0 0,.slice none 0 0,.slice none 0 0,.bool false],.slice none 0 0,.int .i64 er])) w':=⟨TkA0,none,0,rfl,TkIn.zero _,Digs.nil _ _ _,Nat.le_refl _,h,TkNew.zero _ _ _⟩
theorem talk_set {W:World} {rb:Nat} {t:TypeId} {a0 a1 a2 a3 a4:Value} (h:BK rb #[a0,a1,a2,a3,a4] t W) (v0 v1 v2 v3 v4:Value):BK rb #[v0,v1,v2,v3,v4] t (((((W.setCell ⟨rb,0,none⟩ v0).setCell ⟨rb,1,none⟩ v1).setCell ⟨rb,2,none⟩ v2).setCell ⟨rb,3,none⟩ v3).setCell ⟨rb,4,none⟩ v4)/\W.grownBy (((((W.setCell ⟨rb,0,none⟩ v0).setCell ⟨rb,1,none⟩ v1).setCell ⟨rb,2,none⟩ v2).setCell ⟨rb,3,none⟩ v3).setCell ⟨rb,4,none⟩ v4) (some rb):=
 ⟨((((h.set 0 v0).set 1 v1).set 2 v2).set 3 v3).set 4 v4,gown (gown (gown (gown (gset _ _ _ _) _ _) _ _) _ _) _ _⟩
end Go.Proofs.YtfdahmicigpnoaaGreat
