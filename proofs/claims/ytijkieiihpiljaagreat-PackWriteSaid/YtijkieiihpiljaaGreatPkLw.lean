/- Packs: small of a pool and of one list or two, and what it tells. -/
import Derived.Test.YtijkieiihpiljaaGreatP7
import Derived.Test.YtijkieiihpiljaaGreatP12
import Derived.Lib.AppendZeros
set_option maxRecDepth 100000
set_option maxHeartbeats 16000000
open Go.Lib (hid)
namespace Go.Proofs.YtijkieiihpiljaaGreat
open Go.RowKit Go.Shelf
set_option linter.unusedVariables false
def sm2 (xs:List Itm) (m k:Nat):Bool:=decide (m<=8/\k<=8) && (!pgreatS xs && decide (checkP xs=0))
theorem small_two (xs:List Itm) (la ba:Option Addr) (m k lc bc:Nat):smallS xs [(la,m,lc),(ba,k,bc)]=sm2 xs m k:=by
 unfold smallS sm2
 simp
structure SmOk (xs:List Itm) (m k:Nat):Prop where
 m:m<=8
 k:k<=8
 asc:Asc xs
 chk:∀ x ∈ xs,chkI x=0
 dat:∀ x ∈ xs,x.data.length<=500
 len:xs.length<=40
theorem sm2_ok {xs:List Itm} {m k:Nat} (h:sm2 xs m k=true):SmOk xs m k:=by
 unfold sm2 at h
 simp only [Bool.and_eq_true,Bool.not_eq_true',decide_eq_true_eq] at h
 obtain ⟨⟨h1,h2⟩,hg,hk⟩:=h
 obtain ⟨g1,g2⟩:=pgreatS_false hg
 obtain ⟨g3,g4⟩:=checkP_zero hk
 exact ⟨h1,h2,g4,g3,g2,g1⟩
theorem SmOk.pool {xs:List Itm} {m k:Nat} (h:SmOk xs m k) {w:World} {a:Option Addr} {c:Nat} (hp:PoolCame w a xs c):PkPool xs c:=
 ⟨h.asc,fun x hx=>(hp.dat x hx).1,fun x hx=>by have:=h.dat x hx; omega,by have:=h.len; omega,hp.cap.1⟩
theorem small2_any {w:World} {a:Option Addr} {xs:List Itm} {c:Nat} (hp:PoolCame w a xs c) (la ba:Option Addr) (m k lc bc:Nat) (hm:m<=maxLen) (hk:k<=maxLen) :
  Calls Tryz.prog 10 #[.slice a xs.length c,.slice (some ⟨w.heap.size,0,none⟩) 2 2] (w.alloc (.cells #[.slice la m lc,.slice ba k bc] 24)) fun e w'=>e = .returned (.bool (sm2 xs m k))/\Below w.heap.size w w':=by
 have hb0:Below w.heap.size w (w.alloc (.cells #[.slice la m lc,.slice ba k bc] 24)):=(Below.refl _ _).alloc (Nat.le_refl _) _
 have HX:=BK.new w #[.slice la m lc,.slice ba k bc] 24
 have h:=small10_any a xs c (some ⟨w.heap.size,0,none⟩) [(la,m,lc),(ba,k,bc)] (w.alloc (.cells #[.slice la m lc,.slice ba k bc] 24)) ⟨hp.its.ahead hb0,hp.cap,hp.dat⟩ (fun i hi=>by
  refine ⟨w.heap.size,0,rfl,?_⟩
  rw [Nat.zero_add,HX.cell]
  match i,hi with
  | 0,_=>rfl
  | 1,_=>rfl) (by simp) (by simp [hm,hk])
 rw [small_two] at h
 exact h.mono fun e w' ⟨he,hb⟩=>⟨he,hb0.trans (hb.mono hb0.size)⟩
end Go.Proofs.YtijkieiihpiljaaGreat
