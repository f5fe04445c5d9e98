/- The reference: Send. -/
import Derived.Test.YtfdahmicigpnoaaGreatNeRs
set_option maxRecDepth 100000
set_option maxHeartbeats 16000000
namespace Go.Proofs.YtfdahmicigpnoaaGreat
open Go.RowKit Go.Shelf
set_option linter.unusedVariables false
theorem append_two (u:World) (wa:Option Addr) (want:List (Int × Int)) (wc:Nat) (ca:Option Addr) (com:List (Int × Int)) (cc:Nat) (hw:Digs u.heap.size u wa want) (hc:Digs u.heap.size u ca com) (hl:((want.length + com.length:Nat):Int) ≤ 1000000) :
  ∃ a1 c1 W1 a2 c2 W2,Hid ((Builtin.append_ #[24,24] 24 #[.slice (some ⟨u.heap.size,0,none⟩) 0 0,.slice wa want.length wc]).run Tryz.prog (u.alloc (.cells #[] 41)) = .ok (.slice a1 want.length c1) W1) ∧ Hid ((Builtin.append_ #[24,24] 24 #[.slice a1 want.length c1,.slice ca com.length cc]).run Tryz.prog W1 = .ok (.slice a2 (want ++ com).length c2) W2) ∧ W2.ownsRow u.heap.size 41 2 (.slice a2 (want ++ com).length c2) (want ++ com).length (dcells (want ++ com)) ∧ Below u.heap.size u W2:=by
 have hb0:Below u.heap.size u (u.alloc (.cells #[] 41)):=(Below.refl _ _).alloc (Nat.le_refl _) _
 have ho0:=own_empty u u.heap.size 41 2 (Nat.le_refl _)
 obtain ⟨v1,W1,hrun1,hown1,hg1,_⟩:=append_digs (u.alloc (.cells #[] 41)) u.heap.size 24 (.slice (some ⟨u.heap.size,0,none⟩) 0 0) [] ho0 wa want wc (hw.ahead hb0) (by simp; omega) hb0.size
 have hb1:=below_own hb0 ho0 hg1 (Nat.le_refl _)
 rw [List.nil_append] at hown1
 obtain ⟨a1,c1,rfl,_⟩:=ownsRow_sliceN hown1
 obtain ⟨v2,W2,hrun2,hown2,hg2,_⟩:=append_digs W1 u.heap.size 24 (.slice a1 want.length c1) want hown1 ca com cc (hc.ahead hb1) (by omega) hb1.size
 have hb2:=below_own hb1 hown1 hg2 (Nat.le_refl _)
 obtain ⟨a2,c2,rfl,_⟩:=ownsRow_sliceN hown2
 exact ⟨a1,c1,W1,a2,c2,W2,Lib.hid hrun1,Lib.hid hrun2,hown2,hb2⟩
theorem GotR.bad {w w':World} (a:Option Addr) (er:Int) (h:Below w.heap.size w w'):GotR w ([],er) (.returned (.tuple #[.slice a 0 0,.int .i64 er])) w':=⟨a,0,rfl,Digs.nil _ _ _,Nat.le_refl _,h⟩
end Go.Proofs.YtfdahmicigpnoaaGreat
