/- cordwoodref07.Links. -/
import Derived.Test.YtgdhkcocdmdoaaaGreatRpK
namespace Go.Proofs.YtgdhkcocdmdoaaaGreat
open Go.RowKit Go.Shelf
set_option linter.unusedVariables false

theorem links_form {o : Ob} (h : (encodeS o).2 = 0) : linksS o = ((o.ents.map (·.d)) ++ (if o.kind = 3 then [o.tree] else [])) ++ o.pars := by
  unfold linksS
  rw [if_neg (by simpa using h)]
  by_cases h3 : o.kind = 3
  · simp [h3]
  · have hc := (encodeS_parts (encodeS_err h)).1
    have hk := checkS_kind hc
    have hp : o.pars = [] := by
      by_cases h1 : o.kind = 1 ∨ o.kind = 4
      · rw [checkS_one hc h1]; rfl
      · rw [(checkS_two hc (by omega)).1]; rfl
    simp [h3, hp]
theorem own_empty (W : World) (base : Nat) (e : TypeId) (z : Nat) (h : base ≤ W.heap.size) : (W.alloc (.cells #[] e)).ownsRow base e z (.slice (some ⟨W.heap.size, 0, none⟩) 0 0) 0 [] := by
  refine ⟨by simp, .inr ⟨W.heap.size, 0, #[], rfl, h, BK.new W #[] e, Nat.le_refl _, by unfold maxLen; omega, by simp, by simp⟩⟩

end Go.Proofs.YtgdhkcocdmdoaaaGreat
