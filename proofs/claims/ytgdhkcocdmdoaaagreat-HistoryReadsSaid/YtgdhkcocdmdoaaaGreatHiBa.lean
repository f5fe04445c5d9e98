/- Histories: the plain law of Bases. -/
import Derived.Test.YtgdhkcocdmdoaaaGreatHiOr
namespace Go.Proofs.YtgdhkcocdmdoaaaGreat
open Go.RowKit Go.Shelf
set_option linter.unusedVariables false

theorem anc_last {xs : List Itm} {a b : Int × Int} (h : Anc xs a b) : a = b ∨ ∃ c, Anc xs a c ∧ (commitS xs c).2 = 0 ∧ b ∈ (commitS xs c).1.pars := by
  induction h with
  | refl => exact .inl rfl
  | @step a p b h1 h2 h3 ih =>
    rcases ih with rfl | ⟨c, g1, g2, g3⟩
    · exact .inr ⟨a, .refl a, h1, h2⟩
    · exact .inr ⟨c, .step h1 h2 g1, g2, g3⟩
theorem anc_anti {xs : List Itm} (ha : AcyS xs) {a b : Int × Int} (h : Anc xs a b) (g : Anc xs b a) : a = b := by
  cases h with
  | refl => rfl
  | step h1 h2 h3 => exact absurd (h3.trans g) (ha _ _ h1 h2)
theorem anc_rk {xs : List Itm} (ha : AcyS xs) {a b : Int × Int} (h : Anc xs a b) : a = b ∨ depS xs b < depS xs a := by
  induction h with
  | refl => exact .inl rfl
  | step h1 h2 h3 ih =>
    have := dep_par ha h2
    rcases ih with rfl | ih
    · exact .inr (by omega)
    · exact .inr (by omega)
/-- The common ones that are no parent of a common one, and those that no other common one reaches, are the same. -/
theorem worse_iff {xs : List Itm} (ha : AcyS xs) {C : Int × Int → Prop} (hC : ∀ c d, C c → Anc xs c d → C d) (hk : ∀ c, C c → (commitS xs c).2 = 0) (d : Int × Int) : (∃ c, C c ∧ d ∈ (commitS xs c).1.pars) ↔ ∃ c, C c ∧ c ≠ d ∧ Anc xs c d := by
  constructor
  · rintro ⟨c, h1, h2⟩
    refine ⟨c, h1, fun e => ?_, .step (hk c h1) h2 (.refl d)⟩
    subst e
    exact ha c c (hk c h1) h2 (.refl c)
  · rintro ⟨c, h1, h2, h3⟩
    rcases anc_last h3 with e | ⟨b, g1, g2, g3⟩
    · exact absurd e h2
    · exact ⟨b, hC c b h1 g1, g3⟩
end Go.Proofs.YtgdhkcocdmdoaaaGreat
