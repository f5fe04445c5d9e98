/- Valid pools; plain facts of the answers. -/
import Derived.Test.YtgdhkcocdmdoaaaGreatHiAw
namespace Go.Proofs.YtgdhkcocdmdoaaaGreat
open Go.RowKit Go.Shelf Go.Sort
set_option linter.unusedVariables false

structure HV (xs : List Itm) : Prop where
  le : xs.length ≤ 40
  dat : ∀ x ∈ xs, x.data.length ≤ 500
  asc : Asc xs
  acy : AcyS xs
theorem validS_true {xs : List Itm} (h : validS xs = true) : HV xs := by
  simp only [validS, Bool.and_eq_true, Bool.not_eq_true', decide_eq_true_eq] at h
  obtain ⟨h1, h2⟩ := pgreatS_false h.1
  exact ⟨h1, h2, (checkP_zero h.2.1).2, acy_of h.2.2⟩
theorem HV.pin {xs : List Itm} (h : HV xs) {W : World} {a : Option Addr} {c : Nat} (hi : Its W.heap.size W a xs) (hc : xs.length ≤ c) : PoolIn W a xs c := ⟨hi, hc, by have := h.le; omega, fun x hx => by have := h.dat x hx; omega⟩
section
variable {xs : List Itm} {a b c : Int × Int} {hs : List (Int × Int)}
theorem vis_anc (h : (visS xs hs []).2 = 0) {d : Int × Int} : d ∈ (visS xs hs []).1 ↔ ∃ s ∈ hs, Anc xs s d := (visS_anc h).2 d
theorem vis_anc1 (h : (visS xs [a] []).2 = 0) {d : Int × Int} : d ∈ (visS xs [a] []).1 ↔ Anc xs a d := by
  rw [vis_anc h]
  constructor
  · rintro ⟨s, h1, h2⟩; rw [List.mem_singleton] at h1; subst h1; exact h2
  · intro h1; exact ⟨a, by simp, h1⟩
theorem vis_ok (h : (visS xs hs []).2 = 0) {d : Int × Int} (hd : d ∈ (visS xs hs []).1) : (commitS xs d).2 = 0 := by
  rcases (visS_law xs _ hs [] (Nat.le_refl _) h).ok d hd with h1 | h1
  · simp at h1
  · exact h1
theorem vis_sub (h : (visS xs hs []).2 = 0) {gs : List (Int × Int)} (hb : ∀ g ∈ gs, g ∈ (visS xs hs []).1) : (visS xs gs []).2 = 0 := by
  by_cases h2 : (visS xs gs []).2 = 0
  · exact h2
  · obtain ⟨_, s, h3, d, h4, _, h5⟩ := visS_bad xs _ gs [] (Nat.le_refl _) h2
    have h6 := hb s h3
    rw [vis_anc h] at h6
    obtain ⟨t, ht, h7⟩ := h6
    have h8 := vis_ok h ((vis_anc h).2 ⟨t, ht, h7.trans h4⟩)
    rw [h8] at h5
    exact absurd h5.symm h2
theorem anc_mem (h : (visS xs hs []).2 = 0) {d : Int × Int} : d ∈ (ancS xs hs).1 ↔ ∃ s ∈ hs, Anc xs s d := by
  unfold ancS
  rw [if_neg (by simpa using h)]
  simp only
  rw [(sortH_perm _ _).mem_iff, vis_anc h]
theorem ancS_ok (h : (visS xs hs []).2 = 0) : (ancS xs hs).2 = 0 := by unfold ancS; rw [if_neg (by simpa using h)]
theorem ancS_err (h : (visS xs hs []).2 ≠ 0) : ancS xs hs = ([], (visS xs hs []).2) := by unfold ancS; rw [if_pos h]
theorem reachesS_ok (h : (visS xs [a] []).2 = 0) : reachesS xs a b = (decide (b ∈ (visS xs [a] []).1), 0) := by unfold reachesS; rw [if_neg (by simpa using h)]
theorem reachesS_err (h : (visS xs [a] []).2 ≠ 0) : reachesS xs a b = (false, (visS xs [a] []).2) := by unfold reachesS; rw [if_pos h]
end
end Go.Proofs.YtgdhkcocdmdoaaaGreat
