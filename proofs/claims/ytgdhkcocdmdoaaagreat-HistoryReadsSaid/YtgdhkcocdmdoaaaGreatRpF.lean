/- The reference's insert, With. -/
import Derived.Test.YtgdhkcocdmdoaaaGreatRpE
namespace Go.Proofs.YtgdhkcocdmdoaaaGreat
open Go.RowKit Go.Shelf
set_option linter.unusedVariables false

theorem takeWhile_len {α : Type} {p : α → Bool} : ∀ {l : List α} {k : Nat}, k ≤ l.length → (∀ j (h : j < l.length), j < k → p l[j] = true) → (∀ h : k < l.length, p l[k] = false) → (l.takeWhile p).length = k
  | [], k, hk, _, _ => by simp at hk; subst hk; rfl
  | x :: l, 0, _, _, hi => by
    have := hi (by simp)
    simp only [List.getElem_cons_zero] at this
    rw [List.takeWhile_cons_of_neg (by simp [this])]; rfl
  | x :: l, k + 1, hk, lo, hi => by
    have h0 := lo 0 (by simp) (by omega)
    simp only [List.getElem_cons_zero] at h0
    rw [List.takeWhile_cons_of_pos h0, List.length_cons, takeWhile_len (k := k) (by simpa using hk) (fun j hj hlt => by
      have := lo (j + 1) (by simp; omega) (by omega)
      simpa using this) (fun h => by
      have := hi (by simp; omega)
      simpa using this)]
theorem at_of {xs : List Itm} (ha : Asc xs) {d : Int × Int} {k : Nat} (hk : k ≤ xs.length) (lo : ∀ j (h : j < xs.length), j < k → cmpD xs[j].d d < 0) (hi : ∀ h : k < xs.length, 0 ≤ cmpD xs[k].d d) : At xs d k := by
  refine ⟨hk, lo, fun j hj hle => ?_⟩
  have hkl : k < xs.length := by omega
  rcases Nat.lt_or_ge k j with h1 | h1
  · exact cmpD_trans2 (by
      have := ha k j hkl hj h1
      have h2 := hi hkl
      have g1 := cmpD_range xs[k].d xs[j].d
      have g2 := cmpD_range xs[k].d d
      exact this) (hi hkl)
  · obtain rfl : j = k := by omega
    exact hi hj

end Go.Proofs.YtgdhkcocdmdoaaaGreat
