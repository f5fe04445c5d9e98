/- Histories: the plain law of depths. -/
import Derived.Test.YtgdhkcocdmdoaaaGreatHiPl
namespace Go.Proofs.YtgdhkcocdmdoaaaGreat
open Go.RowKit Go.Shelf
set_option linter.unusedVariables false

/-- No commit is an ancestor of its parents. -/
def AcyS (xs : List Itm) : Prop := ∀ d p, (commitS xs d).2 = 0 → p ∈ (commitS xs d).1.pars → ¬ Anc xs p d
open Classical in
/-- How many objects are among the ancestors. -/
noncomputable def rkS (xs : List Itm) (d : Int × Int) : Nat := xs.countP (fun x => decide (Anc xs d x.d))
theorem rk_le (xs : List Itm) (d : Int × Int) : rkS xs d ≤ xs.length := List.countP_le_length
theorem countP_strict {α : Type} {p q : α → Bool} : ∀ {l : List α} {x : α}, (∀ y ∈ l, p y = true → q y = true) → x ∈ l → p x = false → q x = true → l.countP p + 1 ≤ l.countP q
  | [], x, _, hx, _, _ => by simp at hx
  | y :: l, x, h, hx, h1, h2 => by
    rw [List.countP_cons, List.countP_cons]
    have hm : l.countP p ≤ l.countP q := List.countP_mono_left (fun z hz => h z (by simp [hz]))
    rcases List.mem_cons.1 hx with rfl | hx
    · simp [h1, h2]; exact hm
    · have ih := countP_strict (fun z hz => h z (by simp [hz])) hx h1 h2
      by_cases hp : p y = true
      · simp [hp, h y (by simp) hp]; omega
      · simp only [hp]
        split <;> simp_all <;> omega
theorem rk_lt {xs : List Itm} (ha : AcyS xs) {d p : Int × Int} (hc : (commitS xs d).2 = 0) (hp : p ∈ (commitS xs d).1.pars) : rkS xs p + 1 ≤ rkS xs d := by
  obtain ⟨x, hx, hd, _⟩ := getS_good (commit_ok hc).1
  unfold rkS
  refine countP_strict (x := x) (fun y _ hy => ?_) hx ?_ ?_
  · simp only [decide_eq_true_eq] at hy ⊢
    exact .step hc hp hy
  · rw [hd]; simpa using ha d p hc hp
  · rw [hd]; simpa using Anc.refl (xs := xs) d
/-- The length of the longest way to a commit without parents. -/
def depF (xs : List Itm) : Nat → Int × Int → Nat
  | 0, _ => 0
  | f + 1, d => ((commitS xs d).1.pars.map fun p => depF xs f p + 1).foldl max 0
theorem no_pars {xs : List Itm} {d : Int × Int} (h : (commitS xs d).2 ≠ 0) : (commitS xs d).1.pars = [] := by
  unfold commitS at h ⊢
  by_cases h1 : (getS xs d).2 = 0
  · by_cases h2 : (getS xs d).1.kind = 3
    · simp [h1, h2] at h
    · simp [h1, h2, obZ]
  · simp [h1, obZ]
theorem depF_fuel {xs : List Itm} (ha : AcyS xs) : ∀ (f g : Nat) (d : Int × Int), rkS xs d < f → rkS xs d < g → depF xs f d = depF xs g d
  | 0, g, d, h, _ => by omega
  | f + 1, 0, d, _, h => by omega
  | f + 1, g + 1, d, hf, hg => by
    rw [depF, depF]
    congr 1
    refine List.map_congr_left (fun p hp => ?_)
    by_cases hc : (commitS xs d).2 = 0
    · have := rk_lt ha hc hp
      rw [depF_fuel ha f g p (by omega) (by omega)]
    · rw [no_pars hc] at hp; simp at hp
/-- The depth of a commit. -/
def depS (xs : List Itm) (d : Int × Int) : Nat := depF xs (xs.length + 1) d
theorem depS_eq {xs : List Itm} (ha : AcyS xs) (d : Int × Int) : depS xs d = ((commitS xs d).1.pars.map fun p => depS xs p + 1).foldl max 0 := by
  rw [show depS xs d = depF xs (xs.length + 1 + 1) d from depF_fuel ha _ _ d (by have := rk_le xs d; omega) (by have := rk_le xs d; omega), depF]
  rfl
theorem foldl_max_le {l : List Nat} : ∀ {a b : Nat}, l.foldl max a ≤ b ↔ a ≤ b ∧ ∀ x ∈ l, x ≤ b := by
  induction l with
  | nil => intro a b; simp
  | cons y l ih => intro a b; rw [List.foldl_cons, ih]; simp only [List.mem_cons, forall_eq_or_imp, Nat.max_le, and_assoc]
theorem dep_par {xs : List Itm} (ha : AcyS xs) {d p : Int × Int} (hp : p ∈ (commitS xs d).1.pars) : depS xs p + 1 ≤ depS xs d := by
  rw [depS_eq ha d]
  exact (foldl_max_le.1 (Nat.le_refl _)).2 _ (List.mem_map.2 ⟨p, hp, rfl⟩)
theorem dep_rk {xs : List Itm} (ha : AcyS xs) : ∀ (f : Nat) (d : Int × Int), rkS xs d ≤ f → depS xs d ≤ rkS xs d
  | f, d, hf => by
    rw [depS_eq ha d, foldl_max_le]
    refine ⟨Nat.zero_le _, fun x hx => ?_⟩
    obtain ⟨p, hp, rfl⟩ := List.mem_map.1 hx
    by_cases hc : (commitS xs d).2 = 0
    · have h1 := rk_lt ha hc hp
      cases f with
      | zero => omega
      | succ f =>
        have := dep_rk ha f p (by omega)
        omega
    · rw [no_pars hc] at hp; simp at hp
end Go.Proofs.YtgdhkcocdmdoaaaGreat
