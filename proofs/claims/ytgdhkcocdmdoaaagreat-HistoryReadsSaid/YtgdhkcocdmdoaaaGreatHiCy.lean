/- Histories: the plain law of Cycle. -/
import Derived.Test.YtgdhkcocdmdoaaaGreatHiDp
namespace Go.Proofs.YtgdhkcocdmdoaaaGreat
open Go.RowKit Go.Shelf
set_option linter.unusedVariables false

/-- Following parents: what is open (the next one first), what was met. -/
def folF (xs : List Itm) : Nat → List (Int × Int) → List (Int × Int) → List (Int × Int)
  | 0, _, met => met
  | f + 1, [], met => met
  | f + 1, d :: st, met => if d ∈ met then folF xs f st met else folF xs f ((commitS xs d).1.pars ++ st) (met ++ [d])
theorem mea_go {xs : List Itm} {st met : List (Int × Int)} {d : Int × Int} (hm : d ∉ met) : mea xs ((commitS xs d).1.pars ++ st) (met ++ [d]) + 1 ≤ mea xs (d :: st) met := by
  by_cases h : (commitS xs d).2 = 0
  · exact mea_hit' hm h
  · rw [no_pars h, List.nil_append]
    have h1 := mea_miss xs st met d
    rw [mea_perm xs (st := st) (st' := st) (met := met ++ [d]) (met' := d :: met) rfl (fun x => by simp [or_comm])]
    rw [mea_perm xs (st := d :: st) (st' := st ++ [d]) (met := met) (met' := met) (by simp) (fun _ => Iff.rfl)]
    exact h1
theorem folF_nil (xs : List Itm) (f : Nat) (met : List (Int × Int)) : folF xs f [] met = met := by cases f <;> rfl
theorem folF_fuel (xs : List Itm) : ∀ (f g : Nat) (st met : List (Int × Int)), mea xs st met ≤ f → mea xs st met ≤ g → folF xs f st met = folF xs g st met
  | f, g, [], met, _, _ => by rw [folF_nil, folF_nil]
  | 0, g, d :: st, met, h, _ => by unfold mea at h; simp at h
  | f + 1, 0, d :: st, met, _, h => by unfold mea at h; simp at h
  | f + 1, g + 1, d :: st, met, hf, hg => by
    rw [folF, folF]
    have h1 := mea_pop' xs st met d
    by_cases hd : d ∈ met
    · rw [if_pos hd, if_pos hd]
      exact folF_fuel xs f g st met (by omega) (by omega)
    · rw [if_neg hd, if_neg hd]
      have h2 := mea_go (xs := xs) (st := st) hd
      exact folF_fuel xs f g _ _ (by omega) (by omega)
def folS (xs : List Itm) (st met : List (Int × Int)) : List (Int × Int) := folF xs (mea xs st met) st met
theorem folS_nil (xs : List Itm) (met : List (Int × Int)) : folS xs [] met = met := folF_nil _ _ _
theorem folS_cons (xs : List Itm) (d : Int × Int) (st met : List (Int × Int)) : folS xs (d :: st) met = if d ∈ met then folS xs st met else folS xs ((commitS xs d).1.pars ++ st) (met ++ [d]) := by
  have h1 := mea_pop' xs st met d
  rw [show folS xs (d :: st) met = folF xs (mea xs st met + 1) (d :: st) met by unfold folS; rw [h1], folF]
  by_cases hd : d ∈ met
  · rw [if_pos hd, if_pos hd]; rfl
  · rw [if_neg hd, if_neg hd]
    have h2 := mea_go (xs := xs) (st := st) hd
    exact folF_fuel xs _ _ _ _ (by omega) (Nat.le_refl _)
theorem folS_append (xs : List Itm) : ∀ (f : Nat) (ds st met : List (Int × Int)), mea xs ds met ≤ f → folS xs (ds ++ st) met = folS xs st (folS xs ds met)
  | f, [], st, met, _ => by rw [folS_nil]; rfl
  | 0, d :: ds, st, met, h => by unfold mea at h; simp at h
  | f + 1, d :: ds, st, met, h => by
    have h1 := mea_pop' xs ds met d
    rw [List.cons_append, folS_cons, folS_cons xs d ds met]
    by_cases hd : d ∈ met
    · rw [if_pos hd, if_pos hd]
      exact folS_append xs f ds st met (by omega)
    · rw [if_neg hd, if_neg hd]
      have h2 := mea_go (xs := xs) (st := ds) hd
      rw [← List.append_assoc]
      exact folS_append xs f _ st _ (by omega)
theorem folS_law (xs : List Itm) : ∀ (f : Nat) (st met : List (Int × Int)), mea xs st met ≤ f → (∀ d ∈ met, d ∈ folS xs st met) ∧ (∀ d ∈ st, d ∈ folS xs st met) ∧ (∀ d ∈ folS xs st met, d ∈ met ∨ ∀ p ∈ (commitS xs d).1.pars, p ∈ folS xs st met)
  | f, [], met, _ => by rw [folS_nil]; exact ⟨fun d h => h, by simp, fun d h => .inl h⟩
  | 0, d :: st, met, h => by unfold mea at h; simp at h
  | f + 1, d :: st, met, h => by
    have h1 := mea_pop' xs st met d
    rw [folS_cons]
    by_cases hd : d ∈ met
    · rw [if_pos hd]
      obtain ⟨g1, g2, g3⟩ := folS_law xs f st met (by omega)
      refine ⟨g1, fun x hx => ?_, g3⟩
      rcases List.mem_cons.1 hx with rfl | hx
      · exact g1 x hd
      · exact g2 x hx
    · rw [if_neg hd]
      have h2 := mea_go (xs := xs) (st := st) hd
      obtain ⟨g1, g2, g3⟩ := folS_law xs f ((commitS xs d).1.pars ++ st) (met ++ [d]) (by omega)
      refine ⟨fun x hx => g1 x (by simp [hx]), fun x hx => ?_, fun x hx => ?_⟩
      · rcases List.mem_cons.1 hx with rfl | hx
        · exact g1 x (by simp)
        · exact g2 x (List.mem_append.2 (.inr hx))
      · rcases g3 x hx with h3 | h3
        · rcases List.mem_append.1 h3 with h3 | h3
          · exact .inl h3
          · simp at h3; subst h3; exact .inr (fun p hp => g2 p (List.mem_append.2 (.inl hp)))
        · exact .inr h3
theorem folS_anc {xs : List Itm} {st : List (Int × Int)} {s d : Int × Int} (hs : s ∈ st) (ha : Anc xs s d) : d ∈ folS xs st [] := by
  obtain ⟨g1, g2, g3⟩ := folS_law xs _ st [] (Nat.le_refl _)
  have := g2 s hs
  clear hs
  induction ha with
  | refl => exact this
  | step h1 h2 _ ih =>
    rcases g3 _ this with h3 | h3
    · simp at h3
    · exact ih (h3 _ h2)
/-- Whether some commit is among its own ancestors. -/
def cycS (xs : List Itm) : Bool := xs.any fun x => decide (x.d ∈ folS xs (commitS xs x.d).1.pars [])
theorem acy_of {xs : List Itm} (h : cycS xs = false) : AcyS xs := by
  intro d p hc hp ha
  obtain ⟨x, hx, rfl, _⟩ := getS_good (commit_ok hc).1
  unfold cycS at h
  rw [List.any_eq_false] at h
  exact h x hx (by simpa using folS_anc hp ha)
end Go.Proofs.YtgdhkcocdmdoaaaGreat
