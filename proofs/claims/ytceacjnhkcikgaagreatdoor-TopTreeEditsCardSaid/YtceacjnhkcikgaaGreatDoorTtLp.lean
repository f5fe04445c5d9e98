/- TopTreeEdits on paper. -/
import Derived.Test.YtceacjnhkcikgaaGreatDoorTtLw
import Derived.Test.YtceacjnhkcikgaaGreatDoorTtVk
namespace Go.Proofs.YtceacjnhkcikgaaGreatDoor
open Go.RowKit
set_option linter.unusedVariables false

/-- What Store, Set, Remove answer. -/
def storeC (p : List Itm) (l : List Fl) : StR := if checkF l ≠ 0 then badR (checkF l) else storeF 101 p l
def setC (p : List Itm) (l : List Fl) (s d : Pa) : StR := if pathB s = false then badR 6 else storeC p (withF l ⟨s, d⟩)
def delC (p : List Itm) (l : List Fl) (s : Pa) : StR := if pathB s = false then badR 6 else if findF l s = none then badR 8 else storeC p (lessF l s)
/-- A list that is stored in a pool. -/
structure InP (P : List Itm) (l : List Fl) : Prop where
  good : GoodF l
  sz : SzF l
  sub : ∀ y ∈ (pureF 101 l).1, y ∈ P
theorem InP.mono {P Q : List Itm} {l : List Fl} (h : InP P l) (hs : ∀ y ∈ P, y ∈ Q) : InP Q l := ⟨h.good, h.sz, fun y hy => hs y (h.sub y hy)⟩
theorem good_path {l : List Fl} (h : GoodF l) {x : Fl} (hx : x ∈ l) : x.path.length ≤ 100 := by
  have := h.path x hx
  unfold pathB at this
  simp only [Bool.and_eq_true, decide_eq_true_eq] at this
  exact this.1
theorem storeC_ok {p q : List Itm} {d : Int × Int} {l : List Fl} (ha : Asc p) (hs : SzF l) (h : storeC p l = (q, d, 0)) : Asc q ∧ d = (pureF 101 l).2 ∧ (∀ y ∈ p, y ∈ q) ∧ InP q l := by
  unfold storeC at h
  by_cases hc : checkF l = 0
  · rw [if_neg (by simpa using hc)] at h
    obtain ⟨g1, g2, g3⟩ := store_pure 101 ha h
    exact ⟨g1, g2, fun y hy => (g3 y).2 (.inl hy), check_ok hc, hs, fun y hy => (g3 y).2 (.inr hy)⟩
  · rw [if_pos hc] at h
    exact absurd (congrArg (fun z => z.2.2) h) hc
theorem storeC_ends {p : List Itm} {l : List Fl} (ha : Asc p) (hs : SzF l) (hc : checkF l = 0) : (storeC p l).2.2 = 0 ∨ (storeC p l).2.2 = 16 := by
  unfold storeC
  rw [if_neg (by simpa using hc)]
  exact (store_ends 101 (by omega) ((check_ok hc).ok (Nat.le_refl _)) hs ha).1
theorem storeC_in {P : List Itm} {l : List Fl} (hP : Asc P) (h : InP P l) : ∃ q, storeC [] l = (q, (pureF 101 l).2, 0) ∧ Asc q ∧ ∀ y ∈ q, y ∈ P := by
  have ho := h.good.ok (Nat.le_refl 101)
  have e := (store_ends 101 (p := []) (by omega) ho h.sz asc_nil).2 P hP (fun y hy => by simp at hy) h.sub
  have hc := ok_check h.good
  have e2 : storeC [] l = storeF 101 [] l := by unfold storeC; rw [if_neg (by simpa using hc)]
  have e3 : storeF 101 [] l = ((storeF 101 [] l).1, (storeF 101 [] l).2.1, 0) := Prod.ext rfl (Prod.ext rfl e)
  obtain ⟨g1, g2, g3⟩ := store_pure 101 (p := []) asc_nil e3
  refine ⟨(storeF 101 [] l).1, by rw [e2, e3, g2], g1, fun y hy => ?_⟩
  rcases (g3 y).1 hy with h1 | h1
  · simp at h1
  · exact h.sub y h1
theorem load_law {P : List Itm} {l : List Fl} (hP : Asc P) (h : InP P l) : ∃ V, Vis P 101 (pureF 101 l).2 [] V ∧ V.Perm l := by
  obtain ⟨V, h1, h2⟩ := visit_law 101 (pre := []) (by omega) (h.good.ok (Nat.le_refl 101)) h.sz hP h.sub (fun x hx => by simpa using good_path h.good hx) (fun _ => rfl)
  refine ⟨V, h1, ?_⟩
  have e : l.map (preF []) = l := by
    rw [List.map_congr_left (g := id) (fun x _ => by unfold preF; simp)]
    simp
  rwa [e] at h2
theorem set_law {p : List Itm} {l : List Fl} {s d : Pa} (hp : Asc p) (hl : AscF l) (hs : SzF (withF l ⟨s, d⟩)) : (setC p l s d).2.2 = 16 ∨ ((setC p l s d).2.2 = 0 ↔ checkF (withF l ⟨s, d⟩) = 0) := by
  unfold setC
  by_cases h : pathB s = false
  · rw [if_pos h]
    exact .inr ⟨fun e => absurd e (by decide), fun e => absurd e (with_bad hl h)⟩
  · rw [if_neg h]
    by_cases hc : checkF (withF l ⟨s, d⟩) = 0
    · rcases storeC_ends hp hs hc with e | e
      · exact .inr ⟨fun _ => hc, fun _ => e⟩
      · exact .inl e
    · unfold storeC
      rw [if_pos hc]
      exact .inr ⟨fun e => absurd e hc, fun e => absurd e hc⟩
theorem del_law {p : List Itm} {l : List Fl} {s : Pa} (hp : Asc p) (hl : GoodF l) (hs : SzF l) : (delC p l s).2.2 = 16 ∨ ((delC p l s).2.2 = 0 ↔ checkF (lessF l s) = 0 ∧ (findF l s).isSome = true) := by
  unfold delC
  by_cases h : pathB s = false
  · rw [if_pos h]
    exact .inr ⟨fun e => absurd e (by decide), fun e => by rw [find_bad hl h] at e; exact absurd e.2 (by decide)⟩
  · rw [if_neg h]
    by_cases hf : findF l s = none
    · rw [if_pos hf]
      exact .inr ⟨fun e => absurd e (by decide), fun e => by rw [hf] at e; exact absurd e.2 (by decide)⟩
    · rw [if_neg hf]
      have hc := ok_check (good_less hl s)
      rcases storeC_ends hp (sz_less hs s) hc with e | e
      · exact .inr ⟨fun _ => ⟨hc, by rw [Option.isSome_iff_ne_none]; exact hf⟩, fun _ => e⟩
      · exact .inl e
theorem setC_ok {p q : List Itm} {e : Int × Int} {l : List Fl} {s d : Pa} (h : setC p l s d = (q, e, 0)) : storeC p (withF l ⟨s, d⟩) = (q, e, 0) := by
  unfold setC at h
  by_cases h1 : pathB s = false
  · rw [if_pos h1] at h
    exact absurd (congrArg (fun z => z.2.2) h) (by show (6 : Int) ≠ 0; decide)
  · rwa [if_neg h1] at h
theorem delC_ok {p q : List Itm} {e : Int × Int} {l : List Fl} {s : Pa} (h : delC p l s = (q, e, 0)) : storeC p (lessF l s) = (q, e, 0) := by
  unfold delC at h
  by_cases h1 : pathB s = false
  · rw [if_pos h1] at h
    exact absurd (congrArg (fun z => z.2.2) h) (by show (6 : Int) ≠ 0; decide)
  · rw [if_neg h1] at h
    by_cases h2 : findF l s = none
    · rw [if_pos h2] at h
      exact absurd (congrArg (fun z => z.2.2) h) (by show (8 : Int) ≠ 0; decide)
    · rwa [if_neg h2] at h
end Go.Proofs.YtceacjnhkcikgaaGreatDoor
