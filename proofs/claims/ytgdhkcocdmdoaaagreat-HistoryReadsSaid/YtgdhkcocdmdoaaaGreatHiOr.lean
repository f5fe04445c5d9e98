/- Histories: the order of commits. -/
import Derived.Test.YtgdhkcocdmdoaaaGreatHiCy
namespace Go.Proofs.YtgdhkcocdmdoaaaGreat
open Go.RowKit Go.Shelf Go.Sort
set_option linter.unusedVariables false

/-- Deeper commits first; of one depth, in ascending order. -/
def cmpH (dep : Int × Int → Nat) (a b : Int × Int) : Int := if dep b < dep a then -1 else if dep a < dep b then 1 else cmpD a b
theorem cmpH_lt {dep : Int × Int → Nat} {a b : Int × Int} : cmpH dep a b < 0 ↔ dep b < dep a ∨ (dep a = dep b ∧ cmpD a b < 0) := by
  unfold cmpH
  split
  · omega
  · split <;> omega
theorem swoH (dep : Int × Int → Nat) : SWO (ltOf (cmpH dep)) where
  irrefl x := by
    unfold ltOf
    rw [decide_eq_false_iff_not, cmpH_lt, cmpD_self]
    omega
  trans x y z h1 h2 := by
    unfold ltOf at *
    simp only [decide_eq_true_eq, cmpH_lt] at *
    rcases h1 with h1 | ⟨h1, g1⟩
    · rcases h2 with h2 | ⟨h2, g2⟩ <;> omega
    · rcases h2 with h2 | ⟨h2, g2⟩
      · omega
      · exact .inr ⟨by omega, cmpD_trans g1 g2⟩
  ntrans x y z h1 h2 := by
    unfold ltOf at *
    simp only [decide_eq_false_iff_not, cmpH_lt] at *
    have g1 := cmpD_range x y
    have g2 := cmpD_range y z
    have g3 := cmpD_range x z
    omega
def AscH (dep : Int × Int → Nat) (l : List (Int × Int)) : Prop := l.Pairwise fun x y => cmpH dep x y < 0
theorem pairwise_ext {R : Int × Int → Int × Int → Prop} (ha : ∀ a b, R a b → ¬ R b a) : ∀ {xs ys : List (Int × Int)}, xs.Pairwise R → ys.Pairwise R → (∀ x, x ∈ xs ↔ x ∈ ys) → xs = ys
  | [], [], _, _, _ => rfl
  | [], y :: ys, _, _, hm => by have := (hm y).2 (by simp); simp at this
  | x :: xs, [], _, _, hm => by have := (hm x).1 (by simp); simp at this
  | x :: xs, y :: ys, h1, h2, hm => by
    rw [List.pairwise_cons] at h1 h2
    have e : x = y := by
      rcases List.mem_cons.1 ((hm x).1 (by simp)) with h | h
      · exact h
      · rcases List.mem_cons.1 ((hm y).2 (by simp)) with h' | h'
        · exact h'.symm
        · exact absurd (h2.1 x h) (ha _ _ (h1.1 y h'))
    subst e
    congr 1
    refine pairwise_ext ha h1.2 h2.2 fun z => ⟨fun hz => ?_, fun hz => ?_⟩
    · rcases List.mem_cons.1 ((hm z).1 (by simp [hz])) with rfl | h
      · exact absurd (h1.1 z hz) (ha _ _ (h1.1 z hz))
      · exact h
    · rcases List.mem_cons.1 ((hm z).2 (by simp [hz])) with rfl | h
      · exact absurd (h2.1 z hz) (ha _ _ (h2.1 z hz))
      · exact h
theorem cmpH_asymm (dep : Int × Int → Nat) (a b : Int × Int) (h : cmpH dep a b < 0) : ¬ cmpH dep b a < 0 := by
  rw [cmpH_lt] at h ⊢
  have := cmpD_anti (a := a) (b := b)
  omega
theorem ascH_ext {dep : Int × Int → Nat} {xs ys : List (Int × Int)} (h1 : AscH dep xs) (h2 : AscH dep ys) (hm : ∀ x, x ∈ xs ↔ x ∈ ys) : xs = ys := pairwise_ext (cmpH_asymm dep) h1 h2 hm
/-- Commits in their order. -/
def sortH (dep : Int × Int → Nat) (l : List (Int × Int)) : List (Int × Int) := l.mergeSort fun x y => !(ltOf (cmpH dep)) y x
theorem sortH_perm (dep : Int × Int → Nat) (l : List (Int × Int)) : (sortH dep l).Perm l := List.mergeSort_perm _ _
theorem sortH_asc {dep : Int × Int → Nat} {l : List (Int × Int)} (h : l.Nodup) : AscH dep (sortH dep l) := by
  have h1 : (sortH dep l).Pairwise (fun x y => (!(ltOf (cmpH dep)) y x) = true) := by
    unfold sortH
    refine List.pairwise_mergeSort (fun a b c h1 h2 => ?_) (fun a b => ?_) l
    · simp only [Bool.not_eq_true'] at h1 h2 ⊢
      exact (swoH dep).ntrans c b a h2 h1
    · unfold ltOf
      by_cases g : cmpH dep b a < 0
      · have := cmpH_asymm dep b a g
        simp [g, this]
      · simp [g]
  have h2 : (sortH dep l).Nodup := (sortH_perm dep l).nodup_iff.2 h
  refine (h1.and h2).imp ?_
  rintro x y ⟨h3, h4⟩
  unfold ltOf at h3
  simp only [Bool.not_eq_true', decide_eq_false_iff_not] at h3
  rw [cmpH_lt] at h3 ⊢
  have g1 := cmpD_range x y
  have g2 := cmpD_range y x
  have : ¬ cmpD x y = 0 := fun e => h4 (cmpD_zero.1 e)
  omega
/-- The reference's way: depth by depth. -/
def layerS (dep : Int × Int → Nat) (l : List (Int × Int)) (k : Nat) : List (Int × Int) := (l.filter fun d => decide (dep d = k)).foldl withS []
def layersS (dep : Int × Int → Nat) (l : List (Int × Int)) : Nat → List (Int × Int)
  | 0 => []
  | k + 1 => layerS dep l k ++ layersS dep l k
theorem foldl_with : ∀ (l acc : List (Int × Int)), AscD acc → AscD (l.foldl withS acc) ∧ ∀ x, x ∈ l.foldl withS acc ↔ x ∈ acc ∨ x ∈ l
  | [], acc, h => ⟨h, fun x => by simp⟩
  | d :: l, acc, h => by
    obtain ⟨h1, h2⟩ := foldl_with l (withS acc d) (withS_asc d h)
    refine ⟨h1, fun x => ?_⟩
    rw [List.foldl_cons, h2 x, withS_mem, List.mem_cons, or_assoc]
theorem layerS_law (dep : Int × Int → Nat) (l : List (Int × Int)) (k : Nat) : AscD (layerS dep l k) ∧ ∀ x, x ∈ layerS dep l k ↔ x ∈ l ∧ dep x = k := by
  obtain ⟨h1, h2⟩ := foldl_with (l.filter fun d => decide (dep d = k)) [] List.Pairwise.nil
  refine ⟨h1, fun x => ?_⟩
  unfold layerS
  rw [h2 x, List.mem_filter]
  simp
theorem layersS_law (dep : Int × Int → Nat) (l : List (Int × Int)) : ∀ n, AscH dep (layersS dep l n) ∧ ∀ x, x ∈ layersS dep l n ↔ x ∈ l ∧ dep x < n
  | 0 => ⟨List.Pairwise.nil, fun x => by simp [layersS]⟩
  | n + 1 => by
    obtain ⟨h1, h2⟩ := layersS_law dep l n
    obtain ⟨g1, g2⟩ := layerS_law dep l n
    refine ⟨?_, fun x => ?_⟩
    · rw [layersS]
      refine List.pairwise_append.2 ⟨?_, h1, fun a ha b hb => ?_⟩
      · refine List.Pairwise.imp_of_mem (fun ha hb hc => ?_) g1
        rw [cmpH_lt]
        exact .inr ⟨by rw [((g2 _).1 ha).2, ((g2 _).1 hb).2], hc⟩
      · rw [cmpH_lt]
        have e1 := ((g2 a).1 ha).2
        have e2 := ((h2 b).1 hb).2
        exact .inl (by omega)
    · rw [layersS, List.mem_append, g2 x, h2 x]
      constructor
      · rintro (⟨e1, e2⟩ | ⟨e1, e2⟩)
        · exact ⟨e1, by omega⟩
        · exact ⟨e1, by omega⟩
      · rintro ⟨e1, e2⟩
        rcases Nat.lt_or_ge (dep x) n with e3 | e3
        · exact .inr ⟨e1, e3⟩
        · exact .inl ⟨e1, by omega⟩
/-- Both ways are the same. -/
theorem layers_sort {dep : Int × Int → Nat} {l : List (Int × Int)} (h : l.Nodup) {n : Nat} (hn : ∀ x ∈ l, dep x < n) : layersS dep l n = sortH dep l := by
  obtain ⟨h1, h2⟩ := layersS_law dep l n
  refine ascH_ext h1 (sortH_asc h) fun x => ?_
  rw [h2 x, (sortH_perm dep l).mem_iff]
  exact ⟨fun e => e.1, fun e => ⟨e, hn x e⟩⟩
end Go.Proofs.YtgdhkcocdmdoaaaGreat
