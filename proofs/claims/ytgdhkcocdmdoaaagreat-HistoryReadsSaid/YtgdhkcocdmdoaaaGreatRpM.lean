/- What is reached from some roots: the plain law of both searches. -/
import Derived.Test.YtgdhkcocdmdoaaaGreatRpL
namespace Go.Proofs.YtgdhkcocdmdoaaaGreat
open Go.RowKit Go.Shelf Go.Sort
set_option linter.unusedVariables false

/-- What is reached from some roots: digests other than the zero one. -/
inductive Rch (xs : List Itm) (roots : List (Int × Int)) : Int × Int → Prop
  | root {d : Int × Int} : d ∈ roots → d ≠ (0, 0) → Rch xs roots d
  | link {d l : Int × Int} : Rch xs roots d → (getS xs d).2 = 0 → l ∈ linksS (getS xs d).1 → l ≠ (0, 0) → Rch xs roots l
/-- A search under way: what is open, met, missing. -/
structure Sea (xs : List Itm) (roots op T M : List (Int × Int)) : Prop where
  o : ∀ d ∈ op, d ≠ (0, 0) → Rch xs roots d
  t : ∀ d ∈ T, Rch xs roots d ∧ (getS xs d).2 = 0
  m : ∀ d ∈ M, Rch xs roots d ∧ (getS xs d).2 ≠ 0
  rt : ∀ d ∈ roots, d = (0, 0) ∨ d ∈ T ∨ d ∈ M ∨ d ∈ op
  ln : ∀ d ∈ T, ∀ l ∈ linksS (getS xs d).1, l = (0, 0) ∨ l ∈ T ∨ l ∈ M ∨ l ∈ op
theorem Sea.start (xs : List Itm) (roots : List (Int × Int)) : Sea xs roots roots [] [] :=
  ⟨fun d h1 h2 => .root h1 h2, fun d h => (by simp at h), fun d h => (by simp at h), fun d h => .inr (.inr (.inr h)), fun d h => (by simp at h)⟩
theorem Sea.step {xs : List Itm} {roots op T M op' T' M' : List (Int × Int)} (h : Sea xs roots op T M)
    (hk : ∀ x, x ∈ op ∨ x ∈ T ∨ x ∈ M → x = (0, 0) ∨ x ∈ T' ∨ x ∈ M' ∨ x ∈ op')
    (hT : ∀ x ∈ T', x ∈ T ∨ (x ∈ op ∧ x ≠ (0, 0) ∧ (getS xs x).2 = 0))
    (hM : ∀ x ∈ M', x ∈ M ∨ (x ∈ op ∧ x ≠ (0, 0) ∧ (getS xs x).2 ≠ 0))
    (hO : ∀ x ∈ op', x ∈ op ∨ ∃ t ∈ T', x ∈ linksS (getS xs t).1)
    (hN : ∀ t ∈ T', t ∉ T → ∀ l ∈ linksS (getS xs t).1, l = (0, 0) ∨ l ∈ T' ∨ l ∈ M' ∨ l ∈ op') : Sea xs roots op' T' M' := by
  have ht : ∀ d ∈ T', Rch xs roots d ∧ (getS xs d).2 = 0 := fun d hd => by
    rcases hT d hd with h1 | ⟨h1, h2, h3⟩
    · exact h.t d h1
    · exact ⟨h.o d h1 h2, h3⟩
  refine ⟨fun d hd hz => ?_, ht, fun d hd => ?_, fun d hd => ?_, fun d hd l hl => ?_⟩
  · rcases hO d hd with h1 | ⟨t, h1, h2⟩
    · exact h.o d h1 hz
    · exact .link (ht t h1).1 (ht t h1).2 h2 hz
  · rcases hM d hd with h1 | ⟨h1, h2, h3⟩
    · exact h.m d h1
    · exact ⟨h.o d h1 h2, h3⟩
  · rcases h.rt d hd with h1 | h1 | h1 | h1
    · exact .inl h1
    · exact hk d (.inr (.inl h1))
    · exact hk d (.inr (.inr h1))
    · exact hk d (.inl h1)
  · by_cases hq : d ∈ T
    · rcases h.ln d hq l hl with h1 | h1 | h1 | h1
      · exact .inl h1
      · exact hk l (.inr (.inl h1))
      · exact hk l (.inr (.inr h1))
      · exact hk l (.inl h1)
    · exact hN d hd hq l hl
theorem Sea.done {xs : List Itm} {roots T M : List (Int × Int)} (h : Sea xs roots [] T M) (d : Int × Int) : (d ∈ T ↔ Rch xs roots d ∧ (getS xs d).2 = 0) ∧ (d ∈ M ↔ Rch xs roots d ∧ (getS xs d).2 ≠ 0) := by
  have key : ∀ d, Rch xs roots d → d ∈ T ∨ d ∈ M := by
    intro d hd
    induction hd with
    | root h1 h2 =>
      rcases h.rt _ h1 with h3 | h3 | h3 | h3
      · exact absurd h3 h2
      · exact .inl h3
      · exact .inr h3
      · simp at h3
    | link h1 h2 h3 h4 ih =>
      rcases ih with ih | ih
      · rcases h.ln _ ih _ h3 with h5 | h5 | h5 | h5
        · exact absurd h5 h4
        · exact .inl h5
        · exact .inr h5
        · simp at h5
      · exact absurd h2 (h.m _ ih).2
  refine ⟨⟨h.t d, fun hd => ?_⟩, ⟨h.m d, fun hd => ?_⟩⟩
  · rcases key d hd.1 with h1 | h1
    · exact h1
    · exact absurd hd.2 (h.m d h1).2
  · rcases key d hd.1 with h1 | h1
    · exact absurd (h.t d h1).2 hd.2
    · exact h1
theorem nodup_snoc {R : List (Int × Int)} {d : Int × Int} (h : R.Nodup) (hd : d ∉ R) : (R ++ [d]).Nodup := by
  rw [List.nodup_append]
  refine ⟨h, by simp, fun a ha b hb e => ?_⟩
  simp at hb
  exact hd (by rw [← hb, ← e]; exact ha)
theorem reachF_sea (xs : List Itm) (roots : List (Int × Int)) : ∀ (f : Nat) (op met R M : List (Int × Int)), Sea xs roots op R M → (∀ d, d ∈ met ↔ d = (0, 0) ∨ d ∈ R ∨ d ∈ M) → R.Nodup → M.Nodup → mea xs op met ≤ f →
    Sea xs roots [] (reachF xs f op met R M).1 (reachF xs f op met R M).2 ∧ (reachF xs f op met R M).1.Nodup ∧ (reachF xs f op met R M).2.Nodup
  | 0, op, met, R, M, h, hm, h1, h2, hf => by
    have : op = [] := by unfold mea at hf; exact List.eq_nil_of_length_eq_zero (by omega)
    subst this
    exact ⟨h, h1, h2⟩
  | f + 1, op, met, R, M, h, hm, h1, h2, hf => by
    rcases List.eq_nil_or_concat op with rfl | ⟨l, d, rfl⟩
    · rw [reachF_nil]; exact ⟨h, h1, h2⟩
    · rw [List.concat_eq_append] at h hf ⊢
      have hin : ∀ x, x ∈ l ++ [d] ↔ x ∈ l ∨ x = d := fun x => by simp
      by_cases hd : d ∈ met
      · rw [reachF_met hd]
        refine reachF_sea xs roots f l met R M (h.step ?_ (fun x hx => .inl hx) (fun x hx => .inl hx) (fun x hx => .inl ((hin x).2 (.inl hx))) (fun t h1 h2 => absurd h1 h2)) hm h1 h2 (by have := mea_pop xs l met d; omega)
        intro x hx
        rcases hx with hx | hx | hx
        · rcases (hin x).1 hx with hx | rfl
          · exact .inr (.inr (.inr hx))
          · rcases (hm x).1 hd with h3 | h3 | h3
            · exact .inl h3
            · exact .inr (.inl h3)
            · exact .inr (.inr (.inl h3))
        · exact .inr (.inl hx)
        · exact .inr (.inr (.inl hx))
      · have hz : d ≠ (0, 0) := fun e => hd ((hm d).2 (.inl e))
        have hR : d ∉ R := fun e => hd ((hm d).2 (.inr (.inl e)))
        have hM : d ∉ M := fun e => hd ((hm d).2 (.inr (.inr e)))
        by_cases he : (getS xs d).2 = 0
        · rw [reachF_hit hd he]
          have hfl : ((linksS (getS xs d).1).filter fun l => !decide (l ∈ d :: met)).length ≤ 200 := Nat.le_trans (List.length_filter_le _ _) (links_le _)
          refine reachF_sea xs roots f _ (d :: met) (R ++ [d]) M (h.step ?_ ?_ (fun x hx => .inl hx) ?_ ?_) (fun x => ?_) (nodup_snoc h1 hR) h2 (by have := mea_hit (op := l) hd he hfl; omega)
          · intro x hx
            rcases hx with hx | hx | hx
            · rcases (hin x).1 hx with hx | rfl
              · exact .inr (.inr (.inr (by simp [hx])))
              · exact .inr (.inl (by simp))
            · exact .inr (.inl (by simp [hx]))
            · exact .inr (.inr (.inl hx))
          · intro x hx
            rcases List.mem_append.1 hx with hx | hx
            · exact .inl hx
            · simp at hx; subst hx; exact .inr ⟨(hin x).2 (.inr rfl), hz, he⟩
          · intro x hx
            rcases List.mem_append.1 hx with hx | hx
            · exact .inl ((hin x).2 (.inl hx))
            · exact .inr ⟨d, by simp, (List.mem_filter.1 hx).1⟩
          · intro t ht htR l2 hl
            have : t = d := by
              rcases List.mem_append.1 ht with h3 | h3
              · exact absurd h3 htR
              · simpa using h3
            subst this
            by_cases h4 : l2 ∈ t :: met
            · rcases List.mem_cons.1 h4 with rfl | h5
              · exact .inr (.inl (by simp))
              · rcases (hm l2).1 h5 with h6 | h6 | h6
                · exact .inl h6
                · exact .inr (.inl (by simp [h6]))
                · exact .inr (.inr (.inl h6))
            · refine .inr (.inr (.inr (List.mem_append.2 (.inr (List.mem_filter.2 ⟨hl, ?_⟩)))))
              rw [decide_eq_false h4]; rfl
          · rw [List.mem_cons, hm x, List.mem_append, List.mem_singleton]
            constructor
            · rintro (h3 | h3 | h3 | h3)
              · exact .inr (.inl (.inr h3))
              · exact .inl h3
              · exact .inr (.inl (.inl h3))
              · exact .inr (.inr h3)
            · rintro (h3 | (h3 | h3) | h3)
              · exact .inr (.inl h3)
              · exact .inr (.inr (.inl h3))
              · exact .inl h3
              · exact .inr (.inr (.inr h3))
        · rw [reachF_miss hd he]
          refine reachF_sea xs roots f l (d :: met) R (M ++ [d]) (h.step ?_ (fun x hx => .inl hx) ?_ (fun x hx => .inl ((hin x).2 (.inl hx))) (fun t h1 h2 => absurd h1 h2)) (fun x => ?_) h1 (nodup_snoc h2 hM) (by have := mea_miss xs l met d; omega)
          · intro x hx
            rcases hx with hx | hx | hx
            · rcases (hin x).1 hx with hx | rfl
              · exact .inr (.inr (.inr hx))
              · exact .inr (.inr (.inl (by simp)))
            · exact .inr (.inl hx)
            · exact .inr (.inr (.inl (by simp [hx])))
          · intro x hx
            rcases List.mem_append.1 hx with hx | hx
            · exact .inl hx
            · simp at hx; subst hx; exact .inr ⟨(hin x).2 (.inr rfl), hz, he⟩
          · rw [List.mem_cons, hm x, List.mem_append, List.mem_singleton]
            constructor
            · rintro (h3 | h3 | h3 | h3)
              · exact .inr (.inr (.inr h3))
              · exact .inl h3
              · exact .inr (.inl h3)
              · exact .inr (.inr (.inl h3))
            · rintro (h3 | h3 | h3 | h3)
              · exact .inr (.inl h3)
              · exact .inr (.inr (.inl h3))
              · exact .inr (.inr (.inr h3))
              · exact .inl h3
/-- Digests in strictly ascending order. -/
def AscD (l : List (Int × Int)) : Prop := l.Pairwise fun x y => cmpD x y < 0
theorem ascD_ext : ∀ {xs ys : List (Int × Int)}, AscD xs → AscD ys → (∀ x, x ∈ xs ↔ x ∈ ys) → xs = ys
  | [], [], _, _, _ => rfl
  | [], y :: ys, _, _, hm => by have := (hm y).2 (by simp); simp at this
  | x :: xs, [], _, _, hm => by have := (hm x).1 (by simp); simp at this
  | x :: xs, y :: ys, h1, h2, hm => by
    unfold AscD at h1 h2
    rw [List.pairwise_cons] at h1 h2
    have e : x = y := by
      rcases List.mem_cons.1 ((hm x).1 (by simp)) with h | h
      · exact h
      · rcases List.mem_cons.1 ((hm y).2 (by simp)) with h' | h'
        · exact h'.symm
        · have g1 := h1.1 y h'
          have g2 := h2.1 x h
          have := cmpD_anti (a := x) (b := y)
          omega
    subst e
    congr 1
    refine ascD_ext h1.2 h2.2 fun z => ⟨fun hz => ?_, fun hz => ?_⟩
    · rcases List.mem_cons.1 ((hm z).1 (by simp [hz])) with rfl | h
      · have := h1.1 z hz; rw [cmpD_self] at this; omega
      · exact h
    · rcases List.mem_cons.1 ((hm z).2 (by simp [hz])) with rfl | h
      · have := h2.1 z hz; rw [cmpD_self] at this; omega
      · exact h
theorem sortS_asc {l : List (Int × Int)} (h : l.Nodup) : AscD (sortS l) := by
  have h1 : (sortS l).Pairwise (fun x y => (!(ltOf cmpD) y x) = true) := by
    unfold sortS
    refine List.pairwise_mergeSort (fun a b c h1 h2 => ?_) (fun a b => ?_) l
    · simp only [Bool.not_eq_true'] at h1 h2 ⊢
      exact swoD.ntrans c b a h2 h1
    · unfold ltOf
      have g1 := cmpD_range a b
      have g2 := cmpD_range b a
      by_cases g : cmpD b a < 0
      · have : ¬ cmpD a b < 0 := by omega
        simp [g, this]
      · simp [g]
  have h2 : (sortS l).Nodup := (sortS_perm l).nodup_iff.2 h
  refine (h1.and h2).imp ?_
  rintro x y ⟨h3, h4⟩
  unfold ltOf at h3
  simp only [Bool.not_eq_true', decide_eq_false_iff_not] at h3
  have g1 := cmpD_range x y
  have g2 := cmpD_range y x
  have : ¬ cmpD x y = 0 := fun e => h4 (cmpD_zero.1 e)
  omega
/-- What the program's search hands back. -/
theorem reachS_law (xs : List Itm) (roots : List (Int × Int)) : AscD (reachS xs roots).1 ∧ AscD (reachS xs roots).2 ∧ ∀ d, (d ∈ (reachS xs roots).1 ↔ Rch xs roots d ∧ (getS xs d).2 = 0) ∧ (d ∈ (reachS xs roots).2 ↔ Rch xs roots d ∧ (getS xs d).2 ≠ 0) := by
  obtain ⟨h1, h2, h3⟩ := reachF_sea xs roots (fuelR xs roots) roots [(0, 0)] [] [] (Sea.start xs roots) (fun d => by simp) (by simp) (by simp) (mea_start xs roots)
  unfold reachS
  refine ⟨sortS_asc h2, sortS_asc h3, fun d => ?_⟩
  simp only
  rw [(sortS_perm _).mem_iff, (sortS_perm _).mem_iff]
  exact h1.done d
theorem posD_cons (y : Int × Int) (l : List (Int × Int)) (d : Int × Int) : posD (y :: l) d = if cmpD y d < 0 then posD l d + 1 else 0 := by
  unfold posD
  by_cases h : cmpD y d < 0 <;> simp [h]
theorem withS_cons (y : Int × Int) (l : List (Int × Int)) (d : Int × Int) : withS (y :: l) d = if cmpD y d < 0 then y :: withS l d else if y = d then y :: l else d :: y :: l := by
  unfold withS
  rw [posD_cons]
  by_cases h : cmpD y d < 0
  · rw [if_pos h, if_pos h]
    simp only [List.getElem?_cons_succ, List.take_succ_cons, List.drop_succ_cons]
    split <;> rfl
  · rw [if_neg h, if_neg h]
    simp
theorem withS_mem : ∀ (l : List (Int × Int)) (d x : Int × Int), x ∈ withS l d ↔ x ∈ l ∨ x = d
  | [], d, x => by simp [withS, posD]
  | y :: l, d, x => by
    rw [withS_cons]
    by_cases h : cmpD y d < 0
    · rw [if_pos h, List.mem_cons, withS_mem l d x, List.mem_cons, or_assoc]
    · rw [if_neg h]
      by_cases h2 : y = d
      · rw [if_pos h2]
        refine ⟨.inl, fun h3 => ?_⟩
        rcases h3 with h3 | h3
        · exact h3
        · rw [h3, ← h2]; simp
      · rw [if_neg h2, List.mem_cons]
        exact or_comm
theorem withS_asc : ∀ {l : List (Int × Int)} (d : Int × Int), AscD l → AscD (withS l d)
  | [], d, _ => by simp [withS, posD, AscD]
  | y :: l, d, h => by
    rw [withS_cons]
    have h' := h
    unfold AscD at h
    rw [List.pairwise_cons] at h
    by_cases hc : cmpD y d < 0
    · rw [if_pos hc]
      refine List.pairwise_cons.2 ⟨fun z hz => ?_, withS_asc d h.2⟩
      rcases (withS_mem l d z).1 hz with h1 | rfl
      · exact h.1 z h1
      · exact hc
    · rw [if_neg hc]
      by_cases h2 : y = d
      · rw [if_pos h2]; exact h'
      · rw [if_neg h2]
        have hd : cmpD d y < 0 := by
          have g0 : ¬ cmpD y d = 0 := fun e => h2 (cmpD_zero.1 e)
          have := cmpD_anti (a := d) (b := y)
          omega
        refine List.pairwise_cons.2 ⟨fun z hz => ?_, h'⟩
        rcases List.mem_cons.1 hz with rfl | h1
        · exact hd
        · exact cmpD_trans hd (h.1 z h1)
/-- The reference's search. -/
def refF (xs : List Itm) : Nat → List (Int × Int) → List (Int × Int) → List (Int × Int) → List (Int × Int) × List (Int × Int)
  | 0, _, T, M => (T, M)
  | f + 1, [], T, M => (T, M)
  | f + 1, d :: ws, T, M => if d = (0, 0) ∨ d ∈ T then refF xs f ws T M else if (getS xs d).2 ≠ 0 then refF xs f ws T (withS M d) else refF xs f (ws ++ linksS (getS xs d).1) (withS T d) M
theorem mea_cons (xs : List Itm) (ws T : List (Int × Int)) (d : Int × Int) : mea xs (d :: ws) T = mea xs (ws ++ [d]) T := by
  unfold mea; simp
theorem mea_with (xs : List Itm) (ws T : List (Int × Int)) (d : Int × Int) : mea xs ws (withS T d) = mea xs ws (d :: T) := by
  unfold mea
  congr 3
  funext x
  congr 1
  rw [decide_eq_decide, withS_mem, List.mem_cons]
  exact or_comm
theorem refF_sea (xs : List Itm) (roots : List (Int × Int)) : ∀ (f : Nat) (ws T M : List (Int × Int)), Sea xs roots ws T M → AscD T → AscD M → mea xs ws T ≤ f →
    Sea xs roots [] (refF xs f ws T M).1 (refF xs f ws T M).2 ∧ AscD (refF xs f ws T M).1 ∧ AscD (refF xs f ws T M).2
  | 0, ws, T, M, h, h1, h2, hf => by
    have : ws = [] := by unfold mea at hf; exact List.eq_nil_of_length_eq_zero (by omega)
    subst this
    exact ⟨h, h1, h2⟩
  | f + 1, [], T, M, h, h1, h2, hf => by rw [refF]; exact ⟨h, h1, h2⟩
  | f + 1, d :: ws, T, M, h, h1, h2, hf => by
    rw [refF]
    rw [mea_cons] at hf
    by_cases hd : d = (0, 0) ∨ d ∈ T
    · rw [if_pos hd]
      refine refF_sea xs roots f ws T M (h.step ?_ (fun x hx => .inl hx) (fun x hx => .inl hx) (fun x hx => .inl (by simp [hx])) (fun t h1 h2 => absurd h1 h2)) h1 h2 (by have := mea_pop xs ws T d; omega)
      intro x hx
      rcases hx with hx | hx | hx
      · rcases List.mem_cons.1 hx with rfl | hx
        · rcases hd with h3 | h3
          · exact .inl h3
          · exact .inr (.inl h3)
        · exact .inr (.inr (.inr hx))
      · exact .inr (.inl hx)
      · exact .inr (.inr (.inl hx))
    · rw [if_neg hd]
      have hz : d ≠ (0, 0) := fun e => hd (.inl e)
      have hT : d ∉ T := fun e => hd (.inr e)
      by_cases he : (getS xs d).2 = 0
      · rw [if_neg (by simpa using he)]
        refine refF_sea xs roots f _ (withS T d) M (h.step ?_ ?_ (fun x hx => .inl hx) ?_ ?_) (withS_asc d h1) h2 (by have := mea_hit (op := ws) hT he (links_le (getS xs d).1); rw [mea_with]; omega)
        · intro x hx
          rcases hx with hx | hx | hx
          · rcases List.mem_cons.1 hx with rfl | hx
            · exact .inr (.inl ((withS_mem _ _ _).2 (.inr rfl)))
            · exact .inr (.inr (.inr (by simp [hx])))
          · exact .inr (.inl ((withS_mem _ _ _).2 (.inl hx)))
          · exact .inr (.inr (.inl hx))
        · intro x hx
          rcases (withS_mem _ _ _).1 hx with hx | rfl
          · exact .inl hx
          · exact .inr ⟨by simp, hz, he⟩
        · intro x hx
          rcases List.mem_append.1 hx with hx | hx
          · exact .inl (by simp [hx])
          · exact .inr ⟨d, (withS_mem _ _ _).2 (.inr rfl), hx⟩
        · intro t ht htT l2 hl
          rcases (withS_mem _ _ _).1 ht with h3 | rfl
          · exact absurd h3 htT
          · exact .inr (.inr (.inr (List.mem_append.2 (.inr hl))))
      · rw [if_pos he]
        refine refF_sea xs roots f ws T (withS M d) (h.step ?_ (fun x hx => .inl hx) ?_ (fun x hx => .inl (by simp [hx])) (fun t h1 h2 => absurd h1 h2)) h1 (withS_asc d h2) (by have := mea_pop xs ws T d; omega)
        · intro x hx
          rcases hx with hx | hx | hx
          · rcases List.mem_cons.1 hx with rfl | hx
            · exact .inr (.inr (.inl ((withS_mem _ _ _).2 (.inr rfl))))
            · exact .inr (.inr (.inr hx))
          · exact .inr (.inl hx)
          · exact .inr (.inr (.inl ((withS_mem _ _ _).2 (.inl hx))))
        · intro x hx
          rcases (withS_mem _ _ _).1 hx with hx | rfl
          · exact .inl hx
          · exact .inr ⟨by simp, hz, he⟩
theorem mea_nil (xs : List Itm) (roots : List (Int × Int)) : mea xs roots [] ≤ fuelR xs roots := by
  have : xs.countP (fun x => !decide (x.d ∈ ([] : List (Int × Int)))) ≤ xs.length := List.countP_le_length
  unfold mea fuelR
  omega
/-- Both searches find the same. -/
theorem refF_eq (xs : List Itm) (roots : List (Int × Int)) : refF xs (fuelR xs roots) roots [] [] = reachS xs roots := by
  obtain ⟨h1, h2, h3⟩ := refF_sea xs roots (fuelR xs roots) roots [] [] (Sea.start xs roots) (List.Pairwise.nil) (List.Pairwise.nil) (mea_nil xs roots)
  obtain ⟨g1, g2, g3⟩ := reachS_law xs roots
  refine Prod.ext (ascD_ext h2 g1 fun d => ?_) (ascD_ext h3 g2 fun d => ?_)
  · rw [(h1.done d).1, (g3 d).1]
  · rw [(h1.done d).2, (g3 d).2]
end Go.Proofs.YtgdhkcocdmdoaaaGreat
