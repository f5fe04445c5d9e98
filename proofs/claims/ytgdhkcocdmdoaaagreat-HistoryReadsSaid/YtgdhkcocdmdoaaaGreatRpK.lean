/- The union of pools: the plain law. -/
import Derived.Test.YtgdhkcocdmdoaaaGreatRpJ
namespace Go.Proofs.YtgdhkcocdmdoaaaGreat
open Go.RowKit Go.Shelf
set_option linter.unusedVariables false

theorem asc_cons {x : Itm} {xs : List Itm} : Asc (x :: xs) ↔ Asc xs ∧ ∀ y ∈ xs, cmpD x.d y.d < 0 := by
  constructor
  · intro h
    refine ⟨fun i j hi hj hij => ?_, fun y hy => ?_⟩
    · have := h (i + 1) (j + 1) (by simp; omega) (by simp; omega) (by omega)
      simpa using this
    · obtain ⟨j, hj, rfl⟩ := List.getElem_of_mem hy
      have := h 0 (j + 1) (by simp) (by simp; omega) (by omega)
      simpa using this
  · rintro ⟨h1, h2⟩ i j hi hj hij
    cases i with
    | zero =>
      cases j with
      | zero => omega
      | succ j => simp only [List.getElem_cons_zero, List.getElem_cons_succ]; exact h2 _ (List.getElem_mem _)
    | succ i =>
      cases j with
      | zero => omega
      | succ j => simp only [List.getElem_cons_succ]; exact h1 i j (by simp at hi; omega) (by simp at hj; omega) (by omega)
theorem asc_same {xs : List Itm} (h : Asc xs) {x y : Itm} (hx : x ∈ xs) (hy : y ∈ xs) (hd : x.d = y.d) : x = y := by
  obtain ⟨i, hi, rfl⟩ := List.getElem_of_mem hx
  obtain ⟨j, hj, rfl⟩ := List.getElem_of_mem hy
  rcases Nat.lt_trichotomy i j with h1 | h1 | h1
  · have := h i j hi hj h1; rw [hd, cmpD_self] at this; omega
  · subst h1; rfl
  · have := h j i hj hi h1; rw [hd, cmpD_self] at this; omega
def Clash (xs ys : List Itm) : Prop := ∃ z y, (z ∈ xs ∨ z ∈ ys) ∧ (y ∈ xs ∨ y ∈ ys) ∧ z.d = y.d ∧ z ≠ y
theorem Clash.symm {xs ys : List Itm} (h : Clash xs ys) : Clash ys xs := by
  obtain ⟨z, y, h1, h2, h3⟩ := h
  exact ⟨z, y, h1.symm, h2.symm, h3⟩
structure UniOk (xs ys zs : List Itm) : Prop where
  asc : Asc zs
  mem : ∀ z, z ∈ zs ↔ z ∈ xs ∨ z ∈ ys
theorem UniOk.no {xs ys zs : List Itm} (h : UniOk xs ys zs) (hc : Clash xs ys) : False := by
  obtain ⟨z, y, h1, h2, h3, h4⟩ := hc
  exact h4 (asc_same h.asc ((h.mem z).2 h1) ((h.mem y).2 h2) h3)
theorem uniF_law : ∀ (f : Nat) (xs ys : List Itm), xs.length + ys.length ≤ f → Asc xs → Asc ys → (uniF f xs ys = none ∧ Clash xs ys) ∨ ∃ zs, uniF f xs ys = some zs ∧ UniOk xs ys zs
  | 0, xs, ys, hl, _, _ => by
    have h1 : xs = [] := List.eq_nil_of_length_eq_zero (by omega)
    have h2 : ys = [] := List.eq_nil_of_length_eq_zero (by omega)
    subst h1 h2
    exact .inr ⟨[], rfl, fun i j hi => by simp at hi, by simp⟩
  | f + 1, [], [], _, _, _ => .inr ⟨[], rfl, fun i j hi => by simp at hi, by simp⟩
  | f + 1, [], y :: ys, hl, hx, hy => by
    obtain ⟨hy1, hy2⟩ := asc_cons.1 hy
    rcases uniF_law f [] ys (by simp at hl ⊢; omega) hx hy1 with ⟨h1, h2⟩ | ⟨zs, h1, h2⟩
    · left
      refine ⟨by rw [uniF, h1]; rfl, ?_⟩
      obtain ⟨a, b, ha, hb, hc⟩ := h2
      exact ⟨a, b, by simp at ha ⊢; exact .inr ha, by simp at hb ⊢; exact .inr hb, hc⟩
    · right
      refine ⟨y :: zs, by rw [uniF, h1]; rfl, asc_cons.2 ⟨h2.asc, fun z hz => ?_⟩, fun z => ?_⟩
      · have := (h2.mem z).1 hz
        simp at this
        exact hy2 z this
      · have := h2.mem z
        simp at this ⊢
        rw [this]
  | f + 1, x :: xs, [], hl, hx, hy => by
    obtain ⟨hx1, hx2⟩ := asc_cons.1 hx
    rcases uniF_law f xs [] (by simp at hl ⊢; omega) hx1 hy with ⟨h1, h2⟩ | ⟨zs, h1, h2⟩
    · left
      refine ⟨by rw [uniF, h1]; rfl, ?_⟩
      obtain ⟨a, b, ha, hb, hc⟩ := h2
      exact ⟨a, b, by simp at ha ⊢; exact .inr ha, by simp at hb ⊢; exact .inr hb, hc⟩
    · right
      refine ⟨x :: zs, by rw [uniF, h1]; rfl, asc_cons.2 ⟨h2.asc, fun z hz => ?_⟩, fun z => ?_⟩
      · have := (h2.mem z).1 hz
        simp at this
        exact hx2 z this
      · have := h2.mem z
        simp at this ⊢
        rw [this]
  | f + 1, x :: xs, y :: ys, hl, hx, hy => by
    obtain ⟨hx1, hx2⟩ := asc_cons.1 hx
    obtain ⟨hy1, hy2⟩ := asc_cons.1 hy
    rw [uniF]
    by_cases hc : cmpD x.d y.d = 0
    · rw [if_pos hc]
      have hd : x.d = y.d := cmpD_zero.1 hc
      by_cases hdt : x.data = y.data
      · rw [if_pos hdt]
        have hxy : x = y := by cases x; cases y; simp only at hd hdt; subst hd hdt; rfl
        subst hxy
        rcases uniF_law f xs ys (by simp at hl; omega) hx1 hy1 with ⟨h1, h2⟩ | ⟨zs, h1, h2⟩
        · left
          refine ⟨by rw [h1]; rfl, ?_⟩
          obtain ⟨a, b, ha, hb, hcc⟩ := h2
          exact ⟨a, b, by rcases ha with h | h <;> simp [h], by rcases hb with h | h <;> simp [h], hcc⟩
        · right
          refine ⟨x :: zs, by rw [h1]; rfl, asc_cons.2 ⟨h2.asc, fun z hz => ?_⟩, fun z => ?_⟩
          · rcases (h2.mem z).1 hz with h | h
            · exact hx2 z h
            · exact hy2 z h
          · have := h2.mem z
            simp only [List.mem_cons, this]
            constructor
            · rintro (h | h | h)
              · exact .inl (.inl h)
              · exact .inl (.inr h)
              · exact .inr (.inr h)
            · rintro ((h | h) | (h | h))
              · exact .inl h
              · exact .inr (.inl h)
              · exact .inl h
              · exact .inr (.inr h)
      · rw [if_neg hdt]
        exact .inl ⟨rfl, x, y, by simp, by simp, hd, fun h => hdt (by rw [h])⟩
    · rw [if_neg hc]
      by_cases hc2 : cmpD x.d y.d < 0
      · rw [if_pos hc2]
        rcases uniF_law f xs (y :: ys) (by simp at hl ⊢; omega) hx1 hy with ⟨h1, h2⟩ | ⟨zs, h1, h2⟩
        · left
          refine ⟨by rw [h1]; rfl, ?_⟩
          obtain ⟨a, b, ha, hb, hcc⟩ := h2
          exact ⟨a, b, by rcases ha with h | h <;> simp [h], by rcases hb with h | h <;> simp [h], hcc⟩
        · right
          refine ⟨x :: zs, by rw [h1]; rfl, asc_cons.2 ⟨h2.asc, fun z hz => ?_⟩, fun z => ?_⟩
          · rcases (h2.mem z).1 hz with h | h
            · exact hx2 z h
            · rcases List.mem_cons.1 h with rfl | h
              · exact hc2
              · exact cmpD_trans hc2 (hy2 z h)
          · rw [List.mem_cons, h2.mem z, List.mem_cons (a := z) (b := x), or_assoc]
      · rw [if_neg hc2]
        have hc3 : cmpD y.d x.d < 0 := by
          have := cmpD_anti (a := x.d) (b := y.d)
          omega
        rcases uniF_law f (x :: xs) ys (by simp at hl ⊢; omega) hx hy1 with ⟨h1, h2⟩ | ⟨zs, h1, h2⟩
        · left
          refine ⟨by rw [h1]; rfl, ?_⟩
          obtain ⟨a, b, ha, hb, hcc⟩ := h2
          exact ⟨a, b, by rcases ha with h | h <;> simp [h], by rcases hb with h | h <;> simp [h], hcc⟩
        · right
          refine ⟨y :: zs, by rw [h1]; rfl, asc_cons.2 ⟨h2.asc, fun z hz => ?_⟩, fun z => ?_⟩
          · rcases (h2.mem z).1 hz with h | h
            · rcases List.mem_cons.1 h with rfl | h
              · exact hc3
              · exact cmpD_trans hc3 (hx2 z h)
            · exact hy2 z h
          · rw [List.mem_cons, h2.mem z, List.mem_cons (a := z) (b := y)]
            constructor
            · rintro (h | h | h)
              · exact .inr (.inl h)
              · exact .inl h
              · exact .inr (.inr h)
            · rintro (h | h | h)
              · exact .inr (.inl h)
              · exact .inl h
              · exact .inr (.inr h)
theorem uniS_law {xs ys : List Itm} (hx : Asc xs) (hy : Asc ys) : (uniS xs ys = ([], 16) ∧ Clash xs ys) ∨ ∃ zs, uniS xs ys = (zs, 0) ∧ UniOk xs ys zs := by
  unfold uniS
  rcases uniF_law (xs.length + ys.length) xs ys (Nat.le_refl _) hx hy with ⟨h1, h2⟩ | ⟨zs, h1, h2⟩
  · exact .inl ⟨by rw [h1]; rfl, h2⟩
  · exact .inr ⟨zs, by rw [h1]; rfl, h2⟩
theorem uniS_comm {xs ys : List Itm} (hx : Asc xs) (hy : Asc ys) : uniS xs ys = uniS ys xs := by
  rcases uniS_law hx hy with ⟨h1, h2⟩ | ⟨zs, h1, h2⟩
  · rcases uniS_law hy hx with ⟨h3, _⟩ | ⟨zs', _, h4⟩
    · rw [h1, h3]
    · exact absurd h2.symm (fun h => h4.no h)
  · rcases uniS_law hy hx with ⟨_, h4⟩ | ⟨zs', h3, h4⟩
    · exact absurd h4.symm (fun h => h2.no h)
    · rw [h1, h3, asc_ext h2.asc h4.asc (fun z => by rw [h2.mem, h4.mem, or_comm])]
theorem runS_law : ∀ {ys xs : List Itm}, Asc xs → (runS xs ys = ([], 16) ∧ Clash xs ys) ∨ ∃ zs, runS xs ys = (zs, 0) ∧ UniOk xs ys zs
  | [], xs, hx => .inr ⟨xs, rfl, hx, by simp⟩
  | y :: ys, xs, hx => by
    rw [runS]
    by_cases he : (insS xs y).2 = 0
    · rw [if_neg (by simpa using he)]
      obtain ⟨h1, h2, _⟩ := ins_law hx (show insS xs y = ((insS xs y).1, 0) by rw [← he])
      rcases runS_law (ys := ys) h1 with ⟨h3, h4⟩ | ⟨zs, h3, h4⟩
      · left
        refine ⟨h3, ?_⟩
        obtain ⟨a, b, ha, hb, hc⟩ := h4
        refine ⟨a, b, ?_, ?_, hc⟩
        · rcases ha with h | h
          · rcases (h2 a).1 h with h | rfl
            · exact .inl h
            · simp
          · simp [h]
        · rcases hb with h | h
          · rcases (h2 b).1 h with h | rfl
            · exact .inl h
            · simp
          · simp [h]
      · right
        refine ⟨zs, h3, h4.asc, fun z => ?_⟩
        rw [h4.mem, h2, List.mem_cons, or_assoc]
    · rw [if_pos he]
      left
      have hat := asc_at hx y.d
      cases hh : hitB xs y.d (posI xs y.d) with
      | false => rw [insS_miss hat hh] at he; exact absurd rfl he
      | true =>
        obtain ⟨hk, hkd, hi⟩ := insS_hit hat hh
        rw [hi] at he ⊢
        by_cases hdt : xs[posI xs y.d].data = y.data
        · rw [if_pos hdt] at he; exact absurd rfl he
        · rw [if_neg hdt]
          exact ⟨rfl, xs[posI xs y.d], y, .inl (List.getElem_mem hk), by simp, hkd, fun h => hdt (by rw [h])⟩
theorem runS_eq {xs ys : List Itm} (hx : Asc xs) (hy : Asc ys) : runS xs ys = uniS xs ys := by
  rcases uniS_law hx hy with ⟨h1, h2⟩ | ⟨zs, h1, h2⟩
  · rcases runS_law (ys := ys) hx with ⟨h3, _⟩ | ⟨zs', _, h4⟩
    · rw [h1, h3]
    · exact absurd h2 (fun h => h4.no h)
  · rcases runS_law (ys := ys) hx with ⟨_, h4⟩ | ⟨zs', h3, h4⟩
    · exact absurd h4 (fun h => h2.no h)
    · rw [h1, h3, asc_ext h2.asc h4.asc (fun z => by rw [h2.mem, h4.mem])]
theorem asc_filter {xs : List Itm} (h : Asc xs) (p : Itm → Bool) : Asc (xs.filter p) := by
  induction xs with
  | nil => exact fun i j hi => by simp at hi
  | cons x xs ih =>
    obtain ⟨h1, h2⟩ := asc_cons.1 h
    rw [List.filter_cons]
    split
    · exact asc_cons.2 ⟨ih h1, fun y hy => h2 y (List.mem_filter.1 hy).1⟩
    · exact ih h1
/-- The digests of a pool that are in no list. -/
def restS (xs : List Itm) (l : List (Int × Int)) : List (Int × Int) := (xs.filter fun x => !decide (x.d ∈ l)).map (·.d)
theorem keep_union {xs : List Itm} (h : Asc xs) (l : List (Int × Int)) : uniS (keepS xs l) (keepS xs (restS xs l)) = (xs, 0) := by
  have h1 : Asc (keepS xs l) := asc_filter h _
  have h2 : Asc (keepS xs (restS xs l)) := asc_filter h _
  have hm1 : ∀ z, z ∈ keepS xs l ↔ z ∈ xs ∧ z.d ∈ l := fun z => by simp [keepS]
  have hr : ∀ d, d ∈ restS xs l ↔ ∃ y, (y ∈ xs ∧ y.d ∉ l) ∧ y.d = d := fun d => by simp [restS]
  have hm2 : ∀ z, z ∈ keepS xs (restS xs l) ↔ z ∈ xs ∧ z.d ∉ l := fun z => by
    unfold keepS
    rw [List.mem_filter]
    constructor
    · rintro ⟨ha, hb⟩
      obtain ⟨y, ⟨_, hy⟩, hc⟩ := (hr z.d).1 (of_decide_eq_true hb)
      exact ⟨ha, by rw [← hc]; exact hy⟩
    · rintro ⟨ha, hb⟩
      exact ⟨ha, decide_eq_true ((hr z.d).2 ⟨z, ⟨ha, hb⟩, rfl⟩)⟩
  rcases uniS_law h1 h2 with ⟨_, ⟨a, b, ha, hb, hc, hd⟩⟩ | ⟨zs, h3, h4⟩
  · exfalso
    refine hd (asc_same h ?_ ?_ hc)
    · rcases ha with h5 | h5
      · exact ((hm1 a).1 h5).1
      · exact ((hm2 a).1 h5).1
    · rcases hb with h5 | h5
      · exact ((hm1 b).1 h5).1
      · exact ((hm2 b).1 h5).1
  · rw [h3, asc_ext h4.asc h (fun z => by
      rw [h4.mem, hm1, hm2]
      by_cases hz : z.d ∈ l <;> simp [hz])]
theorem chkGo_of : ∀ {xs : List Itm} {p : Option (Int × Int)}, (∀ x ∈ xs, chkI x = 0) → Asc xs → (∀ q, p = some q → ∀ x ∈ xs, cmpD q x.d < 0) → chkGo p xs = 0
  | [], p, _, _, _ => by cases p <;> rfl
  | x :: xs, p, h1, h2, h3 => by
    obtain ⟨h4, h5⟩ := asc_cons.1 h2
    rw [chkGo, if_neg (by simpa using h1 x (by simp)), if_neg]
    · exact chkGo_of (fun y hy => h1 y (by simp [hy])) h4 (fun q hq y hy => by cases hq; exact h5 y hy)
    · cases p with
      | none => simp [prevD]
      | some q =>
        have := h3 q rfl x (by simp)
        have := cmpD_anti (a := x.d) (b := q)
        simp [prevD]
        omega

end Go.Proofs.YtgdhkcocdmdoaaaGreat
