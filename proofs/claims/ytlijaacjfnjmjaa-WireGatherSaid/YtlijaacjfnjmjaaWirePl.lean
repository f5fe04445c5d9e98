/- Plain terms: parts lead to the text; gaps. -/
import Derived.Test.YtlijaacjfnjmjaaWireLaw
import Derived.Test.YtlijaacjfnjmjaaWireWh
import Derived.Test.YtlijaacjfnjmjaaWireSp
namespace Go.Proofs.Ytlijaacjfnjmjaa

theorem vgo_length {tot : Int} : ∀ {ps : List P} {e : Int}, vgo tot e ps = true → ps = [] ∨ (ps.length : Int) ≤ tot - e
  | [], _, _ => .inl rfl
  | p :: ps, e, h => by
    rw [vgo] at h
    simp only [Bool.and_eq_true, decide_eq_true_eq] at h
    obtain ⟨⟨⟨⟨h0, h1⟩, h2⟩, h3⟩, h4⟩ := h
    have hp : 0 < p.2.length := List.length_pos_iff.2 (by simpa using h1)
    right
    rcases vgo_length h4 with rfl | h5
    · simp only [List.length_cons, List.length_nil]; omega
    · simp only [List.length_cons]; omega

theorem vParts_vgo {id tot : Int} {p : P} {ps : List P} (h : vParts id tot (p :: ps) = true) : vgo tot (-1) (p :: ps) = true ∧ 0 ≤ id ∧ id ≤ 1099511627776 ∧ 0 ≤ tot ∧ tot ≤ 1048576 := by
  unfold vParts at h
  simp only [List.isEmpty_cons, Bool.false_or, Bool.and_eq_true, decide_eq_true_eq] at h
  exact ⟨h.2, h.1⟩

theorem vParts_bounds {id tot : Int} {ps : List P} (h : vParts id tot ps = true) : (ps.length : Int) ≤ 1048577 ∧ ∀ p ∈ ps, p.2.length ≤ 1048576 := by
  cases ps with
  | nil => simp
  | cons p ps =>
    obtain ⟨hv, _, _, h0, h1⟩ := vParts_vgo h
    refine ⟨?_, fun q hq => ?_⟩
    · rcases vgo_length hv with h | h
      · cases h
      · omega
    · obtain ⟨q0, _, q2, _⟩ := vgo_all hv q hq
      simp only [pend] at q2; omega

/-- If all bytes of a text are known, there is one piece. -/
theorem whole_of_full {id : Int} {D : List UInt8} {ps : List P} (hv : vParts id D.length ps = true) (hs : ∀ j c, Has ps j c → 0 ≤ j ∧ D[j.toNat]? = some c) (hc : ∀ j : Nat, j < D.length → ∃ c, Has ps j c) (h1 : 1 ≤ D.length) : ps = [(0, D)] := by
  cases ps with
  | nil => obtain ⟨c, h⟩ := hc 0 h1; exact absurd h Has.nil
  | cons p ps =>
    obtain ⟨hg, _⟩ := vParts_vgo hv
    obtain ⟨ga, gp⟩ := vgo_iff.1 hg
    rw [List.pairwise_cons] at gp
    obtain ⟨p0, p1, p2, _⟩ := ga p (by simp)
    have hpl : 0 < p.2.length := List.length_pos_iff.2 p1
    have e0 : p.1 = 0 := by
      obtain ⟨c, h⟩ := hc 0 h1
      rcases has_cons.1 h with h | ⟨q, hq, h⟩
      · have := h.range; omega
      · have := h.range
        have := gp.1 q hq
        simp only [pend] at *; omega
    have e1 : pend p = D.length := by
      apply Classical.byContradiction
      intro hne
      have hlt : p.2.length < D.length := by simp only [pend] at *; omega
      obtain ⟨c, h⟩ := hc p.2.length hlt
      rcases has_cons.1 h with h | ⟨q, hq, h⟩
      · have := h.range; simp only [pend] at *; omega
      · have := h.range
        have := gp.1 q hq
        simp only [pend] at *; omega
    have e2 : ps = [] := by
      cases ps with
      | nil => rfl
      | cons q qs =>
        obtain ⟨q0, q1, q2, _⟩ := ga q (by simp)
        have := gp.1 q (by simp)
        have : 0 < q.2.length := List.length_pos_iff.2 q1
        simp only [pend] at *; omega
    subst e2
    obtain ⟨o, T⟩ := p
    simp only at e0
    subst e0
    have hT : T = D := by
      have hl : T.length = D.length := by simp only [pend] at e1; omega
      apply List.ext_getElem hl
      intro j h h'
      have := (hs j T[j] (has_cons.2 (.inl ⟨by simp only; omega, by simp [h]⟩))).2
      simp [h'] at this
      exact this.symm
    rw [hT]

/-- What is known after some parts have come. -/
structure PRel (D : List UInt8) (id : Int) (m : Nat) (i t : Int) (ps : List P) : Prop where
  valid : vParts i t ps = true
  same : 0 < ps.length → i = id ∧ t = D.length
  sub : ∀ j c, Has ps j c → 0 ≤ j ∧ D[j.toNat]? = some c
  cov : ∀ j : Nat, j < m → j < D.length → ∃ c, Has ps j c

theorem PRel.start (D : List UInt8) (id : Int) : PRel D id 0 0 0 [] := ⟨rfl, fun h => by simp at h, fun j c h => absurd h Has.nil, fun j h => by omega⟩
theorem PRel.bounds {D : List UInt8} {id : Int} {m : Nat} {i t : Int} {ps : List P} (h : PRel D id m i t ps) (hD : D.length ≤ 1000000) : (ps.length : Int) ≤ 1048576 ∧ ∀ p ∈ ps, p.2.length ≤ 1048576 := by
  refine ⟨?_, (vParts_bounds h.valid).2⟩
  cases ps with
  | nil => simp
  | cons p ps =>
    obtain ⟨hv, _⟩ := vParts_vgo h.valid
    rcases vgo_length hv with h' | h'
    · cases h'
    · have := (h.same (by simp)).2; omega

theorem PRel.step {D : List UInt8} {id : Int} {m m' : Nat} {i t : Int} {ps : List P} (h : PRel D id m i t ps) (hid : 0 ≤ id ∧ id ≤ 1099511627776) {o n : Nat} (ho : o + n ≤ D.length) (hn : 1 ≤ n) (hD : D.length ≤ 65536) (hm : m' ≤ m ∨ (o ≤ m ∧ (m' ≤ o + n ∨ D.length ≤ o + n))) :
    ∃ qs, gatherS i t ps 2 id o D.length 0 ((D.drop o).take n) = (0, id, (D.length : Int), qs) ∧ PRel D id m' id D.length qs ∧ qs ≠ [] ∧ (∀ j c, Has ps j c → Has qs j c) ∧ ∀ j : Nat, o ≤ j → j < o + n → ∃ c, Has qs j c := by
  have hl : ((D.drop o).take n).length = n := by simp; omega
  have hH : ∀ j c, H1 ((o : Int), (D.drop o).take n) j c ↔ ((o : Int) ≤ j ∧ j < o + n ∧ D[j.toNat]? = some c) := fun j c => by
    constructor
    · intro h
      have hr := h.range
      simp only [pend, hl] at hr
      refine ⟨hr.1, hr.2, ?_⟩
      have := h.2
      simp only [List.getElem?_take, List.getElem?_drop] at this
      rw [if_pos (by omega), show o + (j - (o : Int)).toNat = j.toNat by omega] at this
      exact this
    · rintro ⟨h1, h2, h3⟩
      refine ⟨h1, ?_⟩
      simp only [List.getElem?_take, List.getElem?_drop]
      rw [if_pos (by omega), show o + (j - (o : Int)).toNat = j.toNat by omega]
      exact h3
  have hv2 : v2 o D.length 0 ((D.drop o).take n).length = true := by rw [hl]; unfold v2; rw [decide_eq_true_iff]; omega
  obtain ⟨qs, hq⟩ := gather_agrees (D := fun j => D.getD j.toNat 0) (off := (o : Int)) (data := (D.drop o).take n) h.valid hid hv2 h.same (fun j c hj => by
      have := (h.sub j c hj).2; simp [List.getD, this]) (fun j c hj => by
      have := ((hH j c).1 hj).2.2; simp [List.getD, this])
  obtain ⟨_, _, g1, g2, g3, _⟩ := gather_law hq
  have hcov : ∀ j : Nat, o ≤ j → j < o + n → ∃ c, Has qs j c := fun j h1 h2 => by
    have hj : j < D.length := by omega
    exact ⟨D[j], (g3 j _).2 (.inr ((hH j _).2 ⟨by omega, by omega, by simp [hj]⟩))⟩
  refine ⟨qs, hq, ⟨g1, fun _ => ⟨rfl, rfl⟩, fun j c hj => ?_, fun j hj hjD => ?_⟩, g2, fun j c hj => (g3 j c).2 (.inl hj), hcov⟩
  · rcases (g3 j c).1 hj with hj | hj
    · exact h.sub j c hj
    · have := (hH j c).1 hj; exact ⟨by omega, this.2.2⟩
  · by_cases hjm : j < m
    · obtain ⟨c, hc⟩ := h.cov j hjm hjD
      exact ⟨c, (g3 j c).2 (.inl hc)⟩
    · rcases hm with hm | hm
      · omega
      · exact hcov j (by omega) (by omega)

theorem PRel.fin {D : List UInt8} {id : Int} {m : Nat} {i t : Int} {ps : List P} (h : PRel D id m i t ps) (hm : D.length ≤ m) (h1 : 1 ≤ D.length) : ps = [(0, D)] ∧ i = id ∧ t = D.length := by
  have hne : 0 < ps.length := by
    cases ps with
    | nil => obtain ⟨c, hc⟩ := h.cov 0 (by omega) h1; exact absurd hc Has.nil
    | cons p ps => simp
  obtain ⟨rfl, rfl⟩ := h.same hne
  exact ⟨whole_of_full h.valid h.sub (fun j hj => h.cov j (by omega) hj) h1, rfl, rfl⟩

theorem whole_one {id : Int} {D : List UInt8} (h : vParts id D.length [(0, D)] = true) : wholeS id D.length [(0, D)] = (D, true) := by
  rw [wholeS_one, if_pos ⟨h, rfl⟩]
theorem gap_one {id : Int} {D : List UInt8} : gapS id D.length [(0, D)] = (0, 0, false) := by
  rw [gapS_cons]
  split
  · rfl
  · rw [if_neg (by simp), if_pos (by simp [pend, nxt])]

/-- The first gap: none, and all bytes are known; or a range none of whose bytes is known. -/
theorem gap_law {D : List UInt8} {id : Int} {m : Nat} {i t : Int} {ps : List P} (h : PRel D id m i t ps) (hne : ps ≠ []) (h1 : 1 ≤ D.length) :
    ((gapS i t ps).2.2 = false ∧ ps = [(0, D)] ∧ i = id ∧ t = D.length) ∨
    ∃ o n : Nat, gapS i t ps = ((o : Int), (n : Int), true) ∧ 1 ≤ n ∧ o + n ≤ D.length ∧ ∀ c, ¬ Has ps o c := by
  cases ps with
  | nil => exact absurd rfl hne
  | cons p ps =>
    obtain ⟨rfl, rfl⟩ := h.same (by simp)
    obtain ⟨hg, _, _, ht0, ht1⟩ := vParts_vgo h.valid
    obtain ⟨ga, gp⟩ := vgo_iff.1 hg
    rw [List.pairwise_cons] at gp
    obtain ⟨p0, p1, p2, _⟩ := ga p (by simp)
    have hpl : 0 < p.2.length := List.length_pos_iff.2 p1
    rw [gapS_cons, if_neg (by rw [h.valid]; decide)]
    by_cases hp : 0 < p.1
    · rw [if_pos hp]
      right
      refine ⟨0, p.1.toNat, by simp; omega, by omega, by simp only [pend] at p2; omega, fun c hc => ?_⟩
      rcases has_cons.1 hc with hc | ⟨q, hq, hc⟩
      · have := hc.range; omega
      · have := hc.range
        have := gp.1 q hq
        simp only [pend] at *; omega
    · rw [if_neg hp]
      have hpe : p.1 = 0 := by omega
      cases ps with
      | nil =>
        rw [nxt]
        by_cases he : pend p = D.length
        · rw [if_pos he]
          left
          refine ⟨rfl, ?_, rfl, rfl⟩
          refine whole_of_full h.valid h.sub (fun j hj => ?_) h1
          obtain ⟨c, hc⟩ := h1_of (p := p) (i := (j : Int)) (by omega) (by omega)
          exact ⟨c, has_cons.2 (.inl hc)⟩
        · rw [if_neg he]
          right
          refine ⟨p.2.length, D.length - p.2.length, ?_, ?_, ?_, ?_⟩
          · simp only [pend] at *; simp only [Prod.mk.injEq, and_true]; omega
          · simp only [pend] at *; omega
          · simp only [pend] at *; omega
          · intro c hc
            rcases has_cons.1 hc with hc | hc
            · have := hc.range; simp only [pend] at *; omega
            · exact Has.nil hc
      | cons q qs =>
        rw [nxt]
        have hpq := gp.1 q (by simp)
        obtain ⟨q0, q1, q2, _⟩ := ga q (by simp)
        rw [if_neg (by omega)]
        right
        refine ⟨p.2.length, (q.1 - p.2.length).toNat, ?_, ?_, ?_, ?_⟩
        · simp only [pend] at *; simp only [Prod.mk.injEq, and_true]; omega
        · simp only [pend] at *; omega
        · simp only [pend] at *; omega
        · intro c hc
          rcases has_cons.1 hc with hc | ⟨x, hx, hc⟩
          · have := hc.range; simp only [pend] at *; omega
          · have := hc.range
            have := gp.1 x hx
            simp only [pend] at *; omega

/-- Whether a byte is known. -/
def hasB (ps : List P) (j : Int) : Bool := ps.any fun p => decide (p.1 ≤ j ∧ j < pend p)
theorem hasB_iff {ps : List P} {j : Int} : hasB ps j = true ↔ ∃ c, Has ps j c := by
  unfold hasB
  rw [List.any_eq_true]
  constructor
  · rintro ⟨p, hp, h⟩
    rw [decide_eq_true_iff] at h
    obtain ⟨c, hc⟩ := h1_of h.1 h.2
    exact ⟨c, p, hp, hc⟩
  · rintro ⟨c, p, hp, h⟩
    exact ⟨p, hp, by rw [decide_eq_true_iff]; exact h.range⟩
/-- How many bytes are not known. -/
def unknown (D : List UInt8) (ps : List P) : Nat := ((List.range D.length).filter fun j => !hasB ps (j : Nat)).length

theorem unknown_le (D : List UInt8) (ps : List P) : unknown D ps ≤ D.length := by
  unfold unknown
  exact Nat.le_trans (List.length_filter_le _ _) (by simp)

theorem filter_lt {α : Type} {p q : α → Bool} {x : α} : ∀ {l : List α}, (∀ y, q y = true → p y = true) → x ∈ l → p x = true → q x = false → (l.filter q).length < (l.filter p).length
  | [], _, hx, _, _ => by simp at hx
  | y :: l, h, hx, hp, hq => by
    have hle : (l.filter q).length ≤ (l.filter p).length := by
      clear hx
      induction l with
      | nil => simp
      | cons z l ih =>
        simp only [List.filter_cons]
        by_cases hz : q z = true
        · rw [if_pos hz, if_pos (h z hz)]; simpa using ih
        · rw [if_neg hz]
          split
          · simp only [List.length_cons]; omega
          · exact ih
    simp only [List.filter_cons]
    by_cases hy : y = x
    · subst hy
      rw [if_pos hp, if_neg (by simp [hq])]
      simp; omega
    · have hxl : x ∈ l := by simpa [Ne.symm hy] using hx
      have := filter_lt h hxl hp hq
      by_cases hz : q y = true
      · rw [if_pos hz, if_pos (h y hz)]; simpa using this
      · rw [if_neg hz]
        split
        · simp only [List.length_cons]; omega
        · exact this

theorem unknown_less {D : List UInt8} {ps qs : List P} {o : Nat} (ho : o < D.length) (h : ∀ j c, Has ps j c → Has qs j c) (h0 : ∀ c, ¬ Has ps o c) (h1 : ∃ c, Has qs o c) : unknown D qs < unknown D ps := by
  unfold unknown
  refine filter_lt (x := o) ?_ (List.mem_range.2 ho) ?_ ?_
  · intro j hj
    simp only [Bool.not_eq_true', ← Bool.not_eq_true, hasB_iff] at hj ⊢
    rintro ⟨c, hc⟩
    exact hj ⟨c, h _ _ hc⟩
  · simp only [Bool.not_eq_true', ← Bool.not_eq_true, hasB_iff]
    rintro ⟨c, hc⟩
    exact h0 c hc
  · simp only [Bool.not_eq_false', hasB_iff]
    exact h1

end Go.Proofs.Ytlijaacjfnjmjaa
