/- The plain law of PoolOrder. -/
import Derived.Test.YtgdhkcocdmdoaaaGreatK5
namespace Go.Proofs.YtgdhkcocdmdoaaaGreat
set_option linter.unusedVariables false

theorem asc_nil : Asc [] := fun i j hi => by simp at hi
theorem asc_ext : ∀ {xs ys : List Itm}, Asc xs → Asc ys → (∀ x, x ∈ xs ↔ x ∈ ys) → xs = ys := by
  have key : ∀ {xs ys : List Itm} {x y : Itm}, Asc (x :: xs) → Asc (y :: ys) → (∀ z, z ∈ x :: xs ↔ z ∈ y :: ys) → x = y := by
    intro xs ys x y h1 h2 hm
    have hx : x ∈ y :: ys := (hm x).1 (by simp)
    have hy : y ∈ x :: xs := (hm y).2 (by simp)
    rcases List.mem_cons.1 hx with h | h
    · exact h
    · rcases List.mem_cons.1 hy with h' | h'
      · exact h'.symm
      · obtain ⟨i, hi, hxi⟩ := List.getElem_of_mem h
        obtain ⟨j, hj, hyj⟩ := List.getElem_of_mem h'
        have a1 := h2 0 (i + 1) (by simp) (by simp; omega) (by omega)
        have a2 := h1 0 (j + 1) (by simp) (by simp; omega) (by omega)
        simp only [List.getElem_cons_zero, List.getElem_cons_succ, hxi, hyj] at a1 a2
        have := cmpD_anti (a := x.d) (b := y.d)
        omega
  have tail : ∀ {xs : List Itm} {x : Itm}, Asc (x :: xs) → Asc xs ∧ x ∉ xs := by
    intro xs x h
    refine ⟨fun i j hi hj hij => ?_, fun hx => ?_⟩
    · have := h (i + 1) (j + 1) (by simp; omega) (by simp; omega) (by omega)
      simpa using this
    · obtain ⟨i, hi, hxi⟩ := List.getElem_of_mem hx
      have := h 0 (i + 1) (by simp) (by simp; omega) (by omega)
      simp only [List.getElem_cons_zero, List.getElem_cons_succ, hxi, cmpD_self] at this
      omega
  intro xs
  induction xs with
  | nil =>
    intro ys _ _ hm
    cases ys with
    | nil => rfl
    | cons y ys => exact absurd ((hm y).2 (by simp)) (by simp)
  | cons x xs ih =>
    intro ys h1 h2 hm
    cases ys with
    | nil => exact absurd ((hm x).1 (by simp)) (by simp)
    | cons y ys =>
      obtain rfl := key h1 h2 hm
      obtain ⟨t1, n1⟩ := tail h1
      obtain ⟨t2, n2⟩ := tail h2
      rw [ih t1 t2]
      intro z
      constructor
      · intro hz
        rcases List.mem_cons.1 ((hm z).1 (List.mem_cons_of_mem _ hz)) with h | h
        · subst h; exact absurd hz n1
        · exact h
      · intro hz
        rcases List.mem_cons.1 ((hm z).2 (List.mem_cons_of_mem _ hz)) with h | h
        · subst h; exact absurd hz n2
        · exact h
theorem asc_at {xs : List Itm} (h : Asc xs) (d : Int × Int) : At xs d (posI xs d) := by
  suffices ∃ k, At xs d k by
    obtain ⟨k, hk⟩ := this
    rw [← hk.eq]; exact hk
  induction xs with
  | nil => exact ⟨0, by simp, fun j hj => by simp at hj, fun j hj => by simp at hj⟩
  | cons x xs ih =>
    have ht : Asc xs := fun i j hi hj hij => by
      have := h (i + 1) (j + 1) (by simp; omega) (by simp; omega) (by omega)
      simpa using this
    by_cases hx : cmpD x.d d < 0
    · obtain ⟨k, hk⟩ := ih ht
      refine ⟨k + 1, by have := hk.le; simp; omega, fun j hj hlt => ?_, fun j hj hle => ?_⟩
      · cases j with
        | zero => simpa using hx
        | succ j => simpa using hk.lo j (by simp at hj; omega) (by omega)
      · cases j with
        | zero => omega
        | succ j => simpa using hk.hi j (by simp at hj; omega) (by omega)
    · refine ⟨0, by omega, fun j hj hlt => by omega, fun j hj _ => ?_⟩
      cases j with
      | zero => simp; omega
      | succ j =>
        have a1 := h 0 (j + 1) (by simp) hj (by omega)
        simp only [List.getElem_cons_zero] at a1
        exact cmpD_trans2 a1 (by omega)
theorem ins_law {xs ys : List Itm} {x : Itm} (h : Asc xs) (hi : insS xs x = (ys, 0)) : Asc ys ∧ (∀ y, y ∈ ys ↔ y ∈ xs ∨ y = x) ∧ ys.length ≤ xs.length + 1 := by
  have hat := asc_at h x.d
  cases hh : hitB xs x.d (posI xs x.d) with
  | true =>
    obtain ⟨hk, hd, he⟩ := insS_hit hat hh
    rw [he] at hi
    split at hi
    · rename_i hdat
      simp only [Prod.mk.injEq, and_true] at hi
      subst hi
      refine ⟨h, fun y => ⟨.inl, ?_⟩, by omega⟩
      rintro (hy | rfl)
      · exact hy
      · have : xs[posI xs y.d] = y := by
          cases hxx : xs[posI xs y.d] with
          | mk d' dt' =>
            rw [hxx] at hd hdat
            cases y
            simp only at hd hdat ⊢
            rw [hd, hdat]
        rw [← this]; exact List.getElem_mem hk
    · simp at hi
  | false =>
    rw [insS_miss hat hh] at hi
    simp only [Prod.mk.injEq, and_true] at hi
    subst hi
    generalize hp : posI xs x.d = k at hat hh
    have hle := hat.le
    have hgt : ∀ j (hj : j < xs.length), k ≤ j → 0 < cmpD xs[j].d x.d := by
      intro j hj hkj
      have h0 := hat.hi j hj hkj
      rcases Nat.lt_or_ge k j with hlt | hge
      · have h1 := h k j (by omega) hj hlt
        have h2 := hat.hi k (by omega) (Nat.le_refl _)
        have g1 := cmpD_range xs[k].d xs[j].d
        have g2 := cmpD_range xs[k].d x.d
        have g3 := cmpD_range xs[j].d x.d
        omega
      · obtain rfl : j = k := by omega
        unfold hitB at hh
        rw [List.getElem?_eq_getElem hj] at hh
        simp only [decide_eq_false_iff_not] at hh
        have : cmpD xs[j].d x.d ≠ 0 := fun e => hh (cmpD_zero.1 e)
        omega
    refine ⟨fun i j hi hj hij => ?_, fun y => ?_, by simp; omega⟩
    · have hlen : (xs.take k).length = k := by rw [List.length_take]; omega
      have get : ∀ i (hi : i < (xs.take k ++ (x :: xs.drop k)).length), (i < k ∧ ∃ h' : i < xs.length, (xs.take k ++ (x :: xs.drop k))[i] = xs[i]) ∨ (i = k ∧ (xs.take k ++ (x :: xs.drop k))[i] = x) ∨ (k < i ∧ ∃ h' : i - 1 < xs.length, (xs.take k ++ (x :: xs.drop k))[i] = xs[i - 1]) := by
        intro i hi
        have hil : i < xs.length + 1 := by simp at hi; omega
        rcases Nat.lt_trichotomy i k with h1 | h1 | h1
        · left
          exact ⟨h1, by omega, by rw [List.getElem_append_left (by omega), List.getElem_take]⟩
        · right; left
          subst h1
          refine ⟨rfl, ?_⟩
          rw [List.getElem_append_right (by omega)]
          simp [hlen]
        · right; right
          refine ⟨h1, by omega, ?_⟩
          rw [List.getElem_append_right (by omega)]
          simp only [hlen]
          rw [List.getElem_cons]
          split
          · omega
          · rw [List.getElem_drop]
            congr 1
            omega
      have anti := fun a b => @cmpD_anti a b
      rcases get i hi with ⟨a1, a2, a3⟩ | ⟨a1, a3⟩ | ⟨a1, a2, a3⟩ <;> rcases get j hj with ⟨b1, b2, b3⟩ | ⟨b1, b3⟩ | ⟨b1, b2, b3⟩ <;> rw [a3, b3]
      · exact h i j a2 b2 hij
      · exact hat.lo i a2 a1
      · rcases Nat.lt_or_ge i (j - 1) with h1 | h1
        · exact h i (j - 1) a2 b2 h1
        · omega
      · omega
      · omega
      · have := hgt (j - 1) b2 (by omega)
        have := anti xs[j - 1].d x.d
        omega
      · omega
      · omega
      · exact h (i - 1) (j - 1) a2 b2 (by omega)
    · simp only [List.mem_append, List.mem_cons]
      constructor
      · rintro (h1 | h1 | h1)
        · exact .inl (List.mem_of_mem_take h1)
        · exact .inr h1
        · exact .inl (List.mem_of_mem_drop h1)
      · rintro (h1 | h1)
        · rw [← List.take_append_drop k xs] at h1
          rcases List.mem_append.1 h1 with h2 | h2
          · exact .inl h2
          · exact .inr (.inr h2)
        · exact .inr (.inl h1)
/-- The item of an object, if it has one. -/
def itemO (o : Ob) : Option Itm := if (encodeS o).2 = 0 then some ⟨digS (encodeS o).1, (encodeS o).1⟩ else none
theorem ite_ne {p : Prop} [Decidable p] {a b c : Int} (ha : a ≠ c) (hb : b ≠ c) : (if p then a else b) ≠ c := by split <;> assumption
theorem encodeS_ne (o : Ob) : (encodeS o).2 ≠ 16 := by
  unfold encodeS
  split
  · rename_i h
    have : checkS o ≠ 16 := by
      unfold checkS
      have hE : ∀ (p : Option (List UInt8)) (l : List Ent), entGo p l ≠ 16 := by
        intro p l
        induction l generalizing p with
        | nil => simp [entGo]
        | cons e l ih => rw [entGo]; exact ite_ne (by decide) (ite_ne (by decide) (ite_ne (by decide) (ih _)))
      have hP : ∀ (s l : List (Int × Int)), parGo s l ≠ 16 := by
        intro s l
        induction l generalizing s with
        | nil => simp [parGo]
        | cons e l ih => rw [parGo]; exact ite_ne (by decide) (ite_ne (by decide) (ih _))
      have hC : commitE o ≠ 16 := by
        unfold commitE
        exact ite_ne (by decide) (ite_ne (by decide) (ite_ne (hP _ _) (ite_ne (by decide) (ite_ne (by decide) (ite_ne (by decide) (by decide))))))
      have hEn : entsE o.ents ≠ 16 := by
        unfold entsE
        split
        · decide
        · exact hE _ _
      exact ite_ne (ite_ne (by decide) (by decide)) (ite_ne (ite_ne (by decide) hEn) (ite_ne (ite_ne (by decide) hC) (by decide)))
    exact this
  · split <;> simp
theorem insS_err (xs : List Itm) (x : Itm) : (insS xs x).2 = 0 ∨ (insS xs x).2 = 16 := by
  unfold insS
  split
  · split
    · split
      · exact .inl rfl
      · exact .inr rfl
    · exact .inl rfl
  · exact .inl rfl
/-- What putting an object does: nothing, a collision, or its item is added. -/
theorem put_law {xs : List Itm} (h : Asc xs) (o : Ob) : ((putS xs o).2.2 ≠ 0 ∧ (putS xs o).2.2 ≠ 16 ∧ itemO o = none) ∨ (putS xs o).2.2 = 16 ∨ ((putS xs o).2.2 = 0 ∧ ∃ x, itemO o = some x ∧ Asc (putS xs o).1 ∧ (∀ y, y ∈ (putS xs o).1 ↔ y ∈ xs ∨ y = x) ∧ (putS xs o).1.length ≤ xs.length + 1) := by
  unfold putS itemO
  by_cases he : (encodeS o).2 = 0
  · rw [if_neg (by simp [he]), if_pos he]
    by_cases hi : (insS xs ⟨digS (encodeS o).1, (encodeS o).1⟩).2 = 0
    · rw [if_neg (by simp [hi])]
      right; right
      obtain ⟨a, b, c⟩ := ins_law h (show insS xs ⟨digS (encodeS o).1, (encodeS o).1⟩ = ((insS xs ⟨digS (encodeS o).1, (encodeS o).1⟩).1, 0) by rw [← hi])
      exact ⟨rfl, _, rfl, a, b, c⟩
    · rw [if_pos hi]
      right; left
      rcases insS_err xs ⟨digS (encodeS o).1, (encodeS o).1⟩ with h1 | h1
      · exact absurd h1 hi
      · exact h1
  · rw [if_pos he, if_neg he]
    left
    exact ⟨he, encodeS_ne o, rfl⟩
/-- The items of some objects, ascending. -/
structure PoolOf (os : List Ob) (xs : List Itm) : Prop where
  asc : Asc xs
  mem : ∀ x, x ∈ xs ↔ ∃ o ∈ os, itemO o = some x
  len : xs.length ≤ os.length
theorem PoolOf.nil : PoolOf [] [] := ⟨asc_nil, fun x => by simp, Nat.le_refl _⟩
theorem PoolOf.skip {os : List Ob} {xs : List Itm} (h : PoolOf os xs) {o : Ob} (ho : itemO o = none) : PoolOf (os ++ [o]) xs := by
  refine ⟨h.asc, fun x => ?_, by have := h.len; simp; omega⟩
  rw [h.mem]
  constructor
  · rintro ⟨p, hp, hx⟩; exact ⟨p, by simp [hp], hx⟩
  · rintro ⟨p, hp, hx⟩
    rcases List.mem_append.1 hp with h1 | h1
    · exact ⟨p, h1, hx⟩
    · rw [List.mem_singleton] at h1; subst h1; rw [ho] at hx; cases hx
theorem PoolOf.add {os : List Ob} {xs ys : List Itm} (h : PoolOf os xs) {o : Ob} {x : Itm} (ho : itemO o = some x) (ha : Asc ys) (hm : ∀ y, y ∈ ys ↔ y ∈ xs ∨ y = x) (hl : ys.length ≤ xs.length + 1) : PoolOf (os ++ [o]) ys := by
  refine ⟨ha, fun y => ?_, by have := h.len; simp; omega⟩
  rw [hm, h.mem]
  constructor
  · rintro (⟨p, hp, hx⟩ | rfl)
    · exact ⟨p, by simp [hp], hx⟩
    · exact ⟨o, by simp, ho⟩
  · rintro ⟨p, hp, hx⟩
    rcases List.mem_append.1 hp with h1 | h1
    · exact .inl ⟨p, h1, hx⟩
    · rw [List.mem_singleton] at h1; subst h1; rw [ho] at hx; cases hx; exact .inr rfl
theorem PoolOf.same {os os' : List Ob} {xs ys : List Itm} (h : PoolOf os xs) (h' : PoolOf os' ys) (hm : ∀ o, o ∈ os ↔ o ∈ os') : xs = ys :=
  asc_ext h.asc h'.asc (fun x => by
    rw [h.mem, h'.mem]
    constructor
    · rintro ⟨o, ho, hx⟩; exact ⟨o, (hm o).1 ho, hx⟩
    · rintro ⟨o, ho, hx⟩; exact ⟨o, (hm o).2 ho, hx⟩)

end Go.Proofs.YtgdhkcocdmdoaaaGreat
