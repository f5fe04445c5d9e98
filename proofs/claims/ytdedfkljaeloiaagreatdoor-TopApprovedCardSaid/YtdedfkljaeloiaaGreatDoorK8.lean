/- Joined texts: RpA, RpB, PoOp, RpC, RpD, RpE, RpF, RpG. -/
import Derived.Test.YtdedfkljaeloiaaGreatDoorK6
import Derived.Test.YtdedfkljaeloiaaGreatDoorK5
import Derived.Test.YtdedfkljaeloiaaGreatDoorK4

/- The reference's Check of pools. -/
namespace Go.Proofs.YtdedfkljaeloiaaGreatDoor
open Go.RowKit Go.Shelf
set_option linter.unusedVariables false

end Go.Proofs.YtdedfkljaeloiaaGreatDoor

/- fine; openers of pools, objects, digests. -/
namespace Go.Proofs.YtdedfkljaeloiaaGreatDoor
open Go.ChangeShapes Go.WideShapes Go.ChangeAt Go.RowKit Go.Deep Go.Shelf
set_option linter.unusedVariables false

theorem chkGo_zero : ∀ {xs : List Itm} {p : Option (Int × Int)}, chkGo p xs = 0 → (∀ x ∈ xs, chkI x = 0) ∧ Asc xs ∧ (∀ q, p = some q → ∀ x ∈ xs, cmpD q x.d < 0)
  | [], p, _ => ⟨by simp, fun i j hi => by simp at hi, by simp⟩
  | x :: xs, p, h => by
    rw [chkGo] at h
    by_cases h1 : chkI x = 0
    · rw [if_neg (by simpa using h1)] at h
      obtain ⟨h2, h3⟩ := ne_if h (by decide)
      obtain ⟨i1, i2, i3⟩ := chkGo_zero h3
      have hx : ∀ q, p = some q → cmpD q x.d < 0 := fun q hq => by
        subst hq
        simp only [prevD, decide_eq_true_eq] at h2
        have := cmpD_anti (a := x.d) (b := q)
        omega
      refine ⟨fun y hy => ?_, ?_, fun q hq y hy => ?_⟩
      · rcases List.mem_cons.1 hy with rfl | hy
        · exact h1
        · exact i1 y hy
      · intro i j hi hj hij
        cases i with
        | zero =>
          cases j with
          | zero => omega
          | succ j => simp only [List.getElem_cons_zero, List.getElem_cons_succ]; exact i3 _ rfl _ (List.getElem_mem _)
        | succ i =>
          cases j with
          | zero => omega
          | succ j => simp only [List.getElem_cons_succ]; exact i2 i j (by simp at hi; omega) (by simp at hj; omega) (by omega)
      · rcases List.mem_cons.1 hy with rfl | hy
        · exact hx q hq
        · exact cmpD_trans (hx q hq) (i3 _ rfl y hy)
    · rw [if_pos h1] at h; exact absurd h h1
theorem checkP_zero {xs : List Itm} (h : checkP xs = 0) : (∀ x ∈ xs, chkI x = 0) ∧ Asc xs := ⟨(chkGo_zero h).1, (chkGo_zero h).2.1⟩
/-- Whether a pool is valid, and within the bounds. -/
def fineB (xs : List Itm) : Bool := !pgreatS xs && (checkP xs == 0)
theorem fineB_true {xs : List Itm} (h : fineB xs = true) : xs.length ≤ 40 ∧ (∀ x ∈ xs, x.data.length ≤ 500) ∧ checkP xs = 0 ∧ Asc xs ∧ ∀ x ∈ xs, chkI x = 0 := by
  simp only [fineB, Bool.and_eq_true, Bool.not_eq_true', beq_iff_eq] at h
  have h1 := pgreatS_false h.1
  have h2 := checkP_zero h.2
  exact ⟨h1.1, h1.2, h.2, h2.2, h2.1⟩

section
variable {H : Type} {enc : TypeId × Value → H} {W : World}
set_option maxRecDepth 100000 in
theorem trod_itm {fuel : Nat} {cs : List Value} {x : DataW H × List MemPlace} (h : DataW.trod enc Tryz.prog W 0 (fun _ => true) true fuel 158 cs = some x) : ∃ e : Itm, cs = [.int .u64 e.d.1, .int .u64 e.d.2, .string ⟨e.data.toArray⟩] ∧ OkD e.d ∧ e.data.length ≤ maxLen := by
  obtain ⟨xs, n, _, _, hl, hxl, hf⟩ := DataW.trod_struct Tryz.underlying158 h
  rw [show Tryz.prog.cellsOf 158 = 3 by kernel_rfl] at hl
  match cs, hl with
  | [c0, c1, c2], _ =>
    match xs, hxl with
    | [x0, x1], _ =>
      obtain ⟨d, e2, w0, w1⟩ := trod_digest (show DataW.trod enc Tryz.prog W 0 (fun _ => true) true n 35 [c0, c1] = some x0 from hf 0 _ rfl)
      obtain ⟨s, e0, _, ws⟩ := DataW.trod_string Tryz.underlying9 (show DataW.trod enc Tryz.prog W 0 (fun _ => true) true n 9 [c2] = some x1 from hf 1 _ rfl)
      cases e0
      cases e2
      exact ⟨⟨d, s.data.toList⟩, by rw [← ba_eq (t := s) rfl], okD_wf w0 w1, ws⟩
/-- A pool that came in. -/
structure PoolCame (W : World) (a : Option Addr) (xs : List Itm) (c : Nat) : Prop where
  its : Its W.heap.size W a xs
  cap : xs.length ≤ c ∧ c ≤ maxLen
  dat : ∀ x ∈ xs, OkD x.d ∧ x.data.length ≤ maxLen
set_option maxRecDepth 100000 in
theorem open_pool {r : Reach} {b0 : Nat} {v : Value} {d : DataW H} {p : List MemPlace} (hv : Value.okWide Tryz.prog W r b0 32 v) (h : DataW.Trod enc Tryz.prog W 0 (fun _ => true) true 32 v d p) :
    ∃ (a : Option Addr) (xs : List Itm) (c : Nat), v = .slice a xs.length c ∧ PoolCame W a xs c := by
  obtain ⟨a, len, cap, rfl⟩ := okWide_slice Tryz.underlying32 hv
  obtain ⟨fuel, hf⟩ := h
  simp only [Value.cells] at hf
  obtain ⟨hl, hr⟩ := open_rows Tryz.underlying32 (C := 3) (by kernel_rfl) (by decide) hf
  obtain ⟨xs, hxs, hq⟩ := list_of (fun i (e : Itm) => (∃ b off, a = some ⟨b, off, none⟩ ∧ b < W.heap.size ∧ W.cell? ⟨b, off + i * 3, none⟩ = some (.int .u64 e.d.1) ∧ W.cell? ⟨b, off + i * 3 + 1, none⟩ = some (.int .u64 e.d.2) ∧ W.cell? ⟨b, off + i * 3 + 2, none⟩ = some (.string ⟨e.data.toArray⟩)) ∧ OkD e.d ∧ e.data.length ≤ maxLen) len (fun i hi => by
    obtain ⟨b, off, cs, n, y, ha, hb, _, hcell, ht⟩ := hr i hi
    obtain ⟨e, rfl, w0, w1⟩ := trod_itm ht
    exact ⟨e, ⟨b, off, ha, hb, hcell 0 _ rfl, hcell 1 _ rfl, hcell 2 _ rfl⟩, w0, w1⟩)
  refine ⟨a, xs, cap, by rw [hxs], fun i hi => (hq i hi).1, by omega, fun e he => ?_⟩
  obtain ⟨i, hi, rfl⟩ := List.getElem_of_mem he
  exact (hq i hi).2
set_option maxRecDepth 100000 in
theorem open_dig {r : Reach} {b0 : Nat} {v : Value} {d : DataW H} {p : List MemPlace} (hv : Value.okWide Tryz.prog W r b0 35 v) (h : DataW.Trod enc Tryz.prog W 0 (fun _ => true) true 35 v d p) :
    ∃ x y : Int, v = .agg #[.int .u64 x, .int .u64 y] ∧ OkD (x, y) := by
  obtain ⟨cs, rfl⟩ : ∃ cs, v = .agg cs := by
    simp only [Value.okWide, Tryz.underlying35] at hv
    obtain ⟨cs, h1, _⟩ := hv
    exact ⟨cs, h1⟩
  obtain ⟨fuel, hf⟩ := h
  obtain ⟨⟨x, y⟩, hcs, w0, w1⟩ := trod_digest hf
  refine ⟨x, y, ?_, okD_wf w0 w1⟩
  simp [Value.cells] at hcs
  rw [← Array.toList_inj.1 (show cs.toList = #[Value.int .u64 x, .int .u64 y].toList by simpa using hcs)]
set_option maxRecDepth 100000 in
theorem open_dlist {r : Reach} {b0 : Nat} {v : Value} {d : DataW H} {p : List MemPlace} (hv : Value.okWide Tryz.prog W r b0 98 v) (h : DataW.Trod enc Tryz.prog W 0 (fun _ => true) true 98 v d p) :
    ∃ (a : Option Addr) (ds : List (Int × Int)) (c : Nat), v = .slice a ds.length c ∧ Digs W.heap.size W a ds ∧ (ds.length ≤ c ∧ c ≤ maxLen) ∧ ∀ d ∈ ds, OkD d := by
  obtain ⟨a, len, cap, rfl⟩ := okWide_slice Tryz.underlying98 hv
  obtain ⟨fuel, hf⟩ := h
  simp only [Value.cells] at hf
  obtain ⟨hl, ds, rfl, hd, hok⟩ := open_digs hf
  exact ⟨a, ds, cap, rfl, hd, by omega, fun d hd => okD_wf (hok d hd).1 (hok d hd).2⟩
set_option maxRecDepth 100000 in
theorem open_ob {r : Reach} {b0 : Nat} {v : Value} {d : DataW H} {p : List MemPlace} (hv : Value.okWide Tryz.prog W r b0 100 v) (h : DataW.Trod enc Tryz.prog W 0 (fun _ => true) true 100 v d p) :
    ∃ (o : Ob) (ea : Option Addr) (ec : Nat) (pa : Option Addr) (pc : Nat), v = o.val ea ec pa pc ∧ ObCame W o ea ec pa pc := by
  obtain ⟨cs, rfl, hsz⟩ := okWide_struct Tryz.underlying100 hv
  obtain ⟨fuel, hf⟩ := h
  obtain ⟨o, ea, ec, pa, pc, hcs, hc⟩ := trod_ob hf
  refine ⟨o, ea, ec, pa, pc, ?_, hc⟩
  have hcs : cs.toList = (o.arr ea ec pa pc).toList := hcs
  rw [Ob.val, Array.toList_inj.1 hcs]
end

end Go.Proofs.YtdedfkljaeloiaaGreatDoor

/- The plain law of PoolOrder. -/
namespace Go.Proofs.YtdedfkljaeloiaaGreatDoor
set_option linter.unusedVariables false

theorem asc_nil : Asc [] := fun i j hi => by simp at hi
theorem asc_ext : ∀ {xs ys : List Itm}, Asc xs → Asc ys → (∀ x, x ∈ xs ↔ x ∈ ys) → xs = ys := by
  have key : ∀ {xs ys : List Itm} {x y : Itm}, Asc (x :: xs) → Asc (y :: ys) → (∀ z, z ∈ x :: xs ↔ z ∈ y :: ys) → x = y := by
    intro xs ys x y h1 h2 hm
    have hx : x ∈ y :: ys := (hm x).1 (by simp)
    have hy : y ∈ x :: xs := (hm y).2 (by simp)
    rcases List.mem_cons.1 hx with h | h
    · exact h
    · rcases List.mem_cons.1 hy with h' | h'
      · exact h'.symm
      · obtain ⟨i, hi, hxi⟩ := List.getElem_of_mem h
        obtain ⟨j, hj, hyj⟩ := List.getElem_of_mem h'
        have a1 := h2 0 (i + 1) (by simp) (by simp; omega) (by omega)
        have a2 := h1 0 (j + 1) (by simp) (by simp; omega) (by omega)
        simp only [List.getElem_cons_zero, List.getElem_cons_succ, hxi, hyj] at a1 a2
        have := cmpD_anti (a := x.d) (b := y.d)
        omega
  have tail : ∀ {xs : List Itm} {x : Itm}, Asc (x :: xs) → Asc xs ∧ x ∉ xs := by
    intro xs x h
    refine ⟨fun i j hi hj hij => ?_, fun hx => ?_⟩
    · have := h (i + 1) (j + 1) (by simp; omega) (by simp; omega) (by omega)
      simpa using this
    · obtain ⟨i, hi, hxi⟩ := List.getElem_of_mem hx
      have := h 0 (i + 1) (by simp) (by simp; omega) (by omega)
      simp only [List.getElem_cons_zero, List.getElem_cons_succ, hxi, cmpD_self] at this
      omega
  intro xs
  induction xs with
  | nil =>
    intro ys _ _ hm
    cases ys with
    | nil => rfl
    | cons y ys => exact absurd ((hm y).2 (by simp)) (by simp)
  | cons x xs ih =>
    intro ys h1 h2 hm
    cases ys with
    | nil => exact absurd ((hm x).1 (by simp)) (by simp)
    | cons y ys =>
      obtain rfl := key h1 h2 hm
      obtain ⟨t1, n1⟩ := tail h1
      obtain ⟨t2, n2⟩ := tail h2
      rw [ih t1 t2]
      intro z
      constructor
      · intro hz
        rcases List.mem_cons.1 ((hm z).1 (List.mem_cons_of_mem _ hz)) with h | h
        · subst h; exact absurd hz n1
        · exact h
      · intro hz
        rcases List.mem_cons.1 ((hm z).2 (List.mem_cons_of_mem _ hz)) with h | h
        · subst h; exact absurd hz n2
        · exact h
theorem asc_at {xs : List Itm} (h : Asc xs) (d : Int × Int) : At xs d (posI xs d) := by
  suffices ∃ k, At xs d k by
    obtain ⟨k, hk⟩ := this
    rw [← hk.eq]; exact hk
  induction xs with
  | nil => exact ⟨0, by simp, fun j hj => by simp at hj, fun j hj => by simp at hj⟩
  | cons x xs ih =>
    have ht : Asc xs := fun i j hi hj hij => by
      have := h (i + 1) (j + 1) (by simp; omega) (by simp; omega) (by omega)
      simpa using this
    by_cases hx : cmpD x.d d < 0
    · obtain ⟨k, hk⟩ := ih ht
      refine ⟨k + 1, by have := hk.le; simp; omega, fun j hj hlt => ?_, fun j hj hle => ?_⟩
      · cases j with
        | zero => simpa using hx
        | succ j => simpa using hk.lo j (by simp at hj; omega) (by omega)
      · cases j with
        | zero => omega
        | succ j => simpa using hk.hi j (by simp at hj; omega) (by omega)
    · refine ⟨0, by omega, fun j hj hlt => by omega, fun j hj _ => ?_⟩
      cases j with
      | zero => simp; omega
      | succ j =>
        have a1 := h 0 (j + 1) (by simp) hj (by omega)
        simp only [List.getElem_cons_zero] at a1
        exact cmpD_trans2 a1 (by omega)
theorem ins_law {xs ys : List Itm} {x : Itm} (h : Asc xs) (hi : insS xs x = (ys, 0)) : Asc ys ∧ (∀ y, y ∈ ys ↔ y ∈ xs ∨ y = x) ∧ ys.length ≤ xs.length + 1 := by
  have hat := asc_at h x.d
  cases hh : hitB xs x.d (posI xs x.d) with
  | true =>
    obtain ⟨hk, hd, he⟩ := insS_hit hat hh
    rw [he] at hi
    split at hi
    · rename_i hdat
      simp only [Prod.mk.injEq, and_true] at hi
      subst hi
      refine ⟨h, fun y => ⟨.inl, ?_⟩, by omega⟩
      rintro (hy | rfl)
      · exact hy
      · have : xs[posI xs y.d] = y := by
          cases hxx : xs[posI xs y.d] with
          | mk d' dt' =>
            rw [hxx] at hd hdat
            cases y
            simp only at hd hdat ⊢
            rw [hd, hdat]
        rw [← this]; exact List.getElem_mem hk
    · simp at hi
  | false =>
    rw [insS_miss hat hh] at hi
    simp only [Prod.mk.injEq, and_true] at hi
    subst hi
    generalize hp : posI xs x.d = k at hat hh
    have hle := hat.le
    have hgt : ∀ j (hj : j < xs.length), k ≤ j → 0 < cmpD xs[j].d x.d := by
      intro j hj hkj
      have h0 := hat.hi j hj hkj
      rcases Nat.lt_or_ge k j with hlt | hge
      · have h1 := h k j (by omega) hj hlt
        have h2 := hat.hi k (by omega) (Nat.le_refl _)
        have g1 := cmpD_range xs[k].d xs[j].d
        have g2 := cmpD_range xs[k].d x.d
        have g3 := cmpD_range xs[j].d x.d
        omega
      · obtain rfl : j = k := by omega
        unfold hitB at hh
        rw [List.getElem?_eq_getElem hj] at hh
        simp only [decide_eq_false_iff_not] at hh
        have : cmpD xs[j].d x.d ≠ 0 := fun e => hh (cmpD_zero.1 e)
        omega
    refine ⟨fun i j hi hj hij => ?_, fun y => ?_, by simp; omega⟩
    · have hlen : (xs.take k).length = k := by rw [List.length_take]; omega
      have get : ∀ i (hi : i < (xs.take k ++ (x :: xs.drop k)).length), (i < k ∧ ∃ h' : i < xs.length, (xs.take k ++ (x :: xs.drop k))[i] = xs[i]) ∨ (i = k ∧ (xs.take k ++ (x :: xs.drop k))[i] = x) ∨ (k < i ∧ ∃ h' : i - 1 < xs.length, (xs.take k ++ (x :: xs.drop k))[i] = xs[i - 1]) := by
        intro i hi
        have hil : i < xs.length + 1 := by simp at hi; omega
        rcases Nat.lt_trichotomy i k with h1 | h1 | h1
        · left
          exact ⟨h1, by omega, by rw [List.getElem_append_left (by omega), List.getElem_take]⟩
        · right; left
          subst h1
          refine ⟨rfl, ?_⟩
          rw [List.getElem_append_right (by omega)]
          simp [hlen]
        · right; right
          refine ⟨h1, by omega, ?_⟩
          rw [List.getElem_append_right (by omega)]
          simp only [hlen]
          rw [List.getElem_cons]
          split
          · omega
          · rw [List.getElem_drop]
            congr 1
            omega
      have anti := fun a b => @cmpD_anti a b
      rcases get i hi with ⟨a1, a2, a3⟩ | ⟨a1, a3⟩ | ⟨a1, a2, a3⟩ <;> rcases get j hj with ⟨b1, b2, b3⟩ | ⟨b1, b3⟩ | ⟨b1, b2, b3⟩ <;> rw [a3, b3]
      · exact h i j a2 b2 hij
      · exact hat.lo i a2 a1
      · rcases Nat.lt_or_ge i (j - 1) with h1 | h1
        · exact h i (j - 1) a2 b2 h1
        · omega
      · omega
      · omega
      · have := hgt (j - 1) b2 (by omega)
        have := anti xs[j - 1].d x.d
        omega
      · omega
      · omega
      · exact h (i - 1) (j - 1) a2 b2 (by omega)
    · simp only [List.mem_append, List.mem_cons]
      constructor
      · rintro (h1 | h1 | h1)
        · exact .inl (List.mem_of_mem_take h1)
        · exact .inr h1
        · exact .inl (List.mem_of_mem_drop h1)
      · rintro (h1 | h1)
        · rw [← List.take_append_drop k xs] at h1
          rcases List.mem_append.1 h1 with h2 | h2
          · exact .inl h2
          · exact .inr (.inr h2)
        · exact .inr (.inl h1)
/-- The item of an object, if it has one. -/
def itemO (o : Ob) : Option Itm := if (encodeS o).2 = 0 then some ⟨digS (encodeS o).1, (encodeS o).1⟩ else none
theorem ite_ne {p : Prop} [Decidable p] {a b c : Int} (ha : a ≠ c) (hb : b ≠ c) : (if p then a else b) ≠ c := by split <;> assumption
theorem encodeS_ne (o : Ob) : (encodeS o).2 ≠ 16 := by
  unfold encodeS
  split
  · rename_i h
    have : checkS o ≠ 16 := by
      unfold checkS
      have hE : ∀ (p : Option (List UInt8)) (l : List Ent), entGo p l ≠ 16 := by
        intro p l
        induction l generalizing p with
        | nil => simp [entGo]
        | cons e l ih => rw [entGo]; exact ite_ne (by decide) (ite_ne (by decide) (ite_ne (by decide) (ih _)))
      have hP : ∀ (s l : List (Int × Int)), parGo s l ≠ 16 := by
        intro s l
        induction l generalizing s with
        | nil => simp [parGo]
        | cons e l ih => rw [parGo]; exact ite_ne (by decide) (ite_ne (by decide) (ih _))
      have hC : commitE o ≠ 16 := by
        unfold commitE
        exact ite_ne (by decide) (ite_ne (by decide) (ite_ne (hP _ _) (ite_ne (by decide) (ite_ne (by decide) (ite_ne (by decide) (by decide))))))
      have hEn : entsE o.ents ≠ 16 := by
        unfold entsE
        split
        · decide
        · exact hE _ _
      exact ite_ne (ite_ne (by decide) (by decide)) (ite_ne (ite_ne (by decide) hEn) (ite_ne (ite_ne (by decide) hC) (by decide)))
    exact this
  · split <;> simp
theorem insS_err (xs : List Itm) (x : Itm) : (insS xs x).2 = 0 ∨ (insS xs x).2 = 16 := by
  unfold insS
  split
  · split
    · split
      · exact .inl rfl
      · exact .inr rfl
    · exact .inl rfl
  · exact .inl rfl
/-- What putting an object does: nothing, a collision, or its item is added. -/
theorem put_law {xs : List Itm} (h : Asc xs) (o : Ob) : ((putS xs o).2.2 ≠ 0 ∧ (putS xs o).2.2 ≠ 16 ∧ itemO o = none) ∨ (putS xs o).2.2 = 16 ∨ ((putS xs o).2.2 = 0 ∧ ∃ x, itemO o = some x ∧ Asc (putS xs o).1 ∧ (∀ y, y ∈ (putS xs o).1 ↔ y ∈ xs ∨ y = x) ∧ (putS xs o).1.length ≤ xs.length + 1) := by
  unfold putS itemO
  by_cases he : (encodeS o).2 = 0
  · rw [if_neg (by simp [he]), if_pos he]
    by_cases hi : (insS xs ⟨digS (encodeS o).1, (encodeS o).1⟩).2 = 0
    · rw [if_neg (by simp [hi])]
      right; right
      obtain ⟨a, b, c⟩ := ins_law h (show insS xs ⟨digS (encodeS o).1, (encodeS o).1⟩ = ((insS xs ⟨digS (encodeS o).1, (encodeS o).1⟩).1, 0) by rw [← hi])
      exact ⟨rfl, _, rfl, a, b, c⟩
    · rw [if_pos hi]
      right; left
      rcases insS_err xs ⟨digS (encodeS o).1, (encodeS o).1⟩ with h1 | h1
      · exact absurd h1 hi
      · exact h1
  · rw [if_pos he, if_neg he]
    left
    exact ⟨he, encodeS_ne o, rfl⟩
/-- The items of some objects, ascending. -/
structure PoolOf (os : List Ob) (xs : List Itm) : Prop where
  asc : Asc xs
  mem : ∀ x, x ∈ xs ↔ ∃ o ∈ os, itemO o = some x
  len : xs.length ≤ os.length
theorem PoolOf.nil : PoolOf [] [] := ⟨asc_nil, fun x => by simp, Nat.le_refl _⟩
theorem PoolOf.skip {os : List Ob} {xs : List Itm} (h : PoolOf os xs) {o : Ob} (ho : itemO o = none) : PoolOf (os ++ [o]) xs := by
  refine ⟨h.asc, fun x => ?_, by have := h.len; simp; omega⟩
  rw [h.mem]
  constructor
  · rintro ⟨p, hp, hx⟩; exact ⟨p, by simp [hp], hx⟩
  · rintro ⟨p, hp, hx⟩
    rcases List.mem_append.1 hp with h1 | h1
    · exact ⟨p, h1, hx⟩
    · rw [List.mem_singleton] at h1; subst h1; rw [ho] at hx; cases hx
theorem PoolOf.add {os : List Ob} {xs ys : List Itm} (h : PoolOf os xs) {o : Ob} {x : Itm} (ho : itemO o = some x) (ha : Asc ys) (hm : ∀ y, y ∈ ys ↔ y ∈ xs ∨ y = x) (hl : ys.length ≤ xs.length + 1) : PoolOf (os ++ [o]) ys := by
  refine ⟨ha, fun y => ?_, by have := h.len; simp; omega⟩
  rw [hm, h.mem]
  constructor
  · rintro (⟨p, hp, hx⟩ | rfl)
    · exact ⟨p, by simp [hp], hx⟩
    · exact ⟨o, by simp, ho⟩
  · rintro ⟨p, hp, hx⟩
    rcases List.mem_append.1 hp with h1 | h1
    · exact .inl ⟨p, h1, hx⟩
    · rw [List.mem_singleton] at h1; subst h1; rw [ho] at hx; cases hx; exact .inr rfl
theorem PoolOf.same {os os' : List Ob} {xs ys : List Itm} (h : PoolOf os xs) (h' : PoolOf os' ys) (hm : ∀ o, o ∈ os ↔ o ∈ os') : xs = ys :=
  asc_ext h.asc h'.asc (fun x => by
    rw [h.mem, h'.mem]
    constructor
    · rintro ⟨o, ho, hx⟩; exact ⟨o, (hm o).1 ho, hx⟩
    · rintro ⟨o, ho, hx⟩; exact ⟨o, (hm o).2 ho, hx⟩)

end Go.Proofs.YtdedfkljaeloiaaGreatDoor

/- The reference's find, Has, Get of pools, In. -/
namespace Go.Proofs.YtdedfkljaeloiaaGreatDoor
open Go.RowKit Go.Shelf
set_option linter.unusedVariables false

/-- Where an item with a digest is, or -1. -/
def FindR (xs : List Itm) (d : Int × Int) (n : Int) : Prop := (∃ k, ∃ h : k < xs.length, n = (k : Int) ∧ xs[k].d = d) ∨ (n = -1 ∧ ∀ x ∈ xs, x.d ≠ d)
def GotFR (w : World) (xs : List Itm) (d : Int × Int) (e : Ending) (w' : World) : Prop := ∃ n : Int, e = .returned (.int .i64 n) ∧ FindR xs d n ∧ Below w.heap.size w w'

theorem at_uniq {xs : List Itm} (h : Asc xs) {k : Nat} (hk : k < xs.length) {d : Int × Int} (hd : xs[k].d = d) : At xs d k := by
  refine ⟨by omega, fun j hj hlt => ?_, fun j hj hle => ?_⟩
  · rw [← hd]; exact h j k hj hk hlt
  · rcases Nat.lt_or_ge k j with h1 | h1
    · have := h k j hk hj h1
      rw [hd] at this
      have := cmpD_anti (a := xs[j].d) (b := d)
      omega
    · obtain rfl : j = k := by omega
      rw [hd, cmpD_self]
      omega
/-- What find says of a pool in order. -/
theorem FindR.asc {xs : List Itm} {d : Int × Int} {n : Int} (h : FindR xs d n) (ha : Asc xs) : (∃ k, ∃ hk : k < xs.length, n = (k : Int) ∧ At xs d k ∧ hitB xs d k = true ∧ xs[k].d = d) ∨ (n = -1 ∧ ∀ k, hitB xs d k = false) := by
  rcases h with ⟨k, hk, hn, hd⟩ | ⟨hn, hd⟩
  · exact .inl ⟨k, hk, hn, at_uniq ha hk hd, by unfold hitB; rw [List.getElem?_eq_getElem hk]; simpa using hd, hd⟩
  · refine .inr ⟨hn, fun k => ?_⟩
    unfold hitB
    cases hx : xs[k]? with
    | none => rfl
    | some x => simp only [decide_eq_false_iff_not]; exact hd x (List.mem_of_getElem? hx)

end Go.Proofs.YtdedfkljaeloiaaGreatDoor

/- pool.Union. -/
namespace Go.Proofs.YtdedfkljaeloiaaGreatDoor
open Go.RowKit Go.Shelf
set_option linter.unusedVariables false

/-- Two pools in order, merged. -/
def uniF : Nat → List Itm → List Itm → Option (List Itm)
  | 0, _, _ => some []
  | _ + 1, [], [] => some []
  | f + 1, [], y :: ys => (uniF f [] ys).map (y :: ·)
  | f + 1, x :: xs, [] => (uniF f xs []).map (x :: ·)
  | f + 1, x :: xs, y :: ys =>
    if cmpD x.d y.d = 0 then (if x.data = y.data then (uniF f xs ys).map (x :: ·) else none)
    else if cmpD x.d y.d < 0 then (uniF f xs (y :: ys)).map (x :: ·) else (uniF f (x :: xs) ys).map (y :: ·)
def uniO : Option (List Itm) → List Itm × Int
  | some zs => (zs, 0)
  | none => ([], 16)
def uniS (xs ys : List Itm) : List Itm × Int := uniO (uniF (xs.length + ys.length) xs ys)
theorem uniF_nil (f : Nat) : uniF f [] [] = some [] := by cases f <;> rfl
def UR (R : Option (List Itm)) (f : Nat) (l xs ys : List Itm) : Prop := R = (uniF f xs ys).map (l ++ ·)
theorem UR.start (xs ys : List Itm) (f : Nat) : UR (uniF f xs ys) f [] xs ys := by unfold UR; simp
theorem map_app (o : Option (List Itm)) (l : List Itm) (x : Itm) : (o.map (x :: ·)).map (l ++ ·) = o.map ((l ++ [x]) ++ ·) := by
  cases o <;> simp
theorem UR.a {R : Option (List Itm)} {f : Nat} {l xs ys : List Itm} {x : Itm} (h : UR R (f + 1) l (x :: xs) ys) (hy : ∀ y ∈ ys.head?, cmpD x.d y.d < 0) : UR R f (l ++ [x]) xs ys := by
  unfold UR at h ⊢
  rw [h, ← map_app]
  cases ys with
  | nil => rfl
  | cons y ys =>
    have := hy y rfl
    rw [uniF, if_neg (by omega), if_pos this]
theorem UR.b {R : Option (List Itm)} {f : Nat} {l xs ys : List Itm} {y : Itm} (h : UR R (f + 1) l xs (y :: ys)) (hx : ∀ x ∈ xs.head?, 0 < cmpD x.d y.d) : UR R f (l ++ [y]) xs ys := by
  unfold UR at h ⊢
  rw [h, ← map_app]
  cases xs with
  | nil => rfl
  | cons x xs =>
    have := hx x rfl
    rw [uniF, if_neg (by omega), if_neg (by omega)]
theorem UR.c {R : Option (List Itm)} {f : Nat} {l xs ys : List Itm} {x y : Itm} (h : UR R (f + 1) l (x :: xs) (y :: ys)) (hc : cmpD x.d y.d = 0) (hd : x.data = y.data) : UR R f (l ++ [x]) xs ys := by
  unfold UR at h ⊢
  rw [h, ← map_app, uniF, if_pos hc, if_pos hd]
theorem UR.d {R : Option (List Itm)} {f : Nat} {l xs ys : List Itm} {x y : Itm} (h : UR R (f + 1) l (x :: xs) (y :: ys)) (hc : cmpD x.d y.d = 0) (hd : x.data ≠ y.data) : R = none := by
  unfold UR at h
  rw [h, uniF, if_pos hc, if_neg hd]; rfl
theorem UR.fin {R : Option (List Itm)} {f : Nat} {l : List Itm} (h : UR R f l [] []) : R = some l := by
  unfold UR at h
  rw [h, uniF_nil]; simp
theorem its_one {W : World} {b : Nat} {x1 x2 : Int} {dt : List UInt8} (hk : BK b #[.int .u64 x1, .int .u64 x2, .string ⟨dt.toArray⟩] 158 W) : Its W.heap.size W (some ⟨b, 0, none⟩) [(⟨(x1, x2), dt⟩ : Itm)] := fun i hi => by
  obtain rfl : i = 0 := by simp at hi; omega
  exact ⟨_, 0, rfl, hk.lt, by rw [Nat.zero_mul, hk.cell]; rfl, by rw [Nat.zero_mul, hk.cell]; rfl, by rw [Nat.zero_mul, hk.cell]; rfl⟩
/-- One item behind a row. -/
theorem append_itm {W : World} {base : Nat} {v : Value} {xs : List Itm} (hown : W.ownsRow base 158 3 v xs.length (icells xs)) (d : Int × Int) (dt : List UInt8) (hlen : (xs.length : Int) ≤ 100000000) (hbase : base ≤ W.heap.size) :
    ∃ v' W', (Builtin.append_ #[32, 32] 32 #[v, .slice (some ⟨W.heap.size, 0, none⟩) 1 1]).run Tryz.prog (W.alloc (.cells #[.int .u64 d.1, .int .u64 d.2, .string ⟨dt.toArray⟩] 158)) = .ok v' W' ∧ W'.ownsRow base 158 3 v' (xs ++ [(⟨d, dt⟩ : Itm)]).length (icells (xs ++ [(⟨d, dt⟩ : Itm)])) ∧ (W.alloc (.cells #[.int .u64 d.1, .int .u64 d.2, .string ⟨dt.toArray⟩] 158)).grownBy W' v.ownBlock := by
  obtain ⟨d1, d2⟩ := d
  obtain ⟨v', W', h1, h2, h3, _⟩ := append_its (W.alloc (.cells #[.int .u64 d1, .int .u64 d2, .string ⟨dt.toArray⟩] 158)) base 32 v xs (hown.alloc _) (some ⟨W.heap.size, 0, none⟩) [(⟨(d1, d2), dt⟩ : Itm)] 1 (its_one (BK.new W #[.int .u64 d1, .int .u64 d2, .string ⟨dt.toArray⟩] 158)) (by simp; omega) (by simp; omega)
  exact ⟨v', W', h1, h2, h3⟩

end Go.Proofs.YtdedfkljaeloiaaGreatDoor

/- The reference's way to put an element into a list: append, twice, in any order. -/
namespace Go.Proofs.YtdedfkljaeloiaaGreatDoor
open Go.RowKit Go.Shelf
set_option linter.unusedVariables false

/-- The world that an operation of a drawn region stands in, by name: another world is refused at once. -/
theorem step_at {P : Program} {ops : Array Oper} {o : Oper} {a : Act} {K : Act → World → Prop} {Q : Exit → Act → World → Prop} {E : Prop} (w : World) (h : if Region.wanted o (yielded ops a.tmps) = true then Oper.wp P o a w K Q else E) :
    if Region.wanted o (yielded ops a.tmps) = true then Oper.wp P o a w K Q else E := h
theorem Digs.ahead {W W' : World} {a : Option Addr} {ds : List (Int × Int)} (h : Digs W.heap.size W a ds) (hb : Below W.heap.size W W') : Digs W'.heap.size W' a ds := (h.below hb (Nat.le_refl _)).mono hb.size
theorem digs_one {W : World} {b : Nat} {x1 x2 : Int} (hk : BK b #[.int .u64 x1, .int .u64 x2] 35 W) : Digs W.heap.size W (some ⟨b, 0, none⟩) [(x1, x2)] := fun i hi => by
  obtain rfl : i = 0 := by simp at hi; omega
  exact ⟨_, 0, rfl, hk.lt, by rw [Nat.zero_mul, hk.cell]; rfl, by rw [Nat.zero_mul, hk.cell]; rfl⟩

theorem insI1 {u : World} {A1 A2 : Option Addr} {k m c1 c2 : Nat} {T1 T2 : List Itm} (h1 : Its u.heap.size u A1 T1) (h2 : Its u.heap.size u A2 T2) (x1 x2 : Int) (dt : List UInt8) (hb : ((T1.length + T2.length : Nat) : Int) ≤ 900000) (hk : T1.length = k) (hm : T2.length = m) :
    ∃ (v1 : Value) (z1 : World) (v2 : Value) (z2 : World) (a3 : Option Addr) (c3 : Nat) (z3 : World), Hid ((Builtin.append_ #[32, 32] 32 #[.slice (some ⟨u.heap.size, 0, none⟩) 0 0, .slice A1 k c1]).run Tryz.prog ((u.alloc (.cells #[] 158)).drew) = .ok v1 z1) ∧ Hid ((Builtin.append_ #[32, 32] 32 #[v1, .slice (some ⟨z1.heap.size, 0, none⟩) 1 1]).run Tryz.prog (z1.alloc (.cells #[.int .u64 x1, .int .u64 x2, .string ⟨dt.toArray⟩] 158)) = .ok v2 z2) ∧
      Hid ((Builtin.append_ #[32, 32] 32 #[v2, .slice A2 m c2]).run Tryz.prog (z2) = .ok (.slice a3 (T1 ++ ((⟨(x1, x2), dt⟩ : Itm) :: T2)).length c3) z3) ∧ Below u.heap.size u z1 ∧ Hid (z3.ownsRow u.heap.size 158 3 (.slice a3 (T1 ++ ((⟨(x1, x2), dt⟩ : Itm) :: T2)).length c3) (T1 ++ ((⟨(x1, x2), dt⟩ : Itm) :: T2)).length (icells (T1 ++ ((⟨(x1, x2), dt⟩ : Itm) :: T2))) ∧ (T1 ++ ((⟨(x1, x2), dt⟩ : Itm) :: T2)).length ≤ c3 ∧ Below u.heap.size u z3) := by
  have ho : (u.alloc (.cells #[] 158)).drew.ownsRow u.heap.size 158 3 (.slice (some ⟨u.heap.size, 0, none⟩) 0 0) 0 [] := (World.ownsRow_made (size := 3) u #[] 0 (Nat.le_refl _) (by decide) rfl).drew
  have hB0 : Below u.heap.size u (u.alloc (.cells #[] 158)).drew := ((Below.refl _ u).alloc (Nat.le_refl _) _).drew
  obtain ⟨v1, z1, hr1, hown1, hg1, _⟩ := append_its (u.alloc (.cells #[] 158)).drew u.heap.size 32 _ [] ho A1 T1 c1 (Its.ahead h1 hB0) (by simp; omega) hB0.size
  have hB1 : Below u.heap.size u z1 := below_own hB0 ho hg1 (Nat.le_refl _)
  obtain ⟨v2, z2, hr2, hown2, hg2⟩ := append_itm hown1 (x1, x2) dt (by simp; omega) hB1.size
  have hown1' := hown1.alloc (.cells #[.int .u64 x1, .int .u64 x2, .string ⟨dt.toArray⟩] 158)
  have HBN : Below u.heap.size u (z1.alloc (.cells #[.int .u64 x1, .int .u64 x2, .string ⟨dt.toArray⟩] 158)) := hB1.alloc hB1.size _
  rw [hk] at hr1
  have hB2 : Below u.heap.size u z2 := below_own HBN hown1' hg2 (Nat.le_refl _)
  obtain ⟨v3, z3, hr3, hown3, hg3, _⟩ := append_its z2 u.heap.size 32 v2 _ hown2 A2 T2 c2 (Its.ahead h2 hB2) (by simp; omega) hB2.size
  have hB3 : Below u.heap.size u z3 := below_own hB2 hown2 hg3 (Nat.le_refl _)
  have hL : ([] ++ T1 ++ [(⟨(x1, x2), dt⟩ : Itm)]) ++ T2 = (T1 ++ ((⟨(x1, x2), dt⟩ : Itm) :: T2)) := by simp
  rw [hL] at hown3
  obtain ⟨a3, c3, rfl, hc3⟩ := ownsRow_sliceN hown3
  rw [hm] at hr3
  exact ⟨v1, z1, v2, z2, a3, c3, z3, Lib.hid hr1, Lib.hid hr2, Lib.hid hr3, hB1, Lib.hid ⟨hown3, hc3, hB3⟩⟩

theorem insI2 {u : World} {A1 A2 : Option Addr} {k m c1 c2 : Nat} {T1 T2 : List Itm} (h1 : Its u.heap.size u A1 T1) (h2 : Its u.heap.size u A2 T2) (x1 x2 : Int) (dt : List UInt8) (hb : ((T1.length + T2.length : Nat) : Int) ≤ 900000) (hk : T1.length = k) (hm : T2.length = m) :
    ∃ (v1 : Value) (z1 : World) (v2 : Value) (z2 : World) (a3 : Option Addr) (c3 : Nat) (z3 : World), Hid ((Builtin.append_ #[32, 32] 32 #[.slice (some ⟨u.heap.size, 0, none⟩) 0 0, .slice A1 k c1]).run Tryz.prog (((u.alloc (.cells #[] 158)).alloc (.cells #[.int .u64 x1, .int .u64 x2, .string ⟨dt.toArray⟩] 158)).drew) = .ok v1 z1) ∧ Hid ((Builtin.append_ #[32, 32] 32 #[v1, .slice (some ⟨(u.heap.size + 1), 0, none⟩) 1 1]).run Tryz.prog (z1) = .ok v2 z2) ∧
      Hid ((Builtin.append_ #[32, 32] 32 #[v2, .slice A2 m c2]).run Tryz.prog (z2) = .ok (.slice a3 (T1 ++ ((⟨(x1, x2), dt⟩ : Itm) :: T2)).length c3) z3) ∧ Below u.heap.size u z1 ∧ Hid (z3.ownsRow u.heap.size 158 3 (.slice a3 (T1 ++ ((⟨(x1, x2), dt⟩ : Itm) :: T2)).length c3) (T1 ++ ((⟨(x1, x2), dt⟩ : Itm) :: T2)).length (icells (T1 ++ ((⟨(x1, x2), dt⟩ : Itm) :: T2))) ∧ (T1 ++ ((⟨(x1, x2), dt⟩ : Itm) :: T2)).length ≤ c3 ∧ Below u.heap.size u z3) := by
  have ho : (((u.alloc (.cells #[] 158)).alloc (.cells #[.int .u64 x1, .int .u64 x2, .string ⟨dt.toArray⟩] 158)).drew).ownsRow u.heap.size 158 3 (.slice (some ⟨u.heap.size, 0, none⟩) 0 0) 0 [] := by
    exact ((World.ownsRow_made (size := 3) u #[] 0 (Nat.le_refl _) (by decide) rfl).alloc (.cells #[.int .u64 x1, .int .u64 x2, .string ⟨dt.toArray⟩] 158)).drew
  have hB0 : Below u.heap.size u (((u.alloc (.cells #[] 158)).alloc (.cells #[.int .u64 x1, .int .u64 x2, .string ⟨dt.toArray⟩] 158)).drew) := (((Below.refl _ u).alloc (Nat.le_refl _) _).alloc (by simp) _).drew
  have hk0 : BK (u.heap.size + 1) #[.int .u64 x1, .int .u64 x2, .string ⟨dt.toArray⟩] 158 (((u.alloc (.cells #[] 158)).alloc (.cells #[.int .u64 x1, .int .u64 x2, .string ⟨dt.toArray⟩] 158)).drew) := BK.new2 u (.cells #[] 158) #[.int .u64 x1, .int .u64 x2, .string ⟨dt.toArray⟩] 158
  obtain ⟨v1, z1, hr1, hown1, hg1, _⟩ := append_its (((u.alloc (.cells #[] 158)).alloc (.cells #[.int .u64 x1, .int .u64 x2, .string ⟨dt.toArray⟩] 158)).drew) u.heap.size 32 _ [] ho A1 T1 c1 (Its.ahead h1 hB0) (by simp; omega) hB0.size
  have hB1 : Below u.heap.size u z1 := below_own hB0 ho hg1 (Nat.le_refl _)
  have hk1 : BK (u.heap.size + 1) #[.int .u64 x1, .int .u64 x2, .string ⟨dt.toArray⟩] 158 z1 := hk0.grow1 hg1 (by simp)
  obtain ⟨v2, z2, hr2, hown2, hg2, _⟩ := append_its z1 u.heap.size 32 v1 _ hown1 (some ⟨(u.heap.size + 1), 0, none⟩) [(⟨(x1, x2), dt⟩ : Itm)] 1 (its_one hk1) (by simp; omega) hB1.size
  have hown1' := hown1
  have HBN := hB1
  rw [hk] at hr1
  have hB2 : Below u.heap.size u z2 := below_own HBN hown1' hg2 (Nat.le_refl _)
  obtain ⟨v3, z3, hr3, hown3, hg3, _⟩ := append_its z2 u.heap.size 32 v2 _ hown2 A2 T2 c2 (Its.ahead h2 hB2) (by simp; omega) hB2.size
  have hB3 : Below u.heap.size u z3 := below_own hB2 hown2 hg3 (Nat.le_refl _)
  have hL : ([] ++ T1 ++ [(⟨(x1, x2), dt⟩ : Itm)]) ++ T2 = (T1 ++ ((⟨(x1, x2), dt⟩ : Itm) :: T2)) := by simp
  rw [hL] at hown3
  obtain ⟨a3, c3, rfl, hc3⟩ := ownsRow_sliceN hown3
  rw [hm] at hr3
  exact ⟨v1, z1, v2, z2, a3, c3, z3, Lib.hid hr1, Lib.hid hr2, Lib.hid hr3, hB1, Lib.hid ⟨hown3, hc3, hB3⟩⟩

theorem insI3 {u : World} {A1 A2 : Option Addr} {k m c1 c2 : Nat} {T1 T2 : List Itm} (h1 : Its u.heap.size u A1 T1) (h2 : Its u.heap.size u A2 T2) (x1 x2 : Int) (dt : List UInt8) (hb : ((T1.length + T2.length : Nat) : Int) ≤ 900000) (hk : T1.length = k) (hm : T2.length = m) :
    ∃ (v1 : Value) (z1 : World) (v2 : Value) (z2 : World) (a3 : Option Addr) (c3 : Nat) (z3 : World), Hid ((Builtin.append_ #[32, 32] 32 #[.slice (some ⟨(u.heap.size + 1), 0, none⟩) 0 0, .slice A1 k c1]).run Tryz.prog (((u.alloc (.cells #[.int .u64 x1, .int .u64 x2, .string ⟨dt.toArray⟩] 158)).alloc (.cells #[] 158)).drew) = .ok v1 z1) ∧ Hid ((Builtin.append_ #[32, 32] 32 #[v1, .slice (some ⟨u.heap.size, 0, none⟩) 1 1]).run Tryz.prog (z1) = .ok v2 z2) ∧
      Hid ((Builtin.append_ #[32, 32] 32 #[v2, .slice A2 m c2]).run Tryz.prog (z2) = .ok (.slice a3 (T1 ++ ((⟨(x1, x2), dt⟩ : Itm) :: T2)).length c3) z3) ∧ Below u.heap.size u z1 ∧ Hid (z3.ownsRow u.heap.size 158 3 (.slice a3 (T1 ++ ((⟨(x1, x2), dt⟩ : Itm) :: T2)).length c3) (T1 ++ ((⟨(x1, x2), dt⟩ : Itm) :: T2)).length (icells (T1 ++ ((⟨(x1, x2), dt⟩ : Itm) :: T2))) ∧ (T1 ++ ((⟨(x1, x2), dt⟩ : Itm) :: T2)).length ≤ c3 ∧ Below u.heap.size u z3) := by
  have ho : (((u.alloc (.cells #[.int .u64 x1, .int .u64 x2, .string ⟨dt.toArray⟩] 158)).alloc (.cells #[] 158)).drew).ownsRow u.heap.size 158 3 (.slice (some ⟨(u.heap.size + 1), 0, none⟩) 0 0) 0 [] := by
    have := (World.ownsRow_made (size := 3) (base := u.heap.size) (e := 158) (u.alloc (.cells #[.int .u64 x1, .int .u64 x2, .string ⟨dt.toArray⟩] 158)) #[] 0 (by simp) (by decide) rfl).drew
    rwa [World.size_alloc] at this
  have hB0 : Below u.heap.size u (((u.alloc (.cells #[.int .u64 x1, .int .u64 x2, .string ⟨dt.toArray⟩] 158)).alloc (.cells #[] 158)).drew) := (((Below.refl _ u).alloc (Nat.le_refl _) _).alloc (by simp) _).drew
  have hk0 : BK u.heap.size #[.int .u64 x1, .int .u64 x2, .string ⟨dt.toArray⟩] 158 (((u.alloc (.cells #[.int .u64 x1, .int .u64 x2, .string ⟨dt.toArray⟩] 158)).alloc (.cells #[] 158)).drew) := (BK.new u #[.int .u64 x1, .int .u64 x2, .string ⟨dt.toArray⟩] 158).alloc (.cells #[] 158)
  obtain ⟨v1, z1, hr1, hown1, hg1, _⟩ := append_its (((u.alloc (.cells #[.int .u64 x1, .int .u64 x2, .string ⟨dt.toArray⟩] 158)).alloc (.cells #[] 158)).drew) u.heap.size 32 _ [] ho A1 T1 c1 (Its.ahead h1 hB0) (by simp; omega) hB0.size
  have hB1 : Below u.heap.size u z1 := below_own hB0 ho hg1 (Nat.le_refl _)
  have hk1 : BK u.heap.size #[.int .u64 x1, .int .u64 x2, .string ⟨dt.toArray⟩] 158 z1 := hk0.grow1 hg1 (by simp)
  obtain ⟨v2, z2, hr2, hown2, hg2, _⟩ := append_its z1 u.heap.size 32 v1 _ hown1 (some ⟨u.heap.size, 0, none⟩) [(⟨(x1, x2), dt⟩ : Itm)] 1 (its_one hk1) (by simp; omega) hB1.size
  have hown1' := hown1
  have HBN := hB1
  rw [hk] at hr1
  have hB2 : Below u.heap.size u z2 := below_own HBN hown1' hg2 (Nat.le_refl _)
  obtain ⟨v3, z3, hr3, hown3, hg3, _⟩ := append_its z2 u.heap.size 32 v2 _ hown2 A2 T2 c2 (Its.ahead h2 hB2) (by simp; omega) hB2.size
  have hB3 : Below u.heap.size u z3 := below_own hB2 hown2 hg3 (Nat.le_refl _)
  have hL : ([] ++ T1 ++ [(⟨(x1, x2), dt⟩ : Itm)]) ++ T2 = (T1 ++ ((⟨(x1, x2), dt⟩ : Itm) :: T2)) := by simp
  rw [hL] at hown3
  obtain ⟨a3, c3, rfl, hc3⟩ := ownsRow_sliceN hown3
  rw [hm] at hr3
  exact ⟨v1, z1, v2, z2, a3, c3, z3, Lib.hid hr1, Lib.hid hr2, Lib.hid hr3, hB1, Lib.hid ⟨hown3, hc3, hB3⟩⟩

theorem insD1 {u : World} {A1 A2 : Option Addr} {k m c1 c2 : Nat} {T1 T2 : List (Int × Int)} (h1 : Digs u.heap.size u A1 T1) (h2 : Digs u.heap.size u A2 T2) (x1 x2 : Int) (hb : ((T1.length + T2.length : Nat) : Int) ≤ 900000) (hk : T1.length = k) (hm : T2.length = m) :
    ∃ (v1 : Value) (z1 : World) (v2 : Value) (z2 : World) (a3 : Option Addr) (c3 : Nat) (z3 : World), Hid ((Builtin.append_ #[98, 98] 98 #[.slice (some ⟨u.heap.size, 0, none⟩) 0 0, .slice A1 k c1]).run Tryz.prog ((u.alloc (.cells #[] 35)).drew) = .ok v1 z1) ∧ Hid ((Builtin.append_ #[98, 98] 98 #[v1, .slice (some ⟨z1.heap.size, 0, none⟩) 1 1]).run Tryz.prog (z1.alloc (.cells #[.int .u64 x1, .int .u64 x2] 35)) = .ok v2 z2) ∧
      Hid ((Builtin.append_ #[98, 98] 98 #[v2, .slice A2 m c2]).run Tryz.prog (z2) = .ok (.slice a3 (T1 ++ ((x1, x2) :: T2)).length c3) z3) ∧ Below u.heap.size u z1 ∧ Hid (z3.ownsRow u.heap.size 35 2 (.slice a3 (T1 ++ ((x1, x2) :: T2)).length c3) (T1 ++ ((x1, x2) :: T2)).length (dcells (T1 ++ ((x1, x2) :: T2))) ∧ (T1 ++ ((x1, x2) :: T2)).length ≤ c3 ∧ Below u.heap.size u z3) := by
  have ho : (u.alloc (.cells #[] 35)).drew.ownsRow u.heap.size 35 2 (.slice (some ⟨u.heap.size, 0, none⟩) 0 0) 0 [] := (World.ownsRow_made (size := 2) u #[] 0 (Nat.le_refl _) (by decide) rfl).drew
  have hB0 : Below u.heap.size u (u.alloc (.cells #[] 35)).drew := ((Below.refl _ u).alloc (Nat.le_refl _) _).drew
  obtain ⟨v1, z1, hr1, hown1, hg1, _⟩ := append_digs (u.alloc (.cells #[] 35)).drew u.heap.size 98 _ [] ho A1 T1 c1 (Digs.ahead h1 hB0) (by simp; omega) hB0.size
  have hB1 : Below u.heap.size u z1 := below_own hB0 ho hg1 (Nat.le_refl _)
  obtain ⟨v2, z2, hr2, hown2, hg2, _⟩ := append_one hown1 x1 x2 (by simp; omega) hB1.size
  have hown1' := hown1.alloc (.cells #[.int .u64 x1, .int .u64 x2] 35)
  have HBN : Below u.heap.size u (z1.alloc (.cells #[.int .u64 x1, .int .u64 x2] 35)) := hB1.alloc hB1.size _
  rw [hk] at hr1
  have hB2 : Below u.heap.size u z2 := below_own HBN hown1' hg2 (Nat.le_refl _)
  obtain ⟨v3, z3, hr3, hown3, hg3, _⟩ := append_digs z2 u.heap.size 98 v2 _ hown2 A2 T2 c2 (Digs.ahead h2 hB2) (by simp; omega) hB2.size
  have hB3 : Below u.heap.size u z3 := below_own hB2 hown2 hg3 (Nat.le_refl _)
  have hL : ([] ++ T1 ++ [(x1, x2)]) ++ T2 = (T1 ++ ((x1, x2) :: T2)) := by simp
  rw [hL] at hown3
  obtain ⟨a3, c3, rfl, hc3⟩ := ownsRow_sliceN hown3
  rw [hm] at hr3
  exact ⟨v1, z1, v2, z2, a3, c3, z3, Lib.hid hr1, Lib.hid hr2, Lib.hid hr3, hB1, Lib.hid ⟨hown3, hc3, hB3⟩⟩

theorem insD2 {u : World} {A1 A2 : Option Addr} {k m c1 c2 : Nat} {T1 T2 : List (Int × Int)} (h1 : Digs u.heap.size u A1 T1) (h2 : Digs u.heap.size u A2 T2) (x1 x2 : Int) (hb : ((T1.length + T2.length : Nat) : Int) ≤ 900000) (hk : T1.length = k) (hm : T2.length = m) :
    ∃ (v1 : Value) (z1 : World) (v2 : Value) (z2 : World) (a3 : Option Addr) (c3 : Nat) (z3 : World), Hid ((Builtin.append_ #[98, 98] 98 #[.slice (some ⟨u.heap.size, 0, none⟩) 0 0, .slice A1 k c1]).run Tryz.prog (((u.alloc (.cells #[] 35)).alloc (.cells #[.int .u64 x1, .int .u64 x2] 35)).drew) = .ok v1 z1) ∧ Hid ((Builtin.append_ #[98, 98] 98 #[v1, .slice (some ⟨(u.heap.size + 1), 0, none⟩) 1 1]).run Tryz.prog (z1) = .ok v2 z2) ∧
      Hid ((Builtin.append_ #[98, 98] 98 #[v2, .slice A2 m c2]).run Tryz.prog (z2) = .ok (.slice a3 (T1 ++ ((x1, x2) :: T2)).length c3) z3) ∧ Below u.heap.size u z1 ∧ Hid (z3.ownsRow u.heap.size 35 2 (.slice a3 (T1 ++ ((x1, x2) :: T2)).length c3) (T1 ++ ((x1, x2) :: T2)).length (dcells (T1 ++ ((x1, x2) :: T2))) ∧ (T1 ++ ((x1, x2) :: T2)).length ≤ c3 ∧ Below u.heap.size u z3) := by
  have ho : (((u.alloc (.cells #[] 35)).alloc (.cells #[.int .u64 x1, .int .u64 x2] 35)).drew).ownsRow u.heap.size 35 2 (.slice (some ⟨u.heap.size, 0, none⟩) 0 0) 0 [] := by
    exact ((World.ownsRow_made (size := 2) u #[] 0 (Nat.le_refl _) (by decide) rfl).alloc (.cells #[.int .u64 x1, .int .u64 x2] 35)).drew
  have hB0 : Below u.heap.size u (((u.alloc (.cells #[] 35)).alloc (.cells #[.int .u64 x1, .int .u64 x2] 35)).drew) := (((Below.refl _ u).alloc (Nat.le_refl _) _).alloc (by simp) _).drew
  have hk0 : BK (u.heap.size + 1) #[.int .u64 x1, .int .u64 x2] 35 (((u.alloc (.cells #[] 35)).alloc (.cells #[.int .u64 x1, .int .u64 x2] 35)).drew) := BK.new2 u (.cells #[] 35) #[.int .u64 x1, .int .u64 x2] 35
  obtain ⟨v1, z1, hr1, hown1, hg1, _⟩ := append_digs (((u.alloc (.cells #[] 35)).alloc (.cells #[.int .u64 x1, .int .u64 x2] 35)).drew) u.heap.size 98 _ [] ho A1 T1 c1 (Digs.ahead h1 hB0) (by simp; omega) hB0.size
  have hB1 : Below u.heap.size u z1 := below_own hB0 ho hg1 (Nat.le_refl _)
  have hk1 : BK (u.heap.size + 1) #[.int .u64 x1, .int .u64 x2] 35 z1 := hk0.grow1 hg1 (by simp)
  obtain ⟨v2, z2, hr2, hown2, hg2, _⟩ := append_digs z1 u.heap.size 98 v1 _ hown1 (some ⟨(u.heap.size + 1), 0, none⟩) [(x1, x2)] 1 (digs_one hk1) (by simp; omega) hB1.size
  have hown1' := hown1
  have HBN := hB1
  rw [hk] at hr1
  have hB2 : Below u.heap.size u z2 := below_own HBN hown1' hg2 (Nat.le_refl _)
  obtain ⟨v3, z3, hr3, hown3, hg3, _⟩ := append_digs z2 u.heap.size 98 v2 _ hown2 A2 T2 c2 (Digs.ahead h2 hB2) (by simp; omega) hB2.size
  have hB3 : Below u.heap.size u z3 := below_own hB2 hown2 hg3 (Nat.le_refl _)
  have hL : ([] ++ T1 ++ [(x1, x2)]) ++ T2 = (T1 ++ ((x1, x2) :: T2)) := by simp
  rw [hL] at hown3
  obtain ⟨a3, c3, rfl, hc3⟩ := ownsRow_sliceN hown3
  rw [hm] at hr3
  exact ⟨v1, z1, v2, z2, a3, c3, z3, Lib.hid hr1, Lib.hid hr2, Lib.hid hr3, hB1, Lib.hid ⟨hown3, hc3, hB3⟩⟩

theorem insD3 {u : World} {A1 A2 : Option Addr} {k m c1 c2 : Nat} {T1 T2 : List (Int × Int)} (h1 : Digs u.heap.size u A1 T1) (h2 : Digs u.heap.size u A2 T2) (x1 x2 : Int) (hb : ((T1.length + T2.length : Nat) : Int) ≤ 900000) (hk : T1.length = k) (hm : T2.length = m) :
    ∃ (v1 : Value) (z1 : World) (v2 : Value) (z2 : World) (a3 : Option Addr) (c3 : Nat) (z3 : World), Hid ((Builtin.append_ #[98, 98] 98 #[.slice (some ⟨(u.heap.size + 1), 0, none⟩) 0 0, .slice A1 k c1]).run Tryz.prog (((u.alloc (.cells #[.int .u64 x1, .int .u64 x2] 35)).alloc (.cells #[] 35)).drew) = .ok v1 z1) ∧ Hid ((Builtin.append_ #[98, 98] 98 #[v1, .slice (some ⟨u.heap.size, 0, none⟩) 1 1]).run Tryz.prog (z1) = .ok v2 z2) ∧
      Hid ((Builtin.append_ #[98, 98] 98 #[v2, .slice A2 m c2]).run Tryz.prog (z2) = .ok (.slice a3 (T1 ++ ((x1, x2) :: T2)).length c3) z3) ∧ Below u.heap.size u z1 ∧ Hid (z3.ownsRow u.heap.size 35 2 (.slice a3 (T1 ++ ((x1, x2) :: T2)).length c3) (T1 ++ ((x1, x2) :: T2)).length (dcells (T1 ++ ((x1, x2) :: T2))) ∧ (T1 ++ ((x1, x2) :: T2)).length ≤ c3 ∧ Below u.heap.size u z3) := by
  have ho : (((u.alloc (.cells #[.int .u64 x1, .int .u64 x2] 35)).alloc (.cells #[] 35)).drew).ownsRow u.heap.size 35 2 (.slice (some ⟨(u.heap.size + 1), 0, none⟩) 0 0) 0 [] := by
    have := (World.ownsRow_made (size := 2) (base := u.heap.size) (e := 35) (u.alloc (.cells #[.int .u64 x1, .int .u64 x2] 35)) #[] 0 (by simp) (by decide) rfl).drew
    rwa [World.size_alloc] at this
  have hB0 : Below u.heap.size u (((u.alloc (.cells #[.int .u64 x1, .int .u64 x2] 35)).alloc (.cells #[] 35)).drew) := (((Below.refl _ u).alloc (Nat.le_refl _) _).alloc (by simp) _).drew
  have hk0 : BK u.heap.size #[.int .u64 x1, .int .u64 x2] 35 (((u.alloc (.cells #[.int .u64 x1, .int .u64 x2] 35)).alloc (.cells #[] 35)).drew) := (BK.new u #[.int .u64 x1, .int .u64 x2] 35).alloc (.cells #[] 35)
  obtain ⟨v1, z1, hr1, hown1, hg1, _⟩ := append_digs (((u.alloc (.cells #[.int .u64 x1, .int .u64 x2] 35)).alloc (.cells #[] 35)).drew) u.heap.size 98 _ [] ho A1 T1 c1 (Digs.ahead h1 hB0) (by simp; omega) hB0.size
  have hB1 : Below u.heap.size u z1 := below_own hB0 ho hg1 (Nat.le_refl _)
  have hk1 : BK u.heap.size #[.int .u64 x1, .int .u64 x2] 35 z1 := hk0.grow1 hg1 (by simp)
  obtain ⟨v2, z2, hr2, hown2, hg2, _⟩ := append_digs z1 u.heap.size 98 v1 _ hown1 (some ⟨u.heap.size, 0, none⟩) [(x1, x2)] 1 (digs_one hk1) (by simp; omega) hB1.size
  have hown1' := hown1
  have HBN := hB1
  rw [hk] at hr1
  have hB2 : Below u.heap.size u z2 := below_own HBN hown1' hg2 (Nat.le_refl _)
  obtain ⟨v3, z3, hr3, hown3, hg3, _⟩ := append_digs z2 u.heap.size 98 v2 _ hown2 A2 T2 c2 (Digs.ahead h2 hB2) (by simp; omega) hB2.size
  have hB3 : Below u.heap.size u z3 := below_own hB2 hown2 hg3 (Nat.le_refl _)
  have hL : ([] ++ T1 ++ [(x1, x2)]) ++ T2 = (T1 ++ ((x1, x2) :: T2)) := by simp
  rw [hL] at hown3
  obtain ⟨a3, c3, rfl, hc3⟩ := ownsRow_sliceN hown3
  rw [hm] at hr3
  exact ⟨v1, z1, v2, z2, a3, c3, z3, Lib.hid hr1, Lib.hid hr2, Lib.hid hr3, hB1, Lib.hid ⟨hown3, hc3, hB3⟩⟩

end Go.Proofs.YtdedfkljaeloiaaGreatDoor

/- The reference's insert, With. -/
namespace Go.Proofs.YtdedfkljaeloiaaGreatDoor
open Go.RowKit Go.Shelf
set_option linter.unusedVariables false

theorem takeWhile_len {α : Type} {p : α → Bool} : ∀ {l : List α} {k : Nat}, k ≤ l.length → (∀ j (h : j < l.length), j < k → p l[j] = true) → (∀ h : k < l.length, p l[k] = false) → (l.takeWhile p).length = k
  | [], k, hk, _, _ => by simp at hk; subst hk; rfl
  | x :: l, 0, _, _, hi => by
    have := hi (by simp)
    simp only [List.getElem_cons_zero] at this
    rw [List.takeWhile_cons_of_neg (by simp [this])]; rfl
  | x :: l, k + 1, hk, lo, hi => by
    have h0 := lo 0 (by simp) (by omega)
    simp only [List.getElem_cons_zero] at h0
    rw [List.takeWhile_cons_of_pos h0, List.length_cons, takeWhile_len (k := k) (by simpa using hk) (fun j hj hlt => by
      have := lo (j + 1) (by simp; omega) (by omega)
      simpa using this) (fun h => by
      have := hi (by simp; omega)
      simpa using this)]
theorem at_of {xs : List Itm} (ha : Asc xs) {d : Int × Int} {k : Nat} (hk : k ≤ xs.length) (lo : ∀ j (h : j < xs.length), j < k → cmpD xs[j].d d < 0) (hi : ∀ h : k < xs.length, 0 ≤ cmpD xs[k].d d) : At xs d k := by
  refine ⟨hk, lo, fun j hj hle => ?_⟩
  have hkl : k < xs.length := by omega
  rcases Nat.lt_or_ge k j with h1 | h1
  · exact cmpD_trans2 (by
      have := ha k j hkl hj h1
      have h2 := hi hkl
      have g1 := cmpD_range xs[k].d xs[j].d
      have g2 := cmpD_range xs[k].d d
      exact this) (hi hkl)
  · obtain rfl : j = k := by omega
    exact hi hj

end Go.Proofs.YtdedfkljaeloiaaGreatDoor

/- The reference's With. -/
namespace Go.Proofs.YtdedfkljaeloiaaGreatDoor
open Go.RowKit Go.Shelf
set_option linter.unusedVariables false

theorem Digs.drop {B : Nat} {W : World} {a : Option Addr} {ds : List (Int × Int)} (h : Digs B W a ds) (k : Nat) : Digs B W (a.map (·.add (k * 2))) (ds.drop k) := by
  intro i hi
  have hi' : k + i < ds.length := by simp at hi; omega
  obtain ⟨b, off, rfl, hlt, h0, h1⟩ := h (k + i) hi'
  refine ⟨b, off + k * 2, by simp [Go.WideShapes.add_plain], hlt, ?_⟩
  rw [List.getElem_drop]
  rw [show off + k * 2 + i * 2 = off + (k + i) * 2 by omega]
  exact ⟨h0, h1⟩
theorem dslice_lo (a : Option Addr) (n c f m : Nat) (h : f ≤ n) (hc : n ≤ c) (hm : m = n - f) : ∃ (A1 : Option Addr) (c1 : Nat), (∀ B W (ds : List (Int × Int)), ds.length = n → Digs B W a ds → Digs B W A1 (ds.drop f)) ∧ ∀ W, (Instr.slice 98 (.slice a n c) (some (.int .i64 f)) none none).run Tryz.prog W = .ok (.slice A1 m c1) W := by
  refine ⟨if c = f then a else a.map (·.add (f * 2)), c - f, fun B W ps hl hp => ?_, fun W => ?_⟩
  · split
    · rw [List.drop_of_length_le (by omega)]; exact Digs.nil _ _ _
    · exact hp.drop f
  · rw [run_slice_l (P := Tryz.prog) W 98 a n c (by kernel_rfl) .i64 f (by omega) (by omega), size_dig]
    subst hm
    simp [sliced, Result.andThen]
def posD (l : List (Int × Int)) (d : Int × Int) : Nat := (l.takeWhile fun y => decide (cmpD y d < 0)).length
/-- A list of digests with one more. -/
def withS (l : List (Int × Int)) (d : Int × Int) : List (Int × Int) := if l[posD l d]? = some d then l else l.take (posD l d) ++ (d :: l.drop (posD l d))
def GotW (w : World) (pa : Option Addr) (L : List (Int × Int)) (e : Ending) (w' : World) : Prop := ∃ a c, e = .returned (.slice a L.length c) ∧ Digs w'.heap.size w' a L ∧ L.length ≤ c ∧ (a = pa ∨ ∀ ad, a = some ad → w.heap.size ≤ ad.block) ∧ Below w.heap.size w w'
theorem posD_of {l : List (Int × Int)} {d : Int × Int} {k : Nat} (hk : k ≤ l.length) (lo : ∀ j (h : j < l.length), j < k → cmpD l[j] d < 0) (hi : ∀ h : k < l.length, 0 ≤ cmpD l[k] d) : posD l d = k :=
  takeWhile_len hk (fun j h hj => by simpa using lo j h hj) (fun h => by have := hi h; simp; omega)

end Go.Proofs.YtdedfkljaeloiaaGreatDoor
