/- Joined texts: RpH, RpI, RpJ, RpK, RpL, RpM, RpN. -/
import Derived.Test.YtdedfkljaeloiaaGreatDoorK8

/- The reference's Put, Add, Keep, Union. -/
namespace Go.Proofs.YtdedfkljaeloiaaGreatDoor
open Go.RowKit Go.Shelf
set_option linter.unusedVariables false

theorem keepS_take (xs : List Itm) (l : List (Int × Int)) (k : Nat) (h : k < xs.length) : keepS (xs.take (k + 1)) l = keepS (xs.take k) l ++ (if decide (xs[k].d ∈ l) = true then [xs[k]] else []) := by
  unfold keepS
  rw [List.take_succ_eq_append_getElem h, List.filter_append]
  congr 1
  by_cases hd : xs[k].d ∈ l
  · simp [hd]
  · simp [hd]
/-- A pool with the items of another one. -/
def runS : List Itm → List Itm → List Itm × Int
  | zs, [] => (zs, 0)
  | zs, y :: ys => if (insS zs y).2 ≠ 0 then ([], (insS zs y).2) else runS (insS zs y).1 ys
end Go.Proofs.YtdedfkljaeloiaaGreatDoor

/- The reference's Same of objects. -/
namespace Go.Proofs.YtdedfkljaeloiaaGreatDoor
open Go.RowKit Go.Shelf
set_option linter.unusedVariables false

theorem neq_ent (xn yn : List UInt8) (xb yb : Bool) (x1 x2 y1 y2 : Int) (W : World) : (binOp .neq 111 (.agg #[.string ⟨xn.toArray⟩, .bool xb, .int .u64 x1, .int .u64 x2]) (.agg #[.string ⟨yn.toArray⟩, .bool yb, .int .u64 y1, .int .u64 y2])).run Tryz.prog W = .ok (.bool (!((xn == yn && xb == yb) && (x1 == y1 && x2 == y2)))) W := by
  rw [run_neq_struct, run_equalIn_struct W 9999 111 _ _ (by kernel_rfl) (by kernel_rfl)]
  have hf : (Tryz.prog.fieldsOf 111).toList = [{ name := "Name", type := 9, offset := 0, embedded := false, tag := "", pkgPath := "", byteOffset := 0 }, { name := "Dir", type := 4, offset := 1, embedded := false, tag := "", pkgPath := "", byteOffset := 16 }, { name := "Digest", type := 35, offset := 2, embedded := false, tag := "", pkgPath := "", byteOffset := 24 }] := by kernel_rfl
  rw [hf]
  have p0 : ∀ (s : ByteArray) (c : Bool) (a b : Int) (V : World), (Go.part 9 #[.string s, .bool c, .int .u64 a, .int .u64 b] 0).run Tryz.prog V = .ok (.string s) V := fun s c a b V => by kernel_rfl
  have p1 : ∀ (s : ByteArray) (c : Bool) (a b : Int) (V : World), (Go.part 4 #[.string s, .bool c, .int .u64 a, .int .u64 b] 1).run Tryz.prog V = .ok (.bool c) V := fun s c a b V => by kernel_rfl
  have p2 : ∀ (s : ByteArray) (c : Bool) (a b : Int) (V : World), (Go.part 35 #[.string s, .bool c, .int .u64 a, .int .u64 b] 2).run Tryz.prog V = .ok (.agg #[.int .u64 a, .int .u64 b]) V := fun s c a b V => by kernel_rfl
  have q0 := fun V => run_equalIn_string (P := Tryz.prog) V 9998 9 ⟨xn.toArray⟩ ⟨yn.toArray⟩ Tryz.underlying9
  have q1 := fun V => run_equalIn_bool' (P := Tryz.prog) V 9998 4 xb yb Tryz.underlying4
  have q2 := fun V => eqD_run 9997 x1 x2 y1 y2 V
  have hsx : (⟨xn.toArray⟩ : ByteArray).toList = xn := by rw [Lib.toList_data]
  have hsy : (⟨yn.toArray⟩ : ByteArray).toList = yn := by rw [Lib.toList_data]
  rw [hsx, hsy] at q0
  simp only [Op.eqFields, Sem.run_bind, Sem.run_ite, p0, p1, p2, q0, q1, q2, Result.andThen_ok]
  cases h1 : (xn == yn) <;> cases h2 : (xb == yb) <;> cases h3 : (x1 == y1 && x2 == y2) <;> simp

end Go.Proofs.YtdedfkljaeloiaaGreatDoor

/- slices.Index and slices.Contains at items. -/
namespace Go.Proofs.YtdedfkljaeloiaaGreatDoor
open Go.RowKit Go.Shelf
set_option linter.unusedVariables false

theorem eql_itm (x1 x2 y1 y2 : Int) (s t : List UInt8) (W : World) : (binOp .eql 158 (.agg #[.int .u64 x1, .int .u64 x2, .string ⟨s.toArray⟩]) (.agg #[.int .u64 y1, .int .u64 y2, .string ⟨t.toArray⟩])).run Tryz.prog W = .ok (.bool ((x1 == y1 && x2 == y2) && s == t)) W := by
  rw [run_eql_struct, run_equalIn_struct W 9999 158 _ _ (by kernel_rfl) (by kernel_rfl)]
  have hf : (Tryz.prog.fieldsOf 158).toList = [{ name := "Digest", type := 35, offset := 0, embedded := false, tag := "", pkgPath := "", byteOffset := 0 }, { name := "Data", type := 9, offset := 2, embedded := false, tag := "", pkgPath := "", byteOffset := 16 }] := by kernel_rfl
  rw [hf]
  have p0 : ∀ (a b : Int) (r : ByteArray) (V : World), (Go.part 35 #[.int .u64 a, .int .u64 b, .string r] 0).run Tryz.prog V = .ok (.agg #[.int .u64 a, .int .u64 b]) V := fun a b r V => by kernel_rfl
  have p2 : ∀ (a b : Int) (r : ByteArray) (V : World), (Go.part 9 #[.int .u64 a, .int .u64 b, .string r] 2).run Tryz.prog V = .ok (.string r) V := fun a b r V => by kernel_rfl
  have q0 := fun V => eqD_run 9997 x1 x2 y1 y2 V
  have q1 := fun V => run_equalIn_string (P := Tryz.prog) V 9998 9 ⟨s.toArray⟩ ⟨t.toArray⟩ Tryz.underlying9
  have hsx : (⟨s.toArray⟩ : ByteArray).toList = s := by rw [Lib.toList_data]
  have hsy : (⟨t.toArray⟩ : ByteArray).toList = t := by rw [Lib.toList_data]
  rw [hsx, hsy] at q1
  simp only [Op.eqFields, Sem.run_bind, Sem.run_ite, p0, p2, q0, q1, Result.andThen_ok]
  cases h1 : (x1 == y1 && x2 == y2) <;> cases h2 : (s == t) <;> simp

def IxR (xs : List Itm) (x : Itm) (n : Int) : Prop := (0 ≤ n ∧ x ∈ xs) ∨ (n = -1 ∧ x ∉ xs)
def GotIx (w : World) (xs : List Itm) (x : Itm) (e : Ending) (w' : World) : Prop := ∃ n : Int, e = .returned (.int .i64 n) ∧ IxR xs x n ∧ Below w.heap.size w w'
end Go.Proofs.YtdedfkljaeloiaaGreatDoor

/- The union of pools: the plain law. -/
namespace Go.Proofs.YtdedfkljaeloiaaGreatDoor
open Go.RowKit Go.Shelf
set_option linter.unusedVariables false

theorem asc_cons {x : Itm} {xs : List Itm} : Asc (x :: xs) ↔ Asc xs ∧ ∀ y ∈ xs, cmpD x.d y.d < 0 := by
  constructor
  · intro h
    refine ⟨fun i j hi hj hij => ?_, fun y hy => ?_⟩
    · have := h (i + 1) (j + 1) (by simp; omega) (by simp; omega) (by omega)
      simpa using this
    · obtain ⟨j, hj, rfl⟩ := List.getElem_of_mem hy
      have := h 0 (j + 1) (by simp) (by simp; omega) (by omega)
      simpa using this
  · rintro ⟨h1, h2⟩ i j hi hj hij
    cases i with
    | zero =>
      cases j with
      | zero => omega
      | succ j => simp only [List.getElem_cons_zero, List.getElem_cons_succ]; exact h2 _ (List.getElem_mem _)
    | succ i =>
      cases j with
      | zero => omega
      | succ j => simp only [List.getElem_cons_succ]; exact h1 i j (by simp at hi; omega) (by simp at hj; omega) (by omega)
theorem asc_same {xs : List Itm} (h : Asc xs) {x y : Itm} (hx : x ∈ xs) (hy : y ∈ xs) (hd : x.d = y.d) : x = y := by
  obtain ⟨i, hi, rfl⟩ := List.getElem_of_mem hx
  obtain ⟨j, hj, rfl⟩ := List.getElem_of_mem hy
  rcases Nat.lt_trichotomy i j with h1 | h1 | h1
  · have := h i j hi hj h1; rw [hd, cmpD_self] at this; omega
  · subst h1; rfl
  · have := h j i hj hi h1; rw [hd, cmpD_self] at this; omega
def Clash (xs ys : List Itm) : Prop := ∃ z y, (z ∈ xs ∨ z ∈ ys) ∧ (y ∈ xs ∨ y ∈ ys) ∧ z.d = y.d ∧ z ≠ y
theorem Clash.symm {xs ys : List Itm} (h : Clash xs ys) : Clash ys xs := by
  obtain ⟨z, y, h1, h2, h3⟩ := h
  exact ⟨z, y, h1.symm, h2.symm, h3⟩
structure UniOk (xs ys zs : List Itm) : Prop where
  asc : Asc zs
  mem : ∀ z, z ∈ zs ↔ z ∈ xs ∨ z ∈ ys
theorem UniOk.no {xs ys zs : List Itm} (h : UniOk xs ys zs) (hc : Clash xs ys) : False := by
  obtain ⟨z, y, h1, h2, h3, h4⟩ := hc
  exact h4 (asc_same h.asc ((h.mem z).2 h1) ((h.mem y).2 h2) h3)
theorem uniF_law : ∀ (f : Nat) (xs ys : List Itm), xs.length + ys.length ≤ f → Asc xs → Asc ys → (uniF f xs ys = none ∧ Clash xs ys) ∨ ∃ zs, uniF f xs ys = some zs ∧ UniOk xs ys zs
  | 0, xs, ys, hl, _, _ => by
    have h1 : xs = [] := List.eq_nil_of_length_eq_zero (by omega)
    have h2 : ys = [] := List.eq_nil_of_length_eq_zero (by omega)
    subst h1 h2
    exact .inr ⟨[], rfl, fun i j hi => by simp at hi, by simp⟩
  | f + 1, [], [], _, _, _ => .inr ⟨[], rfl, fun i j hi => by simp at hi, by simp⟩
  | f + 1, [], y :: ys, hl, hx, hy => by
    obtain ⟨hy1, hy2⟩ := asc_cons.1 hy
    rcases uniF_law f [] ys (by simp at hl ⊢; omega) hx hy1 with ⟨h1, h2⟩ | ⟨zs, h1, h2⟩
    · left
      refine ⟨by rw [uniF, h1]; rfl, ?_⟩
      obtain ⟨a, b, ha, hb, hc⟩ := h2
      exact ⟨a, b, by simp at ha ⊢; exact .inr ha, by simp at hb ⊢; exact .inr hb, hc⟩
    · right
      refine ⟨y :: zs, by rw [uniF, h1]; rfl, asc_cons.2 ⟨h2.asc, fun z hz => ?_⟩, fun z => ?_⟩
      · have := (h2.mem z).1 hz
        simp at this
        exact hy2 z this
      · have := h2.mem z
        simp at this ⊢
        rw [this]
  | f + 1, x :: xs, [], hl, hx, hy => by
    obtain ⟨hx1, hx2⟩ := asc_cons.1 hx
    rcases uniF_law f xs [] (by simp at hl ⊢; omega) hx1 hy with ⟨h1, h2⟩ | ⟨zs, h1, h2⟩
    · left
      refine ⟨by rw [uniF, h1]; rfl, ?_⟩
      obtain ⟨a, b, ha, hb, hc⟩ := h2
      exact ⟨a, b, by simp at ha ⊢; exact .inr ha, by simp at hb ⊢; exact .inr hb, hc⟩
    · right
      refine ⟨x :: zs, by rw [uniF, h1]; rfl, asc_cons.2 ⟨h2.asc, fun z hz => ?_⟩, fun z => ?_⟩
      · have := (h2.mem z).1 hz
        simp at this
        exact hx2 z this
      · have := h2.mem z
        simp at this ⊢
        rw [this]
  | f + 1, x :: xs, y :: ys, hl, hx, hy => by
    obtain ⟨hx1, hx2⟩ := asc_cons.1 hx
    obtain ⟨hy1, hy2⟩ := asc_cons.1 hy
    rw [uniF]
    by_cases hc : cmpD x.d y.d = 0
    · rw [if_pos hc]
      have hd : x.d = y.d := cmpD_zero.1 hc
      by_cases hdt : x.data = y.data
      · rw [if_pos hdt]
        have hxy : x = y := by cases x; cases y; simp only at hd hdt; subst hd hdt; rfl
        subst hxy
        rcases uniF_law f xs ys (by simp at hl; omega) hx1 hy1 with ⟨h1, h2⟩ | ⟨zs, h1, h2⟩
        · left
          refine ⟨by rw [h1]; rfl, ?_⟩
          obtain ⟨a, b, ha, hb, hcc⟩ := h2
          exact ⟨a, b, by rcases ha with h | h <;> simp [h], by rcases hb with h | h <;> simp [h], hcc⟩
        · right
          refine ⟨x :: zs, by rw [h1]; rfl, asc_cons.2 ⟨h2.asc, fun z hz => ?_⟩, fun z => ?_⟩
          · rcases (h2.mem z).1 hz with h | h
            · exact hx2 z h
            · exact hy2 z h
          · have := h2.mem z
            simp only [List.mem_cons, this]
            constructor
            · rintro (h | h | h)
              · exact .inl (.inl h)
              · exact .inl (.inr h)
              · exact .inr (.inr h)
            · rintro ((h | h) | (h | h))
              · exact .inl h
              · exact .inr (.inl h)
              · exact .inl h
              · exact .inr (.inr h)
      · rw [if_neg hdt]
        exact .inl ⟨rfl, x, y, by simp, by simp, hd, fun h => hdt (by rw [h])⟩
    · rw [if_neg hc]
      by_cases hc2 : cmpD x.d y.d < 0
      · rw [if_pos hc2]
        rcases uniF_law f xs (y :: ys) (by simp at hl ⊢; omega) hx1 hy with ⟨h1, h2⟩ | ⟨zs, h1, h2⟩
        · left
          refine ⟨by rw [h1]; rfl, ?_⟩
          obtain ⟨a, b, ha, hb, hcc⟩ := h2
          exact ⟨a, b, by rcases ha with h | h <;> simp [h], by rcases hb with h | h <;> simp [h], hcc⟩
        · right
          refine ⟨x :: zs, by rw [h1]; rfl, asc_cons.2 ⟨h2.asc, fun z hz => ?_⟩, fun z => ?_⟩
          · rcases (h2.mem z).1 hz with h | h
            · exact hx2 z h
            · rcases List.mem_cons.1 h with rfl | h
              · exact hc2
              · exact cmpD_trans hc2 (hy2 z h)
          · rw [List.mem_cons, h2.mem z, List.mem_cons (a := z) (b := x), or_assoc]
      · rw [if_neg hc2]
        have hc3 : cmpD y.d x.d < 0 := by
          have := cmpD_anti (a := x.d) (b := y.d)
          omega
        rcases uniF_law f (x :: xs) ys (by simp at hl ⊢; omega) hx hy1 with ⟨h1, h2⟩ | ⟨zs, h1, h2⟩
        · left
          refine ⟨by rw [h1]; rfl, ?_⟩
          obtain ⟨a, b, ha, hb, hcc⟩ := h2
          exact ⟨a, b, by rcases ha with h | h <;> simp [h], by rcases hb with h | h <;> simp [h], hcc⟩
        · right
          refine ⟨y :: zs, by rw [h1]; rfl, asc_cons.2 ⟨h2.asc, fun z hz => ?_⟩, fun z => ?_⟩
          · rcases (h2.mem z).1 hz with h | h
            · rcases List.mem_cons.1 h with rfl | h
              · exact hc3
              · exact cmpD_trans hc3 (hx2 z h)
            · exact hy2 z h
          · rw [List.mem_cons, h2.mem z, List.mem_cons (a := z) (b := y)]
            constructor
            · rintro (h | h | h)
              · exact .inr (.inl h)
              · exact .inl h
              · exact .inr (.inr h)
            · rintro (h | h | h)
              · exact .inr (.inl h)
              · exact .inl h
              · exact .inr (.inr h)
theorem uniS_law {xs ys : List Itm} (hx : Asc xs) (hy : Asc ys) : (uniS xs ys = ([], 16) ∧ Clash xs ys) ∨ ∃ zs, uniS xs ys = (zs, 0) ∧ UniOk xs ys zs := by
  unfold uniS
  rcases uniF_law (xs.length + ys.length) xs ys (Nat.le_refl _) hx hy with ⟨h1, h2⟩ | ⟨zs, h1, h2⟩
  · exact .inl ⟨by rw [h1]; rfl, h2⟩
  · exact .inr ⟨zs, by rw [h1]; rfl, h2⟩
theorem uniS_comm {xs ys : List Itm} (hx : Asc xs) (hy : Asc ys) : uniS xs ys = uniS ys xs := by
  rcases uniS_law hx hy with ⟨h1, h2⟩ | ⟨zs, h1, h2⟩
  · rcases uniS_law hy hx with ⟨h3, _⟩ | ⟨zs', _, h4⟩
    · rw [h1, h3]
    · exact absurd h2.symm (fun h => h4.no h)
  · rcases uniS_law hy hx with ⟨_, h4⟩ | ⟨zs', h3, h4⟩
    · exact absurd h4.symm (fun h => h2.no h)
    · rw [h1, h3, asc_ext h2.asc h4.asc (fun z => by rw [h2.mem, h4.mem, or_comm])]
theorem runS_law : ∀ {ys xs : List Itm}, Asc xs → (runS xs ys = ([], 16) ∧ Clash xs ys) ∨ ∃ zs, runS xs ys = (zs, 0) ∧ UniOk xs ys zs
  | [], xs, hx => .inr ⟨xs, rfl, hx, by simp⟩
  | y :: ys, xs, hx => by
    rw [runS]
    by_cases he : (insS xs y).2 = 0
    · rw [if_neg (by simpa using he)]
      obtain ⟨h1, h2, _⟩ := ins_law hx (show insS xs y = ((insS xs y).1, 0) by rw [← he])
      rcases runS_law (ys := ys) h1 with ⟨h3, h4⟩ | ⟨zs, h3, h4⟩
      · left
        refine ⟨h3, ?_⟩
        obtain ⟨a, b, ha, hb, hc⟩ := h4
        refine ⟨a, b, ?_, ?_, hc⟩
        · rcases ha with h | h
          · rcases (h2 a).1 h with h | rfl
            · exact .inl h
            · simp
          · simp [h]
        · rcases hb with h | h
          · rcases (h2 b).1 h with h | rfl
            · exact .inl h
            · simp
          · simp [h]
      · right
        refine ⟨zs, h3, h4.asc, fun z => ?_⟩
        rw [h4.mem, h2, List.mem_cons, or_assoc]
    · rw [if_pos he]
      left
      have hat := asc_at hx y.d
      cases hh : hitB xs y.d (posI xs y.d) with
      | false => rw [insS_miss hat hh] at he; exact absurd rfl he
      | true =>
        obtain ⟨hk, hkd, hi⟩ := insS_hit hat hh
        rw [hi] at he ⊢
        by_cases hdt : xs[posI xs y.d].data = y.data
        · rw [if_pos hdt] at he; exact absurd rfl he
        · rw [if_neg hdt]
          exact ⟨rfl, xs[posI xs y.d], y, .inl (List.getElem_mem hk), by simp, hkd, fun h => hdt (by rw [h])⟩
theorem runS_eq {xs ys : List Itm} (hx : Asc xs) (hy : Asc ys) : runS xs ys = uniS xs ys := by
  rcases uniS_law hx hy with ⟨h1, h2⟩ | ⟨zs, h1, h2⟩
  · rcases runS_law (ys := ys) hx with ⟨h3, _⟩ | ⟨zs', _, h4⟩
    · rw [h1, h3]
    · exact absurd h2 (fun h => h4.no h)
  · rcases runS_law (ys := ys) hx with ⟨_, h4⟩ | ⟨zs', h3, h4⟩
    · exact absurd h4 (fun h => h2.no h)
    · rw [h1, h3, asc_ext h2.asc h4.asc (fun z => by rw [h2.mem, h4.mem])]
theorem asc_filter {xs : List Itm} (h : Asc xs) (p : Itm → Bool) : Asc (xs.filter p) := by
  induction xs with
  | nil => exact fun i j hi => by simp at hi
  | cons x xs ih =>
    obtain ⟨h1, h2⟩ := asc_cons.1 h
    rw [List.filter_cons]
    split
    · exact asc_cons.2 ⟨ih h1, fun y hy => h2 y (List.mem_filter.1 hy).1⟩
    · exact ih h1
/-- The digests of a pool that are in no list. -/
def restS (xs : List Itm) (l : List (Int × Int)) : List (Int × Int) := (xs.filter fun x => !decide (x.d ∈ l)).map (·.d)
theorem keep_union {xs : List Itm} (h : Asc xs) (l : List (Int × Int)) : uniS (keepS xs l) (keepS xs (restS xs l)) = (xs, 0) := by
  have h1 : Asc (keepS xs l) := asc_filter h _
  have h2 : Asc (keepS xs (restS xs l)) := asc_filter h _
  have hm1 : ∀ z, z ∈ keepS xs l ↔ z ∈ xs ∧ z.d ∈ l := fun z => by simp [keepS]
  have hr : ∀ d, d ∈ restS xs l ↔ ∃ y, (y ∈ xs ∧ y.d ∉ l) ∧ y.d = d := fun d => by simp [restS]
  have hm2 : ∀ z, z ∈ keepS xs (restS xs l) ↔ z ∈ xs ∧ z.d ∉ l := fun z => by
    unfold keepS
    rw [List.mem_filter]
    constructor
    · rintro ⟨ha, hb⟩
      obtain ⟨y, ⟨_, hy⟩, hc⟩ := (hr z.d).1 (of_decide_eq_true hb)
      exact ⟨ha, by rw [← hc]; exact hy⟩
    · rintro ⟨ha, hb⟩
      exact ⟨ha, decide_eq_true ((hr z.d).2 ⟨z, ⟨ha, hb⟩, rfl⟩)⟩
  rcases uniS_law h1 h2 with ⟨_, ⟨a, b, ha, hb, hc, hd⟩⟩ | ⟨zs, h3, h4⟩
  · exfalso
    refine hd (asc_same h ?_ ?_ hc)
    · rcases ha with h5 | h5
      · exact ((hm1 a).1 h5).1
      · exact ((hm2 a).1 h5).1
    · rcases hb with h5 | h5
      · exact ((hm1 b).1 h5).1
      · exact ((hm2 b).1 h5).1
  · rw [h3, asc_ext h4.asc h (fun z => by
      rw [h4.mem, hm1, hm2]
      by_cases hz : z.d ∈ l <;> simp [hz])]
theorem chkGo_of : ∀ {xs : List Itm} {p : Option (Int × Int)}, (∀ x ∈ xs, chkI x = 0) → Asc xs → (∀ q, p = some q → ∀ x ∈ xs, cmpD q x.d < 0) → chkGo p xs = 0
  | [], p, _, _, _ => by cases p <;> rfl
  | x :: xs, p, h1, h2, h3 => by
    obtain ⟨h4, h5⟩ := asc_cons.1 h2
    rw [chkGo, if_neg (by simpa using h1 x (by simp)), if_neg]
    · exact chkGo_of (fun y hy => h1 y (by simp [hy])) h4 (fun q hq y hy => by cases hq; exact h5 y hy)
    · cases p with
      | none => simp [prevD]
      | some q =>
        have := h3 q rfl x (by simp)
        have := cmpD_anti (a := x.d) (b := q)
        simp [prevD]
        omega

end Go.Proofs.YtdedfkljaeloiaaGreatDoor

/- cordwoodref07.Links. -/
namespace Go.Proofs.YtdedfkljaeloiaaGreatDoor
open Go.RowKit Go.Shelf
set_option linter.unusedVariables false

theorem links_form {o : Ob} (h : (encodeS o).2 = 0) : linksS o = ((o.ents.map (·.d)) ++ (if o.kind = 3 then [o.tree] else [])) ++ o.pars := by
  unfold linksS
  rw [if_neg (by simpa using h)]
  by_cases h3 : o.kind = 3
  · simp [h3]
  · have hc := (encodeS_parts (encodeS_err h)).1
    have hk := checkS_kind hc
    have hp : o.pars = [] := by
      by_cases h1 : o.kind = 1 ∨ o.kind = 4
      · rw [checkS_one hc h1]; rfl
      · rw [(checkS_two hc (by omega)).1]; rfl
    simp [h3, hp]
theorem own_empty (W : World) (base : Nat) (e : TypeId) (z : Nat) (h : base ≤ W.heap.size) : (W.alloc (.cells #[] e)).ownsRow base e z (.slice (some ⟨W.heap.size, 0, none⟩) 0 0) 0 [] := by
  refine ⟨by simp, .inr ⟨W.heap.size, 0, #[], rfl, h, BK.new W #[] e, Nat.le_refl _, by unfold maxLen; omega, by simp, by simp⟩⟩

end Go.Proofs.YtdedfkljaeloiaaGreatDoor

/- What is reached from some roots: the plain law of both searches. -/
namespace Go.Proofs.YtdedfkljaeloiaaGreatDoor
open Go.RowKit Go.Shelf Go.Sort
set_option linter.unusedVariables false

/-- What is reached from some roots: digests other than the zero one. -/
inductive Rch (xs : List Itm) (roots : List (Int × Int)) : Int × Int → Prop
  | root {d : Int × Int} : d ∈ roots → d ≠ (0, 0) → Rch xs roots d
  | link {d l : Int × Int} : Rch xs roots d → (getS xs d).2 = 0 → l ∈ linksS (getS xs d).1 → l ≠ (0, 0) → Rch xs roots l
/-- A search under way: what is open, met, missing. -/
structure Sea (xs : List Itm) (roots op T M : List (Int × Int)) : Prop where
  o : ∀ d ∈ op, d ≠ (0, 0) → Rch xs roots d
  t : ∀ d ∈ T, Rch xs roots d ∧ (getS xs d).2 = 0
  m : ∀ d ∈ M, Rch xs roots d ∧ (getS xs d).2 ≠ 0
  rt : ∀ d ∈ roots, d = (0, 0) ∨ d ∈ T ∨ d ∈ M ∨ d ∈ op
  ln : ∀ d ∈ T, ∀ l ∈ linksS (getS xs d).1, l = (0, 0) ∨ l ∈ T ∨ l ∈ M ∨ l ∈ op
theorem Sea.start (xs : List Itm) (roots : List (Int × Int)) : Sea xs roots roots [] [] :=
  ⟨fun d h1 h2 => .root h1 h2, fun d h => (by simp at h), fun d h => (by simp at h), fun d h => .inr (.inr (.inr h)), fun d h => (by simp at h)⟩
theorem Sea.step {xs : List Itm} {roots op T M op' T' M' : List (Int × Int)} (h : Sea xs roots op T M)
    (hk : ∀ x, x ∈ op ∨ x ∈ T ∨ x ∈ M → x = (0, 0) ∨ x ∈ T' ∨ x ∈ M' ∨ x ∈ op')
    (hT : ∀ x ∈ T', x ∈ T ∨ (x ∈ op ∧ x ≠ (0, 0) ∧ (getS xs x).2 = 0))
    (hM : ∀ x ∈ M', x ∈ M ∨ (x ∈ op ∧ x ≠ (0, 0) ∧ (getS xs x).2 ≠ 0))
    (hO : ∀ x ∈ op', x ∈ op ∨ ∃ t ∈ T', x ∈ linksS (getS xs t).1)
    (hN : ∀ t ∈ T', t ∉ T → ∀ l ∈ linksS (getS xs t).1, l = (0, 0) ∨ l ∈ T' ∨ l ∈ M' ∨ l ∈ op') : Sea xs roots op' T' M' := by
  have ht : ∀ d ∈ T', Rch xs roots d ∧ (getS xs d).2 = 0 := fun d hd => by
    rcases hT d hd with h1 | ⟨h1, h2, h3⟩
    · exact h.t d h1
    · exact ⟨h.o d h1 h2, h3⟩
  refine ⟨fun d hd hz => ?_, ht, fun d hd => ?_, fun d hd => ?_, fun d hd l hl => ?_⟩
  · rcases hO d hd with h1 | ⟨t, h1, h2⟩
    · exact h.o d h1 hz
    · exact .link (ht t h1).1 (ht t h1).2 h2 hz
  · rcases hM d hd with h1 | ⟨h1, h2, h3⟩
    · exact h.m d h1
    · exact ⟨h.o d h1 h2, h3⟩
  · rcases h.rt d hd with h1 | h1 | h1 | h1
    · exact .inl h1
    · exact hk d (.inr (.inl h1))
    · exact hk d (.inr (.inr h1))
    · exact hk d (.inl h1)
  · by_cases hq : d ∈ T
    · rcases h.ln d hq l hl with h1 | h1 | h1 | h1
      · exact .inl h1
      · exact hk l (.inr (.inl h1))
      · exact hk l (.inr (.inr h1))
      · exact hk l (.inl h1)
    · exact hN d hd hq l hl
theorem Sea.done {xs : List Itm} {roots T M : List (Int × Int)} (h : Sea xs roots [] T M) (d : Int × Int) : (d ∈ T ↔ Rch xs roots d ∧ (getS xs d).2 = 0) ∧ (d ∈ M ↔ Rch xs roots d ∧ (getS xs d).2 ≠ 0) := by
  have key : ∀ d, Rch xs roots d → d ∈ T ∨ d ∈ M := by
    intro d hd
    induction hd with
    | root h1 h2 =>
      rcases h.rt _ h1 with h3 | h3 | h3 | h3
      · exact absurd h3 h2
      · exact .inl h3
      · exact .inr h3
      · simp at h3
    | link h1 h2 h3 h4 ih =>
      rcases ih with ih | ih
      · rcases h.ln _ ih _ h3 with h5 | h5 | h5 | h5
        · exact absurd h5 h4
        · exact .inl h5
        · exact .inr h5
        · simp at h5
      · exact absurd h2 (h.m _ ih).2
  refine ⟨⟨h.t d, fun hd => ?_⟩, ⟨h.m d, fun hd => ?_⟩⟩
  · rcases key d hd.1 with h1 | h1
    · exact h1
    · exact absurd hd.2 (h.m d h1).2
  · rcases key d hd.1 with h1 | h1
    · exact absurd (h.t d h1).2 hd.2
    · exact h1
theorem nodup_snoc {R : List (Int × Int)} {d : Int × Int} (h : R.Nodup) (hd : d ∉ R) : (R ++ [d]).Nodup := by
  rw [List.nodup_append]
  refine ⟨h, by simp, fun a ha b hb e => ?_⟩
  simp at hb
  exact hd (by rw [← hb, ← e]; exact ha)
theorem reachF_sea (xs : List Itm) (roots : List (Int × Int)) : ∀ (f : Nat) (op met R M : List (Int × Int)), Sea xs roots op R M → (∀ d, d ∈ met ↔ d = (0, 0) ∨ d ∈ R ∨ d ∈ M) → R.Nodup → M.Nodup → mea xs op met ≤ f →
    Sea xs roots [] (reachF xs f op met R M).1 (reachF xs f op met R M).2 ∧ (reachF xs f op met R M).1.Nodup ∧ (reachF xs f op met R M).2.Nodup
  | 0, op, met, R, M, h, hm, h1, h2, hf => by
    have : op = [] := by unfold mea at hf; exact List.eq_nil_of_length_eq_zero (by omega)
    subst this
    exact ⟨h, h1, h2⟩
  | f + 1, op, met, R, M, h, hm, h1, h2, hf => by
    rcases List.eq_nil_or_concat op with rfl | ⟨l, d, rfl⟩
    · rw [reachF_nil]; exact ⟨h, h1, h2⟩
    · rw [List.concat_eq_append] at h hf ⊢
      have hin : ∀ x, x ∈ l ++ [d] ↔ x ∈ l ∨ x = d := fun x => by simp
      by_cases hd : d ∈ met
      · rw [reachF_met hd]
        refine reachF_sea xs roots f l met R M (h.step ?_ (fun x hx => .inl hx) (fun x hx => .inl hx) (fun x hx => .inl ((hin x).2 (.inl hx))) (fun t h1 h2 => absurd h1 h2)) hm h1 h2 (by have := mea_pop xs l met d; omega)
        intro x hx
        rcases hx with hx | hx | hx
        · rcases (hin x).1 hx with hx | rfl
          · exact .inr (.inr (.inr hx))
          · rcases (hm x).1 hd with h3 | h3 | h3
            · exact .inl h3
            · exact .inr (.inl h3)
            · exact .inr (.inr (.inl h3))
        · exact .inr (.inl hx)
        · exact .inr (.inr (.inl hx))
      · have hz : d ≠ (0, 0) := fun e => hd ((hm d).2 (.inl e))
        have hR : d ∉ R := fun e => hd ((hm d).2 (.inr (.inl e)))
        have hM : d ∉ M := fun e => hd ((hm d).2 (.inr (.inr e)))
        by_cases he : (getS xs d).2 = 0
        · rw [reachF_hit hd he]
          have hfl : ((linksS (getS xs d).1).filter fun l => !decide (l ∈ d :: met)).length ≤ 200 := Nat.le_trans (List.length_filter_le _ _) (links_le _)
          refine reachF_sea xs roots f _ (d :: met) (R ++ [d]) M (h.step ?_ ?_ (fun x hx => .inl hx) ?_ ?_) (fun x => ?_) (nodup_snoc h1 hR) h2 (by have := mea_hit (op := l) hd he hfl; omega)
          · intro x hx
            rcases hx with hx | hx | hx
            · rcases (hin x).1 hx with hx | rfl
              · exact .inr (.inr (.inr (by simp [hx])))
              · exact .inr (.inl (by simp))
            · exact .inr (.inl (by simp [hx]))
            · exact .inr (.inr (.inl hx))
          · intro x hx
            rcases List.mem_append.1 hx with hx | hx
            · exact .inl hx
            · simp at hx; subst hx; exact .inr ⟨(hin x).2 (.inr rfl), hz, he⟩
          · intro x hx
            rcases List.mem_append.1 hx with hx | hx
            · exact .inl ((hin x).2 (.inl hx))
            · exact .inr ⟨d, by simp, (List.mem_filter.1 hx).1⟩
          · intro t ht htR l2 hl
            have : t = d := by
              rcases List.mem_append.1 ht with h3 | h3
              · exact absurd h3 htR
              · simpa using h3
            subst this
            by_cases h4 : l2 ∈ t :: met
            · rcases List.mem_cons.1 h4 with rfl | h5
              · exact .inr (.inl (by simp))
              · rcases (hm l2).1 h5 with h6 | h6 | h6
                · exact .inl h6
                · exact .inr (.inl (by simp [h6]))
                · exact .inr (.inr (.inl h6))
            · refine .inr (.inr (.inr (List.mem_append.2 (.inr (List.mem_filter.2 ⟨hl, ?_⟩)))))
              rw [decide_eq_false h4]; rfl
          · rw [List.mem_cons, hm x, List.mem_append, List.mem_singleton]
            constructor
            · rintro (h3 | h3 | h3 | h3)
              · exact .inr (.inl (.inr h3))
              · exact .inl h3
              · exact .inr (.inl (.inl h3))
              · exact .inr (.inr h3)
            · rintro (h3 | (h3 | h3) | h3)
              · exact .inr (.inl h3)
              · exact .inr (.inr (.inl h3))
              · exact .inl h3
              · exact .inr (.inr (.inr h3))
        · rw [reachF_miss hd he]
          refine reachF_sea xs roots f l (d :: met) R (M ++ [d]) (h.step ?_ (fun x hx => .inl hx) ?_ (fun x hx => .inl ((hin x).2 (.inl hx))) (fun t h1 h2 => absurd h1 h2)) (fun x => ?_) h1 (nodup_snoc h2 hM) (by have := mea_miss xs l met d; omega)
          · intro x hx
            rcases hx with hx | hx | hx
            · rcases (hin x).1 hx with hx | rfl
              · exact .inr (.inr (.inr hx))
              · exact .inr (.inr (.inl (by simp)))
            · exact .inr (.inl hx)
            · exact .inr (.inr (.inl (by simp [hx])))
          · intro x hx
            rcases List.mem_append.1 hx with hx | hx
            · exact .inl hx
            · simp at hx; subst hx; exact .inr ⟨(hin x).2 (.inr rfl), hz, he⟩
          · rw [List.mem_cons, hm x, List.mem_append, List.mem_singleton]
            constructor
            · rintro (h3 | h3 | h3 | h3)
              · exact .inr (.inr (.inr h3))
              · exact .inl h3
              · exact .inr (.inl h3)
              · exact .inr (.inr (.inl h3))
            · rintro (h3 | h3 | h3 | h3)
              · exact .inr (.inl h3)
              · exact .inr (.inr (.inl h3))
              · exact .inr (.inr (.inr h3))
              · exact .inl h3
/-- Digests in strictly ascending order. -/
def AscD (l : List (Int × Int)) : Prop := l.Pairwise fun x y => cmpD x y < 0
theorem ascD_ext : ∀ {xs ys : List (Int × Int)}, AscD xs → AscD ys → (∀ x, x ∈ xs ↔ x ∈ ys) → xs = ys
  | [], [], _, _, _ => rfl
  | [], y :: ys, _, _, hm => by have := (hm y).2 (by simp); simp at this
  | x :: xs, [], _, _, hm => by have := (hm x).1 (by simp); simp at this
  | x :: xs, y :: ys, h1, h2, hm => by
    unfold AscD at h1 h2
    rw [List.pairwise_cons] at h1 h2
    have e : x = y := by
      rcases List.mem_cons.1 ((hm x).1 (by simp)) with h | h
      · exact h
      · rcases List.mem_cons.1 ((hm y).2 (by simp)) with h' | h'
        · exact h'.symm
        · have g1 := h1.1 y h'
          have g2 := h2.1 x h
          have := cmpD_anti (a := x) (b := y)
          omega
    subst e
    congr 1
    refine ascD_ext h1.2 h2.2 fun z => ⟨fun hz => ?_, fun hz => ?_⟩
    · rcases List.mem_cons.1 ((hm z).1 (by simp [hz])) with rfl | h
      · have := h1.1 z hz; rw [cmpD_self] at this; omega
      · exact h
    · rcases List.mem_cons.1 ((hm z).2 (by simp [hz])) with rfl | h
      · have := h2.1 z hz; rw [cmpD_self] at this; omega
      · exact h
theorem posD_cons (y : Int × Int) (l : List (Int × Int)) (d : Int × Int) : posD (y :: l) d = if cmpD y d < 0 then posD l d + 1 else 0 := by
  unfold posD
  by_cases h : cmpD y d < 0 <;> simp [h]
theorem withS_cons (y : Int × Int) (l : List (Int × Int)) (d : Int × Int) : withS (y :: l) d = if cmpD y d < 0 then y :: withS l d else if y = d then y :: l else d :: y :: l := by
  unfold withS
  rw [posD_cons]
  by_cases h : cmpD y d < 0
  · rw [if_pos h, if_pos h]
    simp only [List.getElem?_cons_succ, List.take_succ_cons, List.drop_succ_cons]
    split <;> rfl
  · rw [if_neg h, if_neg h]
    simp
theorem withS_mem : ∀ (l : List (Int × Int)) (d x : Int × Int), x ∈ withS l d ↔ x ∈ l ∨ x = d
  | [], d, x => by simp [withS, posD]
  | y :: l, d, x => by
    rw [withS_cons]
    by_cases h : cmpD y d < 0
    · rw [if_pos h, List.mem_cons, withS_mem l d x, List.mem_cons, or_assoc]
    · rw [if_neg h]
      by_cases h2 : y = d
      · rw [if_pos h2]
        refine ⟨.inl, fun h3 => ?_⟩
        rcases h3 with h3 | h3
        · exact h3
        · rw [h3, ← h2]; simp
      · rw [if_neg h2, List.mem_cons]
        exact or_comm
theorem withS_asc : ∀ {l : List (Int × Int)} (d : Int × Int), AscD l → AscD (withS l d)
  | [], d, _ => by simp [withS, posD, AscD]
  | y :: l, d, h => by
    rw [withS_cons]
    have h' := h
    unfold AscD at h
    rw [List.pairwise_cons] at h
    by_cases hc : cmpD y d < 0
    · rw [if_pos hc]
      refine List.pairwise_cons.2 ⟨fun z hz => ?_, withS_asc d h.2⟩
      rcases (withS_mem l d z).1 hz with h1 | rfl
      · exact h.1 z h1
      · exact hc
    · rw [if_neg hc]
      by_cases h2 : y = d
      · rw [if_pos h2]; exact h'
      · rw [if_neg h2]
        have hd : cmpD d y < 0 := by
          have g0 : ¬ cmpD y d = 0 := fun e => h2 (cmpD_zero.1 e)
          have := cmpD_anti (a := d) (b := y)
          omega
        refine List.pairwise_cons.2 ⟨fun z hz => ?_, h'⟩
        rcases List.mem_cons.1 hz with rfl | h1
        · exact hd
        · exact cmpD_trans hd (h.1 z h1)
/-- The reference's search. -/
def refF (xs : List Itm) : Nat → List (Int × Int) → List (Int × Int) → List (Int × Int) → List (Int × Int) × List (Int × Int)
  | 0, _, T, M => (T, M)
  | f + 1, [], T, M => (T, M)
  | f + 1, d :: ws, T, M => if d = (0, 0) ∨ d ∈ T then refF xs f ws T M else if (getS xs d).2 ≠ 0 then refF xs f ws T (withS M d) else refF xs f (ws ++ linksS (getS xs d).1) (withS T d) M
theorem mea_cons (xs : List Itm) (ws T : List (Int × Int)) (d : Int × Int) : mea xs (d :: ws) T = mea xs (ws ++ [d]) T := by
  unfold mea; simp
theorem mea_with (xs : List Itm) (ws T : List (Int × Int)) (d : Int × Int) : mea xs ws (withS T d) = mea xs ws (d :: T) := by
  unfold mea
  congr 3
  funext x
  congr 1
  rw [decide_eq_decide, withS_mem, List.mem_cons]
  exact or_comm
theorem refF_sea (xs : List Itm) (roots : List (Int × Int)) : ∀ (f : Nat) (ws T M : List (Int × Int)), Sea xs roots ws T M → AscD T → AscD M → mea xs ws T ≤ f →
    Sea xs roots [] (refF xs f ws T M).1 (refF xs f ws T M).2 ∧ AscD (refF xs f ws T M).1 ∧ AscD (refF xs f ws T M).2
  | 0, ws, T, M, h, h1, h2, hf => by
    have : ws = [] := by unfold mea at hf; exact List.eq_nil_of_length_eq_zero (by omega)
    subst this
    exact ⟨h, h1, h2⟩
  | f + 1, [], T, M, h, h1, h2, hf => by rw [refF]; exact ⟨h, h1, h2⟩
  | f + 1, d :: ws, T, M, h, h1, h2, hf => by
    rw [refF]
    rw [mea_cons] at hf
    by_cases hd : d = (0, 0) ∨ d ∈ T
    · rw [if_pos hd]
      refine refF_sea xs roots f ws T M (h.step ?_ (fun x hx => .inl hx) (fun x hx => .inl hx) (fun x hx => .inl (by simp [hx])) (fun t h1 h2 => absurd h1 h2)) h1 h2 (by have := mea_pop xs ws T d; omega)
      intro x hx
      rcases hx with hx | hx | hx
      · rcases List.mem_cons.1 hx with rfl | hx
        · rcases hd with h3 | h3
          · exact .inl h3
          · exact .inr (.inl h3)
        · exact .inr (.inr (.inr hx))
      · exact .inr (.inl hx)
      · exact .inr (.inr (.inl hx))
    · rw [if_neg hd]
      have hz : d ≠ (0, 0) := fun e => hd (.inl e)
      have hT : d ∉ T := fun e => hd (.inr e)
      by_cases he : (getS xs d).2 = 0
      · rw [if_neg (by simpa using he)]
        refine refF_sea xs roots f _ (withS T d) M (h.step ?_ ?_ (fun x hx => .inl hx) ?_ ?_) (withS_asc d h1) h2 (by have := mea_hit (op := ws) hT he (links_le (getS xs d).1); rw [mea_with]; omega)
        · intro x hx
          rcases hx with hx | hx | hx
          · rcases List.mem_cons.1 hx with rfl | hx
            · exact .inr (.inl ((withS_mem _ _ _).2 (.inr rfl)))
            · exact .inr (.inr (.inr (by simp [hx])))
          · exact .inr (.inl ((withS_mem _ _ _).2 (.inl hx)))
          · exact .inr (.inr (.inl hx))
        · intro x hx
          rcases (withS_mem _ _ _).1 hx with hx | rfl
          · exact .inl hx
          · exact .inr ⟨by simp, hz, he⟩
        · intro x hx
          rcases List.mem_append.1 hx with hx | hx
          · exact .inl (by simp [hx])
          · exact .inr ⟨d, (withS_mem _ _ _).2 (.inr rfl), hx⟩
        · intro t ht htT l2 hl
          rcases (withS_mem _ _ _).1 ht with h3 | rfl
          · exact absurd h3 htT
          · exact .inr (.inr (.inr (List.mem_append.2 (.inr hl))))
      · rw [if_pos he]
        refine refF_sea xs roots f ws T (withS M d) (h.step ?_ (fun x hx => .inl hx) ?_ (fun x hx => .inl (by simp [hx])) (fun t h1 h2 => absurd h1 h2)) h1 (withS_asc d h2) (by have := mea_pop xs ws T d; omega)
        · intro x hx
          rcases hx with hx | hx | hx
          · rcases List.mem_cons.1 hx with rfl | hx
            · exact .inr (.inr (.inl ((withS_mem _ _ _).2 (.inr rfl))))
            · exact .inr (.inr (.inr hx))
          · exact .inr (.inl hx)
          · exact .inr (.inr (.inl ((withS_mem _ _ _).2 (.inl hx))))
        · intro x hx
          rcases (withS_mem _ _ _).1 hx with hx | rfl
          · exact .inl hx
          · exact .inr ⟨by simp, hz, he⟩
theorem mea_nil (xs : List Itm) (roots : List (Int × Int)) : mea xs roots [] ≤ fuelR xs roots := by
  have : xs.countP (fun x => !decide (x.d ∈ ([] : List (Int × Int)))) ≤ xs.length := List.countP_le_length
  unfold mea fuelR
  omega
end Go.Proofs.YtdedfkljaeloiaaGreatDoor

/- cordwoodref08.Reach. -/
namespace Go.Proofs.YtdedfkljaeloiaaGreatDoor
open Go.RowKit Go.Shelf
set_option linter.unusedVariables false

def GotDD (w : World) (r : List (Int × Int) × List (Int × Int)) (e : Ending) (w' : World) : Prop :=
  ∃ a c a' c', e = .returned (.tuple #[.slice a r.1.length c, .slice a' r.2.length c']) ∧ Digs w'.heap.size w' a r.1 ∧ Digs w'.heap.size w' a' r.2 ∧ Below w.heap.size w w'
theorem withS_len : ∀ (l : List (Int × Int)) (d : Int × Int), (withS l d).length ≤ l.length + 1
  | [], d => by simp [withS, posD]
  | y :: l, d => by
    rw [withS_cons]
    have := withS_len l d
    split
    · simp; omega
    · split <;> simp
/-- The search in memory. -/
structure RMem (w wr : World) (ta : Option Addr) (tc : Nat) (ma : Option Addr) (mc : Nat) (v : Value) (WL T M : List (Int × Int)) : Prop where
  dt : Digs wr.heap.size wr ta T
  dm : Digs wr.heap.size wr ma M
  tc : T.length ≤ tc
  mc : M.length ≤ mc
  ow : wr.ownsRow w.heap.size 35 2 v WL.length (dcells WL)
  at' : ∀ ad, ta = some ad → ad.block < wr.heap.size ∧ v.ownBlock ≠ some ad.block
  am : ∀ ad, ma = some ad → ad.block < wr.heap.size ∧ v.ownBlock ≠ some ad.block
  be : Below w.heap.size w wr
section
variable {w wr W' : World} {ta ma a : Option Addr} {tc mc c : Nat} {v v' : Value} {WL T M T' M' WL' : List (Int × Int)}
theorem RMem.below (h : RMem w wr ta tc ma mc v WL T M) (hb : Below wr.heap.size wr W') : RMem w W' ta tc ma mc v WL T M :=
  ⟨h.dt.ahead hb, h.dm.ahead hb, h.tc, h.mc, own_below h.ow hb, fun ad e => ⟨Nat.lt_of_lt_of_le (h.at' ad e).1 hb.size, (h.at' ad e).2⟩, fun ad e => ⟨Nat.lt_of_lt_of_le (h.am ad e).1 hb.size, (h.am ad e).2⟩, h.be.trans (hb.mono h.be.size)⟩
theorem RMem.alloc (h : RMem w wr ta tc ma mc v WL T M) (o : Obj) : RMem w (wr.alloc o) ta tc ma mc v WL T M := h.below ((Below.refl _ _).alloc (Nat.le_refl _) _)
theorem digs_lt {B : Nat} {W : World} {ds : List (Int × Int)} {d : Int × Int} (h : Digs B W a ds) (hd : d ∈ ds) : ∀ ad, a = some ad → ad.block < B := by
  intro ad e
  obtain ⟨b, off, h1, h2, _⟩ := h 0 (List.length_pos_of_mem hd)
  rw [h1] at e
  cases e
  exact h2
theorem RMem.new (h : RMem w wr ta tc ma mc v WL T M) (hb : Below wr.heap.size wr W') {d : Int × Int} {L : List (Int × Int)} {pa : Option Addr} (hpa : ∀ ad, pa = some ad → ad.block < wr.heap.size ∧ v.ownBlock ≠ some ad.block) (hd : Digs W'.heap.size W' a L) (hm : d ∈ L) (ho : a = pa ∨ ∀ ad, a = some ad → wr.heap.size ≤ ad.block) : ∀ ad, a = some ad → ad.block < W'.heap.size ∧ v.ownBlock ≠ some ad.block := by
  intro ad e
  refine ⟨digs_lt hd hm ad e, fun hv => ?_⟩
  rcases ho with h1 | h1
  · exact (hpa ad (by rw [← h1, e])).2 hv
  · have h2 := (h.ow.lt _ hv).2
    have h3 := h1 ad e
    omega
theorem RMem.putT (h : RMem w wr ta tc ma mc v WL T M) (hb : Below wr.heap.size wr W') {d : Int × Int} (hd : Digs W'.heap.size W' a T') (hc : T'.length ≤ c) (hm : d ∈ T') (ho : a = ta ∨ ∀ ad, a = some ad → wr.heap.size ≤ ad.block) : RMem w W' a c ma mc v WL T' M :=
  have g := h.below hb
  ⟨hd, g.dm, hc, g.mc, g.ow, h.new hb h.at' hd hm ho, g.am, g.be⟩
theorem RMem.putM (h : RMem w wr ta tc ma mc v WL T M) (hb : Below wr.heap.size wr W') {d : Int × Int} (hd : Digs W'.heap.size W' a M') (hc : M'.length ≤ c) (hm : d ∈ M') (ho : a = ma ∨ ∀ ad, a = some ad → wr.heap.size ≤ ad.block) : RMem w W' ta tc a c v WL T M' :=
  have g := h.below hb
  ⟨g.dt, hd, g.tc, hc, g.ow, g.at', h.new hb h.am hd hm ho, g.be⟩
theorem RMem.push (h : RMem w wr ta tc ma mc v WL T M) (hown : W'.ownsRow w.heap.size 35 2 v' WL'.length (dcells WL')) (hg : wr.grownBy W' v.ownBlock) (hat : v'.ownBlock = v.ownBlock ∨ v'.ownBlock = some wr.heap.size) : RMem w W' ta tc ma mc v' WL' T M := by
  have key : ∀ ad : Addr, (ad.block < wr.heap.size ∧ v.ownBlock ≠ some ad.block) → ad.block < W'.heap.size ∧ v'.ownBlock ≠ some ad.block := fun ad h1 => by
    refine ⟨Nat.lt_of_lt_of_le h1.1 hg.size, fun e => ?_⟩
    rcases hat with h2 | h2
    · exact h1.2 (by rw [← h2]; exact e)
    · rw [h2] at e
      have := Option.some.inj e
      omega
  exact ⟨h.dt.kept hg (fun _ ad e => (h.at' ad e).2), h.dm.kept hg (fun _ ad e => (h.am ad e).2), h.tc, h.mc, hown, fun ad e => key ad (h.at' ad e), fun ad e => key ad (h.am ad e), below_own h.be h.ow hg (Nat.le_refl _)⟩
end
/-- The search on paper. -/
structure REq (xs : List Itm) (R : List (Int × Int) × List (Int × Int)) (F f j : Nat) (WL T M : List (Int × Int)) : Prop where
  kl : j ≤ WL.length
  eq : R = refF xs f (WL.drop j) T M
  me : mea xs (WL.drop j) T ≤ f
  jf : j + f ≤ F
  tm : T.length + M.length + f ≤ F
section
variable {xs : List Itm} {R : List (Int × Int) × List (Int × Int)} {F f j : Nat} {WL T M : List (Int × Int)}
theorem REq.len (h : REq xs R F f j WL T M) : WL.length ≤ F := by
  have h1 := h.me
  have h2 := h.jf
  have h3 := h.kl
  unfold mea at h1
  rw [List.length_drop] at h1
  omega
theorem REq.pos (h : REq xs R F f j WL T M) (hj : j < WL.length) : ∃ g, f = g + 1 := by
  have h1 := h.me
  unfold mea at h1
  rw [List.length_drop] at h1
  exact ⟨f - 1, by omega⟩
theorem REq.fin (h : REq xs R F f j WL T M) (hj : ¬ j < WL.length) : R = (T, M) := by
  rw [h.eq, List.drop_of_length_le (by omega)]
  cases f <;> rfl
theorem REq.skip (h : REq xs R F (f + 1) j WL T M) (hj : j < WL.length) (hd : WL[j] = (0, 0) ∨ WL[j] ∈ T) : REq xs R F f (j + 1) WL T M := by
  have h1 := h.eq
  have h2 := h.me
  rw [List.drop_eq_getElem_cons hj] at h1 h2
  rw [refF, if_pos hd] at h1
  rw [mea_cons] at h2
  have h3 := mea_pop xs (WL.drop (j + 1)) T WL[j]
  exact ⟨hj, h1, by omega, by have := h.jf; omega, by have := h.tm; omega⟩
theorem REq.miss (h : REq xs R F (f + 1) j WL T M) (hj : j < WL.length) (hd : ¬ (WL[j] = (0, 0) ∨ WL[j] ∈ T)) (he : (getS xs WL[j]).2 ≠ 0) : REq xs R F f (j + 1) WL T (withS M WL[j]) := by
  have h1 := h.eq
  have h2 := h.me
  rw [List.drop_eq_getElem_cons hj] at h1 h2
  rw [refF, if_neg hd, if_pos he] at h1
  rw [mea_cons] at h2
  have h3 := mea_pop xs (WL.drop (j + 1)) T WL[j]
  exact ⟨hj, h1, by omega, by have := h.jf; omega, by have := h.tm; have := withS_len M WL[j]; omega⟩
theorem REq.hit (h : REq xs R F (f + 1) j WL T M) (hj : j < WL.length) (hd : ¬ (WL[j] = (0, 0) ∨ WL[j] ∈ T)) (he : (getS xs WL[j]).2 = 0) : REq xs R F f (j + 1) (WL ++ linksS (getS xs WL[j]).1) (withS T WL[j]) M := by
  have h1 := h.eq
  have h2 := h.me
  rw [List.drop_eq_getElem_cons hj] at h1 h2
  rw [refF, if_neg hd, if_neg (by simpa using he)] at h1
  rw [mea_cons] at h2
  have h3 := mea_hit (op := WL.drop (j + 1)) (fun e => hd (.inr e)) he (links_le (getS xs WL[j]).1)
  refine ⟨by rw [List.length_append]; omega, ?_, ?_, by have := h.jf; omega, by have := h.tm; have := withS_len T WL[j]; omega⟩
  · rw [List.drop_append_of_le_length hj]; exact h1
  · rw [List.drop_append_of_le_length hj, mea_with]; exact Nat.le_of_succ_le_succ (Nat.le_trans h3 h2)
end
def RY (xs : List Itm) (R : List (Int × Int) × List (Int × Int)) (F : Nat) (w : World) (f : Nat) (v6 v7 v8 iv : Value) (wr : World) : Prop :=
  ∃ j WL T M ta tc ma mc, v6 = .slice ta T.length tc ∧ v7 = .slice ma M.length mc ∧ iv = .int .i64 (j : Nat) ∧ RMem w wr ta tc ma mc v8 WL T M ∧ REq xs R F f j WL T M
theorem get_okO {xs : List Itm} {d : Int × Int} (h : (getS xs d).2 = 0) : OkO (getS xs d).1 := by
  obtain ⟨x, _, _, hd⟩ := getS_good h
  have hg : decodeS x.data = ((getS xs d).1, 0) := by rw [hd, ← h]
  exact (decode_good hg).2

end Go.Proofs.YtdedfkljaeloiaaGreatDoor
