/- fine; openers of pools, objects, digests. -/
import Derived.Test.YtgdhkcocdmdoaaaGreatRpA
import Derived.Test.YtgdhkcocdmdoaaaGreatK5
namespace Go.Proofs.YtgdhkcocdmdoaaaGreat
open Go.ChangeShapes Go.WideShapes Go.ChangeAt Go.RowKit Go.Deep Go.Shelf
set_option linter.unusedVariables false

theorem chkGo_zero : ∀ {xs : List Itm} {p : Option (Int × Int)}, chkGo p xs = 0 → (∀ x ∈ xs, chkI x = 0) ∧ Asc xs ∧ (∀ q, p = some q → ∀ x ∈ xs, cmpD q x.d < 0)
  | [], p, _ => ⟨by simp, fun i j hi => by simp at hi, by simp⟩
  | x :: xs, p, h => by
    rw [chkGo] at h
    by_cases h1 : chkI x = 0
    · rw [if_neg (by simpa using h1)] at h
      obtain ⟨h2, h3⟩ := ne_if h (by decide)
      obtain ⟨i1, i2, i3⟩ := chkGo_zero h3
      have hx : ∀ q, p = some q → cmpD q x.d < 0 := fun q hq => by
        subst hq
        simp only [prevD, decide_eq_true_eq] at h2
        have := cmpD_anti (a := x.d) (b := q)
        omega
      refine ⟨fun y hy => ?_, ?_, fun q hq y hy => ?_⟩
      · rcases List.mem_cons.1 hy with rfl | hy
        · exact h1
        · exact i1 y hy
      · intro i j hi hj hij
        cases i with
        | zero =>
          cases j with
          | zero => omega
          | succ j => simp only [List.getElem_cons_zero, List.getElem_cons_succ]; exact i3 _ rfl _ (List.getElem_mem _)
        | succ i =>
          cases j with
          | zero => omega
          | succ j => simp only [List.getElem_cons_succ]; exact i2 i j (by simp at hi; omega) (by simp at hj; omega) (by omega)
      · rcases List.mem_cons.1 hy with rfl | hy
        · exact hx q hq
        · exact cmpD_trans (hx q hq) (i3 _ rfl y hy)
    · rw [if_pos h1] at h; exact absurd h h1
theorem checkP_zero {xs : List Itm} (h : checkP xs = 0) : (∀ x ∈ xs, chkI x = 0) ∧ Asc xs := ⟨(chkGo_zero h).1, (chkGo_zero h).2.1⟩
/-- Whether a pool is valid, and within the bounds. -/
def fineB (xs : List Itm) : Bool := !pgreatS xs && (checkP xs == 0)
theorem fineB_true {xs : List Itm} (h : fineB xs = true) : xs.length ≤ 40 ∧ (∀ x ∈ xs, x.data.length ≤ 500) ∧ checkP xs = 0 ∧ Asc xs ∧ ∀ x ∈ xs, chkI x = 0 := by
  simp only [fineB, Bool.and_eq_true, Bool.not_eq_true', beq_iff_eq] at h
  have h1 := pgreatS_false h.1
  have h2 := checkP_zero h.2
  exact ⟨h1.1, h1.2, h.2, h2.2, h2.1⟩

section
variable {H : Type} {enc : TypeId × Value → H} {W : World}
set_option maxRecDepth 100000 in
theorem trod_itm {fuel : Nat} {cs : List Value} {x : DataW H × List MemPlace} (h : DataW.trod enc Tryz.prog W 0 (fun _ => true) true fuel 79 cs = some x) : ∃ e : Itm, cs = [.int .u64 e.d.1, .int .u64 e.d.2, .string ⟨e.data.toArray⟩] ∧ OkD e.d ∧ e.data.length ≤ maxLen := by
  obtain ⟨xs, n, _, _, hl, hxl, hf⟩ := DataW.trod_struct Tryz.underlying79 h
  rw [show Tryz.prog.cellsOf 79 = 3 by kernel_rfl] at hl
  match cs, hl with
  | [c0, c1, c2], _ =>
    match xs, hxl with
    | [x0, x1], _ =>
      obtain ⟨d, e2, w0, w1⟩ := trod_digest (show DataW.trod enc Tryz.prog W 0 (fun _ => true) true n 32 [c0, c1] = some x0 from hf 0 _ rfl)
      obtain ⟨s, e0, _, ws⟩ := DataW.trod_string Tryz.underlying9 (show DataW.trod enc Tryz.prog W 0 (fun _ => true) true n 9 [c2] = some x1 from hf 1 _ rfl)
      cases e0
      cases e2
      exact ⟨⟨d, s.data.toList⟩, by rw [← ba_eq (t := s) rfl], okD_wf w0 w1, ws⟩
/-- A pool that came in. -/
structure PoolCame (W : World) (a : Option Addr) (xs : List Itm) (c : Nat) : Prop where
  its : Its W.heap.size W a xs
  cap : xs.length ≤ c ∧ c ≤ maxLen
  dat : ∀ x ∈ xs, OkD x.d ∧ x.data.length ≤ maxLen
set_option maxRecDepth 100000 in
theorem open_pool {r : Reach} {b0 : Nat} {v : Value} {d : DataW H} {p : List MemPlace} (hv : Value.okWide Tryz.prog W r b0 23 v) (h : DataW.Trod enc Tryz.prog W 0 (fun _ => true) true 23 v d p) :
    ∃ (a : Option Addr) (xs : List Itm) (c : Nat), v = .slice a xs.length c ∧ PoolCame W a xs c := by
  obtain ⟨a, len, cap, rfl⟩ := okWide_slice Tryz.underlying23 hv
  obtain ⟨fuel, hf⟩ := h
  simp only [Value.cells] at hf
  obtain ⟨hl, hr⟩ := open_rows Tryz.underlying23 (C := 3) (by kernel_rfl) (by decide) hf
  obtain ⟨xs, hxs, hq⟩ := list_of (fun i (e : Itm) => (∃ b off, a = some ⟨b, off, none⟩ ∧ b < W.heap.size ∧ W.cell? ⟨b, off + i * 3, none⟩ = some (.int .u64 e.d.1) ∧ W.cell? ⟨b, off + i * 3 + 1, none⟩ = some (.int .u64 e.d.2) ∧ W.cell? ⟨b, off + i * 3 + 2, none⟩ = some (.string ⟨e.data.toArray⟩)) ∧ OkD e.d ∧ e.data.length ≤ maxLen) len (fun i hi => by
    obtain ⟨b, off, cs, n, y, ha, hb, _, hcell, ht⟩ := hr i hi
    obtain ⟨e, rfl, w0, w1⟩ := trod_itm ht
    exact ⟨e, ⟨b, off, ha, hb, hcell 0 _ rfl, hcell 1 _ rfl, hcell 2 _ rfl⟩, w0, w1⟩)
  refine ⟨a, xs, cap, by rw [hxs], fun i hi => (hq i hi).1, by omega, fun e he => ?_⟩
  obtain ⟨i, hi, rfl⟩ := List.getElem_of_mem he
  exact (hq i hi).2
set_option maxRecDepth 100000 in
theorem open_dig {r : Reach} {b0 : Nat} {v : Value} {d : DataW H} {p : List MemPlace} (hv : Value.okWide Tryz.prog W r b0 32 v) (h : DataW.Trod enc Tryz.prog W 0 (fun _ => true) true 32 v d p) :
    ∃ x y : Int, v = .agg #[.int .u64 x, .int .u64 y] ∧ OkD (x, y) := by
  obtain ⟨cs, rfl⟩ : ∃ cs, v = .agg cs := by
    simp only [Value.okWide, Tryz.underlying32] at hv
    obtain ⟨cs, h1, _⟩ := hv
    exact ⟨cs, h1⟩
  obtain ⟨fuel, hf⟩ := h
  obtain ⟨⟨x, y⟩, hcs, w0, w1⟩ := trod_digest hf
  refine ⟨x, y, ?_, okD_wf w0 w1⟩
  simp [Value.cells] at hcs
  rw [← Array.toList_inj.1 (show cs.toList = #[Value.int .u64 x, .int .u64 y].toList by simpa using hcs)]
set_option maxRecDepth 100000 in
theorem open_dlist {r : Reach} {b0 : Nat} {v : Value} {d : DataW H} {p : List MemPlace} (hv : Value.okWide Tryz.prog W r b0 24 v) (h : DataW.Trod enc Tryz.prog W 0 (fun _ => true) true 24 v d p) :
    ∃ (a : Option Addr) (ds : List (Int × Int)) (c : Nat), v = .slice a ds.length c ∧ Digs W.heap.size W a ds ∧ (ds.length ≤ c ∧ c ≤ maxLen) ∧ ∀ d ∈ ds, OkD d := by
  obtain ⟨a, len, cap, rfl⟩ := okWide_slice Tryz.underlying24 hv
  obtain ⟨fuel, hf⟩ := h
  simp only [Value.cells] at hf
  obtain ⟨hl, ds, rfl, hd, hok⟩ := open_digs hf
  exact ⟨a, ds, cap, rfl, hd, by omega, fun d hd => okD_wf (hok d hd).1 (hok d hd).2⟩
set_option maxRecDepth 100000 in
theorem open_ob {r : Reach} {b0 : Nat} {v : Value} {d : DataW H} {p : List MemPlace} (hv : Value.okWide Tryz.prog W r b0 36 v) (h : DataW.Trod enc Tryz.prog W 0 (fun _ => true) true 36 v d p) :
    ∃ (o : Ob) (ea : Option Addr) (ec : Nat) (pa : Option Addr) (pc : Nat), v = o.val ea ec pa pc ∧ ObCame W o ea ec pa pc := by
  obtain ⟨cs, rfl, hsz⟩ := okWide_struct Tryz.underlying36 hv
  obtain ⟨fuel, hf⟩ := h
  obtain ⟨o, ea, ec, pa, pc, hcs, hc⟩ := trod_ob hf
  refine ⟨o, ea, ec, pa, pc, ?_, hc⟩
  have hcs : cs.toList = (o.arr ea ec pa pc).toList := hcs
  rw [Ob.val, Array.toList_inj.1 hcs]
end

end Go.Proofs.YtgdhkcocdmdoaaaGreat
