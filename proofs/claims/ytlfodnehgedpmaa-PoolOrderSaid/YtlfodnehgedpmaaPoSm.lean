/- cordwoodref08.Same. -/
import Derived.Test.YtlfodnehgedpmaaPoAw
namespace Go.Proofs.Ytlfodnehgedpmaa
open Go.RowKit Go.Shelf
set_option linter.unusedVariables false

theorem eqD_run (d : Nat) (x y x' y' : Int) (W : World) : (Op.equalIn (d + 2) 30 (.agg #[.int .u64 x, .int .u64 y]) (.agg #[.int .u64 x', .int .u64 y'])).run Try.prog W = .ok (x == x' && y == y') W := by
  obtain ⟨i0, hi0, _, hs, _⟩ := info_parts infoU64
  have h := run_equalIn_array W (d + 1) #[.int .u64 x, .int .u64 y] #[.int .u64 x', .int .u64 y'] Try.underlying30 hi0
  rw [cellsU64, show List.range 2 = [0, 1] from rfl] at h
  rw [h]
  have p0 : ∀ (a b : Int) (V : World), (Go.part 28 #[.int .u64 a, .int .u64 b] (0 * 1)).run Try.prog V = .ok (.int .u64 a) V := fun a b V => run_part_plain V plainU64 rfl
  have p1 : ∀ (a b : Int) (V : World), (Go.part 28 #[.int .u64 a, .int .u64 b] (1 * 1)).run Try.prog V = .ok (.int .u64 b) V := fun a b V => run_part_plain V plainU64 rfl
  have q : ∀ (a b : Int) (V : World), (Op.equalIn (d + 1) 28 (.int .u64 a) (.int .u64 b)).run Try.prog V = .ok (a == b) V := fun a b V => run_equalIn_int V d _ _ _ a b Try.underlying28
  simp only [Op.eqItems, Sem.run_bind, p0, q, Result.andThen_ok]
  have p1' : ∀ (a b : Int) (V : World), (Go.part 28 #[.int .u64 a, .int .u64 b] 1).run Try.prog V = .ok (.int .u64 b) V := p1
  by_cases h1 : x = x' <;> by_cases h3 : y = y' <;> simp [h1, h3, p1', q]

theorem neq_itm (x1 x2 y1 y2 : Int) (s t : ByteArray) (W : World) : (binOp .neq 52 (.agg #[.int .u64 x1, .int .u64 x2, .string s]) (.agg #[.int .u64 y1, .int .u64 y2, .string t])).run Try.prog W = .ok (.bool (!((x1 == y1 && x2 == y2) && s.toList == t.toList))) W := by
  rw [run_neq_struct, run_equalIn_struct W 9999 52 _ _ (by kernel_rfl) (by kernel_rfl)]
  have hf : (Try.prog.fieldsOf 52).toList = [{ name := "Digest", type := 30, offset := 0, embedded := false, tag := "", pkgPath := "", byteOffset := 0 }, { name := "Data", type := 9, offset := 2, embedded := false, tag := "", pkgPath := "", byteOffset := 16 }] := by kernel_rfl
  rw [hf]
  have p0 : ∀ (a b : Int) (r : ByteArray) (V : World), (Go.part 30 #[.int .u64 a, .int .u64 b, .string r] 0).run Try.prog V = .ok (.agg #[.int .u64 a, .int .u64 b]) V := fun a b r V => by kernel_rfl
  have p2 : ∀ (a b : Int) (r : ByteArray) (V : World), (Go.part 9 #[.int .u64 a, .int .u64 b, .string r] 2).run Try.prog V = .ok (.string r) V := fun a b r V => by kernel_rfl
  have q0 := fun V => eqD_run 9997 x1 x2 y1 y2 V
  have q1 := fun V => run_equalIn_string (P := Try.prog) V 9998 9 s t Try.underlying9
  simp only [Op.eqFields, Sem.run_bind, Sem.run_ite, p0, p2, q0, q1, Result.andThen_ok]
  cases h1 : (x1 == y1 && x2 == y2) <;> cases h2 : (s.toList == t.toList) <;> simp

set_option maxRecDepth 100000 in
set_option maxHeartbeats 1000000 in
theorem same_any (a b : Option Addr) (ds es : List Itm) (c c' : Nat) (w : World) (h : Its w.heap.size w a ds) (h' : Its w.heap.size w b es) (hn : (ds.length : Int) ≤ 1000000000) (hn' : (es.length : Int) ≤ 1000000000) :
    Calls Try.prog 7 #[.slice a ds.length c, .slice b es.length c'] w fun e w' => e = .returned (.bool (decide (ds = es))) ∧ Below w.heap.size w w' := by
  obtain ⟨R, hR⟩ : ∃ R, R = decide (ds = es) := ⟨_, rfl⟩
  rw [← hR]
  have HR := Lib.hid hR
  have H := Lib.hid h
  have H' := Lib.hid h'
  obtain ⟨n, hnn⟩ : ∃ n, n = ds.length := ⟨_, rfl⟩
  obtain ⟨m, hmm⟩ : ∃ m, m = es.length := ⟨_, rfl⟩
  rw [← hnn] at hn ⊢
  rw [← hmm] at hn' ⊢
  have HN := Lib.hid hnn
  have HM := Lib.hid hmm
  clear h h' hnn hmm hR
  by_cases hnm : n = m
  · subst hnm
    have e1 : ((n : Int) != (n : Int)) = false := by simp
    go_enter Try.func7, Try.ntmps7
    go_wp2_with fail
    go_loopw [5] (fun i wr => ∃ k : Nat, k ≤ n ∧ i = .int .i64 k ∧ Hid (Below w.heap.size w wr) ∧ Hid (ds.take k = es.take k)) (fun i _ => n - (intOf i).toNat)
    case atStart => exact ⟨0, by omega, rfl, Lib.hid (Below.refl _ _), Lib.hid rfl⟩
    case round =>
      obtain ⟨k, hk, rfl, HB, HT⟩ := hrel
      have hws := HB.out.size
      by_cases hlt : k < n
      · have h1 : k < ds.length := by have := HN.out; omega
        have h2 : k < es.length := by have := HM.out; omega
        obtain ⟨b0, o0, rfl, hb0, q0, q1, q2⟩ := (H.out.below HB.out (Nat.le_refl _)) k h1
        obtain ⟨b1, o1, rfl, hb1, r0, r1, r2⟩ := (H'.out.below HB.out (Nat.le_refl _)) k h2
        have HS := Lib.hid (fun (h : ds[k] = es[k]) => take_eq_step HT.out h1 h2 h)
        have HD := Lib.hid (fun (h : ds[k] ≠ es[k]) (e : ds = es) => h (by subst e; rfl))
        generalize ds[k] = x at q0 q1 q2 HS HD
        generalize es[k] = y at r0 r1 r2 HS HD
        obtain ⟨⟨x1, x2⟩, xd⟩ := x
        obtain ⟨⟨y1, y2⟩, yd⟩ := y
        simp only at q0 q1 q2 r0 r1 r2
        have hq := fun W => neq_itm x1 x2 y1 y2 ⟨xd.toArray⟩ ⟨yd.toArray⟩ W
        have hsx : (⟨xd.toArray⟩ : ByteArray).toList = xd := by rw [Lib.toList_data]
        have hsy : (⟨yd.toArray⟩ : ByteArray).toList = yd := by rw [Lib.toList_data]
        rw [hsx, hsy] at hq
        clear hsx hsy
        cases hz : ((x1 == y1 && x2 == y2) && xd == yd) with
        | true =>
          rw [hz] at hq
          have HT2 := Lib.hid (HS.out (by
            simp only [Bool.and_eq_true, beq_iff_eq] at hz
            rw [hz.1.1, hz.1.2, hz.2]))
          clear hz HS HD HT
          go_wp2_with fail
          go_quiet (fail)
          go_wp2_with fail
          go_roundw
          case rel => exact ⟨k + 1, by omega, by go_num, Lib.hid (below_drewN HB.out _), HT2⟩
          case measure => simp [intOf]; omega
        | false =>
          rw [hz] at hq
          have HF : Hid (R = false) := Lib.hid (by
            rw [HR.out]
            refine decide_eq_false (HD.out ?_)
            intro h
            simp only [Itm.mk.injEq, Prod.mk.injEq] at h
            simp [h.1.1, h.1.2, h.2] at hz)
          clear hz HS HD HT
          go_wp2_with fail
          go_quiet (fail)
          go_wp2_with fail
          go_ret
          exact ⟨by rw [HF.out]; rfl, below_drewN HB.out _⟩
      · have HF : Hid (R = true) := Lib.hid (by
          rw [HR.out]
          exact decide_eq_true (eq_take_full (by rw [← HN.out, ← HM.out]) k HT.out (by rw [← HN.out]; omega)))
        go_wp2_with fail
        go_ret
        exact ⟨by rw [HF.out]; rfl, HB.out⟩
  · have e1 : ((n : Int) != (m : Int)) = true := by simp; omega
    have e2 : (n != m) = true := by simpa using hnm
    have HF : Hid (R = false) := Lib.hid (by
      rw [HR.out]
      refine decide_eq_false (fun e => hnm ?_)
      rw [HN.out, HM.out, e])
    clear hnm
    go_enter Try.func7, Try.ntmps7
    go_wp2_with fail
    go_ret
    exact ⟨by rw [HF.out]; rfl, Below.refl _ _⟩

end Go.Proofs.Ytlfodnehgedpmaa
