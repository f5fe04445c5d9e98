/- The reference's With. -/
import Derived.Test.YtgdhkcocdmdoaaaGreatRpF
namespace Go.Proofs.YtgdhkcocdmdoaaaGreat
open Go.RowKit Go.Shelf
set_option linter.unusedVariables false

theorem Digs.drop {B : Nat} {W : World} {a : Option Addr} {ds : List (Int × Int)} (h : Digs B W a ds) (k : Nat) : Digs B W (a.map (·.add (k * 2))) (ds.drop k) := by
  intro i hi
  have hi' : k + i < ds.length := by simp at hi; omega
  obtain ⟨b, off, rfl, hlt, h0, h1⟩ := h (k + i) hi'
  refine ⟨b, off + k * 2, by simp [Go.WideShapes.add_plain], hlt, ?_⟩
  rw [List.getElem_drop]
  rw [show off + k * 2 + i * 2 = off + (k + i) * 2 by omega]
  exact ⟨h0, h1⟩
theorem dslice_lo (a : Option Addr) (n c f m : Nat) (h : f ≤ n) (hc : n ≤ c) (hm : m = n - f) : ∃ (A1 : Option Addr) (c1 : Nat), (∀ B W (ds : List (Int × Int)), ds.length = n → Digs B W a ds → Digs B W A1 (ds.drop f)) ∧ ∀ W, (Instr.slice 24 (.slice a n c) (some (.int .i64 f)) none none).run Tryz.prog W = .ok (.slice A1 m c1) W := by
  refine ⟨if c = f then a else a.map (·.add (f * 2)), c - f, fun B W ps hl hp => ?_, fun W => ?_⟩
  · split
    · rw [List.drop_of_length_le (by omega)]; exact Digs.nil _ _ _
    · exact hp.drop f
  · rw [run_slice_l (P := Tryz.prog) W 24 a n c (by kernel_rfl) .i64 f (by omega) (by omega), size_dig]
    subst hm
    simp [sliced, Result.andThen]
def posD (l : List (Int × Int)) (d : Int × Int) : Nat := (l.takeWhile fun y => decide (cmpD y d < 0)).length
/-- A list of digests with one more. -/
def withS (l : List (Int × Int)) (d : Int × Int) : List (Int × Int) := if l[posD l d]? = some d then l else l.take (posD l d) ++ (d :: l.drop (posD l d))
def GotW (w : World) (pa : Option Addr) (L : List (Int × Int)) (e : Ending) (w' : World) : Prop := ∃ a c, e = .returned (.slice a L.length c) ∧ Digs w'.heap.size w' a L ∧ L.length ≤ c ∧ (a = pa ∨ ∀ ad, a = some ad → w.heap.size ≤ ad.block) ∧ Below w.heap.size w w'
theorem posD_of {l : List (Int × Int)} {d : Int × Int} {k : Nat} (hk : k ≤ l.length) (lo : ∀ j (h : j < l.length), j < k → cmpD l[j] d < 0) (hi : ∀ h : k < l.length, 0 ≤ cmpD l[k] d) : posD l d = k :=
  takeWhile_len hk (fun j h hj => by simpa using lo j h hj) (fun h => by have := hi h; simp; omega)

set_option maxRecDepth 100000 in
set_option maxHeartbeats 8000000 in
theorem rwith_any (a : Option Addr) (xs : List (Int × Int)) (c : Nat) (x1 x2 : Int) (w : World) (hx : Digs w.heap.size w a xs) (hc : xs.length ≤ c) (hn : (xs.length : Int) ≤ 100000) :
    Calls Tryz.prog 50 #[.slice a xs.length c, .agg #[.int .u64 x1, .int .u64 x2]] w (GotW w a (withS xs (x1, x2))) := by
  obtain ⟨n, hnn⟩ : ∃ n, n = xs.length := ⟨_, rfl⟩
  have HN := Lib.hid hnn
  rw [← hnn] at hn hc ⊢
  have HXW := Lib.hid hx
  obtain ⟨R, hR⟩ : ∃ R, R = withS xs (x1, x2) := ⟨_, rfl⟩
  rw [← hR]
  unfold withS at hR
  have HRW := Lib.hid hR
  clear hnn hx hR
  obtain ⟨w0, hw0⟩ : ∃ w0, w0 = w.alloc (.cells #[.int .u64 x1, .int .u64 x2] 32) := ⟨_, rfl⟩
  have HK1 : Hid (BK w.heap.size #[.int .u64 x1, .int .u64 x2] 32 w0) := Lib.hid (by rw [hw0]; exact BK.new _ _ _)
  have HB1 : Hid (Below w.heap.size w w0) := Lib.hid (by rw [hw0]; exact (Below.refl _ w).alloc (Nat.le_refl _) _)
  have HW0 := Lib.hid hw0
  clear hw0
  go_enter Tryz.func50, Tryz.ntmps50
  go_wp2_with fail
  rw [← HW0.out]
  clear HW0
  go_loopw [5] (fun iv wr => ∃ k : Nat, k ≤ n ∧ iv = .int .i64 k ∧ Hid (Below w.heap.size w wr) ∧ Hid (BK w.heap.size #[.int .u64 x1, .int .u64 x2] 32 wr) ∧ Hid (∀ j (h : j < xs.length), j < k → cmpD xs[j] (x1, x2) < 0)) (fun iv _ => n - (intOf iv).toNat)
  case atStart => exact ⟨0, by omega, rfl, HB1, HK1, Lib.hid (fun j h hj => by omega)⟩
  case round =>
    clear HB1 HK1
    obtain ⟨k, hk, rfl, HB, HK, HLO⟩ := hrel
    have hwr := HK.out.lt
    by_cases hlt : k < n
    · have h1 : k < xs.length := by rw [← HN.out]; exact hlt
      obtain ⟨b0, o0, haa, hb0, q0, q1⟩ := (HXW.out.ahead HB.out) k h1
      have HAA := Lib.hid haa
      subst haa
      have HPOS := Lib.hid (fun (h : 0 ≤ cmpD xs[k] (x1, x2)) => posD_of (d := (x1, x2)) (by omega) HLO.out (fun _ => h))
      have HLO2 : Hid (cmpD xs[k] (x1, x2) < 0 → ∀ j (h : j < xs.length), j < k + 1 → cmpD xs[j] (x1, x2) < 0) := Lib.hid (fun hc j h hj => by
        rcases Nat.lt_or_ge j k with h2 | h2
        · exact HLO.out j h h2
        · obtain rfl : j = k := by omega
          exact hc)
      have HIX : Hid (xs[k]? = some xs[k]) := Lib.hid (List.getElem?_eq_getElem h1)
      generalize hit : xs[k] = it at q0 q1 HPOS HLO2 HIX
      have HIT := Lib.hid hit
      clear hit
      obtain ⟨y1, y2⟩ := it
      simp only at q0 q1 HPOS HLO2
      have HCM := Lib.hid (fun W => refCmp_any y1 y2 x1 x2 W)
      generalize cmpD (y1, y2) (x1, x2) = cv at HCM HPOS HLO2
      have HCA := Lib.hid (fun d os => Calls.regrown_of (w := wr) (d := d) (os := os) (HCM.out _))
      have e0 : wr.cell? ⟨w.heap.size, 0, none⟩ = some (.int .u64 x1) := by rw [HK.out.cell]; rfl
      have e1 : wr.cell? ⟨w.heap.size, 1, none⟩ = some (.int .u64 x2) := by rw [HK.out.cell]; rfl
      have f0 := cell_regrown q0
      have f1 := cell_regrown q1
      have g0 := cell_regrown e0
      have g1 := cell_regrown e1
      have dk1 : decide ((k : Int) < (n : Int)) = true := by simp; omega
      have dk2 : decide (k < n) = true := by simp; omega
      have hkn : (k : Int) < (n : Int) := by omega
      clear HCM
      by_cases hc0 : cv < 0
      · have dc : decide (cv < 0) = true := by simpa using hc0
        have HLO3 := Lib.hid (HLO2.out hc0)
        clear HLO HLO2 HPOS
        go_wp2_with fail
        refine wp_region_quiet_below (by kernel_rfl) (by kernel_rfl) ?_
        repeat (any_goals (first | go_big_quiet_step (first | (with_reducible exact HCA.out _ _)) | quiet_step (first | (with_reducible exact HCA.out _ _))))
        refine wpQuiet_nil ?_
        intro w2 hw2
        have hb2 := below_rg hw2
        have HB2 := Lib.hid (HB.out.trans (hb2.mono HB.out.size))
        have HK2 := Lib.hid (HK.out.below hb2)
        clear hw2 hb2 HCA f0 f1 g0 g1
        go_wp2_with fail
        go_roundw
        case rel => exact ⟨k + 1, by omega, by go_num, HB2, HK2, HLO3⟩
        case measure => simp [intOf] <;> omega
      · have dc : decide (cv < 0) = false := by simpa using hc0
        have HR0 : Hid (R = if some (y1, y2) = some (x1, x2) then xs else xs.take k ++ ((x1, x2) :: xs.drop k)) := Lib.hid (by rw [HRW.out, HPOS.out (by omega), HIX.out])
        clear HLO HLO2 HPOS HIX
        go_wp2_with fail
        refine wp_region_quiet_below (by kernel_rfl) (by kernel_rfl) ?_
        repeat (any_goals (first | go_big_quiet_step (first | (with_reducible exact HCA.out _ _)) | quiet_step (first | (with_reducible exact HCA.out _ _))))
        refine wpQuiet_nil ?_
        intro w2 hw2
        have hb2 := below_rg hw2
        have HB2 := Lib.hid (HB.out.trans (hb2.mono HB.out.size))
        have HK2 := Lib.hid (HK.out.below hb2)
        clear hw2 hb2 HCA f0 f1 g0 g1 q0 q1 e0 e1
        obtain ⟨_, _, hpe, _, q0, q1⟩ := (HXW.out.ahead HB2.out) k h1
        cases hpe
        rw [HIT.out] at q0 q1
        simp only at q0 q1
        have e0 : w2.cell? ⟨w.heap.size, 0, none⟩ = some (.int .u64 x1) := by rw [HK2.out.cell]; rfl
        have e1 : w2.cell? ⟨w.heap.size, 1, none⟩ = some (.int .u64 x2) := by rw [HK2.out.cell]; rfl
        have hq := fun W => eql_dig y1 y2 x1 x2 W
        cases hz : (y1 == x1 && y2 == x2) with
        | true =>
          rw [hz] at hq
          have HR : Hid (R = xs) := Lib.hid (by
            simp only [Bool.and_eq_true, beq_iff_eq] at hz
            rw [HR0.out, if_pos (by rw [hz.1, hz.2])])
          clear hz HR0
          go_wp2_with fail
          go_quiet (fail)
          go_wp2_with fail
          go_ret
          rw [HR.out]
          exact ⟨_, c, by first | (rw [← HN.out]; done) | (rw [← HN.out]; rfl), HXW.out.ahead (below_drewN HB2.out _), by rw [← HN.out]; exact hc, .inl rfl, below_drewN HB2.out _⟩
        | false =>
          rw [hz] at hq
          have HR : Hid (R = xs.take k ++ ((x1, x2) :: xs.drop k)) := Lib.hid (by
            rw [HR0.out, if_neg]
            intro h
            simp only [Option.some.injEq, Prod.mk.injEq] at h
            simp [h.1, h.2] at hz)
          clear hz HR0
          go_wp2_with fail
          go_quiet (fail)
          have HB3 := Lib.hid (below_drewN HB2.out nq)
          have HK3 := Lib.hid (HK2.out.below (below_drewN (Below.refl _ _) nq))
          clear HB2 HK2 e0 e1 q0 q1
          generalize w2.drewN nq = w3 at HB3 HK3 ⊢
          have HB2 := HB3
          have HK2 := HK3
          obtain ⟨a, haa⟩ : ∃ a, a = some (⟨b0, o0, none⟩ : Addr) := ⟨_, rfl⟩
          rw [← haa] at HXW ⊢
          clear haa HAA
          have HX := HXW
          obtain ⟨A1, c1, hA1, hs1⟩ := dslice_hi a n c k (by omega)
          obtain ⟨m, hm⟩ : ∃ m, m = n - k := ⟨_, rfl⟩
          obtain ⟨A2, c2, hA2, hs2⟩ := dslice_lo a n c k m hk hc hm
          have hits := (HX.out).ahead HB2.out
          have hl1 : (xs.take k).length = k := by rw [List.length_take]; have := HN.out; omega
          have hl2 : (xs.drop k).length = m := by rw [List.length_drop]; have := HN.out; omega
          have hbd : (((xs.take k).length + (xs.drop k).length : Nat) : Int) ≤ 900000 := by rw [hl1, hl2]; omega
          obtain ⟨zv1, z1, zv2, z2, za, zc, z3, H11, H12, H13, hb1, HF1⟩ := insD1 (c1 := c1) (c2 := c2) (hA1 _ _ _ hits) (hA2 _ _ _ HN.out.symm hits) x1 x2 hbd hl1 hl2
          obtain ⟨yv1, y1, yv2, y2, ya, yc, y3, H21, H22, H23, hb2, HF2⟩ := insD2 (c1 := c1) (c2 := c2) (hA1 _ _ _ hits) (hA2 _ _ _ HN.out.symm hits) x1 x2 hbd hl1 hl2
          obtain ⟨tv1, t1, tv2, t2, ta, tc, t3, H31, H32, H33, hb3, HF3⟩ := insD3 (c1 := c1) (c2 := c2) (hA1 _ _ _ hits) (hA2 _ _ _ HN.out.symm hits) x1 x2 hbd hl1 hl2
          have HKZ := Lib.hid (HK2.out.below hb1)
          have p0 : z1.cell? ⟨w.heap.size, 0, none⟩ = some (.int .u64 x1) := by rw [HKZ.out.cell]; rfl
          have p1 : z1.cell? ⟨w.heap.size, 1, none⟩ = some (.int .u64 x2) := by rw [HKZ.out.cell]; rfl
          have e0 : w3.cell? ⟨w.heap.size, 0, none⟩ = some (.int .u64 x1) := by rw [HK2.out.cell]; rfl
          have e1 : w3.cell? ⟨w.heap.size, 1, none⟩ = some (.int .u64 x2) := by rw [HK2.out.cell]; rfl
          have e0a := fun o => cell_a1 e0 o
          have e1a := fun o => cell_a1 e1 o
          obtain ⟨len, hlen⟩ : ∃ len, len = (xs.take k ++ ((x1, x2) :: xs.drop k)).length := ⟨_, rfl⟩
          rw [← hlen] at H13 H23 H33
          have HLEN := Lib.hid hlen
          have hk1 : (k : Int) ≤ (c : Int) := by omega
          have hk2 : (k : Int) ≤ (n : Int) := by omega
          clear hlen hl1 hl2 hbd hits hA1 hA2 hb1 hb2 hb3 hm
          go_wp2_with fail
          go_region_law
            (first
            | ((with_reducible refine step_at ((w3.alloc (.cells #[] 32)).drew) ?_); refine step_append_run (by rfl) (.tmp 35) (.tmp 38) _ _ (by rfl) _ _ (by rfl) (by rfl) _ _ H11.out ?_)
            | ((with_reducible refine step_at (((w3.alloc (.cells #[] 32)).alloc (.cells #[.int .u64 x1, .int .u64 x2] 32)).drew) ?_); refine step_append_run (by rfl) (.tmp 35) (.tmp 38) _ _ (by rfl) _ _ (by rfl) (by rfl) _ _ H21.out ?_)
            | ((with_reducible refine step_at (((w3.alloc (.cells #[.int .u64 x1, .int .u64 x2] 32)).alloc (.cells #[] 32)).drew) ?_); refine step_append_run (by rfl) (.tmp 35) (.tmp 38) _ _ (by rfl) _ _ (by rfl) (by rfl) _ _ H31.out ?_)
            | ((with_reducible refine step_at (z1.alloc (.cells #[.int .u64 x1, .int .u64 x2] 32)) ?_); refine step_append_run (by rfl) (.tmp 39) (.tmp 41) _ _ (by rfl) _ _ (by rfl) (by rfl) _ _ H12.out ?_)
            | ((with_reducible refine step_at y1 ?_); refine step_append_run (by rfl) (.tmp 39) (.tmp 41) _ _ (by rfl) _ _ (by rfl) (by rfl) _ _ H22.out ?_)
            | ((with_reducible refine step_at t1 ?_); refine step_append_run (by rfl) (.tmp 39) (.tmp 41) _ _ (by rfl) _ _ (by rfl) (by rfl) _ _ H32.out ?_)
            | fail)
          all_goals
            go_wp2_with (at_builtin; first | (refine Lib.wpList_append_run _ rfl _ _ _ _ rfl _ _ rfl rfl _ _ H13.out ?_) | (refine Lib.wpList_append_run _ rfl _ _ _ _ rfl _ _ rfl rfl _ _ H23.out ?_) | (refine Lib.wpList_append_run _ rfl _ _ _ _ rfl _ _ rfl rfl _ _ H33.out ?_))
            go_ret
            rw [HR.out]
            first
            | exact ⟨za, zc, by first | (rw [HLEN.out]; done) | (rw [HLEN.out]; rfl), ownsRow_digs HF1.out.1, HF1.out.2.1, .inr (fun ad h => Nat.le_trans HB2.out.size (own_new HF1.out.1 ad h)), HB2.out.trans (HF1.out.2.2.mono HB2.out.size)⟩
            | exact ⟨ya, yc, by first | (rw [HLEN.out]; done) | (rw [HLEN.out]; rfl), ownsRow_digs HF2.out.1, HF2.out.2.1, .inr (fun ad h => Nat.le_trans HB2.out.size (own_new HF2.out.1 ad h)), HB2.out.trans (HF2.out.2.2.mono HB2.out.size)⟩
            | exact ⟨ta, tc, by first | (rw [HLEN.out]; done) | (rw [HLEN.out]; rfl), ownsRow_digs HF3.out.1, HF3.out.2.1, .inr (fun ad h => Nat.le_trans HB2.out.size (own_new HF3.out.1 ad h)), HB2.out.trans (HF3.out.2.2.mono HB2.out.size)⟩
    · obtain rfl : k = n := by omega
      have HR : Hid (R = xs.take k ++ ((x1, x2) :: xs.drop k)) := Lib.hid (by
        have hp := posD_of (d := (x1, x2)) (by rw [← HN.out]; exact hk) HLO.out (fun h => by have := HN.out; omega)
        rw [HRW.out, hp, if_neg]
        rw [List.getElem?_eq_none (by rw [← HN.out]; omega)]
        simp)
      have dk1 : decide ((k : Int) < (k : Int)) = false := by simp
      clear HLO
      go_wp2_with fail
      refine wp_region_quiet_below (by kernel_rfl) (by kernel_rfl) ?_
      repeat (any_goals (first | go_big_quiet_step (fail) | quiet_step (fail)))
      refine wpQuiet_nil ?_
      intro w2 hw2
      have hb2 := below_rg hw2
      have HB2 := Lib.hid (HB.out.trans (hb2.mono HB.out.size))
      have HK2 := Lib.hid (HK.out.below hb2)
      clear hw2 hb2
      go_wp2_with fail
      go_quiet (fail)
      have HB3 := Lib.hid (below_drewN HB2.out nq)
      have HK3 := Lib.hid (HK2.out.below (below_drewN (Below.refl _ _) nq))
      clear HB2 HK2
      generalize w2.drewN nq = w3 at HB3 HK3 ⊢
      have HB2 := HB3
      have HK2 := HK3
      have HX := HXW
      obtain ⟨A1, c1, hA1, hs1⟩ := dslice_hi a k c k (by omega)
      obtain ⟨m, hm⟩ : ∃ m, m = k - k := ⟨_, rfl⟩
      obtain ⟨A2, c2, hA2, hs2⟩ := dslice_lo a k c k m hk hc hm
      have hits := (HX.out).ahead HB2.out
      have hl1 : (xs.take k).length = k := by rw [List.length_take]; have := HN.out; omega
      have hl2 : (xs.drop k).length = m := by rw [List.length_drop]; have := HN.out; omega
      have hbd : (((xs.take k).length + (xs.drop k).length : Nat) : Int) ≤ 900000 := by rw [hl1, hl2]; omega
      obtain ⟨zv1, z1, zv2, z2, za, zc, z3, H11, H12, H13, hb1, HF1⟩ := insD1 (c1 := c1) (c2 := c2) (hA1 _ _ _ hits) (hA2 _ _ _ HN.out.symm hits) x1 x2 hbd hl1 hl2
      obtain ⟨yv1, y1, yv2, y2, ya, yc, y3, H21, H22, H23, hb2, HF2⟩ := insD2 (c1 := c1) (c2 := c2) (hA1 _ _ _ hits) (hA2 _ _ _ HN.out.symm hits) x1 x2 hbd hl1 hl2
      obtain ⟨tv1, t1, tv2, t2, ta, tc, t3, H31, H32, H33, hb3, HF3⟩ := insD3 (c1 := c1) (c2 := c2) (hA1 _ _ _ hits) (hA2 _ _ _ HN.out.symm hits) x1 x2 hbd hl1 hl2
      have HKZ := Lib.hid (HK2.out.below hb1)
      have p0 : z1.cell? ⟨w.heap.size, 0, none⟩ = some (.int .u64 x1) := by rw [HKZ.out.cell]; rfl
      have p1 : z1.cell? ⟨w.heap.size, 1, none⟩ = some (.int .u64 x2) := by rw [HKZ.out.cell]; rfl
      have e0 : w3.cell? ⟨w.heap.size, 0, none⟩ = some (.int .u64 x1) := by rw [HK2.out.cell]; rfl
      have e1 : w3.cell? ⟨w.heap.size, 1, none⟩ = some (.int .u64 x2) := by rw [HK2.out.cell]; rfl
      have e0a := fun o => cell_a1 e0 o
      have e1a := fun o => cell_a1 e1 o
      obtain ⟨len, hlen⟩ : ∃ len, len = (xs.take k ++ ((x1, x2) :: xs.drop k)).length := ⟨_, rfl⟩
      rw [← hlen] at H13 H23 H33
      have HLEN := Lib.hid hlen
      have hk1 : (k : Int) ≤ (c : Int) := by omega
      have hk2 : (k : Int) ≤ (k : Int) := by omega
      clear hlen hl1 hl2 hbd hits hA1 hA2 hb1 hb2 hb3 hm
      go_wp2_with fail
      go_region_law
        (first
        | ((with_reducible refine step_at ((w3.alloc (.cells #[] 32)).drew) ?_); refine step_append_run (by rfl) (.tmp 35) (.tmp 38) _ _ (by rfl) _ _ (by rfl) (by rfl) _ _ H11.out ?_)
        | ((with_reducible refine step_at (((w3.alloc (.cells #[] 32)).alloc (.cells #[.int .u64 x1, .int .u64 x2] 32)).drew) ?_); refine step_append_run (by rfl) (.tmp 35) (.tmp 38) _ _ (by rfl) _ _ (by rfl) (by rfl) _ _ H21.out ?_)
        | ((with_reducible refine step_at (((w3.alloc (.cells #[.int .u64 x1, .int .u64 x2] 32)).alloc (.cells #[] 32)).drew) ?_); refine step_append_run (by rfl) (.tmp 35) (.tmp 38) _ _ (by rfl) _ _ (by rfl) (by rfl) _ _ H31.out ?_)
        | ((with_reducible refine step_at (z1.alloc (.cells #[.int .u64 x1, .int .u64 x2] 32)) ?_); refine step_append_run (by rfl) (.tmp 39) (.tmp 41) _ _ (by rfl) _ _ (by rfl) (by rfl) _ _ H12.out ?_)
        | ((with_reducible refine step_at y1 ?_); refine step_append_run (by rfl) (.tmp 39) (.tmp 41) _ _ (by rfl) _ _ (by rfl) (by rfl) _ _ H22.out ?_)
        | ((with_reducible refine step_at t1 ?_); refine step_append_run (by rfl) (.tmp 39) (.tmp 41) _ _ (by rfl) _ _ (by rfl) (by rfl) _ _ H32.out ?_)
        | fail)
      all_goals
        go_wp2_with (at_builtin; first | (refine Lib.wpList_append_run _ rfl _ _ _ _ rfl _ _ rfl rfl _ _ H13.out ?_) | (refine Lib.wpList_append_run _ rfl _ _ _ _ rfl _ _ rfl rfl _ _ H23.out ?_) | (refine Lib.wpList_append_run _ rfl _ _ _ _ rfl _ _ rfl rfl _ _ H33.out ?_))
        go_ret
        rw [HR.out]
        first
        | exact ⟨za, zc, by first | (rw [HLEN.out]; done) | (rw [HLEN.out]; rfl), ownsRow_digs HF1.out.1, HF1.out.2.1, .inr (fun ad h => Nat.le_trans HB2.out.size (own_new HF1.out.1 ad h)), HB2.out.trans (HF1.out.2.2.mono HB2.out.size)⟩
        | exact ⟨ya, yc, by first | (rw [HLEN.out]; done) | (rw [HLEN.out]; rfl), ownsRow_digs HF2.out.1, HF2.out.2.1, .inr (fun ad h => Nat.le_trans HB2.out.size (own_new HF2.out.1 ad h)), HB2.out.trans (HF2.out.2.2.mono HB2.out.size)⟩
        | exact ⟨ta, tc, by first | (rw [HLEN.out]; done) | (rw [HLEN.out]; rfl), ownsRow_digs HF3.out.1, HF3.out.2.1, .inr (fun ad h => Nat.le_trans HB2.out.size (own_new HF3.out.1 ad h)), HB2.out.trans (HF3.out.2.2.mono HB2.out.size)⟩

end Go.Proofs.YtgdhkcocdmdoaaaGreat
