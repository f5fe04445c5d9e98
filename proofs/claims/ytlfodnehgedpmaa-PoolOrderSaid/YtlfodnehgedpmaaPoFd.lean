/- slices.BinarySearchFunc at items, pool.find. -/
import Derived.Test.YtlfodnehgedpmaaPoIt
namespace Go.Proofs.Ytlfodnehgedpmaa
open Go.RowKit Go.Shelf
set_option linter.unusedVariables false

set_option maxRecDepth 100000 in
set_option maxHeartbeats 2000000 in
theorem bsearch_any (a : Option Addr) (xs : List Itm) (c : Nat) (d1 d2 : Int) (w : World) (hx : Its w.heap.size w a xs) (ha : Asc xs) (hn : (xs.length : Int) ≤ 140737488355328) :
    Calls Try.prog 38 #[.slice a xs.length c, .agg #[.int .u64 d1, .int .u64 d2], .func (.func 39) #[] #[]] w (GotF w xs (d1, d2)) := by
  have HX := Lib.hid hx
  have HA := Lib.hid ha
  have HC := Lib.hid (fun (x : Itm) W => findc_any x d1 d2 W)
  obtain ⟨n, hnn⟩ : ∃ n, n = xs.length := ⟨_, rfl⟩
  have HN := Lib.hid hnn
  rw [← hnn] at hn ⊢
  have HS : Hid (BS xs (d1, d2) 0 n) := Lib.hid (by rw [hnn]; exact BS.start _ _)
  clear hx ha hnn
  go_enter Try.func38, Try.ntmps38
  go_wp2_with fail
  obtain ⟨u, hu⟩ : ∃ u, u = w.alloc (.cells #[.int .u64 d1, .int .u64 d2] 30) := ⟨_, rfl⟩
  have hus : u.heap.size = w.heap.size + 1 := by rw [hu]; simp
  have HU : Hid (BK w.heap.size #[.int .u64 d1, .int .u64 d2] 30 u) := Lib.hid (by rw [hu]; exact BK.new _ _ _)
  have HWU : Hid (Below w.heap.size w u) := Lib.hid (by rw [hu]; exact (Below.refl _ w).alloc (Nat.le_refl _) _)
  have HUS := Lib.hid hus
  rw [← hu]
  clear hu hus
  go_loopw [9, 10] (fun i j wr => ∃ (ki kj : Nat), i = .int .i64 ki ∧ j = .int .i64 kj ∧ ki ≤ kj ∧ kj ≤ n ∧ Hid (BS xs (d1, d2) ki kj) ∧ Hid (Below u.heap.size u wr)) (fun i j _ => (intOf j).toNat - (intOf i).toNat)
  case atStart => exact ⟨0, n, rfl, rfl, by omega, by omega, HS, Lib.hid (Below.refl _ _)⟩
  case round =>
    clear HS
    obtain ⟨ki, kj, rfl, rfl, hij, hjn, HB, HW⟩ := hrel
    have hws := HW.out.size
    have hwu := HUS.out
    have hX : Its wr.heap.size wr a xs := (HX.out.ahead HWU.out).ahead HW.out
    have bk : BK w.heap.size #[.int .u64 d1, .int .u64 d2] 30 wr := HU.out.below HW.out
    have c0 : wr.cell? ⟨w.heap.size, 0, none⟩ = some (.int .u64 d1) := by rw [bk.cell]; rfl
    have c1 : wr.cell? ⟨w.heap.size, 1, none⟩ = some (.int .u64 d2) := by rw [bk.cell]; rfl
    have HXR := Lib.hid hX
    clear hX bk
    by_cases hlt : ki < kj
    · obtain ⟨h, hh⟩ : ∃ h, h = (ki + kj) / 2 := ⟨_, rfl⟩
      have hh1 : ki ≤ h := by omega
      have hh2 : h < kj := by omega
      have hh3 : h < xs.length := by have := HN.out; omega
      have hdv : ((ki : Int) + (kj : Int)) / 2 = (h : Int) := by omega
      have HDV := Lib.hid hdv
      have hhn : (h : Int) < (n : Int) := by have := HN.out; omega
      obtain ⟨b0, o0, rfl, hb0, q0, q1, q2⟩ := HXR.out h hh3
      have HL := Lib.hid (fun hc => HB.out.left HA.out hh3 hc)
      have HR := Lib.hid (fun hc => HB.out.right HA.out hh3 hc)
      generalize xs[h] = it at q0 q1 q2 HL HR
      have HC2 := Lib.hid (fun d os => Calls.regrown_of (w := wr) (d := d) (os := os) (HC.out it _))
      obtain ⟨⟨i1, i2⟩, dt⟩ := it
      simp only at q0 q1 q2 HL HR HC2
      generalize cmpD (i1, i2) (d1, d2) = cv at HL HR HC2
      have c0' := fun d os => cell_regrown c0 d os
      have c1' := fun d os => cell_regrown c1 d os
      have q0' := fun d os => cell_regrown q0 d os
      have q1' := fun d os => cell_regrown q1 d os
      have q2' := fun d os => cell_regrown q2 d os
      clear hdv hh
      go_upto_region 5 with (fail)
      rw [HDV.out]
      refine wp_region_quiet_below (by kernel_rfl) (by kernel_rfl) ?_
      repeat (any_goals (first | go_big_quiet_step (with_reducible exact HC2.out _ _) | quiet_step (with_reducible exact HC2.out _ _)))
      refine wpQuiet_nil ?_
      intro w2 hw2
      have HB2 := Lib.hid (below_rg hw2)
      have hw2s := HB2.out.size
      clear hw2 HC2 c0' c1' q0' q1' q2'
      by_cases hc : cv < 0
      · have HBS := Lib.hid (HL.out hc)
        have dc : decide (cv < 0) = true := by simpa using hc
        clear HL HR
        go_wp2_with fail
        go_roundw
        case rel => exact ⟨h + 1, kj, by go_num, rfl, by omega, by omega, HBS, Lib.hid (HW.out.trans (HB2.out.mono hws))⟩
        case measure => simp [intOf]; omega
      · have HBS := Lib.hid (HR.out (by omega))
        have dc : decide (cv < 0) = false := by simpa using hc
        clear HL HR
        go_wp2_with fail
        go_roundw
        case rel => exact ⟨ki, h, rfl, by go_num, by omega, by omega, HBS, Lib.hid (HW.out.trans (HB2.out.mono hws))⟩
        case measure => simp [intOf]; omega
    · obtain rfl : ki = kj := by omega
      have HAT : Hid (At xs (d1, d2) ki) := Lib.hid (HB.out.fin (by have := HN.out; omega))
      by_cases hkn : ki < n
      · have hh3 : ki < xs.length := by have := HN.out; omega
        have g0 : decide ((ki : Int) < (n : Int)) = true := by simp; omega
        have g1 : decide (ki < n) = true := by simp; omega
        obtain ⟨b0, o0, rfl, hb0, q0, q1, q2⟩ := HXR.out ki hh3
        have HT : Hid (hitB xs (d1, d2) ki = decide (xs[ki].d = (d1, d2))) := Lib.hid (by unfold hitB; rw [List.getElem?_eq_getElem hh3])
        generalize xs[ki] = it at q0 q1 q2 HT
        have HC2 := Lib.hid (fun d os => Calls.regrown_of (w := wr) (d := d) (os := os) (HC.out it _))
        obtain ⟨⟨i1, i2⟩, dt⟩ := it
        simp only at q0 q1 q2 HC2 HT
        have HT2 : Hid (hitB xs (d1, d2) ki = (cmpD (i1, i2) (d1, d2) == 0)) := Lib.hid (by
          rw [HT.out]
          by_cases h : (i1, i2) = (d1, d2)
          · rw [decide_eq_true h, cmpD_zero.2 h]; rfl
          · rw [decide_eq_false h]
            symm
            rw [beq_eq_false_iff_ne]
            exact fun h2 => h (cmpD_zero.1 h2))
        generalize cmpD (i1, i2) (d1, d2) = cv at HC2 HT2
        have c0' := fun d os => cell_regrown c0 d os
        have c1' := fun d os => cell_regrown c1 d os
        have q0' := fun d os => cell_regrown q0 d os
        have q1' := fun d os => cell_regrown q1 d os
        have q2' := fun d os => cell_regrown q2 d os
        clear HT
        go_wp2_with fail
        refine wp_region_quiet_below (by kernel_rfl) (by kernel_rfl) ?_
        repeat (any_goals (first | go_big_quiet_step (with_reducible exact HC2.out _ _) | quiet_step (with_reducible exact HC2.out _ _)))
        refine wpQuiet_nil ?_
        intro w2 hw2
        have HB2 := Lib.hid (below_rg hw2)
        clear hw2 HC2 c0' c1' q0' q1' q2'
        go_wp2_with fail
        go_ret2
        refine ⟨ki, by rw [HT2.out]; rfl, HAT.out, ?_⟩
        exact HWU.out.trans ((HW.out.trans (HB2.out.mono hws)).mono (by omega))
      · have g0 : decide ((ki : Int) < (n : Int)) = false := by simp; omega
        have g1 : decide (ki < n) = false := by simp; omega
        have HT : Hid (hitB xs (d1, d2) ki = false) := Lib.hid (by unfold hitB; rw [List.getElem?_eq_none (by have := HN.out; omega)])
        go_wp2_with fail
        refine wp_region_quiet_below (by kernel_rfl) (by kernel_rfl) ?_
        repeat (any_goals (first | go_big_quiet_step (fail) | quiet_step (fail)))
        refine wpQuiet_nil ?_
        intro w2 hw2
        have HB2 := Lib.hid (below_rg hw2)
        clear hw2
        go_wp2_with fail
        go_ret2
        refine ⟨ki, by rw [HT.out]; rfl, HAT.out, ?_⟩
        exact HWU.out.trans ((HW.out.trans (HB2.out.mono hws)).mono (by omega))

set_option maxRecDepth 100000 in
set_option maxHeartbeats 1000000 in
theorem find_any (a : Option Addr) (xs : List Itm) (c : Nat) (d1 d2 : Int) (w : World) (hx : Its w.heap.size w a xs) (ha : Asc xs) (hn : (xs.length : Int) ≤ 140737488355328) :
    Calls Try.prog 26 #[.slice a xs.length c, .agg #[.int .u64 d1, .int .u64 d2]] w (GotF w xs (d1, d2)) := by
  have HC := Lib.hid (fun W (hW : Below w.heap.size w W) => bsearch_any a xs c d1 d2 W (hx.ahead hW) ha hn)
  clear hx ha
  generalize xs.length = n at HC hn ⊢
  go_enter Try.func26, Try.ntmps26
  go_wp2_with fail
  have hx := HC.out (w.alloc (.cells #[.int .u64 d1, .int .u64 d2] 30)) ((Below.refl _ w).alloc (Nat.le_refl _) _)
  (with_reducible refine hx.mono ?_)
  clear hx HC
  rintro e w1 ⟨k, rfl, hat, hb⟩
  have HAT := Lib.hid hat
  have HB := Lib.hid hb
  clear hat hb
  go_wp2_with fail
  go_ret2
  exact ⟨k, rfl, HAT.out, ((Below.refl _ w).alloc (Nat.le_refl _) _).trans (HB.out.mono (by simp))⟩

end Go.Proofs.Ytlfodnehgedpmaa
