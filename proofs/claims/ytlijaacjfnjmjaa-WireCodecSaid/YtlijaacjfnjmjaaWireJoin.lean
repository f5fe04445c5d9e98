/- wire.join. -/
import Derived.Test.YtlijaacjfnjmjaaWireA
import Derived.Lib.IndexBytes
namespace Go.Proofs.Ytlijaacjfnjmjaa
open Go.RowKit

theorem ba_eq {t : ByteArray} {l : List UInt8} (h : t.data.toList = l) : t = ⟨l.toArray⟩ := by
  subst h; cases t; simp

theorem endL (off : Int) (T : List UInt8) (w : World) (h0 : 0 ≤ off) (h1 : off ≤ 1048576) (hs : (T.length : Int) ≤ 1048576) :
    Calls Try.prog 33 #[.agg #[.int .i64 off, .string ⟨T.toArray⟩]] w fun e w' => e = .returned (.int .i64 (off + T.length)) ∧ Below w.heap.size w w' := by
  refine (end_any off ⟨T.toArray⟩ w (by omega) (by omega) (by rw [ba_len]; omega)).mono ?_
  rintro e w' ⟨rfl, rfl⟩
  rw [ba_len]
  exact ⟨rfl, (Below.refl _ _).alloc (Nat.le_refl _) _⟩

/-- The union of two pieces, the first one first. -/
def joinO (a b : P) : Option P :=
  if (a.2.drop (b.1 - a.1).toNat).take (min (a.1 + a.2.length) (b.1 + b.2.length) - b.1).toNat ≠ b.2.take (min (a.1 + a.2.length) (b.1 + b.2.length) - b.1).toNat then none
  else if (min (a.1 + a.2.length) (b.1 + b.2.length) - b.1).toNat = b.2.length then some a
  else if (b.1 - a.1).toNat = 0 then some b
  else some (a.1, a.2 ++ b.2.drop (min (a.1 + a.2.length) (b.1 + b.2.length) - b.1).toNat)

theorem joinO_eq (oa ob : Int) (A B : List UInt8) (st cn : Nat) (h1 : (st : Int) = ob - oa) (h2 : min (oa + (A.length : Int)) (ob + (B.length : Int)) - ob = (cn : Int)) :
    joinO (oa, A) (ob, B) = if (A.drop st).take cn ≠ B.take cn then none else if cn = B.length then some (oa, A) else if st = 0 then some (ob, B) else some (oa, A ++ B.drop cn) := by
  unfold joinO
  simp only
  rw [h2, ← h1, Int.toNat_natCast, Int.toNat_natCast]

/-- What join returns. -/
def Joined (w : World) (r : Option P) (e : Ending) (w' : World) : Prop :=
  e = .returned (.tuple #[.agg #[.int .i64 (r.getD (0, [])).1, .string ⟨(r.getD (0, [])).2.toArray⟩], .bool r.isSome]) ∧ Below w.heap.size w w'

set_option maxHeartbeats 2000000 in
theorem join_ord (oa ob : Int) (A B : List UInt8) (w : World) (ha0 : 0 ≤ oa) (ha1 : oa ≤ 1048576) (hb0 : 0 ≤ ob) (hb1 : ob ≤ 1048576) (hA : (A.length : Int) ≤ 1048576) (hB : (B.length : Int) ≤ 1048576) (ho : oa ≤ ob) (ho' : ¬ ob < oa) (ht : ob ≤ oa + A.length) :
    Calls Try.prog 34 #[.agg #[.int .i64 oa, .string ⟨A.toArray⟩], .agg #[.int .i64 ob, .string ⟨B.toArray⟩]] w (Joined w (joinO (oa, A) (ob, B))) := by
  obtain ⟨st, hst⟩ : ∃ st : Nat, (st : Int) = ob - oa := ⟨(ob - oa).toNat, by omega⟩
  obtain ⟨cm, hcm, hcm0⟩ : ∃ cm : Int, min (oa + (A.length : Int)) (ob + (B.length : Int)) - ob = cm ∧ 0 ≤ cm := ⟨_, rfl, by omega⟩
  obtain ⟨cn, rfl⟩ : ∃ cn : Nat, cm = (cn : Int) := ⟨cm.toNat, by omega⟩
  clear hcm0
  have hc1 : ob + cn ≤ oa + A.length := by omega
  have hc2 : (cn : Int) ≤ B.length := by omega
  have hc3 : (st : Int) + cn ≤ A.length := by omega
  have HJ := Lib.hid (joinO_eq oa ob A B st cn hst hcm)
  have HST := Lib.hid hst
  have HCM := Lib.hid hcm
  have hst' : ob - oa = (st : Int) := hst.symm
  have hmin : (if ob + (B.length : Int) < oa + (A.length : Int) then ob + (B.length : Int) else oa + (A.length : Int)) = ob + (cn : Int) := by split <;> omega
  have hcc : ob + (cn : Int) - ob = (cn : Int) := by omega
  clear hst hcm
  obtain ⟨X, HX, hslX⟩ : ∃ X : List UInt8, Hid (X = (A.drop st).take cn) ∧ ∀ W, (Instr.slice 9 (.string ⟨A.toArray⟩) (some (.int .i64 st)) (some (.int .i64 ((st : Int) + cn))) none).run Try.prog W = .ok (.string ⟨X.toArray⟩) W := by
    refine ⟨_, Lib.hid rfl, fun W => ?_⟩
    rw [run_slice_string W 9 ⟨A.toArray⟩ .i64 .i64 st ((st : Int) + cn) Try.underlying9 (by omega) (by omega) (by rw [ba_len]; omega)]
    have : (⟨A.toArray⟩ : ByteArray).extract ((st : Int)).toNat ((st : Int) + cn).toNat = ⟨((A.drop st).take cn).toArray⟩ := ba_eq (by
      rw [Lib.extract_data, show ((st : Int) + cn).toNat - ((st : Int)).toNat = cn from by omega, Int.toNat_natCast])
    rw [this]
  obtain ⟨Y, HY, hslY⟩ : ∃ Y : List UInt8, Hid (Y = B.take cn) ∧ ∀ W, (Instr.slice 9 (.string ⟨B.toArray⟩) none (some (.int .i64 cn)) none).run Try.prog W = .ok (.string ⟨Y.toArray⟩) W := by
    refine ⟨_, Lib.hid rfl, fun W => ?_⟩
    rw [run_slice_string_h (P := Try.prog) W (t := 9) ⟨B.toArray⟩ Try.underlying9 .i64 cn (by omega) (by rw [ba_len]; omega)]
    have : (⟨B.toArray⟩ : ByteArray).extract 0 ((cn : Int)).toNat = ⟨(B.take cn).toArray⟩ := ba_eq (by rw [Lib.extract_data, List.drop_zero, Nat.sub_zero, Int.toNat_natCast])
    rw [this]
  obtain ⟨Z, HZ, hslZ⟩ : ∃ Z : List UInt8, Hid (Z = B.drop cn) ∧ ∀ W, (Instr.slice 9 (.string ⟨B.toArray⟩) (some (.int .i64 cn)) none none).run Try.prog W = .ok (.string ⟨Z.toArray⟩) W := by
    refine ⟨_, Lib.hid rfl, fun W => ?_⟩
    rw [run_slice_string_l (P := Try.prog) W (t := 9) ⟨B.toArray⟩ Try.underlying9 .i64 cn (by omega) (by rw [ba_len]; omega)]
    have : (⟨B.toArray⟩ : ByteArray).extract ((cn : Int)).toNat (⟨B.toArray⟩ : ByteArray).size = ⟨(B.drop cn).toArray⟩ := ba_eq (by rw [Lib.extract_to_end, Int.toNat_natCast])
    rw [this]
  have hZl : (Z.length : Int) ≤ 1048576 := by rw [HZ.out, List.length_drop]; omega
  have hadd : ∀ W, (Op.stringOp .add ⟨A.toArray⟩ ⟨Z.toArray⟩).run Try.prog W = .ok (.string ⟨(A ++ Z).toArray⟩) W := fun W => run_string_add_lists W A Z (by omega) (by omega)
  obtain ⟨W, hW⟩ : ∃ W : World, (((w.alloc (.cells #[.int .i64 oa, .string ⟨A.toArray⟩] 40)).alloc (.cells #[.int .i64 ob, .string ⟨B.toArray⟩] 40)).alloc (.cells #[.int .i64 0, .string ⟨#[]⟩] 40)) = W := ⟨_, rfl⟩
  have HBW : Hid (Below w.heap.size w W) := Lib.hid (by rw [← hW]; exact (((Below.refl _ w).alloc (Nat.le_refl _) _).alloc (by simp) _).alloc (by simp; omega) _)
  have w0 : W.cell? ⟨w.heap.size, 0, none⟩ = some (.int .i64 oa) := by rw [← hW]; simp [go_sem]
  have w1 : W.cell? ⟨w.heap.size, 1, none⟩ = some (.string ⟨A.toArray⟩) := by rw [← hW]; simp [go_sem]
  have w2 : W.cell? ⟨w.heap.size + 1, 0, none⟩ = some (.int .i64 ob) := by rw [← hW]; simp [go_sem]
  have w3 : W.cell? ⟨w.heap.size + 1, 1, none⟩ = some (.string ⟨B.toArray⟩) := by rw [← hW]; simp [go_sem]
  have w4 : W.cell? ⟨w.heap.size + 1 + 1, 0, none⟩ = some (.int .i64 0) := by rw [← hW]; simp [go_sem]
  have w5 : W.cell? ⟨w.heap.size + 1 + 1, 1, none⟩ = some (.string ⟨#[]⟩) := by rw [← hW]; simp [go_sem]
  have f4 : W.frozen? ⟨w.heap.size + 1 + 1, 0, none⟩ = false := by rw [← hW]; simp [go_sem]
  have f5 : W.frozen? ⟨w.heap.size + 1 + 1, 1, none⟩ = false := by rw [← hW]; simp [go_sem]
  have hWs : w.heap.size + 3 ≤ W.heap.size := by rw [← hW]; simp [go_sem]
  have HW := Lib.hid hW
  clear hW
  have HE := Lib.hid (fun (o : Int) (T : List UInt8) (d : Nat) (os : Array Obj) h0 h1 h2 => Calls.regrown_of (w := W) (d := d) (os := os) (endL o T _ h0 h1 h2))
  have k0 := cell_regrown w0
  have k1 := cell_regrown w1
  have k2 := cell_regrown w2
  have k3 := cell_regrown w3
  go_enter Try.func34, Try.ntmps34
  go_wp2_with fail
  rw [HW.out]
  refine wp_region_quiet_below (by kernel_rfl) (by kernel_rfl) ?_
  repeat (any_goals (first | go_big_quiet_step (refine HE.out _ _ _ _ ?_ ?_ ?_ <;> omega) | quiet_step (refine HE.out _ _ _ _ ?_ ?_ ?_ <;> omega)))
  refine wpQuiet_nil ?_
  intro x2 hx2
  have hb2 := below_rg hx2
  clear hx2 HE k0 k1 k2 k3
  have HB2 := Lib.hid (HBW.out.trans (hb2.mono HBW.out.size))
  have y0 := (hb2.cell (p := ⟨w.heap.size, 0, none⟩) (by simp; omega)).trans w0
  have y1 := (hb2.cell (p := ⟨w.heap.size, 1, none⟩) (by simp; omega)).trans w1
  have y2 := (hb2.cell (p := ⟨w.heap.size + 1, 0, none⟩) (by simp; omega)).trans w2
  have y3 := (hb2.cell (p := ⟨w.heap.size + 1, 1, none⟩) (by simp; omega)).trans w3
  have y4 := (hb2.cell (p := ⟨w.heap.size + 1 + 1, 0, none⟩) (by simp; omega)).trans w4
  have y5 := (hb2.cell (p := ⟨w.heap.size + 1 + 1, 1, none⟩) (by simp; omega)).trans w5
  have z4 := (hb2.frozen (p := ⟨w.heap.size + 1 + 1, 0, none⟩) (by simp; omega)).trans f4
  have z5 := (hb2.frozen (p := ⟨w.heap.size + 1 + 1, 1, none⟩) (by simp; omega)).trans f5
  have hx2s : w.heap.size + 3 ≤ x2.heap.size := Nat.le_trans hWs hb2.size
  clear hb2 w0 w1 w2 w3 w4 w5 f4 f5 hWs HBW HW hmin
  go_wp2_with fail
  by_cases hXY : X = Y
  · subst hXY
    rw [HX.out] at HY
    have hXX : (X == X) = true := by simp
    go_quiet (fail)
    clear hslX hslY
    by_cases hcB : cn = B.length
    · have hcB' : ((cn : Int) == (B.length : Int)) = true := by rw [beq_iff_eq]; omega
      have HF : Hid (joinO (oa, A) (ob, B) = some (oa, A)) := Lib.hid (by rw [HJ.out, if_neg (by simpa using HY.out), if_pos hcB])
      clear hcB
      go_wp2_with fail
      refine bodyPost_ret (v := .tuple #[.agg #[.int .i64 oa, .string ⟨A.toArray⟩], .bool true]) (by simp [results, Try.results34, go_sem, y4, y5]) rfl ⟨by rw [HF.out]; rfl, ((below_drewN HB2.out _).setCell (by simp; omega) _).setCell (by simp; omega) _⟩
    · have hcB' : ((cn : Int) == (B.length : Int)) = false := by rw [beq_eq_false_iff_ne]; omega
      by_cases hs0 : st = 0
      · have HF : Hid (joinO (oa, A) (ob, B) = some (ob, B)) := Lib.hid (by rw [HJ.out, if_neg (by simpa using HY.out), if_neg hcB, if_pos hs0])
        have hs0' : ((st : Int) == 0) = true := by rw [beq_iff_eq]; omega
        clear hcB hs0
        go_wp2_with fail
        refine bodyPost_ret (v := .tuple #[.agg #[.int .i64 ob, .string ⟨B.toArray⟩], .bool true]) (by simp [results, Try.results34, go_sem, y4, y5]) rfl ⟨by rw [HF.out]; rfl, ((below_drewN HB2.out _).setCell (by simp; omega) _).setCell (by simp; omega) _⟩
      · have HF : Hid (joinO (oa, A) (ob, B) = some (oa, A ++ Z)) := Lib.hid (by rw [HJ.out, if_neg (by simpa using HY.out), if_neg hcB, if_neg hs0, HZ.out])
        have hs0' : ((st : Int) == 0) = false := by rw [beq_eq_false_iff_ne]; omega
        clear hcB hs0
        go_wp2_with fail
        go_region
        all_goals
          go_wp2_with fail
          refine bodyPost_ret (v := .tuple #[.agg #[.int .i64 oa, .string ⟨(A ++ Z).toArray⟩], .bool true]) (by simp [results, Try.results34, go_sem, y4, y5]) rfl ⟨by rw [HF.out]; rfl, ((below_drewN HB2.out _).setCell (by simp; omega) _).setCell (by simp; omega) _⟩
  · have hXY' : (X == Y) = false := by simpa using hXY
    have HF : Hid (joinO (oa, A) (ob, B) = none) := Lib.hid (by rw [HJ.out, if_pos]; rw [← HX.out, ← HY.out]; exact hXY)
    clear hXY
    go_quiet (fail)
    go_wp2_with fail
    refine bodyPost_ret (v := .tuple #[.agg #[.int .i64 0, .string ⟨#[]⟩], .bool false]) (by simp [results, Try.results34, go_sem, y4, y5]) rfl ⟨by rw [HF.out]; rfl, ((below_drewN HB2.out _).setCell (by simp; omega) _).setCell (by simp; omega) _⟩

set_option maxHeartbeats 2000000 in
theorem join_swp (oa ob : Int) (A B : List UInt8) (w : World) (ha0 : 0 ≤ oa) (ha1 : oa ≤ 1048576) (hb0 : 0 ≤ ob) (hb1 : ob ≤ 1048576) (hA : (A.length : Int) ≤ 1048576) (hB : (B.length : Int) ≤ 1048576) (ho' : oa < ob) (ht : ob ≤ oa + A.length) :
    Calls Try.prog 34 #[.agg #[.int .i64 ob, .string ⟨B.toArray⟩], .agg #[.int .i64 oa, .string ⟨A.toArray⟩]] w (Joined w (joinO (oa, A) (ob, B))) := by
  obtain ⟨st, hst⟩ : ∃ st : Nat, (st : Int) = ob - oa := ⟨(ob - oa).toNat, by omega⟩
  obtain ⟨cm, hcm, hcm0⟩ : ∃ cm : Int, min (oa + (A.length : Int)) (ob + (B.length : Int)) - ob = cm ∧ 0 ≤ cm := ⟨_, rfl, by omega⟩
  obtain ⟨cn, rfl⟩ : ∃ cn : Nat, cm = (cn : Int) := ⟨cm.toNat, by omega⟩
  clear hcm0
  have hc1 : ob + cn ≤ oa + A.length := by omega
  have hc2 : (cn : Int) ≤ B.length := by omega
  have hc3 : (st : Int) + cn ≤ A.length := by omega
  have HJ := Lib.hid (joinO_eq oa ob A B st cn hst hcm)
  have HST := Lib.hid hst
  have HCM := Lib.hid hcm
  have hst' : ob - oa = (st : Int) := hst.symm
  have hmin : (if ob + (B.length : Int) < oa + (A.length : Int) then ob + (B.length : Int) else oa + (A.length : Int)) = ob + (cn : Int) := by split <;> omega
  have hcc : ob + (cn : Int) - ob = (cn : Int) := by omega
  clear hst hcm
  obtain ⟨X, HX, hslX⟩ : ∃ X : List UInt8, Hid (X = (A.drop st).take cn) ∧ ∀ W, (Instr.slice 9 (.string ⟨A.toArray⟩) (some (.int .i64 st)) (some (.int .i64 ((st : Int) + cn))) none).run Try.prog W = .ok (.string ⟨X.toArray⟩) W := by
    refine ⟨_, Lib.hid rfl, fun W => ?_⟩
    rw [run_slice_string W 9 ⟨A.toArray⟩ .i64 .i64 st ((st : Int) + cn) Try.underlying9 (by omega) (by omega) (by rw [ba_len]; omega)]
    have : (⟨A.toArray⟩ : ByteArray).extract ((st : Int)).toNat ((st : Int) + cn).toNat = ⟨((A.drop st).take cn).toArray⟩ := ba_eq (by
      rw [Lib.extract_data, show ((st : Int) + cn).toNat - ((st : Int)).toNat = cn from by omega, Int.toNat_natCast])
    rw [this]
  obtain ⟨Y, HY, hslY⟩ : ∃ Y : List UInt8, Hid (Y = B.take cn) ∧ ∀ W, (Instr.slice 9 (.string ⟨B.toArray⟩) none (some (.int .i64 cn)) none).run Try.prog W = .ok (.string ⟨Y.toArray⟩) W := by
    refine ⟨_, Lib.hid rfl, fun W => ?_⟩
    rw [run_slice_string_h (P := Try.prog) W (t := 9) ⟨B.toArray⟩ Try.underlying9 .i64 cn (by omega) (by rw [ba_len]; omega)]
    have : (⟨B.toArray⟩ : ByteArray).extract 0 ((cn : Int)).toNat = ⟨(B.take cn).toArray⟩ := ba_eq (by rw [Lib.extract_data, List.drop_zero, Nat.sub_zero, Int.toNat_natCast])
    rw [this]
  obtain ⟨Z, HZ, hslZ⟩ : ∃ Z : List UInt8, Hid (Z = B.drop cn) ∧ ∀ W, (Instr.slice 9 (.string ⟨B.toArray⟩) (some (.int .i64 cn)) none none).run Try.prog W = .ok (.string ⟨Z.toArray⟩) W := by
    refine ⟨_, Lib.hid rfl, fun W => ?_⟩
    rw [run_slice_string_l (P := Try.prog) W (t := 9) ⟨B.toArray⟩ Try.underlying9 .i64 cn (by omega) (by rw [ba_len]; omega)]
    have : (⟨B.toArray⟩ : ByteArray).extract ((cn : Int)).toNat (⟨B.toArray⟩ : ByteArray).size = ⟨(B.drop cn).toArray⟩ := ba_eq (by rw [Lib.extract_to_end, Int.toNat_natCast])
    rw [this]
  have hZl : (Z.length : Int) ≤ 1048576 := by rw [HZ.out, List.length_drop]; omega
  have hadd : ∀ W, (Op.stringOp .add ⟨A.toArray⟩ ⟨Z.toArray⟩).run Try.prog W = .ok (.string ⟨(A ++ Z).toArray⟩) W := fun W => run_string_add_lists W A Z (by omega) (by omega)
  obtain ⟨W, hW⟩ : ∃ W : World, (((w.alloc (.cells #[.int .i64 oa, .string ⟨A.toArray⟩] 40)).alloc (.cells #[.int .i64 ob, .string ⟨B.toArray⟩] 40)).alloc (.cells #[.int .i64 0, .string ⟨#[]⟩] 40)) = W := ⟨_, rfl⟩
  have HBW : Hid (Below w.heap.size w W) := Lib.hid (by rw [← hW]; exact (((Below.refl _ w).alloc (Nat.le_refl _) _).alloc (by simp) _).alloc (by simp; omega) _)
  have w0 : W.cell? ⟨w.heap.size, 0, none⟩ = some (.int .i64 oa) := by rw [← hW]; simp [go_sem]
  have w1 : W.cell? ⟨w.heap.size, 1, none⟩ = some (.string ⟨A.toArray⟩) := by rw [← hW]; simp [go_sem]
  have w2 : W.cell? ⟨w.heap.size + 1, 0, none⟩ = some (.int .i64 ob) := by rw [← hW]; simp [go_sem]
  have w3 : W.cell? ⟨w.heap.size + 1, 1, none⟩ = some (.string ⟨B.toArray⟩) := by rw [← hW]; simp [go_sem]
  have w4 : W.cell? ⟨w.heap.size + 1 + 1, 0, none⟩ = some (.int .i64 0) := by rw [← hW]; simp [go_sem]
  have w5 : W.cell? ⟨w.heap.size + 1 + 1, 1, none⟩ = some (.string ⟨#[]⟩) := by rw [← hW]; simp [go_sem]
  have f4 : W.frozen? ⟨w.heap.size + 1 + 1, 0, none⟩ = false := by rw [← hW]; simp [go_sem]
  have f5 : W.frozen? ⟨w.heap.size + 1 + 1, 1, none⟩ = false := by rw [← hW]; simp [go_sem]
  have hWs : w.heap.size + 3 ≤ W.heap.size := by rw [← hW]; simp [go_sem]
  have HW := Lib.hid hW
  clear hW
  have HE := Lib.hid (fun (o : Int) (T : List UInt8) (d : Nat) (os : Array Obj) h0 h1 h2 => Calls.regrown_of (w := W) (d := d) (os := os) (endL o T _ h0 h1 h2))
  have k0 := cell_regrown w0
  have k1 := cell_regrown w1
  have k2 := cell_regrown w2
  have k3 := cell_regrown w3
  go_enter Try.func34, Try.ntmps34
  go_wp2_with fail
  rw [HW.out]
  refine wp_region_quiet_below (by kernel_rfl) (by kernel_rfl) ?_
  repeat (any_goals (first | go_big_quiet_step (refine HE.out _ _ _ _ ?_ ?_ ?_ <;> omega) | quiet_step (refine HE.out _ _ _ _ ?_ ?_ ?_ <;> omega)))
  refine wpQuiet_nil ?_
  intro x2 hx2
  have hb2 := below_rg hx2
  clear hx2 HE k0 k1 k2 k3
  have HB2 := Lib.hid (HBW.out.trans (hb2.mono HBW.out.size))
  have y0 := (hb2.cell (p := ⟨w.heap.size, 0, none⟩) (by simp; omega)).trans w0
  have y1 := (hb2.cell (p := ⟨w.heap.size, 1, none⟩) (by simp; omega)).trans w1
  have y2 := (hb2.cell (p := ⟨w.heap.size + 1, 0, none⟩) (by simp; omega)).trans w2
  have y3 := (hb2.cell (p := ⟨w.heap.size + 1, 1, none⟩) (by simp; omega)).trans w3
  have y4 := (hb2.cell (p := ⟨w.heap.size + 1 + 1, 0, none⟩) (by simp; omega)).trans w4
  have y5 := (hb2.cell (p := ⟨w.heap.size + 1 + 1, 1, none⟩) (by simp; omega)).trans w5
  have z4 := (hb2.frozen (p := ⟨w.heap.size + 1 + 1, 0, none⟩) (by simp; omega)).trans f4
  have z5 := (hb2.frozen (p := ⟨w.heap.size + 1 + 1, 1, none⟩) (by simp; omega)).trans f5
  have hx2s : w.heap.size + 3 ≤ x2.heap.size := Nat.le_trans hWs hb2.size
  clear hb2 w0 w1 w2 w3 w4 w5 f4 f5 hWs HBW HW hmin
  go_wp2_with fail
  by_cases hXY : X = Y
  · subst hXY
    rw [HX.out] at HY
    have hXX : (X == X) = true := by simp
    go_quiet (fail)
    clear hslX hslY
    by_cases hcB : cn = B.length
    · have hcB' : ((cn : Int) == (B.length : Int)) = true := by rw [beq_iff_eq]; omega
      have HF : Hid (joinO (oa, A) (ob, B) = some (oa, A)) := Lib.hid (by rw [HJ.out, if_neg (by simpa using HY.out), if_pos hcB])
      clear hcB
      go_wp2_with fail
      refine bodyPost_ret (v := .tuple #[.agg #[.int .i64 oa, .string ⟨A.toArray⟩], .bool true]) (by simp [results, Try.results34, go_sem, y4, y5]) rfl ⟨by rw [HF.out]; rfl, ((below_drewN HB2.out _).setCell (by simp; omega) _).setCell (by simp; omega) _⟩
    · have hcB' : ((cn : Int) == (B.length : Int)) = false := by rw [beq_eq_false_iff_ne]; omega
      by_cases hs0 : st = 0
      · have HF : Hid (joinO (oa, A) (ob, B) = some (ob, B)) := Lib.hid (by rw [HJ.out, if_neg (by simpa using HY.out), if_neg hcB, if_pos hs0])
        have hs0' : ((st : Int) == 0) = true := by rw [beq_iff_eq]; omega
        clear hcB hs0
        go_wp2_with fail
        refine bodyPost_ret (v := .tuple #[.agg #[.int .i64 ob, .string ⟨B.toArray⟩], .bool true]) (by simp [results, Try.results34, go_sem, y4, y5]) rfl ⟨by rw [HF.out]; rfl, ((below_drewN HB2.out _).setCell (by simp; omega) _).setCell (by simp; omega) _⟩
      · have HF : Hid (joinO (oa, A) (ob, B) = some (oa, A ++ Z)) := Lib.hid (by rw [HJ.out, if_neg (by simpa using HY.out), if_neg hcB, if_neg hs0, HZ.out])
        have hs0' : ((st : Int) == 0) = false := by rw [beq_eq_false_iff_ne]; omega
        clear hcB hs0
        go_wp2_with fail
        go_region
        all_goals
          go_wp2_with fail
          refine bodyPost_ret (v := .tuple #[.agg #[.int .i64 oa, .string ⟨(A ++ Z).toArray⟩], .bool true]) (by simp [results, Try.results34, go_sem, y4, y5]) rfl ⟨by rw [HF.out]; rfl, ((below_drewN HB2.out _).setCell (by simp; omega) _).setCell (by simp; omega) _⟩
  · have hXY' : (X == Y) = false := by simpa using hXY
    have HF : Hid (joinO (oa, A) (ob, B) = none) := Lib.hid (by rw [HJ.out, if_pos]; rw [← HX.out, ← HY.out]; exact hXY)
    clear hXY
    go_quiet (fail)
    go_wp2_with fail
    refine bodyPost_ret (v := .tuple #[.agg #[.int .i64 0, .string ⟨#[]⟩], .bool false]) (by simp [results, Try.results34, go_sem, y4, y5]) rfl ⟨by rw [HF.out]; rfl, ((below_drewN HB2.out _).setCell (by simp; omega) _).setCell (by simp; omega) _⟩

/-- The union of two pieces that overlap or touch. -/
def joinS (a b : P) : Option P := if b.1 < a.1 then joinO b a else joinO a b

theorem join_any (oa ob : Int) (A B : List UInt8) (w : World) (ha0 : 0 ≤ oa) (ha1 : oa ≤ 1048576) (hb0 : 0 ≤ ob) (hb1 : ob ≤ 1048576) (hA : (A.length : Int) ≤ 1048576) (hB : (B.length : Int) ≤ 1048576) (ht : ob ≤ oa + A.length) (ht' : oa ≤ ob + B.length) :
    Calls Try.prog 34 #[.agg #[.int .i64 oa, .string ⟨A.toArray⟩], .agg #[.int .i64 ob, .string ⟨B.toArray⟩]] w (Joined w (joinS (oa, A) (ob, B))) := by
  unfold joinS
  by_cases h : ob < oa
  · rw [if_pos (by exact h)]
    exact join_swp ob oa B A w hb0 hb1 ha0 ha1 hB hA h ht'
  · rw [if_neg (by exact h)]
    exact join_ord oa ob A B w ha0 ha1 hb0 hb1 hA hB (by omega) h ht

end Go.Proofs.Ytlijaacjfnjmjaa
