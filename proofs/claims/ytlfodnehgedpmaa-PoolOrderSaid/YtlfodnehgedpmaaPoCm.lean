/- digest.Compare. -/
import Derived.Test.YtlfodnehgedpmaaObDe
import Derived.Deep.RegionHeld3
import Derived.Deep.DrawnRows
import Derived.Sort.Grow
namespace Go.Proofs.Ytlfodnehgedpmaa
open Go.RowKit Go.Shelf
set_option linter.unusedVariables false

/-- -1, 0 or 1. -/
def cmpI (x y : Int) : Int := if x < y then -1 else if y < x then 1 else 0
def cmpD (a b : Int × Int) : Int := if cmpI a.1 b.1 ≠ 0 then cmpI a.1 b.1 else cmpI a.2 b.2
theorem cmpI_self (x : Int) : cmpI x x = 0 := by simp [cmpI]
theorem cmpI_zero {x y : Int} : cmpI x y = 0 ↔ x = y := by
  unfold cmpI
  split
  · simp; omega
  · split
    · simp; omega
    · simp; omega
theorem cmpD_self (a : Int × Int) : cmpD a a = 0 := by simp [cmpD, cmpI_self]
theorem cmpD_zero {a b : Int × Int} : cmpD a b = 0 ↔ a = b := by
  unfold cmpD
  by_cases h : cmpI a.1 b.1 = 0
  · rw [if_neg (by simp [h]), cmpI_zero]
    rw [cmpI_zero] at h
    constructor
    · intro h2; exact Prod.ext h h2
    · intro h2; rw [h2]
  · rw [if_pos h]
    constructor
    · intro h2; exact absurd h2 h
    · intro h2; subst h2; exact absurd (cmpI_self _) h

theorem isNaN_any (x : Int) (w : World) : Calls Try.prog 57 #[.int .u64 x] w fun e w' => e = .returned (.bool false) ∧ w = w' := by
  have h : (x != x) = false := by simp
  go_enter Try.func57, Try.ntmps57
  go_wp2_with fail
  go_ret
  exact ⟨rfl, rfl⟩
set_option maxHeartbeats 1000000 in
theorem cmpI_any (x y : Int) (w : World) : Calls Try.prog 33 #[.int .u64 x, .int .u64 y] w fun e w' => e = .returned (.int .i64 (cmpI x y)) ∧ w = w' := by
  have HN := Lib.hid isNaN_any
  obtain ⟨R, hR⟩ : ∃ R, R = cmpI x y := ⟨_, rfl⟩
  rw [← hR]
  have HR : Hid (R = if x < y then -1 else if y < x then 1 else 0) := Lib.hid hR
  clear hR
  by_cases h1 : x < y
  · have HF : Hid (R = -1) := Lib.hid (by rw [HR.out, if_pos h1])
    have d1 : decide (x < y) = true := by simpa using h1
    clear HR h1
    go_enter Try.func33, Try.ntmps33
    go_wp2_with fail
    (with_reducible refine (HN.out _ _).mono ?_)
    rintro e w' ⟨rfl, rfl⟩
    go_wp2_with fail
    (with_reducible refine (HN.out _ _).mono ?_)
    rintro e w' ⟨rfl, rfl⟩
    go_wp2_with fail
    go_ret
    exact ⟨by rw [HF.out]; rfl, rfl⟩
  · have d1 : decide (x < y) = false := by simpa using h1
    by_cases h2 : y < x
    · have HF : Hid (R = 1) := Lib.hid (by rw [HR.out, if_neg h1, if_pos h2])
      have d2 : decide (y < x) = true := by simpa using h2
      clear HR h1 h2
      go_enter Try.func33, Try.ntmps33
      go_wp2_with fail
      (with_reducible refine (HN.out _ _).mono ?_)
      rintro e w' ⟨rfl, rfl⟩
      go_wp2_with fail
      (with_reducible refine (HN.out _ _).mono ?_)
      rintro e w' ⟨rfl, rfl⟩
      go_wp2_with fail
      go_ret
      exact ⟨by rw [HF.out]; rfl, rfl⟩
    · have HF : Hid (R = 0) := Lib.hid (by rw [HR.out, if_neg h1, if_neg h2])
      have d2 : decide (y < x) = false := by simpa using h2
      clear HR h1 h2
      go_enter Try.func33, Try.ntmps33
      go_wp2_with fail
      (with_reducible refine (HN.out _ _).mono ?_)
      rintro e w' ⟨rfl, rfl⟩
      go_wp2_with fail
      (with_reducible refine (HN.out _ _).mono ?_)
      rintro e w' ⟨rfl, rfl⟩
      go_wp2_with fail
      go_ret
      exact ⟨by rw [HF.out]; rfl, rfl⟩
set_option maxHeartbeats 1000000 in
theorem or_any (b c : Nat) (x y : Int) (w : World) (h0 : w.cell? ⟨b, 0, none⟩ = some (.int .i64 x)) (h1 : w.cell? ⟨b, 1, none⟩ = some (.int .i64 y)) :
    Calls Try.prog 32 #[.slice (some ⟨b, 0, none⟩) 2 c] w fun e w' => e = .returned (.int .i64 (if x ≠ 0 then x else y)) ∧ w = w' := by
  obtain ⟨R, hR⟩ : ∃ R, R = (if x ≠ 0 then x else y) := ⟨_, rfl⟩
  rw [← hR]
  have HR := Lib.hid hR
  clear hR
  go_enter Try.func32, Try.ntmps32
  go_wp2_with fail
  go_loop [8] (fun i => ∃ k : Nat, k ≤ 2 ∧ i = .int .i64 k ∧ Hid ((1 ≤ k → x = 0) ∧ (2 ≤ k → y = 0))) (fun i => 2 - (intOf i).toNat)
  case atStart => exact ⟨0, by omega, rfl, Lib.hid ⟨by omega, by omega⟩⟩
  case round =>
    obtain ⟨k, hk, rfl, HK⟩ := hrel
    by_cases hk0 : k = 0
    · subst hk0
      by_cases hx : x = 0
      · have e1 : (x != 0) = false := by simpa using hx
        have HX := Lib.hid hx
        clear hx HK
        go_wp2_with fail
        go_round
        case rel => exact ⟨1, by omega, by go_num, Lib.hid ⟨fun _ => HX.out, by omega⟩⟩
        case measure => simp [intOf]
      · have e1 : (x != 0) = true := by simpa using hx
        have HF : Hid (R = x) := Lib.hid (by rw [HR.out, if_pos hx])
        clear hx HK HR
        go_wp2_with fail
        go_ret
        exact ⟨by rw [HF.out]; rfl, rfl⟩
    · by_cases hk1 : k = 1
      · subst hk1
        have HX := Lib.hid (HK.out.1 (by omega))
        by_cases hy : y = 0
        · have e1 : (y != 0) = false := by simpa using hy
          have HY := Lib.hid hy
          clear hy HK hk0
          go_wp2_with fail
          go_round
          case rel => exact ⟨2, by omega, by go_num, Lib.hid ⟨fun _ => HX.out, fun _ => HY.out⟩⟩
          case measure => simp [intOf]
        · have e1 : (y != 0) = true := by simpa using hy
          have HF : Hid (R = y) := Lib.hid (by rw [HR.out, if_neg (by simp [HX.out])])
          clear hy HK HR hk0
          go_wp2_with fail
          go_ret
          exact ⟨by rw [HF.out]; rfl, rfl⟩
      · obtain rfl : k = 2 := by omega
        have HF : Hid (R = 0) := Lib.hid (by rw [HR.out, if_neg (by simp [HK.out.1 (by omega)]), HK.out.2 (by omega)])
        clear HK HR hk0 hk1
        go_wp2_with fail
        go_ret
        exact ⟨by rw [HF.out]; rfl, rfl⟩

/-- A world that was drawn from, with blocks behind it. -/
def Laid (w w' : World) : Prop := ∃ q os, w' = Go.Sort.grow (w.drewN q) os
theorem Laid.refl (w : World) : Laid w w := ⟨0, #[], by rw [Go.Sort.grow_empty]; rfl⟩
theorem Laid.alloc {w w' : World} (h : Laid w w') (o : Obj) : Laid w (w'.alloc o) := by
  obtain ⟨q, os, rfl⟩ := h
  exact ⟨q, os ++ #[o], by rw [Go.Sort.alloc_eq_grow, Go.Sort.grow_grow]⟩
theorem Laid.drew {w w' : World} (h : Laid w w') : Laid w w'.drew := by
  obtain ⟨q, os, rfl⟩ := h
  exact ⟨q + 1, os, rfl⟩
theorem Laid.below {w w' : World} (h : Laid w w') : Below w.heap.size w w' := by
  obtain ⟨q, os, rfl⟩ := h
  exact below_regrown w _ os

set_option maxRecDepth 100000 in
set_option maxHeartbeats 2000000 in
theorem cmpD_any (x y x' y' : Int) (w : World) : Calls Try.prog 18 #[.agg #[.int .u64 x, .int .u64 y], .agg #[.int .u64 x', .int .u64 y']] w fun e w' => e = .returned (.int .i64 (cmpD (x, y) (x', y'))) ∧ Laid w w' := by
  obtain ⟨R, hR⟩ : ∃ R, R = cmpD (x, y) (x', y') := ⟨_, rfl⟩
  rw [← hR]
  have hq := fun W => eql_dig x y x' y' W
  cases hz : (x == x' && y == y') with
  | true =>
    have HF : Hid (R = 0) := Lib.hid (by
      simp only [Bool.and_eq_true, beq_iff_eq] at hz
      rw [hR, hz.1, hz.2, cmpD_self])
    rw [hz] at hq
    clear hz hR
    go_enter Try.func18, Try.ntmps18
    go_wp2_with fail
    go_ret
    exact ⟨by rw [HF.out]; rfl, ((Laid.refl w).alloc _).alloc _⟩
  | false =>
    rw [hz] at hq
    clear hz
    have hR2 : R = if cmpI x x' ≠ 0 then cmpI x x' else cmpI y y' := hR
    have H1 := Lib.hid (fun W => cmpI_any x x' W)
    have H2 := Lib.hid (fun W => cmpI_any y y' W)
    generalize cmpI x x' = c1 at hR2 H1
    generalize cmpI y y' = c2 at hR2 H2
    have HO := Lib.hid (fun b W h0 h1 => or_any b 2 c1 c2 W h0 h1)
    rw [← hR2] at HO
    clear hR hR2
    go_enter Try.func18, Try.ntmps18
    go_wp2_with fail
    go_region_held3 (fun w' => w'.cell? ⟨w.heap.size, 0, none⟩ = some (.int .u64 x) ∧ w'.cell? ⟨w.heap.size, 1, none⟩ = some (.int .u64 y) ∧ w'.cell? ⟨w.heap.size + 1, 0, none⟩ = some (.int .u64 x') ∧ w'.cell? ⟨w.heap.size + 1, 1, none⟩ = some (.int .u64 y')) (go_keep)
      (first | ((with_reducible refine (H1.out _).mono ?_); rintro e w' ⟨rfl, rfl⟩) | ((with_reducible refine (H2.out _).mono ?_); rintro e w' ⟨rfl, rfl⟩) | ((with_reducible refine (HO.out _ _ ?_ ?_).mono ?_); (simp [go_sem]); (simp [go_sem]); rintro e w' ⟨rfl, rfl⟩) | fail)
    all_goals (go_wp2_with fail; go_ret; exact ⟨rfl, ((((Laid.refl w).alloc _).alloc _).alloc _).drew⟩)

end Go.Proofs.Ytlfodnehgedpmaa
