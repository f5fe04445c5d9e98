/- Joined texts: PoCm, PoIt, PoFd, PoAp, PoCc, PoIn, PoGe, PoPu, PoCk. -/
import Derived.Test.YtdedfkljaeloiaaGreatDoorK3
import Derived.Deep.RegionHeld3
import Derived.Deep.DrawnRows
import Derived.Sort.Grow
import Derived.Lib.AppendZerosOnto
import Derived.Maps.AppendAt

/- digest.Compare. -/
namespace Go.Proofs.YtdedfkljaeloiaaGreatDoor
open Go.RowKit Go.Shelf
set_option linter.unusedVariables false

/-- The cells of a box, and that they can be written. -/
theorem BK.c1 {b : Nat} {a0 : Value} {t : TypeId} {W : World} (h : BK b #[a0] t W) : W.cell? ⟨b, 0, none⟩ = some a0 := by rw [h.cell]; rfl
theorem BK.f1 {b : Nat} {cs : Array Value} {t : TypeId} {W : World} (h : BK b cs t W) : W.frozen? ⟨b, 0, none⟩ = false := h.frozen 0
theorem BK.c2 {b : Nat} {a0 a1 : Value} {t : TypeId} {W : World} (h : BK b #[a0, a1] t W) : W.cell? ⟨b, 0, none⟩ = some a0 ∧ W.cell? ⟨b, 1, none⟩ = some a1 := ⟨by rw [h.cell]; rfl, by rw [h.cell]; rfl⟩
theorem BK.f2 {b : Nat} {cs : Array Value} {t : TypeId} {W : World} (h : BK b cs t W) : W.frozen? ⟨b, 0, none⟩ = false ∧ W.frozen? ⟨b, 1, none⟩ = false := ⟨h.frozen 0, h.frozen 1⟩
theorem BK.c3 {b : Nat} {a0 a1 a2 : Value} {t : TypeId} {W : World} (h : BK b #[a0, a1, a2] t W) : W.cell? ⟨b, 0, none⟩ = some a0 ∧ W.cell? ⟨b, 1, none⟩ = some a1 ∧ W.cell? ⟨b, 2, none⟩ = some a2 := ⟨by rw [h.cell]; rfl, by rw [h.cell]; rfl, by rw [h.cell]; rfl⟩
theorem BK.f3 {b : Nat} {cs : Array Value} {t : TypeId} {W : World} (h : BK b cs t W) : W.frozen? ⟨b, 0, none⟩ = false ∧ W.frozen? ⟨b, 1, none⟩ = false ∧ W.frozen? ⟨b, 2, none⟩ = false := ⟨h.frozen 0, h.frozen 1, h.frozen 2⟩
theorem BK.c4 {b : Nat} {a0 a1 a2 a3 : Value} {t : TypeId} {W : World} (h : BK b #[a0, a1, a2, a3] t W) : W.cell? ⟨b, 0, none⟩ = some a0 ∧ W.cell? ⟨b, 1, none⟩ = some a1 ∧ W.cell? ⟨b, 2, none⟩ = some a2 ∧ W.cell? ⟨b, 3, none⟩ = some a3 := ⟨by rw [h.cell]; rfl, by rw [h.cell]; rfl, by rw [h.cell]; rfl, by rw [h.cell]; rfl⟩
theorem BK.f4 {b : Nat} {cs : Array Value} {t : TypeId} {W : World} (h : BK b cs t W) : W.frozen? ⟨b, 0, none⟩ = false ∧ W.frozen? ⟨b, 1, none⟩ = false ∧ W.frozen? ⟨b, 2, none⟩ = false ∧ W.frozen? ⟨b, 3, none⟩ = false := ⟨h.frozen 0, h.frozen 1, h.frozen 2, h.frozen 3⟩
theorem BK.c5 {b : Nat} {a0 a1 a2 a3 a4 : Value} {t : TypeId} {W : World} (h : BK b #[a0, a1, a2, a3, a4] t W) : W.cell? ⟨b, 0, none⟩ = some a0 ∧ W.cell? ⟨b, 1, none⟩ = some a1 ∧ W.cell? ⟨b, 2, none⟩ = some a2 ∧ W.cell? ⟨b, 3, none⟩ = some a3 ∧ W.cell? ⟨b, 4, none⟩ = some a4 := ⟨by rw [h.cell]; rfl, by rw [h.cell]; rfl, by rw [h.cell]; rfl, by rw [h.cell]; rfl, by rw [h.cell]; rfl⟩
theorem BK.f5 {b : Nat} {cs : Array Value} {t : TypeId} {W : World} (h : BK b cs t W) : W.frozen? ⟨b, 0, none⟩ = false ∧ W.frozen? ⟨b, 1, none⟩ = false ∧ W.frozen? ⟨b, 2, none⟩ = false ∧ W.frozen? ⟨b, 3, none⟩ = false ∧ W.frozen? ⟨b, 4, none⟩ = false := ⟨h.frozen 0, h.frozen 1, h.frozen 2, h.frozen 3, h.frozen 4⟩
theorem BK.c6 {b : Nat} {a0 a1 a2 a3 a4 a5 : Value} {t : TypeId} {W : World} (h : BK b #[a0, a1, a2, a3, a4, a5] t W) : W.cell? ⟨b, 0, none⟩ = some a0 ∧ W.cell? ⟨b, 1, none⟩ = some a1 ∧ W.cell? ⟨b, 2, none⟩ = some a2 ∧ W.cell? ⟨b, 3, none⟩ = some a3 ∧ W.cell? ⟨b, 4, none⟩ = some a4 ∧ W.cell? ⟨b, 5, none⟩ = some a5 := ⟨by rw [h.cell]; rfl, by rw [h.cell]; rfl, by rw [h.cell]; rfl, by rw [h.cell]; rfl, by rw [h.cell]; rfl, by rw [h.cell]; rfl⟩
theorem BK.f6 {b : Nat} {cs : Array Value} {t : TypeId} {W : World} (h : BK b cs t W) : W.frozen? ⟨b, 0, none⟩ = false ∧ W.frozen? ⟨b, 1, none⟩ = false ∧ W.frozen? ⟨b, 2, none⟩ = false ∧ W.frozen? ⟨b, 3, none⟩ = false ∧ W.frozen? ⟨b, 4, none⟩ = false ∧ W.frozen? ⟨b, 5, none⟩ = false := ⟨h.frozen 0, h.frozen 1, h.frozen 2, h.frozen 3, h.frozen 4, h.frozen 5⟩
theorem BK.c7 {b : Nat} {a0 a1 a2 a3 a4 a5 a6 : Value} {t : TypeId} {W : World} (h : BK b #[a0, a1, a2, a3, a4, a5, a6] t W) : W.cell? ⟨b, 0, none⟩ = some a0 ∧ W.cell? ⟨b, 1, none⟩ = some a1 ∧ W.cell? ⟨b, 2, none⟩ = some a2 ∧ W.cell? ⟨b, 3, none⟩ = some a3 ∧ W.cell? ⟨b, 4, none⟩ = some a4 ∧ W.cell? ⟨b, 5, none⟩ = some a5 ∧ W.cell? ⟨b, 6, none⟩ = some a6 := ⟨by rw [h.cell]; rfl, by rw [h.cell]; rfl, by rw [h.cell]; rfl, by rw [h.cell]; rfl, by rw [h.cell]; rfl, by rw [h.cell]; rfl, by rw [h.cell]; rfl⟩
theorem BK.f7 {b : Nat} {cs : Array Value} {t : TypeId} {W : World} (h : BK b cs t W) : W.frozen? ⟨b, 0, none⟩ = false ∧ W.frozen? ⟨b, 1, none⟩ = false ∧ W.frozen? ⟨b, 2, none⟩ = false ∧ W.frozen? ⟨b, 3, none⟩ = false ∧ W.frozen? ⟨b, 4, none⟩ = false ∧ W.frozen? ⟨b, 5, none⟩ = false ∧ W.frozen? ⟨b, 6, none⟩ = false := ⟨h.frozen 0, h.frozen 1, h.frozen 2, h.frozen 3, h.frozen 4, h.frozen 5, h.frozen 6⟩
theorem BK.c8 {b : Nat} {a0 a1 a2 a3 a4 a5 a6 a7 : Value} {t : TypeId} {W : World} (h : BK b #[a0, a1, a2, a3, a4, a5, a6, a7] t W) : W.cell? ⟨b, 0, none⟩ = some a0 ∧ W.cell? ⟨b, 1, none⟩ = some a1 ∧ W.cell? ⟨b, 2, none⟩ = some a2 ∧ W.cell? ⟨b, 3, none⟩ = some a3 ∧ W.cell? ⟨b, 4, none⟩ = some a4 ∧ W.cell? ⟨b, 5, none⟩ = some a5 ∧ W.cell? ⟨b, 6, none⟩ = some a6 ∧ W.cell? ⟨b, 7, none⟩ = some a7 := ⟨by rw [h.cell]; rfl, by rw [h.cell]; rfl, by rw [h.cell]; rfl, by rw [h.cell]; rfl, by rw [h.cell]; rfl, by rw [h.cell]; rfl, by rw [h.cell]; rfl, by rw [h.cell]; rfl⟩
theorem BK.f8 {b : Nat} {cs : Array Value} {t : TypeId} {W : World} (h : BK b cs t W) : W.frozen? ⟨b, 0, none⟩ = false ∧ W.frozen? ⟨b, 1, none⟩ = false ∧ W.frozen? ⟨b, 2, none⟩ = false ∧ W.frozen? ⟨b, 3, none⟩ = false ∧ W.frozen? ⟨b, 4, none⟩ = false ∧ W.frozen? ⟨b, 5, none⟩ = false ∧ W.frozen? ⟨b, 6, none⟩ = false ∧ W.frozen? ⟨b, 7, none⟩ = false := ⟨h.frozen 0, h.frozen 1, h.frozen 2, h.frozen 3, h.frozen 4, h.frozen 5, h.frozen 6, h.frozen 7⟩
theorem BK.c9 {b : Nat} {a0 a1 a2 a3 a4 a5 a6 a7 a8 : Value} {t : TypeId} {W : World} (h : BK b #[a0, a1, a2, a3, a4, a5, a6, a7, a8] t W) : W.cell? ⟨b, 0, none⟩ = some a0 ∧ W.cell? ⟨b, 1, none⟩ = some a1 ∧ W.cell? ⟨b, 2, none⟩ = some a2 ∧ W.cell? ⟨b, 3, none⟩ = some a3 ∧ W.cell? ⟨b, 4, none⟩ = some a4 ∧ W.cell? ⟨b, 5, none⟩ = some a5 ∧ W.cell? ⟨b, 6, none⟩ = some a6 ∧ W.cell? ⟨b, 7, none⟩ = some a7 ∧ W.cell? ⟨b, 8, none⟩ = some a8 := ⟨by rw [h.cell]; rfl, by rw [h.cell]; rfl, by rw [h.cell]; rfl, by rw [h.cell]; rfl, by rw [h.cell]; rfl, by rw [h.cell]; rfl, by rw [h.cell]; rfl, by rw [h.cell]; rfl, by rw [h.cell]; rfl⟩
theorem BK.f9 {b : Nat} {cs : Array Value} {t : TypeId} {W : World} (h : BK b cs t W) : W.frozen? ⟨b, 0, none⟩ = false ∧ W.frozen? ⟨b, 1, none⟩ = false ∧ W.frozen? ⟨b, 2, none⟩ = false ∧ W.frozen? ⟨b, 3, none⟩ = false ∧ W.frozen? ⟨b, 4, none⟩ = false ∧ W.frozen? ⟨b, 5, none⟩ = false ∧ W.frozen? ⟨b, 6, none⟩ = false ∧ W.frozen? ⟨b, 7, none⟩ = false ∧ W.frozen? ⟨b, 8, none⟩ = false := ⟨h.frozen 0, h.frozen 1, h.frozen 2, h.frozen 3, h.frozen 4, h.frozen 5, h.frozen 6, h.frozen 7, h.frozen 8⟩

/-- -1, 0 or 1. -/
def cmpI (x y : Int) : Int := if x < y then -1 else if y < x then 1 else 0
def cmpD (a b : Int × Int) : Int := if cmpI a.1 b.1 ≠ 0 then cmpI a.1 b.1 else cmpI a.2 b.2
theorem cmpI_self (x : Int) : cmpI x x = 0 := by simp [cmpI]
theorem cmpI_zero {x y : Int} : cmpI x y = 0 ↔ x = y := by
  unfold cmpI
  split
  · simp; omega
  · split
    · simp; omega
    · simp; omega
theorem cmpD_self (a : Int × Int) : cmpD a a = 0 := by simp [cmpD, cmpI_self]
theorem cmpD_zero {a b : Int × Int} : cmpD a b = 0 ↔ a = b := by
  unfold cmpD
  by_cases h : cmpI a.1 b.1 = 0
  · rw [if_neg (by simp [h]), cmpI_zero]
    rw [cmpI_zero] at h
    constructor
    · intro h2; exact Prod.ext h h2
    · intro h2; rw [h2]
  · rw [if_pos h]
    constructor
    · intro h2; exact absurd h2 h
    · intro h2; subst h2; exact absurd (cmpI_self _) h

theorem isNaN_any (x : Int) (w : World) : Calls Tryz.prog 193 #[.int .u64 x] w fun e w' => e = .returned (.bool false) ∧ w = w' := by
  have h : (x != x) = false := by simp
  go_enter Tryz.func193, Tryz.ntmps193
  go_wp2_with fail
  go_ret
  exact ⟨rfl, rfl⟩
set_option maxHeartbeats 1000000 in
theorem cmpI_any (x y : Int) (w : World) : Calls Tryz.prog 184 #[.int .u64 x, .int .u64 y] w fun e w' => e = .returned (.int .i64 (cmpI x y)) ∧ w = w' := by
  have HN := Lib.hid isNaN_any
  obtain ⟨R, hR⟩ : ∃ R, R = cmpI x y := ⟨_, rfl⟩
  rw [← hR]
  have HR : Hid (R = if x < y then -1 else if y < x then 1 else 0) := Lib.hid hR
  clear hR
  by_cases h1 : x < y
  · have HF : Hid (R = -1) := Lib.hid (by rw [HR.out, if_pos h1])
    have d1 : decide (x < y) = true := by simpa using h1
    clear HR h1
    go_enter Tryz.func184, Tryz.ntmps184
    go_wp2_with fail
    (with_reducible refine (HN.out _ _).mono ?_)
    rintro e w' ⟨rfl, rfl⟩
    go_wp2_with fail
    (with_reducible refine (HN.out _ _).mono ?_)
    rintro e w' ⟨rfl, rfl⟩
    go_wp2_with fail
    go_ret
    exact ⟨by rw [HF.out]; rfl, rfl⟩
  · have d1 : decide (x < y) = false := by simpa using h1
    by_cases h2 : y < x
    · have HF : Hid (R = 1) := Lib.hid (by rw [HR.out, if_neg h1, if_pos h2])
      have d2 : decide (y < x) = true := by simpa using h2
      clear HR h1 h2
      go_enter Tryz.func184, Tryz.ntmps184
      go_wp2_with fail
      (with_reducible refine (HN.out _ _).mono ?_)
      rintro e w' ⟨rfl, rfl⟩
      go_wp2_with fail
      (with_reducible refine (HN.out _ _).mono ?_)
      rintro e w' ⟨rfl, rfl⟩
      go_wp2_with fail
      go_ret
      exact ⟨by rw [HF.out]; rfl, rfl⟩
    · have HF : Hid (R = 0) := Lib.hid (by rw [HR.out, if_neg h1, if_neg h2])
      have d2 : decide (y < x) = false := by simpa using h2
      clear HR h1 h2
      go_enter Tryz.func184, Tryz.ntmps184
      go_wp2_with fail
      (with_reducible refine (HN.out _ _).mono ?_)
      rintro e w' ⟨rfl, rfl⟩
      go_wp2_with fail
      (with_reducible refine (HN.out _ _).mono ?_)
      rintro e w' ⟨rfl, rfl⟩
      go_wp2_with fail
      go_ret
      exact ⟨by rw [HF.out]; rfl, rfl⟩
set_option maxHeartbeats 1000000 in
theorem or_any (b c : Nat) (x y : Int) (w : World) (h0 : w.cell? ⟨b, 0, none⟩ = some (.int .i64 x)) (h1 : w.cell? ⟨b, 1, none⟩ = some (.int .i64 y)) :
    Calls Tryz.prog 183 #[.slice (some ⟨b, 0, none⟩) 2 c] w fun e w' => e = .returned (.int .i64 (if x ≠ 0 then x else y)) ∧ w = w' := by
  obtain ⟨R, hR⟩ : ∃ R, R = (if x ≠ 0 then x else y) := ⟨_, rfl⟩
  rw [← hR]
  have HR := Lib.hid hR
  clear hR
  go_enter Tryz.func183, Tryz.ntmps183
  go_wp2_with fail
  go_loop [8] (fun i => ∃ k : Nat, k ≤ 2 ∧ i = .int .i64 k ∧ Hid ((1 ≤ k → x = 0) ∧ (2 ≤ k → y = 0))) (fun i => 2 - (intOf i).toNat)
  case atStart => exact ⟨0, by omega, rfl, Lib.hid ⟨by omega, by omega⟩⟩
  case round =>
    obtain ⟨k, hk, rfl, HK⟩ := hrel
    by_cases hk0 : k = 0
    · subst hk0
      by_cases hx : x = 0
      · have e1 : (x != 0) = false := by simpa using hx
        have HX := Lib.hid hx
        clear hx HK
        go_wp2_with fail
        go_round
        case rel => exact ⟨1, by omega, by go_num, Lib.hid ⟨fun _ => HX.out, by omega⟩⟩
        case measure => simp [intOf]
      · have e1 : (x != 0) = true := by simpa using hx
        have HF : Hid (R = x) := Lib.hid (by rw [HR.out, if_pos hx])
        clear hx HK HR
        go_wp2_with fail
        go_ret
        exact ⟨by rw [HF.out]; rfl, rfl⟩
    · by_cases hk1 : k = 1
      · subst hk1
        have HX := Lib.hid (HK.out.1 (by omega))
        by_cases hy : y = 0
        · have e1 : (y != 0) = false := by simpa using hy
          have HY := Lib.hid hy
          clear hy HK hk0
          go_wp2_with fail
          go_round
          case rel => exact ⟨2, by omega, by go_num, Lib.hid ⟨fun _ => HX.out, fun _ => HY.out⟩⟩
          case measure => simp [intOf]
        · have e1 : (y != 0) = true := by simpa using hy
          have HF : Hid (R = y) := Lib.hid (by rw [HR.out, if_neg (by simp [HX.out])])
          clear hy HK HR hk0
          go_wp2_with fail
          go_ret
          exact ⟨by rw [HF.out]; rfl, rfl⟩
      · obtain rfl : k = 2 := by omega
        have HF : Hid (R = 0) := Lib.hid (by rw [HR.out, if_neg (by simp [HK.out.1 (by omega)]), HK.out.2 (by omega)])
        clear HK HR hk0 hk1
        go_wp2_with fail
        go_ret
        exact ⟨by rw [HF.out]; rfl, rfl⟩

/-- A world that was drawn from, with blocks behind it. -/
def Laid (w w' : World) : Prop := ∃ q os, w' = Go.Sort.grow (w.drewN q) os
theorem Laid.refl (w : World) : Laid w w := ⟨0, #[], by rw [Go.Sort.grow_empty]; rfl⟩
theorem Laid.alloc {w w' : World} (h : Laid w w') (o : Obj) : Laid w (w'.alloc o) := by
  obtain ⟨q, os, rfl⟩ := h
  exact ⟨q, os ++ #[o], by rw [Go.Sort.alloc_eq_grow, Go.Sort.grow_grow]⟩
theorem Laid.drew {w w' : World} (h : Laid w w') : Laid w w'.drew := by
  obtain ⟨q, os, rfl⟩ := h
  exact ⟨q + 1, os, rfl⟩
theorem Laid.below {w w' : World} (h : Laid w w') : Below w.heap.size w w' := by
  obtain ⟨q, os, rfl⟩ := h
  exact below_regrown w _ os

set_option maxRecDepth 100000 in
set_option maxHeartbeats 2000000 in
theorem cmpD_any (x y x' y' : Int) (w : World) : Calls Tryz.prog 168 #[.agg #[.int .u64 x, .int .u64 y], .agg #[.int .u64 x', .int .u64 y']] w fun e w' => e = .returned (.int .i64 (cmpD (x, y) (x', y'))) ∧ Laid w w' := by
  obtain ⟨R, hR⟩ : ∃ R, R = cmpD (x, y) (x', y') := ⟨_, rfl⟩
  rw [← hR]
  have hq := fun W => eql_dig x y x' y' W
  cases hz : (x == x' && y == y') with
  | true =>
    have HF : Hid (R = 0) := Lib.hid (by
      simp only [Bool.and_eq_true, beq_iff_eq] at hz
      rw [hR, hz.1, hz.2, cmpD_self])
    rw [hz] at hq
    clear hz hR
    go_enter Tryz.func168, Tryz.ntmps168
    go_wp2_with fail
    go_ret
    exact ⟨by rw [HF.out]; rfl, ((Laid.refl w).alloc _).alloc _⟩
  | false =>
    rw [hz] at hq
    clear hz
    have hR2 : R = if cmpI x x' ≠ 0 then cmpI x x' else cmpI y y' := hR
    have H1 := Lib.hid (fun W => cmpI_any x x' W)
    have H2 := Lib.hid (fun W => cmpI_any y y' W)
    generalize cmpI x x' = c1 at hR2 H1
    generalize cmpI y y' = c2 at hR2 H2
    have HO := Lib.hid (fun b W h0 h1 => or_any b 2 c1 c2 W h0 h1)
    rw [← hR2] at HO
    clear hR hR2
    go_enter Tryz.func168, Tryz.ntmps168
    go_wp2_with fail
    go_region_held3 (fun w' => w'.cell? ⟨w.heap.size, 0, none⟩ = some (.int .u64 x) ∧ w'.cell? ⟨w.heap.size, 1, none⟩ = some (.int .u64 y) ∧ w'.cell? ⟨w.heap.size + 1, 0, none⟩ = some (.int .u64 x') ∧ w'.cell? ⟨w.heap.size + 1, 1, none⟩ = some (.int .u64 y')) (go_keep)
      (first | ((with_reducible refine (H1.out _).mono ?_); rintro e w' ⟨rfl, rfl⟩) | ((with_reducible refine (H2.out _).mono ?_); rintro e w' ⟨rfl, rfl⟩) | ((with_reducible refine (HO.out _ _ ?_ ?_).mono ?_); (simp [go_sem]); (simp [go_sem]); rintro e w' ⟨rfl, rfl⟩) | fail)
    all_goals (go_wp2_with fail; go_ret; exact ⟨rfl, ((((Laid.refl w).alloc _).alloc _).alloc _).drew⟩)

end Go.Proofs.YtdedfkljaeloiaaGreatDoor

/- Items of a pool. -/
namespace Go.Proofs.YtdedfkljaeloiaaGreatDoor
open Go.RowKit Go.Shelf
set_option linter.unusedVariables false

structure Itm where
  d : Int × Int
  data : List UInt8
deriving DecidableEq
abbrev Itm.val (x : Itm) : Value := .agg #[.int .u64 x.d.1, .int .u64 x.d.2, .string ⟨x.data.toArray⟩]
def icells (xs : List Itm) : List Value := xs.flatMap fun x => [.int .u64 x.d.1, .int .u64 x.d.2, .string ⟨x.data.toArray⟩]
theorem icells_append (a b : List Itm) : icells (a ++ b) = icells a ++ icells b := by simp [icells]
theorem icells_length (a : List Itm) : (icells a).length = a.length * 3 := by
  induction a with
  | nil => rfl
  | cons x a ih => simp [icells] at ih ⊢; omega
theorem icells_at : ∀ (es : List Itm) (i : Nat) (h : i < es.length), (icells es)[i * 3]? = some (.int .u64 es[i].d.1) ∧ (icells es)[i * 3 + 1]? = some (.int .u64 es[i].d.2) ∧ (icells es)[i * 3 + 2]? = some (.string ⟨es[i].data.toArray⟩)
  | [], i, h => by simp at h
  | d :: ds, 0, h => by simp [icells]
  | d :: ds, i + 1, h => by
    have h' : i < ds.length := by simpa using h
    have e : icells (d :: ds) = [.int .u64 d.d.1, .int .u64 d.d.2, .string ⟨d.data.toArray⟩] ++ icells ds := by simp [icells]
    have g : ∀ j, (icells (d :: ds))[(i + 1) * 3 + j]? = (icells ds)[i * 3 + j]? := fun j => by
      rw [e, List.getElem?_append_right (by simp; omega)]
      congr 1
      simp
      omega
    have := icells_at ds i h'
    simp only [List.getElem_cons_succ]
    exact ⟨(g 0).trans this.1, (g 1).trans this.2.1, (g 2).trans this.2.2⟩
theorem icells_one (xs : List Itm) : ∀ v ∈ icells xs, v.oneCell' = true := by
  intro v hv
  simp only [icells, List.mem_flatMap] at hv
  obtain ⟨x, _, hv⟩ := hv
  simp at hv
  rcases hv with rfl | rfl | rfl <;> rfl
/-- A slice of items that lies below block B. -/
def Its (B : Nat) (W : World) (a : Option Addr) (es : List Itm) : Prop :=
  ∀ i (h : i < es.length), ∃ b off, a = some ⟨b, off, none⟩ ∧ b < B ∧ W.cell? ⟨b, off + i * 3, none⟩ = some (.int .u64 es[i].d.1) ∧ W.cell? ⟨b, off + i * 3 + 1, none⟩ = some (.int .u64 es[i].d.2) ∧ W.cell? ⟨b, off + i * 3 + 2, none⟩ = some (.string ⟨es[i].data.toArray⟩)
theorem Its.below {B B' : Nat} {W W' : World} {a : Option Addr} {es : List Itm} (h : Its B W a es) (hb : Below B' W W') (hB : B ≤ B') : Its B W' a es := by
  intro i hi
  obtain ⟨b, off, ha, hlt, h0, h1, h2⟩ := h i hi
  exact ⟨b, off, ha, hlt, (hb.cell (p := ⟨b, off + i * 3, none⟩) (by simp; omega)).trans h0, (hb.cell (p := ⟨b, off + i * 3 + 1, none⟩) (by simp; omega)).trans h1, (hb.cell (p := ⟨b, off + i * 3 + 2, none⟩) (by simp; omega)).trans h2⟩
theorem Its.mono {B B' : Nat} {W : World} {a : Option Addr} {es : List Itm} (h : Its B W a es) (hB : B ≤ B') : Its B' W a es := by
  intro i hi
  obtain ⟨b, off, ha, hlt, h0⟩ := h i hi
  exact ⟨b, off, ha, by omega, h0⟩
theorem Its.ahead {W W' : World} {a : Option Addr} {es : List Itm} (h : Its W.heap.size W a es) (hb : Below W.heap.size W W') : Its W'.heap.size W' a es := (h.below hb (Nat.le_refl _)).mono hb.size
theorem Its.nil (B : Nat) (W : World) (a : Option Addr) : Its B W a [] := fun i h => by simp at h
theorem Its.take {B : Nat} {W : World} {a : Option Addr} {es : List Itm} (h : Its B W a es) (k : Nat) : Its B W a (es.take k) := by
  intro i hi
  have hi' : i < es.length := by simp at hi; omega
  obtain ⟨b, off, ha, hlt, h0⟩ := h i hi'
  refine ⟨b, off, ha, hlt, ?_⟩
  rw [List.getElem_take]
  exact h0
theorem ownsRow_its {w : World} {base : Nat} {a : Option Addr} {cap : Nat} {es : List Itm} (h : w.ownsRow base 158 3 (.slice a es.length cap) es.length (icells es)) : Its w.heap.size w a es := by
  intro i hi
  rcases h.2 with ⟨h1, h2⟩ | ⟨g, cap', cur, h1, _, hg, _⟩
  · omega
  · cases h1
    obtain ⟨c0, c1, c2⟩ := icells_at es i hi
    refine ⟨g, 0, rfl, (Array.getElem?_eq_some_iff.1 hg).1, ?_, ?_, ?_⟩
    · have := h.cells (g := g) rfl _ _ c0; rwa [Go.WideShapes.add_plain] at this
    · have := h.cells (g := g) rfl _ _ c1; rwa [Go.WideShapes.add_plain, ← Nat.add_assoc] at this
    · have := h.cells (g := g) rfl _ _ c2; rwa [Go.WideShapes.add_plain, ← Nat.add_assoc] at this
theorem infoItm : (Tryz.prog.info? 158).map (fun i => (i.zero, i.size, i.bytes)) = some (some (.agg #[.int .u64 0, .int .u64 0, .string ⟨#[]⟩]), 3, 32) := by kernel_rfl

set_option maxRecDepth 100000 in
set_option maxHeartbeats 1000000 in
theorem findc_any (x : Itm) (d1 d2 : Int) (w : World) : Calls Tryz.prog 167 #[x.val, .agg #[.int .u64 d1, .int .u64 d2]] w fun e w' => e = .returned (.int .i64 (cmpD x.d (d1, d2))) ∧ Below w.heap.size w w' := by
  obtain ⟨⟨x1, x2⟩, data⟩ := x
  have HC := Lib.hid (fun W => cmpD_any x1 x2 d1 d2 W)
  simp only [Itm.val]
  generalize cmpD (x1, x2) (d1, d2) = R at HC ⊢
  go_enter Tryz.func167, Tryz.ntmps167
  go_wp2_with fail
  have hx := HC.out ((w.alloc (.cells #[.int .u64 x1, .int .u64 x2, .string ⟨data.toArray⟩] 158)).alloc (.cells #[.int .u64 d1, .int .u64 d2] 35))
  (with_reducible refine hx.mono ?_)
  clear hx HC
  rintro e w1 ⟨rfl, hb⟩
  have HB := Lib.hid hb.below
  clear hb
  go_wp2_with fail
  go_ret
  exact ⟨rfl, (((Below.refl _ w).alloc (Nat.le_refl _) _).alloc (by simp) _).trans (HB.out.mono (by simp; omega))⟩

/-- Where a digest is, or would be. -/
structure At (xs : List Itm) (d : Int × Int) (k : Nat) : Prop where
  le : k ≤ xs.length
  lo : ∀ j (h : j < xs.length), j < k → cmpD xs[j].d d < 0
  hi : ∀ j (h : j < xs.length), k ≤ j → 0 ≤ cmpD xs[j].d d
def hitB (xs : List Itm) (d : Int × Int) (k : Nat) : Bool := match xs[k]? with | some x => decide (x.d = d) | none => false
/-- Ascending by digests. -/
def Asc (xs : List Itm) : Prop := ∀ i j (hi : i < xs.length) (hj : j < xs.length), i < j → cmpD xs[i].d xs[j].d < 0
def GotF (w : World) (xs : List Itm) (d : Int × Int) (e : Ending) (w' : World) : Prop := ∃ k : Nat, e = .returned (.tuple #[.int .i64 k, .bool (hitB xs d k)]) ∧ At xs d k ∧ Below w.heap.size w w'
theorem cmpI_trans {x y z : Int} (h1 : cmpI x y < 0) (h2 : cmpI y z < 0) : cmpI x z < 0 := by
  unfold cmpI at h1 h2 ⊢
  split at h1
  · split at h2
    · rw [if_pos (by omega)]; omega
    · split at h2 <;> omega
  · split at h1 <;> omega
theorem cmpI_range (x y : Int) : (cmpI x y = -1 ∧ x < y) ∨ (cmpI x y = 0 ∧ x = y) ∨ (cmpI x y = 1 ∧ y < x) := by
  unfold cmpI
  split
  · left; exact ⟨rfl, ‹_›⟩
  · split
    · right; right; exact ⟨rfl, ‹_›⟩
    · right; left; exact ⟨rfl, by omega⟩
theorem cmpD_range (a b : Int × Int) : (cmpD a b = -1 ∧ (a.1 < b.1 ∨ (a.1 = b.1 ∧ a.2 < b.2))) ∨ (cmpD a b = 0 ∧ a.1 = b.1 ∧ a.2 = b.2) ∨ (cmpD a b = 1 ∧ (b.1 < a.1 ∨ (a.1 = b.1 ∧ b.2 < a.2))) := by
  unfold cmpD
  rcases cmpI_range a.1 b.1 with h | h | h
  · rw [if_pos (by rw [h.1]; decide)]; left; exact ⟨h.1, .inl h.2⟩
  · rw [if_neg (by rw [h.1]; decide)]
    rcases cmpI_range a.2 b.2 with g | g | g
    · left; exact ⟨g.1, .inr ⟨h.2, g.2⟩⟩
    · right; left; exact ⟨g.1, h.2, g.2⟩
    · right; right; exact ⟨g.1, .inr ⟨h.2, g.2⟩⟩
  · rw [if_pos (by rw [h.1]; decide)]; right; right; exact ⟨h.1, .inl h.2⟩
theorem cmpD_trans {a b c : Int × Int} (h1 : cmpD a b < 0) (h2 : cmpD b c < 0) : cmpD a c < 0 := by
  have g1 := cmpD_range a b
  have g2 := cmpD_range b c
  have g3 := cmpD_range a c
  omega
theorem cmpD_trans2 {a b c : Int × Int} (h1 : cmpD a b < 0) (h2 : 0 ≤ cmpD a c) : 0 ≤ cmpD b c := by
  have g1 := cmpD_range a b
  have g2 := cmpD_range b c
  have g3 := cmpD_range a c
  omega
theorem cmpD_anti {a b : Int × Int} : cmpD a b = - cmpD b a := by
  have g1 := cmpD_range a b
  have g2 := cmpD_range b a
  omega
/-- What binary search has left over. -/
def BS (xs : List Itm) (d : Int × Int) (i j : Nat) : Prop := (∀ k (h : k < xs.length), k < i → cmpD xs[k].d d < 0) ∧ ∀ k (h : k < xs.length), j ≤ k → 0 ≤ cmpD xs[k].d d
theorem BS.start (xs : List Itm) (d : Int × Int) : BS xs d 0 xs.length := ⟨fun k h hk => by omega, fun k h hk => by omega⟩
theorem BS.left {xs : List Itm} {d : Int × Int} {i j h : Nat} (hb : BS xs d i j) (ha : Asc xs) (hh : h < xs.length) (hc : cmpD xs[h].d d < 0) : BS xs d (h + 1) j := by
  refine ⟨fun k hk hlt => ?_, hb.2⟩
  rcases Nat.lt_or_ge k h with h1 | h1
  · exact cmpD_trans (ha k h hk hh h1) hc
  · obtain rfl : k = h := by omega
    exact hc
theorem BS.right {xs : List Itm} {d : Int × Int} {i j h : Nat} (hb : BS xs d i j) (ha : Asc xs) (hh : h < xs.length) (hc : 0 ≤ cmpD xs[h].d d) : BS xs d i h := by
  refine ⟨hb.1, fun k hk hlt => ?_⟩
  rcases Nat.lt_or_ge h k with h1 | h1
  · exact cmpD_trans2 (ha h k hh hk h1) hc
  · obtain rfl : k = h := by omega
    exact hc
theorem BS.fin {xs : List Itm} {d : Int × Int} {i : Nat} (hb : BS xs d i i) (hi : i ≤ xs.length) : At xs d i := ⟨hi, hb.1, hb.2⟩

end Go.Proofs.YtdedfkljaeloiaaGreatDoor

/- slices.BinarySearchFunc at items, pool.find. -/
namespace Go.Proofs.YtdedfkljaeloiaaGreatDoor
open Go.RowKit Go.Shelf
set_option linter.unusedVariables false

set_option maxRecDepth 100000 in
set_option maxHeartbeats 2000000 in
theorem bsearch_any (a : Option Addr) (xs : List Itm) (c : Nat) (d1 d2 : Int) (w : World) (hx : Its w.heap.size w a xs) (ha : Asc xs) (hn : (xs.length : Int) ≤ 140737488355328) :
    Calls Tryz.prog 166 #[.slice a xs.length c, .agg #[.int .u64 d1, .int .u64 d2], .func (.func 167) #[] #[]] w (GotF w xs (d1, d2)) := by
  have HX := Lib.hid hx
  have HA := Lib.hid ha
  have HC := Lib.hid (fun (x : Itm) W => findc_any x d1 d2 W)
  obtain ⟨n, hnn⟩ : ∃ n, n = xs.length := ⟨_, rfl⟩
  have HN := Lib.hid hnn
  rw [← hnn] at hn ⊢
  have HS : Hid (BS xs (d1, d2) 0 n) := Lib.hid (by rw [hnn]; exact BS.start _ _)
  clear hx ha hnn
  go_enter Tryz.func166, Tryz.ntmps166
  go_wp2_with fail
  obtain ⟨u, hu⟩ : ∃ u, u = w.alloc (.cells #[.int .u64 d1, .int .u64 d2] 35) := ⟨_, rfl⟩
  have hus : u.heap.size = w.heap.size + 1 := by rw [hu]; simp
  have HU : Hid (BK w.heap.size #[.int .u64 d1, .int .u64 d2] 35 u) := Lib.hid (by rw [hu]; exact BK.new _ _ _)
  have HWU : Hid (Below w.heap.size w u) := Lib.hid (by rw [hu]; exact (Below.refl _ w).alloc (Nat.le_refl _) _)
  have HUS := Lib.hid hus
  rw [← hu]
  clear hu hus
  go_loopw [9, 10] (fun i j wr => ∃ (ki kj : Nat), i = .int .i64 ki ∧ j = .int .i64 kj ∧ ki ≤ kj ∧ kj ≤ n ∧ Hid (BS xs (d1, d2) ki kj) ∧ Hid (Below u.heap.size u wr)) (fun i j _ => (intOf j).toNat - (intOf i).toNat)
  case atStart => exact ⟨0, n, rfl, rfl, by omega, by omega, HS, Lib.hid (Below.refl _ _)⟩
  case round =>
    clear HS
    obtain ⟨ki, kj, rfl, rfl, hij, hjn, HB, HW⟩ := hrel
    have hws := HW.out.size
    have hwu := HUS.out
    have hX : Its wr.heap.size wr a xs := (HX.out.ahead HWU.out).ahead HW.out
    have bk : BK w.heap.size #[.int .u64 d1, .int .u64 d2] 35 wr := HU.out.below HW.out
    have c0 : wr.cell? ⟨w.heap.size, 0, none⟩ = some (.int .u64 d1) := by rw [bk.cell]; rfl
    have c1 : wr.cell? ⟨w.heap.size, 1, none⟩ = some (.int .u64 d2) := by rw [bk.cell]; rfl
    have HXR := Lib.hid hX
    clear hX bk
    by_cases hlt : ki < kj
    · obtain ⟨h, hh⟩ : ∃ h, h = (ki + kj) / 2 := ⟨_, rfl⟩
      have hh1 : ki ≤ h := by omega
      have hh2 : h < kj := by omega
      have hh3 : h < xs.length := by have := HN.out; omega
      have hdv : ((ki : Int) + (kj : Int)) / 2 = (h : Int) := by omega
      have HDV := Lib.hid hdv
      have hhn : (h : Int) < (n : Int) := by have := HN.out; omega
      obtain ⟨b0, o0, rfl, hb0, q0, q1, q2⟩ := HXR.out h hh3
      have HL := Lib.hid (fun hc => HB.out.left HA.out hh3 hc)
      have HR := Lib.hid (fun hc => HB.out.right HA.out hh3 hc)
      generalize xs[h] = it at q0 q1 q2 HL HR
      have HC2 := Lib.hid (fun d os => Calls.regrown_of (w := wr) (d := d) (os := os) (HC.out it _))
      obtain ⟨⟨i1, i2⟩, dt⟩ := it
      simp only at q0 q1 q2 HL HR HC2
      generalize cmpD (i1, i2) (d1, d2) = cv at HL HR HC2
      have c0' := fun d os => cell_regrown c0 d os
      have c1' := fun d os => cell_regrown c1 d os
      have q0' := fun d os => cell_regrown q0 d os
      have q1' := fun d os => cell_regrown q1 d os
      have q2' := fun d os => cell_regrown q2 d os
      clear hdv hh
      go_upto_region 5 with (fail)
      rw [HDV.out]
      refine wp_region_quiet_below (by kernel_rfl) (by kernel_rfl) ?_
      repeat (any_goals (first | go_big_quiet_step (with_reducible exact HC2.out _ _) | quiet_step (with_reducible exact HC2.out _ _)))
      refine wpQuiet_nil ?_
      intro w2 hw2
      have HB2 := Lib.hid (below_rg hw2)
      have hw2s := HB2.out.size
      clear hw2 HC2 c0' c1' q0' q1' q2'
      by_cases hc : cv < 0
      · have HBS := Lib.hid (HL.out hc)
        have dc : decide (cv < 0) = true := by simpa using hc
        clear HL HR
        go_wp2_with fail
        go_roundw
        case rel => exact ⟨h + 1, kj, by go_num, rfl, by omega, by omega, HBS, Lib.hid (HW.out.trans (HB2.out.mono hws))⟩
        case measure => simp [intOf]; omega
      · have HBS := Lib.hid (HR.out (by omega))
        have dc : decide (cv < 0) = false := by simpa using hc
        clear HL HR
        go_wp2_with fail
        go_roundw
        case rel => exact ⟨ki, h, rfl, by go_num, by omega, by omega, HBS, Lib.hid (HW.out.trans (HB2.out.mono hws))⟩
        case measure => simp [intOf]; omega
    · obtain rfl : ki = kj := by omega
      have HAT : Hid (At xs (d1, d2) ki) := Lib.hid (HB.out.fin (by have := HN.out; omega))
      by_cases hkn : ki < n
      · have hh3 : ki < xs.length := by have := HN.out; omega
        have g0 : decide ((ki : Int) < (n : Int)) = true := by simp; omega
        have g1 : decide (ki < n) = true := by simp; omega
        obtain ⟨b0, o0, rfl, hb0, q0, q1, q2⟩ := HXR.out ki hh3
        have HT : Hid (hitB xs (d1, d2) ki = decide (xs[ki].d = (d1, d2))) := Lib.hid (by unfold hitB; rw [List.getElem?_eq_getElem hh3])
        generalize xs[ki] = it at q0 q1 q2 HT
        have HC2 := Lib.hid (fun d os => Calls.regrown_of (w := wr) (d := d) (os := os) (HC.out it _))
        obtain ⟨⟨i1, i2⟩, dt⟩ := it
        simp only at q0 q1 q2 HC2 HT
        have HT2 : Hid (hitB xs (d1, d2) ki = (cmpD (i1, i2) (d1, d2) == 0)) := Lib.hid (by
          rw [HT.out]
          by_cases h : (i1, i2) = (d1, d2)
          · rw [decide_eq_true h, cmpD_zero.2 h]; rfl
          · rw [decide_eq_false h]
            symm
            rw [beq_eq_false_iff_ne]
            exact fun h2 => h (cmpD_zero.1 h2))
        generalize cmpD (i1, i2) (d1, d2) = cv at HC2 HT2
        have c0' := fun d os => cell_regrown c0 d os
        have c1' := fun d os => cell_regrown c1 d os
        have q0' := fun d os => cell_regrown q0 d os
        have q1' := fun d os => cell_regrown q1 d os
        have q2' := fun d os => cell_regrown q2 d os
        clear HT
        go_wp2_with fail
        refine wp_region_quiet_below (by kernel_rfl) (by kernel_rfl) ?_
        repeat (any_goals (first | go_big_quiet_step (with_reducible exact HC2.out _ _) | quiet_step (with_reducible exact HC2.out _ _)))
        refine wpQuiet_nil ?_
        intro w2 hw2
        have HB2 := Lib.hid (below_rg hw2)
        clear hw2 HC2 c0' c1' q0' q1' q2'
        go_wp2_with fail
        go_ret2
        refine ⟨ki, by rw [HT2.out]; rfl, HAT.out, ?_⟩
        exact HWU.out.trans ((HW.out.trans (HB2.out.mono hws)).mono (by omega))
      · have g0 : decide ((ki : Int) < (n : Int)) = false := by simp; omega
        have g1 : decide (ki < n) = false := by simp; omega
        have HT : Hid (hitB xs (d1, d2) ki = false) := Lib.hid (by unfold hitB; rw [List.getElem?_eq_none (by have := HN.out; omega)])
        go_wp2_with fail
        refine wp_region_quiet_below (by kernel_rfl) (by kernel_rfl) ?_
        repeat (any_goals (first | go_big_quiet_step (fail) | quiet_step (fail)))
        refine wpQuiet_nil ?_
        intro w2 hw2
        have HB2 := Lib.hid (below_rg hw2)
        clear hw2
        go_wp2_with fail
        go_ret2
        refine ⟨ki, by rw [HT.out]; rfl, HAT.out, ?_⟩
        exact HWU.out.trans ((HW.out.trans (HB2.out.mono hws)).mono (by omega))

set_option maxRecDepth 100000 in
set_option maxHeartbeats 1000000 in
theorem find_any (a : Option Addr) (xs : List Itm) (c : Nat) (d1 d2 : Int) (w : World) (hx : Its w.heap.size w a xs) (ha : Asc xs) (hn : (xs.length : Int) ≤ 140737488355328) :
    Calls Tryz.prog 126 #[.slice a xs.length c, .agg #[.int .u64 d1, .int .u64 d2]] w (GotF w xs (d1, d2)) := by
  have HC := Lib.hid (fun W (hW : Below w.heap.size w W) => bsearch_any a xs c d1 d2 W (hx.ahead hW) ha hn)
  clear hx ha
  generalize xs.length = n at HC hn ⊢
  go_enter Tryz.func126, Tryz.ntmps126
  go_wp2_with fail
  have hx := HC.out (w.alloc (.cells #[.int .u64 d1, .int .u64 d2] 35)) ((Below.refl _ w).alloc (Nat.le_refl _) _)
  (with_reducible refine hx.mono ?_)
  clear hx HC
  rintro e w1 ⟨k, rfl, hat, hb⟩
  have HAT := Lib.hid hat
  have HB := Lib.hid hb
  clear hat hb
  go_wp2_with fail
  go_ret2
  exact ⟨k, rfl, HAT.out, ((Below.refl _ w).alloc (Nat.le_refl _) _).trans (HB.out.mono (by simp))⟩

end Go.Proofs.YtdedfkljaeloiaaGreatDoor

/- append of a whole slice; slices.Grow and slices.Concat at items. -/
namespace Go.Proofs.YtdedfkljaeloiaaGreatDoor
open Go.RowKit Go.Shelf
set_option linter.unusedVariables false

/-- The cells of a slice that is appended, if it has some. -/
def Src (w : World) (A : Option Addr) (news : List Value) : Prop := news = [] ∨ ∃ ad, A = some ad ∧ ∀ j u, news[j]? = some u → w.cell? (ad.add j) = some u
theorem append_src {P : Program} (w : World) (base : Nat) (t ty e : TypeId) (i : TypeInfo) (z : Value) (size bytes : Nat) (ht : P.underlying t = some (.slice e)) (hi : P.info? e = some i) (hz : i.zero = some z)
    (hsize : i.size = size) (hby : i.bytes = bytes) (hzs : z.cells.size = size) (hsz : 0 < size) (v : Value) (n : Nat) (xs : List Value) (hown : w.ownsRow base e size v n xs)
    (A : Option Addr) (m c : Nat) (news : List Value) (hl : news.length = m * size) (hs : Src w A news) (h1 : ∀ u ∈ news, u.oneCell' = true) (h63 : n + m ≤ maxLen) (hbytes : (n + m) * bytes ≤ 140737488355328) (hbase : base ≤ w.heap.size) :
    ∃ v' w', (Builtin.append_ #[t, t] ty #[v, .slice A m c]).run P w = .ok v' w' ∧ w'.ownsRow base e size v' (n + m) (xs ++ news) ∧ w.grownBy w' v.ownBlock ∧ (v'.ownBlock = v.ownBlock ∨ v'.ownBlock = some w.heap.size) := by
  cases A with
  | some ad =>
    obtain ⟨v', w', r1, r2, r3, _, r5⟩ := run_append_own_at (P := P) w base t ty e i z size bytes ht hi hz hsize hby hzs hsz v n xs hown ad m c news hl (by
      rcases hs with rfl | ⟨ad', h, hc⟩
      · intro j u hu; simp at hu
      · cases h; exact hc) h1 h63 hbytes hbase
    exact ⟨v', w', r1, r2, r3, r5⟩
  | none =>
    have hn : news = [] := by
      rcases hs with h | ⟨ad, h, _⟩
      · exact h
      · cases h
    subst hn
    have hm : m = 0 := by
      rcases Nat.eq_zero_or_pos m with h | h
      · exact h
      · have := Nat.mul_pos h hsz
        rw [List.length_nil] at hl
        omega
    subst hm
    refine ⟨v, w, ?_, by simpa using hown, ⟨rfl, rfl, rfl, Nat.le_refl _, fun _ _ _ => rfl⟩, .inl rfl⟩
    rcases hown.2 with ⟨rfl, rfl⟩ | ⟨g, cap, cur, rfl, _, _, hc, _⟩
    · simp [Builtin.append_, run_underlying ht, sizeOf, typeInfo, hi, Builtin.lenOf, Builtin.firstCells]
    · simp [Builtin.append_, run_underlying ht, sizeOf, typeInfo, hi, Builtin.lenOf, Builtin.firstCells, hc, storeCells]
theorem its_src {B : Nat} {W : World} {a : Option Addr} {ys : List Itm} (h : Its B W a ys) : Src W a (icells ys) := by
  cases hy : ys with
  | nil => exact .inl rfl
  | cons y ys' =>
    rw [← hy]
    have h0 : 0 < ys.length := by rw [hy]; simp
    obtain ⟨b, off, rfl, _⟩ := h 0 h0
    refine .inr ⟨_, rfl, fun j u hu => ?_⟩
    have hj : j < ys.length * 3 := by
      have := (List.getElem?_eq_some_iff.1 hu).1
      rwa [icells_length] at this
    obtain ⟨i, r, hi, hr, rfl⟩ : ∃ i r, i < ys.length ∧ r < 3 ∧ j = i * 3 + r := ⟨j / 3, j % 3, by omega, by omega, by omega⟩
    obtain ⟨b', off', e, _, c0, c1, c2⟩ := h i hi
    cases e
    obtain ⟨d0, d1, d2⟩ := icells_at ys i hi
    rw [Go.WideShapes.add_plain]
    rcases (by omega : r = 0 ∨ r = 1 ∨ r = 2) with rfl | rfl | rfl
    · rw [show i * 3 + 0 = i * 3 from rfl, d0] at hu; cases hu; exact c0
    · rw [d1] at hu; cases hu; rw [← Nat.add_assoc]; exact c1
    · rw [d2] at hu; cases hu; rw [← Nat.add_assoc]; exact c2
theorem dcells_length (a : List (Int × Int)) : (dcells a).length = a.length * 2 := by
  induction a with
  | nil => rfl
  | cons x a ih => simp [dcells] at ih ⊢; omega
theorem dcells_one (xs : List (Int × Int)) : ∀ v ∈ dcells xs, v.oneCell' = true := by
  intro v hv
  simp only [dcells, List.mem_flatMap] at hv
  obtain ⟨x, _, hv⟩ := hv
  simp at hv
  rcases hv with rfl | rfl <;> rfl
theorem digs_src {B : Nat} {W : World} {a : Option Addr} {ys : List (Int × Int)} (h : Digs B W a ys) : Src W a (dcells ys) := by
  cases hy : ys with
  | nil => exact .inl rfl
  | cons y ys' =>
    rw [← hy]
    have h0 : 0 < ys.length := by rw [hy]; simp
    obtain ⟨b, off, rfl, _⟩ := h 0 h0
    refine .inr ⟨_, rfl, fun j u hu => ?_⟩
    have hj : j < ys.length * 2 := by
      have := (List.getElem?_eq_some_iff.1 hu).1
      rwa [dcells_length] at this
    obtain ⟨i, r, hi, hr, rfl⟩ : ∃ i r, i < ys.length ∧ r < 2 ∧ j = i * 2 + r := ⟨j / 2, j % 2, by omega, by omega, by omega⟩
    obtain ⟨b', off', e, _, c0, c1⟩ := h i hi
    cases e
    obtain ⟨d0, d1⟩ := dcells_at ys i hi
    rw [Go.WideShapes.add_plain]
    rcases (by omega : r = 0 ∨ r = 1) with rfl | rfl
    · rw [show i * 2 + 0 = i * 2 from rfl, d0] at hu; cases hu; exact c0
    · rw [d1] at hu; cases hu; rw [← Nat.add_assoc]; exact c1
/-- append(v, ys...) at items. -/
theorem append_its (W : World) (base : Nat) (ty : TypeId) (v : Value) (xs : List Itm) (hown : W.ownsRow base 158 3 v xs.length (icells xs)) (a : Option Addr) (ys : List Itm) (c : Nat) (hy : Its W.heap.size W a ys)
    (hlen : ((xs.length + ys.length : Nat) : Int) ≤ 1000000000) (hbase : base ≤ W.heap.size) :
    ∃ v' W', (Builtin.append_ #[32, 32] ty #[v, .slice a ys.length c]).run Tryz.prog W = .ok v' W' ∧ W'.ownsRow base 158 3 v' (xs ++ ys).length (icells (xs ++ ys)) ∧ W.grownBy W' v.ownBlock ∧ (v'.ownBlock = v.ownBlock ∨ v'.ownBlock = some W.heap.size) := by
  obtain ⟨i0, hi, hz0, hz1, hz2⟩ := info_parts infoItm
  obtain ⟨v', W', h1, h2, h3, h4⟩ := append_src (P := Tryz.prog) W base 32 ty 158 i0 _ 3 32 Tryz.underlying32 hi hz0 hz1 hz2 rfl (by decide) v xs.length (icells xs) hown a ys.length c (icells ys) (icells_length _) (its_src hy) (icells_one _) (by unfold maxLen; omega) (by omega) hbase
  exact ⟨v', W', h1, by rw [icells_append, List.length_append]; exact h2, h3, h4⟩
theorem append_digs (W : World) (base : Nat) (ty : TypeId) (v : Value) (xs : List (Int × Int)) (hown : W.ownsRow base 35 2 v xs.length (dcells xs)) (a : Option Addr) (ys : List (Int × Int)) (c : Nat) (hy : Digs W.heap.size W a ys)
    (hlen : ((xs.length + ys.length : Nat) : Int) ≤ 1000000000) (hbase : base ≤ W.heap.size) :
    ∃ v' W', (Builtin.append_ #[98, 98] ty #[v, .slice a ys.length c]).run Tryz.prog W = .ok v' W' ∧ W'.ownsRow base 35 2 v' (xs ++ ys).length (dcells (xs ++ ys)) ∧ W.grownBy W' v.ownBlock ∧ (v'.ownBlock = v.ownBlock ∨ v'.ownBlock = some W.heap.size) := by
  obtain ⟨i0, hi, hz0, hz1, hz2⟩ := info_parts infoDig
  obtain ⟨v', W', h1, h2, h3, h4⟩ := append_src (P := Tryz.prog) W base 98 ty 35 i0 _ 2 16 Tryz.underlying98 hi hz0 hz1 hz2 rfl (by decide) v xs.length (dcells xs) hown a ys.length c (dcells ys) (dcells_length _) (digs_src hy) (dcells_one _) (by unfold maxLen; omega) (by omega) hbase
  exact ⟨v', W', h1, by rw [dcells_append, List.length_append]; exact h2, h3, h4⟩
theorem below_own {w x y : World} {base : Nat} {e : TypeId} {z : Nat} {v : Value} {n : Nat} {xs : List Value} (hb : Below w.heap.size w x) (ho : x.ownsRow base e z v n xs) (hg : x.grownBy y v.ownBlock) (hbase : w.heap.size ≤ base) : Below w.heap.size w y :=
  hb.grown hg hb.size (fun k hk => by have := (ho.lt k hk).1; omega)

set_option maxRecDepth 100000 in
set_option maxHeartbeats 1000000 in
theorem growI_any (n : Nat) (w : World) (h1 : 1 ≤ n) (hn : (n : Int) ≤ 1000000000) :
    Calls Tryz.prog 169 #[.slice none 0 0, .int .i64 n] w fun e w' => ∃ g cap, e = .returned (.slice (some ⟨g, 0, none⟩) 0 cap) ∧ w'.ownsRow w.heap.size 158 3 (.slice (some ⟨g, 0, none⟩) 0 cap) 0 [] ∧ Below w.heap.size w w' := by
  obtain ⟨i0, hi, hz0, hz1, hz2⟩ := info_parts infoItm
  obtain ⟨G, cur, hr, hG0, hG1, hcs⟩ : ∃ (G : Nat) (cur : Array Value), (∀ ty, (Builtin.append_ #[32, 3] ty #[.slice none 0 0, .int .i64 n]).run Tryz.prog w = .ok (.slice (some ⟨w.heap.size, 0, none⟩) n G) (w.drew.alloc (.cells cur 158))) ∧ n ≤ G ∧ G ≤ maxLen ∧ cur.size = G * 3 := by
    refine ⟨grownCap w (0 + n) 0 158, ([] : List Value).toArray ++ Builtin.zeroCells (Value.agg #[.int .u64 0, .int .u64 0, .string ⟨#[]⟩]).cells n ++ Builtin.zeroCells (Value.agg #[.int .u64 0, .int .u64 0, .string ⟨#[]⟩]).cells (grownCap w (0 + n) 0 158 - (0 + n)), fun ty => ?_, ?_, ?_, ?_⟩
    · have := Lib.run_append_grow_zeros (P := Tryz.prog) w 32 3 ty 158 i0 _ .i64 .i64 Tryz.underlying32 Tryz.underlying3 hi hz0 none 0 0 [] (run_firstCells_none w.drew i0.size 0 0 0) n (by omega) (by omega) (by omega) (by omega) (by rw [hz2]; omega) (growslice_fits (by omega) (by rw [hz2]; omega))
      rw [Nat.zero_add] at this ⊢
      exact this
    · have := grownCap_ge w (0 + n) 0 158; omega
    · exact grownCap_le_maxLen w (0 + n) 0 158 (by unfold maxLen; omega)
    · have := grownCap_ge w (0 + n) 0 158
      generalize grownCap w (0 + n) 0 158 = G at this ⊢
      rw [Nat.zero_add] at this ⊢
      simp only [Array.size_append, size_zeroCells]
      simp [Value.cells]
      omega
  have HCS := Lib.hid hcs
  have HG1 := Lib.hid hG1
  unfold maxLen at hG1
  clear hz0 hz1 hz2 hi hcs
  go_enter Tryz.func169, Tryz.ntmps169
  go_wp2_with (at_builtin; refine Lib.wpList_append_run _ rfl _ _ _ _ rfl _ _ rfl rfl _ _ (hr _) ?_)
  go_ret
  exact ⟨_, _, rfl, World.ownsRow_made (w := w.drew) (base := w.heap.size) (size := 3) cur G (Nat.le_refl _) HG1.out HCS.out, (Below.refl _ w).drew.alloc (Nat.le_refl _) _⟩

end Go.Proofs.YtdedfkljaeloiaaGreatDoor

/- slices.Concat at items. -/
namespace Go.Proofs.YtdedfkljaeloiaaGreatDoor
open Go.RowKit Go.Shelf
set_option linter.unusedVariables false

/-- A slice of items. -/
structure SlI where
  a : Option Addr
  xs : List Itm
  c : Nat
def allI (L : List SlI) : List Itm := L.flatMap (·.xs)
theorem allI_take {L : List SlI} {k : Nat} (h : k < L.length) : allI (L.take (k + 1)) = allI (L.take k) ++ L[k].xs := by
  unfold allI
  rw [List.take_succ_eq_append_getElem h, List.flatMap_append]
  simp
theorem allI_le (L : List SlI) (k : Nat) : (allI (L.take k)).length ≤ (allI L).length := by
  have h : allI L = allI (L.take k) ++ allI (L.drop k) := by
    unfold allI
    rw [← List.flatMap_append, List.take_append_drop]
  rw [h, List.length_append]
  omega
/-- Slices of items, in a block. -/
structure Sls (B : Nat) (W : World) (bb : Nat) (L : List SlI) : Prop where
  blk : bb < B
  cell : ∀ i (h : i < L.length), W.cell? ⟨bb, i, none⟩ = some (.slice L[i].a L[i].xs.length L[i].c)
  its : ∀ i (h : i < L.length), Its B W L[i].a L[i].xs
theorem Sls.below {B : Nat} {W W' : World} {bb : Nat} {L : List SlI} (h : Sls B W bb L) (hb : Below B W W') : Sls B W' bb L :=
  ⟨h.blk, fun i hi => (hb.cell (p := ⟨bb, i, none⟩) h.blk).trans (h.cell i hi), fun i hi => (h.its i hi).below hb (Nat.le_refl _)⟩
/-- A pool that was handed back: pa's own, or in new memory. -/
def PoolAt (w : World) (pa : Option Addr) (ps xs : List Itm) (a : Option Addr) (c : Nat) (w' : World) : Prop :=
  Its w'.heap.size w' a xs ∧ xs.length ≤ c ∧ ((a = pa ∧ xs = ps) ∨ ∀ ad, a = some ad → w.heap.size ≤ ad.block) ∧ Below w.heap.size w w'
def GotP (w : World) (pa : Option Addr) (xs : List Itm) (e : Ending) (w' : World) : Prop := ∃ a c, e = .returned (.slice a xs.length c) ∧ PoolAt w pa [] xs a c w'
theorem own_new {W : World} {base : Nat} {e : TypeId} {z : Nat} {a : Option Addr} {n c : Nat} {xs : List Value} (h : W.ownsRow base e z (.slice a n c) n xs) : ∀ ad, a = some ad → base ≤ ad.block := by
  intro ad ha
  subst ha
  exact (h.lt ad.block rfl).1

set_option maxRecDepth 100000 in
set_option maxHeartbeats 2000000 in
theorem concatI_any (bb cc : Nat) (L : List SlI) (w : World) (hL : Sls w.heap.size w bb L) (h1 : 1 ≤ (allI L).length) (hn : ((allI L).length : Int) ≤ 1000000000) (hl : (L.length : Int) ≤ 1000) :
    Calls Tryz.prog 127 #[.slice (some ⟨bb, 0, none⟩) L.length cc] w (GotP w none (allI L)) := by
  have HL := Lib.hid hL
  have HG := Lib.hid (fun W => growI_any (allI L).length W h1 hn)
  have HT := Lib.hid (fun k (h : k < L.length) => allI_take h)
  have HLE := Lib.hid (allI_le L)
  obtain ⟨T, hT⟩ : ∃ T, T = (allI L).length := ⟨_, rfl⟩
  rw [← hT] at HG hn
  have HTT := Lib.hid hT
  obtain ⟨n, hnn⟩ : ∃ n, n = L.length := ⟨_, rfl⟩
  have HN := Lib.hid hnn
  rw [← hnn] at hl ⊢
  clear hL hT hnn h1
  go_enter Tryz.func127, Tryz.ntmps127
  go_wp2_with fail
  go_loop [3, 11] (fun s i => ∃ k t : Nat, k ≤ n ∧ i = .int .i64 k ∧ s = .int .i64 t ∧ t ≤ T ∧ Hid (t = (allI (L.take k)).length)) (fun _ i => n - (intOf i).toNat)
  case atStart => exact ⟨0, 0, by omega, rfl, rfl, by omega, Lib.hid rfl⟩
  case round =>
    obtain ⟨k, t, hk, rfl, rfl, ht, HK⟩ := hrel
    by_cases hlt : k < n
    · have h1 : k < L.length := by have := HN.out; omega
      have c0 := HL.out.cell k h1
      have hle : t + L[k].xs.length ≤ T := by
        have a1 := HLE.out (k + 1)
        have a2 := HT.out k h1
        rw [a2, List.length_append, ← HK.out, ← HTT.out] at a1
        exact a1
      have HK2 : Hid (t + L[k].xs.length = (allI (L.take (k + 1))).length) := Lib.hid (by rw [HT.out k h1, List.length_append, ← HK.out])
      generalize L[k] = S at c0 hle HK2
      obtain ⟨sa, sx, sc⟩ := S
      simp only at c0 hle HK2
      generalize sx.length = m at c0 hle HK2
      go_wp2_with fail
      go_round
      case rel => exact ⟨k + 1, t + m, by omega, by go_num, by go_num, by omega, HK2⟩
      case measure => simp [intOf]; omega
    · obtain rfl : n = k := by omega
      obtain rfl : T = t := by rw [HK.out, HTT.out, List.take_of_length_le (by have := HN.out; omega)]
      clear HK hlt hk ht
      go_wp2_with fail
      have hx := HG.out w
      (with_reducible refine hx.mono ?_)
      clear hx HG
      rintro e w1 ⟨g, cap, rfl, hown, hb⟩
      have HO := Lib.hid hown
      have HB := Lib.hid hb
      clear hown hb
      go_wp2_with fail
      go_loopw [6, 27] (fun v i wr => ∃ (k : Nat), k ≤ n ∧ i = .int .i64 k ∧ Hid (wr.ownsRow w.heap.size 158 3 v (allI (L.take k)).length (icells (allI (L.take k)))) ∧ Hid (Below w.heap.size w wr)) (fun _ i _ => n - (intOf i).toNat)
      case atStart => exact ⟨0, by omega, rfl, HO, HB⟩
      case round =>
        clear HO HB
        obtain ⟨k, hk, rfl, HO, HB⟩ := hrel
        have hws := HB.out.size
        by_cases hlt : k < n
        · have h1 : k < L.length := by have := HN.out; omega
          have hSl := HL.out.below HB.out
          have c0 := hSl.cell k h1
          have hle : (allI (L.take k)).length + L[k].xs.length ≤ T := by
            have a1 := HLE.out (k + 1)
            have a2 := HT.out k h1
            rw [a2, List.length_append, ← HTT.out] at a1
            exact a1
          obtain ⟨av, cv, rfl, hcap⟩ := ownsRow_sliceN HO.out
          obtain ⟨v', W', hrun, hown', hg', hat'⟩ := append_its wr w.heap.size 32 _ _ HO.out L[k].a L[k].xs L[k].c ((hSl.its k h1).mono hws) (by omega) hws
          have HO2 : Hid (W'.ownsRow w.heap.size 158 3 v' (allI (L.take (k + 1))).length (icells (allI (L.take (k + 1))))) := Lib.hid (by rw [HT.out k h1]; exact hown')
          have HB2 : Hid (Below w.heap.size w W') := Lib.hid (below_own HB.out HO.out hg' (Nat.le_refl _))
          have HRUN := Lib.hid hrun
          clear hrun hown' hg' hat' hSl hle
          generalize L[k] = S at c0 HRUN
          obtain ⟨sa, sx, sc⟩ := S
          simp only at c0 HRUN
          go_wp2_with (at_builtin; refine Lib.wpList_append_run _ rfl _ _ _ _ rfl _ _ rfl rfl _ _ HRUN.out ?_)
          go_roundw
          case rel => exact ⟨k + 1, by omega, by go_num, HO2, HB2⟩
          case measure => simp [intOf]; omega
        · obtain ⟨av, cv, rfl, hcap⟩ := ownsRow_sliceN HO.out
          have hf : allI (L.take k) = allI L := by rw [List.take_of_length_le (by have := HN.out; omega)]
          have HF : Hid (PoolAt w none [] (allI L) av cv wr) := Lib.hid (by
            have h := HO.out
            rw [hf] at h hcap
            exact ⟨ownsRow_its h, hcap, .inr (own_new h), HB.out⟩)
          rw [hf]
          clear hf HO
          go_wp2_with fail
          go_ret
          exact ⟨av, cv, rfl, HF.out⟩

end Go.Proofs.YtdedfkljaeloiaaGreatDoor

/- pool.insert. -/
namespace Go.Proofs.YtdedfkljaeloiaaGreatDoor
open Go.RowKit Go.Shelf
set_option linter.unusedVariables false

theorem size_itm (W : World) : (sizeOf (Tryz.prog.elem 32)).run Tryz.prog W = .ok 3 W := by
  obtain ⟨i, h1, _, h3, _⟩ := info_parts infoItm
  rw [show Tryz.prog.elem 32 = 158 by kernel_rfl]
  simp [sizeOf, typeInfo, h1, h3]
theorem Its.add0 {B : Nat} {W : World} {a : Option Addr} {ds : List Itm} (h : Its B W a ds) : Its B W (a.map (·.add (0 * 3))) ds := by
  intro i hi
  obtain ⟨b, off, rfl, hlt, h0⟩ := h i hi
  exact ⟨b, off, by simp [Go.WideShapes.add_plain], hlt, h0⟩
theorem Its.drop {B : Nat} {W : World} {a : Option Addr} {ds : List Itm} (h : Its B W a ds) (k : Nat) : Its B W (a.map (·.add (k * 3))) (ds.drop k) := by
  intro i hi
  have hi' : k + i < ds.length := by simp at hi; omega
  obtain ⟨b, off, rfl, hlt, h0, h1, h2⟩ := h (k + i) hi'
  refine ⟨b, off + k * 3, by simp [Go.WideShapes.add_plain], hlt, ?_⟩
  rw [List.getElem_drop]
  rw [show off + k * 3 + i * 3 = off + (k + i) * 3 by omega]
  exact ⟨h0, h1, h2⟩
theorem islice_hi (a : Option Addr) (n c f : Nat) (h : f ≤ c) : ∃ (A1 : Option Addr) (c1 : Nat), (∀ B W ds, Its B W a ds → Its B W A1 (ds.take f)) ∧ ∀ W, (Instr.slice 32 (.slice a n c) none (some (.int .i64 f)) none).run Tryz.prog W = .ok (.slice A1 f c1) W := by
  refine ⟨if c = 0 then a else a.map (·.add (0 * 3)), c, fun B W ps hp => ?_, fun W => ?_⟩
  · split
    · exact hp.take f
    · exact (hp.take f).add0
  · rw [run_slice_h (P := Tryz.prog) W 32 a n c (by kernel_rfl) .i64 f (by omega) (by omega), size_itm]
    simp [sliced, Result.andThen]
theorem islice_lo (a : Option Addr) (n c f m : Nat) (h : f ≤ n) (hc : n ≤ c) (hm : m = n - f) : ∃ (A1 : Option Addr) (c1 : Nat), (∀ B W (ds : List Itm), ds.length = n → Its B W a ds → Its B W A1 (ds.drop f)) ∧ ∀ W, (Instr.slice 32 (.slice a n c) (some (.int .i64 f)) none none).run Tryz.prog W = .ok (.slice A1 m c1) W := by
  refine ⟨if c = f then a else a.map (·.add (f * 3)), c - f, fun B W ps hl hp => ?_, fun W => ?_⟩
  · split
    · rw [List.drop_of_length_le (by omega)]; exact Its.nil _ _ _
    · exact hp.drop f
  · rw [run_slice_l (P := Tryz.prog) W 32 a n c (by kernel_rfl) .i64 f (by omega) (by omega), size_itm]
    subst hm
    simp [sliced, Result.andThen]

/-- Where a digest is, or would be. -/
def posI (xs : List Itm) (d : Int × Int) : Nat := (xs.takeWhile fun y => decide (cmpD y.d d < 0)).length
theorem At.eq : ∀ {xs : List Itm} {d : Int × Int} {k : Nat}, At xs d k → k = posI xs d
  | [], d, k, h => by have := h.le; simp at this; subst this; rfl
  | x :: xs, d, k, h => by
    unfold posI
    cases k with
    | zero =>
      have := h.hi 0 (by simp) (by omega)
      simp only [List.getElem_cons_zero] at this
      rw [List.takeWhile_cons_of_neg (by simp; omega)]
      rfl
    | succ k =>
      have h0 := h.lo 0 (by simp) (by omega)
      simp only [List.getElem_cons_zero] at h0
      rw [List.takeWhile_cons_of_pos (by simpa using h0), List.length_cons]
      have : At xs d k := ⟨by have := h.le; simp at this; omega, fun j hj hlt => by
        have := h.lo (j + 1) (by simp; omega) (by omega)
        simpa using this, fun j hj hle => by
        have := h.hi (j + 1) (by simp; omega) (by omega)
        simpa using this⟩
      rw [this.eq]
      rfl
/-- A pool with an item. -/
def insS (xs : List Itm) (x : Itm) : List Itm × Int :=
  match xs[posI xs x.d]? with
  | some y => if y.d = x.d then (if y.data = x.data then (xs, 0) else ([], 16)) else (xs.take (posI xs x.d) ++ (x :: xs.drop (posI xs x.d)), 0)
  | none => (xs.take (posI xs x.d) ++ (x :: xs.drop (posI xs x.d)), 0)
theorem insS_miss {xs : List Itm} {x : Itm} {k : Nat} (h : At xs x.d k) (hh : hitB xs x.d k = false) : insS xs x = (xs.take k ++ (x :: xs.drop k), 0) := by
  unfold insS
  rw [← h.eq]
  unfold hitB at hh
  split
  · rename_i y hy
    rw [hy] at hh
    simp only at hh
    rw [if_neg (by simpa using hh)]
  · rfl
theorem insS_hit {xs : List Itm} {x : Itm} {k : Nat} (h : At xs x.d k) (hh : hitB xs x.d k = true) : ∃ hk : k < xs.length, xs[k].d = x.d ∧ insS xs x = if xs[k].data = x.data then (xs, 0) else ([], 16) := by
  unfold hitB at hh
  cases hy : xs[k]? with
  | none => rw [hy] at hh; cases hh
  | some y =>
    rw [hy] at hh
    simp only [decide_eq_true_eq] at hh
    obtain ⟨hk, rfl⟩ := List.getElem?_eq_some_iff.1 hy
    refine ⟨hk, hh, ?_⟩
    unfold insS
    rw [← h.eq, hy]
    simp only
    rw [if_pos hh]
def GotPE (w : World) (pa : Option Addr) (ps : List Itm) (r : List Itm × Int) (e : Ending) (w' : World) : Prop := ∃ a c, e = .returned (.tuple #[.slice a r.1.length c, .int .i64 r.2]) ∧ PoolAt w pa ps r.1 a c w'

set_option maxRecDepth 100000 in
set_option maxHeartbeats 2000000 in
theorem insert_any (a : Option Addr) (xs : List Itm) (c : Nat) (x : Itm) (w : World) (hx : Its w.heap.size w a xs) (ha : Asc xs) (hc : xs.length ≤ c) (hn : (xs.length : Int) ≤ 100000000) :
    Calls Tryz.prog 87 #[.slice a xs.length c, x.val] w (GotPE w a xs (insS xs x)) := by
  obtain ⟨⟨x1, x2⟩, dt⟩ := x
  simp only [Itm.val]
  have HF := Lib.hid (fun W (hW : Below w.heap.size w W) => find_any a xs c x1 x2 W (hx.ahead hW) ha (by omega))
  obtain ⟨n, hnn⟩ : ∃ n, n = xs.length := ⟨_, rfl⟩
  have HN := Lib.hid hnn
  rw [← hnn] at HF hn hc ⊢
  have HX := Lib.hid hx
  clear hnn hx ha
  go_enter Tryz.func87, Tryz.ntmps87
  go_wp2_with fail
  have hx := HF.out (w.alloc (.cells #[.int .u64 x1, .int .u64 x2, .string ⟨dt.toArray⟩] 158)) ((Below.refl _ w).alloc (Nat.le_refl _) _)
  (with_reducible refine hx.mono ?_)
  clear hx HF
  rintro e u ⟨k, rfl, hat, hb⟩
  have HAT := Lib.hid hat
  have hkn : k ≤ n := by have := hat.le; have := HN.out; omega
  have HBX : Hid (BK w.heap.size #[.int .u64 x1, .int .u64 x2, .string ⟨dt.toArray⟩] 158 u) := Lib.hid ((BK.new _ _ _).below hb)
  have HB : Hid (Below w.heap.size w u) := Lib.hid (((Below.refl _ w).alloc (Nat.le_refl _) _).trans (hb.mono (by simp)))
  have hus : w.heap.size + 1 ≤ u.heap.size := by have := hb.size; simpa using this
  have b0 : u.cell? ⟨w.heap.size, 0, none⟩ = some (.int .u64 x1) := by rw [HBX.out.cell]; rfl
  have b1 : u.cell? ⟨w.heap.size, 1, none⟩ = some (.int .u64 x2) := by rw [HBX.out.cell]; rfl
  have b2 : u.cell? ⟨w.heap.size, 2, none⟩ = some (.string ⟨dt.toArray⟩) := by rw [HBX.out.cell]; rfl
  clear hat hb
  cases hh : hitB xs (x1, x2) k with
  | false =>
    have HR := Lib.hid (insS_miss (x := ⟨(x1, x2), dt⟩) HAT.out hh)
    clear hh
    obtain ⟨A1, c1, hA1, hs1⟩ := islice_hi a n c k (by omega)
    obtain ⟨m, hm⟩ : ∃ m, m = n - k := ⟨_, rfl⟩
    obtain ⟨A2, c2, hA2, hs2⟩ := islice_lo a n c k m hkn hc hm
    have HA1 := Lib.hid hA1
    have HA2 := Lib.hid hA2
    have HM := Lib.hid hm
    clear hA1 hA2 hm
    have HCC : Hid (∀ (W : World) (bb cc nb : Nat), Below u.heap.size u W → bb < W.heap.size → nb < W.heap.size → W.cell? ⟨nb, 0, none⟩ = some (.int .u64 x1) → W.cell? ⟨nb, 1, none⟩ = some (.int .u64 x2) → W.cell? ⟨nb, 2, none⟩ = some (.string ⟨dt.toArray⟩) →
        W.cell? ⟨bb, 0, none⟩ = some (.slice A1 k c1) → W.cell? ⟨bb, 1, none⟩ = some (.slice (some ⟨nb, 0, none⟩) 1 1) → W.cell? ⟨bb, 2, none⟩ = some (.slice A2 m c2) →
        Calls Tryz.prog 127 #[.slice (some ⟨bb, 0, none⟩) 3 cc] W (GotP W none (xs.take k ++ (⟨(x1, x2), dt⟩ :: xs.drop k)))) := Lib.hid (by
      intro W bb cc nb hW hbb hnb n0 n1 n2 p0 p1 p2
      have hXW : Its W.heap.size W a xs := (HX.out.ahead HB.out).ahead hW
      have hl1 : (xs.take k).length = k := by rw [List.length_take]; have := HN.out; omega
      have hl2 : (xs.drop k).length = m := by rw [List.length_drop]; have := HN.out; have := HM.out; omega
      have := concatI_any bb cc [⟨A1, xs.take k, c1⟩, ⟨some ⟨nb, 0, none⟩, [⟨(x1, x2), dt⟩], 1⟩, ⟨A2, xs.drop k, c2⟩] W ⟨hbb, fun i hi => ?_, fun i hi => ?_⟩ (by simp [allI]; omega) (by
        simp only [allI, List.flatMap_cons, List.flatMap_nil, List.append_nil, List.length_append, List.length_cons, List.length_nil, hl1, hl2]
        have := HM.out
        omega) (by simp)
      · simpa [allI] using this
      · rcases (by simp at hi; omega : i = 0 ∨ i = 1 ∨ i = 2) with rfl | rfl | rfl
        · simp only [List.getElem_cons_zero, hl1]; exact p0
        · exact p1
        · simp only [List.getElem_cons_succ, List.getElem_cons_zero, hl2]; exact p2
      · rcases (by simp at hi; omega : i = 0 ∨ i = 1 ∨ i = 2) with rfl | rfl | rfl
        · exact HA1.out _ _ _ hXW
        · intro j hj
          simp only [List.getElem_cons_succ, List.getElem_cons_zero, List.length_cons, List.length_nil] at hj ⊢
          obtain rfl : j = 0 := by omega
          refine ⟨nb, 0, rfl, hnb, ?_, ?_, ?_⟩ <;> simp
          · exact n0
          · exact n1
          · exact n2
        · exact HA2.out _ _ _ HN.out.symm hXW)
    have hk0 : (0 : Int) ≤ (k : Int) := by omega
    have hk1 : (k : Int) ≤ (n : Int) := by omega
    have hk2 : (k : Int) ≤ (c : Int) := by omega
    obtain ⟨W0, hW0⟩ : ∃ W0, W0 = ((u.alloc (.cells #[.int .u64 x1, .int .u64 x2, .string ⟨dt.toArray⟩] 158)).alloc (.cells #[.slice A1 k c1, .slice (some ⟨u.heap.size, 0, none⟩) 1 1, .slice A2 m c2] 32)).drew := ⟨_, rfl⟩
    have HBW : Hid (Below u.heap.size u W0) := Lib.hid (by rw [hW0]; exact (((Below.refl _ u).alloc (Nat.le_refl _) _).alloc (by simp) _).drew)
    have HN1 : Hid (BK u.heap.size #[.int .u64 x1, .int .u64 x2, .string ⟨dt.toArray⟩] 158 W0) := Lib.hid (by rw [hW0]; exact (BK.new u _ _).alloc _)
    have HN2 : Hid (BK (u.heap.size + 1) #[.slice A1 k c1, .slice (some ⟨u.heap.size, 0, none⟩) 1 1, .slice A2 m c2] 32 W0) := Lib.hid (by rw [hW0]; exact BK.new2 u _ _ _)
    have HC2 := Lib.hid (HCC.out W0 (u.heap.size + 1) 3 u.heap.size HBW.out HN2.out.lt HN1.out.lt (by rw [HN1.out.cell]; rfl) (by rw [HN1.out.cell]; rfl) (by rw [HN1.out.cell]; rfl) (by rw [HN2.out.cell]; rfl) (by rw [HN2.out.cell]; rfl) (by rw [HN2.out.cell]; rfl))
    have HKP : Hid (∀ w4, Below W0.heap.size W0 w4 → w4.cell? ⟨w.heap.size, 0, none⟩ = some (.int .u64 x1) ∧ w4.cell? ⟨w.heap.size, 1, none⟩ = some (.int .u64 x2) ∧ w4.cell? ⟨w.heap.size, 2, none⟩ = some (.string ⟨dt.toArray⟩)) := Lib.hid (fun w4 h4 => by
      have h5 := (HBX.out.below HBW.out).below h4
      exact ⟨by rw [h5.cell]; rfl, by rw [h5.cell]; rfl, by rw [h5.cell]; rfl⟩)
    have HPB : Hid (∀ (a' : Option Addr) (c' : Nat) w4, PoolAt W0 none [] (xs.take k ++ (⟨(x1, x2), dt⟩ :: xs.drop k)) a' c' w4 → PoolAt w a xs (xs.take k ++ (⟨(x1, x2), dt⟩ :: xs.drop k)) a' c' w4) := Lib.hid (fun a' c' w4 h => by
      have hs := HBW.out.size
      refine ⟨h.1, h.2.1, .inr ?_, HB.out.trans ((HBW.out.trans (h.2.2.2.mono hs)).mono (by omega))⟩
      rcases h.2.2.1 with h1 | h1
      · rw [h1.1]; intro ad had; cases had
      · intro ad had; have := h1 ad had; omega)
    rw [hW0] at HC2 HKP
    generalize xs.take k ++ (⟨(x1, x2), dt⟩ :: xs.drop k) = R at HC2 HPB HR
    have HW0 := Lib.hid hW0
    clear HCC hW0 HN1 HN2 HBW HA1 HA2
    go_wp2_with fail
    go_region_held3 (fun w' => w'.cell? ⟨w.heap.size, 0, none⟩ = some (.int .u64 x1) ∧ w'.cell? ⟨w.heap.size, 1, none⟩ = some (.int .u64 x2) ∧ w'.cell? ⟨w.heap.size, 2, none⟩ = some (.string ⟨dt.toArray⟩)) (go_keep)
      (((with_reducible refine HC2.out.mono ?_); rintro e w4 ⟨ra, rc, rfl, hpo⟩; obtain ⟨k0, k1, k2⟩ := HKP.out _ hpo.2.2.2; have HPO := Lib.hid hpo; clear hpo))
    all_goals
      have HPO2 := Lib.hid (HPB.out ra rc w4 (by rw [HW0.out]; exact HPO.out))
      clear HPO HPB HKP HC2
      go_wp2_with fail
      go_ret2
      rw [HR.out]
      exact ⟨ra, rc, rfl, HPO2.out⟩
  | true =>
    obtain ⟨hk, hxd, hR⟩ := insS_hit (x := ⟨(x1, x2), dt⟩) HAT.out hh
    obtain ⟨p0, o0, rfl, hp0, q0, q1, q2⟩ := (HX.out.ahead HB.out) k hk
    clear hh hxd
    have hkn' : (k : Int) < (n : Int) := by have := HN.out; omega
    generalize xs[k] = y at hR q0 q1 q2
    obtain ⟨⟨y1, y2⟩, yd⟩ := y
    simp only at hR q0 q1 q2
    cases he : (yd == dt) with
    | true =>
      have HR : Hid (insS xs ⟨(x1, x2), dt⟩ = (xs, 0)) := Lib.hid (by rw [hR, if_pos (by simpa using he)])
      clear hR
      go_wp2_with fail
      go_quiet (fail)
      go_wp2_with fail
      go_ret2
      rw [HR.out]
      refine ⟨_, c, by rw [← HN.out]; rfl, HX.out.ahead ?_, by rw [← HN.out]; exact hc, .inl ⟨rfl, rfl⟩, ?_⟩
      · exact below_drewN HB.out _
      · exact below_drewN HB.out _
    | false =>
      have HR : Hid (insS xs ⟨(x1, x2), dt⟩ = ([], 16)) := Lib.hid (by rw [hR, if_neg (by simpa using he)])
      clear hR
      go_wp2_with fail
      go_quiet (fail)
      go_wp2_with fail
      go_ret2
      rw [HR.out]
      exact ⟨none, 0, rfl, Its.nil _ _ _, Nat.le_refl _, .inr (fun ad h => by cases h), below_drewN HB.out _⟩

end Go.Proofs.YtdedfkljaeloiaaGreatDoor

/- pool.Has, pool.Get, pool.checkItem. -/
namespace Go.Proofs.YtdedfkljaeloiaaGreatDoor
open Go.RowKit Go.Shelf
set_option linter.unusedVariables false

def hasS (xs : List Itm) (d : Int × Int) : Bool := hitB xs d (posI xs d)
/-- The object with a digest. -/
def getS (xs : List Itm) (d : Int × Int) : Ob × Int :=
  match xs[posI xs d]? with
  | some y => if y.d = d then decodeS y.data else (obZ, 8)
  | none => (obZ, 8)
theorem getS_miss {xs : List Itm} {d : Int × Int} {k : Nat} (h : At xs d k) (hh : hitB xs d k = false) : getS xs d = (obZ, 8) := by
  unfold getS
  rw [← h.eq]
  unfold hitB at hh
  split
  · rename_i y hy
    rw [hy] at hh
    simp only at hh
    rw [if_neg (by simpa using hh)]
  · rfl
theorem getS_hit {xs : List Itm} {d : Int × Int} {k : Nat} (h : At xs d k) (hh : hitB xs d k = true) : ∃ hk : k < xs.length, xs[k].d = d ∧ getS xs d = decodeS xs[k].data := by
  unfold hitB at hh
  cases hy : xs[k]? with
  | none => rw [hy] at hh; cases hh
  | some y =>
    rw [hy] at hh
    simp only [decide_eq_true_eq] at hh
    obtain ⟨hk, rfl⟩ := List.getElem?_eq_some_iff.1 hy
    refine ⟨hk, hh, ?_⟩
    unfold getS
    rw [← h.eq, hy]
    simp only
    rw [if_pos hh]
/-- A pool's slice. -/
structure PoolIn (w : World) (a : Option Addr) (xs : List Itm) (c : Nat) : Prop where
  its : Its w.heap.size w a xs
  cap : xs.length ≤ c
  len : (xs.length : Int) ≤ 100000000
  dat : ∀ x ∈ xs, (x.data.length : Int) ≤ 140737488355328
theorem PoolIn.below {w W : World} {a : Option Addr} {xs : List Itm} {c : Nat} (h : PoolIn w a xs c) (hb : Below w.heap.size w W) : PoolIn W a xs c := ⟨h.its.ahead hb, h.cap, h.len, h.dat⟩

set_option maxRecDepth 100000 in
set_option maxHeartbeats 2000000 in
theorem get_any (a : Option Addr) (xs : List Itm) (c : Nat) (d1 d2 : Int) (w : World) (hp : PoolIn w a xs c) (ha : Asc xs) :
    Calls Tryz.prog 129 #[.slice a xs.length c, .agg #[.int .u64 d1, .int .u64 d2]] w (GotO w (getS xs (d1, d2)).1 (getS xs (d1, d2)).2) := by
  have HF := Lib.hid (fun W (hW : Below w.heap.size w W) => find_any a xs c d1 d2 W (hp.below hW).its ha (by have := hp.len; omega))
  obtain ⟨n, hnn⟩ : ∃ n, n = xs.length := ⟨_, rfl⟩
  have HN := Lib.hid hnn
  rw [← hnn] at HF ⊢
  have HP := Lib.hid hp
  clear hnn hp ha
  go_enter Tryz.func129, Tryz.ntmps129
  go_wp2_with fail
  have hx := HF.out ((w.alloc (.cells #[.int .u64 d1, .int .u64 d2] 35)).alloc (.cells #[.int .i64 0, .string ⟨#[]⟩, .slice none 0 0, .int .u64 0, .int .u64 0, .slice none 0 0, .string ⟨#[]⟩, .int .i64 0, .string ⟨#[]⟩] 100)) (((Below.refl _ w).alloc (Nat.le_refl _) _).alloc (by simp) _)
  (with_reducible refine hx.mono ?_)
  clear hx HF
  rintro e u ⟨k, rfl, hat, hb⟩
  have HAT := Lib.hid hat
  have hkn : k ≤ n := by have := hat.le; have := HN.out; omega
  have HRS : Hid (BK (w.heap.size + 1) #[.int .i64 0, .string ⟨#[]⟩, .slice none 0 0, .int .u64 0, .int .u64 0, .slice none 0 0, .string ⟨#[]⟩, .int .i64 0, .string ⟨#[]⟩] 100 u) := Lib.hid ((BK.new2 _ _ _ _).below hb)
  have HB : Hid (Below w.heap.size w u) := Lib.hid ((((Below.refl _ w).alloc (Nat.le_refl _) _).alloc (by simp) _).trans (hb.mono (by simp; omega)))
  have hus : w.heap.size + 2 ≤ u.heap.size := by have := hb.size; simpa using this
  clear hat hb
  cases hh : hitB xs (d1, d2) k with
  | false =>
    have HR := Lib.hid (getS_miss HAT.out hh)
    clear hh
    have r0 : u.cell? ⟨w.heap.size + 1, 0, none⟩ = some (.int .i64 0) := by rw [HRS.out.cell]; rfl
    have g0 : u.frozen? ⟨w.heap.size + 1, 0, none⟩ = false := HRS.out.frozen 0
    have r1 : u.cell? ⟨w.heap.size + 1, 1, none⟩ = some (.string ⟨#[]⟩) := by rw [HRS.out.cell]; rfl
    have g1 : u.frozen? ⟨w.heap.size + 1, 1, none⟩ = false := HRS.out.frozen 1
    have r2 : u.cell? ⟨w.heap.size + 1, 2, none⟩ = some (.slice none 0 0) := by rw [HRS.out.cell]; rfl
    have g2 : u.frozen? ⟨w.heap.size + 1, 2, none⟩ = false := HRS.out.frozen 2
    have r3 : u.cell? ⟨w.heap.size + 1, 3, none⟩ = some (.int .u64 0) := by rw [HRS.out.cell]; rfl
    have g3 : u.frozen? ⟨w.heap.size + 1, 3, none⟩ = false := HRS.out.frozen 3
    have r4 : u.cell? ⟨w.heap.size + 1, 4, none⟩ = some (.int .u64 0) := by rw [HRS.out.cell]; rfl
    have g4 : u.frozen? ⟨w.heap.size + 1, 4, none⟩ = false := HRS.out.frozen 4
    have r5 : u.cell? ⟨w.heap.size + 1, 5, none⟩ = some (.slice none 0 0) := by rw [HRS.out.cell]; rfl
    have g5 : u.frozen? ⟨w.heap.size + 1, 5, none⟩ = false := HRS.out.frozen 5
    have r6 : u.cell? ⟨w.heap.size + 1, 6, none⟩ = some (.string ⟨#[]⟩) := by rw [HRS.out.cell]; rfl
    have g6 : u.frozen? ⟨w.heap.size + 1, 6, none⟩ = false := HRS.out.frozen 6
    have r7 : u.cell? ⟨w.heap.size + 1, 7, none⟩ = some (.int .i64 0) := by rw [HRS.out.cell]; rfl
    have g7 : u.frozen? ⟨w.heap.size + 1, 7, none⟩ = false := HRS.out.frozen 7
    have r8 : u.cell? ⟨w.heap.size + 1, 8, none⟩ = some (.string ⟨#[]⟩) := by rw [HRS.out.cell]; rfl
    have g8 : u.frozen? ⟨w.heap.size + 1, 8, none⟩ = false := HRS.out.frozen 8
    go_wp2_with fail
    refine bodyPost_ret (v := .tuple #[obZ.val none 0 none 0, .int .i64 8]) (by simp [results, Tryz.results129, go_sem, obZ, r0, r1, r2, r3, r4, r5, r6, r7, r8]) rfl ?_
    rw [HR.out]
    exact ⟨none, 0, none, 0, rfl, ObOwn.zero _ _, ((((((((HB.out.setCell (by simp) _).setCell (by simp) _).setCell (by simp) _).setCell (by simp) _).setCell (by simp) _).setCell (by simp) _).setCell (by simp) _).setCell (by simp) _).setCell (by simp) _⟩
  | true =>
    obtain ⟨hk, hxd, hR⟩ := getS_hit HAT.out hh
    obtain ⟨p0, o0, rfl, hp0, q0, q1, q2⟩ := (HP.out.its.ahead HB.out) k hk
    have hdl := HP.out.dat _ (List.getElem_mem hk)
    clear hh hxd
    have hkn' : (k : Int) < (n : Int) := by have := HN.out; omega
    generalize xs[k] = y at hR q0 q1 q2 hdl
    obtain ⟨⟨y1, y2⟩, yd⟩ := y
    simp only at hR q0 q1 q2 hdl
    have HD := Lib.hid (fun W => decode_any yd W hdl)
    have HR := Lib.hid hR
    clear hR
    generalize decodeS yd = D at HD HR
    obtain ⟨o, er⟩ := D
    simp only at HD HR
    go_wp2_with fail
    have hx := HD.out u
    (with_reducible refine hx.mono ?_)
    clear hx HD
    rintro e v ⟨ea, ec, pa, pc, rfl, hob, hb⟩
    have HOB := Lib.hid hob
    have HB2 := Lib.hid hb
    have HRS2 := Lib.hid (HRS.out.below hb)
    have hvs := hb.size
    clear hob hb q0 q1 q2
    obtain ⟨kind, data, ents, ⟨t1, t2⟩, pars, author, time, msg⟩ := o
    have HF : Hid (∀ (W : World), v.grownBy W (some (w.heap.size + 1)) → Below w.heap.size w W → GotO w (getS xs (d1, d2)).1 (getS xs (d1, d2)).2 (.returned (.tuple #[.agg #[.int .i64 kind, .string ⟨data.toArray⟩, .slice ea ents.length ec, .int .u64 t1, .int .u64 t2, .slice pa pars.length pc, .string ⟨author.toArray⟩, .int .i64 time, .string ⟨msg.toArray⟩], .int .i64 er])) W) := Lib.hid (fun W h1 h2 => by
      rw [HR.out]
      exact ⟨ea, ec, pa, pc, rfl, (HOB.out.kept h1 (by omega)).le (by omega), h2⟩)
    simp only [Ob.val]
    generalize ents.length = ne at HF ⊢
    generalize pars.length = np at HF ⊢
    have r0 : v.cell? ⟨w.heap.size + 1, 0, none⟩ = some (.int .i64 0) := by rw [HRS2.out.cell]; rfl
    have g0 : v.frozen? ⟨w.heap.size + 1, 0, none⟩ = false := HRS2.out.frozen 0
    have r1 : v.cell? ⟨w.heap.size + 1, 1, none⟩ = some (.string ⟨#[]⟩) := by rw [HRS2.out.cell]; rfl
    have g1 : v.frozen? ⟨w.heap.size + 1, 1, none⟩ = false := HRS2.out.frozen 1
    have r2 : v.cell? ⟨w.heap.size + 1, 2, none⟩ = some (.slice none 0 0) := by rw [HRS2.out.cell]; rfl
    have g2 : v.frozen? ⟨w.heap.size + 1, 2, none⟩ = false := HRS2.out.frozen 2
    have r3 : v.cell? ⟨w.heap.size + 1, 3, none⟩ = some (.int .u64 0) := by rw [HRS2.out.cell]; rfl
    have g3 : v.frozen? ⟨w.heap.size + 1, 3, none⟩ = false := HRS2.out.frozen 3
    have r4 : v.cell? ⟨w.heap.size + 1, 4, none⟩ = some (.int .u64 0) := by rw [HRS2.out.cell]; rfl
    have g4 : v.frozen? ⟨w.heap.size + 1, 4, none⟩ = false := HRS2.out.frozen 4
    have r5 : v.cell? ⟨w.heap.size + 1, 5, none⟩ = some (.slice none 0 0) := by rw [HRS2.out.cell]; rfl
    have g5 : v.frozen? ⟨w.heap.size + 1, 5, none⟩ = false := HRS2.out.frozen 5
    have r6 : v.cell? ⟨w.heap.size + 1, 6, none⟩ = some (.string ⟨#[]⟩) := by rw [HRS2.out.cell]; rfl
    have g6 : v.frozen? ⟨w.heap.size + 1, 6, none⟩ = false := HRS2.out.frozen 6
    have r7 : v.cell? ⟨w.heap.size + 1, 7, none⟩ = some (.int .i64 0) := by rw [HRS2.out.cell]; rfl
    have g7 : v.frozen? ⟨w.heap.size + 1, 7, none⟩ = false := HRS2.out.frozen 7
    have r8 : v.cell? ⟨w.heap.size + 1, 8, none⟩ = some (.string ⟨#[]⟩) := by rw [HRS2.out.cell]; rfl
    have g8 : v.frozen? ⟨w.heap.size + 1, 8, none⟩ = false := HRS2.out.frozen 8
    go_wp2_with fail
    refine bodyPost_ret (v := .tuple #[.agg #[.int .i64 kind, .string ⟨data.toArray⟩, .slice ea ne ec, .int .u64 t1, .int .u64 t2, .slice pa np pc, .string ⟨author.toArray⟩, .int .i64 time, .string ⟨msg.toArray⟩], .int .i64 er]) (by simp [results, Tryz.results129, go_sem, r0, r1, r2, r3, r4, r5, r6, r7, r8]) rfl ?_
    refine HF.out _ ?_ ?_
    · exact (gown (gown (gown (gown (gown (gown (gown (gown (gset _ _ _ _) _ _) _ _) _ _) _ _) _ _) _ _) _ _) _ _)
    · have hbb : Below w.heap.size w v := HB.out.trans (HB2.out.mono (by omega))
      exact ((((((((hbb.setCell (by simp) _).setCell (by simp) _).setCell (by simp) _).setCell (by simp) _).setCell (by simp) _).setCell (by simp) _).setCell (by simp) _).setCell (by simp) _).setCell (by simp) _

/-- The error of an item. -/
def chkI (x : Itm) : Int := if (decodeS x.data).2 ≠ 0 then 13 else if digS x.data ≠ x.d then 15 else 0
end Go.Proofs.YtdedfkljaeloiaaGreatDoor

/- pool.Put, pool.Add, pool.Check. -/
namespace Go.Proofs.YtdedfkljaeloiaaGreatDoor
open Go.RowKit Go.Shelf
set_option linter.unusedVariables false

/-- A pool with an object, its digest, and the error. -/
def putS (xs : List Itm) (o : Ob) : List Itm × (Int × Int) × Int :=
  if (encodeS o).2 ≠ 0 then ([], (0, 0), (encodeS o).2)
  else if (insS xs ⟨digS (encodeS o).1, (encodeS o).1⟩).2 ≠ 0 then ([], (0, 0), (insS xs ⟨digS (encodeS o).1, (encodeS o).1⟩).2)
  else ((insS xs ⟨digS (encodeS o).1, (encodeS o).1⟩).1, digS (encodeS o).1, 0)
def GotPut (w : World) (pa : Option Addr) (ps : List Itm) (r : List Itm × (Int × Int) × Int) (e : Ending) (w' : World) : Prop := ∃ a c, e = .returned (.tuple #[.slice a r.1.length c, .agg #[.int .u64 r.2.1.1, .int .u64 r.2.1.2], .int .i64 r.2.2]) ∧ PoolAt w pa ps r.1 a c w'
theorem PoolAt.none {w w' : World} (pa : Option Addr) (ps : List Itm) (h : Below w.heap.size w w') : PoolAt w pa ps [] Option.none 0 w' := ⟨Its.nil _ _ _, Nat.le_refl _, .inr (fun ad h => by cases h), h⟩
theorem encodeS_len (o : Ob) : (encodeS o).1.length ≤ 65536 := by
  unfold encodeS
  split
  · simp
  · split
    · simp
    · simp only; omega
theorem Its.set {B : Nat} {W : World} {a : Option Addr} {xs : List Itm} (h : Its B W a xs) {c : Nat} (hc : ∀ ad, a = some ad → 0 < xs.length → ad.block ≠ c) (j : Nat) (v : Value) : Its B (W.setCell ⟨c, j, none⟩ v) a xs := by
  intro i hi
  obtain ⟨b, off, rfl, hlt, h0, h1, h2⟩ := h i hi
  have hne : b ≠ c := hc _ rfl (by omega)
  have hk := Below.heap_setCell W ⟨c, j, none⟩ v b hne
  exact ⟨b, off, rfl, hlt, (World.cell?_of_block (a := ⟨b, off + i * 3, none⟩) hk).trans h0, (World.cell?_of_block (a := ⟨b, off + i * 3 + 1, none⟩) hk).trans h1, (World.cell?_of_block (a := ⟨b, off + i * 3 + 2, none⟩) hk).trans h2⟩

set_option maxRecDepth 100000 in
set_option maxHeartbeats 2000000 in
theorem put_any (a : Option Addr) (xs : List Itm) (c : Nat) (o : Ob) (ea : Option Addr) (ec : Nat) (pa : Option Addr) (pc : Nat) (w : World) (hp : PoolIn w a xs c) (ha : Asc xs) (ho : ObIn w o ea ec pa pc) :
    Calls Tryz.prog 54 #[.slice a xs.length c, o.val ea ec pa pc] w (GotPut w a xs (putS xs o)) := by
  have HE := Lib.hid (fun W (hW : Below w.heap.size w W) => encode_any o ea ec pa pc W (ho.below hW))
  have hel := encodeS_len o
  obtain ⟨R, hR⟩ : ∃ R, R = putS xs o := ⟨_, rfl⟩
  rw [← hR]
  unfold putS at hR
  generalize encodeS o = r at HE hel hR
  obtain ⟨T, er⟩ := r
  simp only at HE hel hR
  have HOf := Lib.hid (fun W => of_any T W (by omega))
  generalize hdg : digS T = dg at HOf hR
  clear hdg
  obtain ⟨g1, g2⟩ := dg
  simp only at HOf
  have HI := Lib.hid (fun W (hW : Below w.heap.size w W) => insert_any a xs c ⟨(g1, g2), T⟩ W (hp.below hW).its ha hp.cap hp.len)
  simp only [Itm.val] at HI
  generalize insS xs ⟨(g1, g2), T⟩ = I at HI hR
  obtain ⟨ys, ei⟩ := I
  simp only at HI hR
  obtain ⟨kind, data, ents, ⟨t1, t2⟩, pars, author, time, msg⟩ := o
  simp only [Ob.val] at HE ⊢
  have HP := Lib.hid hp.its
  clear ho hp ha
  obtain ⟨n, hnn⟩ : ∃ n, n = xs.length := ⟨_, rfl⟩
  have HN := Lib.hid hnn
  rw [← hnn] at HI ⊢
  clear hnn
  generalize ents.length = ne at HE ⊢
  generalize pars.length = np at HE ⊢
  obtain ⟨u0, hu0⟩ : ∃ u0, u0 = ((w.alloc (.cells #[.int .i64 kind, .string ⟨data.toArray⟩, .slice ea ne ec, .int .u64 t1, .int .u64 t2, .slice pa np pc, .string ⟨author.toArray⟩, .int .i64 time, .string ⟨msg.toArray⟩] 100)).alloc (.cells #[.int .u64 0, .int .u64 0] 35)) := ⟨_, rfl⟩
  have HB0 : Hid (Below w.heap.size w u0) := Lib.hid (by rw [hu0]; exact ((Below.refl _ w).alloc (Nat.le_refl _) _).alloc (by simp) _)
  have HK0 : Hid (BK (w.heap.size + 1) #[.int .u64 0, .int .u64 0] 35 u0) := Lib.hid (by rw [hu0]; exact BK.new2 _ _ _ _)
  have hz0 : w.heap.size + 2 ≤ u0.heap.size := by rw [hu0]; simp
  have HE0 : Hid (Calls Tryz.prog 80 _ _ _) := Lib.hid (HE.out u0 HB0.out)
  rw [hu0] at HE0
  have HU0 := Lib.hid hu0
  clear HE
  by_cases he : er = 0
  · subst he
    rw [if_neg (by simp)] at hR
    have HR := Lib.hid hR
    clear hR hu0
    go_enter Tryz.func54, Tryz.ntmps54
    go_wp2_with fail
    have hx := HE0.out
    (with_reducible refine hx.mono ?_)
    clear hx HE0
    rintro e u1 ⟨rfl, hb⟩
    rw [← HU0.out] at hb
    have HB1 : Hid (Below w.heap.size w u1) := Lib.hid (HB0.out.trans (hb.mono (by omega)))
    have HK1 := Lib.hid (HK0.out.below hb)
    have hz1 : w.heap.size + 2 ≤ u1.heap.size := by have := hb.size; omega
    clear hb HU0 HB0 HK0 hz0
    go_wp2_with fail
    have hx := HOf.out u1
    (with_reducible refine hx.mono ?_)
    clear hx HOf
    rintro e u2 ⟨rfl, hb⟩
    have HB2 : Hid (Below w.heap.size w u2) := Lib.hid (HB1.out.trans (hb.mono (by omega)))
    have HK2 := Lib.hid (HK1.out.below hb)
    have hz2 : w.heap.size + 2 ≤ u2.heap.size := by have := hb.size; omega
    clear hb HB1 HK1 hz1
    have HB3 : Hid (Below w.heap.size w (u2.alloc (.cells #[.int .u64 g1, .int .u64 g2] 35))) := Lib.hid (HB2.out.alloc (by omega) _)
    have HK3 : Hid (BK (w.heap.size + 1) #[.int .u64 0, .int .u64 0] 35 (u2.alloc (.cells #[.int .u64 g1, .int .u64 g2] 35))) := Lib.hid (HK2.out.alloc _)
    have HD3 : Hid (BK u2.heap.size #[.int .u64 g1, .int .u64 g2] 35 (u2.alloc (.cells #[.int .u64 g1, .int .u64 g2] 35))) := Lib.hid (BK.new _ _ _)
    go_wp2_with fail
    have hx := HI.out _ HB3.out
    (with_reducible refine hx.mono ?_)
    clear hx HI
    rintro e u4 ⟨ra, rc, rfl, hpo⟩
    have HPO := Lib.hid hpo
    have hb := hpo.2.2.2
    have HK4 := Lib.hid (HK3.out.below hb)
    have HD4 := Lib.hid (HD3.out.below hb)
    have HB4 : Hid (Below w.heap.size w u4) := Lib.hid (HB3.out.trans (hb.mono (by simp; omega)))
    have c0 : u4.cell? ⟨w.heap.size + 1, 0, none⟩ = some (.int .u64 0) := by rw [HK4.out.cell]; rfl
    have c1 : u4.cell? ⟨w.heap.size + 1, 1, none⟩ = some (.int .u64 0) := by rw [HK4.out.cell]; rfl
    have f0 : u4.frozen? ⟨w.heap.size + 1, 0, none⟩ = false := HK4.out.frozen 0
    have f1 : u4.frozen? ⟨w.heap.size + 1, 1, none⟩ = false := HK4.out.frozen 1
    have k0 : u4.cell? ⟨u2.heap.size, 0, none⟩ = some (.int .u64 g1) := by rw [HD4.out.cell]; rfl
    have k1 : u4.cell? ⟨u2.heap.size, 1, none⟩ = some (.int .u64 g2) := by rw [HD4.out.cell]; rfl
    have hne : u2.heap.size ≠ w.heap.size + 1 := by omega
    clear hpo hb HB3 HK3 HD3 HK4 HD4
    by_cases hi : ei = 0
    · subst hi
      have HR2 : Hid (R = (ys, (g1, g2), 0)) := Lib.hid (by rw [HR.out, if_neg (by simp)])
      have HFN : Hid (∀ W, (∀ B, Its B u4 ra ys → Its B W ra ys) → W.heap.size = u4.heap.size → Below w.heap.size w W → GotPut w a xs R (.returned (.tuple #[.slice ra ys.length rc, .agg #[.int .u64 g1, .int .u64 g2], .int .i64 0])) W) := Lib.hid (fun W h1 h2 h3 => by
        rw [HR2.out]
        refine ⟨ra, rc, rfl, by rw [h2]; exact h1 _ HPO.out.1, HPO.out.2.1, ?_, h3⟩
        rcases HPO.out.2.2.1 with h | h
        · exact .inl h
        · exact .inr (fun ad had => by have := h ad had; simp at this; omega))
      have HAW : Hid (∀ ad, ra = some ad → 0 < ys.length → ad.block ≠ w.heap.size + 1) := Lib.hid (fun ad had hpos => by
        rcases HPO.out.2.2.1 with h | h
        · have h0 : 0 < xs.length := by rw [← h.2]; exact hpos
          obtain ⟨b, off, hb, hlt, _⟩ := HP.out 0 h0
          rw [← h.1, had] at hb
          cases hb
          simp only
          omega
        · have := h ad had; simp at this; omega)
      clear HR
      go_wp2_with fail
      go_region
      all_goals go_wp2_with fail
      refine bodyPost_ret (v := .tuple #[.slice ra ys.length rc, .agg #[.int .u64 g1, .int .u64 g2], .int .i64 0]) (by simp [results, Tryz.results54, go_sem, c0, c1]) rfl ?_
      exact HFN.out _ (fun B h => (h.set HAW.out _ _).set HAW.out _ _) (by simp) ((HB4.out.setCell (by simp) _).setCell (by simp) _).drew
    · have HR2 : Hid (R = ([], (0, 0), ei)) := Lib.hid (by rw [HR.out, if_pos hi])
      have hne2 : (ei != 0) = true := by simpa using hi
      clear HR hi
      go_wp2_with fail
      refine bodyPost_ret (v := .tuple #[.slice none 0 0, .agg #[.int .u64 0, .int .u64 0], .int .i64 ei]) (by simp [results, Tryz.results54, go_sem, c0, c1]) rfl ?_
      rw [HR2.out]
      exact ⟨none, 0, rfl, PoolAt.none _ _ ((HB4.out.setCell (by simp) _).setCell (by simp) _)⟩
  · rw [if_pos he] at hR
    have HR := Lib.hid hR
    have hne : (er != 0) = true := by simpa using he
    clear hR he HOf HI hu0
    go_enter Tryz.func54, Tryz.ntmps54
    go_wp2_with fail
    have hx := HE0.out
    (with_reducible refine hx.mono ?_)
    clear hx HE0
    rintro e u1 ⟨rfl, hb⟩
    rw [← HU0.out] at hb
    have HB1 : Hid (Below w.heap.size w u1) := Lib.hid (HB0.out.trans (hb.mono (by omega)))
    have HK1 := Lib.hid (HK0.out.below hb)
    have c0 : u1.cell? ⟨w.heap.size + 1, 0, none⟩ = some (.int .u64 0) := by rw [HK1.out.cell]; rfl
    have c1 : u1.cell? ⟨w.heap.size + 1, 1, none⟩ = some (.int .u64 0) := by rw [HK1.out.cell]; rfl
    have f0 : u1.frozen? ⟨w.heap.size + 1, 0, none⟩ = false := HK1.out.frozen 0
    have f1 : u1.frozen? ⟨w.heap.size + 1, 1, none⟩ = false := HK1.out.frozen 1
    clear hb HU0
    go_wp2_with fail
    refine bodyPost_ret (v := .tuple #[.slice none 0 0, .agg #[.int .u64 0, .int .u64 0], .int .i64 er]) (by simp [results, Tryz.results54, go_sem, c0, c1]) rfl ?_
    rw [HR.out]
    exact ⟨none, 0, rfl, PoolAt.none _ _ ((HB1.out.setCell (by simp) _).setCell (by simp) _)⟩

end Go.Proofs.YtdedfkljaeloiaaGreatDoor

/- pool.Add, pool.Check. -/
namespace Go.Proofs.YtdedfkljaeloiaaGreatDoor
open Go.RowKit Go.Shelf
set_option linter.unusedVariables false

def addS (xs : List Itm) (x : Itm) : List Itm × Int := if chkI x ≠ 0 then ([], chkI x) else insS xs x
def prevD : Option (Int × Int) → Int × Int → Bool
  | none, _ => false
  | some q, d => decide (cmpD d q ≤ 0)
/-- The first error of items behind a digest. -/
def chkGo : Option (Int × Int) → List Itm → Int
  | _, [] => 0
  | p, x :: r => if chkI x ≠ 0 then chkI x else if prevD p x.d = true then 10 else chkGo (some x.d) r
def checkP (xs : List Itm) : Int := chkGo none xs
def prevP (xs : List Itm) : Nat → Option (Int × Int)
  | 0 => none
  | k + 1 => (xs[k]?).map (·.d)
def CR (xs : List Itm) (k : Nat) : Prop := checkP xs = chkGo (prevP xs k) (xs.drop k)
theorem CR.start (xs : List Itm) : CR xs 0 := rfl
theorem CR.step {xs : List Itm} {k : Nat} (h : CR xs k) (hk : k < xs.length) : checkP xs = if chkI xs[k] ≠ 0 then chkI xs[k] else if prevD (prevP xs k) xs[k].d = true then 10 else chkGo (prevP xs (k + 1)) (xs.drop (k + 1)) := by
  unfold CR at h
  have e : prevP xs (k + 1) = some xs[k].d := by rw [prevP, List.getElem?_eq_getElem hk]; rfl
  rw [h, List.drop_eq_getElem_cons hk, chkGo, e]
theorem CR.fin {xs : List Itm} {k : Nat} (h : CR xs k) (hk : xs.length ≤ k) : checkP xs = 0 := by
  unfold CR at h
  rw [h, List.drop_of_length_le hk]
  cases prevP xs k <;> rfl

end Go.Proofs.YtdedfkljaeloiaaGreatDoor
