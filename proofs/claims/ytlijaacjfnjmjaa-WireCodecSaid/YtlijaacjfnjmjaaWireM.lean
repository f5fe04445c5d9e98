/- wire.valid and the reference's fits and check, for every kind of message. -/
import Derived.Test.YtlijaacjfnjmjaaWireG
namespace Go.Proofs.Ytlijaacjfnjmjaa
open Go.RowKit
set_option linter.unusedVariables false

/-- Whether a message is valid, its id in range. -/
def vM (kind off tot : Int) (nd n : Nat) : Bool :=
  if kind = 1 then decide (nd ≤ 1000 ∧ 0 ≤ off ∧ off ≤ nd ∧ tot = 0 ∧ n = 0)
  else if kind = 2 then v2 off tot nd n
  else if kind = 3 then decide (1 ≤ tot ∧ tot ≤ 1048576 ∧ 0 ≤ off ∧ off ≤ 1048576 - tot ∧ nd = 0 ∧ n = 0)
  else if kind = 4 then decide (off = 0 ∧ tot = 0 ∧ nd = 0 ∧ n = 0)
  else false

theorem vM1 {off tot : Int} {nd n : Nat} {b : Bool} (hb : b = true ↔ (nd ≤ 1000 ∧ 0 ≤ off ∧ off ≤ nd ∧ tot = 0 ∧ n = 0)) : b = vM 1 off tot nd n := by
  unfold vM; rw [if_pos rfl, Bool.eq_iff_iff, hb, decide_eq_true_iff]
theorem vM2 {off tot : Int} {nd n : Nat} {b : Bool} (hb : b = true ↔ (1 ≤ n ∧ n ≤ 65536 ∧ 1 ≤ tot ∧ tot ≤ 1048576 ∧ 0 ≤ off ∧ off ≤ tot - n ∧ nd = 0)) : b = vM 2 off tot nd n := by
  unfold vM v2; rw [if_neg (by decide), if_pos rfl, Bool.eq_iff_iff, hb, decide_eq_true_iff]
theorem vM3 {off tot : Int} {nd n : Nat} {b : Bool} (hb : b = true ↔ (1 ≤ tot ∧ tot ≤ 1048576 ∧ 0 ≤ off ∧ off ≤ 1048576 - tot ∧ nd = 0 ∧ n = 0)) : b = vM 3 off tot nd n := by
  unfold vM; rw [if_neg (by decide), if_neg (by decide), if_pos rfl, Bool.eq_iff_iff, hb, decide_eq_true_iff]
theorem vM4 {off tot : Int} {nd n : Nat} {b : Bool} (hb : b = true ↔ (off = 0 ∧ tot = 0 ∧ nd = 0 ∧ n = 0)) : b = vM 4 off tot nd n := by
  unfold vM; rw [if_neg (by decide), if_neg (by decide), if_neg (by decide), if_pos rfl, Bool.eq_iff_iff, hb, decide_eq_true_iff]
set_option maxRecDepth 100000 in
set_option maxHeartbeats 1000000 in
theorem fits1 (id off tot : Int) (a : Option Addr) (nd cd : Nat) (T : List UInt8) (w : World) (hs : (T.length : Int) ≤ 140737488355328) (hnd : (nd : Int) ≤ 140737488355328) :
    Calls Try.prog 53 #[.agg #[.int .i64 1, .int .i64 id, .int .i64 off, .int .i64 tot, .slice a nd cd, .string ⟨T.toArray⟩]] w fun e w' => e = .returned (.bool (vM 1 off tot nd T.length)) ∧ Below w.heap.size w w' := by
  by_cases hT : T = []
  · subst hT
    by_cases hn : nd = 0
    · subst hn
      go_enter Try.func53, Try.ntmps53
      go_wp2
      all_goals
        go_ret
        refine ⟨ret_bool (vM1 ?_), (Below.refl _ w).alloc (Nat.le_refl _) _⟩
        first | omega | (simp; done) | (simp; omega)
    · have hn1 : (0 : Int) < nd := by omega
      have hn2 : decide (0 < nd) = true := by simp; omega
      have hn3 : (nd == 0) = false := by simpa using hn
      clear hn
      go_enter Try.func53, Try.ntmps53
      go_wp2
      all_goals
        go_ret
        refine ⟨ret_bool (vM1 ?_), (Below.refl _ w).alloc (Nat.le_refl _) _⟩
        first | omega | (simp; done) | (simp; omega)
  · have HT0 := Lib.hid hT
    have hT1 : T.isEmpty = false := by simpa using hT
    have hT2 : 1 ≤ T.length := List.length_pos_iff.2 hT
    clear hT
    by_cases hn : nd = 0
    · subst hn
      go_enter Try.func53, Try.ntmps53
      go_wp2
      all_goals
        go_ret
        refine ⟨ret_bool (vM1 ?_), (Below.refl _ w).alloc (Nat.le_refl _) _⟩
        have hT9 := HT0.out
        first | omega | (simp [hT9]; done) | (simp [hT9]; omega) | (simp; done) | (simp; omega)
    · have hn1 : (0 : Int) < nd := by omega
      have hn2 : decide (0 < nd) = true := by simp; omega
      have hn3 : (nd == 0) = false := by simpa using hn
      clear hn
      go_enter Try.func53, Try.ntmps53
      go_wp2
      all_goals
        go_ret
        refine ⟨ret_bool (vM1 ?_), (Below.refl _ w).alloc (Nat.le_refl _) _⟩
        have hT9 := HT0.out
        first | omega | (simp [hT9]; done) | (simp [hT9]; omega) | (simp; done) | (simp; omega)

set_option maxRecDepth 100000 in
set_option maxHeartbeats 1000000 in
theorem fits2 (id off tot : Int) (a : Option Addr) (nd cd : Nat) (T : List UInt8) (w : World) (hs : (T.length : Int) ≤ 140737488355328) (hnd : (nd : Int) ≤ 140737488355328) :
    Calls Try.prog 53 #[.agg #[.int .i64 2, .int .i64 id, .int .i64 off, .int .i64 tot, .slice a nd cd, .string ⟨T.toArray⟩]] w fun e w' => e = .returned (.bool (vM 2 off tot nd T.length)) ∧ Below w.heap.size w w' := by
  by_cases hT : T = []
  · subst hT
    by_cases hn : nd = 0
    · subst hn
      go_enter Try.func53, Try.ntmps53
      go_wp2
      all_goals
        go_ret
        refine ⟨ret_bool (vM2 ?_), (Below.refl _ w).alloc (Nat.le_refl _) _⟩
        first | omega | (simp; done) | (simp; omega)
    · have hn1 : (0 : Int) < nd := by omega
      have hn2 : decide (0 < nd) = true := by simp; omega
      have hn3 : (nd == 0) = false := by simpa using hn
      clear hn
      go_enter Try.func53, Try.ntmps53
      go_wp2
      all_goals
        go_ret
        refine ⟨ret_bool (vM2 ?_), (Below.refl _ w).alloc (Nat.le_refl _) _⟩
        first | omega | (simp; done) | (simp; omega)
  · have HT0 := Lib.hid hT
    have hT1 : T.isEmpty = false := by simpa using hT
    have hT2 : 1 ≤ T.length := List.length_pos_iff.2 hT
    clear hT
    by_cases hn : nd = 0
    · subst hn
      go_enter Try.func53, Try.ntmps53
      go_wp2
      all_goals
        go_ret
        refine ⟨ret_bool (vM2 ?_), (Below.refl _ w).alloc (Nat.le_refl _) _⟩
        first | omega | (simp; done) | (simp; omega)
    · have hn1 : (0 : Int) < nd := by omega
      have hn2 : decide (0 < nd) = true := by simp; omega
      have hn3 : (nd == 0) = false := by simpa using hn
      clear hn
      go_enter Try.func53, Try.ntmps53
      go_wp2
      all_goals
        go_ret
        refine ⟨ret_bool (vM2 ?_), (Below.refl _ w).alloc (Nat.le_refl _) _⟩
        first | omega | (simp; done) | (simp; omega)

set_option maxRecDepth 100000 in
set_option maxHeartbeats 1000000 in
theorem fits3 (id off tot : Int) (a : Option Addr) (nd cd : Nat) (T : List UInt8) (w : World) (hs : (T.length : Int) ≤ 140737488355328) (hnd : (nd : Int) ≤ 140737488355328) :
    Calls Try.prog 53 #[.agg #[.int .i64 3, .int .i64 id, .int .i64 off, .int .i64 tot, .slice a nd cd, .string ⟨T.toArray⟩]] w fun e w' => e = .returned (.bool (vM 3 off tot nd T.length)) ∧ Below w.heap.size w w' := by
  by_cases hT : T = []
  · subst hT
    by_cases hn : nd = 0
    · subst hn
      go_enter Try.func53, Try.ntmps53
      go_wp2
      all_goals
        go_ret
        refine ⟨ret_bool (vM3 ?_), (Below.refl _ w).alloc (Nat.le_refl _) _⟩
        first | omega | (simp; done) | (simp; omega)
    · have hn1 : (0 : Int) < nd := by omega
      have hn2 : decide (0 < nd) = true := by simp; omega
      have hn3 : (nd == 0) = false := by simpa using hn
      clear hn
      go_enter Try.func53, Try.ntmps53
      go_wp2
      all_goals
        go_ret
        refine ⟨ret_bool (vM3 ?_), (Below.refl _ w).alloc (Nat.le_refl _) _⟩
        first | omega | (simp; done) | (simp; omega)
  · have HT0 := Lib.hid hT
    have hT1 : T.isEmpty = false := by simpa using hT
    have hT2 : 1 ≤ T.length := List.length_pos_iff.2 hT
    clear hT
    by_cases hn : nd = 0
    · subst hn
      go_enter Try.func53, Try.ntmps53
      go_wp2
      all_goals
        go_ret
        refine ⟨ret_bool (vM3 ?_), (Below.refl _ w).alloc (Nat.le_refl _) _⟩
        have hT9 := HT0.out
        first | omega | (simp [hT9]; done) | (simp [hT9]; omega) | (simp; done) | (simp; omega)
    · have hn1 : (0 : Int) < nd := by omega
      have hn2 : decide (0 < nd) = true := by simp; omega
      have hn3 : (nd == 0) = false := by simpa using hn
      clear hn
      go_enter Try.func53, Try.ntmps53
      go_wp2
      all_goals
        go_ret
        refine ⟨ret_bool (vM3 ?_), (Below.refl _ w).alloc (Nat.le_refl _) _⟩
        have hT9 := HT0.out
        first | omega | (simp [hT9]; done) | (simp [hT9]; omega) | (simp; done) | (simp; omega)

set_option maxRecDepth 100000 in
set_option maxHeartbeats 1000000 in
theorem fits4 (id off tot : Int) (a : Option Addr) (nd cd : Nat) (T : List UInt8) (w : World) (hs : (T.length : Int) ≤ 140737488355328) (hnd : (nd : Int) ≤ 140737488355328) :
    Calls Try.prog 53 #[.agg #[.int .i64 4, .int .i64 id, .int .i64 off, .int .i64 tot, .slice a nd cd, .string ⟨T.toArray⟩]] w fun e w' => e = .returned (.bool (vM 4 off tot nd T.length)) ∧ Below w.heap.size w w' := by
  by_cases hT : T = []
  · subst hT
    by_cases hn : nd = 0
    · subst hn
      go_enter Try.func53, Try.ntmps53
      go_wp2
      all_goals
        go_ret
        refine ⟨ret_bool (vM4 ?_), (Below.refl _ w).alloc (Nat.le_refl _) _⟩
        first | omega | (simp; done) | (simp; omega)
    · have hn1 : (0 : Int) < nd := by omega
      have hn2 : decide (0 < nd) = true := by simp; omega
      have hn3 : (nd == 0) = false := by simpa using hn
      clear hn
      go_enter Try.func53, Try.ntmps53
      go_wp2
      all_goals
        go_ret
        refine ⟨ret_bool (vM4 ?_), (Below.refl _ w).alloc (Nat.le_refl _) _⟩
        first | omega | (simp; done) | (simp; omega)
  · have HT0 := Lib.hid hT
    have hT1 : T.isEmpty = false := by simpa using hT
    have hT2 : 1 ≤ T.length := List.length_pos_iff.2 hT
    clear hT
    by_cases hn : nd = 0
    · subst hn
      go_enter Try.func53, Try.ntmps53
      go_wp2
      all_goals
        go_ret
        refine ⟨ret_bool (vM4 ?_), (Below.refl _ w).alloc (Nat.le_refl _) _⟩
        have hT9 := HT0.out
        first | omega | (simp [hT9]; done) | (simp [hT9]; omega) | (simp; done) | (simp; omega)
    · have hn1 : (0 : Int) < nd := by omega
      have hn2 : decide (0 < nd) = true := by simp; omega
      have hn3 : (nd == 0) = false := by simpa using hn
      clear hn
      go_enter Try.func53, Try.ntmps53
      go_wp2
      all_goals
        go_ret
        refine ⟨ret_bool (vM4 ?_), (Below.refl _ w).alloc (Nat.le_refl _) _⟩
        have hT9 := HT0.out
        first | omega | (simp [hT9]; done) | (simp [hT9]; omega) | (simp; done) | (simp; omega)

set_option maxRecDepth 100000 in
set_option maxHeartbeats 1000000 in
theorem wvalid1 (id off tot : Int) (a : Option Addr) (nd cd : Nat) (T : List UInt8) (w : World) (hs : (T.length : Int) ≤ 140737488355328) (hnd : (nd : Int) ≤ 140737488355328) (hid0 : 0 ≤ id) (hid1 : id ≤ 1099511627776) :
    Calls Try.prog 32 #[.agg #[.int .i64 1, .int .i64 id, .int .i64 off, .int .i64 tot, .slice a nd cd, .string ⟨T.toArray⟩]] w fun e w' => e = .returned (.bool (vM 1 off tot nd T.length)) ∧ Below w.heap.size w w' := by
  by_cases hT : T = []
  · subst hT
    by_cases hn : nd = 0
    · subst hn
      go_enter Try.func32, Try.ntmps32
      go_wp2
      all_goals
        go_ret
        refine ⟨ret_bool (vM1 ?_), (Below.refl _ w).alloc (Nat.le_refl _) _⟩
        first | omega | (simp; done) | (simp; omega)
    · have hn1 : (0 : Int) < nd := by omega
      have hn2 : decide (0 < nd) = true := by simp; omega
      have hn3 : (nd == 0) = false := by simpa using hn
      clear hn
      go_enter Try.func32, Try.ntmps32
      go_wp2
      all_goals
        go_ret
        refine ⟨ret_bool (vM1 ?_), (Below.refl _ w).alloc (Nat.le_refl _) _⟩
        first | omega | (simp; done) | (simp; omega)
  · have HT0 := Lib.hid hT
    have hT1 : T.isEmpty = false := by simpa using hT
    have hT2 : 1 ≤ T.length := List.length_pos_iff.2 hT
    clear hT
    by_cases hn : nd = 0
    · subst hn
      go_enter Try.func32, Try.ntmps32
      go_wp2
      all_goals
        go_ret
        refine ⟨ret_bool (vM1 ?_), (Below.refl _ w).alloc (Nat.le_refl _) _⟩
        have hT9 := HT0.out
        first | omega | (simp [hT9]; done) | (simp [hT9]; omega) | (simp; done) | (simp; omega)
    · have hn1 : (0 : Int) < nd := by omega
      have hn2 : decide (0 < nd) = true := by simp; omega
      have hn3 : (nd == 0) = false := by simpa using hn
      clear hn
      go_enter Try.func32, Try.ntmps32
      go_wp2
      all_goals
        go_ret
        refine ⟨ret_bool (vM1 ?_), (Below.refl _ w).alloc (Nat.le_refl _) _⟩
        have hT9 := HT0.out
        first | omega | (simp [hT9]; done) | (simp [hT9]; omega) | (simp; done) | (simp; omega)

set_option maxRecDepth 100000 in
set_option maxHeartbeats 1000000 in
theorem wvalid2 (id off tot : Int) (a : Option Addr) (nd cd : Nat) (T : List UInt8) (w : World) (hs : (T.length : Int) ≤ 140737488355328) (hnd : (nd : Int) ≤ 140737488355328) (hid0 : 0 ≤ id) (hid1 : id ≤ 1099511627776) :
    Calls Try.prog 32 #[.agg #[.int .i64 2, .int .i64 id, .int .i64 off, .int .i64 tot, .slice a nd cd, .string ⟨T.toArray⟩]] w fun e w' => e = .returned (.bool (vM 2 off tot nd T.length)) ∧ Below w.heap.size w w' := by
  by_cases hT : T = []
  · subst hT
    by_cases hn : nd = 0
    · subst hn
      go_enter Try.func32, Try.ntmps32
      go_wp2
      all_goals
        go_ret
        refine ⟨ret_bool (vM2 ?_), (Below.refl _ w).alloc (Nat.le_refl _) _⟩
        first | omega | (simp; done) | (simp; omega)
    · have hn1 : (0 : Int) < nd := by omega
      have hn2 : decide (0 < nd) = true := by simp; omega
      have hn3 : (nd == 0) = false := by simpa using hn
      clear hn
      go_enter Try.func32, Try.ntmps32
      go_wp2
      all_goals
        go_ret
        refine ⟨ret_bool (vM2 ?_), (Below.refl _ w).alloc (Nat.le_refl _) _⟩
        first | omega | (simp; done) | (simp; omega)
  · have HT0 := Lib.hid hT
    have hT1 : T.isEmpty = false := by simpa using hT
    have hT2 : 1 ≤ T.length := List.length_pos_iff.2 hT
    clear hT
    by_cases hn : nd = 0
    · subst hn
      go_enter Try.func32, Try.ntmps32
      go_wp2
      all_goals
        go_ret
        refine ⟨ret_bool (vM2 ?_), (Below.refl _ w).alloc (Nat.le_refl _) _⟩
        first | omega | (simp; done) | (simp; omega)
    · have hn1 : (0 : Int) < nd := by omega
      have hn2 : decide (0 < nd) = true := by simp; omega
      have hn3 : (nd == 0) = false := by simpa using hn
      clear hn
      go_enter Try.func32, Try.ntmps32
      go_wp2
      all_goals
        go_ret
        refine ⟨ret_bool (vM2 ?_), (Below.refl _ w).alloc (Nat.le_refl _) _⟩
        first | omega | (simp; done) | (simp; omega)

set_option maxRecDepth 100000 in
set_option maxHeartbeats 1000000 in
theorem wvalid3 (id off tot : Int) (a : Option Addr) (nd cd : Nat) (T : List UInt8) (w : World) (hs : (T.length : Int) ≤ 140737488355328) (hnd : (nd : Int) ≤ 140737488355328) (hid0 : 0 ≤ id) (hid1 : id ≤ 1099511627776) :
    Calls Try.prog 32 #[.agg #[.int .i64 3, .int .i64 id, .int .i64 off, .int .i64 tot, .slice a nd cd, .string ⟨T.toArray⟩]] w fun e w' => e = .returned (.bool (vM 3 off tot nd T.length)) ∧ Below w.heap.size w w' := by
  by_cases hT : T = []
  · subst hT
    by_cases hn : nd = 0
    · subst hn
      go_enter Try.func32, Try.ntmps32
      go_wp2
      all_goals
        go_ret
        refine ⟨ret_bool (vM3 ?_), (Below.refl _ w).alloc (Nat.le_refl _) _⟩
        first | omega | (simp; done) | (simp; omega)
    · have hn1 : (0 : Int) < nd := by omega
      have hn2 : decide (0 < nd) = true := by simp; omega
      have hn3 : (nd == 0) = false := by simpa using hn
      clear hn
      go_enter Try.func32, Try.ntmps32
      go_wp2
      all_goals
        go_ret
        refine ⟨ret_bool (vM3 ?_), (Below.refl _ w).alloc (Nat.le_refl _) _⟩
        first | omega | (simp; done) | (simp; omega)
  · have HT0 := Lib.hid hT
    have hT1 : T.isEmpty = false := by simpa using hT
    have hT2 : 1 ≤ T.length := List.length_pos_iff.2 hT
    clear hT
    by_cases hn : nd = 0
    · subst hn
      go_enter Try.func32, Try.ntmps32
      go_wp2
      all_goals
        go_ret
        refine ⟨ret_bool (vM3 ?_), (Below.refl _ w).alloc (Nat.le_refl _) _⟩
        have hT9 := HT0.out
        first | omega | (simp [hT9]; done) | (simp [hT9]; omega) | (simp; done) | (simp; omega)
    · have hn1 : (0 : Int) < nd := by omega
      have hn2 : decide (0 < nd) = true := by simp; omega
      have hn3 : (nd == 0) = false := by simpa using hn
      clear hn
      go_enter Try.func32, Try.ntmps32
      go_wp2
      all_goals
        go_ret
        refine ⟨ret_bool (vM3 ?_), (Below.refl _ w).alloc (Nat.le_refl _) _⟩
        have hT9 := HT0.out
        first | omega | (simp [hT9]; done) | (simp [hT9]; omega) | (simp; done) | (simp; omega)

set_option maxRecDepth 100000 in
set_option maxHeartbeats 1000000 in
theorem wvalid4 (id off tot : Int) (a : Option Addr) (nd cd : Nat) (T : List UInt8) (w : World) (hs : (T.length : Int) ≤ 140737488355328) (hnd : (nd : Int) ≤ 140737488355328) (hid0 : 0 ≤ id) (hid1 : id ≤ 1099511627776) :
    Calls Try.prog 32 #[.agg #[.int .i64 4, .int .i64 id, .int .i64 off, .int .i64 tot, .slice a nd cd, .string ⟨T.toArray⟩]] w fun e w' => e = .returned (.bool (vM 4 off tot nd T.length)) ∧ Below w.heap.size w w' := by
  by_cases hT : T = []
  · subst hT
    by_cases hn : nd = 0
    · subst hn
      go_enter Try.func32, Try.ntmps32
      go_wp2
      all_goals
        go_ret
        refine ⟨ret_bool (vM4 ?_), (Below.refl _ w).alloc (Nat.le_refl _) _⟩
        first | omega | (simp; done) | (simp; omega)
    · have hn1 : (0 : Int) < nd := by omega
      have hn2 : decide (0 < nd) = true := by simp; omega
      have hn3 : (nd == 0) = false := by simpa using hn
      clear hn
      go_enter Try.func32, Try.ntmps32
      go_wp2
      all_goals
        go_ret
        refine ⟨ret_bool (vM4 ?_), (Below.refl _ w).alloc (Nat.le_refl _) _⟩
        first | omega | (simp; done) | (simp; omega)
  · have HT0 := Lib.hid hT
    have hT1 : T.isEmpty = false := by simpa using hT
    have hT2 : 1 ≤ T.length := List.length_pos_iff.2 hT
    clear hT
    by_cases hn : nd = 0
    · subst hn
      go_enter Try.func32, Try.ntmps32
      go_wp2
      all_goals
        go_ret
        refine ⟨ret_bool (vM4 ?_), (Below.refl _ w).alloc (Nat.le_refl _) _⟩
        have hT9 := HT0.out
        first | omega | (simp [hT9]; done) | (simp [hT9]; omega) | (simp; done) | (simp; omega)
    · have hn1 : (0 : Int) < nd := by omega
      have hn2 : decide (0 < nd) = true := by simp; omega
      have hn3 : (nd == 0) = false := by simpa using hn
      clear hn
      go_enter Try.func32, Try.ntmps32
      go_wp2
      all_goals
        go_ret
        refine ⟨ret_bool (vM4 ?_), (Below.refl _ w).alloc (Nat.le_refl _) _⟩
        have hT9 := HT0.out
        first | omega | (simp [hT9]; done) | (simp [hT9]; omega) | (simp; done) | (simp; omega)

theorem fits_any (kind id off tot : Int) (a : Option Addr) (nd cd : Nat) (T : List UInt8) (w : World) (hs : (T.length : Int) ≤ 140737488355328) (hnd : (nd : Int) ≤ 140737488355328) (h1 : 1 ≤ kind) (h4 : kind ≤ 4) :
    Calls Try.prog 53 #[.agg #[.int .i64 kind, .int .i64 id, .int .i64 off, .int .i64 tot, .slice a nd cd, .string ⟨T.toArray⟩]] w fun e w' => e = .returned (.bool (vM kind off tot nd T.length)) ∧ Below w.heap.size w w' := by
  obtain rfl | rfl | rfl | rfl : kind = 1 ∨ kind = 2 ∨ kind = 3 ∨ kind = 4 := by omega
  · exact fits1 id off tot a nd cd T w hs hnd
  · exact fits2 id off tot a nd cd T w hs hnd
  · exact fits3 id off tot a nd cd T w hs hnd
  · exact fits4 id off tot a nd cd T w hs hnd
theorem wvalid_any (kind id off tot : Int) (a : Option Addr) (nd cd : Nat) (T : List UInt8) (w : World) (hs : (T.length : Int) ≤ 140737488355328) (hnd : (nd : Int) ≤ 140737488355328) (hid0 : 0 ≤ id) (hid1 : id ≤ 1099511627776) (h1 : 1 ≤ kind) (h4 : kind ≤ 4) :
    Calls Try.prog 32 #[.agg #[.int .i64 kind, .int .i64 id, .int .i64 off, .int .i64 tot, .slice a nd cd, .string ⟨T.toArray⟩]] w fun e w' => e = .returned (.bool (vM kind off tot nd T.length)) ∧ Below w.heap.size w w' := by
  obtain rfl | rfl | rfl | rfl : kind = 1 ∨ kind = 2 ∨ kind = 3 ∨ kind = 4 := by omega
  · exact wvalid1 id off tot a nd cd T w hs hnd hid0 hid1
  · exact wvalid2 id off tot a nd cd T w hs hnd hid0 hid1
  · exact wvalid3 id off tot a nd cd T w hs hnd hid0 hid1
  · exact wvalid4 id off tot a nd cd T w hs hnd hid0 hid1

/-- Why a message is not valid. -/
def whyM (kind id off tot : Int) (nd n : Nat) : Int :=
  if kind < 1 ∨ 4 < kind then 9 else if id < 0 ∨ 1099511627776 < id then 2 else if vM kind off tot nd n = false then 1 else 0

set_option maxHeartbeats 1000000 in
theorem check_any (kind id off tot : Int) (a : Option Addr) (nd cd : Nat) (T : List UInt8) (w : World) (hs : (T.length : Int) ≤ 140737488355328) (hnd : (nd : Int) ≤ 140737488355328) :
    Calls Try.prog 35 #[.agg #[.int .i64 kind, .int .i64 id, .int .i64 off, .int .i64 tot, .slice a nd cd, .string ⟨T.toArray⟩]] w fun e w' => e = .returned (.int .i64 (whyM kind id off tot nd T.length)) ∧ Below w.heap.size w w' := by
  obtain ⟨R, hR⟩ : ∃ R, R = whyM kind id off tot nd T.length := ⟨_, rfl⟩
  rw [← hR]
  unfold whyM at hR
  by_cases hk : kind < 1 ∨ 4 < kind
  · rw [if_pos hk] at hR
    subst hR
    go_enter Try.func35, Try.ntmps35
    go_wp2_with fail
    all_goals first
      | (exfalso; omega)
      | (go_ret; exact ⟨rfl, (Below.refl _ w).alloc (Nat.le_refl _) _⟩)
  · rw [if_neg hk] at hR
    have k1 : decide (kind < 1) = false := by simp; omega
    have k2 : decide (4 < kind) = false := by simp; omega
    have k3 : 1 ≤ kind := by omega
    have k4 : kind ≤ 4 := by omega
    clear hk
    by_cases hi : id < 0 ∨ 1099511627776 < id
    · rw [if_pos hi] at hR
      subst hR
      go_enter Try.func35, Try.ntmps35
      go_wp2_with fail
      all_goals first
        | (exfalso; omega)
        | (go_ret; exact ⟨rfl, (Below.refl _ w).alloc (Nat.le_refl _) _⟩)
    · rw [if_neg hi] at hR
      have i1 : decide (id < 0) = false := by simp; omega
      have i2 : decide (1099511627776 < id) = false := by simp; omega
      clear hi
      have HF := Lib.hid (fun w => fits_any kind id off tot a nd cd T w hs hnd k3 k4)
      by_cases hv : vM kind off tot nd T.length = false
      · rw [if_pos hv] at hR
        rw [hv] at HF
        subst hR
        clear hv k3 k4
        go_enter Try.func35, Try.ntmps35
        go_wp2_with fail
        refine (HF.out _).mono ?_
        rintro e w' ⟨rfl, hb⟩
        have HB := Lib.hid hb
        clear hb
        go_wp2_with fail
        go_ret
        exact ⟨rfl, ((Below.refl _ w).alloc (Nat.le_refl _) _).trans (HB.out.mono (by simp))⟩
      · rw [if_neg hv] at hR
        have hv' : vM kind off tot nd T.length = true := by simpa using hv
        rw [hv'] at HF
        subst hR
        clear hv hv' k3 k4
        go_enter Try.func35, Try.ntmps35
        go_wp2_with fail
        refine (HF.out _).mono ?_
        rintro e w' ⟨rfl, hb⟩
        have HB := Lib.hid hb
        clear hb
        go_wp2_with fail
        go_ret
        exact ⟨rfl, ((Below.refl _ w).alloc (Nat.le_refl _) _).trans (HB.out.mono (by simp))⟩

end Go.Proofs.Ytlijaacjfnjmjaa
