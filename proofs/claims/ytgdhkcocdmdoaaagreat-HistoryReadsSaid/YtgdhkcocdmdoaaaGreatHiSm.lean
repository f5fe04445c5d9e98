/- The reference's Same at digests. -/
import Derived.Test.YtgdhkcocdmdoaaaGreatHiPo
namespace Go.Proofs.YtgdhkcocdmdoaaaGreat
open Go.RowKit
set_option linter.unusedVariables false

set_option maxHeartbeats 1000000 in
theorem dsame (a b : Option Addr) (ds es : List (Int × Int)) (ca cb : Nat) (w : World) (ha : Digs w.heap.size w a ds) (hb : Digs w.heap.size w b es) (hn : (ds.length : Int) ≤ 140737488355328) :
    Calls Tryz.prog 44 #[.slice a ds.length ca, .slice b es.length cb] w fun e w' => e = .returned (.bool (decide (ds = es))) ∧ ∃ q, w' = w.drewN q := by
  obtain ⟨n, hnn⟩ : ∃ n, n = ds.length := ⟨_, rfl⟩
  obtain ⟨m, hmm⟩ : ∃ m, m = es.length := ⟨_, rfl⟩
  obtain ⟨R, hR⟩ : ∃ R : Bool, R = decide (ds = es) := ⟨_, rfl⟩
  rw [← hnn] at hn
  rw [← hnn, ← hmm, ← hR]
  have HN := Lib.hid hnn
  have HM := Lib.hid hmm
  have HR := Lib.hid hR
  have HA := Lib.hid ha
  have HB := Lib.hid hb
  clear hnn hmm hR ha hb
  by_cases hnm : n = m
  · subst hnm
    have t0 : ((n : Int) != (n : Int)) = false := by simp
    go_enter Tryz.func44, Tryz.ntmps44
    go_wp2_with fail
    go_loopw [5] (fun i wr => ∃ k q : Nat, k ≤ n ∧ i = .int .i64 k ∧ wr = w.drewN q ∧ ds.take k = es.take k) (fun i _ => n - (intOf i).toNat)
    case atStart => exact ⟨0, 0, by omega, rfl, rfl, rfl⟩
    case round =>
      obtain ⟨k, q, hk, rfl, rfl, hrel⟩ := hrel
      have HT := Lib.hid hrel
      clear hrel
      by_cases hlt : k < n
      · have h1 : k < ds.length := by rw [← HN.out]; exact hlt
        have h2 : k < es.length := by rw [← HM.out]; exact hlt
        obtain ⟨b1, o1, rfl, _, c1, c2⟩ := HA.out k h1
        obtain ⟨b2, o2, rfl, _, c3, c4⟩ := HB.out k h2
        obtain ⟨x, hx⟩ : ∃ x, x = ds[k].1 := ⟨_, rfl⟩
        obtain ⟨y, hy⟩ : ∃ y, y = ds[k].2 := ⟨_, rfl⟩
        obtain ⟨x', hx'⟩ : ∃ x, x = es[k].1 := ⟨_, rfl⟩
        obtain ⟨y', hy'⟩ : ∃ y, y = es[k].2 := ⟨_, rfl⟩
        rw [← hx] at c1
        rw [← hy] at c2
        rw [← hx'] at c3
        rw [← hy'] at c4
        have HE : Hid (ds[k] = es[k] ↔ x = x' ∧ y = y') := Lib.hid (by rw [hx, hy, hx', hy', Prod.ext_iff])
        clear hx hy hx' hy'
        have hq := fun W => neq_dig x y x' y' W
        by_cases he : x = x' ∧ y = y'
        · have hv : (!(x == x' && y == y')) = false := by simp [he.1, he.2]
          have HT2 := Lib.hid (take_eq_step HT.out h1 h2 (HE.out.2 he))
          rw [hv] at hq
          clear he hv HT HE
          go_wp2_with fail
          go_quiet (fail)
          go_wp2_with fail
          go_roundw
          case rel => exact ⟨k + 1, _, by omega, by go_num, by first | rfl | (simp only [World.drewN_drewN]; rfl), HT2.out⟩
          case measure => simp [intOf]; omega
        · have hv : (!(x == x' && y == y')) = true := by
            by_cases h4 : x = x' <;> by_cases h5 : y = y' <;> simp [h4, h5] at he ⊢
          have HF : Hid (R = false) := Lib.hid (by
            rw [HR.out, decide_eq_false_iff_not]
            intro h
            subst h
            exact he (HE.out.1 rfl))
          rw [hv] at hq
          clear he hv HT HE
          go_wp2_with fail
          go_quiet (fail)
          go_wp2_with fail
          go_ret
          exact ⟨by rw [HF.out]; rfl, _, by first | rfl | (simp only [World.drewN_drewN]; rfl)⟩
      · have HF : Hid (R = true) := Lib.hid (by
          rw [HR.out, decide_eq_true_iff]
          have := HT.out
          rwa [List.take_of_length_le (by rw [← HN.out]; omega), List.take_of_length_le (by rw [← HM.out]; omega)] at this)
        go_wp2_with fail
        go_ret
        exact ⟨by rw [HF.out]; rfl, _, rfl⟩
  · have t0 : ((n : Int) != (m : Int)) = true := by simp; omega
    have HF : Hid (R = false) := Lib.hid (by
      rw [HR.out, decide_eq_false_iff_not]
      intro h
      exact hnm (by rw [HN.out, HM.out, h]))
    clear hnm
    go_enter Tryz.func44, Tryz.ntmps44
    go_wp2_with fail
    go_ret
    exact ⟨by rw [HF.out]; rfl, 0, rfl⟩

theorem same13_any (a b : Option Addr) (ds es : List (Int × Int)) (ca cb : Nat) (w : World) (ha : Digs w.heap.size w a ds) (hb : Digs w.heap.size w b es) (hn : (ds.length : Int) ≤ 140737488355328) :
    Calls Tryz.prog 20 #[.slice a ds.length ca, .slice b es.length cb] w fun e w' => e = .returned (.bool (decide (ds = es))) ∧ Below w.heap.size w w' := by
  have HS := Lib.hid (dsame a b ds es ca cb w ha hb hn)
  generalize decide (ds = es) = R at HS ⊢
  generalize ds.length = n at HS ⊢
  generalize es.length = m at HS ⊢
  clear ha hb hn
  go_enter Tryz.func20, Tryz.ntmps20
  go_wp2_with fail
  (with_reducible refine (HS.out).mono ?_)
  rintro e u ⟨rfl, q, rfl⟩
  go_wp2_with fail
  go_ret
  exact ⟨rfl, below_drewN (Below.refl _ w) _⟩

end Go.Proofs.YtgdhkcocdmdoaaaGreat
