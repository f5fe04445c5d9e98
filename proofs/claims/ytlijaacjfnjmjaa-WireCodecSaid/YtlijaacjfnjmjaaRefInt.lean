/- What the reference's GetInt returns: the same as codec.GetInt. -/
import Derived.Test.YtlijaacjfnjmjaaGetInt
namespace Go.Proofs.Ytlijaacjfnjmjaa
open Go.RowKit

set_option maxHeartbeats 400000 in
theorem refGetInt_any (s : ByteArray) (w : World) :
    Calls Try.prog 66 #[.string s] w fun e w' => e = T3 (Cw.getI s.data.toList) ∧ w = w' := by
  go_enter Try.func66, Try.ntmps66
  go_wp2
  go_loop [5, 6, 7] (fun n u i => ∃ (k : Nat) (a b : Int), k ≤ 6 ∧ k ≤ s.size ∧ 0 ≤ a ∧ 1 ≤ b ∧ i = .int .i64 k ∧ n = .int .i64 a ∧ u = .int .i64 b ∧ GetRel s k a b) (fun _ _ i => 6 - (intOf i).toNat)
  case atStart => exact ⟨0, 0, 1, by omega, by omega, by omega, by omega, rfl, rfl, rfl, GetRel.start s⟩
  case round =>
    obtain ⟨k, a, b, hk, hks, ha, hb, rfl, rfl, rfl, hr⟩ := hrel
    by_cases hk6 : k < 6
    · have hb2 : b ≤ 34359738368 := by rw [hr.1]; exact pow_le k hk6
      have hab := hr.2.1
      by_cases hs : k < s.size
      · obtain ⟨d, hd0, hd, hds, hidx⟩ := idx s k hs
        have HD := Lib.hid hds
        clear hds
        have hks' : ((k : Int) == (s.size : Int)) = false := by rw [beq_eq_false_iff_ne]; omega
        by_cases hc : 128 ≤ d
        · have HN := Lib.hid (hr.go hk6 hs ha HD.out hc)
          clear hr
          obtain ⟨x, rfl⟩ : ∃ x, d = x + 128 := ⟨d - 128, by omega⟩
          have hx : (x + 128) % 128 = x := by omega
          have hm2 := dmul x b (by omega) (by omega) (by omega) hb2
          rw [Int.mul_comm] at hm2
          have HM : Hid (GetRel s (k + 1) (a + b * x) (b * 128)) := by
            have := HN.out
            rw [show (x + 128 - 128) = x from by omega, Int.mul_comm x b] at this; exact this
          go_wp2
          go_round
          case rel => exact ⟨k + 1, _, _, by omega, by omega, by omega, by omega, by go_num, rfl, rfl, HM.out⟩
          case measure => simp [intOf]; omega
        · have hc' : d < 128 := by omega
          have HB := Lib.hid (fun h => T3_of (hr.bad hk6 hs HD.out hc' h))
          have HG := Lib.hid (fun h h' => T3_of (hr.good hk6 hs HD.out hc' h h'))
          clear hr
          have hm2 := dmul d b (by omega) (by omega) (by omega) hb2
          have hcm := Int.mul_comm d b
          rw [hcm] at hm2 HB HG
          clear hcm
          have hx : d % 128 = d := by omega
          by_cases hX : 1099511627776 < a + b * d
          · go_wp2
            go_ret3
            exact ⟨HB.out (.inr hX), rfl⟩
          · by_cases hk0 : 0 < k
            · by_cases hz : d = 0
              · have HB' := Lib.hid (HB.out (.inl ⟨hz, hk0⟩))
                have hz' : (d == 0) = true := by simpa using hz
                clear HB HG hz
                go_wp2
                go_ret3
                exact ⟨HB'.out, rfl⟩
              · have HG' := Lib.hid (HG.out (.inl hz) (by omega))
                have hz' : (d == 0) = false := by simpa using hz
                clear HB HG hz
                go_wp2
                go_ret3
                exact ⟨HG'.out, rfl⟩
            · have HG' := Lib.hid (HG.out (.inr (by omega)) (by omega))
              clear HB HG
              go_wp2
              go_ret3
              exact ⟨HG'.out, rfl⟩
      · have HN := Lib.hid (T3_of (hr.short hk6 (by omega)))
        have hks' : ((k : Int) == (s.size : Int)) = true := by rw [beq_iff_eq]; omega
        clear hr
        go_wp2
        go_ret3
        exact ⟨HN.out, rfl⟩
    · obtain rfl : k = 6 := by omega
      have HN := Lib.hid (T3_of hr.out)
      clear hr
      go_wp2
      go_ret3
      exact ⟨HN.out, rfl⟩

end Go.Proofs.Ytlijaacjfnjmjaa
