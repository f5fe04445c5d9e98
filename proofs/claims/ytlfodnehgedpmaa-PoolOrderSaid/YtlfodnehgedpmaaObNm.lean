/- objectname.letter, objectname.Valid; the reference's ValidName. -/
import Derived.Test.YtlfodnehgedpmaaObPl
namespace Go.Proofs.Ytlfodnehgedpmaa
open Go.RowKit
set_option linter.unusedVariables false

set_option maxHeartbeats 1000000 in
theorem letter_any (c : UInt8) (w : World) : Calls Try.prog 71 #[.int .u8 (c.toNat : Int)] w fun e w' => e = .returned (.bool (letterB c)) ∧ w = w' := by
  have HB : Hid (∀ b : Bool, (b = true ↔ ((97 ≤ (c.toNat : Int) ∧ (c.toNat : Int) ≤ 122) ∨ (65 ≤ (c.toNat : Int) ∧ (c.toNat : Int) ≤ 90) ∨ (48 ≤ (c.toNat : Int) ∧ (c.toNat : Int) ≤ 57) ∨ (c.toNat : Int) = 46 ∨ (c.toNat : Int) = 95 ∨ (c.toNat : Int) = 45)) → b = letterB c) := Lib.hid (fun b hb => by
    rw [Bool.eq_iff_iff, hb]
    have e : ∀ k : UInt8, (c == k) = true ↔ (c.toNat : Int) = k.toNat := fun k => by
      rw [beq_iff_eq, ← UInt8.toNat_inj]; omega
    simp only [letterB, Bool.or_eq_true, Bool.and_eq_true, decide_eq_true_eq, e]
    simp
    omega)
  generalize (c.toNat : Int) = x at HB ⊢
  generalize letterB c = R at HB ⊢
  by_cases h1 : 97 ≤ x <;> by_cases h2 : x ≤ 122 <;> by_cases h3 : 65 ≤ x <;> by_cases h4 : x ≤ 90 <;> by_cases h5 : 48 ≤ x <;> by_cases h6 : x ≤ 57
  all_goals first
    | (exfalso; omega)
    | skip
  all_goals
    go_enter Try.func71, Try.ntmps71
    go_wp2_with fail
    all_goals
      go_ret
      exact ⟨ret_bool (HB.out _ (by first | (simp; omega) | (simp; done))), rfl⟩

theorem beq_lit (L K : List UInt8) : ((⟨L.toArray⟩ : ByteArray).toList == (⟨K.toArray⟩ : ByteArray).toList) = (L == K) := by simp
theorem all_take {L : List UInt8} {k : Nat} (h : k < L.length) (ht : (L.take k).all letterB = true) : (L.take (k + 1)).all letterB = letterB L[k] := by
  rw [List.take_succ_eq_append_getElem h, List.all_append, ht]; simp
theorem all_bad {L : List UInt8} {k : Nat} (h : k < L.length) (hb : letterB L[k] = false) : L.all letterB = false := by
  rw [List.all_eq_false]
  exact ⟨L[k], List.getElem_mem h, by simp [hb]⟩

set_option maxHeartbeats 1000000 in
theorem valid_any (L : List UInt8) (w : World) (hs : (L.length : Int) ≤ 9223372036854775807) : Calls Try.prog 58 #[.string ⟨L.toArray⟩] w fun e w' => e = .returned (.bool (nameB L)) ∧ w = w' := by
  obtain ⟨R, hR⟩ : ∃ R, R = nameB L := ⟨_, rfl⟩
  rw [← hR]
  unfold nameB at hR
  have HR := Lib.hid hR
  clear hR
  by_cases h1 : (L.length : Int) < 1
  · have HF : Hid (R = false) := Lib.hid (by rw [HR.out, decide_eq_false (by omega)]; rfl)
    go_enter Try.func58, Try.ntmps58
    go_wp2_with fail
    go_ret
    exact ⟨by rw [HF.out]; rfl, rfl⟩
  · by_cases h2 : (24 : Int) < L.length
    · have HF : Hid (R = false) := Lib.hid (by rw [HR.out, decide_eq_false (show ¬ L.length ≤ 24 by omega)]; simp)
      go_enter Try.func58, Try.ntmps58
      go_wp2_with fail
      go_ret
      exact ⟨by rw [HF.out]; rfl, rfl⟩
    · have d1 : decide ((L.length : Int) < 1) = false := by simp; omega
      have d2 : decide ((24 : Int) < (L.length : Int)) = false := by simp; omega
      have hl1 : 1 ≤ (L.length : Int) := by omega
      have hl2 : (L.length : Int) ≤ 24 := by omega
      cases e1 : (L == [46]) with
      | true =>
        have HF : Hid (R = false) := Lib.hid (by rw [HR.out, e1]; simp)
        clear h1 h2
        go_enter Try.func58, Try.ntmps58
        go_wp2_with fail
        go_ret
        exact ⟨by rw [HF.out]; rfl, rfl⟩
      | false =>
        cases e2 : (L == [46, 46]) with
        | true =>
          have HF : Hid (R = false) := Lib.hid (by rw [HR.out, e2]; simp)
          clear h1 h2
          go_enter Try.func58, Try.ntmps58
          go_wp2_with fail
          go_ret
          exact ⟨by rw [HF.out]; rfl, rfl⟩
        | false =>
          have HF : Hid (R = L.all letterB) := Lib.hid (by rw [HR.out, e1, e2, decide_eq_true (by omega), decide_eq_true (by omega)]; simp)
          clear h1 h2 HR
          go_enter Try.func58, Try.ntmps58
          go_wp2_with fail
          go_loop [22] (fun i => ∃ k : Nat, k ≤ L.length ∧ i = .int .i64 k ∧ Hid ((L.take k).all letterB = true)) (fun i => L.length - (intOf i).toNat)
          case atStart => exact ⟨0, by omega, rfl, Lib.hid (by simp)⟩
          case round =>
            obtain ⟨k, hk, rfl, HT⟩ := hrel
            by_cases hlt : k < L.length
            · have HC := Lib.hid (fun W => letter_any L[k] W)
              cases hb : letterB L[k] with
              | true =>
                rw [hb] at HC
                have HN : Hid ((L.take (k + 1)).all letterB = true) := Lib.hid (by rw [all_take hlt HT.out, hb])
                clear hb
                go_wp2_with fail
                refine (HC.out _).mono ?_
                rintro e w' ⟨rfl, rfl⟩
                go_wp2_with fail
                go_round
                case rel => exact ⟨k + 1, by omega, by go_num, HN⟩
                case measure => simp [intOf]; omega
              | false =>
                rw [hb] at HC
                have HN : Hid (R = false) := Lib.hid (by rw [HF.out]; exact all_bad hlt hb)
                clear hb
                go_wp2_with fail
                refine (HC.out _).mono ?_
                rintro e w' ⟨rfl, rfl⟩
                go_wp2_with fail
                go_ret
                exact ⟨by rw [HN.out]; rfl, rfl⟩
            · have HN : Hid (R = true) := Lib.hid (by rw [HF.out, ← HT.out, List.take_of_length_le (by omega)])
              go_wp2_with fail
              go_ret
              exact ⟨by rw [HN.out]; rfl, rfl⟩

end Go.Proofs.Ytlfodnehgedpmaa
