/- What codec.GetInt and the reference's GetInt return. -/
import Derived.Test.YtlfodnehgedpmaaProg
import Derived.Test.YtlfodnehgedpmaaPlain
import Derived.WalkKit
import Derived.WalkSpells
import Derived.WalkLawsBesides
import Derived.Lib.Hide
namespace Go.Proofs.Ytlfodnehgedpmaa
open Go.RowKit

theorem dmul (d b : Int) (h0 : 0 ≤ d) (h1 : d ≤ 255) (h2 : 0 ≤ b) (h3 : b ≤ 34359738368) : 0 ≤ d * b ∧ d * b ≤ 8761733283840 :=
  ⟨Int.mul_nonneg h0 h2, by have := Int.mul_le_mul h1 h3 h2 (by omega); omega⟩

/-- A byte of a string, as a number under a name. -/
theorem idx (s : ByteArray) (k : Nat) (hs : k < s.size) : ∃ d : Int, 0 ≤ d ∧ d ≤ 255 ∧ d = (s.data.toList.getD k 0).toNat ∧ ∀ w, (Instr.index 9 (.string s) (.int .i64 k)).run Try.prog w = .ok (.int .u8 d) w := by
  have e : s.data.toList.getD k 0 = s[k] := by
    have hk : k < s.data.toList.length := by simpa using hs
    simp [List.getD, Array.getElem?_eq_getElem (show k < s.data.size from hs)]; rfl
  refine ⟨s[k].toNat, by omega, by have := s[k].toNat_lt; omega, by rw [e], fun w => ?_⟩
  simp [go_sem, hs]

theorem drop_getD (l : List UInt8) (k : Nat) (h : k < l.length) : l.drop k = l.getD k 0 :: l.drop (k + 1) := by
  rw [List.drop_eq_getElem_cons h]; simp [List.getD, h]

theorem pow_le (k : Nat) (h : k < 6) : (128 : Int) ^ k ≤ 34359738368 := by
  match k, h with
  | 0, _ => decide
  | 1, _ => decide
  | 2, _ => decide
  | 3, _ => decide
  | 4, _ => decide
  | 5, _ => decide

def GetRel (s : ByteArray) (k : Nat) (a b : Int) : Prop :=
  b = 128 ^ k ∧ a < b ∧ Cw.getGo (6 - k) k a b (s.data.toList.drop k) = Cw.getI s.data.toList

theorem GetRel.go {s : ByteArray} {k : Nat} {a b d : Int} (h : GetRel s k a b) (hk : k < 6) (hs : k < s.size) (ha : 0 ≤ a) (hd : d = (s.data.toList.getD k 0).toNat) (hc : 128 ≤ d) :
    GetRel s (k + 1) (a + (d - 128) * b) (b * 128) := by
  obtain ⟨hb, hab, h⟩ := h
  have hdl : d ≤ 255 := by have := (s.data.toList.getD k 0).toNat_lt; omega
  refine ⟨by rw [hb, Int.pow_succ], ?_, ?_⟩
  · have : (d - 128) * b ≤ 127 * b := Int.mul_le_mul_of_nonneg_right (by omega) (by omega)
    omega
  · rw [drop_getD _ _ (by simpa using hs), show 6 - k = (6 - (k + 1)) + 1 from by omega] at h
    rw [← h, Cw.getGo, if_pos (by omega), hd]

theorem GetRel.bad {s : ByteArray} {k : Nat} {a b d : Int} (h : GetRel s k a b) (hk : k < 6) (hs : k < s.size) (hd : d = (s.data.toList.getD k 0).toNat) (hc : d < 128) (hx : (d = 0 ∧ 0 < k) ∨ 1099511627776 < a + d * b) :
    Cw.getI s.data.toList = (0, 0, 13) := by
  obtain ⟨_, _, h⟩ := h
  rw [drop_getD _ _ (by simpa using hs), show 6 - k = (6 - (k + 1)) + 1 from by omega] at h
  rw [← h, Cw.getGo, if_neg (by omega), if_pos]
  rcases hx with ⟨h1, h2⟩ | h2
  · exact .inl ⟨by omega, h2⟩
  · exact .inr (by rw [← hd]; exact h2)

theorem GetRel.good {s : ByteArray} {k : Nat} {a b d : Int} (h : GetRel s k a b) (hk : k < 6) (hs : k < s.size) (hd : d = (s.data.toList.getD k 0).toNat) (hc : d < 128) (hx : d ≠ 0 ∨ k = 0) (hy : a + d * b ≤ 1099511627776) :
    Cw.getI s.data.toList = (a + d * b, (k : Int) + 1, 0) := by
  obtain ⟨_, _, h⟩ := h
  rw [drop_getD _ _ (by simpa using hs), show 6 - k = (6 - (k + 1)) + 1 from by omega] at h
  rw [← h, Cw.getGo, if_neg (by omega), if_neg, hd]
  rintro (⟨h1, h2⟩ | h2)
  · omega
  · rw [← hd] at h2; omega

theorem GetRel.short {s : ByteArray} {k : Nat} {a b : Int} (h : GetRel s k a b) (hk : k < 6) (hs : s.size ≤ k) : Cw.getI s.data.toList = (0, 0, 12) := by
  obtain ⟨_, _, h⟩ := h
  rw [List.drop_eq_nil_of_le (by simpa using hs), show 6 - k = (6 - (k + 1)) + 1 from by omega] at h
  rw [← h, Cw.getGo]

theorem GetRel.out {s : ByteArray} {a b : Int} (h : GetRel s 6 a b) : Cw.getI s.data.toList = (0, 0, 13) := by
  obtain ⟨_, _, h⟩ := h
  rw [← h]; rfl

theorem GetRel.start (s : ByteArray) : GetRel s 0 0 1 := ⟨rfl, by omega, rfl⟩

def T3 (x : Int × Int × Int) : Ending := .returned (.tuple #[.int .i64 x.1, .int .i64 x.2.1, .int .i64 x.2.2])
theorem T3_of {x : Int × Int × Int} {a b c : Int} (h : x = (a, b, c)) : Ending.returned (.tuple #[.int .i64 a, .int .i64 b, .int .i64 c]) = T3 x := by rw [h]; rfl

set_option maxHeartbeats 400000 in
theorem getInt_any (s : ByteArray) (w : World) :
    Calls Try.prog 64 #[.string s] w fun e w' => e = T3 (Cw.getI s.data.toList) ∧ w = w' := by
  go_enter Try.func64, Try.ntmps64
  go_wp2
  go_loop [5, 6, 9] (fun n u i => ∃ (k : Nat) (a b : Int), k ≤ 6 ∧ 0 ≤ a ∧ 1 ≤ b ∧ i = .int .i64 k ∧ n = .int .i64 a ∧ u = .int .i64 b ∧ GetRel s k a b) (fun _ _ i => 6 - (intOf i).toNat)
  case atStart => exact ⟨0, 0, 1, by omega, by omega, by omega, rfl, rfl, rfl, GetRel.start s⟩
  case round =>
    obtain ⟨k, a, b, hk, ha, hb, rfl, rfl, rfl, hr⟩ := hrel
    by_cases hk6 : k < 6
    · have hb2 : b ≤ 34359738368 := by rw [hr.1]; exact pow_le k hk6
      have hab := hr.2.1
      by_cases hs : k < s.size
      · obtain ⟨d, hd0, hd, hds, hidx⟩ := idx s k hs
        have HD := Lib.hid hds
        clear hds
        have hm1 := dmul d b (by omega) hd (by omega) hb2
        by_cases hc : 128 ≤ d
        · have hm2 := dmul (d - 128) b (by omega) (by omega) (by omega) hb2
          have HN := Lib.hid (hr.go hk6 hs ha HD.out hc)
          clear hr
          go_wp2
          go_round
          case rel => exact ⟨k + 1, _, _, by omega, by omega, by omega, by go_num, rfl, rfl, HN.out⟩
          case measure => simp [intOf]; omega
        · have hc' : d < 128 := by omega
          by_cases hz : d = 0
          · by_cases hk0 : 0 < k
            · have HN := Lib.hid (T3_of (hr.bad hk6 hs HD.out hc' (.inl ⟨hz, hk0⟩)))
              clear hr
              subst hz
              go_wp2
              all_goals first | (exfalso; omega) | (go_ret3; exact ⟨HN.out, rfl⟩)
            · have hm3 : a + d * b ≤ 1099511627776 := by subst hz; have := hr.1; obtain rfl : k = 0 := by omega
                                                         simp at this; simp; omega
              have HN := T3_of (hr.good hk6 hs HD.out hc' (by omega) hm3)
              clear hr
              subst hz
              rw [Int.zero_mul, Int.add_zero] at HN
              have HM : Hid (Ending.returned (.tuple #[.int .i64 a, .int .i64 1, .int .i64 0]) = T3 (Cw.getI s.data.toList)) := by
                obtain rfl : k = 0 := by omega
                exact HN
              have HN := Lib.hid HN
              go_wp2
              all_goals first | (exfalso; omega) | (go_ret3; first | exact ⟨HN.out, rfl⟩ | exact ⟨HM.out, rfl⟩)
          · have hz' : (d == 0) = false := by simpa using hz
            by_cases hx : 1099511627776 < a + d * b
            · have HN := Lib.hid (T3_of (hr.bad hk6 hs HD.out hc' (.inr hx)))
              clear hr
              go_wp2
              all_goals first | (exfalso; omega) | (go_ret3; exact ⟨HN.out, rfl⟩)
            · have HN := Lib.hid (T3_of (hr.good hk6 hs HD.out hc' (.inl hz) (by omega)))
              clear hr
              go_wp2
              all_goals first | (exfalso; omega) | (go_ret3; exact ⟨HN.out, rfl⟩)
      · have HN := Lib.hid (T3_of (hr.short hk6 (by omega)))
        clear hr
        go_wp2
        go_ret3
        exact ⟨HN.out, rfl⟩
    · obtain rfl : k = 6 := by omega
      have HN := Lib.hid (T3_of hr.out)
      clear hr
      go_wp2
      go_ret3
      exact ⟨HN.out, rfl⟩

end Go.Proofs.Ytlfodnehgedpmaa
