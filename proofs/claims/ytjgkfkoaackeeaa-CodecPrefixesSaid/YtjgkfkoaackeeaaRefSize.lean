/- What the reference's Size returns. -/
import Derived.Test.YtjgkfkoaackeeaaRefPut
namespace Go.Proofs.Ytjgkfkoaackeeaa
open Go.RowKit

def sizeI (n : Int) : Int := if Cw.inR n then ((Cw.enc n.toNat).length : Int) else 0

theorem EncFits.down {f : Nat} {n : Int} (h : EncFits (f + 1) n) : EncFits f (n / 128) := by
  unfold EncFits at h ⊢
  rw [Int.pow_succ] at h
  exact Int.ediv_lt_of_lt_mul (by omega) h

theorem EncFits.ten {n : Int} (h1 : n ≤ 140737488355328) : EncFits 10 n := by
  unfold EncFits
  have : (128 : Int) ^ 10 = 1180591620717411303424 := by decide
  rw [this]; omega

def SizeRel (n m k : Int) (f : Nat) : Prop := EncFits (f + 1) m ∧ k - 1 + ((Cw.encF (f + 1) m.toNat).length : Int) = ((Cw.enc n.toNat).length : Int)

theorem SizeRel.start {n : Int} (h : n ≤ 1099511627776) : SizeRel n n 1 9 := ⟨EncFits.ten (by omega), by simp [Cw.enc]⟩

theorem SizeRel.stop {n m k : Int} {f : Nat} (h : SizeRel n m k f) (hm : m < 128) : k = ((Cw.enc n.toNat).length : Int) := by
  have := h.2
  rw [encF_small f m hm] at this
  simp at this; omega

theorem SizeRel.go {n m k : Int} {f : Nat} (h : SizeRel n m k f) (hm : 128 ≤ m) : ∃ g, f = g + 1 ∧ SizeRel n (m / 128) (k + 1) g := by
  cases f with
  | zero => have := h.1; unfold EncFits at this; simp at this; omega
  | succ g =>
    refine ⟨g, rfl, h.1.down, ?_⟩
    have := h.2
    rw [encF_great (g + 1) m hm] at this
    simp at this; omega

set_option maxHeartbeats 400000 in
theorem refSize_any (n : Int) (w : World) :
    Calls Try.prog 17 #[.int .i64 n] w fun e w' => e = .returned (.int .i64 (sizeI n)) ∧ w = w' := by
  by_cases h : 0 ≤ n ∧ n ≤ 1099511627776
  · have hp : sizeI n = ((Cw.enc n.toNat).length : Int) := if_pos ((Cw.inR_iff n).2 h)
    obtain ⟨h0, h1⟩ := h
    rw [hp]
    clear hp
    have HS := Lib.hid (SizeRel.start h1)
    have t1 : decide (n < 0) = false := by simpa using h0
    have t2 : decide (1099511627776 < n) = false := by simpa using h1
    go_enter Try.func17, Try.ntmps17
    go_wp2
    go_loop [0, 3] (fun a b => ∃ (m k : Int) (f : Nat), 0 ≤ m ∧ m ≤ 1099511627776 ∧ 1 ≤ k ∧ k + f ≤ 10 ∧ a = .int .i64 m ∧ b = .int .i64 k ∧ SizeRel n m k f) (fun a _ => (intOf a).toNat)
    case atStart => exact ⟨n, 1, 9, h0, h1, by omega, by omega, rfl, rfl, HS.out⟩
    case round =>
      obtain ⟨m, k, f, hm0, hm1, hk, hkf, rfl, rfl, hr⟩ := hrel
      by_cases hm : m < 128
      · have HR := Lib.hid (hr.stop hm)
        clear hr
        go_wp2
        go_ret
        exact ⟨ret_int HR.out, rfl⟩
      · obtain ⟨g, hfg, hr'⟩ := hr.go (by omega)
        have HR := Lib.hid hr'
        clear hr hr'
        have HG := Lib.hid hfg
        have hg2 : k + 1 + g ≤ 10 := by omega
        clear hfg
        go_wp2
        go_round
        case rel => exact ⟨_, _, g, by omega, by omega, by omega, hg2, rfl, rfl, HR.out⟩
        case measure => simp [intOf]; omega
  · have hp : sizeI n = 0 := if_neg (by rw [Cw.inR_iff]; exact h)
    rw [hp]
    clear hp
    by_cases h0 : n < 0
    · clear h
      go_enter Try.func17, Try.ntmps17
      go_wp2_with fail
      go_ret
      exact ⟨rfl, rfl⟩
    · have h1 : 1099511627776 < n := by omega
      clear h
      go_enter Try.func17, Try.ntmps17
      go_wp2_with fail
      go_ret
      exact ⟨rfl, rfl⟩

end Go.Proofs.Ytjgkfkoaackeeaa
