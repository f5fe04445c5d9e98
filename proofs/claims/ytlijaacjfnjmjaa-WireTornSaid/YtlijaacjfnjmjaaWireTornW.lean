/- The walk of WireTorn. -/
import Derived.Test.YtlijaacjfnjmjaaWireAw
import Derived.Test.YtlijaacjfnjmjaaWireScW
namespace Go.Proofs.Ytlijaacjfnjmjaa.wireTorn
open Go.RowKit
set_option linter.unusedVariables false

theorem size_msg (W : World) : (sizeOf (Try.prog.elem 23)).run Try.prog W = .ok 6 W := by
  obtain ⟨i, h1, _, h3, _⟩ := info_parts infoMsg
  rw [show Try.prog.elem 23 = 34 by kernel_rfl]
  simp [sizeOf, typeInfo, h1, h3]
theorem mtake {B : Nat} {W : World} {a : Option Addr} {ms : List Msg} (h : Msgs B W a ms) (f : Nat) : Msgs B W a (ms.take f) := by
  intro i hi
  have hi' : i < ms.length := by simp at hi; omega
  obtain ⟨b, off, da, cd, ha, hlt, h0⟩ := h i hi'
  refine ⟨b, off, da, cd, ha, hlt, ?_⟩
  rw [List.getElem_take]
  exact h0
theorem madd0 {B : Nat} {W : World} {a : Option Addr} {ms : List Msg} (h : Msgs B W a ms) : Msgs B W (a.map (·.add (0 * 6))) ms := by
  intro i hi
  obtain ⟨b, off, da, cd, rfl, hlt, h0⟩ := h i hi
  exact ⟨b, off, da, cd, by simp [Go.WideShapes.add_plain], hlt, h0⟩
theorem mslice_hi (a : Option Addr) (n c f : Nat) (h : f ≤ c) : ∃ (A1 : Option Addr) (c1 : Nat), (∀ B W ms, Msgs B W a ms → Msgs B W A1 (ms.take f)) ∧ ∀ W, (Instr.slice 23 (.slice a n c) none (some (.int .i64 f)) none).run Try.prog W = .ok (.slice A1 f c1) W := by
  refine ⟨if c = 0 then a else a.map (·.add (0 * 6)), c, fun B W ps hp => ?_, fun W => ?_⟩
  · split
    · exact mtake hp f
    · exact madd0 (mtake hp f)
  · rw [run_slice_h (P := Try.prog) W 23 a n c (by kernel_rfl) .i64 f (by omega) (by omega), size_msg]
    simp [sliced, Result.andThen]

set_option maxRecDepth 100000 in
set_option maxHeartbeats 1000000 in
theorem walk (s : ByteArray) (w1 : s.size ≤ maxLen) (a2 : Int) (w2 : (Lit.int .u16 a2).wf = true) (w : World) :
    Calls Try.prog 8 #[.string s, .int .u16 a2] w fun e w' => e = .returned (.bool true) ∧ Below w.heap.size w w' := by
  unfold maxLen at w1
  obtain ⟨L, rfl⟩ : ∃ l : List UInt8, s = ⟨l.toArray⟩ := ⟨s.data.toList, ba_eq rfl⟩
  rw [ba_len] at w1
  by_cases hs : (L.length : Int) ≤ 400
  · have ha : 0 ≤ a2 ∧ a2 ≤ 65535 := by
      simp [Lit.wf, IntKind.min, IntKind.max, IntKind.bits, IntKind.signed] at w2
      omega
    obtain ⟨ha0, ha1⟩ := ha
    clear w2
    obtain ⟨k, hk⟩ : ∃ k : Nat, a2 % ((L.length : Int) + 1) = (k : Int) := ⟨(a2 % ((L.length : Int) + 1)).toNat, by
      rw [Int.toNat_of_nonneg]; exact Int.emod_nonneg _ (by omega)⟩
    have hkl : k ≤ L.length := by
      have := Int.emod_lt_of_pos a2 (show (0 : Int) < (L.length : Int) + 1 by omega)
      omega
    obtain ⟨T, hT⟩ : ∃ T, T = L.take k := ⟨_, rfl⟩
    have hTl : T.length ≤ L.length := by rw [hT]; simp; omega
    have hsl : ∀ W, (Instr.slice 9 (.string ⟨L.toArray⟩) none (some (.int .i64 k)) none).run Try.prog W = .ok (.string ⟨T.toArray⟩) W := fun W => by rw [hT]; exact sl_hi L k hkl W
    have hex : (⟨L.toArray⟩ : ByteArray).extract 0 k = ⟨T.toArray⟩ := by rw [ex_mid, hT]; simp
    have HT := Lib.hid hT
    clear hT
    go_enter Try.func8, Try.ntmps8
    go_wp2_with fail
    refine (scan_any L _ (by omega)).mono ?_
    rintro e x1 ⟨l, n, p1, c1, hsc, rfl, m1, b1, hc1, hds1⟩
    have HS1 := Lib.hid hsc
    have hn := hsc.le
    have hn1 := hn.1
    have hn2 := hn.2
    have M1 := Lib.hid m1
    have B1 := Lib.hid b1
    have D1 := Lib.hid hds1
    clear hsc m1 b1 hds1 hn
    go_wp2_with fail
    refine (scan_any T _ (by omega)).mono ?_
    rintro e x2 ⟨m, j, p2, c2, hsc, rfl, m2, b2, hc2, hds2⟩
    obtain ⟨⟨r, hr⟩, hjn⟩ := Scans.torn HT.out hsc HS1.out
    have hml : m.length ≤ l.length := by rw [hr]; simp
    have htk : l.take m.length = m := by rw [hr, List.take_left]
    obtain ⟨A1, d1, hA1, hsl1⟩ := mslice_hi p1 l.length c1 m.length (by omega)
    have HSM : Hid (∀ W, Below x2.heap.size x2 W → Calls Try.prog 14 #[.slice A1 m.length d1, .slice p2 m.length c2] W fun e w' => e = .returned (.bool true) ∧ Below W.heap.size W w') := Lib.hid (fun W hW => by
      have h1 := hA1 _ _ _ (M1.out.below b2 (Nat.le_refl _))
      rw [htk] at h1
      exact sameAll_eq A1 p2 m d1 c2 W (((h1.mono b2.size).below hW (Nat.le_refl _)).mono hW.size) ((m2.below hW (Nat.le_refl _)).mono hW.size) (by omega) (fun y hy => by have := hds2 y hy; omega))
    have B2 := Lib.hid b2
    have hj0 : (0 : Int) ≤ j := by omega
    clear hsc m2 b2 hds2 hr htk hA1 M1 D1
    have t1 : decide ((n : Int) < 0) = false := by simp
    have t2 : decide (L.length < n) = false := by simp; omega
    have t3 : decide (l.length < m.length) = false := by simp; omega
    have t4 : decide (n < j) = false := by simp; omega
    have t5 : decide ((j : Int) < 0) = false := by simp
    go_wp2_with fail
    refine (HSM.out _ (Below.refl _ _)).mono ?_
    rintro e x3 ⟨rfl, b3⟩
    have B3 := Lib.hid b3
    clear b3 HSM
    obtain ⟨U, hU⟩ : ∃ U, U = L.drop n := ⟨_, rfl⟩
    have hUl : U.length ≤ L.length := by rw [hU]; simp
    have hexU : (⟨L.toArray⟩ : ByteArray).extract n L.length = ⟨U.toArray⟩ := by rw [ex_mid, hU, List.take_of_length_le (by simp)]
    have HSU : Hid (Scans U [] 0) := Lib.hid (by rw [hU]; exact HS1.out.rest)
    clear hU
    go_wp2_with fail
    refine (scan_any U _ (by omega)).mono ?_
    rintro e x4 ⟨rs, q, p4, c4, hsc, rfl, m4, b4, hc4, hds4⟩
    obtain ⟨rfl, rfl⟩ := hsc.one HSU.out
    have B4 := Lib.hid b4
    clear hsc m4 b4 hds4
    go_wp2_with fail
    refine (awake_any _).mono ?_
    rintro e x5 ⟨rfl, b5⟩
    have B5 := Lib.hid b5
    clear b5
    go_wp2_with fail
    go_ret
    refine ⟨rfl, ?_⟩
    have c1 := B1.out.size
    have c2 := B2.out.size
    have c3 := B3.out.size
    have c4 := B4.out.size
    exact (((B1.out.trans (B2.out.mono c1)).trans (B3.out.mono (by omega))).trans (B4.out.mono (by omega))).trans (B5.out.mono (by omega))
  · go_enter Try.func8, Try.ntmps8
    go_wp2_with fail
    refine (awake_any _).mono ?_
    rintro e x4 ⟨rfl, b4⟩
    have B4 := Lib.hid b4
    clear b4
    go_wp2_with fail
    go_ret
    exact ⟨rfl, B4.out⟩

end Go.Proofs.Ytlijaacjfnjmjaa.wireTorn
