/- The walk of WireSplit. -/
import Derived.Test.YtlijaacjfnjmjaaWireAw
namespace Go.Proofs.Ytlijaacjfnjmjaa.wireSplit
open Go.RowKit
set_option linter.unusedVariables false

set_option maxHeartbeats 1000000 in
theorem walk (a0 : Int) (w0 : (Lit.int .i64 a0).wf = true) (s : ByteArray) (w1 : s.size ≤ maxLen) (a2 : Int) (w2 : (Lit.int .i64 a2).wf = true) (w : World) :
    Calls Try.prog 3 #[.int .i64 a0, .string s, .int .i64 a2] w fun e w' => e = .returned (.bool true) ∧ Below w.heap.size w w' := by
  clear w0 w2
  unfold maxLen at w1
  obtain ⟨l, rfl⟩ : ∃ l : List UInt8, s = ⟨l.toArray⟩ := ⟨s.data.toList, ba_eq rfl⟩
  rw [ba_len] at w1
  by_cases hs : (l.length : Int) ≤ 100
  · obtain ⟨ms, er, hp⟩ : ∃ ms er, splitS a0 l a2 = (ms, er) := ⟨_, _, rfl⟩
    have hd0 : ∀ m ∈ ms, m.ds = [] := by
      intro m hm
      have : ms = (splitS a0 l a2).1 := by rw [hp]
      rw [this] at hm
      unfold splitS at hm
      split at hm
      · simp at hm
      · split at hm
        · simp at hm
        · obtain ⟨i, _, rfl⟩ := List.mem_map.1 hm; rfl
    have hml : ms.length ≤ 1048576 := by
      have : ms = (splitS a0 l a2).1 := by rw [hp]
      rw [this]
      unfold splitS
      split
      · simp
      · split
        · simp
        · simp only [parts, List.length_map, List.length_range]
          have := Nat.div_le_self (l.length + a2.toNat - 1) a2.toNat
          omega
    have H1 := Lib.hid (fun w => split_any a0 l a2 w (by omega))
    have H2 := Lib.hid (fun w => refSplit_any a0 l a2 w (by omega))
    rw [hp] at H1 H2
    clear hp
    go_enter Try.func3, Try.ntmps3
    go_wp2_with fail
    refine (H1.out _).mono ?_
    rintro e x1 ⟨p1, c1, rfl, m1, b1, _⟩
    go_wp2_with fail
    refine (H2.out _).mono ?_
    rintro e x2 ⟨p2, c2, rfl, m2, b2, _⟩
    have M1 := Lib.hid ((m1.below b2 (Nat.le_refl _)).mono b2.size)
    have B1 := Lib.hid b1
    have B2 := Lib.hid b2
    have M2 := Lib.hid m2
    clear b1 b2 m1 m2
    go_wp2_with fail
    refine (sameAll_eq p1 p2 ms c1 c2 x2 M1.out M2.out (by omega) (fun m hm => by rw [hd0 m hm]; decide)).mono ?_
    rintro e x3 ⟨rfl, b3⟩
    have B3 := Lib.hid b3
    clear b3
    go_wp2_with fail
    refine (awake_any _).mono ?_
    rintro e x4 ⟨rfl, b4⟩
    have B4 := Lib.hid b4
    clear b4
    go_wp2_with fail
    go_ret
    refine ⟨rfl, ?_⟩
    have c1 := B1.out.size
    have c2 := B2.out.size
    have c3 := B3.out.size
    exact ((B1.out.trans (B2.out.mono c1)).trans (B3.out.mono (by omega))).trans (B4.out.mono (by omega))
  · go_enter Try.func3, Try.ntmps3
    go_wp2_with fail
    refine (awake_any _).mono ?_
    rintro e x4 ⟨rfl, b4⟩
    have B4 := Lib.hid b4
    clear b4
    go_wp2_with fail
    go_ret
    exact ⟨rfl, B4.out⟩

end Go.Proofs.Ytlijaacjfnjmjaa.wireSplit
