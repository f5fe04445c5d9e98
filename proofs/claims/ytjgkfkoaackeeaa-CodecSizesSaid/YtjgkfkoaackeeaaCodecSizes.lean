/- CodecSizes: Size is the number of bytes of PutInt, 0 exactly if there is no encoding, and greater numbers do not have smaller sizes, for every two integers. No condition. -/
import Derived.Test.YtjgkfkoaackeeaaRows
import Derived.Test.YtjgkfkoaackeeaaAwake
import Derived.ProofKit
import Derived.OpenShut
import Derived.ShutString
namespace Go.Proofs.Ytjgkfkoaackeeaa.codecSizes
open Go.ChangeShapes Go.WideShapes Go.ChangeAt Go.RowKit
open Go.ChangeMaps (open_string shut_string)
set_option linter.unusedVariables false

theorem own : ownKnob Try.prog.godebug = none := by kernel_rfl
theorem laidOut : laidOutB Try.prog = true := by kernel_rfl

theorem encF_mono : ∀ (f a b : Nat), a ≤ b → (Cw.encF f a).length ≤ (Cw.encF f b).length
  | 0, _, _, _ => Nat.le_refl _
  | f + 1, a, b, h => by
    rw [Cw.encF, Cw.encF]
    by_cases ha : a < 128
    · rw [if_pos ha]
      by_cases hb : b < 128
      · rw [if_pos hb]; exact Nat.le_refl _
      · rw [if_neg hb]; simp
    · rw [if_neg ha, if_neg (by omega), List.length_cons, List.length_cons]
      have := encF_mono f (a / 128) (b / 128) (Nat.div_le_div_right h)
      omega

theorem size_is {n z : Int} (h : sizeI n = z) (w : World) : Calls Try.prog 16 #[.int .i64 n] w fun e w' => e = .returned (.int .i64 z) ∧ Below w.heap.size w w' := by
  rw [← h]; exact size_any n w

/-- What is known of one number: its encoding, its size. -/
theorem of_one (n : Int) : ∃ (l : List UInt8) (er : Int), putI n = (l, er) ∧ sizeI n = (l.length : Int) ∧ ((er = 0 ∧ 0 < l.length ∧ 0 ≤ n ∧ n ≤ 1099511627776 ∧ l = Cw.enc n.toNat) ∨ (er = 2 ∧ l.length = 0 ∧ (n < 0 ∨ 1099511627776 < n))) := by
  by_cases h : Cw.inR n = true
  · refine ⟨Cw.enc n.toNat, 0, if_pos h, if_pos h, .inl ⟨rfl, ?_, ((Cw.inR_iff n).1 h).1, ((Cw.inR_iff n).1 h).2, rfl⟩⟩
    exact List.length_pos_iff.2 (enc_ne _)
  · refine ⟨[], 2, if_neg h, if_neg h, .inr ⟨rfl, rfl, ?_⟩⟩
    rw [Cw.inR_iff] at h; omega

theorem chain5 {w x1 x2 x3 x4 x5 : World} (b1 : Below w.heap.size w x1) (b2 : Below x1.heap.size x1 x2) (b3 : Below x2.heap.size x2 x3) (b4 : Below x3.heap.size x3 x4) (b5 : Below x4.heap.size x4 x5) : Below w.heap.size w x5 := by
  have c1 := b1.size
  have c2 := b2.size
  have c3 := b3.size
  have c4 := b4.size
  exact (((b1.trans (b2.mono c1)).trans (b3.mono (by omega))).trans (b4.mono (by omega))).trans (b5.mono (by omega))

set_option maxHeartbeats 2000000 in
theorem walk (n : Int) (w0 : (Lit.int .i64 n).wf = true) (m : Int) (w1 : (Lit.int .i64 m).wf = true) (w : World) :
    Calls Try.prog 5 #[.int .i64 n, .int .i64 m] w fun e w' => e = .returned (.bool true) ∧ Below w.heap.size w w' := by
  clear w0 w1
  obtain ⟨l, er, hp, hz, hc⟩ := of_one n
  obtain ⟨l', er', hp', hz', hc'⟩ := of_one m
  have H1 := Lib.hid (putInt_is hp)
  have H2 := Lib.hid (putInt_is hp')
  have H3 := Lib.hid (size_is hz)
  have H4 := Lib.hid (size_is hz')
  have HM : Hid (er = 0 → er' = 0 → n ≤ m → l.length ≤ l'.length) := Lib.hid (by
    intro h1 h2 h3
    rcases hc with ⟨_, _, h4, _, h5⟩ | ⟨h4, _⟩
    · rcases hc' with ⟨_, _, h6, _, h7⟩ | ⟨h6, _⟩
      · rw [h5, h7]; exact encF_mono 10 _ _ (by omega)
      · omega
    · omega)
  clear hp hp' hz hz'
  rcases hc with ⟨rfl, hl, hn0, hn1, hle⟩ | ⟨rfl, hl, hn⟩
  · have t1 : decide (0 ≤ n) = true := by simpa using hn0
    have t2 : decide (n ≤ 1099511627776) = true := by simpa using hn1
    have t3 : decide (0 < (l.length : Int)) = true := by simpa using hl
    have t4 : decide (0 < l.length) = true := by simpa using hl
    clear hle
    rcases hc' with ⟨rfl, hl', hm0, hm1, hle'⟩ | ⟨rfl, hl', hm⟩
    · clear hle'
      by_cases hnm : n ≤ m
      · have t5 : decide (m < n) = false := by simpa using hnm
        have hmm := HM.out rfl rfl hnm
        have t6 : decide (l.length ≤ l'.length) = true := by simpa using hmm
        clear HM hmm
        go_enter Try.func5, Try.ntmps5
        go_wp2_with fail
        refine (H1.out _).mono ?_
        rintro e x1 ⟨rfl, b1⟩
        go_wp2_with fail
        refine (H2.out _).mono ?_
        rintro e x2 ⟨rfl, b2⟩
        go_wp2_with fail
        refine (H3.out _).mono ?_
        rintro e x3 ⟨rfl, b3⟩
        go_wp2_with fail
        refine (H4.out _).mono ?_
        rintro e x4 ⟨rfl, b4⟩
        go_wp2_with fail
        refine (awake_any _).mono ?_
        rintro e x5 ⟨rfl, b5⟩
        go_wp2_with fail
        go_ret
        exact ⟨rfl, chain5 b1 b2 b3 b4 b5⟩
      · clear HM
        have t5 : decide (m < n) = true := by simpa using hnm
        go_enter Try.func5, Try.ntmps5
        go_wp2_with fail
        refine (H1.out _).mono ?_
        rintro e x1 ⟨rfl, b1⟩
        go_wp2_with fail
        refine (H2.out _).mono ?_
        rintro e x2 ⟨rfl, b2⟩
        go_wp2_with fail
        refine (H3.out _).mono ?_
        rintro e x3 ⟨rfl, b3⟩
        go_wp2_with fail
        refine (H4.out _).mono ?_
        rintro e x4 ⟨rfl, b4⟩
        go_wp2_with fail
        refine (awake_any _).mono ?_
        rintro e x5 ⟨rfl, b5⟩
        go_wp2_with fail
        go_ret
        exact ⟨rfl, chain5 b1 b2 b3 b4 b5⟩
    · clear HM
      obtain rfl : l' = [] := List.length_eq_zero_iff.1 hl'
      go_enter Try.func5, Try.ntmps5
      go_wp2_with fail
      refine (H1.out _).mono ?_
      rintro e x1 ⟨rfl, b1⟩
      go_wp2_with fail
      refine (H2.out _).mono ?_
      rintro e x2 ⟨rfl, b2⟩
      go_wp2_with fail
      refine (H3.out _).mono ?_
      rintro e x3 ⟨rfl, b3⟩
      go_wp2_with fail
      refine (H4.out _).mono ?_
      rintro e x4 ⟨rfl, b4⟩
      go_wp2_with fail
      refine (awake_any _).mono ?_
      rintro e x5 ⟨rfl, b5⟩
      go_wp2_with fail
      go_ret
      exact ⟨rfl, chain5 b1 b2 b3 b4 b5⟩
  · clear HM
    obtain rfl : l = [] := List.length_eq_zero_iff.1 hl
    clear hc'
    by_cases h0 : 0 ≤ n
    · have t1 : decide (0 ≤ n) = true := by simpa using h0
      have t2 : decide (n ≤ 1099511627776) = false := by simp; omega
      go_enter Try.func5, Try.ntmps5
      go_wp2_with fail
      refine (H1.out _).mono ?_
      rintro e x1 ⟨rfl, b1⟩
      go_wp2_with fail
      refine (H2.out _).mono ?_
      rintro e x2 ⟨rfl, b2⟩
      go_wp2_with fail
      refine (H3.out _).mono ?_
      rintro e x3 ⟨rfl, b3⟩
      go_wp2_with fail
      refine (H4.out _).mono ?_
      rintro e x4 ⟨rfl, b4⟩
      go_wp2_with fail
      refine (awake_any _).mono ?_
      rintro e x5 ⟨rfl, b5⟩
      go_wp2_with fail
      go_ret
      exact ⟨rfl, chain5 b1 b2 b3 b4 b5⟩
    · have t1 : decide (0 ≤ n) = false := by simpa using h0
      go_enter Try.func5, Try.ntmps5
      go_wp2_with fail
      refine (H1.out _).mono ?_
      rintro e x1 ⟨rfl, b1⟩
      go_wp2_with fail
      refine (H2.out _).mono ?_
      rintro e x2 ⟨rfl, b2⟩
      go_wp2_with fail
      refine (H3.out _).mono ?_
      rintro e x3 ⟨rfl, b3⟩
      go_wp2_with fail
      refine (H4.out _).mono ?_
      rintro e x4 ⟨rfl, b4⟩
      go_wp2_with fail
      refine (awake_any _).mono ?_
      rintro e x5 ⟨rfl, b5⟩
      go_wp2_with fail
      go_ret
      exact ⟨rfl, chain5 b1 b2 b3 b4 b5⟩

set_option maxRecDepth 100000 in
theorem lifted (os : Os) (started : os.Started) (H : Type) (enc : TypeId × Value → H) :
    ReturnsInHanded {} Try.checked os 5 .any (Rows.codecSizesSpec.pre6 enc Try.prog Try.f5 Rows.codecSizesRow.domain false) (Rows.codecSizesSpec.post enc Try.prog Try.f5 false true false false) := by
  refine returnsInHanded_of_change (C := Try.checked) own started (by kernel_rfl) Try.func5
    (ChangeSpec.witness6 (enc := enc) (C := Try.checked) false ⟨#[], #[.int .i64 0, .int .i64 0], []⟩ 8 (by kernel_rfl) (by kernel_rfl) (by kernel_rfl) (by kernel_rfl)) ?_
  intro W base args ds gs before hval0 hW hcnd _
  have hval : ∀ (j : Nat) t v, Try.f5.params[j]? = some t → args[j]? = some v → Value.okWide Try.prog W .any base t v := hval0
  have hW' := hW
  obtain ⟨p, q, hA0, hV, rfl, hfz, hnd⟩ := hW
  have hA : DataW.TrodAll enc Try.prog W 0 (fun _ => true) true Try.f5.params.toList args.toList ds p := hA0
  rw [Try.params5] at hA hval
  obtain ⟨v0, vs0, d0, ds0, p0, q0, hargs, rfl, rfl, h0, r0⟩ := trodAll_cons hA
  obtain ⟨v1, vs1, d1, ds1, p1, q1, rfl, rfl, rfl, h1, r1⟩ := trodAll_cons r0
  obtain ⟨rfl, rfl, rfl⟩ := trodAll_nil r1
  obtain rfl : args = #[v0, v1] := by cases args; simp_all
  obtain ⟨rfl, rfl⟩ := trodVars_none hV
  have k0 := h0
  have lt0 : ∀ x ∈ p0, x.block < W.heap.size := by obtain ⟨m, hm⟩ := k0; exact DataW.trod_lt m _ _ _ hm
  obtain ⟨a0, rfl, rfl, rfl, w0⟩ := open_int Try.underlying3 (hval 0 3 v0 rfl rfl) h0
  have k1 := h1
  have lt1 : ∀ x ∈ p1, x.block < W.heap.size := by obtain ⟨m, hm⟩ := k1; exact DataW.trod_lt m _ _ _ hm
  obtain ⟨a1, rfl, rfl, rfl, w1⟩ := open_int Try.underlying3 (hval 1 3 v1 rfl rfl) h1
  clear hA0 hval0
  refine (walk a0 w0 a1 w1 W).mono fun e W' ⟨he, bel⟩ => ?_
  subst he
  exact ⟨_, rfl, _, _, _, [], _, [], hW', trodAll_mk1 (shut_bool Try.underlying4 _), (trodAll_cons_mk (Below.trod laidOut (by kernel_rfl) (of_decide_eq_true (by kernel_rfl)) k0 bel lt0) (trodAll_cons_mk (Below.trod laidOut (by kernel_rfl) (of_decide_eq_true (by kernel_rfl)) k1 bel lt1) trodAll_mk0)), rfl, bel.frame _, fun h => by cases h⟩

theorem over : Rows.codecSizesRow.holds Try.pinned (OpenSpec.ofChange Rows.codecSizesSpec) :=
  OpenClaim.holds_of_wide 5 Try.f5 rfl rfl rfl rfl rfl rfl rfl ⟨rfl, rfl, rfl, rfl, rfl⟩ rfl rfl rfl rfl rfl (by kernel_rfl) Try.func5 (by kernel_rfl)
    (of_decide_eq_true (by kernel_rfl)) (by unfold Func.isWrapper; first | (rw [if_pos (by decide +kernel)]; kernel_rfl) | (rw [if_neg (by decide +kernel)]; exact ⟨rfl, rfl⟩))
    (fun os started H enc _ => lifted os started H enc)

theorem proved : Rows.CodecSizesSaid := over
end Go.Proofs.Ytjgkfkoaackeeaa.codecSizes
