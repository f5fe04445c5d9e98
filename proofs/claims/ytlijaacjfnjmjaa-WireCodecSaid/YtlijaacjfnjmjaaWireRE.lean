/- The reference's Of, bytes, number. -/
import Derived.Test.YtlijaacjfnjmjaaWireFr
import Derived.Deep.RegionWith
namespace Go.Proofs.Ytlijaacjfnjmjaa
open Go.RowKit
set_option linter.unusedVariables false

set_option maxHeartbeats 1000000 in
theorem refOf_any (L : List UInt8) (w : World) (hs : (L.length : Int) ≤ 140737488355328) :
    Calls Try.prog 49 #[.string ⟨L.toArray⟩] w fun e w' => e = .returned (.agg #[.int .u64 (digS L).1, .int .u64 (digS L).2]) ∧ Below w.heap.size w w' := by
  have HD : Hid (digS L = if L.foldl dig1 14695981039346656037 = 0 ∧ L.foldl dig2 14695981039346656037 = 0 then (0, 1) else (L.foldl dig1 14695981039346656037, L.foldl dig2 14695981039346656037)) := Lib.hid rfl
  obtain ⟨R1, R2, hR⟩ : ∃ R1 R2, digS L = (R1, R2) := ⟨_, _, rfl⟩
  rw [hR] at HD ⊢
  clear hR
  obtain ⟨f, hf⟩ : ∃ f : List UInt8 → Int, f = fun l => l.foldl dig1 14695981039346656037 := ⟨_, rfl⟩
  obtain ⟨g, hg⟩ : ∃ g : List UInt8 → Int, g = fun l => l.foldl dig2 14695981039346656037 := ⟨_, rfl⟩
  have HF : Hid (∀ k (h : k < L.length), f (L.take (k + 1)) = dig1 (f (L.take k)) L[k]) := Lib.hid (fun k h => by rw [hf]; exact foldl_take _ _ _ _ h)
  have HG : Hid (∀ k (h : k < L.length), g (L.take (k + 1)) = dig2 (g (L.take k)) L[k]) := Lib.hid (fun k h => by rw [hg]; exact foldl_take _ _ _ _ h)
  have HF0 : Hid (f (L.take 0) = 14695981039346656037) := Lib.hid (by rw [hf]; rfl)
  have HG0 : Hid (g (L.take 0) = 14695981039346656037) := Lib.hid (by rw [hg]; rfl)
  have HD2 : Hid ((R1, R2) = if f L = 0 ∧ g L = 0 then (0, 1) else (f L, g L)) := Lib.hid (by rw [hf, hg]; exact HD.out)
  clear hf hg HD
  go_enter Try.func49, Try.ntmps49
  go_wp2_with fail
  go_loop [3, 4, 5] (fun n m i => ∃ (k : Nat) (x y : Int), k ≤ L.length ∧ i = .int .i64 k ∧ n = .int .u64 x ∧ m = .int .u64 y ∧ Hid (x = f (L.take k)) ∧ Hid (y = g (L.take k))) (fun _ _ i => L.length - (intOf i).toNat)
  case atStart => exact ⟨0, _, _, by omega, rfl, rfl, rfl, Lib.hid HF0.out.symm, Lib.hid HG0.out.symm⟩
  case round =>
    obtain ⟨k, x, y, hk, rfl, rfl, rfl, HX, HY⟩ := hrel
    by_cases hlt : k < L.length
    · have HN : Hid (f (L.take (k + 1)) = dig1 x L[k]) := Lib.hid (by rw [HX.out]; exact HF.out k hlt)
      have HM : Hid (g (L.take (k + 1)) = dig2 y L[k]) := Lib.hid (by rw [HY.out]; exact HG.out k hlt)
      go_wp2_with fail
      go_round
      case rel => exact ⟨k + 1, _, _, by omega, by go_num, rfl, rfl, Lib.hid (by rw [HN.out]; rfl), Lib.hid (by rw [HM.out]; rfl)⟩
      case measure => simp [intOf]; omega
    · have HN : Hid (f L = x) := Lib.hid (by rw [HX.out, List.take_of_length_le (by omega)])
      have HM : Hid (g L = y) := Lib.hid (by rw [HY.out, List.take_of_length_le (by omega)])
      rw [HN.out, HM.out] at HD2
      by_cases hx : x = 0
      · subst hx
        by_cases hy : y = 0
        · subst hy
          have HR : Hid (R1 = 0 ∧ R2 = 1) := Lib.hid (by simpa using HD2.out)
          go_wp2_with fail
          refine bodyPost_ret (v := .agg #[.int .u64 0, .int .u64 1]) (by simp [results, Try.results49, go_sem]) rfl ⟨by rw [HR.out.1, HR.out.2], ?_⟩
          exact (Below.refl _ w).alloc (Nat.le_refl _) _
        · have HR : Hid (R1 = 0 ∧ R2 = y) := Lib.hid (by simpa [hy] using HD2.out)
          have hy' : (y == 0) = false := by simpa using hy
          clear hy
          go_wp2_with fail
          refine bodyPost_ret (v := .agg #[.int .u64 0, .int .u64 y]) (by simp [results, Try.results49, go_sem]) rfl ⟨by rw [HR.out.1, HR.out.2], ?_⟩
          exact (Below.refl _ w).alloc (Nat.le_refl _) _
      · have HR : Hid (R1 = x ∧ R2 = y) := Lib.hid (by simpa [hx] using HD2.out)
        have hx' : (x == 0) = false := by simpa using hx
        clear hx
        go_wp2_with fail
        refine bodyPost_ret (v := .agg #[.int .u64 x, .int .u64 y]) (by simp [results, Try.results49, go_sem]) rfl ⟨by rw [HR.out.1, HR.out.2], ?_⟩
        exact (Below.refl _ w).alloc (Nat.le_refl _) _

theorem be_snoc : ∀ (k : Nat) (x : Int), be (k + 1) x = be k (x / 256) ++ [UInt8.ofNat (x % 256).toNat]
  | 0, x => by simp [be]
  | k + 1, x => by
    have ih := be_snoc k x
    rw [be, ih]
    conv => rhs; rw [be]
    rw [List.cons_append]
    congr 4
    rw [show 8 * (k + 1) = 8 + 8 * k by omega, Int.pow_add, Int.ediv_mul, if_neg (fun h => absurd h.1 (by decide)), Int.add_zero]
    rfl

set_option maxHeartbeats 1000000 in
theorem bytes_any (f : Nat) : ∀ (x : Int) (w : World), f ≤ 8 → 0 ≤ x → x < 18446744073709551616 →
    Calls Try.prog 47 #[.int .u64 x, .int .i64 f] w fun e w' => e = .returned (.string ⟨(be f x).toArray⟩) ∧ Below w.heap.size w w' := by
  induction f with
  | zero =>
    intro x w _ h0 _
    go_enter Try.func47, Try.ntmps47
    go_wp2_with fail
    go_ret
    exact ⟨rfl, Below.refl _ _⟩
  | succ f ih =>
    intro x w hf h0 h1
    obtain ⟨y, hy⟩ : ∃ y, y = x / 256 := ⟨_, rfl⟩
    obtain ⟨c, hc⟩ : ∃ c, c = x % 256 := ⟨_, rfl⟩
    obtain ⟨L, hL⟩ : ∃ L, L = be f y := ⟨_, rfl⟩
    have IH : Hid (∀ w : World, Calls Try.prog 47 #[.int .u64 y, .int .i64 f] w fun e w' => e = .returned (.string ⟨L.toArray⟩) ∧ Below w.heap.size w w') := Lib.hid (fun w => by rw [hL]; exact ih y w (by omega) (by omega) (by omega))
    have hLl : L.length ≤ 10 := by rw [hL, be_length]; omega
    have HR : Hid (be (f + 1) x = L ++ [UInt8.ofNat c.toNat]) := Lib.hid (by rw [be_snoc, hL, hy, hc])
    have hcv := conv_new
    have hcv2 := conv_new_drew
    have hadd := fun W => run_string_add_lists (P := Try.prog) W L [UInt8.ofNat c.toNat] (by omega) (by simp)
    have hq : x / 2 ^ 8 = y := by rw [hy]; rfl
    have hq2 : x / 256 = y := hy.symm
    have hr : IntKind.u8.wrap x = c := by rw [hc]; simp [IntKind.wrap, IntKind.bits, IntKind.signed]
    have hc0 : 0 ≤ c := by omega
    have hc1 : c < 256 := by omega
    have hf1 : (((f + 1 : Nat) : Int) == 0) = false := by simp; omega
    have hfs : ((f + 1 : Nat) : Int) - 1 = (f : Int) := by omega
    have hfs2 : IntKind.i64.wrap (f : Int) = (f : Int) := wrap_i64 (by omega) (by omega)
    clear ih hL
    obtain ⟨n, hn⟩ : ∃ n : Int, n = ((f + 1 : Nat) : Int) := ⟨_, rfl⟩
    rw [← hn] at hf1 hfs ⊢
    clear hn hy hc
    go_enter Try.func47, Try.ntmps47
    go_wp2_with fail
    go_region_with (go_at_call 47; (with_reducible refine (IH.out _).mono ?_); rintro e w' ⟨rfl, hb⟩; have hcc := fun hlt hc => conv_at w' w.heap.size c ((hb.cell (p := ⟨w.heap.size, 0, none⟩) hlt).trans hc))
    all_goals
      go_wp2
      go_ret
      refine ⟨ret_str rfl HR.out.symm, ?_⟩
      first
        | exact ((((Below.refl _ w).alloc (Nat.le_refl _) _).drew).trans (hb.mono (by simp)))
        | exact ((Below.refl _ w).drew.trans hb).alloc (hb.size) _

theorem number_any (n : Int) (h0 : 0 ≤ n) (h1 : n ≤ 1099511627776) (w : World) : Calls Try.prog 46 #[.int .i64 n] w fun e w' => e = .returned (.string ⟨(Cw.enc n.toNat).toArray⟩) ∧ Below w.heap.size w w' := by
  have HP : Hid (∀ W, Calls Try.prog 64 #[.int .i64 n] W fun e w' => e = .returned (.tuple #[.string ⟨(Cw.enc n.toNat).toArray⟩, .int .i64 0]) ∧ Below W.heap.size W w') := Lib.hid (fun W => by
    have h := refPutInt_any n W
    have : putI n = (Cw.enc n.toNat, 0) := by unfold putI; rw [if_pos ((Cw.inR_iff n).2 ⟨h0, h1⟩)]
    rw [this] at h
    exact h)
  go_enter Try.func46, Try.ntmps46
  go_wp2_with fail
  refine (HP.out _).mono ?_
  rintro e x ⟨rfl, hb⟩
  have HB := Lib.hid hb
  clear hb
  go_wp2_with fail
  go_ret
  exact ⟨rfl, HB.out⟩

end Go.Proofs.Ytlijaacjfnjmjaa
