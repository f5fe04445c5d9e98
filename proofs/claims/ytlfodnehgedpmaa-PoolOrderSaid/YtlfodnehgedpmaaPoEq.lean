/- slices.Clone and slices.Equal at digests. -/
import Derived.Test.YtlfodnehgedpmaaPoLk
namespace Go.Proofs.Ytlfodnehgedpmaa
open Go.RowKit Go.Shelf
set_option linter.unusedVariables false

set_option maxRecDepth 100000 in
set_option maxHeartbeats 1000000 in
theorem cloneD_any (a : Option Addr) (ds : List (Int × Int)) (c : Nat) (w : World) (h : Digs w.heap.size w a ds) (hn : (ds.length : Int) ≤ 1000000) :
    Calls Try.prog 14 #[.slice a ds.length c] w (GotDs w ds) := by
  cases a with
  | none =>
    have hd : ds = [] := by
      cases ds with
      | nil => rfl
      | cons x xs =>
        obtain ⟨b, off, e, _⟩ := h 0 (by simp)
        cases e
    subst hd
    clear h
    have hq : ∀ W, (binOp .eql 31 (.slice none 0 c) (.slice none 0 0)).run Try.prog W = .ok (.bool true) W := fun W => by
      simp only [binOp]
      simp [Op.equal, Op.maxDepth, Lib.run_equalIn_slice_nil W 9999 31 30 none 0 c 0 0 Try.underlying31]
    go_enter Try.func14, Try.ntmps14
    go_wp2_with fail
    go_ret
    exact ⟨none, 0, rfl, World.ownsRow_nil _ _ _ _, Below.refl _ _⟩
  | some ad =>
    obtain ⟨v', W', hrun, hown, hg, _⟩ := append_digs (w.alloc (.cells #[] 30)) w.heap.size 31 (.slice (some ⟨w.heap.size, 0, none⟩) 0 0) [] (World.ownsRow_made (size := 2) w #[] 0 (Nat.le_refl _) (by decide) rfl) (some ad) ds c ((h.below ((Below.refl _ w).alloc (Nat.le_refl _) _) (Nat.le_refl _)).mono (by simp)) (by simp; omega) (by simp)
    have HO := Lib.hid hown
    have HB : Hid (Below w.heap.size w W') := Lib.hid (((Below.refl _ w).alloc (Nat.le_refl _) _).grown hg (by simp) (fun k hk => by simp [Value.ownBlock] at hk; omega))
    obtain ⟨n, hnn⟩ : ∃ n, n = ds.length := ⟨_, rfl⟩
    rw [← hnn] at hrun ⊢
    have HRUN := Lib.hid hrun
    clear hrun hown hg hnn h
    have hq : ∀ W, (binOp .eql 31 (.slice (some ad) n c) (.slice none 0 0)).run Try.prog W = .ok (.bool false) W := fun W => by
      simp only [binOp]
      simp [Op.equal, Op.maxDepth, Lib.run_equalIn_slice_nil W 9999 31 30 (some ad) n c 0 0 Try.underlying31]
    go_enter Try.func14, Try.ntmps14
    go_wp2_with (at_builtin; refine Lib.wpList_append_run _ rfl _ _ _ _ rfl _ _ rfl rfl _ _ HRUN.out ?_)
    obtain ⟨a2, c2, rfl, _⟩ := ownsRow_sliceN HO.out
    go_ret
    exact ⟨a2, c2, rfl, HO.out, HB.out⟩

theorem eq_take_full {α : Type} {l m : List α} (hl : l.length = m.length) (k : Nat) (h : l.take k = m.take k) (hk : l.length ≤ k) : l = m := by
  rwa [List.take_of_length_le hk, List.take_of_length_le (by omega)] at h
set_option maxRecDepth 100000 in
set_option maxHeartbeats 1000000 in
theorem equalD_any (a b : Option Addr) (ds es : List (Int × Int)) (c c' : Nat) (w : World) (h : Digs w.heap.size w a ds) (h' : Digs w.heap.size w b es) (hn : (ds.length : Int) ≤ 1000000000) (hn' : (es.length : Int) ≤ 1000000000) :
    Calls Try.prog 10 #[.slice a ds.length c, .slice b es.length c'] w fun e w' => e = .returned (.bool (decide (ds = es))) ∧ Below w.heap.size w w' := by
  obtain ⟨R, hR⟩ : ∃ R, R = decide (ds = es) := ⟨_, rfl⟩
  rw [← hR]
  have HR := Lib.hid hR
  have H := Lib.hid h
  have H' := Lib.hid h'
  obtain ⟨n, hnn⟩ : ∃ n, n = ds.length := ⟨_, rfl⟩
  obtain ⟨m, hmm⟩ : ∃ m, m = es.length := ⟨_, rfl⟩
  rw [← hnn] at hn ⊢
  rw [← hmm] at hn' ⊢
  have HN := Lib.hid hnn
  have HM := Lib.hid hmm
  clear h h' hnn hmm hR
  by_cases hnm : n = m
  · subst hnm
    have e1 : ((n : Int) != (n : Int)) = false := by simp
    go_enter Try.func10, Try.ntmps10
    go_wp2_with fail
    go_loopw [13] (fun i wr => ∃ k : Nat, k ≤ n ∧ i = .int .i64 k ∧ Hid (Below w.heap.size w wr) ∧ Hid (ds.take k = es.take k)) (fun i _ => n - (intOf i).toNat)
    case atStart => exact ⟨0, by omega, rfl, Lib.hid (Below.refl _ _), Lib.hid rfl⟩
    case round =>
      obtain ⟨k, hk, rfl, HB, HT⟩ := hrel
      have hws := HB.out.size
      by_cases hlt : k < n
      · have h1 : k < ds.length := by have := HN.out; omega
        have h2 : k < es.length := by have := HM.out; omega
        obtain ⟨b0, o0, rfl, hb0, q0, q1⟩ := (H.out.below HB.out (Nat.le_refl _)) k h1
        obtain ⟨b1, o1, rfl, hb1, r0, r1⟩ := (H'.out.below HB.out (Nat.le_refl _)) k h2
        have HS := Lib.hid (fun (h : ds[k] = es[k]) => take_eq_step HT.out h1 h2 h)
        have HD := Lib.hid (fun (h : ds[k] ≠ es[k]) (e : ds = es) => h (by subst e; rfl))
        generalize ds[k] = x at q0 q1 HS HD
        generalize es[k] = y at r0 r1 HS HD
        obtain ⟨x1, x2⟩ := x
        obtain ⟨y1, y2⟩ := y
        simp only at q0 q1 r0 r1
        have hq := fun W => neq_dig x1 x2 y1 y2 W
        cases hz : (x1 == y1 && x2 == y2) with
        | true =>
          rw [hz] at hq
          have HT2 := Lib.hid (HS.out (by
            simp only [Bool.and_eq_true, beq_iff_eq] at hz
            rw [hz.1, hz.2]))
          clear hz HS HD HT
          go_wp2_with fail
          go_quiet (fail)
          go_wp2_with fail
          go_roundw
          case rel => exact ⟨k + 1, by omega, by go_num, Lib.hid (below_drewN HB.out _), HT2⟩
          case measure => simp [intOf]; omega
        | false =>
          rw [hz] at hq
          have HF : Hid (R = false) := Lib.hid (by
            rw [HR.out]
            refine decide_eq_false (HD.out ?_)
            intro h
            simp only [Prod.mk.injEq] at h
            simp [h.1, h.2] at hz)
          clear hz HS HD HT
          go_wp2_with fail
          go_quiet (fail)
          go_wp2_with fail
          go_ret
          exact ⟨by rw [HF.out]; rfl, below_drewN HB.out _⟩
      · have HF : Hid (R = true) := Lib.hid (by
          rw [HR.out]
          exact decide_eq_true (eq_take_full (by rw [← HN.out, ← HM.out]) k HT.out (by rw [← HN.out]; omega)))
        go_wp2_with fail
        go_ret
        exact ⟨by rw [HF.out]; rfl, HB.out⟩
  · have e1 : ((n : Int) != (m : Int)) = true := by simp; omega
    have e2 : (n != m) = true := by simpa using hnm
    have HF : Hid (R = false) := Lib.hid (by
      rw [HR.out]
      refine decide_eq_false (fun e => hnm ?_)
      rw [HN.out, HM.out, e])
    clear hnm
    go_enter Try.func10, Try.ntmps10
    go_wp2_with fail
    go_ret
    exact ⟨by rw [HF.out]; rfl, Below.refl _ _⟩

end Go.Proofs.Ytlfodnehgedpmaa
