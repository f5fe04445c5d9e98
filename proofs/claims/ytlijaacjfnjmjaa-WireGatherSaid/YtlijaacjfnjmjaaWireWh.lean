/- wire.Whole and the reference's Whole and Gap. -/
import Derived.Test.YtlijaacjfnjmjaaWireRV
import Derived.Test.YtlijaacjfnjmjaaWireGap
namespace Go.Proofs.Ytlijaacjfnjmjaa
open Go.RowKit

/-- What Whole answers. -/
def wholeS (id tot : Int) : List P → List UInt8 × Bool
  | [p] => if vParts id tot [p] = true ∧ (p.2.length : Int) = tot then (p.2, true) else ([], false)
  | _ => ([], false)
theorem wholeS_one (id tot : Int) (p : P) : wholeS id tot [p] = if vParts id tot [p] = true ∧ (p.2.length : Int) = tot then (p.2, true) else ([], false) := rfl
theorem wholeS_not {id tot : Int} {ps : List P} (h : ps.length ≠ 1) : wholeS id tot ps = ([], false) := by
  match ps, h with
  | [], _ => rfl
  | [p], h => simp at h
  | p :: q :: r, _ => rfl

set_option maxHeartbeats 2000000 in
theorem whole_any (id tot : Int) (a : Option Addr) (ps : List P) (c : Nat) (w : World) (hps : Pcs w.heap.size w a ps) (hn : (ps.length : Int) ≤ 1048576) (hsz : ∀ p ∈ ps, p.2.length ≤ 1048576) :
    Calls Try.prog 21 #[.agg #[.int .i64 id, .int .i64 tot, .slice a ps.length c]] w fun e w' => e = .returned (.tuple #[.string ⟨(wholeS id tot ps).1.toArray⟩, .bool (wholeS id tot ps).2]) ∧ Below w.heap.size w w' := by
  by_cases h1 : ps.length = 1
  · obtain ⟨p, rfl⟩ : ∃ p, ps = [p] := List.length_eq_one_iff.1 h1
    clear h1
    obtain ⟨R, hR⟩ : ∃ R, R = wholeS id tot [p] := ⟨_, rfl⟩
    rw [← hR]
    obtain ⟨v, hv⟩ : ∃ v, v = vParts id tot [p] := ⟨_, rfl⟩
    rw [wholeS_one, ← hv] at hR
    have HV := Lib.hid (fun W (hW : Below w.heap.size w W) => validParts_any id tot a [p] c W ((hps.below hW (Nat.le_refl _)).mono hW.size) (by simp) (fun q hq => by have := hsz q hq; omega))
    rw [← hv] at HV
    obtain ⟨b, off, rfl, hbl, hc, hd⟩ := hps 0 (by simp)
    obtain ⟨o, T⟩ := p
    have hT : (T.length : Int) ≤ 1048576 := by have := hsz (o, T) (by simp); simp at this; omega
    simp only [List.getElem_cons_zero, Nat.zero_mul, Nat.add_zero] at hc hd
    simp only [List.length_singleton] at HV ⊢
    have HPS := Lib.hid hps
    have HR := Lib.hid hR
    clear hv hR hsz hps hn
    obtain ⟨W, hW⟩ : ∃ W : World, w.alloc (.cells #[.int .i64 id, .int .i64 tot, .slice (some ⟨b, off, none⟩) 1 c] 31) = W := ⟨_, rfl⟩
    have HBW : Hid (Below w.heap.size w W) := Lib.hid (by rw [← hW]; exact (Below.refl _ w).alloc (Nat.le_refl _) _)
    have w0 : W.cell? ⟨w.heap.size, 0, none⟩ = some (.int .i64 id) := by rw [← hW]; simp
    have w1 : W.cell? ⟨w.heap.size, 1, none⟩ = some (.int .i64 tot) := by rw [← hW]; simp
    have w2 : W.cell? ⟨w.heap.size, 2, none⟩ = some (.slice (some ⟨b, off, none⟩) 1 c) := by rw [← hW]; simp
    have g0 : W.cell? ⟨b, off, none⟩ = some (.int .i64 o) := (HBW.out.cell (p := ⟨b, off, none⟩) hbl).trans hc
    have g1 : W.cell? ⟨b, off + 1, none⟩ = some (.string ⟨T.toArray⟩) := (HBW.out.cell (p := ⟨b, off + 1, none⟩) hbl).trans hd
    clear hc hd
    have HEq := Lib.hid (fun d os => Calls.regrown_of (w := W) (d := d) (os := os) (HV.out _ (HBW.out.trans ((below_regrown W d os).mono HBW.out.size))))
    have k0 := cell_regrown w0
    have k1 := cell_regrown w1
    have k2 := cell_regrown w2
    have k3 := cell_regrown g0
    have k4 := cell_regrown g1
    have hsz0 : w.heap.size + 1 = W.heap.size := by rw [← hW]; simp
    cases v with
    | false =>
      have HF : Hid (R = ([], false)) := Lib.hid (by rw [HR.out]; simp)
      clear HR
      go_enter Try.func21, Try.ntmps21
      go_wp2_with fail
      refine wp_region_quiet_below (by kernel_rfl) (by kernel_rfl) ?_
      repeat (any_goals (first | go_big_quiet_step (exact HEq.out _ _) | quiet_step (exact HEq.out _ _)))
      refine wpQuiet_nil ?_
      intro w2 hw2
      have HB2 := Lib.hid (below_rg hw2)
      clear hw2 HEq k0 k1 k2 k3 k4
      go_wp2_with fail
      go_ret2
      exact ⟨by rw [HF.out]; rfl, HBW.out.trans (HB2.out.mono HBW.out.size)⟩
    | true =>
      by_cases ht : (T.length : Int) = tot
      · have HF : Hid (R = (T, true)) := Lib.hid (by rw [HR.out]; simp [ht])
        have t0 : ((T.length : Int) != tot) = false := by simpa using ht
        clear HR ht
        go_enter Try.func21, Try.ntmps21
        go_wp2_with fail
        refine wp_region_quiet_below (by kernel_rfl) (by kernel_rfl) ?_
        repeat (any_goals (first | go_big_quiet_step (exact HEq.out _ _) | quiet_step (exact HEq.out _ _)))
        refine wpQuiet_nil ?_
        intro x hx
        have HB2 := Lib.hid (below_rg hx)
        have j2 := (HB2.out.cell (p := ⟨w.heap.size, 2, none⟩) (by simp; omega)).trans w2
        have j4 := (HB2.out.cell (p := ⟨b, off + 1, none⟩) (by simp; omega)).trans g1
        clear hx HEq k0 k1 k2 k3 k4
        go_wp2_with fail
        go_ret2
        exact ⟨by rw [HF.out]; rfl, HBW.out.trans (HB2.out.mono HBW.out.size)⟩
      · have HF : Hid (R = ([], false)) := Lib.hid (by rw [HR.out]; simp [ht])
        have t0 : ((T.length : Int) != tot) = true := by simpa using ht
        clear HR ht
        go_enter Try.func21, Try.ntmps21
        go_wp2_with fail
        refine wp_region_quiet_below (by kernel_rfl) (by kernel_rfl) ?_
        repeat (any_goals (first | go_big_quiet_step (exact HEq.out _ _) | quiet_step (exact HEq.out _ _)))
        refine wpQuiet_nil ?_
        intro x hx
        have HB2 := Lib.hid (below_rg hx)
        clear hx HEq k0 k1 k2 k3 k4
        go_wp2_with fail
        go_ret2
        exact ⟨by rw [HF.out]; rfl, HBW.out.trans (HB2.out.mono HBW.out.size)⟩
  · rw [wholeS_not h1]
    obtain ⟨n, hnn⟩ : ∃ n, n = ps.length := ⟨_, rfl⟩
    rw [← hnn] at h1 ⊢
    have t0 : ((n : Int) != 1) = true := by simp; omega
    clear hnn h1 hn hsz hps
    go_enter Try.func21, Try.ntmps21
    go_wp2_with fail
    go_quiet (fail)
    go_wp2_with fail
    go_ret2
    exact ⟨rfl, below_drewN ((Below.refl _ w).alloc (Nat.le_refl _) _) _⟩

set_option maxHeartbeats 2000000 in
theorem refWhole_any (id tot : Int) (a : Option Addr) (ps : List P) (c : Nat) (w : World) (hps : Pcs w.heap.size w a ps) (hn : (ps.length : Int) ≤ 1048576) (hsz : ∀ p ∈ ps, p.2.length ≤ 1048576) :
    Calls Try.prog 22 #[.agg #[.int .i64 id, .int .i64 tot, .slice a ps.length c]] w fun e w' => e = .returned (.tuple #[.string ⟨(wholeS id tot ps).1.toArray⟩, .bool (wholeS id tot ps).2]) ∧ Below w.heap.size w w' := by
  by_cases h1 : ps.length = 1
  · obtain ⟨p, rfl⟩ : ∃ p, ps = [p] := List.length_eq_one_iff.1 h1
    clear h1
    obtain ⟨R, hR⟩ : ∃ R, R = wholeS id tot [p] := ⟨_, rfl⟩
    rw [← hR]
    obtain ⟨v, hv⟩ : ∃ v, v = vParts id tot [p] := ⟨_, rfl⟩
    rw [wholeS_one, ← hv] at hR
    have HV := Lib.hid (fun W (hW : Below w.heap.size w W) => refValid_any id tot a [p] c W ((hps.below hW (Nat.le_refl _)).mono hW.size) (by simp) (fun q hq => hsz q hq))
    rw [← hv] at HV
    obtain ⟨b, off, rfl, hbl, hc, hd⟩ := hps 0 (by simp)
    obtain ⟨o, T⟩ := p
    have hT : (T.length : Int) ≤ 1048576 := by have := hsz (o, T) (by simp); simp at this; omega
    simp only [List.getElem_cons_zero, Nat.zero_mul, Nat.add_zero] at hc hd
    simp only [List.length_singleton] at HV ⊢
    have HPS := Lib.hid hps
    have HR := Lib.hid hR
    clear hv hR hsz hps hn
    obtain ⟨W, hW⟩ : ∃ W : World, w.alloc (.cells #[.int .i64 id, .int .i64 tot, .slice (some ⟨b, off, none⟩) 1 c] 31) = W := ⟨_, rfl⟩
    have HBW : Hid (Below w.heap.size w W) := Lib.hid (by rw [← hW]; exact (Below.refl _ w).alloc (Nat.le_refl _) _)
    have w0 : W.cell? ⟨w.heap.size, 0, none⟩ = some (.int .i64 id) := by rw [← hW]; simp
    have w1 : W.cell? ⟨w.heap.size, 1, none⟩ = some (.int .i64 tot) := by rw [← hW]; simp
    have w2 : W.cell? ⟨w.heap.size, 2, none⟩ = some (.slice (some ⟨b, off, none⟩) 1 c) := by rw [← hW]; simp
    have g0 : W.cell? ⟨b, off, none⟩ = some (.int .i64 o) := (HBW.out.cell (p := ⟨b, off, none⟩) hbl).trans hc
    have g1 : W.cell? ⟨b, off + 1, none⟩ = some (.string ⟨T.toArray⟩) := (HBW.out.cell (p := ⟨b, off + 1, none⟩) hbl).trans hd
    clear hc hd
    have HEq := Lib.hid (fun d os => Calls.regrown_of (w := W) (d := d) (os := os) (HV.out _ (HBW.out.trans ((below_regrown W d os).mono HBW.out.size))))
    have k0 := cell_regrown w0
    have k1 := cell_regrown w1
    have k2 := cell_regrown w2
    have k3 := cell_regrown g0
    have k4 := cell_regrown g1
    have hsz0 : w.heap.size + 1 = W.heap.size := by rw [← hW]; simp
    cases v with
    | false =>
      have HF : Hid (R = ([], false)) := Lib.hid (by rw [HR.out]; simp)
      clear HR
      go_enter Try.func22, Try.ntmps22
      go_wp2_with fail
      refine wp_region_quiet_below (by kernel_rfl) (by kernel_rfl) ?_
      repeat (any_goals (first | go_big_quiet_step (exact HEq.out _ _) | quiet_step (exact HEq.out _ _)))
      refine wpQuiet_nil ?_
      intro w2 hw2
      have HB2 := Lib.hid (below_rg hw2)
      clear hw2 HEq k0 k1 k2 k3 k4
      go_wp2_with fail
      go_ret2
      exact ⟨by rw [HF.out]; rfl, HBW.out.trans (HB2.out.mono HBW.out.size)⟩
    | true =>
      by_cases ht : (T.length : Int) = tot
      · have HF : Hid (R = (T, true)) := Lib.hid (by rw [HR.out]; simp [ht])
        have t0 : ((T.length : Int) != tot) = false := by simpa using ht
        clear HR ht
        go_enter Try.func22, Try.ntmps22
        go_wp2_with fail
        refine wp_region_quiet_below (by kernel_rfl) (by kernel_rfl) ?_
        repeat (any_goals (first | go_big_quiet_step (exact HEq.out _ _) | quiet_step (exact HEq.out _ _)))
        refine wpQuiet_nil ?_
        intro x hx
        have HB2 := Lib.hid (below_rg hx)
        have j2 := (HB2.out.cell (p := ⟨w.heap.size, 2, none⟩) (by simp; omega)).trans w2
        have j4 := (HB2.out.cell (p := ⟨b, off + 1, none⟩) (by simp; omega)).trans g1
        clear hx HEq k0 k1 k2 k3 k4
        go_wp2_with fail
        go_ret2
        exact ⟨by rw [HF.out]; rfl, HBW.out.trans (HB2.out.mono HBW.out.size)⟩
      · have HF : Hid (R = ([], false)) := Lib.hid (by rw [HR.out]; simp [ht])
        have t0 : ((T.length : Int) != tot) = true := by simpa using ht
        clear HR ht
        go_enter Try.func22, Try.ntmps22
        go_wp2_with fail
        refine wp_region_quiet_below (by kernel_rfl) (by kernel_rfl) ?_
        repeat (any_goals (first | go_big_quiet_step (exact HEq.out _ _) | quiet_step (exact HEq.out _ _)))
        refine wpQuiet_nil ?_
        intro x hx
        have HB2 := Lib.hid (below_rg hx)
        clear hx HEq k0 k1 k2 k3 k4
        go_wp2_with fail
        go_ret2
        exact ⟨by rw [HF.out]; rfl, HBW.out.trans (HB2.out.mono HBW.out.size)⟩
  · rw [wholeS_not h1]
    obtain ⟨v, hv⟩ : ∃ v, v = vParts id tot ps := ⟨_, rfl⟩
    have HV := Lib.hid (fun W (hW : Below w.heap.size w W) => refValid_any id tot a ps c W ((hps.below hW (Nat.le_refl _)).mono hW.size) hn hsz)
    rw [← hv] at HV
    obtain ⟨n, hnn⟩ : ∃ n, n = ps.length := ⟨_, rfl⟩
    rw [← hnn] at h1 HV ⊢
    have t0 : ((n : Int) != 1) = true := by simp; omega
    clear hnn h1 hn hsz hps hv
    obtain ⟨W, hW⟩ : ∃ W : World, w.alloc (.cells #[.int .i64 id, .int .i64 tot, .slice a n c] 31) = W := ⟨_, rfl⟩
    have HBW : Hid (Below w.heap.size w W) := Lib.hid (by rw [← hW]; exact (Below.refl _ w).alloc (Nat.le_refl _) _)
    have w0 : W.cell? ⟨w.heap.size, 0, none⟩ = some (.int .i64 id) := by rw [← hW]; simp
    have w1 : W.cell? ⟨w.heap.size, 1, none⟩ = some (.int .i64 tot) := by rw [← hW]; simp
    have w2 : W.cell? ⟨w.heap.size, 2, none⟩ = some (.slice a n c) := by rw [← hW]; simp
    have HEq := Lib.hid (fun d os => Calls.regrown_of (w := W) (d := d) (os := os) (HV.out _ (HBW.out.trans ((below_regrown W d os).mono HBW.out.size))))
    have k0 := cell_regrown w0
    have k1 := cell_regrown w1
    have k2 := cell_regrown w2
    cases v <;>
    · go_enter Try.func22, Try.ntmps22
      go_wp2_with fail
      refine wp_region_quiet_below (by kernel_rfl) (by kernel_rfl) ?_
      repeat (any_goals (first | go_big_quiet_step (exact HEq.out _ _) | quiet_step (exact HEq.out _ _)))
      refine wpQuiet_nil ?_
      intro w2 hw2
      have HB2 := Lib.hid (below_rg hw2)
      clear hw2 HEq k0 k1 k2
      go_wp2_with fail
      go_ret2
      exact ⟨rfl, HBW.out.trans (HB2.out.mono HBW.out.size)⟩

set_option maxHeartbeats 2000000 in
theorem refGap_any (id tot : Int) (a : Option Addr) (ps : List P) (c : Nat) (w : World) (hps : Pcs w.heap.size w a ps) (hn : (ps.length : Int) ≤ 1048576) (hsz : ∀ p ∈ ps, p.2.length ≤ 1048576) :
    Calls Try.prog 24 #[.agg #[.int .i64 id, .int .i64 tot, .slice a ps.length c]] w fun e w' => e = .returned (.tuple #[.int .i64 (gapS id tot ps).1, .int .i64 (gapS id tot ps).2.1, .bool (gapS id tot ps).2.2]) ∧ Below w.heap.size w w' := by
  obtain ⟨v, hv⟩ : ∃ v, v = vParts id tot ps := ⟨_, rfl⟩
  obtain ⟨R, hR⟩ : ∃ R, R = gapS id tot ps := ⟨_, rfl⟩
  rw [← hR]
  have HV := Lib.hid (fun W (hW : Below w.heap.size w W) => refValid_any id tot a ps c W ((hps.below hW (Nat.le_refl _)).mono hW.size) hn hsz)
  rw [← hv] at HV
  obtain ⟨W, hW⟩ : ∃ W : World, w.alloc (.cells #[.int .i64 id, .int .i64 tot, .slice a ps.length c] 31) = W := ⟨_, rfl⟩
  have HBW : Hid (Below w.heap.size w W) := Lib.hid (by rw [← hW]; exact (Below.refl _ w).alloc (Nat.le_refl _) _)
  have w0 : W.cell? ⟨w.heap.size, 0, none⟩ = some (.int .i64 id) := by rw [← hW]; simp
  have w1 : W.cell? ⟨w.heap.size, 1, none⟩ = some (.int .i64 tot) := by rw [← hW]; simp
  have w2 : W.cell? ⟨w.heap.size, 2, none⟩ = some (.slice a ps.length c) := by rw [← hW]; simp
  have hsz0 : w.heap.size + 1 = W.heap.size := by rw [← hW]; simp
  have HPS := Lib.hid hps
  cases v with
  | false =>
    have HF : Hid (R = (0, 0, false)) := Lib.hid (by
      rw [hR]
      cases ps with
      | nil => rfl
      | cons p r => rw [gapS_cons, if_pos hv.symm])
    obtain ⟨n, hnn⟩ : ∃ n, n = ps.length := ⟨_, rfl⟩
    rw [← hnn] at HV w2 hW ⊢
    clear hv hR hsz hps hn hnn
    go_enter Try.func24, Try.ntmps24
    go_wp2_with fail
    refine (HV.out _ HBW.out).mono ?_
    rintro e x ⟨rfl, hb⟩
    have HB := Lib.hid hb
    clear hb
    go_wp2_with fail
    go_ret3
    exact ⟨by rw [HF.out]; rfl, HBW.out.trans (HB.out.mono HBW.out.size)⟩
  | true =>
    cases ps with
    | nil =>
      have HF : Hid (R = (0, 0, false)) := Lib.hid hR
      simp only [List.length_nil] at HV w2 hW ⊢
      clear hv hR hsz hps hn
      go_enter Try.func24, Try.ntmps24
      go_wp2_with fail
      refine (HV.out _ HBW.out).mono ?_
      rintro e x ⟨rfl, hb⟩
      have HB := Lib.hid hb
      have j2 := (hb.cell (p := ⟨w.heap.size, 2, none⟩) (by simp; omega)).trans w2
      clear hb
      go_wp2_with fail
      go_ret3
      exact ⟨by rw [HF.out]; rfl, HBW.out.trans (HB.out.mono HBW.out.size)⟩
    | cons p r =>
      rw [gapS_cons, if_neg (by rw [← hv]; decide)] at hR
      obtain ⟨b, off, rfl, hbl, hc, hd⟩ := hps 0 (by simp)
      obtain ⟨o, T⟩ := p
      have hT : (T.length : Int) ≤ 1048576 := by have := hsz (o, T) (by simp); simp at this; omega
      simp only [List.getElem_cons_zero, Nat.zero_mul, Nat.add_zero] at hc hd
      have g0 : W.cell? ⟨b, off, none⟩ = some (.int .i64 o) := (HBW.out.cell (p := ⟨b, off, none⟩) hbl).trans hc
      have g1 : W.cell? ⟨b, off + 1, none⟩ = some (.string ⟨T.toArray⟩) := (HBW.out.cell (p := ⟨b, off + 1, none⟩) hbl).trans hd
      have hvg : vgo tot (-1) ((o, T) :: r) = true ∧ 0 ≤ tot ∧ tot ≤ 1048576 := by
        have h := hv.symm
        unfold vParts at h
        simp only [List.isEmpty_cons, Bool.false_or, Bool.and_eq_true, decide_eq_true_eq] at h
        exact ⟨h.2, h.1.2.2.1, h.1.2.2.2⟩
      have ho := vgo_all hvg.1 (o, T) (by simp)
      have ho0 : 0 ≤ o := ho.1
      have ho1 : o + T.length ≤ 1048576 := by have := ho.2.2.1; simp only [pend] at this; omega
      have ht0 := hvg.2.1
      have ht1 := hvg.2.2
      clear hc hd
      obtain ⟨n, hnn⟩ : ∃ n, n = ((o, T) :: r).length := ⟨_, rfl⟩
      have hn1 : 0 < n := by rw [hnn]; simp
      rw [← hnn] at HV w2 hW hn ⊢
      by_cases h1 : 0 < o
      · rw [if_pos h1] at hR
        have HF := Lib.hid hR
        clear hv hR hsz hps hnn ho hvg
        go_enter Try.func24, Try.ntmps24
        go_wp2_with fail
        refine (HV.out _ HBW.out).mono ?_
        rintro e x ⟨rfl, hb⟩
        have HB := Lib.hid hb
        have j2 := (hb.cell (p := ⟨w.heap.size, 2, none⟩) (by simp; omega)).trans w2
        have j3 := (hb.cell (p := ⟨b, off, none⟩) (by simp; omega)).trans g0
        have n0 : ((n : Int) == 0) = false := by simp; omega
        clear hb
        go_wp2_with fail
        go_quiet (fail)
        go_wp2_with fail
        go_ret3
        exact ⟨by rw [HF.out]; rfl, below_drewN (HBW.out.trans (HB.out.mono HBW.out.size)) _⟩
      · obtain rfl : o = 0 := by omega
        rw [if_neg h1] at hR
        have hR : R = if (T.length : Int) = nxt tot r then (0, 0, false) else ((T.length : Int), nxt tot r - T.length, true) := by rw [hR]; simp only [pend, Int.zero_add]
        cases r with
        | nil =>
          have hR : R = if (T.length : Int) = tot then (0, 0, false) else ((T.length : Int), tot - T.length, true) := hR
          simp only [List.length_singleton] at hnn
          subst hnn
          clear hv hsz hps ho hvg h1
          by_cases he : (T.length : Int) = tot
          · rw [if_pos he] at hR
            have HF := Lib.hid hR
            have e0 : ((T.length : Int) == tot) = true := by simpa using he
            clear hR he
            go_enter Try.func24, Try.ntmps24
            go_wp2_with fail
            refine (HV.out _ HBW.out).mono ?_
            rintro e x ⟨rfl, hb⟩
            have HB := Lib.hid hb
            have j1 := (hb.cell (p := ⟨w.heap.size, 1, none⟩) (by simp; omega)).trans w1
            have j2 := (hb.cell (p := ⟨w.heap.size, 2, none⟩) (by simp; omega)).trans w2
            have j3 := (hb.cell (p := ⟨b, off, none⟩) (by simp; omega)).trans g0
            have j4 := (hb.cell (p := ⟨b, off + 1, none⟩) (by simp; omega)).trans g1
            clear hb
            go_wp2_with fail
            go_quiet (fail)
            go_wp2_with fail
            go_ret3
            exact ⟨by rw [HF.out]; rfl, below_drewN (HBW.out.trans (HB.out.mono HBW.out.size)) _⟩
          · rw [if_neg he] at hR
            have HF := Lib.hid hR
            have e0 : ((T.length : Int) == tot) = false := by simpa using he
            clear hR he
            go_enter Try.func24, Try.ntmps24
            go_wp2_with fail
            refine (HV.out _ HBW.out).mono ?_
            rintro e x ⟨rfl, hb⟩
            have HB := Lib.hid hb
            have j1 := (hb.cell (p := ⟨w.heap.size, 1, none⟩) (by simp; omega)).trans w1
            have j2 := (hb.cell (p := ⟨w.heap.size, 2, none⟩) (by simp; omega)).trans w2
            have j3 := (hb.cell (p := ⟨b, off, none⟩) (by simp; omega)).trans g0
            have j4 := (hb.cell (p := ⟨b, off + 1, none⟩) (by simp; omega)).trans g1
            clear hb
            go_wp2_with fail
            go_quiet (fail)
            go_wp2_with fail
            go_ret3
            exact ⟨by rw [HF.out]; rfl, below_drewN (HBW.out.trans (HB.out.mono HBW.out.size)) _⟩
        | cons q r =>
          obtain ⟨o2, T2⟩ := q
          have hR : R = if (T.length : Int) = o2 then (0, 0, false) else ((T.length : Int), o2 - T.length, true) := hR
          obtain ⟨b', off', he', _, hc2, _⟩ := hps 1 (by simp)
          cases he'
          simp only [List.getElem_cons_succ, List.getElem_cons_zero, Nat.one_mul] at hc2
          have g2 : W.cell? ⟨b, off + 2, none⟩ = some (.int .i64 o2) := (HBW.out.cell (p := ⟨b, off + 2, none⟩) hbl).trans hc2
          have hq := vgo_all hvg.1 (o2, T2) (by simp)
          have hq0 : 0 ≤ o2 := hq.1
          have hq1 : o2 ≤ 1048576 := by have := hq.2.2.1; simp only [pend] at this; omega
          have hn2 : 1 < n := by rw [hnn]; simp
          clear hv hsz hps ho hvg h1 hnn hc2 hq
          by_cases he : (T.length : Int) = o2
          · rw [if_pos he] at hR
            have HF := Lib.hid hR
            have e0 : ((T.length : Int) == o2) = true := by simpa using he
            clear hR he
            go_enter Try.func24, Try.ntmps24
            go_wp2_with fail
            refine (HV.out _ HBW.out).mono ?_
            rintro e x ⟨rfl, hb⟩
            have HB := Lib.hid hb
            have j1 := (hb.cell (p := ⟨w.heap.size, 1, none⟩) (by simp; omega)).trans w1
            have j2 := (hb.cell (p := ⟨w.heap.size, 2, none⟩) (by simp; omega)).trans w2
            have j3 := (hb.cell (p := ⟨b, off, none⟩) (by simp; omega)).trans g0
            have j4 := (hb.cell (p := ⟨b, off + 1, none⟩) (by simp; omega)).trans g1
            have j5 := (hb.cell (p := ⟨b, off + 2, none⟩) (by simp; omega)).trans g2
            have n0 : ((n : Int) == 0) = false := by simp; omega
            clear hb
            go_wp2_with fail
            go_quiet (fail)
            go_wp2_with fail
            go_ret3
            exact ⟨by rw [HF.out]; rfl, below_drewN (HBW.out.trans (HB.out.mono HBW.out.size)) _⟩
          · rw [if_neg he] at hR
            have HF := Lib.hid hR
            have e0 : ((T.length : Int) == o2) = false := by simpa using he
            clear hR he
            go_enter Try.func24, Try.ntmps24
            go_wp2_with fail
            refine (HV.out _ HBW.out).mono ?_
            rintro e x ⟨rfl, hb⟩
            have HB := Lib.hid hb
            have j1 := (hb.cell (p := ⟨w.heap.size, 1, none⟩) (by simp; omega)).trans w1
            have j2 := (hb.cell (p := ⟨w.heap.size, 2, none⟩) (by simp; omega)).trans w2
            have j3 := (hb.cell (p := ⟨b, off, none⟩) (by simp; omega)).trans g0
            have j4 := (hb.cell (p := ⟨b, off + 1, none⟩) (by simp; omega)).trans g1
            have j5 := (hb.cell (p := ⟨b, off + 2, none⟩) (by simp; omega)).trans g2
            have n0 : ((n : Int) == 0) = false := by simp; omega
            clear hb
            go_wp2_with fail
            go_quiet (fail)
            go_wp2_with fail
            go_ret3
            exact ⟨by rw [HF.out]; rfl, below_drewN (HBW.out.trans (HB.out.mono HBW.out.size)) _⟩

end Go.Proofs.Ytlijaacjfnjmjaa
