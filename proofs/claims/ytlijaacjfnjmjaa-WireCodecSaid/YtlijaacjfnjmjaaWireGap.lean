/- wire.Gap and wire.Whole. -/
import Derived.Test.YtlijaacjfnjmjaaWireG
import Derived.Deep.DeepCutAuto
namespace Go.Proofs.Ytlijaacjfnjmjaa
open Go.RowKit

/-- Where the second piece begins, or the text ends. -/
def nxt (tot : Int) : List P → Int
  | [] => tot
  | q :: _ => q.1
/-- What Gap answers. -/
def gapS (id tot : Int) : List P → Int × Int × Bool
  | [] => (0, 0, false)
  | p :: ps =>
    if vParts id tot (p :: ps) = false then (0, 0, false)
    else if 0 < p.1 then (0, p.1, true)
    else if pend p = nxt tot ps then (0, 0, false)
    else (pend p, nxt tot ps - pend p, true)
theorem gapS_cons (id tot : Int) (p : P) (ps : List P) : gapS id tot (p :: ps) = if vParts id tot (p :: ps) = false then (0, 0, false)
    else if 0 < p.1 then (0, p.1, true) else if pend p = nxt tot ps then (0, 0, false) else (pend p, nxt tot ps - pend p, true) := rfl

set_option maxHeartbeats 2000000 in
theorem gap_any (id tot : Int) (a : Option Addr) (ps : List P) (c : Nat) (w : World) (hps : Pcs w.heap.size w a ps) (hn : (ps.length : Int) ≤ 1048576) (hsz : ∀ p ∈ ps, p.2.length ≤ 1048576) :
    Calls Try.prog 23 #[.agg #[.int .i64 id, .int .i64 tot, .slice a ps.length c]] w fun e w' => e = .returned (.tuple #[.int .i64 (gapS id tot ps).1, .int .i64 (gapS id tot ps).2.1, .bool (gapS id tot ps).2.2]) ∧ Below w.heap.size w w' := by
  obtain ⟨R, hR⟩ : ∃ R, R = gapS id tot ps := ⟨_, rfl⟩
  rw [← hR]
  have HR := Lib.hid hR
  clear hR
  cases ps with
  | nil =>
    have HF : Hid (R = (0, 0, false)) := Lib.hid HR.out
    clear HR
    simp only [List.length_nil]
    go_enter Try.func23, Try.ntmps23
    go_wp2_with fail
    go_ret3
    exact ⟨by rw [HF.out]; rfl, (Below.refl _ w).alloc (Nat.le_refl _) _⟩
  | cons p rest =>
    obtain ⟨n, hnn⟩ : ∃ n, n = (p :: rest).length := ⟨_, rfl⟩
    have hn1 : 0 < n := by rw [hnn]; simp
    have HVP0 := Lib.hid (fun W hp h1 h2 => validParts_any id tot a (p :: rest) c W hp h1 h2)
    have HN := Lib.hid hnn
    rw [← hnn] at hn HVP0 ⊢
    clear hnn
    have t0 : ((n : Int) == 0) = false := by simp; omega
    obtain ⟨b, off, rfl, hbl, hc, hd⟩ := hps 0 (by simp)
    simp only [List.getElem_cons_zero, Nat.zero_mul, Nat.add_zero] at hc hd
    obtain ⟨o, T⟩ := p
    simp only at hc hd
    have hTl : (T.length : Int) ≤ 1048576 := by have := hsz (o, T) (by simp); simp only at this; omega
    obtain ⟨W, hW⟩ : ∃ W : World, w.alloc (.cells #[.int .i64 id, .int .i64 tot, .slice (some ⟨b, off, none⟩) n c] 31) = W := ⟨_, rfl⟩
    have HBW : Hid (Below w.heap.size w W) := Lib.hid (by rw [← hW]; exact (Below.refl _ w).alloc (Nat.le_refl _) _)
    have w1 : W.cell? ⟨w.heap.size, 1, none⟩ = some (.int .i64 tot) := by rw [← hW]; simp [go_sem]
    have w2 : W.cell? ⟨w.heap.size, 2, none⟩ = some (.slice (some ⟨b, off, none⟩) n c) := by rw [← hW]; simp [go_sem]
    have hWs : w.heap.size + 1 ≤ W.heap.size := by rw [← hW]; simp
    have HVP := Lib.hid (HVP0.out W ((hps.below HBW.out (Nat.le_refl _)).mono (by omega)) (by omega) (fun p hp => by have := hsz p hp; omega))
    have HW := Lib.hid hW
    clear hW HVP0
    have HPS := Lib.hid hps
    clear hps hsz
    go_enter Try.func23, Try.ntmps23
    go_wp2_with fail
    rw [HW.out]
    refine HVP.out.mono ?_
    rintro e x ⟨rfl, hb⟩
    have x1 := (hb.cell (p := ⟨w.heap.size, 1, none⟩) (by simp; omega)).trans w1
    have x2 := (hb.cell (p := ⟨w.heap.size, 2, none⟩) (by simp; omega)).trans w2
    have HBX : Hid (Below w.heap.size w x) := Lib.hid (HBW.out.trans (hb.mono HBW.out.size))
    have hc1 := (HBX.out.cell (p := ⟨b, off, none⟩) hbl).trans hc
    have hd1 := (HBX.out.cell (p := ⟨b, off + 1, none⟩) hbl).trans hd
    have hxs : w.heap.size + 1 ≤ x.heap.size := Nat.le_trans hWs hb.size
    clear hb w1 w2 hc hd HVP HW HBW hWs
    clear W
    cases hv : vParts id tot ((o, T) :: rest) with
    | false =>
      have HF : Hid (R = (0, 0, false)) := Lib.hid (by rw [HR.out, gapS_cons, if_pos hv])
      clear hv
      go_wp2_with fail
      go_ret3
      exact ⟨by rw [HF.out]; rfl, HBX.out⟩
    | true =>
      have HV := Lib.hid hv
      have hvg : (0 ≤ tot ∧ tot ≤ 1048576) ∧ vgo tot (-1) ((o, T) :: rest) = true := by
        unfold vParts at hv
        simp at hv
        exact ⟨⟨hv.1.2.2.1, hv.1.2.2.2⟩, hv.2⟩
      obtain ⟨⟨ht0, ht1⟩, hvg⟩ := hvg
      have hpo := vgo_all hvg (o, T) (by simp)
      obtain ⟨ho0, _, ho1, _⟩ := hpo
      simp only [pend] at ho0 ho1
      clear hv
      by_cases hpos : 0 < o
      · have HF : Hid (R = (0, o, true)) := Lib.hid (by rw [HR.out, gapS_cons, if_neg (by rw [HV.out]; simp), if_pos hpos])
        have g0 : decide (0 < o) = true := by simpa using hpos
        go_wp2_with fail
        go_quiet (fail)
        go_wp2_with fail
        go_ret3
        exact ⟨by rw [HF.out]; rfl, below_drewN (HBX.out.alloc (by omega) _) _⟩
      · have g0 : decide (0 < o) = false := by simpa using hpos
        obtain rfl : o = 0 := by omega
        have HF : Hid (R = if pend ((0 : Int), T) = nxt tot rest then (0, 0, false) else (pend ((0 : Int), T), nxt tot rest - pend ((0 : Int), T), true)) := Lib.hid (by rw [HR.out, gapS_cons, if_neg (by rw [HV.out]; simp), if_neg (by simp)])
        obtain ⟨nx, hnx⟩ : ∃ nx, nx = nxt tot rest := ⟨_, rfl⟩
        rw [← hnx] at HF
        have hnx0 : 0 ≤ nx ∧ nx ≤ 1048576 := by
          cases rest with
          | nil => rw [hnx]; exact ⟨ht0, ht1⟩
          | cons q qs =>
            have hq := vgo_all hvg q (by simp)
            simp only [pend] at hq
            rw [hnx]
            simp only [nxt]
            omega
        obtain ⟨hnx0, hnx1⟩ := hnx0
        have HNX := Lib.hid hnx
        clear hnx HR HV hpos g0
        have hcase : (n = 1 ∧ nx = tot) ∨ (1 < n ∧ x.cell? ⟨b, off + 2, none⟩ = some (.int .i64 nx)) := by
          cases rest with
          | nil => exact .inl ⟨by rw [HN.out]; rfl, HNX.out⟩
          | cons q qs =>
            refine .inr ⟨by rw [HN.out]; simp, ?_⟩
            obtain ⟨b', off', he, hbl', hcq, _⟩ := HPS.out 1 (by simp)
            cases he
            simp only [List.getElem_cons_succ, List.getElem_cons_zero, Nat.one_mul] at hcq
            rw [HNX.out]
            exact (HBX.out.cell (p := ⟨b, off + 2, none⟩) hbl).trans hcq
        have HE := Lib.hid (fun W => endL 0 T W (Int.le_refl _) (by omega) hTl)
        rw [show (0 : Int) + (T.length : Int) = (T.length : Int) from by omega] at HE
        simp only [pend, show (0 : Int) + (T.length : Int) = (T.length : Int) from by omega] at HF
        have x1' := fun x => cell_a1 x1 x
        have x2' := fun x => cell_a1 x2 x
        rcases hcase with ⟨hn1', hnt⟩ | ⟨hn1', hcq⟩
        · subst hnt
          go_wp2_with fail
          refine (HE.out _).mono ?_
          rintro e u ⟨rfl, hbu⟩
          have u0 := (hbu.cell (p := ⟨x.heap.size, 0, none⟩) (by simp)).trans (show (x.alloc (.cells #[.int .i64 0, .string ⟨T.toArray⟩] 40)).cell? ⟨x.heap.size, 0, none⟩ = some (.int .i64 0) by simp [go_sem])
          have u1 := (hbu.cell (p := ⟨x.heap.size, 1, none⟩) (by simp)).trans (show (x.alloc (.cells #[.int .i64 0, .string ⟨T.toArray⟩] 40)).cell? ⟨x.heap.size, 1, none⟩ = some (.string ⟨T.toArray⟩) by simp [go_sem])
          have HBU : Hid (Below w.heap.size w u) := Lib.hid ((HBX.out.alloc (by omega) _).trans (hbu.mono (by simp; omega)))
          clear hbu
          by_cases heq : (T.length : Int) = nx
          · have HF1 : Hid (R = (0, 0, false)) := Lib.hid (by rw [HF.out, if_pos heq])
            have g2 : ((T.length : Int) == nx) = true := by simpa using heq
            clear heq
            go_wp2_with fail
            go_ret3
            exact ⟨by rw [HF1.out]; rfl, HBU.out⟩
          · have HF1 : Hid (R = ((T.length : Int), nx - (T.length : Int), true)) := Lib.hid (by rw [HF.out, if_neg heq])
            have g2 : ((T.length : Int) == nx) = false := by simpa using heq
            have hws : IntKind.i64.wrap (nx - (T.length : Int)) = nx - (T.length : Int) := IntWalk.i64_in _ (by omega)
            clear heq
            have HEq := Lib.hid (fun (d : Nat) (os : Array Obj) => Calls.regrown_of (w := u) (d := d) (os := os) (HE.out _))
            have k0 := cell_regrown u0
            have k1 := cell_regrown u1
            go_wp2_with fail
            refine wp_region_quiet_below (by kernel_rfl) (by kernel_rfl) ?_
            repeat (any_goals (first | go_big_quiet_step (exact HEq.out _ _) | quiet_step (exact HEq.out _ _)))
            refine wpQuiet_nil ?_
            intro y hy
            have hb2 := below_rg hy
            clear hy HEq k0 k1
            go_wp2_with fail
            go_ret3
            exact ⟨by rw [HF1.out]; rfl, HBU.out.trans (hb2.mono HBU.out.size)⟩
        · have g1 : decide (1 < n) = true := by simpa using hn1'
          have hcq' := fun x => cell_a1 hcq x
          go_wp2_with fail
          refine (HE.out _).mono ?_
          rintro e u ⟨rfl, hbu⟩
          have u0 := (hbu.cell (p := ⟨x.heap.size, 0, none⟩) (by simp)).trans (show (x.alloc (.cells #[.int .i64 0, .string ⟨T.toArray⟩] 40)).cell? ⟨x.heap.size, 0, none⟩ = some (.int .i64 0) by simp [go_sem])
          have u1 := (hbu.cell (p := ⟨x.heap.size, 1, none⟩) (by simp)).trans (show (x.alloc (.cells #[.int .i64 0, .string ⟨T.toArray⟩] 40)).cell? ⟨x.heap.size, 1, none⟩ = some (.string ⟨T.toArray⟩) by simp [go_sem])
          have HBU : Hid (Below w.heap.size w u) := Lib.hid ((HBX.out.alloc (by omega) _).trans (hbu.mono (by simp; omega)))
          clear hbu
          by_cases heq : (T.length : Int) = nx
          · have HF1 : Hid (R = (0, 0, false)) := Lib.hid (by rw [HF.out, if_pos heq])
            have g2 : ((T.length : Int) == nx) = true := by simpa using heq
            clear heq
            go_wp2_with fail
            go_ret3
            exact ⟨by rw [HF1.out]; rfl, HBU.out⟩
          · have HF1 : Hid (R = ((T.length : Int), nx - (T.length : Int), true)) := Lib.hid (by rw [HF.out, if_neg heq])
            have g2 : ((T.length : Int) == nx) = false := by simpa using heq
            have hws : IntKind.i64.wrap (nx - (T.length : Int)) = nx - (T.length : Int) := IntWalk.i64_in _ (by omega)
            clear heq
            have HEq := Lib.hid (fun (d : Nat) (os : Array Obj) => Calls.regrown_of (w := u) (d := d) (os := os) (HE.out _))
            have k0 := cell_regrown u0
            have k1 := cell_regrown u1
            go_wp2_with fail
            refine wp_region_quiet_below (by kernel_rfl) (by kernel_rfl) ?_
            repeat (any_goals (first | go_big_quiet_step (exact HEq.out _ _) | quiet_step (exact HEq.out _ _)))
            refine wpQuiet_nil ?_
            intro y hy
            have hb2 := below_rg hy
            clear hy HEq k0 k1
            go_wp2_with fail
            go_ret3
            exact ⟨by rw [HF1.out]; rfl, HBU.out.trans (hb2.mono HBU.out.size)⟩

end Go.Proofs.Ytlijaacjfnjmjaa
