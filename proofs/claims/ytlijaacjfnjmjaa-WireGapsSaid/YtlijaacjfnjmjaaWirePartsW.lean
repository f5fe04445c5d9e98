/- The walk of WireParts. -/
import Derived.Test.YtlijaacjfnjmjaaWireAw
import Derived.Test.YtlijaacjfnjmjaaWireO
import Derived.Test.YtlijaacjfnjmjaaWirePl
import Derived.Deep.DeepCutAuto
import Derived.Deep.CutBlock
import Derived.Deep.CutRange
import Derived.Deep.RegionHeld3
namespace Go.Proofs.Ytlijaacjfnjmjaa.wireParts
open Go.RowKit
set_option linter.unusedVariables false

set_option maxRecDepth 100000 in
set_option maxHeartbeats 2000000 in
theorem small (D : List UInt8) (a1 a2 : Int) (a3 : Option Addr) (z3 : List Int) (c3 : Nat) (w : World) (h : (D.length : Int) < 1 ∨ (60 : Int) < D.length ∨ (60 : Int) < z3.length) :
    Calls Try.prog 6 #[.string ⟨D.toArray⟩, .int .u8 a1, .int .u8 a2, .slice a3 z3.length c3] w fun e w' => e = .returned (.bool true) ∧ Below w.heap.size w w' := by
  obtain ⟨n, hn⟩ : ∃ n, n = z3.length := ⟨_, rfl⟩
  rw [← hn] at h ⊢
  clear hn
  by_cases h1 : (D.length : Int) < 1
  · clear h
    go_enter Try.func6, Try.ntmps6
    go_wp2_with fail
    refine (awake_any _).mono ?_
    rintro e x4 ⟨rfl, b4⟩
    have B4 := Lib.hid b4
    clear b4
    go_wp2_with fail
    go_ret
    exact ⟨rfl, B4.out⟩
  · by_cases h2 : (60 : Int) < D.length
    · clear h
      go_enter Try.func6, Try.ntmps6
      go_wp2_with fail
      refine (awake_any _).mono ?_
      rintro e x4 ⟨rfl, b4⟩
      have B4 := Lib.hid b4
      clear b4
      go_wp2_with fail
      go_ret
      exact ⟨rfl, B4.out⟩
    · have h3 : (60 : Int) < n := by omega
      clear h
      go_enter Try.func6, Try.ntmps6
      go_wp2_with fail
      refine (awake_any _).mono ?_
      rintro e x4 ⟨rfl, b4⟩
      have B4 := Lib.hid b4
      clear b4
      go_wp2_with fail
      go_ret
      exact ⟨rfl, B4.out⟩

theorem split_ok {id : Int} {D : List UInt8} {sz : Nat} (h0 : 0 ≤ id) (h1 : id ≤ 255) (h2 : 1 ≤ sz) (h3 : sz ≤ 20) (h4 : D.length ≤ 60) : splitS id D sz = (parts id D sz, 0) := by
  unfold splitS
  rw [if_neg (by omega), if_neg (by omega), Int.toNat_natCast]

theorem parts_get {id : Int} {D : List UInt8} {sz k : Nat} (h : k < (parts id D sz).length) : (parts id D sz)[k] = part id D sz (k * sz) := by simp [parts]
theorem parts_len {id : Int} {D : List UInt8} {sz : Nat} (h2 : 1 ≤ sz) {k : Nat} : k < (parts id D sz).length ↔ k * sz < D.length := by
  simp only [parts, List.length_map, List.length_range]
  rw [Nat.lt_div_iff_mul_lt (by omega)]
  omega

theorem frozen_a1 {w : World} {p : Addr} (hlt : p.block < w.heap.size) (h : w.frozen? p = false) (o : Obj) : (w.alloc o).frozen? p = false := (((Below.refl _ w).alloc (Nat.le_refl _) o).frozen hlt).trans h

/-- The box of the parts at a round's head. -/
structure Box (bx : Nat) (wr : World) (id tot : Int) (a : Option Addr) (ps : List P) (c : Nat) : Prop where
  c0 : wr.cell? ⟨bx, 0, none⟩ = some (.int .i64 id)
  c1 : wr.cell? ⟨bx, 1, none⟩ = some (.int .i64 tot)
  c2 : wr.cell? ⟨bx, 2, none⟩ = some (.slice a ps.length c)
  f0 : wr.frozen? ⟨bx, 0, none⟩ = false
  f1 : wr.frozen? ⟨bx, 1, none⟩ = false
  f2 : wr.frozen? ⟨bx, 2, none⟩ = false
  pcs : Pcs wr.heap.size wr a ps
  far : ∀ ad, a = some ad → ad.block ≠ bx
  cap : ps.length ≤ c

theorem Box.set {bx : Nat} {wr x : World} {id0 tot0 : Int} {a0 : Option Addr} {ps0 : List P} {c0 : Nat} (h : Box bx wr id0 tot0 a0 ps0 c0) (hx : Below wr.heap.size wr x) (hlt : bx < wr.heap.size) (id tot : Int) {a : Option Addr} {ps : List P} {c : Nat}
    (hp : Pcs x.heap.size x a ps) (hfar : ∀ ad, a = some ad → ad.block ≠ bx) (hcap : ps.length ≤ c) :
    Box bx (((x.setCell ⟨bx, 0, none⟩ (.int .i64 id)).setCell ⟨bx, 1, none⟩ (.int .i64 tot)).setCell ⟨bx, 2, none⟩ (.slice a ps.length c)) id tot a ps c := by
  have y0 := (hx.cell (p := ⟨bx, 0, none⟩) hlt).trans h.c0
  have y1 := (hx.cell (p := ⟨bx, 1, none⟩) hlt).trans h.c1
  have y2 := (hx.cell (p := ⟨bx, 2, none⟩) hlt).trans h.c2
  have z0 := (hx.frozen (p := ⟨bx, 0, none⟩) hlt).trans h.f0
  have z1 := (hx.frozen (p := ⟨bx, 1, none⟩) hlt).trans h.f1
  have z2 := (hx.frozen (p := ⟨bx, 2, none⟩) hlt).trans h.f2
  exact ⟨by simp [go_sem, y0], by simp [go_sem, y1], by simp [go_sem, y2], by simp [go_sem, z0], by simp [go_sem, z1], by simp [go_sem, z2], by simpa using ((hp.setCell hfar).setCell hfar).setCell hfar, hfar, hcap⟩

set_option maxRecDepth 100000 in
set_option maxHeartbeats 4000000 in
theorem great (D : List UInt8) (a1 a2 : Int) (a3 : Option Addr) (z3 : List Int) (c3 : Nat) (w : World) (w3 : Bys w.heap.size w a3 z3) (hD1 : (1 : Int) ≤ D.length) (hD2 : (D.length : Int) ≤ 60) (hz : (z3.length : Int) ≤ 60) (h10 : 0 ≤ a1) (h11 : a1 ≤ 255) (h20 : 0 ≤ a2) (h21 : a2 ≤ 255) :
    Calls Try.prog 6 #[.string ⟨D.toArray⟩, .int .u8 a1, .int .u8 a2, .slice a3 z3.length c3] w fun e w' => e = .returned (.bool true) ∧ Below w.heap.size w w' := by
  obtain ⟨sz, hsz⟩ : ∃ sz : Nat, 1 + a1 % 20 = (sz : Int) := ⟨(1 + a1 % 20).toNat, by omega⟩
  have hs1 : 1 ≤ sz := by omega
  have hs2 : sz ≤ 20 := by omega
  have HS := Lib.hid (fun w => split_any a2 D sz w (by omega))
  rw [split_ok h20 h21 hs1 hs2 (by omega)] at HS
  have HP := Lib.hid (fun k => parts_len (id := a2) (D := D) hs1 (k := k))
  obtain ⟨ms, hms⟩ : ∃ ms, ms = parts a2 D sz := ⟨_, rfl⟩
  rw [← hms] at HS HP
  have hm1 : 0 < ms.length := (HP.out 0).2 (by omega)
  have hm2 : ms.length ≤ 60 := by
    have := (HP.out (ms.length - 1)).1 (by omega)
    have h2 := Nat.le_mul_of_pos_right (ms.length - 1) hs1
    omega
  have HM := Lib.hid hms
  have H3 := Lib.hid w3
  obtain ⟨n, hn⟩ : ∃ n, n = z3.length := ⟨_, rfl⟩
  obtain ⟨N, hN⟩ : ∃ N, N = ms.length := ⟨_, rfl⟩
  have HN := Lib.hid hn
  have HNN := Lib.hid hN
  rw [← hn] at hz ⊢
  rw [← hN] at hm1 hm2
  clear hms w3 hn hN
  have t0 : ((N : Int) == 0) = false := by simp; omega
  have d1 : decide ((D.length : Int) < 1) = false := by simp; omega
  have d2 : decide ((60 : Int) < D.length) = false := by simp; omega
  have d3 : decide ((60 : Int) < n) = false := by simp; omega
  go_enter Try.func6, Try.ntmps6
  go_wp2_with fail
  refine (HS.out _).mono ?_
  rintro e w1 ⟨am, cm, rfl, hm, hb, hc⟩
  rw [← HNN.out]
  have HMS := Lib.hid hm
  have HB1 := Lib.hid hb
  have hw1 := hb.size
  clear hm hb hc
  go_wp2_with fail
  go_loopw [58] (fun i wr => ∃ (k : Nat) (id tot : Int) (a : Option Addr) (ps : List P) (c : Nat), k ≤ n + N ∧ i = .int .i64 k ∧ Below w1.heap.size w1 wr ∧ w1.heap.size < wr.heap.size ∧ Box w1.heap.size wr id tot a ps c ∧ PRel D a2 ((k - n) * sz) id tot ps) (fun i _ => n + N - (intOf i).toNat)
  case atStart => exact ⟨0, 0, 0, none, [], 0, by omega, rfl, (Below.refl _ w1).alloc (Nat.le_refl _) _, by simp, ⟨by simp, by simp, by simp, by simp, by simp, by simp, (fun i hi => by simp at hi), (fun ad h => by cases h), Nat.le_refl _⟩, by simpa using PRel.start D a2⟩
  case round =>
    obtain ⟨k, id, tot, a, ps, c, hk, rfl, hbel, hsz1, hbox, hrel⟩ := hrel
    have HB := Lib.hid hbel
    have HX := Lib.hid hbox
    have HR := Lib.hid hrel
    clear hbel hbox hrel
    by_cases hlt : k < n + N
    · have hlt' : (k : Int) < (n : Int) + N := by omega
      obtain ⟨q, hq, hqk, HQC⟩ : ∃ q : Nat, q < N ∧ (k < n ∨ (n ≤ k ∧ q = k - n)) ∧ Hid (∀ h : k < n, ∃ z b off, a3 = some ⟨b, off, none⟩ ∧ b < w.heap.size ∧ wr.cell? ⟨b, off + k, none⟩ = some (.int .u8 z) ∧ 0 ≤ z ∧ z ≤ 255 ∧ z % N = q) := by
        by_cases hkn : k < n
        · obtain ⟨hz, b, off, ha, hbl, hc⟩ := H3.out k (by rw [← HN.out]; exact hkn)
          refine ⟨(z3[k]'(by rw [← HN.out]; exact hkn) % N).toNat, ?_, .inl hkn, Lib.hid (fun _ => ⟨_, b, off, ha, hbl, ((HB1.out.trans (HB.out.mono hw1)).cell (p := ⟨b, off + k, none⟩) hbl).trans hc, hz.1, hz.2, ?_⟩)⟩
          · have := Int.emod_nonneg (z3[k]'(by rw [← HN.out]; exact hkn)) (show (N : Int) ≠ 0 by omega)
            have := Int.emod_lt_of_pos (z3[k]'(by rw [← HN.out]; exact hkn)) (show (0 : Int) < N by omega)
            omega
          · have := Int.emod_nonneg (z3[k]'(by rw [← HN.out]; exact hkn)) (show (N : Int) ≠ 0 by omega)
            omega
        · exact ⟨k - n, by omega, .inr ⟨by omega, rfl⟩, Lib.hid (fun h => absurd h hkn)⟩
      obtain ⟨b, off, da, cd, rfl, hbl, m0, m1, m2, m3, m4, m5, _⟩ := (HMS.out.below HB.out (Nat.le_refl _)) q (by rw [← HNN.out]; exact hq)
      have hqo : q * sz < D.length := (HP.out q).1 (by rw [← HNN.out]; exact hq)
      obtain ⟨o, ho⟩ : ∃ o, o = q * sz := ⟨_, rfl⟩
      obtain ⟨T, hT⟩ : ∃ T, T = (D.drop o).take sz := ⟨_, rfl⟩
      have hmq : ms[q]'(by rw [← HNN.out]; exact hq) = ⟨2, a2, o, D.length, [], T⟩ := by
        have h := HM.out
        subst h
        rw [parts_get, hT, ho]; rfl
      rw [hmq] at m0 m1 m2 m3 m4 m5
      simp only [List.length_nil] at m0 m1 m2 m3 m4 m5
      rw [← ho] at hqo
      have hTn : T = (D.drop o).take (min sz (D.length - o)) := by
        rw [hT, List.take_eq_take_iff]; simp
      have hstep := HR.out.step (m' := (k + 1 - n) * sz) ⟨h20, by omega⟩ (o := o) (n := min sz (D.length - o)) (by omega) (by omega) (by omega) (by
        rcases hqk with hkn | ⟨hkn, rfl⟩
        · left; rw [show k + 1 - n = 0 by omega, show k - n = 0 by omega]; omega
        · right
          rw [ho, show k + 1 - n = (k - n) + 1 by omega, Nat.succ_mul]
          omega)
      rw [← hTn] at hstep
      obtain ⟨qs, hg, hrel1, hqs, _, _⟩ := hstep
      obtain ⟨c0, c1, c2, f0, f1, f2, pcs, far, cap⟩ := HX.out
      have hbd := HR.out.bounds (by omega)
      have hTl : (T.length : Int) ≤ 1048576 := by rw [hT]; simp; omega
      have HG := Lib.hid (fun W (hW : Below wr.heap.size wr W) => gather_any id tot a ps c 2 a2 o D.length da 0 cd T W ((pcs.below hW (Nat.le_refl _)).mono hW.size) cap hbd.1 hbd.2 hTl)
      rw [hg] at HG
      obtain ⟨np, hnp⟩ : ∃ np, np = ps.length := ⟨_, rfl⟩
      rw [← hnp] at HG c2
      have HR1 := Lib.hid hrel1
      have HQ := Lib.hid hqs
      clear hTn hT hrel1 hqs hg pcs far cap hbd ho hmq hnp
      by_cases hkn : k < n
      · obtain ⟨z, b3, o3, rfl, hb3, hc3, hz0, hz1, hzq⟩ := HQC.out hkn
        clear hqk HQC
        go_wp2_with fail
        rw [hzq]
        clear hzq
        have hqi : (q : Int) < (N : Int) := by omega
        have hqn : (0 : Int) ≤ (q : Int) := by omega
        have HK : Hid (∀ W, Below wr.heap.size wr W → W.cell? ⟨w1.heap.size, 0, none⟩ = some (.int .i64 id) ∧ W.cell? ⟨w1.heap.size, 1, none⟩ = some (.int .i64 tot) ∧ W.cell? ⟨w1.heap.size, 2, none⟩ = some (.slice a np c) ∧
            W.cell? ⟨b, off + q * 6, none⟩ = some (.int .i64 2) ∧ W.cell? ⟨b, off + q * 6 + 1, none⟩ = some (.int .i64 a2) ∧ W.cell? ⟨b, off + q * 6 + 2, none⟩ = some (.int .i64 o) ∧ W.cell? ⟨b, off + q * 6 + 3, none⟩ = some (.int .i64 D.length) ∧ W.cell? ⟨b, off + q * 6 + 4, none⟩ = some (.slice da 0 cd) ∧ W.cell? ⟨b, off + q * 6 + 5, none⟩ = some (.string ⟨T.toArray⟩)) := Lib.hid (fun W hW =>
          ⟨(hW.cell (p := ⟨w1.heap.size, 0, none⟩) hsz1).trans c0, (hW.cell (p := ⟨w1.heap.size, 1, none⟩) hsz1).trans c1, (hW.cell (p := ⟨w1.heap.size, 2, none⟩) hsz1).trans c2,
           (hW.cell (p := ⟨b, off + q * 6, none⟩) (by simp; omega)).trans m0, (hW.cell (p := ⟨b, off + q * 6 + 1, none⟩) (by simp; omega)).trans m1, (hW.cell (p := ⟨b, off + q * 6 + 2, none⟩) (by simp; omega)).trans m2,
           (hW.cell (p := ⟨b, off + q * 6 + 3, none⟩) (by simp; omega)).trans m3, (hW.cell (p := ⟨b, off + q * 6 + 4, none⟩) (by simp; omega)).trans m4, (hW.cell (p := ⟨b, off + q * 6 + 5, none⟩) (by simp; omega)).trans m5⟩)
        go_region_held3 (fun w' => w'.cell? ⟨w1.heap.size, 0, none⟩ = some (.int .i64 id) ∧ w'.cell? ⟨w1.heap.size, 1, none⟩ = some (.int .i64 tot) ∧ w'.cell? ⟨w1.heap.size, 2, none⟩ = some (.slice a np c) ∧
            w'.cell? ⟨b, off + q * 6, none⟩ = some (.int .i64 2) ∧ w'.cell? ⟨b, off + q * 6 + 1, none⟩ = some (.int .i64 a2) ∧ w'.cell? ⟨b, off + q * 6 + 2, none⟩ = some (.int .i64 o) ∧ w'.cell? ⟨b, off + q * 6 + 3, none⟩ = some (.int .i64 D.length) ∧ w'.cell? ⟨b, off + q * 6 + 4, none⟩ = some (.slice da 0 cd) ∧ w'.cell? ⟨b, off + q * 6 + 5, none⟩ = some (.string ⟨T.toArray⟩))
          (first
            | exact HK.out _ (Below.refl _ _).drew
            | exact HK.out _ ((Below.refl _ _).alloc (Nat.le_refl _) _).drew
            | exact HK.out _ hwx
            | exact HK.out _ (hwx.alloc (Nat.le_trans (Nat.le_refl _) hwx.size) _)
            | exact HK.out _ (((hwx.setCell (Nat.le_refl _) _).setCell (Nat.le_refl _) _).setCell (Nat.le_refl _) _))
          (first | (go_at_call 18; refine (HG.out _ (by first | exact ((Below.refl _ _).alloc (Nat.le_refl _) _).drew | exact (Below.refl _ _).drew)).mono ?_; rintro e x ⟨ax, cx, rfl, hpx, hbx, hcx, hfx⟩; (have hwx : Below wr.heap.size wr x := by first | exact (Below.refl _ _).drew.trans hbx | exact ((Below.refl _ _).alloc (Nat.le_refl _) _).drew.trans (hbx.mono (by simp))); (try (refine kept3 hbx ?_; intro e0 e1 e2 e3 e4 e5))))
        all_goals
          have y0 := (hwx.cell (p := ⟨w1.heap.size, 0, none⟩) hsz1).trans c0
          have y1 := (hwx.cell (p := ⟨w1.heap.size, 1, none⟩) hsz1).trans c1
          have y2 := (hwx.cell (p := ⟨w1.heap.size, 2, none⟩) hsz1).trans c2
          have x0 := (hwx.frozen (p := ⟨w1.heap.size, 0, none⟩) hsz1).trans f0
          have x1 := (hwx.frozen (p := ⟨w1.heap.size, 1, none⟩) hsz1).trans f1
          have x2 := (hwx.frozen (p := ⟨w1.heap.size, 2, none⟩) hsz1).trans f2
          have hxs := hwx.size
          have hnb : w1.heap.size ≠ wr.heap.size := by omega
          have hnx : w1.heap.size ≠ x.heap.size := by omega
          have y0' := fun o => cell_a1 y0 o
          have y1' := fun o => cell_a1 y1 o
          have y2' := fun o => cell_a1 y2 o
          have x0' := fun o => frozen_a1 (p := ⟨w1.heap.size, 0, none⟩) (Nat.lt_of_lt_of_le hsz1 hxs) x0 o
          have x1' := fun o => frozen_a1 (p := ⟨w1.heap.size, 1, none⟩) (Nat.lt_of_lt_of_le hsz1 hxs) x1 o
          have x2' := fun o => frozen_a1 (p := ⟨w1.heap.size, 2, none⟩) (Nat.lt_of_lt_of_le hsz1 hxs) x2 o
          have HWX := Lib.hid hwx
          have HPX := Lib.hid hpx
          have HFX := Lib.hid hfx
          have HCX := Lib.hid hcx
          clear hwx hpx hfx hcx hbx
          go_wp2_with fail
          go_roundw
          case rel =>
            refine ⟨k + 1, a2, D.length, ax, qs, cx, by omega, by go_num, ?_, ?_, ?_, HR1.out⟩
            · first
                | (have _e := e0; exact (((((((HB.out.trans (HWX.out.mono (by omega))).setCell (by simp; omega) _).setCell (by simp; omega) _).setCell (by simp; omega) _).setCell (by simp) _).setCell (by simp) _).setCell (by simp) _))
                | exact (((((HB.out.trans (HWX.out.mono (by omega))).alloc (by omega) _).setCell (by simp) _).setCell (by simp) _).setCell (by simp) _)
            · simp; omega
            · first
                | (have _e := e0
                   have hfar : ∀ ad, ax = some ad → ad.block ≠ wr.heap.size := fun ad h => by have := HFX.out ad h; simp at this; omega
                   exact HX.out.set (((HWX.out.setCell (by simp) _).setCell (by simp) _).setCell (by simp) _) hsz1 a2 D.length (by simpa using ((HPX.out.setCell hfar).setCell hfar).setCell hfar) (fun ad h => by have := HFX.out ad h; simp at this; omega) HCX.out)
                | exact HX.out.set (HWX.out.alloc hxs _) hsz1 a2 D.length ((HPX.out.below ((Below.refl _ _).alloc (Nat.le_refl _) _) (Nat.le_refl _)).mono (by simp)) (fun ad h => by have := HFX.out ad h; simp at this; omega) HCX.out
          case measure => simp [intOf]; omega
      · have hqe : (k : Int) - n = (q : Int) := by omega
        clear hqk HQC
        go_wp2_with fail
        clear hqe
        have hqi : (q : Int) < (N : Int) := by omega
        have hqn : (0 : Int) ≤ (q : Int) := by omega
        have HK : Hid (∀ W, Below wr.heap.size wr W → W.cell? ⟨w1.heap.size, 0, none⟩ = some (.int .i64 id) ∧ W.cell? ⟨w1.heap.size, 1, none⟩ = some (.int .i64 tot) ∧ W.cell? ⟨w1.heap.size, 2, none⟩ = some (.slice a np c) ∧
            W.cell? ⟨b, off + q * 6, none⟩ = some (.int .i64 2) ∧ W.cell? ⟨b, off + q * 6 + 1, none⟩ = some (.int .i64 a2) ∧ W.cell? ⟨b, off + q * 6 + 2, none⟩ = some (.int .i64 o) ∧ W.cell? ⟨b, off + q * 6 + 3, none⟩ = some (.int .i64 D.length) ∧ W.cell? ⟨b, off + q * 6 + 4, none⟩ = some (.slice da 0 cd) ∧ W.cell? ⟨b, off + q * 6 + 5, none⟩ = some (.string ⟨T.toArray⟩)) := Lib.hid (fun W hW =>
          ⟨(hW.cell (p := ⟨w1.heap.size, 0, none⟩) hsz1).trans c0, (hW.cell (p := ⟨w1.heap.size, 1, none⟩) hsz1).trans c1, (hW.cell (p := ⟨w1.heap.size, 2, none⟩) hsz1).trans c2,
           (hW.cell (p := ⟨b, off + q * 6, none⟩) (by simp; omega)).trans m0, (hW.cell (p := ⟨b, off + q * 6 + 1, none⟩) (by simp; omega)).trans m1, (hW.cell (p := ⟨b, off + q * 6 + 2, none⟩) (by simp; omega)).trans m2,
           (hW.cell (p := ⟨b, off + q * 6 + 3, none⟩) (by simp; omega)).trans m3, (hW.cell (p := ⟨b, off + q * 6 + 4, none⟩) (by simp; omega)).trans m4, (hW.cell (p := ⟨b, off + q * 6 + 5, none⟩) (by simp; omega)).trans m5⟩)
        go_region_held3 (fun w' => w'.cell? ⟨w1.heap.size, 0, none⟩ = some (.int .i64 id) ∧ w'.cell? ⟨w1.heap.size, 1, none⟩ = some (.int .i64 tot) ∧ w'.cell? ⟨w1.heap.size, 2, none⟩ = some (.slice a np c) ∧
            w'.cell? ⟨b, off + q * 6, none⟩ = some (.int .i64 2) ∧ w'.cell? ⟨b, off + q * 6 + 1, none⟩ = some (.int .i64 a2) ∧ w'.cell? ⟨b, off + q * 6 + 2, none⟩ = some (.int .i64 o) ∧ w'.cell? ⟨b, off + q * 6 + 3, none⟩ = some (.int .i64 D.length) ∧ w'.cell? ⟨b, off + q * 6 + 4, none⟩ = some (.slice da 0 cd) ∧ w'.cell? ⟨b, off + q * 6 + 5, none⟩ = some (.string ⟨T.toArray⟩))
          (first
            | exact HK.out _ (Below.refl _ _).drew
            | exact HK.out _ ((Below.refl _ _).alloc (Nat.le_refl _) _).drew
            | exact HK.out _ hwx
            | exact HK.out _ (hwx.alloc (Nat.le_trans (Nat.le_refl _) hwx.size) _)
            | exact HK.out _ (((hwx.setCell (Nat.le_refl _) _).setCell (Nat.le_refl _) _).setCell (Nat.le_refl _) _))
          (first | (go_at_call 18; refine (HG.out _ (by first | exact ((Below.refl _ _).alloc (Nat.le_refl _) _).drew | exact (Below.refl _ _).drew)).mono ?_; rintro e x ⟨ax, cx, rfl, hpx, hbx, hcx, hfx⟩; (have hwx : Below wr.heap.size wr x := by first | exact (Below.refl _ _).drew.trans hbx | exact ((Below.refl _ _).alloc (Nat.le_refl _) _).drew.trans (hbx.mono (by simp))); (try (refine kept3 hbx ?_; intro e0 e1 e2 e3 e4 e5))))
        all_goals
          have y0 := (hwx.cell (p := ⟨w1.heap.size, 0, none⟩) hsz1).trans c0
          have y1 := (hwx.cell (p := ⟨w1.heap.size, 1, none⟩) hsz1).trans c1
          have y2 := (hwx.cell (p := ⟨w1.heap.size, 2, none⟩) hsz1).trans c2
          have x0 := (hwx.frozen (p := ⟨w1.heap.size, 0, none⟩) hsz1).trans f0
          have x1 := (hwx.frozen (p := ⟨w1.heap.size, 1, none⟩) hsz1).trans f1
          have x2 := (hwx.frozen (p := ⟨w1.heap.size, 2, none⟩) hsz1).trans f2
          have hxs := hwx.size
          have hnb : w1.heap.size ≠ wr.heap.size := by omega
          have hnx : w1.heap.size ≠ x.heap.size := by omega
          have y0' := fun o => cell_a1 y0 o
          have y1' := fun o => cell_a1 y1 o
          have y2' := fun o => cell_a1 y2 o
          have x0' := fun o => frozen_a1 (p := ⟨w1.heap.size, 0, none⟩) (Nat.lt_of_lt_of_le hsz1 hxs) x0 o
          have x1' := fun o => frozen_a1 (p := ⟨w1.heap.size, 1, none⟩) (Nat.lt_of_lt_of_le hsz1 hxs) x1 o
          have x2' := fun o => frozen_a1 (p := ⟨w1.heap.size, 2, none⟩) (Nat.lt_of_lt_of_le hsz1 hxs) x2 o
          have HWX := Lib.hid hwx
          have HPX := Lib.hid hpx
          have HFX := Lib.hid hfx
          have HCX := Lib.hid hcx
          clear hwx hpx hfx hcx hbx
          go_wp2_with fail
          go_roundw
          case rel =>
            refine ⟨k + 1, a2, D.length, ax, qs, cx, by omega, by go_num, ?_, ?_, ?_, HR1.out⟩
            · first
                | (have _e := e0; exact (((((((HB.out.trans (HWX.out.mono (by omega))).setCell (by simp; omega) _).setCell (by simp; omega) _).setCell (by simp; omega) _).setCell (by simp) _).setCell (by simp) _).setCell (by simp) _))
                | exact (((((HB.out.trans (HWX.out.mono (by omega))).alloc (by omega) _).setCell (by simp) _).setCell (by simp) _).setCell (by simp) _)
            · simp; omega
            · first
                | (have _e := e0
                   have hfar : ∀ ad, ax = some ad → ad.block ≠ wr.heap.size := fun ad h => by have := HFX.out ad h; simp at this; omega
                   exact HX.out.set (((HWX.out.setCell (by simp) _).setCell (by simp) _).setCell (by simp) _) hsz1 a2 D.length (by simpa using ((HPX.out.setCell hfar).setCell hfar).setCell hfar) (fun ad h => by have := HFX.out ad h; simp at this; omega) HCX.out)
                | exact HX.out.set (HWX.out.alloc hxs _) hsz1 a2 D.length ((HPX.out.below ((Below.refl _ _).alloc (Nat.le_refl _) _) (Nat.le_refl _)).mono (by simp)) (fun ad h => by have := HFX.out ad h; simp at this; omega) HCX.out
          case measure => simp [intOf]; omega
    · have hlt' : ¬ (k : Int) < (n : Int) + N := by omega
      obtain rfl : k = n + N := by omega
      have hfin := HR.out.fin (by
        have h : ¬ N * sz < D.length := fun h => Nat.lt_irrefl N (by have := (HP.out N).2 h; rwa [← HNN.out] at this)
        rw [show n + N - n = N by omega]
        omega) (by omega)
      obtain ⟨rfl, rfl, rfl⟩ := hfin
      obtain ⟨c0, c1, c2, _, _, _, pcs, _, _⟩ := HX.out
      have hv := HR.out.valid
      have HW := Lib.hid (fun W (hW : Below wr.heap.size wr W) => whole_any id D.length a [(0, D)] c W ((pcs.below hW (Nat.le_refl _)).mono hW.size) (by simp) (fun p hp => by simp at hp; subst hp; simp; omega))
      have HG := Lib.hid (fun W (hW : Below wr.heap.size wr W) => gap_any id D.length a [(0, D)] c W ((pcs.below hW (Nat.le_refl _)).mono hW.size) (by simp) (fun p hp => by simp at hp; subst hp; simp; omega))
      rw [whole_one hv] at HW
      rw [gap_one] at HG
      simp only [List.length_singleton] at HW HG c2
      clear hv pcs
      go_wp2_with fail
      refine (HW.out _ (Below.refl _ _)).mono ?_
      rintro e x ⟨rfl, hb2⟩
      have e0 := (hb2.cell (p := ⟨w1.heap.size, 0, none⟩) hsz1).trans c0
      have e1 := (hb2.cell (p := ⟨w1.heap.size, 1, none⟩) hsz1).trans c1
      have e2 := (hb2.cell (p := ⟨w1.heap.size, 2, none⟩) hsz1).trans c2
      have HB2 := Lib.hid hb2
      clear hb2
      go_wp2_with fail
      refine (HG.out _ HB2.out).mono ?_
      rintro e y ⟨rfl, hb3⟩
      have HB3 := Lib.hid hb3
      clear hb3
      go_wp2_with fail
      refine (awake_any _).mono ?_
      rintro e x4 ⟨rfl, b4⟩
      have B4 := Lib.hid b4
      clear b4
      go_wp2_with fail
      go_ret
      have z1 := HB.out.size
      have z2 := HB2.out.size
      have z3 := HB3.out.size
      exact ⟨rfl, (((HB1.out.trans (HB.out.mono hw1)).trans (HB2.out.mono (by omega))).trans (HB3.out.mono (by omega))).trans (B4.out.mono (by omega))⟩

theorem walk (s : ByteArray) (w0 : s.size ≤ maxLen) (a1 : Int) (w1 : (Lit.int .u8 a1).wf = true) (a2 : Int) (w2 : (Lit.int .u8 a2).wf = true) (a3 : Option Addr) (z3 : List Int) (c3 : Nat) (w : World) (w3 : Bys w.heap.size w a3 z3) (g3 : z3.length ≤ c3) :
    Calls Try.prog 6 #[.string s, .int .u8 a1, .int .u8 a2, .slice a3 z3.length c3] w fun e w' => e = .returned (.bool true) ∧ Below w.heap.size w w' := by
  obtain ⟨D, rfl⟩ : ∃ l : List UInt8, s = ⟨l.toArray⟩ := ⟨s.data.toList, ba_eq rfl⟩
  by_cases h : (D.length : Int) < 1 ∨ (60 : Int) < D.length ∨ (60 : Int) < z3.length
  · exact small D a1 a2 a3 z3 c3 w h
  · exact great D a1 a2 a3 z3 c3 w w3 (by omega) (by omega) (by omega) (u8_wf w1).1 (u8_wf w1).2 (u8_wf w2).1 (u8_wf w2).2

end Go.Proofs.Ytlijaacjfnjmjaa.wireParts
