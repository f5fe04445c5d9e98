/- The walk of WireGaps. -/
import Derived.Test.YtlijaacjfnjmjaaWirePartsW
namespace Go.Proofs.Ytlijaacjfnjmjaa.wireGaps
open Go.RowKit
open wireParts (Box frozen_a1)
set_option linter.unusedVariables false

set_option maxRecDepth 100000 in
set_option maxHeartbeats 2000000 in
theorem small (D : List UInt8) (a3 : Option Addr) (z3 : List (Int × Int)) (c3 : Nat) (w : World) (h : (D.length : Int) < 1 ∨ (60 : Int) < D.length ∨ (20 : Int) < z3.length) :
    Calls Try.prog 7 #[.string ⟨D.toArray⟩, .slice a3 z3.length c3] w fun e w' => e = .returned (.bool true) ∧ Below w.heap.size w w' := by
  obtain ⟨n, hn⟩ : ∃ n, n = z3.length := ⟨_, rfl⟩
  rw [← hn] at h ⊢
  clear hn
  by_cases h1 : (D.length : Int) < 1
  · clear h
    go_enter Try.func7, Try.ntmps7
    go_wp2_with fail
    refine (awake_any _).mono ?_
    rintro e x4 ⟨rfl, b4⟩
    have B4 := Lib.hid b4
    clear b4
    go_wp2_with fail
    go_ret
    exact ⟨rfl, B4.out⟩
  · by_cases h2 : (60 : Int) < D.length
    · clear h
      go_enter Try.func7, Try.ntmps7
      go_wp2_with fail
      refine (awake_any _).mono ?_
      rintro e x4 ⟨rfl, b4⟩
      have B4 := Lib.hid b4
      clear b4
      go_wp2_with fail
      go_ret
      exact ⟨rfl, B4.out⟩
    · have h3 : (20 : Int) < n := by omega
      clear h
      go_enter Try.func7, Try.ntmps7
      go_wp2_with fail
      refine (awake_any _).mono ?_
      rintro e x4 ⟨rfl, b4⟩
      have B4 := Lib.hid b4
      clear b4
      go_wp2_with fail
      go_ret
      exact ⟨rfl, B4.out⟩

theorem Box.alloc' {bx : Nat} {wr : World} {id tot : Int} {a : Option Addr} {ps : List P} {c : Nat} (hlt : bx < wr.heap.size) (h : Box bx wr id tot a ps c) (o : Obj) : Box bx (wr.alloc o) id tot a ps c :=
  ⟨cell_a1 h.c0 o, cell_a1 h.c1 o, cell_a1 h.c2 o, frozen_a1 hlt h.f0 o, frozen_a1 hlt h.f1 o, frozen_a1 hlt h.f2 o, (h.pcs.below ((Below.refl _ _).alloc (Nat.le_refl _) _) (Nat.le_refl _)).mono (by simp), h.far, h.cap⟩

/-- What a Gather of a range of the text leaves. -/
theorem gstep {D : List UInt8} {m : Nat} {i t : Int} {ps : List P} (h : PRel D 0 m i t ps) {o n : Nat} (ho : o + n ≤ D.length) (hn : 1 ≤ n) (hD : D.length ≤ 60) {a : Option Addr} {c : Nat} {wr : World} (hp : Pcs wr.heap.size wr a ps) (hc : ps.length ≤ c) :
    ∃ qs, PRel D 0 0 0 D.length qs ∧ qs ≠ [] ∧ (∀ j c, Has ps j c → Has qs j c) ∧ (∃ c, Has qs o c) ∧ ∀ W, Below wr.heap.size wr W → ∀ (da : Option Addr) (cd : Nat),
      Calls Try.prog 18 #[.agg #[.int .i64 i, .int .i64 t, .slice a ps.length c], .agg #[.int .i64 2, .int .i64 0, .int .i64 o, .int .i64 D.length, .slice da 0 cd, .string ⟨((D.drop o).take n).toArray⟩]] W (Gathered W (0, 0, (D.length : Int), qs)) := by
  obtain ⟨qs, hg, h1, h2, h3, h4⟩ := h.step (m' := 0) ⟨by omega, by omega⟩ ho hn (by omega) (.inl (by omega))
  have hb := h.bounds (by omega)
  refine ⟨qs, h1, h2, h3, h4 o (by omega) (by omega), fun W hW da cd => ?_⟩
  have := gather_any i t a ps c 2 0 o D.length da 0 cd ((D.drop o).take n) W ((hp.below hW (Nat.le_refl _)).mono hW.size) hc hb.1 hb.2 (by simp; omega)
  rw [hg] at this
  exact this

set_option maxRecDepth 100000 in
set_option maxHeartbeats 4000000 in
theorem great (D : List UInt8) (a3 : Option Addr) (z3 : List (Int × Int)) (c3 : Nat) (w : World) (w3 : Prs w.heap.size w a3 z3) (hD1 : (1 : Int) ≤ D.length) (hD2 : (D.length : Int) ≤ 60) (hz : (z3.length : Int) ≤ 20) :
    Calls Try.prog 7 #[.string ⟨D.toArray⟩, .slice a3 z3.length c3] w fun e w' => e = .returned (.bool true) ∧ Below w.heap.size w w' := by
  have H3 := Lib.hid w3
  obtain ⟨n, hn⟩ : ∃ n, n = z3.length := ⟨_, rfl⟩
  have HN := Lib.hid hn
  rw [← hn] at hz ⊢
  clear w3 hn
  have d1 : decide ((D.length : Int) < 1) = false := by simp; omega
  have d2 : decide ((60 : Int) < D.length) = false := by simp; omega
  have d3 : decide ((20 : Int) < n) = false := by simp; omega
  obtain ⟨qs, hq1, hq2, _, _, hG⟩ := gstep (PRel.start D 0) (o := 0) (n := 1) (by omega) (by omega) (by omega) (a := none) (c := 0) (wr := w) (fun i hi => by simp at hi) (Nat.le_refl _)
  have HG := Lib.hid (hG w (Below.refl _ _) none 0)
  have HQ1 := Lib.hid hq1
  have HQ2 := Lib.hid hq2
  obtain ⟨T0, hT0⟩ : ∃ T0, T0 = (D.drop 0).take 1 := ⟨_, rfl⟩
  rw [← hT0] at HG
  have hx0 : (⟨D.toArray⟩ : ByteArray).extract 0 1 = ⟨T0.toArray⟩ := by rw [hT0, ex_mid]
  clear hT0 hq1 hq2 hG
  go_enter Try.func7, Try.ntmps7
  go_wp2_with fail
  refine HG.out.mono ?_
  rintro e w1 ⟨a1, c1, rfl, hp, hb, hc, hf⟩
  have HP1 := Lib.hid hp
  have HB1 := Lib.hid hb
  have HF1 := Lib.hid hf
  have HC1 := Lib.hid hc
  have hw1 := hb.size
  clear hp hb hf hc
  go_wp2_with fail
  go_loopw [47] (fun i wr => ∃ (k : Nat) (tot : Int) (a : Option Addr) (ps : List P) (c : Nat), k ≤ n ∧ i = .int .i64 k ∧ Below w1.heap.size w1 wr ∧ w1.heap.size < wr.heap.size ∧ Box w1.heap.size wr 0 tot a ps c ∧ PRel D 0 0 0 tot ps ∧ ps ≠ []) (fun i _ => n - (intOf i).toNat)
  case atStart => exact ⟨0, D.length, a1, qs, c1, by omega, rfl, (Below.refl _ w1).alloc (Nat.le_refl _) _, by simp, ⟨by simp, by simp, by simp, by simp, by simp, by simp, ((HP1.out.below ((Below.refl _ w1).alloc (Nat.le_refl _) _) (Nat.le_refl _)).mono (by simp)), (fun ad h => by
      obtain ⟨b, off, hb, hlt, _⟩ := HP1.out 0 (List.length_pos_iff.2 HQ2.out)
      rw [hb] at h; cases h; simp; omega), HC1.out⟩, HQ1.out, HQ2.out⟩
  case round =>
    obtain ⟨k, tot, a, ps, c, hk, rfl, hbel, hsz1, hbox, hrel, hne⟩ := hrel
    have HB := Lib.hid hbel
    have HX := Lib.hid hbox
    have HR := Lib.hid hrel
    have HNE := Lib.hid hne
    clear hbel hbox hrel hne
    by_cases hlt : k < n
    · obtain ⟨⟨hz0, hz1, hz2, hz3⟩, b3, o3, rfl, hb3, e1, e2⟩ := H3.out k (by rw [← HN.out]; exact hlt)
      obtain ⟨z1, hzz1⟩ : ∃ z1, z1 = (z3[k]'(by rw [← HN.out]; exact hlt)).1 := ⟨_, rfl⟩
      obtain ⟨z2, hzz2⟩ : ∃ z2, z2 = (z3[k]'(by rw [← HN.out]; exact hlt)).2 := ⟨_, rfl⟩
      rw [← hzz1] at hz0 hz1 e1
      rw [← hzz2] at hz2 hz3 e2
      have e1 := ((HB1.out.trans (HB.out.mono hw1)).cell (p := ⟨b3, o3 + k * 2, none⟩) hb3).trans e1
      have e2 := ((HB1.out.trans (HB.out.mono hw1)).cell (p := ⟨b3, o3 + k * 2 + 1, none⟩) hb3).trans e2
      obtain ⟨o, hzo⟩ : ∃ o : Nat, z1 % (D.length : Int) = (o : Int) := ⟨(z1 % (D.length : Int)).toNat, by have := Int.emod_nonneg z1 (show (D.length : Int) ≠ 0 by omega); omega⟩
      have hoD : o < D.length := by have := Int.emod_lt_of_pos z1 (show (0 : Int) < D.length by omega); omega
      obtain ⟨r, hr⟩ : ∃ r : Nat, z2 % 9 = (r : Int) := ⟨(z2 % 9).toNat, by omega⟩
      have hr9 : r < 9 := by omega
      obtain ⟨hi_, hhi⟩ : ∃ hi_ : Nat, hi_ = min D.length (o + 1 + r) := ⟨_, rfl⟩
      obtain ⟨c0, c1, c2, f0, f1, f2, pcs, far, cap⟩ := HX.out
      obtain ⟨rs, hq1, hq2, _, _, hG⟩ := gstep HR.out (o := o) (n := hi_ - o) (by omega) (by omega) (by omega) pcs cap
      obtain ⟨T, hT⟩ : ∃ T, T = (D.drop o).take (hi_ - o) := ⟨_, rfl⟩
      rw [← hT] at hG
      have HG := Lib.hid hG
      have HQ1 := Lib.hid hq1
      have HQ2 := Lib.hid hq2
      have hxs : (⟨D.toArray⟩ : ByteArray).extract o hi_ = ⟨T.toArray⟩ := by rw [hT, ex_mid]
      have hsl := fun W => sl_mid D o hi_ (by omega) (by omega) W
      rw [← hT] at hsl
      obtain ⟨np, hnp⟩ : ∃ np, np = ps.length := ⟨_, rfl⟩
      rw [← hnp] at HG c2
      have hh1 : o < hi_ := by omega
      have hh2 : hi_ ≤ D.length := by omega
      have hmn : (if (o : Int) + 1 + (r : Int) < (D.length : Int) then (o : Int) + 1 + (r : Int) else (D.length : Int)) = (hi_ : Int) := by split <;> omega
      clear hG hq1 hq2 hT hhi hnp pcs far cap hzz1 hzz2
      go_wp2_with fail
      try rw [hzo]
      clear hzo
      have q0 : IntKind.i64.wrap z2 = z2 := IntWalk.i64_in _ (by omega)
      have q1 : IntKind.i64.wrap ((o : Int) + 1) = (o : Int) + 1 := IntWalk.i64_in _ (by omega)
      have q2 : z2.tmod 9 = (r : Int) := by rw [Int.tmod_eq_emod_of_nonneg hz2]; exact hr
      have q3 : IntKind.i64.wrap ((o : Int) + 1 + (r : Int)) = (o : Int) + 1 + (r : Int) := IntWalk.i64_in _ (by omega)
      obtain ⟨u, hu⟩ : ∃ u, u = wr.alloc (.cells #[.int .u8 z1, .int .u8 z2] 52) := ⟨_, rfl⟩
      have hbu : Below wr.heap.size wr u := by rw [hu]; exact (Below.refl _ _).alloc (Nat.le_refl _) _
      have hus : wr.heap.size < u.heap.size := by rw [hu]; simp
      have p1 : u.cell? ⟨wr.heap.size, 1, none⟩ = some (.int .u8 z2) := by rw [hu]; simp
      rw [← hu]
      have HBU := Lib.hid hbu
      have HG2 : Hid (∀ W, Below u.heap.size u W → Calls Try.prog 18 #[.agg #[.int .i64 0, .int .i64 tot, .slice a np c], .agg #[.int .i64 2, .int .i64 0, .int .i64 o, .int .i64 D.length, .slice none 0 0, .string ⟨T.toArray⟩]] W (Gathered W (0, 0, (D.length : Int), rs))) :=
        Lib.hid (fun W hW => HG.out W (HBU.out.trans (hW.mono (by omega))) none 0)
      have HK : Hid (∀ W, Below u.heap.size u W → W.cell? ⟨w1.heap.size, 0, none⟩ = some (.int .i64 0) ∧ W.cell? ⟨w1.heap.size, 1, none⟩ = some (.int .i64 tot) ∧ W.cell? ⟨w1.heap.size, 2, none⟩ = some (.slice a np c) ∧ W.cell? ⟨wr.heap.size, 1, none⟩ = some (.int .u8 z2)) := Lib.hid (fun W hW =>
          ⟨(hW.cell (p := ⟨w1.heap.size, 0, none⟩) (by simp; omega)).trans ((hbu.cell (p := ⟨w1.heap.size, 0, none⟩) hsz1).trans c0), (hW.cell (p := ⟨w1.heap.size, 1, none⟩) (by simp; omega)).trans ((hbu.cell (p := ⟨w1.heap.size, 1, none⟩) hsz1).trans c1),
           (hW.cell (p := ⟨w1.heap.size, 2, none⟩) (by simp; omega)).trans ((hbu.cell (p := ⟨w1.heap.size, 2, none⟩) hsz1).trans c2), (hW.cell (p := ⟨wr.heap.size, 1, none⟩) hus).trans p1⟩)
      clear hu hbu e1 e2
      have hh3 : (o : Int) ≤ (hi_ : Int) := by omega
      have hh4 : (hi_ : Int) ≤ (D.length : Int) := by omega
      have hcases : ((o : Int) + 1 + (r : Int) < (D.length : Int) ∧ (hi_ : Int) = (o : Int) + 1 + (r : Int)) ∨ (¬ ((o : Int) + 1 + (r : Int) < (D.length : Int)) ∧ hi_ = D.length) := by
        by_cases hm : (o : Int) + 1 + (r : Int) < (D.length : Int)
        · rw [if_pos hm] at hmn; exact .inl ⟨hm, hmn.symm⟩
        · rw [if_neg hm] at hmn; exact .inr ⟨hm, by omega⟩
      clear hmn
      rcases hcases with ⟨hm, hhe⟩ | ⟨hm, rfl⟩
      · rw [hhe] at hsl
        have hm2 : (o : Int) ≤ (o : Int) + 1 + (r : Int) := by omega
        have hm3 : (o : Int) + 1 + (r : Int) ≤ (D.length : Int) := by omega
        have hx2 : (⟨D.toArray⟩ : ByteArray).extract o (o + 1 + r) = ⟨T.toArray⟩ := by rw [← hxs]; congr 1; omega
        have hx3 : ((o : Int) + 1 + (r : Int)).toNat = o + 1 + r := by omega
        clear hhe hxs
        go_region_held3 (fun w' => w'.cell? ⟨w1.heap.size, 0, none⟩ = some (.int .i64 0) ∧ w'.cell? ⟨w1.heap.size, 1, none⟩ = some (.int .i64 tot) ∧ w'.cell? ⟨w1.heap.size, 2, none⟩ = some (.slice a np c) ∧ w'.cell? ⟨wr.heap.size, 1, none⟩ = some (.int .u8 z2))
          (first
            | exact HK.out _ (Below.refl _ _).drew
            | exact HK.out _ ((Below.refl _ _).alloc (Nat.le_refl _) _).drew
            | exact HK.out _ hwx
            | exact HK.out _ (hwx.alloc (Nat.le_trans (Nat.le_refl _) hwx.size) _)
            | exact HK.out _ (((hwx.setCell (Nat.le_refl _) _).setCell (Nat.le_refl _) _).setCell (Nat.le_refl _) _))
          (first | (go_at_call 18; refine (HG2.out _ (by first | exact ((Below.refl _ _).alloc (Nat.le_refl _) _).drew | exact (Below.refl _ _).drew)).mono ?_; rintro e x ⟨ax, cx, rfl, hpx, hbx, hcx, hfx⟩; (have hwx : Below u.heap.size u x := by first | exact (Below.refl _ _).drew.trans hbx | exact ((Below.refl _ _).alloc (Nat.le_refl _) _).drew.trans (hbx.mono (by simp))); (try (refine kept3 hbx ?_; intro e0 e1 e2 e3 e4 e5))))
        all_goals
          have hwy : Below wr.heap.size wr x := HBU.out.trans (hwx.mono (by omega))
          have y0 := (hwy.cell (p := ⟨w1.heap.size, 0, none⟩) hsz1).trans c0
          have y1 := (hwy.cell (p := ⟨w1.heap.size, 1, none⟩) hsz1).trans c1
          have y2 := (hwy.cell (p := ⟨w1.heap.size, 2, none⟩) hsz1).trans c2
          have x0 := (hwy.frozen (p := ⟨w1.heap.size, 0, none⟩) hsz1).trans f0
          have x1 := (hwy.frozen (p := ⟨w1.heap.size, 1, none⟩) hsz1).trans f1
          have x2 := (hwy.frozen (p := ⟨w1.heap.size, 2, none⟩) hsz1).trans f2
          have hxs := hwx.size
          have hnb : w1.heap.size ≠ u.heap.size := by omega
          have hnx : w1.heap.size ≠ x.heap.size := by omega
          have hlx : w1.heap.size < x.heap.size := by omega
          have y0' := fun o => cell_a1 y0 o
          have y1' := fun o => cell_a1 y1 o
          have y2' := fun o => cell_a1 y2 o
          have x0' := fun o => frozen_a1 (p := ⟨w1.heap.size, 0, none⟩) hlx x0 o
          have x1' := fun o => frozen_a1 (p := ⟨w1.heap.size, 1, none⟩) hlx x1 o
          have x2' := fun o => frozen_a1 (p := ⟨w1.heap.size, 2, none⟩) hlx x2 o
          have HWX := Lib.hid hwx
          have HWY := Lib.hid hwy
          have HPX := Lib.hid hpx
          have HFX := Lib.hid hfx
          have HCX := Lib.hid hcx
          clear hwx hpx hfx hcx hbx hwy
          go_wp2_with fail
          go_roundw
          case rel =>
            refine ⟨k + 1, D.length, ax, rs, cx, by omega, by go_num, ?_, ?_, ?_, HQ1.out, HQ2.out⟩
            · first
                | (have _e := e0; exact (((((((HB.out.trans (HWY.out.mono (by omega))).setCell (by simp; omega) _).setCell (by simp; omega) _).setCell (by simp; omega) _).setCell (by simp) _).setCell (by simp) _).setCell (by simp) _))
                | exact ((((HB.out.trans (HWY.out.mono (by omega))).setCell (by simp) _).setCell (by simp) _).setCell (by simp) _).alloc (by simp; omega) _
            · simp; omega
            · first
                | (have _e := e0
                   have hfar : ∀ ad, ax = some ad → ad.block ≠ u.heap.size := fun ad h => by have := HFX.out ad h; simp at this; omega
                   exact HX.out.set (((HWY.out.setCell (by show wr.heap.size ≤ u.heap.size; omega) _).setCell (by show wr.heap.size ≤ u.heap.size; omega) _).setCell (by show wr.heap.size ≤ u.heap.size; omega) _) hsz1 0 D.length (by simpa using ((HPX.out.setCell hfar).setCell hfar).setCell hfar) (fun ad h => by have := HFX.out ad h; simp at this; omega) HCX.out)
                | exact Box.alloc' (by simp; omega) (HX.out.set HWY.out hsz1 0 D.length HPX.out (fun ad h => by have := HFX.out ad h; simp at this; omega) HCX.out) _
          case measure => simp [intOf]; omega
      · go_region_held3 (fun w' => w'.cell? ⟨w1.heap.size, 0, none⟩ = some (.int .i64 0) ∧ w'.cell? ⟨w1.heap.size, 1, none⟩ = some (.int .i64 tot) ∧ w'.cell? ⟨w1.heap.size, 2, none⟩ = some (.slice a np c) ∧ w'.cell? ⟨wr.heap.size, 1, none⟩ = some (.int .u8 z2))
          (first
            | exact HK.out _ (Below.refl _ _).drew
            | exact HK.out _ ((Below.refl _ _).alloc (Nat.le_refl _) _).drew
            | exact HK.out _ hwx
            | exact HK.out _ (hwx.alloc (Nat.le_trans (Nat.le_refl _) hwx.size) _)
            | exact HK.out _ (((hwx.setCell (Nat.le_refl _) _).setCell (Nat.le_refl _) _).setCell (Nat.le_refl _) _))
          (first | (go_at_call 18; refine (HG2.out _ (by first | exact ((Below.refl _ _).alloc (Nat.le_refl _) _).drew | exact (Below.refl _ _).drew)).mono ?_; rintro e x ⟨ax, cx, rfl, hpx, hbx, hcx, hfx⟩; (have hwx : Below u.heap.size u x := by first | exact (Below.refl _ _).drew.trans hbx | exact ((Below.refl _ _).alloc (Nat.le_refl _) _).drew.trans (hbx.mono (by simp))); (try (refine kept3 hbx ?_; intro e0 e1 e2 e3 e4 e5))))
        all_goals
          have hwy : Below wr.heap.size wr x := HBU.out.trans (hwx.mono (by omega))
          have y0 := (hwy.cell (p := ⟨w1.heap.size, 0, none⟩) hsz1).trans c0
          have y1 := (hwy.cell (p := ⟨w1.heap.size, 1, none⟩) hsz1).trans c1
          have y2 := (hwy.cell (p := ⟨w1.heap.size, 2, none⟩) hsz1).trans c2
          have x0 := (hwy.frozen (p := ⟨w1.heap.size, 0, none⟩) hsz1).trans f0
          have x1 := (hwy.frozen (p := ⟨w1.heap.size, 1, none⟩) hsz1).trans f1
          have x2 := (hwy.frozen (p := ⟨w1.heap.size, 2, none⟩) hsz1).trans f2
          have hxs := hwx.size
          have hnb : w1.heap.size ≠ u.heap.size := by omega
          have hnx : w1.heap.size ≠ x.heap.size := by omega
          have hlx : w1.heap.size < x.heap.size := by omega
          have y0' := fun o => cell_a1 y0 o
          have y1' := fun o => cell_a1 y1 o
          have y2' := fun o => cell_a1 y2 o
          have x0' := fun o => frozen_a1 (p := ⟨w1.heap.size, 0, none⟩) hlx x0 o
          have x1' := fun o => frozen_a1 (p := ⟨w1.heap.size, 1, none⟩) hlx x1 o
          have x2' := fun o => frozen_a1 (p := ⟨w1.heap.size, 2, none⟩) hlx x2 o
          have HWX := Lib.hid hwx
          have HWY := Lib.hid hwy
          have HPX := Lib.hid hpx
          have HFX := Lib.hid hfx
          have HCX := Lib.hid hcx
          clear hwx hpx hfx hcx hbx hwy
          go_wp2_with fail
          go_roundw
          case rel =>
            refine ⟨k + 1, D.length, ax, rs, cx, by omega, by go_num, ?_, ?_, ?_, HQ1.out, HQ2.out⟩
            · first
                | (have _e := e0; exact (((((((HB.out.trans (HWY.out.mono (by omega))).setCell (by simp; omega) _).setCell (by simp; omega) _).setCell (by simp; omega) _).setCell (by simp) _).setCell (by simp) _).setCell (by simp) _))
                | exact ((((HB.out.trans (HWY.out.mono (by omega))).setCell (by simp) _).setCell (by simp) _).setCell (by simp) _).alloc (by simp; omega) _
            · simp; omega
            · first
                | (have _e := e0
                   have hfar : ∀ ad, ax = some ad → ad.block ≠ u.heap.size := fun ad h => by have := HFX.out ad h; simp at this; omega
                   exact HX.out.set (((HWY.out.setCell (by show wr.heap.size ≤ u.heap.size; omega) _).setCell (by show wr.heap.size ≤ u.heap.size; omega) _).setCell (by show wr.heap.size ≤ u.heap.size; omega) _) hsz1 0 D.length (by simpa using ((HPX.out.setCell hfar).setCell hfar).setCell hfar) (fun ad h => by have := HFX.out ad h; simp at this; omega) HCX.out)
                | exact Box.alloc' (by simp; omega) (HX.out.set HWY.out hsz1 0 D.length HPX.out (fun ad h => by have := HFX.out ad h; simp at this; omega) HCX.out) _
          case measure => simp [intOf]; omega
    · obtain rfl : k = n := by omega
      obtain ⟨wo, rfl⟩ : ∃ wo : World, wo = wr := ⟨_, rfl⟩
      have HBO := Lib.hid HB.out
      have HXO := Lib.hid HX.out
      have HRO := Lib.hid HR.out
      have HNO := Lib.hid HNE.out
      obtain ⟨toto, rfl⟩ : ∃ toto : Int, toto = tot := ⟨_, rfl⟩
      obtain ⟨ao, rfl⟩ : ∃ ao : Option Addr, ao = a := ⟨_, rfl⟩
      obtain ⟨pso, rfl⟩ : ∃ pso : List P, pso = ps := ⟨_, rfl⟩
      obtain ⟨co, rfl⟩ : ∃ co : Nat, co = c := ⟨_, rfl⟩
      have hszo := hsz1
      clear HB HX HR HNE hsz1
      go_wp2_with fail
      go_loopw [83] (fun i wr => ∃ (k : Nat) (tot : Int) (a : Option Addr) (ps : List P) (c : Nat), k + unknown D ps ≤ 60 ∧ i = .int .i64 k ∧ Below w1.heap.size w1 wr ∧ w1.heap.size < wr.heap.size ∧ Box w1.heap.size wr 0 tot a ps c ∧ PRel D 0 0 0 tot ps ∧ ps ≠ []) (fun i _ => 61 - (intOf i).toNat)
      case atStart => exact ⟨0, toto, ao, pso, co, by have := unknown_le D pso; omega, rfl, HBO.out, hszo, HXO.out, HRO.out, HNO.out⟩
      case round =>
        obtain ⟨k, tot, a, ps, c, hk, rfl, hbel, hsz1, hbox, hrel, hne⟩ := hrel
        have HB := Lib.hid hbel
        have HX := Lib.hid hbox
        have HR := Lib.hid hrel
        have HNE := Lib.hid hne
        have HU := Lib.hid hk
        have hk60 : k ≤ 60 := by omega
        clear hbel hbox hrel hne hk
        obtain ⟨c0, c1, c2, f0, f1, f2, pcs, far, cap⟩ := HX.out
        have hbd := HR.out.bounds (by omega)
        have HGA := Lib.hid (gap_any 0 tot a ps c wr pcs hbd.1 hbd.2)
        rcases gap_law HR.out HNE.out (by omega) with ⟨hgf, rfl, _, rfl⟩ | ⟨o, n, hge, hn1, hon, hfree⟩
        · have HW := Lib.hid (fun W (hW : Below wr.heap.size wr W) => whole_any 0 D.length a [(0, D)] c W ((pcs.below hW (Nat.le_refl _)).mono hW.size) (by simp) (fun p hp => by simp at hp; subst hp; simp; omega))
          rw [whole_one HR.out.valid] at HW
          rw [gap_one] at HGA
          simp only [List.length_singleton] at HW HGA c2
          clear hgf pcs far cap hbd
          have hk61 : (k : Int) < 61 := by omega
          go_wp2_with fail
          refine HGA.out.mono ?_
          rintro e x ⟨rfl, hb2⟩
          have e0 := (hb2.cell (p := ⟨w1.heap.size, 0, none⟩) hsz1).trans c0
          have e1 := (hb2.cell (p := ⟨w1.heap.size, 1, none⟩) hsz1).trans c1
          have e2 := (hb2.cell (p := ⟨w1.heap.size, 2, none⟩) hsz1).trans c2
          have HB2 := Lib.hid hb2
          clear hb2
          go_wp2_with fail
          refine (HW.out _ HB2.out).mono ?_
          rintro e y ⟨rfl, hb3⟩
          have HB3 := Lib.hid hb3
          clear hb3
          go_wp2_with fail
          refine (awake_any _).mono ?_
          rintro e x4 ⟨rfl, b4⟩
          have B4 := Lib.hid b4
          clear b4
          go_wp2_with fail
          go_ret
          have z1 := HB.out.size
          have z2 := HB2.out.size
          have z3 := HB3.out.size
          exact ⟨rfl, (((HB1.out.trans (HB.out.mono hw1)).trans (HB2.out.mono (by omega))).trans (HB3.out.mono (by omega))).trans (B4.out.mono (by omega))⟩
        · obtain ⟨rs, hq1, hq2, hq3, hq4, hG⟩ := gstep HR.out (o := o) (n := n) hon hn1 (by omega) pcs cap
          have HUL := Lib.hid (unknown_less (D := D) (by omega) hq3 hfree hq4)
          obtain ⟨T, hT⟩ : ∃ T, T = (D.drop o).take n := ⟨_, rfl⟩
          rw [← hT] at hG
          have HG := Lib.hid hG
          have HQ1 := Lib.hid hq1
          have HQ2 := Lib.hid hq2
          have hxs : (⟨D.toArray⟩ : ByteArray).extract o (o + n) = ⟨T.toArray⟩ := by rw [hT, ex_mid, Nat.add_sub_cancel_left]
          have hx3 : ((o : Int) + (n : Int)).toNat = o + n := by omega
          rw [hge] at HGA
          obtain ⟨np, hnp⟩ : ∃ np, np = ps.length := ⟨_, rfl⟩
          rw [← hnp] at HG c2 HGA
          clear hG hq1 hq2 hq3 hq4 hT hnp pcs far cap hbd hge hfree
          have hk61 : (k : Int) < 61 := by omega
          have g1 : decide ((o : Int) < 0) = false := by simp
          have g2 : decide ((n : Int) < 1) = false := by simp; omega
          have g3 : decide ((D.length : Int) < n) = false := by simp; omega
          have g3' : decide (D.length < n) = false := by simp; omega
          have g4 : decide ((D.length : Int) - n < o) = false := by simp; omega
          go_wp2_with fail
          refine HGA.out.mono ?_
          rintro e u ⟨rfl, hbu⟩
          have hus : wr.heap.size ≤ u.heap.size := hbu.size
          have HBU := Lib.hid hbu
          clear hbu
          go_wp2_with fail
          have q1 : IntKind.i64.wrap ((o : Int) + (n : Int)) = (o : Int) + (n : Int) := IntWalk.i64_in _ (by omega)
          have q2 : (o : Int) ≤ (o : Int) + (n : Int) := by omega
          have q3 : (o : Int) + (n : Int) ≤ (D.length : Int) := by omega
          have q4 : (0 : Int) ≤ (o : Int) + (n : Int) := by omega
          have HG2 : Hid (∀ W, Below u.heap.size u W → Calls Try.prog 18 #[.agg #[.int .i64 0, .int .i64 tot, .slice a np c], .agg #[.int .i64 2, .int .i64 0, .int .i64 o, .int .i64 D.length, .slice none 0 0, .string ⟨T.toArray⟩]] W (Gathered W (0, 0, (D.length : Int), rs))) :=
            Lib.hid (fun W hW => HG.out W (HBU.out.trans (hW.mono (by omega))) none 0)
          have HK : Hid (∀ W, Below u.heap.size u W → W.cell? ⟨w1.heap.size, 0, none⟩ = some (.int .i64 0) ∧ W.cell? ⟨w1.heap.size, 1, none⟩ = some (.int .i64 tot) ∧ W.cell? ⟨w1.heap.size, 2, none⟩ = some (.slice a np c)) := Lib.hid (fun W hW =>
            ⟨(hW.cell (p := ⟨w1.heap.size, 0, none⟩) (by simp; omega)).trans ((HBU.out.cell (p := ⟨w1.heap.size, 0, none⟩) hsz1).trans c0), (hW.cell (p := ⟨w1.heap.size, 1, none⟩) (by simp; omega)).trans ((HBU.out.cell (p := ⟨w1.heap.size, 1, none⟩) hsz1).trans c1),
             (hW.cell (p := ⟨w1.heap.size, 2, none⟩) (by simp; omega)).trans ((HBU.out.cell (p := ⟨w1.heap.size, 2, none⟩) hsz1).trans c2)⟩)
          go_region_held3 (fun w' => w'.cell? ⟨w1.heap.size, 0, none⟩ = some (.int .i64 0) ∧ w'.cell? ⟨w1.heap.size, 1, none⟩ = some (.int .i64 tot) ∧ w'.cell? ⟨w1.heap.size, 2, none⟩ = some (.slice a np c))
            (first
              | exact HK.out _ (Below.refl _ _).drew
              | exact HK.out _ ((Below.refl _ _).alloc (Nat.le_refl _) _).drew
              | exact HK.out _ hwx
              | exact HK.out _ (hwx.alloc (Nat.le_trans (Nat.le_refl _) hwx.size) _)
              | exact HK.out _ (((hwx.setCell (Nat.le_refl _) _).setCell (Nat.le_refl _) _).setCell (Nat.le_refl _) _))
            (first | (go_at_call 18; refine (HG2.out _ (by first | exact ((Below.refl _ _).alloc (Nat.le_refl _) _).drew | exact (Below.refl _ _).drew)).mono ?_; rintro e x ⟨ax, cx, rfl, hpx, hbx, hcx, hfx⟩; (have hwx : Below u.heap.size u x := by first | exact (Below.refl _ _).drew.trans hbx | exact ((Below.refl _ _).alloc (Nat.le_refl _) _).drew.trans (hbx.mono (by simp))); (try (refine kept3 hbx ?_; intro e0 e1 e2 e3 e4 e5))))
          all_goals
            have hwy : Below wr.heap.size wr x := HBU.out.trans (hwx.mono (by omega))
            have y0 := (hwy.cell (p := ⟨w1.heap.size, 0, none⟩) hsz1).trans c0
            have y1 := (hwy.cell (p := ⟨w1.heap.size, 1, none⟩) hsz1).trans c1
            have y2 := (hwy.cell (p := ⟨w1.heap.size, 2, none⟩) hsz1).trans c2
            have x0 := (hwy.frozen (p := ⟨w1.heap.size, 0, none⟩) hsz1).trans f0
            have x1 := (hwy.frozen (p := ⟨w1.heap.size, 1, none⟩) hsz1).trans f1
            have x2 := (hwy.frozen (p := ⟨w1.heap.size, 2, none⟩) hsz1).trans f2
            have hxs := hwx.size
            have hnb : w1.heap.size ≠ u.heap.size := by omega
            have hnx : w1.heap.size ≠ x.heap.size := by omega
            have hlx : w1.heap.size < x.heap.size := by omega
            have y0' := fun o => cell_a1 y0 o
            have y1' := fun o => cell_a1 y1 o
            have y2' := fun o => cell_a1 y2 o
            have x0' := fun o => frozen_a1 (p := ⟨w1.heap.size, 0, none⟩) hlx x0 o
            have x1' := fun o => frozen_a1 (p := ⟨w1.heap.size, 1, none⟩) hlx x1 o
            have x2' := fun o => frozen_a1 (p := ⟨w1.heap.size, 2, none⟩) hlx x2 o
            have HWX := Lib.hid hwx
            have HWY := Lib.hid hwy
            have HPX := Lib.hid hpx
            have HFX := Lib.hid hfx
            have HCX := Lib.hid hcx
            clear hwx hpx hfx hcx hbx hwy
            go_wp2_with fail
            go_roundw
            case rel =>
              refine ⟨k + 1, D.length, ax, rs, cx, by have := HU.out; have := HUL.out; omega, by go_num, ?_, ?_, ?_, HQ1.out, HQ2.out⟩
              · first
                  | (have _e := e0; exact (((((((HB.out.trans (HWY.out.mono (by omega))).setCell (by simp; omega) _).setCell (by simp; omega) _).setCell (by simp; omega) _).setCell (by simp) _).setCell (by simp) _).setCell (by simp) _))
                  | exact ((((HB.out.trans (HWY.out.mono (by omega))).setCell (by simp) _).setCell (by simp) _).setCell (by simp) _).alloc (by simp; omega) _
              · simp; omega
              · first
                  | (have _e := e0
                     have hfar : ∀ ad, ax = some ad → ad.block ≠ u.heap.size := fun ad h => by have := HFX.out ad h; simp at this; omega
                     exact HX.out.set (((HWY.out.setCell (by show wr.heap.size ≤ u.heap.size; omega) _).setCell (by show wr.heap.size ≤ u.heap.size; omega) _).setCell (by show wr.heap.size ≤ u.heap.size; omega) _) hsz1 0 D.length (by simpa using ((HPX.out.setCell hfar).setCell hfar).setCell hfar) (fun ad h => by have := HFX.out ad h; simp at this; omega) HCX.out)
                  | exact Box.alloc' (by simp; omega) (HX.out.set HWY.out hsz1 0 D.length HPX.out (fun ad h => by have := HFX.out ad h; simp at this; omega) HCX.out) _
            case measure => simp [intOf]; omega

theorem walk (s : ByteArray) (w0 : s.size ≤ maxLen) (a1 : Option Addr) (z1 : List (Int × Int)) (c1 : Nat) (w : World) (w1 : Prs w.heap.size w a1 z1) (g1 : z1.length ≤ c1) :
    Calls Try.prog 7 #[.string s, .slice a1 z1.length c1] w fun e w' => e = .returned (.bool true) ∧ Below w.heap.size w w' := by
  obtain ⟨D, rfl⟩ : ∃ l : List UInt8, s = ⟨l.toArray⟩ := ⟨s.data.toList, ba_eq rfl⟩
  by_cases h : (D.length : Int) < 1 ∨ (60 : Int) < D.length ∨ (20 : Int) < z1.length
  · exact small D a1 z1 c1 w h
  · exact great D a1 z1 c1 w w1 (by omega) (by omega) (by omega)

end Go.Proofs.Ytlijaacjfnjmjaa.wireGaps
