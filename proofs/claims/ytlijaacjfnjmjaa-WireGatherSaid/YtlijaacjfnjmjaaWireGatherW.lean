/- The walk of WireGather. -/
import Derived.Test.YtlijaacjfnjmjaaWireRG
import Derived.Test.YtlijaacjfnjmjaaWireWh
import Derived.Test.YtlijaacjfnjmjaaWirePl
import Derived.Test.YtlijaacjfnjmjaaWireAw
import Derived.Test.YtlijaacjfnjmjaaWireO
namespace Go.Proofs.Ytlijaacjfnjmjaa.wireGather
open Go.RowKit
set_option linter.unusedVariables false

theorem gather_len {id tot : Int} {ps : List P} {kind mid off mtot : Int} {nd : Nat} {data : List UInt8} {er a b : Int} {qs : List P} (h : gatherS id tot ps kind mid off mtot nd data = (er, a, b, qs)) : (qs.length : Int) ≤ 1048577 := by
  by_cases he : er = 0
  · subst he
    obtain ⟨_, _, hv, _⟩ := gather_law h
    exact (vParts_bounds hv).1
  · unfold gatherS at h
    split at h
    · simp only [Prod.mk.injEq] at h; rw [← h.2.2.2]; simp
    split at h
    · simp only [Prod.mk.injEq] at h; rw [← h.2.2.2]; simp
    split at h
    · simp only [Prod.mk.injEq] at h; rw [← h.2.2.2]; simp
    split at h
    · simp only [Prod.mk.injEq] at h; rw [← h.2.2.2]; simp
    split at h
    · simp only [Prod.mk.injEq] at h; rw [← h.2.2.2]; simp
    · simp only [Prod.mk.injEq] at h; exact absurd h.1.symm he

theorem gpB_false {ps : List P} (h : gpB ps = false) : ps.length ≤ 20 ∧ ∀ p ∈ ps, p.2.length ≤ 100 := by
  unfold gpB at h
  simp only [Bool.or_eq_false_iff, decide_eq_false_iff_not, List.any_eq_false, decide_eq_true_eq] at h
  exact ⟨by omega, fun p hp => by have := h.2 p hp; omega⟩

set_option maxRecDepth 100000 in
set_option maxHeartbeats 4000000 in
theorem walk (i0 t0 : Int) (a0 : Option Addr) (z0 : List P) (c0 : Nat) (m1 : Msg) (a1 : Option Addr) (c1 : Nat) (w : World) (w0 : Pcs w.heap.size w a0 z0) (g0 : z0.length ≤ c0) (w1 : Digs w.heap.size w a1 m1.ds) (g1 : m1.ds.length ≤ c1) (o1 : m1.Ok) :
    Calls Try.prog 5 #[.agg #[.int .i64 i0, .int .i64 t0, .slice a0 z0.length c0], m1.val a1 c1] w fun e w' => e = .returned (.bool true) ∧ Below w.heap.size w w' := by
  obtain ⟨kind, mid, off, mtot, ds, data⟩ := m1
  simp only [Msg.val] at *
  clear w1 g1 o1
  obtain ⟨W, hW⟩ : ∃ W : World, (w.alloc (.cells #[.int .i64 i0, .int .i64 t0, .slice a0 z0.length c0] 31)).alloc (.cells #[.int .i64 kind, .int .i64 mid, .int .i64 off, .int .i64 mtot, .slice a1 ds.length c1, .string ⟨data.toArray⟩] 34) = W := ⟨_, rfl⟩
  have HBW : Hid (Below w.heap.size w W) := Lib.hid (by rw [← hW]; exact ((Below.refl _ w).alloc (Nat.le_refl _) _).alloc (by simp) _)
  have b0 : W.cell? ⟨w.heap.size, 0, none⟩ = some (.int .i64 i0) := by rw [← hW]; simp [go_sem]
  have b1 : W.cell? ⟨w.heap.size, 1, none⟩ = some (.int .i64 t0) := by rw [← hW]; simp [go_sem]
  have b2 : W.cell? ⟨w.heap.size, 2, none⟩ = some (.slice a0 z0.length c0) := by rw [← hW]; simp [go_sem]
  have b3 : W.cell? ⟨w.heap.size + 1, 0, none⟩ = some (.int .i64 kind) := by rw [← hW]; simp [go_sem]
  have b4 : W.cell? ⟨w.heap.size + 1, 1, none⟩ = some (.int .i64 mid) := by rw [← hW]; simp [go_sem]
  have b5 : W.cell? ⟨w.heap.size + 1, 2, none⟩ = some (.int .i64 off) := by rw [← hW]; simp [go_sem]
  have b6 : W.cell? ⟨w.heap.size + 1, 3, none⟩ = some (.int .i64 mtot) := by rw [← hW]; simp [go_sem]
  have b7 : W.cell? ⟨w.heap.size + 1, 4, none⟩ = some (.slice a1 ds.length c1) := by rw [← hW]; simp [go_sem]
  have b8 : W.cell? ⟨w.heap.size + 1, 5, none⟩ = some (.string ⟨data.toArray⟩) := by rw [← hW]; simp [go_sem]
  have hWs : w.heap.size + 2 ≤ W.heap.size := by rw [← hW]; simp
  have HW := Lib.hid hW
  have HP := Lib.hid w0
  obtain ⟨nz, hnz⟩ : ∃ nz, nz = z0.length := ⟨_, rfl⟩
  obtain ⟨nd, hnd⟩ : ∃ nd, nd = ds.length := ⟨_, rfl⟩
  have HGP := Lib.hid (fun X (hX : Below w.heap.size w X) => greatParts_any i0 t0 a0 z0 c0 X ((w0.below hX (Nat.le_refl _)).mono hX.size))
  obtain ⟨gp, hgp⟩ : ∃ gp, gp = gpB z0 := ⟨_, rfl⟩
  rw [← hgp] at HGP
  have HGPB := Lib.hid hgp
  have HNZ := Lib.hid hnz
  rw [← hnz] at b2 HGP HW ⊢
  rw [← hnd] at b7 HW ⊢
  have HCAP := Lib.hid g0
  clear hgp w0 hnz hnd hW g0
  have K : Hid (∀ X, Below W.heap.size W X → (X.cell? ⟨w.heap.size, 0, none⟩ = some (.int .i64 i0) ∧ X.cell? ⟨w.heap.size, 1, none⟩ = some (.int .i64 t0) ∧ X.cell? ⟨w.heap.size, 2, none⟩ = some (.slice a0 nz c0)) ∧ X.cell? ⟨w.heap.size + 1, 0, none⟩ = some (.int .i64 kind) ∧ X.cell? ⟨w.heap.size + 1, 1, none⟩ = some (.int .i64 mid) ∧ X.cell? ⟨w.heap.size + 1, 2, none⟩ = some (.int .i64 off) ∧ X.cell? ⟨w.heap.size + 1, 3, none⟩ = some (.int .i64 mtot) ∧ X.cell? ⟨w.heap.size + 1, 4, none⟩ = some (.slice a1 nd c1) ∧ X.cell? ⟨w.heap.size + 1, 5, none⟩ = some (.string ⟨data.toArray⟩)) := Lib.hid (fun X hX =>
    ⟨⟨(hX.cell (p := ⟨w.heap.size, 0, none⟩) (by simp; omega)).trans b0, (hX.cell (p := ⟨w.heap.size, 1, none⟩) (by simp; omega)).trans b1, (hX.cell (p := ⟨w.heap.size, 2, none⟩) (by simp; omega)).trans b2⟩,
      (hX.cell (p := ⟨w.heap.size + 1, 0, none⟩) (by simp; omega)).trans b3, (hX.cell (p := ⟨w.heap.size + 1, 1, none⟩) (by simp; omega)).trans b4, (hX.cell (p := ⟨w.heap.size + 1, 2, none⟩) (by simp; omega)).trans b5, (hX.cell (p := ⟨w.heap.size + 1, 3, none⟩) (by simp; omega)).trans b6, (hX.cell (p := ⟨w.heap.size + 1, 4, none⟩) (by simp; omega)).trans b7, (hX.cell (p := ⟨w.heap.size + 1, 5, none⟩) (by simp; omega)).trans b8⟩)
  go_enter Try.func5, Try.ntmps5
  go_wp2_with fail
  rw [HW.out]
  refine (HGP.out _ HBW.out).mono ?_
  rintro e x1 ⟨rfl, hx1⟩
  have HX1 := Lib.hid hx1
  obtain ⟨⟨k0, k1, k2⟩, k3, k4, k5, k6, k7, k8⟩ := K.out x1 hx1
  clear hx1 b0 b1 b2 b3 b4 b5 b6 b7 b8
  have hz1 := HX1.out.size
  cases gp with
  | true =>
    go_wp2_with fail
    refine (awake_any _).mono ?_
    rintro e x4 ⟨rfl, b4⟩
    have B4 := Lib.hid b4
    clear b4
    go_wp2_with fail
    go_ret
    exact ⟨rfl, (HBW.out.trans (HX1.out.mono HBW.out.size)).trans (B4.out.mono (by omega))⟩
  | false =>
    obtain ⟨hz20, hz100⟩ := gpB_false HGPB.out.symm
    have HZ : Hid (∀ p ∈ z0, p.2.length ≤ 1048576) := Lib.hid (fun p hp => by have := hz100 p hp; omega)
    have HZL : Hid ((z0.length : Int) ≤ 1048576) := Lib.hid (by omega)
    clear hz100 hz20
    by_cases hgr : (10 : Int) < nd ∨ (100 : Int) < data.length
    · have HG := Lib.hid (fun X => great_yes kind mid off mtot a1 nd c1 ⟨data.toArray⟩ X (by rw [ba_len]; exact hgr))
      clear hgr
      go_wp2_with fail
      refine (HG.out _).mono ?_
      rintro e x2 ⟨rfl, hx2⟩
      have HX2 := Lib.hid hx2
      clear hx2
      go_wp2_with fail
      refine (awake_any _).mono ?_
      rintro e x4 ⟨rfl, b4⟩
      have B4 := Lib.hid b4
      clear b4
      have hz2 := HX2.out.size
      go_wp2_with fail
      go_ret
      exact ⟨rfl, ((HBW.out.trans (HX1.out.mono HBW.out.size)).trans (HX2.out.mono (by omega))).trans (B4.out.mono (by omega))⟩
    · have hd10 : (nd : Int) ≤ 10 := by omega
      have hd100 : (data.length : Int) ≤ 100 := by omega
      have HG := Lib.hid (fun X => great_no kind mid off mtot a1 nd c1 ⟨data.toArray⟩ X hd10 (by rw [ba_len]; exact hd100))
      clear hgr
      obtain ⟨er, qi, qt, qs, hg⟩ : ∃ er qi qt qs, gatherS i0 t0 z0 kind mid off mtot nd data = (er, qi, qt, qs) := ⟨_, _, _, _, rfl⟩
      have hql := gather_len hg
      have PB : Hid (∀ X, Below w.heap.size w X → Pcs X.heap.size X a0 z0) := Lib.hid (fun X hX => (HP.out.below hX (Nat.le_refl _)).mono hX.size)
      have H1 := Lib.hid (fun X (hX : Below w.heap.size w X) => gather_any i0 t0 a0 z0 c0 kind mid off mtot a1 nd c1 data X (PB.out X hX) HCAP.out HZL.out HZ.out (by omega))
      have H2 := Lib.hid (fun X (hX : Below w.heap.size w X) => refGather_any i0 t0 a0 z0 c0 kind mid off mtot a1 nd c1 data X (PB.out X hX) HCAP.out HZL.out HZ.out (by omega) (by omega))
      have H3 := Lib.hid (fun X (hX : Below w.heap.size w X) => whole_any i0 t0 a0 z0 c0 X (PB.out X hX) HZL.out HZ.out)
      have H4 := Lib.hid (fun X (hX : Below w.heap.size w X) => refWhole_any i0 t0 a0 z0 c0 X (PB.out X hX) HZL.out HZ.out)
      have H5 := Lib.hid (fun X (hX : Below w.heap.size w X) => gap_any i0 t0 a0 z0 c0 X (PB.out X hX) HZL.out HZ.out)
      have H6 := Lib.hid (fun X (hX : Below w.heap.size w X) => refGap_any i0 t0 a0 z0 c0 X (PB.out X hX) HZL.out HZ.out)
      rw [hg, ← HNZ.out] at H1 H2
      rw [← HNZ.out] at H3 H4 H5 H6
      clear hg
      generalize wholeS i0 t0 z0 = WH at H3 H4
      generalize gapS i0 t0 z0 = GA at H5 H6
      obtain ⟨WS, WB⟩ := WH
      obtain ⟨G1, G2, G3⟩ := GA
      simp only at H3 H4 H5 H6
      go_wp2_with fail
      refine (HG.out _).mono ?_
      rintro e x2 ⟨rfl, hx2⟩
      have hz2 := hx2.size
      have HX2 : Hid (Below W.heap.size W x2) := Lib.hid (HX1.out.trans (hx2.mono (by omega)))
      obtain ⟨⟨j0, j1, j2⟩, j3, j4, j5, j6, j7, j8⟩ := K.out x2 HX2.out
      clear hx2 k0 k1 k2 k3 k4 k5 k6 k7 k8
      go_wp2_with fail
      refine (H1.out _ (HBW.out.trans (HX2.out.mono HBW.out.size))).mono ?_
      rintro e x3 ⟨p3, c3, rfl, hp3, hx3, _, _⟩
      have hz3 := hx3.size
      obtain ⟨nq, hnq⟩ : ∃ nq, nq = qs.length := ⟨_, rfl⟩
      simp only
      rw [← hnq]
      obtain ⟨u3, hu3⟩ : ∃ u, x3.alloc (.cells #[.int .i64 qi, .int .i64 qt, .slice p3 nq c3] 31) = u := ⟨_, rfl⟩
      have hs3 : x3.heap.size + 1 ≤ u3.heap.size := by rw [← hu3]; simp
      have HB3 : Hid (Below x3.heap.size x3 u3) := Lib.hid (by rw [← hu3]; exact (Below.refl _ _).alloc (Nat.le_refl _) _)
      have HX3 : Hid (Below W.heap.size W u3) := Lib.hid ((HX2.out.trans (hx3.mono (by omega))).trans (HB3.out.mono (by omega)))
      have HP3 : Hid (Pcs u3.heap.size u3 p3 qs) := Lib.hid ((Pcs.below hp3 HB3.out (Nat.le_refl _)).mono (by omega))
      have y0 : u3.cell? ⟨x3.heap.size, 0, none⟩ = some (.int .i64 qi) := by rw [← hu3]; simp
      have y1 : u3.cell? ⟨x3.heap.size, 1, none⟩ = some (.int .i64 qt) := by rw [← hu3]; simp
      have y2 : u3.cell? ⟨x3.heap.size, 2, none⟩ = some (.slice p3 nq c3) := by rw [← hu3]; simp
      obtain ⟨⟨k0, k1, k2⟩, k3, k4, k5, k6, k7, k8⟩ := K.out _ HX3.out
      have HNQ := Lib.hid hnq
      rw [← hnq] at hql
      clear hx3 j0 j1 j2 j3 j4 j5 j6 j7 j8 hp3 hnq
      go_wp2_with fail
      clear hu3
      refine (H2.out _ (HBW.out.trans (HX3.out.mono HBW.out.size))).mono ?_
      rintro e x4 ⟨p4, c4, rfl, hp4, hx4, _, _⟩
      have hz4 := hx4.size
      simp only
      rw [← HNQ.out]
      obtain ⟨u4, hu4⟩ : ∃ u, x4.alloc (.cells #[.int .i64 qi, .int .i64 qt, .slice p4 nq c4] 31) = u := ⟨_, rfl⟩
      have hs4 : x4.heap.size + 1 ≤ u4.heap.size := by rw [← hu4]; simp
      have HB4 : Hid (Below x4.heap.size x4 u4) := Lib.hid (by rw [← hu4]; exact (Below.refl _ _).alloc (Nat.le_refl _) _)
      have HB34 : Hid (Below u3.heap.size u3 u4) := Lib.hid (hx4.trans (HB4.out.mono (by omega)))
      have HX4 : Hid (Below W.heap.size W u4) := Lib.hid (HX3.out.trans (HB34.out.mono (by omega)))
      have HP4 : Hid (Pcs u4.heap.size u4 p4 qs) := Lib.hid ((Pcs.below hp4 HB4.out (Nat.le_refl _)).mono (by omega))
      have HP3' : Hid (Pcs u4.heap.size u4 p3 qs) := Lib.hid ((HP3.out.below HB34.out (Nat.le_refl _)).mono (by omega))
      have v0 : u4.cell? ⟨x4.heap.size, 0, none⟩ = some (.int .i64 qi) := by rw [← hu4]; simp
      have v1 : u4.cell? ⟨x4.heap.size, 1, none⟩ = some (.int .i64 qt) := by rw [← hu4]; simp
      have v2 : u4.cell? ⟨x4.heap.size, 2, none⟩ = some (.slice p4 nq c4) := by rw [← hu4]; simp
      have y0 := (HB34.out.cell (p := ⟨x3.heap.size, 0, none⟩) (by simp; omega)).trans y0
      have y1 := (HB34.out.cell (p := ⟨x3.heap.size, 1, none⟩) (by simp; omega)).trans y1
      have y2 := (HB34.out.cell (p := ⟨x3.heap.size, 2, none⟩) (by simp; omega)).trans y2
      clear k0 k1 k2 k3 k4 k5 k6 k7 k8
      obtain ⟨⟨k0, k1, k2⟩, _⟩ := K.out _ HX4.out
      have HWU4 : Hid (Below w.heap.size w u4) := Lib.hid (HBW.out.trans (HX4.out.mono HBW.out.size))
      clear hx4 hp4
      go_wp2_with fail
      clear hu4
      refine (H3.out _ HWU4.out).mono ?_
      rintro e x5 ⟨rfl, hx5⟩
      have HX5 := Lib.hid hx5
      have hz5 := hx5.size
      have k0 := (hx5.cell (p := ⟨w.heap.size, 0, none⟩) (by simp; omega)).trans k0
      have k1 := (hx5.cell (p := ⟨w.heap.size, 1, none⟩) (by simp; omega)).trans k1
      have k2 := (hx5.cell (p := ⟨w.heap.size, 2, none⟩) (by simp; omega)).trans k2
      clear hx5
      go_wp2_with fail
      refine (H4.out _ (HWU4.out.trans (HX5.out.mono (by omega)))).mono ?_
      rintro e x6 ⟨rfl, hx6⟩
      have HX6 : Hid (Below u4.heap.size u4 x6) := Lib.hid (HX5.out.trans (hx6.mono (by omega)))
      have hz6 := hx6.size
      have k0 := (hx6.cell (p := ⟨w.heap.size, 0, none⟩) (by simp; omega)).trans k0
      have k1 := (hx6.cell (p := ⟨w.heap.size, 1, none⟩) (by simp; omega)).trans k1
      have k2 := (hx6.cell (p := ⟨w.heap.size, 2, none⟩) (by simp; omega)).trans k2
      clear hx6
      go_wp2_with fail
      refine (H5.out _ (HWU4.out.trans (HX6.out.mono (by omega)))).mono ?_
      rintro e x7 ⟨rfl, hx7⟩
      have HX7 : Hid (Below u4.heap.size u4 x7) := Lib.hid (HX6.out.trans (hx7.mono (by omega)))
      have hz7 := hx7.size
      have k0 := (hx7.cell (p := ⟨w.heap.size, 0, none⟩) (by simp; omega)).trans k0
      have k1 := (hx7.cell (p := ⟨w.heap.size, 1, none⟩) (by simp; omega)).trans k1
      have k2 := (hx7.cell (p := ⟨w.heap.size, 2, none⟩) (by simp; omega)).trans k2
      clear hx7
      go_wp2_with fail
      refine (H6.out _ (HWU4.out.trans (HX7.out.mono (by omega)))).mono ?_
      rintro e x8 ⟨rfl, hx8⟩
      have HX8 : Hid (Below u4.heap.size u4 x8) := Lib.hid (HX7.out.trans (hx8.mono (by omega)))
      have hz8 := hx8.size
      have v0 := (HX8.out.cell (p := ⟨x4.heap.size, 0, none⟩) (by simp; omega)).trans v0
      have v1 := (HX8.out.cell (p := ⟨x4.heap.size, 1, none⟩) (by simp; omega)).trans v1
      have v2 := (HX8.out.cell (p := ⟨x4.heap.size, 2, none⟩) (by simp; omega)).trans v2
      have y0 := (HX8.out.cell (p := ⟨x3.heap.size, 0, none⟩) (by simp; omega)).trans y0
      have y1 := (HX8.out.cell (p := ⟨x3.heap.size, 1, none⟩) (by simp; omega)).trans y1
      have y2 := (HX8.out.cell (p := ⟨x3.heap.size, 2, none⟩) (by simp; omega)).trans y2
      have HS := Lib.hid (sameParts_eq qi qt p3 p4 qs c3 c4 x8 ((HP3'.out.below HX8.out (Nat.le_refl _)).mono HX8.out.size) ((HP4.out.below HX8.out (Nat.le_refl _)).mono HX8.out.size) (by rw [← HNQ.out]; omega))
      rw [← HNQ.out] at HS
      clear hx8 k0 k1 k2
      go_wp2_with fail
      refine HS.out.mono ?_
      rintro e x9 ⟨rfl, hx9⟩
      have HX9 := Lib.hid hx9
      have hz9 := hx9.size
      clear hx9
      go_wp2_with fail
      refine (awake_any _).mono ?_
      rintro e x10 ⟨rfl, hx10⟩
      have HX10 := Lib.hid hx10
      clear hx10
      go_wp2_with fail
      go_ret
      exact ⟨rfl, ((HWU4.out.trans (HX8.out.mono (by omega))).trans (HX9.out.mono (by omega))).trans (HX10.out.mono (by omega))⟩

end Go.Proofs.Ytlijaacjfnjmjaa.wireGather
