/- The walk of WireConsistent. -/
import Derived.Test.YtlijaacjfnjmjaaWireAw
import Derived.Test.YtlijaacjfnjmjaaWireO
import Derived.Test.YtlijaacjfnjmjaaWireCoK
import Derived.Test.YtlijaacjfnjmjaaWireRV
import Derived.Deep.RegionHeld3
import Derived.Deep.AppendLies
import Derived.Deep.DeepCutAuto
import Derived.Deep.CutBlock
import Derived.Deep.CutRange
namespace Go.Proofs.Ytlijaacjfnjmjaa.wireConsistent
open Go.RowKit
set_option linter.unusedVariables false

/-- The walk where the test lets the input go. -/
theorem gpB_false {ps : List P} (h : gpB ps = false) : ps.length ≤ 20 ∧ ∀ p ∈ ps, p.2.length ≤ 100 := by
  unfold gpB at h
  simp only [Bool.or_eq_false_iff, decide_eq_false_iff_not, List.any_eq_false, decide_eq_true_eq] at h
  exact ⟨by omega, fun p hp => by have := h.2 p hp; omega⟩

theorem has_unique {id tot : Int} {qs : List P} (h : vParts id tot qs = true) {i : Int} {c c' : UInt8} (h1 : Has qs i c) (h2 : Has qs i c') : c = c' ∧ 0 ≤ i ∧ i < 1048576 := by
  cases qs with
  | nil => exact absurd h1 Has.nil
  | cons q qs =>
    obtain ⟨hv, _, _, ht0, ht1⟩ := vParts_vgo h
    obtain ⟨ga, gp⟩ := vgo_iff.1 hv
    obtain ⟨p, hp, hp1⟩ := h1
    obtain ⟨p', hp', hp2⟩ := h2
    have r1 := hp1.range
    have r2 := hp2.range
    obtain ⟨b0, _, b2, _⟩ := ga p hp
    refine ⟨?_, by omega, by omega⟩
    obtain ⟨j, hj, rfl⟩ := List.getElem_of_mem hp
    obtain ⟨j', hj', rfl⟩ := List.getElem_of_mem hp'
    have hjj : j = j' := by
      apply Classical.byContradiction
      intro hne
      rcases Nat.lt_or_gt_of_ne hne with hlt | hlt
      · have := pairwise_get gp hlt hj'; omega
      · have := pairwise_get gp hlt hj; omega
    subst hjj
    have := hp1.2.symm.trans hp2.2
    simpa using this

theorem vgo_length2 {tot : Int} : ∀ {ps : List P} {e : Int}, vgo tot e ps = true → ps = [] ∨ 2 * (ps.length : Int) ≤ tot - e
  | [], _, _ => .inl rfl
  | p :: ps, e, h => by
    rw [vgo] at h
    simp only [Bool.and_eq_true, decide_eq_true_eq] at h
    obtain ⟨⟨⟨⟨h0, h1⟩, h2⟩, h3⟩, h4⟩ := h
    have hp : 0 < p.2.length := List.length_pos_iff.2 (by simpa using h1)
    right
    rcases vgo_length2 h4 with rfl | h5
    · simp only [List.length_cons, List.length_nil]; omega
    · simp only [List.length_cons]; omega
theorem vParts_len {id tot : Int} {ps : List P} (h : vParts id tot ps = true) : (ps.length : Int) ≤ 1048576 := by
  cases ps with
  | nil => simp
  | cons p ps =>
    obtain ⟨hv, _, _, h0, h1⟩ := vParts_vgo h
    rcases vgo_length2 hv with h | h
    · cases h
    · omega

theorem own0 (u : World) : (u.alloc (.cells #[] 40)).ownsRow u.heap.size 40 2 (.slice (some ⟨u.heap.size, 0, none⟩) 0 0) 0 [] :=
  ⟨rfl, .inr ⟨u.heap.size, 0, #[], rfl, Nat.le_refl _, heap_alloc_new u _, Nat.le_refl _, by unfold maxLen; omega, rfl, rfl⟩⟩
theorem own0' (u : World) (o : Obj) : ((u.alloc o).alloc (.cells #[] 40)).ownsRow u.heap.size 40 2 (.slice (some ⟨u.heap.size + 1, 0, none⟩) 0 0) 0 [] :=
  ⟨rfl, .inr ⟨u.heap.size + 1, 0, #[], rfl, by omega, by simpa using heap_alloc_new (u.alloc o) (.cells #[] 40), Nat.le_refl _, by unfold maxLen; omega, rfl, rfl⟩⟩

theorem ownsRow_pcs {w : World} {base : Nat} {a : Option Addr} {cap : Nat} {ps : List P} (h : w.ownsRow base 40 2 (.slice a ps.length cap) ps.length (pcells ps)) : Pcs w.heap.size w a ps := by
  intro i hi
  rcases h.2 with ⟨h1, h2⟩ | ⟨g, cap', cur, h1, _, hg, _⟩
  · omega
  · cases h1
    obtain ⟨c0, c1⟩ := pcells_even ps i hi
    refine ⟨g, 0, rfl, (Array.getElem?_eq_some_iff.1 hg).1, ?_, ?_⟩
    · have := h.cells (g := g) rfl _ _ c0; rwa [Go.WideShapes.add_plain] at this
    · have := h.cells (g := g) rfl _ _ c1; rwa [Go.WideShapes.add_plain, ← Nat.add_assoc] at this

theorem new1 (u : World) (o o' : Obj) : ((u.alloc o).alloc o').drew.heap[u.heap.size + 1]? = some o' := by
  have h := heap_alloc_new (u.alloc o) o'
  rw [show (u.alloc o).heap.size = u.heap.size + 1 by simp] at h
  exact h
theorem new0 (u : World) (o o' : Obj) : ((u.alloc o).alloc o').drew.heap[u.heap.size]? = some o := (Below.heap_alloc (u.alloc o) o' u.heap.size (by simp)).trans (heap_alloc_new u o)

theorem gather_err {id tot : Int} {ps : List P} {kind mid off mtot : Int} {nd : Nat} {data : List UInt8} {er a b : Int} {qs : List P} (h : gatherS id tot ps kind mid off mtot nd data = (er, a, b, qs)) (he : er ≠ 0) : a = 0 ∧ b = 0 ∧ qs = [] := by
  unfold gatherS at h
  split at h
  · simp only [Prod.mk.injEq] at h; exact ⟨h.2.1.symm, h.2.2.1.symm, h.2.2.2.symm⟩
  split at h
  · simp only [Prod.mk.injEq] at h; exact ⟨h.2.1.symm, h.2.2.1.symm, h.2.2.2.symm⟩
  split at h
  · simp only [Prod.mk.injEq] at h; exact ⟨h.2.1.symm, h.2.2.1.symm, h.2.2.2.symm⟩
  split at h
  · simp only [Prod.mk.injEq] at h; exact ⟨h.2.1.symm, h.2.2.1.symm, h.2.2.2.symm⟩
  split at h
  · simp only [Prod.mk.injEq] at h; exact ⟨h.2.1.symm, h.2.2.1.symm, h.2.2.2.symm⟩
  · simp only [Prod.mk.injEq] at h; exact absurd h.1.symm he

set_option maxRecDepth 100000 in
set_option maxHeartbeats 4000000 in
theorem walk (i0 t0 : Int) (a0 : Option Addr) (z0 : List P) (c0 : Nat) (m1 : Msg) (a1 : Option Addr) (c1 : Nat) (w : World) (w0 : Pcs w.heap.size w a0 z0) (g0 : z0.length ≤ c0) (w1 : Digs w.heap.size w a1 m1.ds) (g1 : m1.ds.length ≤ c1) (o1 : m1.Ok) :
    Calls Try.prog 4 #[.agg #[.int .i64 i0, .int .i64 t0, .slice a0 z0.length c0], m1.val a1 c1] w fun e w' => e = .returned (.bool true) ∧ Below w.heap.size w w' := by
  obtain ⟨kind, mid, off, mtot, ds, data⟩ := m1
  simp only [Msg.val] at *
  clear w1 g1 o1
  obtain ⟨W, hW⟩ : ∃ W : World, (w.alloc (.cells #[.int .i64 i0, .int .i64 t0, .slice a0 z0.length c0] 31)).alloc (.cells #[.int .i64 kind, .int .i64 mid, .int .i64 off, .int .i64 mtot, .slice a1 ds.length c1, .string ⟨data.toArray⟩] 34) = W := ⟨_, rfl⟩
  have HBW : Hid (Below w.heap.size w W) := Lib.hid (by rw [← hW]; exact ((Below.refl _ w).alloc (Nat.le_refl _) _).alloc (by simp) _)
  have b0 : W.cell? ⟨w.heap.size, 0, none⟩ = some (.int .i64 i0) := by rw [← hW]; simp [go_sem]
  have b1 : W.cell? ⟨w.heap.size, 1, none⟩ = some (.int .i64 t0) := by rw [← hW]; simp [go_sem]
  have b2 : W.cell? ⟨w.heap.size, 2, none⟩ = some (.slice a0 z0.length c0) := by rw [← hW]; simp [go_sem]
  have b3 : W.cell? ⟨w.heap.size + 1, 0, none⟩ = some (.int .i64 kind) := by rw [← hW]; simp [go_sem]
  have b4 : W.cell? ⟨w.heap.size + 1, 1, none⟩ = some (.int .i64 mid) := by rw [← hW]; simp [go_sem]
  have b5 : W.cell? ⟨w.heap.size + 1, 2, none⟩ = some (.int .i64 off) := by rw [← hW]; simp [go_sem]
  have b6 : W.cell? ⟨w.heap.size + 1, 3, none⟩ = some (.int .i64 mtot) := by rw [← hW]; simp [go_sem]
  have b7 : W.cell? ⟨w.heap.size + 1, 4, none⟩ = some (.slice a1 ds.length c1) := by rw [← hW]; simp [go_sem]
  have b8 : W.cell? ⟨w.heap.size + 1, 5, none⟩ = some (.string ⟨data.toArray⟩) := by rw [← hW]; simp [go_sem]
  have hWs : w.heap.size + 2 = W.heap.size := by rw [← hW]; simp
  have HW := Lib.hid hW
  have HP := Lib.hid w0
  obtain ⟨nz, hnz⟩ : ∃ nz, nz = z0.length := ⟨_, rfl⟩
  obtain ⟨nd, hnd⟩ : ∃ nd, nd = ds.length := ⟨_, rfl⟩
  have HGP := Lib.hid (fun X (hX : Below w.heap.size w X) => greatParts_any i0 t0 a0 z0 c0 X ((w0.below hX (Nat.le_refl _)).mono hX.size))
  obtain ⟨gp, hgp⟩ : ∃ gp, gp = gpB z0 := ⟨_, rfl⟩
  rw [← hgp] at HGP
  have HGPB := Lib.hid hgp
  have HNZ := Lib.hid hnz
  rw [← hnz] at b2 HGP HW ⊢
  rw [← hnd] at b7 HW ⊢
  have HCAP := Lib.hid g0
  clear hgp w0 hnz hnd hW g0
  have K : Hid (∀ X, Below W.heap.size W X → (X.cell? ⟨w.heap.size, 0, none⟩ = some (.int .i64 i0) ∧ X.cell? ⟨w.heap.size, 1, none⟩ = some (.int .i64 t0) ∧ X.cell? ⟨w.heap.size, 2, none⟩ = some (.slice a0 nz c0)) ∧ X.cell? ⟨w.heap.size + 1, 0, none⟩ = some (.int .i64 kind) ∧ X.cell? ⟨w.heap.size + 1, 1, none⟩ = some (.int .i64 mid) ∧ X.cell? ⟨w.heap.size + 1, 2, none⟩ = some (.int .i64 off) ∧ X.cell? ⟨w.heap.size + 1, 3, none⟩ = some (.int .i64 mtot) ∧ X.cell? ⟨w.heap.size + 1, 4, none⟩ = some (.slice a1 nd c1) ∧ X.cell? ⟨w.heap.size + 1, 5, none⟩ = some (.string ⟨data.toArray⟩)) := Lib.hid (fun X hX =>
    ⟨⟨(hX.cell (p := ⟨w.heap.size, 0, none⟩) (by simp; omega)).trans b0, (hX.cell (p := ⟨w.heap.size, 1, none⟩) (by simp; omega)).trans b1, (hX.cell (p := ⟨w.heap.size, 2, none⟩) (by simp; omega)).trans b2⟩,
      (hX.cell (p := ⟨w.heap.size + 1, 0, none⟩) (by simp; omega)).trans b3, (hX.cell (p := ⟨w.heap.size + 1, 1, none⟩) (by simp; omega)).trans b4, (hX.cell (p := ⟨w.heap.size + 1, 2, none⟩) (by simp; omega)).trans b5, (hX.cell (p := ⟨w.heap.size + 1, 3, none⟩) (by simp; omega)).trans b6, (hX.cell (p := ⟨w.heap.size + 1, 4, none⟩) (by simp; omega)).trans b7, (hX.cell (p := ⟨w.heap.size + 1, 5, none⟩) (by simp; omega)).trans b8⟩)
  go_enter Try.func4, Try.ntmps4
  go_wp2_with fail
  rw [HW.out]
  refine (HGP.out _ HBW.out).mono ?_
  rintro e x1 ⟨rfl, hx1⟩
  have HX1 := Lib.hid hx1
  obtain ⟨⟨k0, k1, k2⟩, k3, k4, k5, k6, k7, k8⟩ := K.out x1 hx1
  clear hx1 b0 b1 b2 b3 b4 b5 b6 b7 b8
  have hz1 := HX1.out.size
  cases gp with
  | true =>
    go_wp2_with fail
    refine (awake_any _).mono ?_
    rintro e x4 ⟨rfl, b4⟩
    have B4 := Lib.hid b4
    clear b4
    go_wp2_with fail
    go_ret
    exact ⟨rfl, (HBW.out.trans (HX1.out.mono HBW.out.size)).trans (B4.out.mono (by omega))⟩
  | false =>
    obtain ⟨hz20, hz100⟩ := gpB_false HGPB.out.symm
    have HZ := Lib.hid hz100
    rw [← HNZ.out] at hz20
    clear hz100
    by_cases hgr : (10 : Int) < nd ∨ (100 : Int) < data.length
    · have HG := Lib.hid (fun X => great_yes kind mid off mtot a1 nd c1 ⟨data.toArray⟩ X (by rw [ba_len]; exact hgr))
      clear hgr
      go_wp2_with fail
      refine (HG.out _).mono ?_
      rintro e x2 ⟨rfl, hx2⟩
      have HX2 := Lib.hid hx2
      clear hx2
      go_wp2_with fail
      refine (awake_any _).mono ?_
      rintro e x4 ⟨rfl, b4⟩
      have B4 := Lib.hid b4
      clear b4
      have hz2 := HX2.out.size
      go_wp2_with fail
      go_ret
      exact ⟨rfl, ((HBW.out.trans (HX1.out.mono HBW.out.size)).trans (HX2.out.mono (by omega))).trans (B4.out.mono (by omega))⟩
    · have hd10 : (nd : Int) ≤ 10 := by omega
      have hd100 : (data.length : Int) ≤ 100 := by omega
      have HG := Lib.hid (fun X => great_no kind mid off mtot a1 nd c1 ⟨data.toArray⟩ X hd10 (by rw [ba_len]; exact hd100))
      clear hgr
      obtain ⟨vp, hvp⟩ : ∃ vp, vp = vParts i0 t0 z0 := ⟨_, rfl⟩
      have HV := Lib.hid (fun X (hX : Below w.heap.size w X) => refValid_any i0 t0 a0 z0 c0 X ((HP.out.below hX (Nat.le_refl _)).mono hX.size) (by rw [← HNZ.out]; omega) (fun p hp => by have := HZ.out p hp; omega))
      rw [← hvp, ← HNZ.out] at HV
      have HVP := Lib.hid hvp
      clear hvp
      go_wp2_with fail
      refine (HG.out _).mono ?_
      rintro e x2 ⟨rfl, hx2⟩
      have hz2 := hx2.size
      have HX2 : Hid (Below W.heap.size W x2) := Lib.hid (HX1.out.trans (hx2.mono (by omega)))
      obtain ⟨⟨j0, j1, j2⟩, j3, j4, j5, j6, j7, j8⟩ := K.out x2 HX2.out
      clear hx2 k0 k1 k2 k3 k4 k5 k6 k7 k8
      have HWX2 : Hid (Below w.heap.size w x2) := Lib.hid (HBW.out.trans (HX2.out.mono HBW.out.size))
      go_wp2_with fail
      refine (HV.out _ HWX2.out).mono ?_
      rintro e x3 ⟨rfl, hx3⟩
      have hz3 := hx3.size
      have HX3 : Hid (Below W.heap.size W x3) := Lib.hid (HX2.out.trans (hx3.mono (by omega)))
      obtain ⟨⟨k0, k1, k2⟩, k3, k4, k5, k6, k7, k8⟩ := K.out x3 HX3.out
      clear hx3 j0 j1 j2 j3 j4 j5 j6 j7 j8
      have HWX3 : Hid (Below w.heap.size w x3) := Lib.hid (HBW.out.trans (HX3.out.mono HBW.out.size))
      cases vp with
      | false =>
        go_wp2_with fail
        refine (awake_any _).mono ?_
        rintro e x4 ⟨rfl, b4⟩
        have B4 := Lib.hid b4
        clear b4
        go_wp2_with fail
        go_ret
        exact ⟨rfl, HWX3.out.trans (B4.out.mono (by omega))⟩
      | true =>
        obtain ⟨er, qi, qt, qs, hg⟩ : ∃ er qi qt qs, gatherS i0 t0 z0 kind mid off mtot nd data = (er, qi, qt, qs) := ⟨_, _, _, _, rfl⟩
        have HGA := Lib.hid (gather_any i0 t0 a0 z0 c0 kind mid off mtot a1 nd c1 data x3 ((HP.out.below HWX3.out (Nat.le_refl _)).mono HWX3.out.size) HCAP.out (by rw [← HNZ.out]; omega) (fun p hp => by have := HZ.out p hp; omega) (by omega))
        rw [hg, ← HNZ.out] at HGA
        by_cases her : er = 0
        · subst her
          have hlaw := gather_law hg
          obtain ⟨rfl, rfl, hvq, hqne, hqh, hy1, hy2, hy3⟩ := hlaw
          have HVQ := Lib.hid hvq
          have HQH := Lib.hid hqh
          clear hvq hqne hqh hg hy1 hy2 hy3
          go_wp2_with fail
          refine HGA.out.mono ?_
          rintro e x5 ⟨a5, c5, rfl, hp5, hb5, hc5, hf5⟩
          have HP5 := Lib.hid hp5
          have HX5 : Hid (Below W.heap.size W x5) := Lib.hid (HX3.out.trans (hb5.mono (by omega)))
          obtain ⟨⟨l0, l1, l2⟩, l3, l4, l5, l6, l7, l8⟩ := K.out x5 HX5.out
          have hz5 := HX5.out.size
          obtain ⟨nq, hnq⟩ : ∃ nq, nq = qs.length := ⟨_, rfl⟩
          simp only
          rw [← hnq]
          have HNQ := Lib.hid hnq
          clear hp5 hb5 hc5 hf5 k0 k1 k2 k3 k4 k5 k6 k7 k8 hnq
          go_upto_region 7 with fail
          obtain ⟨u, hu⟩ : ∃ u, u = x5.alloc (.cells #[.int .i64 qi, .int .i64 qt, .slice a5 nq c5] 31) := ⟨_, rfl⟩
          have hus : x5.heap.size + 1 ≤ u.heap.size := by rw [hu]; simp
          have HU : Hid (Below x5.heap.size x5 u) := Lib.hid (by rw [hu]; exact (Below.refl _ _).alloc (Nat.le_refl _) _)
          have y0 : u.cell? ⟨x5.heap.size, 0, none⟩ = some (.int .i64 qi) := by rw [hu]; simp
          have y1 : u.cell? ⟨x5.heap.size, 1, none⟩ = some (.int .i64 qt) := by rw [hu]; simp
          have y2 : u.cell? ⟨x5.heap.size, 2, none⟩ = some (.slice a5 nq c5) := by rw [hu]; simp
          rw [← hu]
          have HXU : Hid (Below W.heap.size W u) := Lib.hid (HX5.out.trans (HU.out.mono (by omega)))
          have HPU : Hid (Pcs u.heap.size u a0 z0) := Lib.hid ((HP.out.below (HBW.out.trans (HXU.out.mono HBW.out.size)) (Nat.le_refl _)).mono (by omega))
          have HPQ : Hid (Pcs u.heap.size u a5 qs) := Lib.hid ((HP5.out.below HU.out (Nat.le_refl _)).mono (by omega))
          clear hu l0 l1 l2 l3 l4 l5 l6 l7 l8
          go_cut [60, 61, 62] from 50 to 62 (fun s60 s61 s62 wx => ∃ (g cap : Nat), s60 = .slice (some ⟨g, 0, none⟩) (nz + 1) cap ∧ s61 = .int .i64 ((nz : Int) + 1) ∧ s62 = .int .i64 0 ∧ Below u.heap.size u wx ∧ Pcs wx.heap.size wx (some ⟨g, 0, none⟩) (z0 ++ [(off, data)]))
          case first =>
            obtain ⟨⟨l0, l1, l2⟩, l3, l4, l5, l6, l7, l8⟩ := K.out u HXU.out
            obtain ⟨i0', hi, hz0, hz1, hz2⟩ := info_parts infoPiece
            have HK3 : Hid (∀ X, Below u.heap.size u X → X.cell? ⟨w.heap.size, 2, none⟩ = some (.slice a0 nz c0) ∧ X.cell? ⟨w.heap.size + 1, 2, none⟩ = some (.int .i64 off) ∧ X.cell? ⟨w.heap.size + 1, 5, none⟩ = some (.string ⟨data.toArray⟩)) := Lib.hid (fun X hX =>
              ⟨(hX.cell (p := ⟨w.heap.size, 2, none⟩) (by simp; omega)).trans l2, (hX.cell (p := ⟨w.heap.size + 1, 2, none⟩) (by simp; omega)).trans l5, (hX.cell (p := ⟨w.heap.size + 1, 5, none⟩) (by simp; omega)).trans l8⟩)
            by_cases hnz : nz = 0
            · subst hnz
              have HZ0' := Lib.hid (List.length_eq_zero_iff.1 HNZ.out.symm)
              clear l0 l1 l2 l3 l4 l5 l6 l7 l8
              cases a0 with
              | none =>
                go_region_held3 (fun w' => w'.cell? ⟨w.heap.size, 2, none⟩ = some (.slice none 0 c0) ∧ w'.cell? ⟨w.heap.size + 1, 2, none⟩ = some (.int .i64 off) ∧ w'.cell? ⟨w.heap.size + 1, 5, none⟩ = some (.string ⟨data.toArray⟩))
                  (first
                    | exact HK3.out _ (Below.refl _ _).drew
                    | exact HK3.out _ ((Below.refl _ _).alloc (Nat.le_refl _) _).drew
                    | exact HK3.out _ (((Below.refl _ _).alloc (Nat.le_refl _) _).alloc (by simp) _).drew
                    | exact HK3.out _ hw2)
                  (first
                    | (refine step_append_lies _ (by rfl) (.tmp 53) (.tmp 59) _ (by rfl) u.heap.size 40 i0' _ 2 24 Try.underlying29 hi hz0 hz1 hz2 rfl (by omega) (.slice (some ⟨u.heap.size, 0, none⟩) 0 0) 0 [] (by rfl) ((own0 u).alloc _).drew ⟨u.heap.size + 1, 0, none⟩ 1 1 [.int .i64 off, .string ⟨data.toArray⟩] (by rfl) (by rfl) (World.news_of_block (cs := #[.int .i64 off, .string ⟨data.toArray⟩]) (t := 40) (fr := (0, 0)) (new1 u _ _)) (by simp [Value.oneCell']) (by omega) (by unfold maxLen; omega) (by omega) (by first | (simp; done) | (simp; omega)) _ rfl ?_; intro g2 cap2 y2 hown2 hgrow2 hat2 hlt2; have hw2 : Below u.heap.size u y2 := Below.grown (((Below.refl _ _).alloc (Nat.le_refl _) _).alloc (by simp) _).drew hgrow2 (by first | (simp; done) | (simp; omega)) (fun k hk => by simp [Value.ownBlock] at hk; omega))
                    | (refine step_append_lies _ (by rfl) (.tmp 53) (.tmp 59) _ (by rfl) u.heap.size 40 i0' _ 2 24 Try.underlying29 hi hz0 hz1 hz2 rfl (by omega) (.slice (some ⟨u.heap.size + 1, 0, none⟩) 0 0) 0 [] (by rfl) (own0' u _).drew ⟨u.heap.size, 0, none⟩ 1 1 [.int .i64 off, .string ⟨data.toArray⟩] (by rfl) (by rfl) (World.news_of_block (cs := #[.int .i64 off, .string ⟨data.toArray⟩]) (t := 40) (fr := (0, 0)) (new0 u _ _)) (by simp [Value.oneCell']) (by omega) (by unfold maxLen; omega) (by omega) (by first | (simp; done) | (simp; omega)) _ rfl ?_; intro g2 cap2 y2 hown2 hgrow2 hat2 hlt2; have hw2 : Below u.heap.size u y2 := Below.grown (((Below.refl _ _).alloc (Nat.le_refl _) _).alloc (by simp) _).drew hgrow2 (by first | (simp; done) | (simp; omega)) (fun k hk => by simp [Value.ownBlock] at hk; omega))
                    | fail)
                all_goals
                  go_wp2_with fail
                  go_meet
                  case rel =>
                    refine ⟨g2, cap2, by first | rfl | simp only [Nat.zero_add], by first | rfl | go_num | (simp; done), rfl, hw2, ?_⟩
                    try simp only [Nat.zero_add, List.nil_append] at hown2
                    rw [HZ0'.out]
                    exact ownsRow_pcs (base := u.heap.size) (cap := cap2) (ps := [] ++ [(off, data)]) hown2
              | some ad =>
                go_region_held3 (fun w' => w'.cell? ⟨w.heap.size, 2, none⟩ = some (.slice (some ad) 0 c0) ∧ w'.cell? ⟨w.heap.size + 1, 2, none⟩ = some (.int .i64 off) ∧ w'.cell? ⟨w.heap.size + 1, 5, none⟩ = some (.string ⟨data.toArray⟩))
                  (first
                    | exact HK3.out _ (Below.refl _ _).drew
                    | exact HK3.out _ ((Below.refl _ _).alloc (Nat.le_refl _) _).drew
                    | exact HK3.out _ (((Below.refl _ _).alloc (Nat.le_refl _) _).alloc (by simp) _).drew
                    | exact HK3.out _ hw2)
                  (first
                    | (refine step_append_lies _ (by rfl) (.tmp 53) (.tmp 59) _ (by rfl) u.heap.size 40 i0' _ 2 24 Try.underlying29 hi hz0 hz1 hz2 rfl (by omega) (.slice (some ⟨u.heap.size, 0, none⟩) 0 0) 0 [] (by rfl) ((own0 u).alloc _).drew ⟨u.heap.size + 1, 0, none⟩ 1 1 [.int .i64 off, .string ⟨data.toArray⟩] (by rfl) (by rfl) (World.news_of_block (cs := #[.int .i64 off, .string ⟨data.toArray⟩]) (t := 40) (fr := (0, 0)) (new1 u _ _)) (by simp [Value.oneCell']) (by omega) (by unfold maxLen; omega) (by omega) (by first | (simp; done) | (simp; omega)) _ rfl ?_; intro g2 cap2 y2 hown2 hgrow2 hat2 hlt2; have hw2 : Below u.heap.size u y2 := Below.grown (((Below.refl _ _).alloc (Nat.le_refl _) _).alloc (by simp) _).drew hgrow2 (by first | (simp; done) | (simp; omega)) (fun k hk => by simp [Value.ownBlock] at hk; omega))
                    | (refine step_append_lies _ (by rfl) (.tmp 53) (.tmp 59) _ (by rfl) u.heap.size 40 i0' _ 2 24 Try.underlying29 hi hz0 hz1 hz2 rfl (by omega) (.slice (some ⟨u.heap.size + 1, 0, none⟩) 0 0) 0 [] (by rfl) (own0' u _).drew ⟨u.heap.size, 0, none⟩ 1 1 [.int .i64 off, .string ⟨data.toArray⟩] (by rfl) (by rfl) (World.news_of_block (cs := #[.int .i64 off, .string ⟨data.toArray⟩]) (t := 40) (fr := (0, 0)) (new0 u _ _)) (by simp [Value.oneCell']) (by omega) (by unfold maxLen; omega) (by omega) (by first | (simp; done) | (simp; omega)) _ rfl ?_; intro g2 cap2 y2 hown2 hgrow2 hat2 hlt2; have hw2 : Below u.heap.size u y2 := Below.grown (((Below.refl _ _).alloc (Nat.le_refl _) _).alloc (by simp) _).drew hgrow2 (by first | (simp; done) | (simp; omega)) (fun k hk => by simp [Value.ownBlock] at hk; omega))
                    | fail)
                all_goals
                  go_wp2_with fail
                  go_meet
                  case rel =>
                    refine ⟨g2, cap2, by first | rfl | simp only [Nat.zero_add], by first | rfl | go_num | (simp; done), rfl, hw2, ?_⟩
                    try simp only [Nat.zero_add, List.nil_append] at hown2
                    rw [HZ0'.out]
                    exact ownsRow_pcs (base := u.heap.size) (cap := cap2) (ps := [] ++ [(off, data)]) hown2
            · obtain ⟨ad, had, hsrc⟩ := HPU.out.src (by rw [← HNZ.out]; omega)
              subst had
              have HSRC : Hid (∀ X, Below u.heap.size u X → ∀ j v, (pcells z0)[j]? = some v → X.cell? (ad.add j) = some v) := Lib.hid (fun X hX j v hv => by
                have h1 := hsrc j v hv
                have hlt := World.block_lt_of_cell? u _ h1
                exact (hX.cell hlt).trans h1)
              have hlz : (pcells z0).length = nz * 2 := by rw [length_pcells, HNZ.out]
              have HLZ := Lib.hid hlz
              clear l0 l1 l2 l3 l4 l5 l6 l7 l8 hsrc hlz
              go_region_held3 (fun w' => w'.cell? ⟨w.heap.size, 2, none⟩ = some (.slice (some ad) nz c0) ∧ w'.cell? ⟨w.heap.size + 1, 2, none⟩ = some (.int .i64 off) ∧ w'.cell? ⟨w.heap.size + 1, 5, none⟩ = some (.string ⟨data.toArray⟩))
                (first
                  | exact HK3.out _ (Below.refl _ _).drew
                  | exact HK3.out _ ((Below.refl _ _).alloc (Nat.le_refl _) _).drew
                  | exact HK3.out _ (((Below.refl _ _).alloc (Nat.le_refl _) _).alloc (by simp) _).drew
                  | exact HK3.out _ hw2
                  | exact HK3.out _ hw1
                  | exact HK3.out _ (hw1.alloc hw1s _))
                (first
                  | (refine step_append_lies _ (by rfl) (.tmp 50) (.tmp 52) _ (by rfl) u.heap.size 40 i0' _ 2 24 Try.underlying29 hi hz0 hz1 hz2 rfl (by omega) (.slice (some ⟨u.heap.size, 0, none⟩) 0 0) 0 [] (by rfl) (own0 u).drew ad nz c0 (pcells z0) (by rfl) HLZ.out (HSRC.out _ ((Below.refl _ _).alloc (Nat.le_refl _) _).drew) (fun v hv => pcells_one hv) (by omega) (by unfold maxLen; omega) (by omega) (by first | (simp; done) | (simp; omega)) _ rfl ?_; intro gg cap y1 hown1 hgrow1 hat1 hlt1; have hown0 := hown1; simp only [Nat.zero_add, List.nil_append] at hown1; have hw1 : Below u.heap.size u y1 := Below.grown ((Below.refl _ _).alloc (Nat.le_refl _) _).drew hgrow1 (by first | (simp; done) | (simp; omega)) (fun k hk => by simp [Value.ownBlock] at hk; omega); have hw1s := hw1.size; have hkind : True := trivial)
                  | (refine step_append_lies _ (by rfl) (.tmp 50) (.tmp 52) _ (by rfl) u.heap.size 40 i0' _ 2 24 Try.underlying29 hi hz0 hz1 hz2 rfl (by omega) (.slice (some ⟨u.heap.size, 0, none⟩) 0 0) 0 [] (by rfl) ((own0 u).alloc _).drew ad nz c0 (pcells z0) (by rfl) HLZ.out (HSRC.out _ (((Below.refl _ _).alloc (Nat.le_refl _) _).alloc (by simp) _).drew) (fun v hv => pcells_one hv) (by omega) (by unfold maxLen; omega) (by omega) (by first | (simp; done) | (simp; omega)) _ rfl ?_; intro gg cap y1 hown1 hgrow1 hat1 hlt1; have hown0 := hown1; simp only [Nat.zero_add, List.nil_append] at hown1; have hw1 : Below u.heap.size u y1 := Below.grown (((Below.refl _ _).alloc (Nat.le_refl _) _).alloc (by simp) _).drew hgrow1 (by first | (simp; done) | (simp; omega)) (fun k hk => by simp [Value.ownBlock] at hk; omega); have hw1s := hw1.size; have hs1 : y1.heap[u.heap.size + 1]? = some (.cells #[.int .i64 off, .string ⟨data.toArray⟩] 40 (0, 0)) := (hgrow1.block (u.heap.size + 1) (by first | (simp; done) | (simp; omega)) (by simp [Value.ownBlock])).trans (new1 u _ _))
                  | (refine step_append_lies _ (by rfl) (.tmp 50) (.tmp 52) _ (by rfl) u.heap.size 40 i0' _ 2 24 Try.underlying29 hi hz0 hz1 hz2 rfl (by omega) (.slice (some ⟨u.heap.size + 1, 0, none⟩) 0 0) 0 [] (by rfl) (own0' u _).drew ad nz c0 (pcells z0) (by rfl) HLZ.out (HSRC.out _ (((Below.refl _ _).alloc (Nat.le_refl _) _).alloc (by simp) _).drew) (fun v hv => pcells_one hv) (by omega) (by unfold maxLen; omega) (by omega) (by first | (simp; done) | (simp; omega)) _ rfl ?_; intro gg cap y1 hown1 hgrow1 hat1 hlt1; have hown0 := hown1; simp only [Nat.zero_add, List.nil_append] at hown1; have hw1 : Below u.heap.size u y1 := Below.grown (((Below.refl _ _).alloc (Nat.le_refl _) _).alloc (by simp) _).drew hgrow1 (by first | (simp; done) | (simp; omega)) (fun k hk => by simp [Value.ownBlock] at hk; omega); have hw1s := hw1.size; have hs0 : y1.heap[u.heap.size]? = some (.cells #[.int .i64 off, .string ⟨data.toArray⟩] 40 (0, 0)) := (hgrow1.block u.heap.size (by first | (simp; done) | (simp; omega)) (by simp [Value.ownBlock])).trans (new0 u _ _))
                  | (refine step_append_lies _ (by rfl) (.tmp 53) (.tmp 59) _ (by rfl) u.heap.size 40 i0' _ 2 24 Try.underlying29 hi hz0 hz1 hz2 rfl (by omega) (.slice (some ⟨gg, 0, none⟩) nz cap) nz (pcells z0) (by rfl) (hown1.alloc _) ⟨y1.heap.size, 0, none⟩ 1 1 [.int .i64 off, .string ⟨data.toArray⟩] (by rfl) (by rfl) (World.news_of_block (cs := #[.int .i64 off, .string ⟨data.toArray⟩]) (t := 40) (fr := (0, 0)) (heap_alloc_new y1 _)) (by simp [Value.oneCell']) (by omega) (by unfold maxLen; omega) (by omega) (by first | exact hw1s | (simp; omega)) _ rfl ?_; intro g2 cap2 y2 hown2 hgrow2 hat2 hlt2; have hw2 : Below u.heap.size u y2 := Below.grown (hw1.alloc hw1s _) hgrow2 (by first | exact hw1s | (simp; omega)) (fun k hk => (hown1.lt k hk).1))
                  | (refine step_append_lies _ (by rfl) (.tmp 53) (.tmp 59) _ (by rfl) u.heap.size 40 i0' _ 2 24 Try.underlying29 hi hz0 hz1 hz2 rfl (by omega) (.slice (some ⟨gg, 0, none⟩) (0 + nz) cap) (0 + nz) ([] ++ pcells z0) (by rfl) hown0 ⟨u.heap.size + 1, 0, none⟩ 1 1 [.int .i64 off, .string ⟨data.toArray⟩] (by rfl) (by rfl) (World.news_of_block (cs := #[.int .i64 off, .string ⟨data.toArray⟩]) (t := 40) (fr := (0, 0)) hs1) (by simp [Value.oneCell']) (by omega) (by unfold maxLen; omega) (by omega) (by first | exact hw1s | (simp; omega)) _ rfl ?_; intro g2 cap2 y2 hown2 hgrow2 hat2 hlt2; have hw2 : Below u.heap.size u y2 := Below.grown hw1 hgrow2 (by first | exact hw1s | (simp; omega)) (fun k hk => (hown0.lt k hk).1))
                  | (refine step_append_lies _ (by rfl) (.tmp 53) (.tmp 59) _ (by rfl) u.heap.size 40 i0' _ 2 24 Try.underlying29 hi hz0 hz1 hz2 rfl (by omega) (.slice (some ⟨gg, 0, none⟩) (0 + nz) cap) (0 + nz) ([] ++ pcells z0) (by rfl) hown0 ⟨u.heap.size, 0, none⟩ 1 1 [.int .i64 off, .string ⟨data.toArray⟩] (by rfl) (by rfl) (World.news_of_block (cs := #[.int .i64 off, .string ⟨data.toArray⟩]) (t := 40) (fr := (0, 0)) hs0) (by simp [Value.oneCell']) (by omega) (by unfold maxLen; omega) (by omega) (by first | exact hw1s | (simp; omega)) _ rfl ?_; intro g2 cap2 y2 hown2 hgrow2 hat2 hlt2; have hw2 : Below u.heap.size u y2 := Below.grown hw1 hgrow2 (by first | exact hw1s | (simp; omega)) (fun k hk => (hown0.lt k hk).1))
                  | fail)
              all_goals
                go_wp2_with fail
                go_meet
                case rel =>
                  refine ⟨g2, cap2, by first | rfl | simp only [Nat.zero_add], by first | go_num | (simp; done), rfl, hw2, ?_⟩
                  try simp only [Nat.zero_add, List.nil_append] at hown2
                  have hpc : pcells (z0 ++ [(off, data)]) = pcells z0 ++ [.int .i64 off, .string ⟨data.toArray⟩] := by rw [pcells_append]; rfl
                  refine ownsRow_pcs (base := u.heap.size) (cap := cap2) ?_
                  rw [hpc, List.length_append, ← HNZ.out]
                  exact hown2
          case rest =>
            obtain ⟨g, cap, rfl, rfl, rfl, hbx, hpx⟩ := hcut
            have HBX := Lib.hid hbx
            have HPX := Lib.hid hpx
            have y0 := (hbx.cell (p := ⟨x5.heap.size, 0, none⟩) (by simp; omega)).trans y0
            have y1 := (hbx.cell (p := ⟨x5.heap.size, 1, none⟩) (by simp; omega)).trans y1
            have y2 := (hbx.cell (p := ⟨x5.heap.size, 2, none⟩) (by simp; omega)).trans y2
            have hxs := hbx.size
            have hvb := vParts_bounds HVQ.out
            have HKN := Lib.hid (fun X (hX : Below wc.heap.size wc X) i ch hh => known_any qi qt a5 qs c5 i ch X (((HPQ.out.below HBX.out (Nat.le_refl _)).mono hxs).below hX (Nat.le_refl _) |>.mono hX.size) (by omega) (fun p hp => by
              have hne : qs ≠ [] := fun h => by rw [h] at hp; simp at hp
              cases hq : qs with
              | nil => exact absurd hq hne
              | cons q r =>
                have hv := HVQ.out
                rw [hq] at hv hp
                obtain ⟨hv, _, _, _, _⟩ := vParts_vgo hv
                obtain ⟨p0, _, p2, _⟩ := vgo_all hv p hp
                simp only [pend] at p2
                omega) (has_unique HVQ.out hh hh).2.1 (by have := (has_unique HVQ.out hh hh).2.2; omega) hh (fun c hc => (has_unique HVQ.out hc hh).1))
            rw [← HNQ.out] at HKN
            have HL : Hid (∀ p ∈ z0 ++ [(off, data)], ∀ j (h : j < p.2.length), Has qs (p.1 + j) p.2[j]) := Lib.hid (fun p hp j h => by
              have h1 : H1 p (p.1 + j) p.2[j] := ⟨by omega, by rw [show (p.1 + (j : Int) - p.1).toNat = j by omega]; simp [h]⟩
              rcases List.mem_append.1 hp with hp | hp
              · exact (HQH.out _ _).2 (.inl ⟨p, hp, h1⟩)
              · simp at hp; subst hp; exact (HQH.out _ _).2 (.inr h1))
            clear hbx hpx hvb
            go_wp2_with fail
            go_loopw [62] (fun v wr => ∃ k : Nat, k ≤ nz + 1 ∧ v = .int .i64 k ∧ Below wc.heap.size wc wr) (fun v _ => nz + 1 - (intOf v).toNat)
            case atStart => exact ⟨0, by omega, rfl, Below.refl _ _⟩
            case round =>
              obtain ⟨k, hk, rfl, hbel⟩ := hrel
              have HB := Lib.hid hbel
              have hws := hbel.size
              clear hbel
              by_cases hlt : k < nz + 1
              · have hlt' : (k : Int) < (nz : Int) + 1 := by omega
                have hkl : k < (z0 ++ [(off, data)]).length := by rw [List.length_append, ← HNZ.out]; simpa using hlt
                obtain ⟨g', o', he, hgl, hc, hd⟩ := (HPX.out.below HB.out (Nat.le_refl _)) k hkl
                cases he
                simp only [Nat.zero_add] at hc hd
                have hLk := HL.out _ (List.getElem_mem hkl)
                have hTb : ((z0 ++ [(off, data)])[k].2.length : Int) ≤ 1048576 := by
                  rcases List.mem_append.1 (List.getElem_mem hkl) with h | h
                  · have := HZ.out _ h; omega
                  · simp only [List.mem_singleton] at h; rw [h]; simp only; omega
                obtain ⟨⟨o, T⟩, hp⟩ : ∃ p, p = (z0 ++ [(off, data)])[k] := ⟨_, rfl⟩
                rw [← hp] at hc hd hLk hTb
                simp only at hc hd hLk hTb
                have HLK := Lib.hid hLk
                have HO : Hid (0 < T.length → 0 ≤ o ∧ o < 1048576) := Lib.hid (fun h => by
                  have := has_unique HVQ.out (hLk 0 h) (hLk 0 h)
                  simp at this; exact this)
                clear hp hLk
                obtain ⟨wo, rfl⟩ : ∃ wo : World, wo = wr := ⟨_, rfl⟩
                obtain ⟨u2, hu2⟩ : ∃ u2, u2 = wo.alloc (.cells #[.int .i64 o, .string ⟨T.toArray⟩] 40) := ⟨_, rfl⟩
                have HBO : Hid (Below wc.heap.size wc u2) := Lib.hid (by rw [hu2]; exact HB.out.alloc (by omega) _)
                have hu2s : u2.heap.size = wo.heap.size + 1 := by rw [hu2]; simp
                have p0 : u2.cell? ⟨wo.heap.size, 0, none⟩ = some (.int .i64 o) := by rw [hu2]; simp
                have p1 : u2.cell? ⟨wo.heap.size, 1, none⟩ = some (.string ⟨T.toArray⟩) := by rw [hu2]; simp
                have HU2 := Lib.hid hu2
                clear hu2
                go_wp2_with fail
                rw [← HU2.out]
                go_loopw [69] (fun v wr => ∃ j : Nat, j ≤ T.length ∧ v = .int .i64 j ∧ Below u2.heap.size u2 wr) (fun v _ => T.length - (intOf v).toNat)
                case atStart => exact ⟨0, by omega, rfl, Below.refl _ _⟩
                case round =>
                  obtain ⟨j, hj, rfl, hbel⟩ := hrel
                  have HBI := Lib.hid hbel
                  have hwi := hbel.size
                  have q0 := (hbel.cell (p := ⟨wo.heap.size, 0, none⟩) (by simp; omega)).trans p0
                  have q1 := (hbel.cell (p := ⟨wo.heap.size, 1, none⟩) (by simp; omega)).trans p1
                  have r0 := (hbel.cell (p := ⟨x5.heap.size, 0, none⟩) (by simp; omega)).trans ((HBO.out.cell (p := ⟨x5.heap.size, 0, none⟩) (by simp; omega)).trans y0)
                  have r1 := (hbel.cell (p := ⟨x5.heap.size, 1, none⟩) (by simp; omega)).trans ((HBO.out.cell (p := ⟨x5.heap.size, 1, none⟩) (by simp; omega)).trans y1)
                  have r2 := (hbel.cell (p := ⟨x5.heap.size, 2, none⟩) (by simp; omega)).trans ((HBO.out.cell (p := ⟨x5.heap.size, 2, none⟩) (by simp; omega)).trans y2)
                  clear hbel
                  by_cases hjl : j < T.length
                  · obtain ⟨ho0, ho1⟩ := HO.out (by omega)
                    have hhas := HLK.out j hjl
                    obtain ⟨ch, hch⟩ : ∃ ch, ch = T[j] := ⟨_, rfl⟩
                    rw [← hch] at hhas
                    have HC := Lib.hid (HKN.out wr (HBO.out.trans (HBI.out.mono (by omega))) (o + j) ch hhas)
                    have hx := fun W => idxL T j ch (by rw [hch]; simp [hjl]) W
                    have hne : ((ch.toNat : Int) != (ch.toNat : Int)) = false := by simp
                    clear hch hhas
                    go_wp2_with fail
                    refine HC.out.mono ?_
                    rintro e x8 ⟨rfl, hb8⟩
                    have HB8 := Lib.hid hb8
                    have s1 := (hb8.cell (p := ⟨wo.heap.size, 1, none⟩) (by simp; omega)).trans q1
                    clear hb8
                    go_wp2_with fail
                    go_roundw
                    case rel => exact ⟨j + 1, by omega, by go_num, HBI.out.trans (HB8.out.mono hwi)⟩
                    case measure => simp [intOf]; omega
                  · go_wp2_with fail
                    go_roundw
                    case rel => exact ⟨k + 1, by omega, by go_num, HBO.out.trans (HBI.out.mono (by omega))⟩
                    case measure => simp [intOf]; omega
              · have hlt' : ¬ (k : Int) < (nz : Int) + 1 := by omega
                have e0 := (HB.out.cell (p := ⟨x5.heap.size, 0, none⟩) (by simp; omega)).trans y0
                have e1 := (HB.out.cell (p := ⟨x5.heap.size, 1, none⟩) (by simp; omega)).trans y1
                have e2 := (HB.out.cell (p := ⟨x5.heap.size, 2, none⟩) (by simp; omega)).trans y2
                have HVF := Lib.hid (refValid_any qi qt a5 qs c5 wr (((HPQ.out.below HBX.out (Nat.le_refl _)).mono hxs).below HB.out (Nat.le_refl _) |>.mono hws) (vParts_len HVQ.out) (vParts_bounds HVQ.out).2)
                rw [HVQ.out, ← HNQ.out] at HVF
                go_wp2_with fail
                refine HVF.out.mono ?_
                rintro e x7 ⟨rfl, hb7⟩
                have HB7 := Lib.hid hb7
                have hz7 := hb7.size
                clear hb7
                go_wp2_with fail
                refine (awake_any _).mono ?_
                rintro e x4 ⟨rfl, b4⟩
                have B4 := Lib.hid b4
                clear b4
                go_wp2_with fail
                go_ret
                exact ⟨rfl, ((((HBW.out.trans (HXU.out.mono HBW.out.size)).trans (HBX.out.mono (by omega))).trans (HB.out.mono (by omega))).trans (HB7.out.mono (by omega))).trans (B4.out.mono (by omega))⟩
        · obtain ⟨rfl, rfl, rfl⟩ := gather_err hg her
          have he1 : (er != 0) = true := by simpa using her
          clear hg her
          go_wp2_with fail
          refine HGA.out.mono ?_
          rintro e x5 ⟨a5, c5, rfl, hp5, hb5, hc5, hf5⟩
          have HB5 := Lib.hid hb5
          have hz5 := hb5.size
          clear hp5 hb5 hc5 hf5 k0 k1 k2 k3 k4 k5 k6 k7 k8
          go_wp2_with fail
          refine (awake_any _).mono ?_
          rintro e x4 ⟨rfl, b4⟩
          have B4 := Lib.hid b4
          clear b4
          go_wp2_with fail
          go_ret
          exact ⟨rfl, ((HWX3.out.trans (HB5.out.mono (by omega))).alloc (by omega) _).trans (B4.out.mono (by simp; omega))⟩

end Go.Proofs.Ytlijaacjfnjmjaa.wireConsistent
