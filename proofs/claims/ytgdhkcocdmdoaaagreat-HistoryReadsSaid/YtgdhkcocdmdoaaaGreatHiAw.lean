/- awake: the example of the chapter. -/
import Derived.Test.YtgdhkcocdmdoaaaGreatHiLw
namespace Go.Proofs.YtgdhkcocdmdoaaaGreat
open Go.RowKit Go.Shelf Go.Sort
set_option linter.unusedVariables false

theorem enc_le {o : Ob} {T : List UInt8} (h : encodeS o = (T, 0)) : (T.length : Int) ≤ 140737488355328 := by
  have := encodeS_len o
  rw [h] at this
  simp only at this
  omega
/-- The pools of the example, one by one. -/
structure ExC (A B C D : Int × Int) (TA TB TC TD : List UInt8) (P1 P2 P3 P4 : List Itm) : Prop where
  v : ExV A B C D TA TB TC TD
  p1 : putS [] (exO 1 []) = (P1, A, 0)
  p2 : putS P1 (exO 2 [A]) = (P2, B, 0)
  p3 : putS P2 (exO 3 [A]) = (P3, C, 0)
  p4 : putS P3 (exO 4 [B, C]) = (P4, D, 0)
  a1 : Asc P1
  a2 : Asc P2
  a3 : Asc P3
  x4 : ExP A B C D TA TB TC TD P4
  l1 : P1.length ≤ 1
  l2 : P2.length ≤ 2
  l3 : P3.length ≤ 3
  l4 : P4.length ≤ 4
  d1 : ∀ x ∈ P1, (x.data.length : Int) ≤ 140737488355328
  d2 : ∀ x ∈ P2, (x.data.length : Int) ≤ 140737488355328
  d3 : ∀ x ∈ P3, (x.data.length : Int) ≤ 140737488355328
  d4 : ∀ x ∈ P4, (x.data.length : Int) ≤ 140737488355328
theorem exC_of {A B C D : Int × Int} {TA TB TC TD : List UInt8} (v : ExV A B C D TA TB TC TD) : ∃ P1 P2 P3 P4, ExC A B C D TA TB TC TD P1 P2 P3 P4 := by
  obtain ⟨P1, p1, a1, m1, l1⟩ := put_new (xs := []) (fun i j hi => by simp at hi) v.eA (by simp)
  rw [← v.dA] at p1 m1
  obtain ⟨P2, p2, a2, m2, l2⟩ := put_new a1 v.eB (fun y hy => by
    rcases (m1 y).1 hy with h | rfl
    · simp at h
    · rw [← v.dB]; exact v.ab)
  rw [← v.dB] at p2 m2
  obtain ⟨P3, p3, a3, m3, l3⟩ := put_new a2 v.eC (fun y hy => by
    rw [← v.dC]
    rcases (m2 y).1 hy with h | rfl
    · rcases (m1 y).1 h with h | rfl
      · simp at h
      · exact v.ac
    · exact v.bc)
  rw [← v.dC] at p3 m3
  obtain ⟨P4, p4, a4, m4, l4⟩ := put_new a3 v.eD (fun y hy => by
    rw [← v.dD]
    rcases (m3 y).1 hy with h | rfl
    · rcases (m2 y).1 h with h | rfl
      · rcases (m1 y).1 h with h | rfl
        · simp at h
        · exact v.ad
      · exact v.bd
    · exact v.cd)
  rw [← v.dD] at p4 m4
  have d1 : ∀ x ∈ P1, (x.data.length : Int) ≤ 140737488355328 := fun x hx => by
    rcases (m1 x).1 hx with h | rfl
    · simp at h
    · exact enc_le v.eA
  have d2 : ∀ x ∈ P2, (x.data.length : Int) ≤ 140737488355328 := fun x hx => by
    rcases (m2 x).1 hx with h | rfl
    · exact d1 x h
    · exact enc_le v.eB
  have d3 : ∀ x ∈ P3, (x.data.length : Int) ≤ 140737488355328 := fun x hx => by
    rcases (m3 x).1 hx with h | rfl
    · exact d2 x h
    · exact enc_le v.eC
  have d4 : ∀ x ∈ P4, (x.data.length : Int) ≤ 140737488355328 := fun x hx => by
    rcases (m4 x).1 hx with h | rfl
    · exact d3 x h
    · exact enc_le v.eD
  simp only [List.length_nil] at l1
  refine ⟨P1, P2, P3, P4, v, p1, p2, p3, p4, a1, a2, a3, ⟨v, a4, fun y => ?_⟩, by omega, by omega, by omega, by omega, d1, d2, d3, d4⟩
  rw [m4 y, m3 y, m2 y, m1 y]
  simp only [List.not_mem_nil, false_or, or_assoc]
theorem digs_two {W : World} {b : Nat} {x1 x2 y1 y2 : Int} (hk : BK b #[.int .u64 x1, .int .u64 x2, .int .u64 y1, .int .u64 y2] 32 W) : Digs W.heap.size W (some ⟨b, 0, none⟩) [(x1, x2), (y1, y2)] := fun i hi => by
  rcases (by simp at hi; omega : i = 0 ∨ i = 1) with rfl | rfl
  · exact ⟨_, 0, rfl, hk.lt, by rw [Nat.zero_mul, hk.cell]; rfl, by rw [Nat.zero_mul, hk.cell]; rfl⟩
  · exact ⟨_, 0, rfl, hk.lt, by rw [hk.cell]; rfl, by rw [hk.cell]; rfl⟩

set_option maxRecDepth 100000 in
set_option maxHeartbeats 8000000 in
theorem awake13_any (w : World) : Calls Tryz.prog 12 #[] w fun e w' => e = .returned (.bool true) ∧ Below w.heap.size w w' := by
  obtain ⟨P1, P2, P3, P4, hx⟩ := exC_of exV
  generalize exA = A at hx
  generalize exB = B at hx
  generalize exC = C at hx
  generalize exD = D at hx
  obtain ⟨A1, A2⟩ := A
  obtain ⟨B1, B2⟩ := B
  obtain ⟨C1, C2⟩ := C
  obtain ⟨D1, D2⟩ := D
  have HP1 := Lib.hid (fun W => put13_any none [] 0 1 none [] 0 W ⟨Its.nil _ _ _, Nat.le_refl _, by simp, by simp⟩ (fun i j hi => by simp at hi) (Digs.nil _ _ _) (Nat.le_refl _) (by simp) (by simp))
  rw [hx.p1] at HP1
  have HP2 := Lib.hid (fun W a c b (h : PoolIn W a P1 c) (hk : BK b #[.int .u64 A1, .int .u64 A2] 32 W) => put13_any a P1 c 2 (some ⟨b, 0, none⟩) [(A1, A2)] 1 W h hx.a1 (digs_one hk) (Nat.le_refl _) (by simp) (by simp; exact hx.v.oA))
  rw [hx.p2] at HP2
  have HP3 := Lib.hid (fun W a c b (h : PoolIn W a P2 c) (hk : BK b #[.int .u64 A1, .int .u64 A2] 32 W) => put13_any a P2 c 3 (some ⟨b, 0, none⟩) [(A1, A2)] 1 W h hx.a2 (digs_one hk) (Nat.le_refl _) (by simp) (by simp; exact hx.v.oA))
  rw [hx.p3] at HP3
  have HP4 := Lib.hid (fun W a c b (h : PoolIn W a P3 c) (hk : BK b #[.int .u64 B1, .int .u64 B2, .int .u64 C1, .int .u64 C2] 32 W) => put13_any a P3 c 4 (some ⟨b, 0, none⟩) [(B1, B2), (C1, C2)] 2 W h hx.a3 (digs_two hk) (Nat.le_refl _) (by simp) (by simp; exact ⟨hx.v.oB, hx.v.oC⟩))
  rw [hx.p4] at HP4
  have h4 := hx.l4
  have HAN := Lib.hid (fun W a c b (h : PoolIn W a P4 c) (hk : BK b #[.int .u64 D1, .int .u64 D2] 32 W) => ancestors_any a P4 c (some ⟨b, 0, none⟩) [(D1, D2)] 1 W h hx.x4.asc hx.x4.acy (digs_one hk) (by simp; exact hx.v.oD) (by omega) (by simp))
  have HBA := Lib.hid (fun W a c (h : PoolIn W a P4 c) => bases_any a P4 c B1 B2 C1 C2 W h hx.x4.asc hx.v.oB hx.v.oC (by omega))
  rw [hx.x4.bases] at HBA
  have HDE := Lib.hid (fun W a c (h : PoolIn W a P4 c) => depth_any a P4 c D1 D2 W h hx.x4.asc hx.x4.acy hx.v.oD (by omega))
  rw [hx.x4.depthD] at HDE
  obtain ⟨X1, X2, Y1, Y2, HL, HXY⟩ : ∃ X1 X2 Y1 Y2, Hid (ancS P4 [(D1, D2)] = ([(D1, D2), (X1, X2), (Y1, Y2), (A1, A2)], 0)) ∧ Hid ((B1, B2) ∈ [(X1, X2), (Y1, Y2)] ∧ (C1, C2) ∈ [(X1, X2), (Y1, Y2)]) := by
    rcases hx.x4.ancD with e | e
    · exact ⟨B1, B2, C1, C2, Lib.hid e, Lib.hid (by simp)⟩
    · exact ⟨C1, C2, B1, B2, Lib.hid e, Lib.hid (by simp)⟩
  rw [HL.out] at HAN
  have HC1 : Hid ((P1.length : Int) ≤ 100000000 ∧ (P2.length : Int) ≤ 100000000 ∧ (P3.length : Int) ≤ 100000000 ∧ (P4.length : Int) ≤ 100000000) := Lib.hid (by have := hx.l1; have := hx.l2; have := hx.l3; omega)
  have HDD := Lib.hid (And.intro hx.d1 (And.intro hx.d2 (And.intro hx.d3 hx.d4)))
  have HNZ := Lib.hid hx.v.nz
  clear hx h4 HL
  simp only [List.length_nil, List.length_cons, Nat.zero_add] at HP1 HP2 HP3 HP4 HAN HBA
  go_enter Tryz.func12, Tryz.ntmps12
  go_wp2_with fail
  refine (HP1.out _).mono ?_
  rintro e u1 ⟨a1, c1, rfl, hits, hcap, hfr, hb⟩
  simp only at hits hcap hfr ⊢
  have HBE1 := Lib.hid hb
  obtain ⟨v1, hv1⟩ : ∃ v1, v1 = (u1.alloc (.cells #[.int .u64 A1, .int .u64 A2] 32)).alloc (.cells #[.int .u64 A1, .int .u64 A2] 32) := ⟨_, rfl⟩
  have hbv : Below u1.heap.size u1 v1 := by rw [hv1]; exact ((Below.refl _ _).alloc (Nat.le_refl _) _).alloc (by simp) _
  have HKA1 : Hid (BK u1.heap.size #[.int .u64 A1, .int .u64 A2] 32 v1) := Lib.hid (by rw [hv1]; exact (BK.new _ _ _).alloc _)
  have HCA := Lib.hid (HP2.out v1 a1 c1 (u1.heap.size + 1) ⟨hits.ahead hbv, hcap, HC1.out.1, HDD.out.1⟩ (by rw [hv1]; exact BK.new2 _ _ _ _))
  have HBV1 := Lib.hid (HBE1.out.trans (hbv.mono HBE1.out.size))
  rw [hv1] at HCA
  have HV1 := Lib.hid hv1
  clear hits hcap hfr hb hbv hv1 HP1 HP2
  generalize P1.length = n1 at HCA ⊢
  go_wp2_with fail
  refine (HCA.out).mono ?_
  rintro e u2 ⟨a2, c2, rfl, hits, hcap, hfr, hb⟩
  rw [← HV1.out] at hb
  simp only at hits hcap hfr ⊢
  have HB2 := Lib.hid (HBV1.out.trans (hb.mono HBV1.out.size))
  have HKA2 := Lib.hid (HKA1.out.below hb)
  have ka0 : u2.cell? ⟨u1.heap.size, 0, none⟩ = some (.int .u64 A1) := by rw [HKA2.out.cell]; rfl
  have ka1 : u2.cell? ⟨u1.heap.size, 1, none⟩ = some (.int .u64 A2) := by rw [HKA2.out.cell]; rfl
  have ka0a := fun o => cell_a1 ka0 o
  have ka1a := fun o => cell_a1 ka1 o
  obtain ⟨v2, hv2⟩ : ∃ v2, v2 = (u2.alloc (.cells #[.int .u64 B1, .int .u64 B2] 32)).alloc (.cells #[.int .u64 A1, .int .u64 A2] 32) := ⟨_, rfl⟩
  have hbv : Below u2.heap.size u2 v2 := by rw [hv2]; exact ((Below.refl _ _).alloc (Nat.le_refl _) _).alloc (by simp) _
  have HKB2 : Hid (BK u2.heap.size #[.int .u64 B1, .int .u64 B2] 32 v2) := Lib.hid (by rw [hv2]; exact (BK.new _ _ _).alloc _)
  have HCB := Lib.hid (HP3.out v2 a2 c2 (u2.heap.size + 1) ⟨hits.ahead hbv, hcap, HC1.out.2.1, HDD.out.2.1⟩ (by rw [hv2]; exact BK.new2 _ _ _ _))
  have HKA2v := Lib.hid (HKA2.out.below hbv)
  have HBV2 := Lib.hid (HB2.out.trans (hbv.mono HB2.out.size))
  rw [hv2] at HCB
  have HV2 := Lib.hid hv2
  clear hits hcap hfr hb hbv hv2 HCA HV1 HBE1 HBV1 HKA1 HP3
  generalize P2.length = n2 at HCB ⊢
  go_wp2_with fail
  refine (HCB.out).mono ?_
  rintro e u3 ⟨a3, c3, rfl, hits, hcap, hfr, hb⟩
  rw [← HV2.out] at hb
  simp only at hits hcap hfr ⊢
  have HB3 := Lib.hid (HBV2.out.trans (hb.mono HBV2.out.size))
  have HKA3 := Lib.hid (HKA2v.out.below hb)
  have HKB3 := Lib.hid (HKB2.out.below hb)
  clear ka0 ka1 ka0a ka1a
  have kb0 : u3.cell? ⟨u2.heap.size, 0, none⟩ = some (.int .u64 B1) := by rw [HKB3.out.cell]; rfl
  have kb1 : u3.cell? ⟨u2.heap.size, 1, none⟩ = some (.int .u64 B2) := by rw [HKB3.out.cell]; rfl
  have kb0a := fun o => cell_a1 kb0 o
  have kb1a := fun o => cell_a1 kb1 o
  obtain ⟨v3, hv3⟩ : ∃ v3, v3 = (u3.alloc (.cells #[.int .u64 C1, .int .u64 C2] 32)).alloc (.cells #[.int .u64 B1, .int .u64 B2, .int .u64 C1, .int .u64 C2] 32) := ⟨_, rfl⟩
  have hbv : Below u3.heap.size u3 v3 := by rw [hv3]; exact ((Below.refl _ _).alloc (Nat.le_refl _) _).alloc (by simp) _
  have HKC3 : Hid (BK u3.heap.size #[.int .u64 C1, .int .u64 C2] 32 v3) := Lib.hid (by rw [hv3]; exact (BK.new _ _ _).alloc _)
  have HCC := Lib.hid (HP4.out v3 a3 c3 (u3.heap.size + 1) ⟨hits.ahead hbv, hcap, HC1.out.2.2.1, HDD.out.2.2.1⟩ (by rw [hv3]; exact BK.new2 _ _ _ _))
  have HKA3v := Lib.hid (HKA3.out.below hbv)
  have HKB3v := Lib.hid (HKB3.out.below hbv)
  have HBV3 := Lib.hid (HB3.out.trans (hbv.mono HB3.out.size))
  rw [hv3] at HCC
  have HV3 := Lib.hid hv3
  clear hits hcap hfr hb hbv hv3 HCB HV2 HB2 HBV2 HKA2 HKA2v HKB2 HP4
  generalize P3.length = n3 at HCC ⊢
  go_wp2_with fail
  refine (HCC.out).mono ?_
  rintro e u4 ⟨a4, c4, rfl, hits, hcap, hfr, hb⟩
  rw [← HV3.out] at hb
  simp only at hits hcap hfr ⊢
  have HB4 := Lib.hid (HBV3.out.trans (hb.mono HBV3.out.size))
  have HKA4 := Lib.hid (HKA3v.out.below hb)
  have HKB4 := Lib.hid (HKB3v.out.below hb)
  have HKC4 := Lib.hid (HKC3.out.below hb)
  clear kb0 kb1 kb0a kb1a
  obtain ⟨v4, hv4⟩ : ∃ v4, v4 = (u4.alloc (.cells #[.int .u64 D1, .int .u64 D2] 32)).alloc (.cells #[.int .u64 D1, .int .u64 D2] 32) := ⟨_, rfl⟩
  have hbv : Below u4.heap.size u4 v4 := by rw [hv4]; exact ((Below.refl _ _).alloc (Nat.le_refl _) _).alloc (by simp) _
  have HKD4 : Hid (BK u4.heap.size #[.int .u64 D1, .int .u64 D2] 32 v4) := Lib.hid (by rw [hv4]; exact (BK.new _ _ _).alloc _)
  have HPI : Hid (PoolIn v4 a4 P4 c4) := Lib.hid ⟨hits.ahead hbv, hcap, HC1.out.2.2.2, HDD.out.2.2.2⟩
  have HCD := Lib.hid (HAN.out v4 a4 c4 (u4.heap.size + 1) HPI.out (by rw [hv4]; exact BK.new2 _ _ _ _))
  have HKA4v := Lib.hid (HKA4.out.below hbv)
  have HKB4v := Lib.hid (HKB4.out.below hbv)
  have HKC4v := Lib.hid (HKC4.out.below hbv)
  have HBV4 := Lib.hid (HB4.out.trans (hbv.mono HB4.out.size))
  rw [hv4] at HCD
  have HV4 := Lib.hid hv4
  clear hits hcap hfr hb hbv hv4 HCC HV3 HB3 HBV3 HKA3 HKA3v HKB3 HKB3v HKC3 HC1 HDD
  generalize P4.length = n4 at HCD HBA HDE ⊢
  go_wp2_with fail
  refine (HCD.out).mono ?_
  rintro e u5 ⟨sa, sc, rfl, hown, hb⟩
  rw [← HV4.out] at hown hb
  simp only [List.length_cons, List.length_nil, Nat.zero_add, Nat.reduceAdd] at hown ⊢
  have HB5 := Lib.hid (HBV4.out.trans (hb.mono HBV4.out.size))
  have HKA5 := Lib.hid (HKA4v.out.below hb)
  have HKB5 := Lib.hid (HKB4v.out.below hb)
  have HKC5 := Lib.hid (HKC4v.out.below hb)
  have HKD5 := Lib.hid (HKD4.out.below hb)
  have HPI5 := Lib.hid (HPI.out.below hb)
  have HOW5 := Lib.hid hown
  have HCE := Lib.hid (HBA.out u5 a4 c4 HPI5.out)
  clear hown hb HCD HV4 HB4 HBV4 HKA4 HKA4v HKB4 HKB4v HKC4 HKC4v HKD4 HPI HBA HAN
  have kb0 : u5.cell? ⟨u2.heap.size, 0, none⟩ = some (.int .u64 B1) := by rw [HKB5.out.cell]; rfl
  have kb1 : u5.cell? ⟨u2.heap.size, 1, none⟩ = some (.int .u64 B2) := by rw [HKB5.out.cell]; rfl
  have kc0 : u5.cell? ⟨u3.heap.size, 0, none⟩ = some (.int .u64 C1) := by rw [HKC5.out.cell]; rfl
  have kc1 : u5.cell? ⟨u3.heap.size, 1, none⟩ = some (.int .u64 C2) := by rw [HKC5.out.cell]; rfl
  go_wp2_with fail
  refine (HCE.out).mono ?_
  rintro e u6 ⟨ba, bc, rfl, hown, hb⟩
  simp only [List.length_cons, List.length_nil, Nat.zero_add] at hown ⊢
  have HB6 := Lib.hid (HB5.out.trans (hb.mono HB5.out.size))
  have HKA6 := Lib.hid (HKA5.out.below hb)
  have HKB6 := Lib.hid (HKB5.out.below hb)
  have HKC6 := Lib.hid (HKC5.out.below hb)
  have HKD6 := Lib.hid (HKD5.out.below hb)
  have HOW6 := Lib.hid (own_below HOW5.out hb)
  have HBO6 := Lib.hid hown
  have HCF := Lib.hid (HDE.out u6 a4 c4 (HPI5.out.below hb))
  clear hown hb HCE HB5 HKA5 HKB5 HKC5 HKD5 HPI5 HDE HOW5 kb0 kb1 kc0 kc1
  have kd0 : u6.cell? ⟨u4.heap.size, 0, none⟩ = some (.int .u64 D1) := by rw [HKD6.out.cell]; rfl
  have kd1 : u6.cell? ⟨u4.heap.size, 1, none⟩ = some (.int .u64 D2) := by rw [HKD6.out.cell]; rfl
  go_wp2_with fail
  refine (HCF.out).mono ?_
  rintro e u7 ⟨rfl, hb⟩
  have HB7 := Lib.hid (HB6.out.trans (hb.mono HB6.out.size))
  have HKA7 := Lib.hid (HKA6.out.below hb)
  have HKB7 := Lib.hid (HKB6.out.below hb)
  have HKC7 := Lib.hid (HKC6.out.below hb)
  have HKD7 := Lib.hid (HKD6.out.below hb)
  have HOW7 := Lib.hid (own_below HOW6.out hb)
  have HBO7 := Lib.hid (own_below HBO6.out hb)
  clear hb HCF HB6 HKA6 HKB6 HKC6 HKD6 HOW6 HBO6 kd0 kd1
  rcases HOW7.out.2 with ⟨_, h2⟩ | ⟨g, cap, cur, h1, hbase, hg, hcap, hmax, hcs, htake⟩
  · omega
  rcases HBO7.out.2 with ⟨_, h2⟩ | ⟨g', cap', cur', h1', hbase', hg', hcap', hmax', hcs', htake'⟩
  · omega
  have HO := HOW7
  have HO' := HBO7
  clear hg hmax hcs htake hg' hmax' hcs' htake' hbase hbase'
  cases h1
  cases h1'
  have l0 : u7.cell? ⟨g, 0, none⟩ = some (.int .u64 D1) := by have := HO.out.cells (g := g) rfl 0 (.int .u64 D1) rfl; rwa [Go.WideShapes.add_plain, Nat.zero_add] at this
  have l1 : u7.cell? ⟨g, 1, none⟩ = some (.int .u64 D2) := by have := HO.out.cells (g := g) rfl 1 (.int .u64 D2) rfl; rwa [Go.WideShapes.add_plain, Nat.zero_add] at this
  have l6 : u7.cell? ⟨g, 6, none⟩ = some (.int .u64 A1) := by have := HO.out.cells (g := g) rfl 6 (.int .u64 A1) rfl; rwa [Go.WideShapes.add_plain, Nat.zero_add] at this
  have l7 : u7.cell? ⟨g, 7, none⟩ = some (.int .u64 A2) := by have := HO.out.cells (g := g) rfl 7 (.int .u64 A2) rfl; rwa [Go.WideShapes.add_plain, Nat.zero_add] at this
  have b0 : u7.cell? ⟨g', 0, none⟩ = some (.int .u64 A1) := by have := HO'.out.cells (g := g') rfl 0 (.int .u64 A1) rfl; rwa [Go.WideShapes.add_plain, Nat.zero_add] at this
  have b1 : u7.cell? ⟨g', 1, none⟩ = some (.int .u64 A2) := by have := HO'.out.cells (g := g') rfl 1 (.int .u64 A2) rfl; rwa [Go.WideShapes.add_plain, Nat.zero_add] at this
  have HDL : Hid (Digs u7.heap.size u7 (some ⟨g, 0, none⟩) [(D1, D2), (X1, X2), (Y1, Y2), (A1, A2)]) := Lib.hid (ownsRow_digs HO.out)
  have HDM : Hid (Digs u7.heap.size u7 (some ⟨g, 2, none⟩) [(X1, X2), (Y1, Y2)]) := Lib.hid (fun i hi => by
    simp only [List.length_cons, List.length_nil] at hi
    obtain ⟨b, off, e, hlt, h5, h6⟩ := HDL.out (i + 1) (by simp; omega)
    cases e
    refine ⟨g, 2, rfl, hlt, ?_, ?_⟩
    · rw [show 2 + i * 2 = 0 + (i + 1) * 2 by omega, h5]; rcases (by omega : i = 0 ∨ i = 1) with rfl | rfl <;> rfl
    · rw [show 2 + i * 2 + 1 = 0 + (i + 1) * 2 + 1 by omega, h6]; rcases (by omega : i = 0 ∨ i = 1) with rfl | rfl <;> rfl)
  have HHB := Lib.hid (fun W (hW : Below u7.heap.size u7 W) => has13_any (some ⟨g, 2, none⟩) [(X1, X2), (Y1, Y2)] (sc - 1) B1 B2 W (HDM.out.ahead hW) (by simp))
  have HHC := Lib.hid (fun W (hW : Below u7.heap.size u7 W) => has13_any (some ⟨g, 2, none⟩) [(X1, X2), (Y1, Y2)] (sc - 1) C1 C2 W (HDM.out.ahead hW) (by simp))
  rw [decide_eq_true HXY.out.1] at HHB
  rw [decide_eq_true HXY.out.2] at HHC
  simp only [List.length_cons, List.length_nil, Nat.zero_add, Nat.reduceAdd] at HHB HHC
  have HRB := Lib.hid (fun d os => Calls.regrown_of (w := u7) (d := d) (os := os) (HHB.out _ (below_regrown u7 d os)))
  have HRC := Lib.hid (fun d os => Calls.regrown_of (w := u7) (d := d) (os := os) (HHC.out _ (below_regrown u7 d os)))
  have hsl : ∀ W, (Instr.slice 24 (.slice (some ⟨g, 0, none⟩) 4 sc) (some (.int .i64 1)) (some (.int .i64 3)) none).run Tryz.prog W = .ok (.slice (some ⟨g, 2, none⟩) 2 (sc - 1)) W := fun W => by
    rw [run_slice_lh (P := Tryz.prog) W 24 (some ⟨g, 0, none⟩) 4 sc (by kernel_rfl) .i64 .i64 1 3 (by omega) (by omega) (by omega), size_dig]
    have : sc ≠ 1 := by omega
    simp [sliced, Result.andThen, this, Go.WideShapes.add_plain]
  have qd := fun W => eql_dig D1 D2 D1 D2 W
  have qa := fun W => eql_dig A1 A2 A1 A2 W
  have qn := fun W => neq_dig A1 A2 0 0 W
  have hnz : (A1 == 0 && A2 == 0) = false := by
    have := HNZ.out
    cases hz : (A1 == 0 && A2 == 0) with
    | false => rfl
    | true =>
      simp only [Bool.and_eq_true, beq_iff_eq] at hz
      exact absurd (by rw [hz.1, hz.2]) this
  rw [hnz] at qn
  simp only [BEq.rfl, Bool.and_self, Bool.not_false] at qd qa qn
  have ka0 : u7.cell? ⟨u1.heap.size, 0, none⟩ = some (.int .u64 A1) := by rw [HKA7.out.cell]; rfl
  have ka1 : u7.cell? ⟨u1.heap.size, 1, none⟩ = some (.int .u64 A2) := by rw [HKA7.out.cell]; rfl
  have kb0 : u7.cell? ⟨u2.heap.size, 0, none⟩ = some (.int .u64 B1) := by rw [HKB7.out.cell]; rfl
  have kb1 : u7.cell? ⟨u2.heap.size, 1, none⟩ = some (.int .u64 B2) := by rw [HKB7.out.cell]; rfl
  have kc0 : u7.cell? ⟨u3.heap.size, 0, none⟩ = some (.int .u64 C1) := by rw [HKC7.out.cell]; rfl
  have kc1 : u7.cell? ⟨u3.heap.size, 1, none⟩ = some (.int .u64 C2) := by rw [HKC7.out.cell]; rfl
  have kd0 : u7.cell? ⟨u4.heap.size, 0, none⟩ = some (.int .u64 D1) := by rw [HKD7.out.cell]; rfl
  have kd1 : u7.cell? ⟨u4.heap.size, 1, none⟩ = some (.int .u64 D2) := by rw [HKD7.out.cell]; rfl
  have rl0 := cell_regrown l0
  have rl1 := cell_regrown l1
  have rl6 := cell_regrown l6
  have rl7 := cell_regrown l7
  have rb0 := cell_regrown b0
  have rb1 := cell_regrown b1
  have rka0 := cell_regrown ka0
  have rka1 := cell_regrown ka1
  have rkb0 := cell_regrown kb0
  have rkb1 := cell_regrown kb1
  have rkc0 := cell_regrown kc0
  have rkc1 := cell_regrown kc1
  have rkd0 := cell_regrown kd0
  have rkd1 := cell_regrown kd1
  clear HKA7 HKB7 HKC7 HKD7 HO HO' HOW7 HBO7 HDL HDM HHB HHC HXY HNZ hnz
  go_upto_region 8 with (fail)
  refine wp_region_quiet_below (by kernel_rfl) (by kernel_rfl) ?_
  repeat (any_goals (first | go_big_quiet_step (first | (with_reducible exact HRB.out _ _) | (with_reducible exact HRC.out _ _)) | quiet_step (first | (with_reducible exact HRB.out _ _) | (with_reducible exact HRC.out _ _))))
  refine wpQuiet_nil ?_
  intro w8 hw8
  have hb8 := below_rg hw8
  clear hw8
  go_wp2_with fail
  go_ret
  exact ⟨rfl, HB7.out.trans (hb8.mono HB7.out.size)⟩

end Go.Proofs.YtgdhkcocdmdoaaaGreat
