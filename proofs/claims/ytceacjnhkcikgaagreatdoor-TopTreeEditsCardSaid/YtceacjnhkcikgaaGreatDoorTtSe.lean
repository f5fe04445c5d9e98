/- tree.Set and tree.Remove. -/
import Derived.Test.YtceacjnhkcikgaaGreatDoorTtSo
import Derived.Test.YtceacjnhkcikgaaGreatDoorTtLd
import Derived.Test.YtceacjnhkcikgaaGreatDoorTtIn
namespace Go.Proofs.YtceacjnhkcikgaaGreatDoor
open Go.RowKit Go.Shelf
set_option linter.unusedVariables false

theorem hit_at {l : List Fl} {s : Pa} {k : Nat} (h : hitF l s k = true) : ∃ hk : k < l.length, l[k].path = s := by
  unfold hitF at h
  cases hk : l[k]? with
  | none => rw [hk] at h; cases h
  | some x =>
    rw [hk] at h
    obtain ⟨h1, h2⟩ := List.getElem?_eq_some_iff.1 hk
    exact ⟨h1, by rw [h2]; simpa using h⟩
theorem sz_path {l : List Fl} (h : GoodF l) : ∀ x ∈ l, x.path.length ≤ 1000 := fun x hx => by have := good_path h hx; omega
set_option maxRecDepth 100000 in
set_option maxHeartbeats 8000000 in
theorem set_any (a : Option Addr) (xs : List Itm) (c : Nat) (l : List Fl) (s d : Pa) (d1 d2 : Int) (w : World) (hp : PoolIn w a xs c) (ha : Asc xs) (hin : InP xs l) (hd : (d1, d2) = (pureF 101 l).2) (hs : s.length ≤ 1000) (hsz : SzF (withF l ⟨s, d⟩)) (hlen : xs.length ≤ 50000000) :
    Calls Tryz.prog 12 #[.slice a xs.length c, .agg #[.int .u64 d1, .int .u64 d2], .string ⟨s.toArray⟩, .string ⟨d.toArray⟩] w (GotSo w a xs 20201 (setC xs l s d)) := by
  obtain ⟨V, hV, hVp⟩ := load_law ha hin
  rw [← hd] at hV
  have HP := Lib.hid hp
  have HA := Lib.hid ha
  have HGO := Lib.hid hin.good
  have HSZ0 := Lib.hid hin.sz
  have hll := hin.sz.len
  have HV := Lib.hid hV
  have HVP := Lib.hid hVp
  have HNX : Hid (∃ k, k = xs.length) := Lib.hid ⟨_, rfl⟩
  obtain ⟨R, hR⟩ : ∃ R, R = setC xs l s d := ⟨_, rfl⟩
  rw [← hR]
  have HR := Lib.hid hR
  obtain ⟨u1, hu1⟩ : ∃ u1, u1 = (w.alloc (.cells #[.int .u64 d1, .int .u64 d2] 31)).alloc (.cells #[.int .u64 0, .int .u64 0] 31) := ⟨_, rfl⟩
  have hz1 : u1.heap.size = w.heap.size + 2 := by rw [hu1]; simp
  have HBW_u1 : Hid (Below w.heap.size w u1) := Lib.hid (by rw [hu1]; exact ((Below.refl _ _).alloc (Nat.le_refl _) _).alloc (by simp) _)
  have HRC_u1 : Hid (BK (w.heap.size + 1) #[.int .u64 0, .int .u64 0] 31 u1) := Lib.hid (by rw [hu1]; exact BK.new2 _ _ _ _)
  have hdb : BK w.heap.size #[.int .u64 d1, .int .u64 d2] 31 u1 := by rw [hu1]; exact (BK.new _ _ _).alloc _
  obtain ⟨c0, c1⟩ := hdb.c2
  have HLD := Lib.hid (load_any a xs c d1 d2 101 V l u1 (hp.below HBW_u1.out) ha hV hVp hin.good.asc hin.sz.len)
  have HIP := Lib.hid (fun W => isPath_any s (by omega) W)
  have HSO := Lib.hid (fun W (hW : Below w.heap.size w W) (la : Option Addr) (lc : Nat) (m : List Fl) (hl : Fls W.heap.size W la m) (h1 : SzF m) (h2 : ∀ x ∈ m, x.path.length ≤ 1000) => Store_any a xs c la m lc W (hp.below hW) ha hl h1 h2 hlen)
  obtain ⟨nx, hnx⟩ : ∃ k, k = xs.length := ⟨_, rfl⟩
  rw [← hnx] at HLD HSO ⊢
  have HNX := Lib.hid hnx
  rw [hu1] at c0 c1 HLD
  have HU1 := Lib.hid hu1
  have HSZ := Lib.hid hsz
  clear hsz
  clear hu1 hdb hR hp ha hin hV hVp hnx hd
  go_enter Tryz.func12, Tryz.ntmps12
  go_wp2_with fail
  (with_reducible refine HLD.out.mono ?_)
  rintro e u2 ⟨la, lc, rfl, hrow, hb2⟩
  rw [← HU1.out] at hrow hb2
  have HROW2 := Lib.hid hrow
  have HBW_u2 : Hid (Below w.heap.size w u2) := Lib.hid (HBW_u1.out.trans (hb2.mono (by omega)))
  have HRC_u2 := Lib.hid (HRC_u1.out.below hb2)
  have HZ_u2 : Hid (w.heap.size + 2 ≤ u2.heap.size) := Lib.hid (by have := hb2.size; omega)
  have HI2 := Lib.hid (HIP.out u2)
  obtain ⟨nl, hnl⟩ : ∃ k, k = l.length := ⟨_, rfl⟩
  rw [← hnl] at hll ⊢
  have HNL := Lib.hid hnl
  clear hrow hb2 HLD HIP c0 c1 HV HVP hnl
  go_wp2_with fail
  (with_reducible refine HI2.out.mono ?_)
  rintro e u3 ⟨rfl, hb3⟩
  have HROW3 := Lib.hid (own_below HROW2.out hb3)
  have HBW_u3 : Hid (Below w.heap.size w u3) := Lib.hid (HBW_u2.out.trans (hb3.mono HBW_u2.out.size))
  have HRC_u3 := Lib.hid (HRC_u2.out.below hb3)
  have HZ_u3 : Hid (w.heap.size + 2 ≤ u3.heap.size) := Lib.hid (by have := hb3.size; have := HZ_u2.out; omega)
  clear hb3 HI2 HROW2 HRC_u2 HBW_u2 HZ_u2
  cases hpb : pathB s with
  | false =>
    have HBAD : Hid (R = badR 6) := Lib.hid (by rw [HR.out]; unfold setC; rw [if_pos hpb])
    have hrc := HRC_u3.out
    obtain ⟨t0, t1⟩ := hrc.c2
    obtain ⟨s0, s1⟩ := hrc.f2
    have hrc1 : BK (w.heap.size + 1) #[.int .u64 0, .int .u64 0] 31 (u3.setCell ⟨w.heap.size + 1, 0, none⟩ (.int .u64 0)) := hrc.set 0 _
    obtain ⟨t2, t3⟩ := hrc1.c2
    obtain ⟨s2, s3⟩ := hrc1.f2
    have hrc2 : BK (w.heap.size + 1) #[.int .u64 0, .int .u64 0] 31 ((u3.setCell ⟨w.heap.size + 1, 0, none⟩ (.int .u64 0)).setCell ⟨w.heap.size + 1, 1, none⟩ (.int .u64 0)) := hrc1.set 1 _
    obtain ⟨t4, t5⟩ := hrc2.c2
    have HFN : Hid (GotSo w a xs 20201 R (.returned (.tuple #[.slice none 0 0, .agg #[.int .u64 0, .int .u64 0], .int .i64 6])) ((u3.setCell ⟨w.heap.size + 1, 0, none⟩ (.int .u64 0)).setCell ⟨w.heap.size + 1, 1, none⟩ (.int .u64 0))) := Lib.hid (by rw [HBAD.out]; exact GotSo.bad a xs _ _ ((HBW_u3.out.setCell (by simp) _).setCell (by simp) _))
    clear hrc hrc1 hrc2
    go_wp2_with fail
    refine bodyPost_ret (v := .tuple #[.slice none 0 0, .agg #[.int .u64 0, .int .u64 0], .int .i64 6]) (by simp [results, Tryz.results12, go_sem, t4, t5]) rfl ?_
    exact HFN.out
  | true =>
    have HOKP : Hid (pathB s = true) := Lib.hid hpb
    clear hpb
    obtain ⟨u4, hu4⟩ : ∃ u4, u4 = u3.alloc (.cells #[.string ⟨s.toArray⟩, .string ⟨d.toArray⟩] 43) := ⟨_, rfl⟩
    have hb4 : Below u3.heap.size u3 u4 := by rw [hu4]; exact (Below.refl _ _).alloc (Nat.le_refl _) _
    have HROW4 := Lib.hid (own_below HROW3.out hb4)
    have HF4 : Hid (BK u3.heap.size (flCs ⟨s, d⟩).toArray 43 u4) := Lib.hid (by rw [hu4]; exact BK.new _ _ _)
    have HBW_u4 : Hid (Below w.heap.size w u4) := Lib.hid (HBW_u3.out.trans (hb4.mono HBW_u3.out.size))
    have HRC_u4 := Lib.hid (HRC_u3.out.below hb4)
    have HZ4 : Hid (u4.heap.size = u3.heap.size + 1) := Lib.hid (by rw [hu4]; simp)
    have HFI := Lib.hid (ffind_any la l lc s u4 (own_fls rfl HROW4.out) HGO.out.asc (by have := HNL.out; omega))
    rw [← HNL.out] at HFI
    rw [hu4] at HFI
    have HU4 := Lib.hid hu4
    clear hu4 hb4
    go_wp2_with fail
    (with_reducible refine HFI.out.mono ?_)
    rintro e u5 ⟨k, rfl, hat, hb5⟩
    rw [← HU4.out] at hb5
    have HROW5 := Lib.hid (own_below HROW4.out hb5)
    have HF5 := Lib.hid (HF4.out.below hb5)
    have HBW_u5 : Hid (Below w.heap.size w u5) := Lib.hid (HBW_u4.out.trans (hb5.mono HBW_u4.out.size))
    have HRC_u5 := Lib.hid (HRC_u4.out.below hb5)
    have HZ_u5 : Hid (w.heap.size + 2 ≤ u5.heap.size ∧ u3.heap.size + 1 ≤ u5.heap.size) := Lib.hid (by have := hb5.size; have := HZ4.out; have := HZ_u3.out; omega)
    have HWI := Lib.hid (withF_at (f := ⟨s, d⟩) HGO.out.asc hat)
    have HRS : Hid (R = storeC xs (withF l ⟨s, d⟩)) := Lib.hid (by rw [HR.out]; unfold setC; rw [if_neg (by rw [HOKP.out]; simp)])
    have HPL : Hid (∀ x ∈ withF l ⟨s, d⟩, x.path.length ≤ 1000) := Lib.hid (fun x hx => by
      rcases (withF_mem HGO.out.asc ⟨s, d⟩ x).1 hx with rfl | ⟨h1, _⟩
      · exact hs
      · exact sz_path HGO.out x h1)
    obtain ⟨f0, f1⟩ := (show BK u3.heap.size #[.string ⟨s.toArray⟩, .string ⟨d.toArray⟩] 43 u5 from HF5.out).c2
    have hkl : k ≤ nl := by have := hat.le; have := HNL.out; omega
    clear HFI HROW4 HF4 hb5 HRC_u4 HBW_u4 HROW3 HRC_u3 HBW_u3
    cases hh : hitF l s k with
    | true =>
      obtain ⟨hk, _⟩ := hit_at hh
      rw [hh, if_pos rfl] at HWI
      have hkn : (k : Int) < (nl : Int) := by have := HNL.out; omega
      obtain ⟨g, cap, cur, hla, hbase, hg, _, hcu⟩ : ∃ g cap cur, la = some ⟨g, 0, none⟩ ∧ u1.heap.size ≤ g ∧ u5.heap[g]? = some (.cells cur 43 (0, 0)) ∧ cap = lc ∧ k * 2 + 1 < cur.size := by
        rcases HROW5.out.2 with ⟨_, h2⟩ | ⟨g, cap, cur, h1, h2, h3, h4, _, h5, _⟩
        · omega
        · injection h1 with e1 e2 e3
          exact ⟨g, cap, cur, e1, h2, h3, e3.symm, by rw [h5]; omega⟩
      subst hla
      have hgb : BK g cur 43 u5 := hg
      have hx0 : u5.cell? ⟨g, k * 2, none⟩ = some cur[k * 2] := by rw [hgb.cell, Array.getElem?_eq_getElem]
      have hx1 := hgb.frozen (k * 2)
      have hgb1 : BK g (cur.setIfInBounds (k * 2) (.string ⟨s.toArray⟩)) 43 (u5.setCell ⟨g, k * 2, none⟩ (.string ⟨s.toArray⟩)) := hgb.set _ _
      have hx2 : (u5.setCell ⟨g, k * 2, none⟩ (.string ⟨s.toArray⟩)).cell? ⟨g, k * 2 + 1, none⟩ = some cur[k * 2 + 1] := by rw [hgb1.cell, Array.getElem?_setIfInBounds_ne (by omega), Array.getElem?_eq_getElem]
      have hx3 := hgb1.frozen (k * 2 + 1)
      obtain ⟨u6, hu6⟩ : ∃ u6, u6 = (u5.setCell ⟨g, k * 2, none⟩ (.string ⟨s.toArray⟩)).setCell ⟨g, k * 2 + 1, none⟩ (.string ⟨d.toArray⟩) := ⟨_, rfl⟩
      have hg6 : u5.grownBy u6 (some g) := by rw [hu6]; exact set_grown (base := 0) (c := 0) (l := []) ⟨s, d⟩
      have hgl : w.heap.size + 2 ≤ g := by omega
      have hro : u6.ownsRow u1.heap.size 43 2 (.slice (some ⟨g, 0, none⟩) l.length lc) l.length (gcs flCs (withF l ⟨s, d⟩)) := by rw [hu6, HWI.out]; exact own_setF HROW5.out hk ⟨s, d⟩
      have hwl : l.length = (withF l ⟨s, d⟩).length := by have := hro.1; rw [gcs_len] at this; omega
      have HBW_u6 : Hid (Below w.heap.size w u6) := Lib.hid (HBW_u5.out.grown hg6 HBW_u5.out.size (fun j e => by cases e; omega))
      have HRC_u6 : Hid (BK (w.heap.size + 1) #[.int .u64 0, .int .u64 0] 31 u6) := Lib.hid (HRC_u5.out.grow1 hg6 (by omega))
      have HZ_u6 : Hid (w.heap.size + 2 ≤ u6.heap.size) := Lib.hid (by have := hg6.size; have := HZ_u5.out; omega)
      have HSTO := Lib.hid (HSO.out u6 HBW_u6.out (some ⟨g, 0, none⟩) lc (withF l ⟨s, d⟩) (own_fls hwl hro) HSZ.out HPL.out)
      rw [← HRS.out, ← hwl, ← HNL.out, hu6] at HSTO
      have HU6 := Lib.hid hu6
      clear hu6 hg6 hro hwl hgb hgb1 hg HROW5 HF5 HWI HRC_u5 HBW_u5
      go_wp2_with fail
      (with_reducible refine HSTO.out.mono ?_)
      rintro e u9 ⟨⟨ra, rc, rfl, hpat, hpin, hasc⟩, hql⟩
      rw [← HU6.out] at hpat
      have hres := fun x y => res_cells (b := w.heap.size + 1) HP.out (by omega) (by have := HZ_u6.out; omega) HBW_u6.out hpat hpin hasc x y
      have hrc := HRC_u6.out.below hpat.2.2.2
      have HLQ : Hid (R.1.length ≤ xs.length + 20201) := Lib.hid (by have := HNX.out; omega)
      obtain ⟨nq, hnq⟩ : ∃ nq, nq = R.1.length := ⟨_, rfl⟩
      rw [← hnq] at hres ⊢
      clear hpat hpin hasc hql HSTO
      generalize hg1 : R.2.1.1 = g1 at hres ⊢
      generalize hg2 : R.2.1.2 = g2 at hres ⊢
      generalize her : R.2.2 = er at hres ⊢
      obtain ⟨t0, t1⟩ := hrc.c2
      obtain ⟨s0, s1⟩ := hrc.f2
      have hrc1 : BK (w.heap.size + 1) #[.int .u64 g1, .int .u64 0] 31 (u9.setCell ⟨w.heap.size + 1, 0, none⟩ (.int .u64 g1)) := hrc.set 0 _
      obtain ⟨t2, t3⟩ := hrc1.c2
      obtain ⟨s2, s3⟩ := hrc1.f2
      have hrc2 : BK (w.heap.size + 1) #[.int .u64 g1, .int .u64 g2] 31 ((u9.setCell ⟨w.heap.size + 1, 0, none⟩ (.int .u64 g1)).setCell ⟨w.heap.size + 1, 1, none⟩ (.int .u64 g2)) := hrc1.set 1 _
      obtain ⟨t4, t5⟩ := hrc2.c2
      have HFN : Hid (GotSo w a xs 20201 R (.returned (.tuple #[.slice ra nq rc, .agg #[.int .u64 g1, .int .u64 g2], .int .i64 er])) ((u9.setCell ⟨w.heap.size + 1, 0, none⟩ (.int .u64 g1)).setCell ⟨w.heap.size + 1, 1, none⟩ (.int .u64 g2))) := Lib.hid ⟨hres _ _, HLQ.out⟩
      clear hres hrc hrc1 hrc2 hg1 hg2 her hnq
      go_wp2_with fail
      refine bodyPost_ret (v := .tuple #[.slice ra nq rc, .agg #[.int .u64 g1, .int .u64 g2], .int .i64 er]) (by simp [results, Tryz.results12, go_sem, t4, t5]) rfl ?_
      exact HFN.out
    | false =>
      rw [hh, if_neg (by simp)] at HWI
      obtain ⟨u6, hu6⟩ : ∃ u6, u6 = u5.alloc (.cells #[.string ⟨s.toArray⟩, .string ⟨d.toArray⟩] 43) := ⟨_, rfl⟩
      have hb6 : Below u5.heap.size u5 u6 := by rw [hu6]; exact (Below.refl _ _).alloc (Nat.le_refl _) _
      have hrow6 := own_below HROW5.out hb6
      have hne : (Value.slice la l.length lc).ownBlock ≠ some u5.heap.size := fun e => by have := (HROW5.out.lt _ e).2; omega
      have HINS := Lib.hid (finsert_any (base := u1.heap.size) la lc l k ⟨s, d⟩ u5.heap.size u6 hat.le hrow6 (by rw [hu6]; exact BK.new _ _ _) hne (by have := hb6.size; have := HZ_u5.out; omega) (by have := HNL.out; omega))
      have HWI2 : Hid (withF l ⟨s, d⟩ = l.take k ++ ⟨s, d⟩ :: l.drop k) := HWI
      rw [← HWI2.out, ← HNL.out] at HINS
      have HB6 : Hid (Below w.heap.size w u6) := Lib.hid (HBW_u5.out.trans (hb6.mono HBW_u5.out.size))
      have HRC_u6 := Lib.hid (HRC_u5.out.below hb6)
      have hz6 : u6.heap.size = u5.heap.size + 1 := by rw [hu6]; simp
      have HLW : Hid (∀ j, (Value.slice la nl lc).ownBlock = some j → w.heap.size + 2 ≤ j) := Lib.hid (fun j hj => by have := (hrow6.lt j (by rw [← HNL.out]; exact hj)).1; omega)
      rw [hu6] at HINS
      have HU6 := Lib.hid hu6
      clear hu6 hb6 hrow6 hne HROW5 HF5 HWI HWI2 HRC_u5 HBW_u5
      go_wp2_with fail
      (with_reducible refine HINS.out.mono ?_)
      rintro e u7 ⟨la2, lc2, rfl, hrow7, hg7⟩
      rw [← HU6.out] at hg7
      have HBW_u7 : Hid (Below w.heap.size w u7) := Lib.hid (HB6.out.grown hg7 HB6.out.size (fun j e => by have := HLW.out j e; omega))
      have HRC_u7 : Hid (BK (w.heap.size + 1) #[.int .u64 0, .int .u64 0] 31 u7) := Lib.hid (HRC_u6.out.grow hg7 (fun j e hj => by have := HLW.out j e; omega))
      have HZ_u7 : Hid (w.heap.size + 2 ≤ u7.heap.size) := Lib.hid (by have := hg7.size; have := HZ_u5.out; omega)
      have HSTO := Lib.hid (HSO.out u7 HBW_u7.out la2 lc2 (withF l ⟨s, d⟩) (own_fls rfl hrow7) HSZ.out HPL.out)
      rw [← HRS.out] at HSTO
      generalize (withF l ⟨s, d⟩).length = wl at HSTO ⊢
      clear hrow7 hg7 HINS HLW HB6 HRC_u6
      go_wp2_with fail
      (with_reducible refine HSTO.out.mono ?_)
      rintro e u9 ⟨⟨ra, rc, rfl, hpat, hpin, hasc⟩, hql⟩
      have hres := fun x y => res_cells (b := w.heap.size + 1) HP.out (by omega) (by have := HZ_u7.out; omega) HBW_u7.out hpat hpin hasc x y
      have hrc := HRC_u7.out.below hpat.2.2.2
      have HLQ : Hid (R.1.length ≤ xs.length + 20201) := Lib.hid (by have := HNX.out; omega)
      obtain ⟨nq, hnq⟩ : ∃ nq, nq = R.1.length := ⟨_, rfl⟩
      rw [← hnq] at hres ⊢
      clear hpat hpin hasc hql HSTO
      generalize hg1 : R.2.1.1 = g1 at hres ⊢
      generalize hg2 : R.2.1.2 = g2 at hres ⊢
      generalize her : R.2.2 = er at hres ⊢
      obtain ⟨t0, t1⟩ := hrc.c2
      obtain ⟨s0, s1⟩ := hrc.f2
      have hrc1 : BK (w.heap.size + 1) #[.int .u64 g1, .int .u64 0] 31 (u9.setCell ⟨w.heap.size + 1, 0, none⟩ (.int .u64 g1)) := hrc.set 0 _
      obtain ⟨t2, t3⟩ := hrc1.c2
      obtain ⟨s2, s3⟩ := hrc1.f2
      have hrc2 : BK (w.heap.size + 1) #[.int .u64 g1, .int .u64 g2] 31 ((u9.setCell ⟨w.heap.size + 1, 0, none⟩ (.int .u64 g1)).setCell ⟨w.heap.size + 1, 1, none⟩ (.int .u64 g2)) := hrc1.set 1 _
      obtain ⟨t4, t5⟩ := hrc2.c2
      have HFN : Hid (GotSo w a xs 20201 R (.returned (.tuple #[.slice ra nq rc, .agg #[.int .u64 g1, .int .u64 g2], .int .i64 er])) ((u9.setCell ⟨w.heap.size + 1, 0, none⟩ (.int .u64 g1)).setCell ⟨w.heap.size + 1, 1, none⟩ (.int .u64 g2))) := Lib.hid ⟨hres _ _, HLQ.out⟩
      clear hres hrc hrc1 hrc2 hg1 hg2 her hnq
      go_wp2_with fail
      refine bodyPost_ret (v := .tuple #[.slice ra nq rc, .agg #[.int .u64 g1, .int .u64 g2], .int .i64 er]) (by simp [results, Tryz.results12, go_sem, t4, t5]) rfl ?_
      exact HFN.out
set_option maxRecDepth 100000 in
set_option maxHeartbeats 8000000 in
theorem remove_any (a : Option Addr) (xs : List Itm) (c : Nat) (l : List Fl) (s : Pa) (d1 d2 : Int) (w : World) (hp : PoolIn w a xs c) (ha : Asc xs) (hin : InP xs l) (hd : (d1, d2) = (pureF 101 l).2) (hs : s.length ≤ 1000) (hlen : xs.length ≤ 50000000) :
    Calls Tryz.prog 11 #[.slice a xs.length c, .agg #[.int .u64 d1, .int .u64 d2], .string ⟨s.toArray⟩] w (GotSo w a xs 20201 (delC xs l s)) := by
  obtain ⟨V, hV, hVp⟩ := load_law ha hin
  rw [← hd] at hV
  have HP := Lib.hid hp
  have HA := Lib.hid ha
  have HGO := Lib.hid hin.good
  have HSZ0 := Lib.hid hin.sz
  have hll := hin.sz.len
  have HV := Lib.hid hV
  have HVP := Lib.hid hVp
  have HNX : Hid (∃ k, k = xs.length) := Lib.hid ⟨_, rfl⟩
  obtain ⟨R, hR⟩ : ∃ R, R = delC xs l s := ⟨_, rfl⟩
  rw [← hR]
  have HR := Lib.hid hR
  obtain ⟨u1, hu1⟩ : ∃ u1, u1 = (w.alloc (.cells #[.int .u64 d1, .int .u64 d2] 31)).alloc (.cells #[.int .u64 0, .int .u64 0] 31) := ⟨_, rfl⟩
  have hz1 : u1.heap.size = w.heap.size + 2 := by rw [hu1]; simp
  have HBW_u1 : Hid (Below w.heap.size w u1) := Lib.hid (by rw [hu1]; exact ((Below.refl _ _).alloc (Nat.le_refl _) _).alloc (by simp) _)
  have HRC_u1 : Hid (BK (w.heap.size + 1) #[.int .u64 0, .int .u64 0] 31 u1) := Lib.hid (by rw [hu1]; exact BK.new2 _ _ _ _)
  have hdb : BK w.heap.size #[.int .u64 d1, .int .u64 d2] 31 u1 := by rw [hu1]; exact (BK.new _ _ _).alloc _
  obtain ⟨c0, c1⟩ := hdb.c2
  have HLD := Lib.hid (load_any a xs c d1 d2 101 V l u1 (hp.below HBW_u1.out) ha hV hVp hin.good.asc hin.sz.len)
  have HIP := Lib.hid (fun W => isPath_any s (by omega) W)
  have HSO := Lib.hid (fun W (hW : Below w.heap.size w W) (la : Option Addr) (lc : Nat) (m : List Fl) (hl : Fls W.heap.size W la m) (h1 : SzF m) (h2 : ∀ x ∈ m, x.path.length ≤ 1000) => Store_any a xs c la m lc W (hp.below hW) ha hl h1 h2 hlen)
  obtain ⟨nx, hnx⟩ : ∃ k, k = xs.length := ⟨_, rfl⟩
  rw [← hnx] at HLD HSO ⊢
  have HNX := Lib.hid hnx
  rw [hu1] at c0 c1 HLD
  have HU1 := Lib.hid hu1
  clear hu1 hdb hR hp ha hin hV hVp hnx hd
  go_enter Tryz.func11, Tryz.ntmps11
  go_wp2_with fail
  (with_reducible refine HLD.out.mono ?_)
  rintro e u2 ⟨la, lc, rfl, hrow, hb2⟩
  rw [← HU1.out] at hrow hb2
  have HROW2 := Lib.hid hrow
  have HBW_u2 : Hid (Below w.heap.size w u2) := Lib.hid (HBW_u1.out.trans (hb2.mono (by omega)))
  have HRC_u2 := Lib.hid (HRC_u1.out.below hb2)
  have HZ_u2 : Hid (w.heap.size + 2 ≤ u2.heap.size) := Lib.hid (by have := hb2.size; omega)
  have HI2 := Lib.hid (HIP.out u2)
  obtain ⟨nl, hnl⟩ : ∃ k, k = l.length := ⟨_, rfl⟩
  rw [← hnl] at hll ⊢
  have HNL := Lib.hid hnl
  clear hrow hb2 HLD HIP c0 c1 HV HVP hnl
  go_wp2_with fail
  (with_reducible refine HI2.out.mono ?_)
  rintro e u3 ⟨rfl, hb3⟩
  have HROW3 := Lib.hid (own_below HROW2.out hb3)
  have HBW_u3 : Hid (Below w.heap.size w u3) := Lib.hid (HBW_u2.out.trans (hb3.mono HBW_u2.out.size))
  have HRC_u3 := Lib.hid (HRC_u2.out.below hb3)
  have HZ_u3 : Hid (w.heap.size + 2 ≤ u3.heap.size) := Lib.hid (by have := hb3.size; have := HZ_u2.out; omega)
  clear hb3 HI2 HROW2 HRC_u2 HBW_u2 HZ_u2
  cases hpb : pathB s with
  | false =>
    have HBAD : Hid (R = badR 6) := Lib.hid (by rw [HR.out]; unfold delC; rw [if_pos hpb])
    have hrc := HRC_u3.out
    obtain ⟨t0, t1⟩ := hrc.c2
    obtain ⟨s0, s1⟩ := hrc.f2
    have hrc1 : BK (w.heap.size + 1) #[.int .u64 0, .int .u64 0] 31 (u3.setCell ⟨w.heap.size + 1, 0, none⟩ (.int .u64 0)) := hrc.set 0 _
    obtain ⟨t2, t3⟩ := hrc1.c2
    obtain ⟨s2, s3⟩ := hrc1.f2
    have hrc2 : BK (w.heap.size + 1) #[.int .u64 0, .int .u64 0] 31 ((u3.setCell ⟨w.heap.size + 1, 0, none⟩ (.int .u64 0)).setCell ⟨w.heap.size + 1, 1, none⟩ (.int .u64 0)) := hrc1.set 1 _
    obtain ⟨t4, t5⟩ := hrc2.c2
    have HFN : Hid (GotSo w a xs 20201 R (.returned (.tuple #[.slice none 0 0, .agg #[.int .u64 0, .int .u64 0], .int .i64 6])) ((u3.setCell ⟨w.heap.size + 1, 0, none⟩ (.int .u64 0)).setCell ⟨w.heap.size + 1, 1, none⟩ (.int .u64 0))) := Lib.hid (by rw [HBAD.out]; exact GotSo.bad a xs _ _ ((HBW_u3.out.setCell (by simp) _).setCell (by simp) _))
    clear hrc hrc1 hrc2
    go_wp2_with fail
    refine bodyPost_ret (v := .tuple #[.slice none 0 0, .agg #[.int .u64 0, .int .u64 0], .int .i64 6]) (by simp [results, Tryz.results11, go_sem, t4, t5]) rfl ?_
    exact HFN.out
  | true =>
    have HOKP : Hid (pathB s = true) := Lib.hid hpb
    clear hpb
    have HFI := Lib.hid (ffind_any la l lc s u3 (own_fls rfl HROW3.out) HGO.out.asc (by have := HNL.out; omega))
    rw [← HNL.out] at HFI
    go_wp2_with fail
    (with_reducible refine HFI.out.mono ?_)
    rintro e u5 ⟨k, rfl, hat, hb5⟩
    have HROW5 := Lib.hid (own_below HROW3.out hb5)
    have HBW_u5 : Hid (Below w.heap.size w u5) := Lib.hid (HBW_u3.out.trans (hb5.mono HBW_u3.out.size))
    have HRC_u5 := Lib.hid (HRC_u3.out.below hb5)
    have HZ_u5 : Hid (w.heap.size + 2 ≤ u5.heap.size) := Lib.hid (by have := hb5.size; have := HZ_u3.out; omega)
    have hkl : k ≤ nl := by have := hat.le; have := HNL.out; omega
    have HHF := Lib.hid (hit_find HGO.out.asc hat)
    clear HFI hb5 HROW3 HRC_u3 HBW_u3
    cases hh : hitF l s k with
    | false =>
      have HBAD : Hid (R = badR 8) := Lib.hid (by
        rw [HR.out]; unfold delC
        rw [if_neg (by rw [HOKP.out]; simp), if_pos]
        have h := HHF.out
        rw [hh] at h
        cases hf : findF l s with
        | none => rfl
        | some x => rw [hf] at h; cases h)
      have hrc := HRC_u5.out
      obtain ⟨t0, t1⟩ := hrc.c2
      obtain ⟨s0, s1⟩ := hrc.f2
      have hrc1 : BK (w.heap.size + 1) #[.int .u64 0, .int .u64 0] 31 (u5.setCell ⟨w.heap.size + 1, 0, none⟩ (.int .u64 0)) := hrc.set 0 _
      obtain ⟨t2, t3⟩ := hrc1.c2
      obtain ⟨s2, s3⟩ := hrc1.f2
      have hrc2 : BK (w.heap.size + 1) #[.int .u64 0, .int .u64 0] 31 ((u5.setCell ⟨w.heap.size + 1, 0, none⟩ (.int .u64 0)).setCell ⟨w.heap.size + 1, 1, none⟩ (.int .u64 0)) := hrc1.set 1 _
      obtain ⟨t4, t5⟩ := hrc2.c2
      have HFN : Hid (GotSo w a xs 20201 R (.returned (.tuple #[.slice none 0 0, .agg #[.int .u64 0, .int .u64 0], .int .i64 8])) ((u5.setCell ⟨w.heap.size + 1, 0, none⟩ (.int .u64 0)).setCell ⟨w.heap.size + 1, 1, none⟩ (.int .u64 0))) := Lib.hid (by rw [HBAD.out]; exact GotSo.bad a xs _ _ ((HBW_u5.out.setCell (by simp) _).setCell (by simp) _))
      clear hrc hrc1 hrc2
      go_wp2_with fail
      refine bodyPost_ret (v := .tuple #[.slice none 0 0, .agg #[.int .u64 0, .int .u64 0], .int .i64 8]) (by simp [results, Tryz.results11, go_sem, t4, t5]) rfl ?_
      exact HFN.out
    | true =>
      obtain ⟨hk, hke⟩ := hit_at hh
      have HRS : Hid (R = storeC xs (lessF l s)) := Lib.hid (by
        rw [HR.out]; unfold delC
        rw [if_neg (by rw [HOKP.out]; simp), if_neg]
        have h := HHF.out
        rw [hh] at h
        intro h2
        rw [h2] at h; cases h)
      have HLE := Lib.hid (lessF_at HGO.out.asc hk hke)
      obtain ⟨g, hla, hbase⟩ : ∃ g, la = some ⟨g, 0, none⟩ ∧ u1.heap.size ≤ g := by
        rcases HROW5.out.2 with ⟨_, h2⟩ | ⟨g, cap, cur, h1, h2, _⟩
        · omega
        · injection h1 with e1 e2 e3
          exact ⟨g, e1, h2⟩
      subst hla
      have HDE := Lib.hid (delete_any g lc l k (k + 1) u5 rfl hk HROW5.out (by have := HNL.out; omega))
      rw [← HLE.out, ← HNL.out, show ((k + 1 : Nat) : Int) = (k : Int) + 1 by omega] at HDE
      have hll2 : (lessF l s).length = nl - 1 := by
        rw [HLE.out, List.length_append, List.length_take, List.length_drop]
        have := HNL.out
        omega
      have HLN := Lib.hid hll2
      clear hh HHF hat hll2 HROW5
      go_wp2_with fail
      (with_reducible refine HDE.out.mono ?_)
      rintro e u6 ⟨rfl, hrow6, hg6⟩
      have HBW_u6 : Hid (Below w.heap.size w u6) := Lib.hid (HBW_u5.out.grown hg6 HBW_u5.out.size (fun j e => by cases e; omega))
      have HRC_u6 : Hid (BK (w.heap.size + 1) #[.int .u64 0, .int .u64 0] 31 u6) := Lib.hid (HRC_u5.out.grow1 hg6 (by omega))
      have HZ_u6 : Hid (w.heap.size + 2 ≤ u6.heap.size) := Lib.hid (by have := hg6.size; have := HZ_u5.out; omega)
      have HSTO := Lib.hid (HSO.out u6 HBW_u6.out (some ⟨g, 0, none⟩) lc (lessF l s) (own_fls HLN.out.symm hrow6) (sz_less HSZ0.out s) (fun x hx => sz_path HGO.out x (List.mem_filter.1 hx).1))
      rw [← HRS.out, HLN.out] at HSTO
      clear hrow6 hg6 HDE HLE
      go_wp2_with fail
      (with_reducible refine HSTO.out.mono ?_)
      rintro e u9 ⟨⟨ra, rc, rfl, hpat, hpin, hasc⟩, hql⟩
      have hres := fun x y => res_cells (b := w.heap.size + 1) HP.out (by omega) (by have := HZ_u6.out; omega) HBW_u6.out hpat hpin hasc x y
      have hrc := HRC_u6.out.below hpat.2.2.2
      have HLQ : Hid (R.1.length ≤ xs.length + 20201) := Lib.hid (by have := HNX.out; omega)
      obtain ⟨nq, hnq⟩ : ∃ nq, nq = R.1.length := ⟨_, rfl⟩
      rw [← hnq] at hres ⊢
      clear hpat hpin hasc hql HSTO
      generalize hg1 : R.2.1.1 = g1 at hres ⊢
      generalize hg2 : R.2.1.2 = g2 at hres ⊢
      generalize her : R.2.2 = er at hres ⊢
      obtain ⟨t0, t1⟩ := hrc.c2
      obtain ⟨s0, s1⟩ := hrc.f2
      have hrc1 : BK (w.heap.size + 1) #[.int .u64 g1, .int .u64 0] 31 (u9.setCell ⟨w.heap.size + 1, 0, none⟩ (.int .u64 g1)) := hrc.set 0 _
      obtain ⟨t2, t3⟩ := hrc1.c2
      obtain ⟨s2, s3⟩ := hrc1.f2
      have hrc2 : BK (w.heap.size + 1) #[.int .u64 g1, .int .u64 g2] 31 ((u9.setCell ⟨w.heap.size + 1, 0, none⟩ (.int .u64 g1)).setCell ⟨w.heap.size + 1, 1, none⟩ (.int .u64 g2)) := hrc1.set 1 _
      obtain ⟨t4, t5⟩ := hrc2.c2
      have HFN : Hid (GotSo w a xs 20201 R (.returned (.tuple #[.slice ra nq rc, .agg #[.int .u64 g1, .int .u64 g2], .int .i64 er])) ((u9.setCell ⟨w.heap.size + 1, 0, none⟩ (.int .u64 g1)).setCell ⟨w.heap.size + 1, 1, none⟩ (.int .u64 g2))) := Lib.hid ⟨hres _ _, HLQ.out⟩
      clear hres hrc hrc1 hrc2 hg1 hg2 her hnq
      go_wp2_with fail
      refine bodyPost_ret (v := .tuple #[.slice ra nq rc, .agg #[.int .u64 g1, .int .u64 g2], .int .i64 er]) (by simp [results, Tryz.results11, go_sem, t4, t5]) rfl ?_
      exact HFN.out
end Go.Proofs.YtceacjnhkcikgaaGreatDoor
