/- The walk of the statement PoolReach. -/
import Derived.Test.YtlfodnehgedpmaaGreatRpN
namespace Go.Proofs.YtlfodnehgedpmaaGreat.poolReach
open Go.RowKit Go.Shelf
set_option linter.unusedVariables false

theorem bt {a b c : World} (h1 : Below a.heap.size a b) (h2 : Below b.heap.size b c) : Below a.heap.size a c := h1.trans (h2.mono h1.size)
theorem refF_len (xs : List Itm) : ∀ (f : Nat) (ws T M : List (Int × Int)), (refF xs f ws T M).1.length ≤ T.length + f ∧ (refF xs f ws T M).2.length ≤ M.length + f
  | 0, ws, T, M => by rw [refF]; simp
  | f + 1, [], T, M => by rw [refF]; simp
  | f + 1, d :: ws, T, M => by
    rw [refF]
    split
    · have := refF_len xs f ws T M; omega
    · split
      · have := refF_len xs f ws T (withS M d); have := withS_len M d; omega
      · have := refF_len xs f (ws ++ linksS (getS xs d).1) (withS T d) M; have := withS_len T d; omega
theorem reachS_len (xs : List Itm) (l : List (Int × Int)) : (reachS xs l).1.length ≤ fuelR xs l ∧ (reachS xs l).2.length ≤ fuelR xs l := by
  have := refF_len xs (fuelR xs l) l [] []
  rw [refF_eq] at this
  simpa using this
theorem map_len {o : Option (List Itm)} {x : Itm} {zs : List Itm} {f : Nat} (h : o.map (x :: ·) = some zs) (hf : ∀ z, o = some z → z.length ≤ f) : zs.length ≤ f + 1 := by
  cases o with
  | none => cases h
  | some z => cases h; have := hf z rfl; simp; omega
theorem uniF_len : ∀ (f : Nat) (xs ys zs : List Itm), uniF f xs ys = some zs → zs.length ≤ f
  | 0, xs, ys, zs, h => by rw [uniF] at h; cases h; simp
  | f + 1, [], [], zs, h => by rw [uniF] at h; cases h; simp
  | f + 1, [], y :: ys, zs, h => by rw [uniF] at h; exact map_len h (fun z hz => uniF_len f _ _ z hz)
  | f + 1, x :: xs, [], zs, h => by rw [uniF] at h; exact map_len h (fun z hz => uniF_len f _ _ z hz)
  | f + 1, x :: xs, y :: ys, zs, h => by
    rw [uniF] at h
    split at h
    · split at h
      · exact map_len h (fun z hz => uniF_len f _ _ z hz)
      · cases h
    · split at h
      · exact map_len h (fun z hz => uniF_len f _ _ z hz)
      · exact map_len h (fun z hz => uniF_len f _ _ z hz)
theorem uniS_len (xs ys : List Itm) : (uniS xs ys).1.length ≤ xs.length + ys.length := by
  unfold uniS
  cases h : uniF (xs.length + ys.length) xs ys with
  | none => simp [uniO]
  | some zs => exact uniF_len _ _ _ _ h
set_option maxRecDepth 100000 in
set_option maxHeartbeats 8000000 in
theorem walk (a : Option Addr) (xs : List Itm) (c : Nat) (b : Option Addr) (ys : List Itm) (c' : Nat) (la : Option Addr) (l : List (Int × Int)) (lc : Nat) (w : World) (hp : PoolCame w a xs c) (hq : PoolCame w b ys c') (hl : Digs w.heap.size w la l) (hlc : l.length ≤ lc ∧ lc ≤ maxLen) (hlo : ∀ d ∈ l, OkD d) :
    Calls Tryz.prog 8 #[.slice a xs.length c, .slice b ys.length c', .slice la l.length lc] w fun e w' => e = .returned (.bool true) ∧ Below w.heap.size w w' := by
  have hml := hp.cap
  have hml2 := hq.cap
  unfold maxLen at hml hml2 hlc
  have HFN := Lib.hid (fun W (hW : Below w.heap.size w W) => fine_any a xs c W (hp.its.ahead hW) (by omega) (fun x hx => by have := (hp.dat x hx).2; unfold maxLen at this; omega))
  have HFQ := Lib.hid (fun W (hW : Below w.heap.size w W) => fine_any b ys c' W (hq.its.ahead hW) (by omega) (fun x hx => by have := (hq.dat x hx).2; unfold maxLen at this; omega))
  have HA := Lib.hid (fun W => awake_any W)
  have HX := Lib.hid hp.its
  have HY := Lib.hid hq.its
  have HLD := Lib.hid hl
  have HLO := Lib.hid hlo
  have HXO := Lib.hid (fun x hx => (hp.dat x hx).1)
  have HCA := Lib.hid hp.cap.1
  clear hp hq hl hlo
  have HF0 := Lib.hid (HFN.out w (Below.refl _ _))
  clear HFN
  obtain ⟨n, hn⟩ : ∃ n, n = xs.length := ⟨_, rfl⟩
  obtain ⟨m, hm⟩ : ∃ m, m = ys.length := ⟨_, rfl⟩
  obtain ⟨ll, hll⟩ : ∃ ll, ll = l.length := ⟨_, rfl⟩
  have HN := Lib.hid hn
  have HM := Lib.hid hm
  have HLL := Lib.hid hll
  cases hg : fineB xs with
  | false =>
    rw [hg] at HF0
    rw [← hn] at HF0
    rw [← hn, ← hm, ← hll]
    clear hg hn hm hll
    go_enter Tryz.func8, Tryz.ntmps8
    go_wp2_with fail
    (with_reducible refine (HF0.out).mono ?_)
    rintro e u ⟨rfl, hb⟩
    have HB1 := Lib.hid hb
    clear hb
    go_wp2_with fail
    (with_reducible refine (HA.out _).mono ?_)
    rintro e u2 ⟨rfl, hb⟩
    have HB2 := Lib.hid (bt HB1.out hb)
    clear hb
    go_wp2_with fail
    go_ret
    exact ⟨rfl, HB2.out⟩
  | true =>
    rw [hg] at HF0
    cases hg2 : fineB ys with
    | false =>
      rw [hg2] at HFQ
      rw [← hn] at HF0
      rw [← hm] at HFQ
      rw [← hn, ← hm, ← hll]
      clear hg hg2 hn hm hll
      go_enter Tryz.func8, Tryz.ntmps8
      go_wp2_with fail
      (with_reducible refine (HF0.out).mono ?_)
      rintro e u ⟨rfl, hb⟩
      have HB1 := Lib.hid hb
      clear hb
      go_wp2_with fail
      (with_reducible refine (HFQ.out _ HB1.out).mono ?_)
      rintro e u1 ⟨rfl, hb⟩
      have HB2 := Lib.hid (bt HB1.out hb)
      clear hb
      go_wp2_with fail
      (with_reducible refine (HA.out _).mono ?_)
      rintro e u2 ⟨rfl, hb⟩
      have HB3 := Lib.hid (bt HB2.out hb)
      clear hb
      go_wp2_with fail
      go_ret
      exact ⟨rfl, HB3.out⟩
    | true =>
      rw [hg2] at HFQ
      by_cases h40 : (20 : Int) < ll
      · have d40 : decide ((20 : Int) < (ll : Int)) = true := by simpa using h40
        rw [← hn] at HF0
        rw [← hm] at HFQ
        rw [← hn, ← hm, ← hll]
        clear hg hg2 hn hm hll
        go_enter Tryz.func8, Tryz.ntmps8
        go_wp2_with fail
        (with_reducible refine (HF0.out).mono ?_)
        rintro e u ⟨rfl, hb⟩
        have HB1 := Lib.hid hb
        clear hb
        go_wp2_with fail
        (with_reducible refine (HFQ.out _ HB1.out).mono ?_)
        rintro e u1 ⟨rfl, hb⟩
        have HB2 := Lib.hid (bt HB1.out hb)
        clear hb
        go_wp2_with fail
        (with_reducible refine (HA.out _).mono ?_)
        rintro e u2 ⟨rfl, hb⟩
        have HB3 := Lib.hid (bt HB2.out hb)
        clear hb
        go_wp2_with fail
        go_ret
        exact ⟨rfl, HB3.out⟩
      · have d40 : decide ((20 : Int) < (ll : Int)) = false := by simpa using h40
        obtain ⟨x1, x2, x3, x4, x5⟩ := fineB_true hg
        obtain ⟨y1, y2, y3, y4, y5⟩ := fineB_true hg2
        have hll20 : ll ≤ 20 := by omega
        have hxl : (xs.length : Int) ≤ 80 := by omega
        have hlln : (l.length : Int) ≤ 10000 := by omega
        have hfu : ((fuelR xs l : Nat) : Int) ≤ 100000 := by unfold fuelR; omega
        have HPI := Lib.hid (fun W (hW : Below w.heap.size w W) => (⟨HX.out.ahead hW, HCA.out, by omega, fun x hx => by have := x2 x hx; omega⟩ : PoolIn W a xs c))
        have HLW := Lib.hid (fun W (hW : Below w.heap.size w W) => (HLD.out.below hW (Nat.le_refl _)).mono hW.size)
        have HR1 := Lib.hid (fun W (hW : Below w.heap.size w W) => reach_any a xs c la l lc W (HPI.out W hW) x4 (HLW.out W hW) HLO.out (by omega) hlln)
        have HR2 := Lib.hid (fun W (hW : Below w.heap.size w W) => rreach_any a xs c la l lc W (HX.out.ahead hW) x4 (HLW.out W hW) hxl hlln (fun x hx => by have := x2 x hx; omega))
        have HU1 := Lib.hid (fun W (hW : Below w.heap.size w W) => union_any a b xs ys c c' W (HX.out.ahead hW) (HY.out.ahead hW) (by omega) (by omega))
        have HU2 := Lib.hid (fun W (hW : Below w.heap.size w W) => runion_any a b xs ys c c' W (HX.out.ahead hW) (HY.out.ahead hW) HCA.out x4 (by omega) (by omega))
        rw [runS_eq x4 y4] at HU2
        have HK1 := Lib.hid (fun W (hW : Below w.heap.size w W) => keep_any a xs c la l lc W (HPI.out W hW) (HLW.out W hW) HLO.out HXO.out (by omega))
        have HK2 := Lib.hid (fun W (hW : Below w.heap.size w W) => rkeep_any a xs c la l lc W (HX.out.ahead hW) (HLW.out W hW) (by omega) (by omega))
        have HKL : Hid ((keepS xs l).length ≤ 40) := Lib.hid (Nat.le_trans (List.length_filter_le _ _) x1)
        have HRL := Lib.hid (reachS_len xs l)
        have HUL := Lib.hid (uniS_len xs ys)
        generalize fuelR xs l = F at hfu HRL
        generalize reachS xs l = RS at HR1 HR2 HRL
        obtain ⟨r1, r2⟩ := RS
        generalize uniS xs ys = U at HU1 HU2 HUL
        obtain ⟨zs, ek⟩ := U
        generalize keepS xs l = K at HK1 HK2 HKL
        simp only at HRL HUL
        have HRB : Hid ((r1.length : Int) ≤ 100000 ∧ (r2.length : Int) ≤ 100000 ∧ (zs.length : Int) ≤ 1000 ∧ (K.length : Int) ≤ 1000) := Lib.hid (by have := HRL.out; have := HUL.out; have := HKL.out; omega)
        obtain ⟨n1, hn1⟩ : ∃ n1, n1 = r1.length := ⟨_, rfl⟩
        obtain ⟨n2, hn2⟩ : ∃ n2, n2 = r2.length := ⟨_, rfl⟩
        obtain ⟨zl, hzl⟩ : ∃ zl, zl = zs.length := ⟨_, rfl⟩
        obtain ⟨kl, hkl⟩ : ∃ kl, kl = K.length := ⟨_, rfl⟩
        have HN1 := Lib.hid hn1
        have HN2 := Lib.hid hn2
        have HZL := Lib.hid hzl
        have HKN := Lib.hid hkl
        rw [← hn] at HF0 HU1 HU2 HK1 HK2 HR1 HR2
        rw [← hm] at HFQ HU1 HU2
        rw [← hll] at HK1 HK2 HR1 HR2
        rw [← hn, ← hm, ← hll]
        clear hg hg2 hn hm hll x1 x2 x3 x4 x5 y1 y2 y3 y4 y5 hn1 hn2 hzl hkl hxl hlln hfu HRL HUL HKL HPI HLW
        go_enter Tryz.func8, Tryz.ntmps8
        go_wp2_with fail
        (with_reducible refine (HF0.out).mono ?_)
        rintro e u ⟨rfl, hb⟩
        have HB1 := Lib.hid hb
        clear hb
        go_wp2_with fail
        (with_reducible refine (HFQ.out _ HB1.out).mono ?_)
        rintro e u1 ⟨rfl, hb⟩
        have HB2 := Lib.hid (bt HB1.out hb)
        clear hb
        have HC1 := Lib.hid (HR1.out u1 HB2.out)
        go_wp2_with fail
        (with_reducible refine (HC1.out).mono ?_)
        rintro e u2 ⟨ra, rc, sa, sc, rfl, ho1, ho2, hb⟩
        have HA2 := Lib.hid (ownsRow_digs ho1)
        have HS2 := Lib.hid (ownsRow_digs ho2)
        have HB3 := Lib.hid (bt HB2.out hb)
        have HC2 := Lib.hid (HR2.out u2 HB3.out)
        simp only
        rw [← HN1.out, ← HN2.out]
        clear ho1 ho2 hb HC1 HR1
        go_wp2_with fail
        (with_reducible refine (HC2.out).mono ?_)
        rintro e u3 ⟨ra', rc', sa', sc', he, hd1, hd2, hb⟩
        simp only at he hd1 hd2
        rw [← HN1.out, ← HN2.out] at he
        subst he
        have HE1 := Lib.hid (fun W hW => equalD_any ra ra' r1 r1 rc rc' W ((HA2.out.ahead hb).ahead hW) (hd1.ahead hW) (by have := HRB.out; omega) (by have := HRB.out; omega))
        have HE2 := Lib.hid (fun W hW => equalD_any sa sa' r2 r2 sc sc' W ((HS2.out.ahead hb).ahead hW) (hd2.ahead hW) (by have := HRB.out; omega) (by have := HRB.out; omega))
        have t1 : decide (r1 = r1) = true := by simp
        have t2 : decide (r2 = r2) = true := by simp
        rw [t1, ← HN1.out] at HE1
        rw [t2, ← HN2.out] at HE2
        have HB4 := Lib.hid (bt HB3.out hb)
        have HC3 := Lib.hid (HU1.out u3 HB4.out)
        clear hd1 hd2 hb HC2 HR2 t1 t2 HA2 HS2
        go_wp2_with fail
        (with_reducible refine (HC3.out).mono ?_)
        rintro e u4 ⟨ua, uc, he, hpo⟩
        simp only at he
        rw [← HZL.out] at he
        subst he
        have HZ4 := Lib.hid hpo.1
        have hb := hpo.2.2.2
        have HB34 := Lib.hid hb
        have HB5 := Lib.hid (bt HB4.out hb)
        have HC4 := Lib.hid (HU2.out u4 HB5.out)
        clear hpo hb HC3 HU1
        go_wp2_with fail
        (with_reducible refine (HC4.out).mono ?_)
        rintro e u5 ⟨ua', uc', he, hit, hb⟩
        rw [← HZL.out] at he
        subst he
        have HSU := Lib.hid (fun W hW => same_any ua ua' zs zs uc uc' W ((HZ4.out.ahead hb).ahead hW) (hit.ahead hW) (by have := HRB.out; omega) (by have := HRB.out; omega))
        have t1 : decide (zs = zs) = true := by simp
        rw [t1, ← HZL.out] at HSU
        have HB35 := Lib.hid (bt HB34.out hb)
        have HB6 := Lib.hid (bt HB5.out hb)
        have HC5 := Lib.hid (HE1.out u5 HB35.out)
        have hee : (ek == ek) = true := by simp
        clear hit hb HC4 HU2 t1 HE1 HB34 HZ4
        go_wp2_with fail
        (with_reducible refine (HC5.out).mono ?_)
        rintro e u6 ⟨rfl, hb⟩
        have HC6 := Lib.hid (HE2.out u6 (bt HB35.out hb))
        have HB7 := Lib.hid (bt HB6.out hb)
        have HB57 := Lib.hid hb
        clear hb HC5 HE2 HB35
        go_wp2_with fail
        (with_reducible refine (HC6.out).mono ?_)
        rintro e u7 ⟨rfl, hb⟩
        have HB8 := Lib.hid (bt HB7.out hb)
        have HB58 := Lib.hid (bt HB57.out hb)
        have HC7 := Lib.hid (HK1.out u7 HB8.out)
        clear hb HC6 HK1 HB57
        go_wp2_with fail
        (with_reducible refine (HC7.out).mono ?_)
        rintro e u8 ⟨ka, kc, rfl, hpo⟩
        have HKA := Lib.hid hpo.1
        have hb := hpo.2.2.2
        have HB9 := Lib.hid (bt HB8.out hb)
        have HB59 := Lib.hid (bt HB58.out hb)
        have HC8 := Lib.hid (HK2.out u8 HB9.out)
        rw [← HKN.out]
        clear hpo hb HC7 HK2 HB58
        go_wp2_with fail
        (with_reducible refine (HC8.out).mono ?_)
        rintro e u9 ⟨ka', kc', he, hpo⟩
        rw [← HKN.out] at he
        subst he
        have hb := hpo.2.2.2
        have HB10 := Lib.hid (bt HB9.out hb)
        have HB510 := Lib.hid (bt HB59.out hb)
        have HC9 := Lib.hid (same_any ka ka' K K kc kc' u9 (HKA.out.ahead hb) hpo.1 (by have := HRB.out; omega) (by have := HRB.out; omega))
        have t1 : decide (K = K) = true := by simp
        rw [t1, ← HKN.out] at HC9
        clear hpo hb HC8 HB59 HKA t1
        go_wp2_with fail
        (with_reducible refine (HC9.out).mono ?_)
        rintro e u10 ⟨rfl, hb⟩
        have HB11 := Lib.hid (bt HB10.out hb)
        have HC10 := Lib.hid (HSU.out u10 (bt HB510.out hb))
        clear hb HC9 HSU HB510
        go_wp2_with fail
        (with_reducible refine (HC10.out).mono ?_)
        rintro e u11 ⟨rfl, hb⟩
        have HB12 := Lib.hid (bt HB11.out hb)
        clear hb HC10
        go_wp2_with fail
        (with_reducible refine (HA.out _).mono ?_)
        rintro e u12 ⟨rfl, hb⟩
        have HB13 := Lib.hid (bt HB12.out hb)
        clear hb
        go_wp2_with fail
        go_ret
        exact ⟨rfl, HB13.out⟩

end Go.Proofs.YtlfodnehgedpmaaGreat.poolReach
