/- The walk of the statement PoolUnion. -/
import Derived.Test.YtlfodnehgedpmaaGreatRpK
namespace Go.Proofs.YtlfodnehgedpmaaGreat.poolUnion
open Go.RowKit Go.Shelf
set_option linter.unusedVariables false

theorem bt {a b c : World} (h1 : Below a.heap.size a b) (h2 : Below b.heap.size b c) : Below a.heap.size a c := h1.trans (h2.mono h1.size)
theorem map_len {o : Option (List Itm)} {x : Itm} {zs : List Itm} {f : Nat} (h : o.map (x :: ·) = some zs) (hf : ∀ z, o = some z → z.length ≤ f) : zs.length ≤ f + 1 := by
  cases o with
  | none => cases h
  | some z => cases h; have := hf z rfl; simp; omega
theorem uniF_len : ∀ (f : Nat) (xs ys zs : List Itm), uniF f xs ys = some zs → zs.length ≤ f
  | 0, xs, ys, zs, h => by rw [uniF] at h; cases h; simp
  | f + 1, [], [], zs, h => by rw [uniF] at h; cases h; simp
  | f + 1, [], y :: ys, zs, h => by rw [uniF] at h; exact map_len h (fun z hz => uniF_len f _ _ z hz)
  | f + 1, x :: xs, [], zs, h => by rw [uniF] at h; exact map_len h (fun z hz => uniF_len f _ _ z hz)
  | f + 1, x :: xs, y :: ys, zs, h => by
    rw [uniF] at h
    split at h
    · split at h
      · exact map_len h (fun z hz => uniF_len f _ _ z hz)
      · cases h
    · split at h
      · exact map_len h (fun z hz => uniF_len f _ _ z hz)
      · exact map_len h (fun z hz => uniF_len f _ _ z hz)
theorem uniS_len (xs ys : List Itm) : (uniS xs ys).1.length ≤ xs.length + ys.length := by
  unfold uniS
  cases h : uniF (xs.length + ys.length) xs ys with
  | none => simp [uniO]
  | some zs => exact uniF_len _ _ _ _ h
/-- What the union of two valid pools is. -/
structure ULaw (zs : List Itm) (e : Int) : Prop where
  len : zs.length ≤ 100
  dat : ∀ z ∈ zs, z.data.length ≤ 500
  bad : (zs = [] ∧ e = 16) ∨ (e = 0 ∧ checkP zs = 0)
theorem law {xs ys : List Itm} (hx : fineB xs = true) (hy : fineB ys = true) : ULaw (uniS xs ys).1 (uniS xs ys).2 := by
  obtain ⟨x1, x2, x3, x4, x5⟩ := fineB_true hx
  obtain ⟨y1, y2, y3, y4, y5⟩ := fineB_true hy
  have hlen := uniS_len xs ys
  rcases uniS_law x4 y4 with ⟨h1, _⟩ | ⟨zs, h1, h2⟩
  · rw [h1]; exact ⟨by simp, by simp, .inl ⟨rfl, rfl⟩⟩
  · rw [h1] at hlen ⊢
    refine ⟨by simp only at hlen ⊢; omega, fun z hz => ?_, .inr ⟨rfl, chkGo_of (fun z hz => ?_) h2.asc (by simp)⟩⟩
    · rcases (h2.mem z).1 hz with h | h
      · exact x2 z h
      · exact y2 z h
    · rcases (h2.mem z).1 hz with h | h
      · exact x5 z h
      · exact y5 z h
theorem restS_take (xs : List Itm) (l : List (Int × Int)) (k : Nat) (h : k < xs.length) : restS (xs.take (k + 1)) l = restS (xs.take k) l ++ (if decide (xs[k].d ∈ l) = true then [] else [xs[k].d]) := by
  unfold restS
  rw [List.take_succ_eq_append_getElem h, List.filter_append, List.map_append]
  congr 1
  by_cases hd : xs[k].d ∈ l
  · simp [hd]
  · simp [hd]

set_option maxRecDepth 100000 in
set_option maxHeartbeats 8000000 in
theorem walk (a : Option Addr) (xs : List Itm) (c : Nat) (b : Option Addr) (ys : List Itm) (c' : Nat) (la : Option Addr) (l : List (Int × Int)) (lc : Nat) (w : World) (hp : PoolCame w a xs c) (hq : PoolCame w b ys c') (hl : Digs w.heap.size w la l) (hlc : l.length ≤ lc ∧ lc ≤ maxLen) (hlo : ∀ d ∈ l, OkD d) :
    Calls Tryz.prog 9 #[.slice a xs.length c, .slice b ys.length c', .slice la l.length lc] w fun e w' => e = .returned (.bool true) ∧ Below w.heap.size w w' := by
  have hml := hp.cap
  have hml2 := hq.cap
  unfold maxLen at hml hml2 hlc
  have HFN := Lib.hid (fun W (hW : Below w.heap.size w W) => fine_any a xs c W (hp.its.ahead hW) (by omega) (fun x hx => by have := (hp.dat x hx).2; unfold maxLen at this; omega))
  have HFQ := Lib.hid (fun W (hW : Below w.heap.size w W) => fine_any b ys c' W (hq.its.ahead hW) (by omega) (fun x hx => by have := (hq.dat x hx).2; unfold maxLen at this; omega))
  have HA := Lib.hid (fun W => awake_any W)
  have HX := Lib.hid hp.its
  have HY := Lib.hid hq.its
  have HLD := Lib.hid hl
  have HLO := Lib.hid hlo
  have HXO := Lib.hid (fun x hx => (hp.dat x hx).1)
  have HCA := Lib.hid hp.cap.1
  clear hp hq hl hlo
  have HF0 := Lib.hid (HFN.out w (Below.refl _ _))
  clear HFN
  obtain ⟨n, hn⟩ : ∃ n, n = xs.length := ⟨_, rfl⟩
  obtain ⟨m, hm⟩ : ∃ m, m = ys.length := ⟨_, rfl⟩
  obtain ⟨ll, hll⟩ : ∃ ll, ll = l.length := ⟨_, rfl⟩
  have HN := Lib.hid hn
  have HM := Lib.hid hm
  have HLL := Lib.hid hll
  cases hg : fineB xs with
  | false =>
    rw [hg] at HF0
    rw [← hn] at HF0
    rw [← hn, ← hm, ← hll]
    clear hg hn hm hll
    go_enter Tryz.func9, Tryz.ntmps9
    go_wp2_with fail
    (with_reducible refine (HF0.out).mono ?_)
    rintro e u ⟨rfl, hb⟩
    have HB1 := Lib.hid hb
    clear hb
    go_wp2_with fail
    (with_reducible refine (HA.out _).mono ?_)
    rintro e u2 ⟨rfl, hb⟩
    have HB2 := Lib.hid (bt HB1.out hb)
    clear hb
    go_wp2_with fail
    go_ret
    exact ⟨rfl, HB2.out⟩
  | true =>
    rw [hg] at HF0
    cases hg2 : fineB ys with
    | false =>
      rw [hg2] at HFQ
      rw [← hn] at HF0
      rw [← hm] at HFQ
      rw [← hn, ← hm, ← hll]
      clear hg hg2 hn hm hll
      go_enter Tryz.func9, Tryz.ntmps9
      go_wp2_with fail
      (with_reducible refine (HF0.out).mono ?_)
      rintro e u ⟨rfl, hb⟩
      have HB1 := Lib.hid hb
      clear hb
      go_wp2_with fail
      (with_reducible refine (HFQ.out _ HB1.out).mono ?_)
      rintro e u1 ⟨rfl, hb⟩
      have HB2 := Lib.hid (bt HB1.out hb)
      clear hb
      go_wp2_with fail
      (with_reducible refine (HA.out _).mono ?_)
      rintro e u2 ⟨rfl, hb⟩
      have HB3 := Lib.hid (bt HB2.out hb)
      clear hb
      go_wp2_with fail
      go_ret
      exact ⟨rfl, HB3.out⟩
    | true =>
      rw [hg2] at HFQ
      by_cases h40 : (40 : Int) < ll
      · have d40 : decide ((40 : Int) < (ll : Int)) = true := by simpa using h40
        rw [← hn] at HF0
        rw [← hm] at HFQ
        rw [← hn, ← hm, ← hll]
        clear hg hg2 hn hm hll
        go_enter Tryz.func9, Tryz.ntmps9
        go_wp2_with fail
        (with_reducible refine (HF0.out).mono ?_)
        rintro e u ⟨rfl, hb⟩
        have HB1 := Lib.hid hb
        clear hb
        go_wp2_with fail
        (with_reducible refine (HFQ.out _ HB1.out).mono ?_)
        rintro e u1 ⟨rfl, hb⟩
        have HB2 := Lib.hid (bt HB1.out hb)
        clear hb
        go_wp2_with fail
        (with_reducible refine (HA.out _).mono ?_)
        rintro e u2 ⟨rfl, hb⟩
        have HB3 := Lib.hid (bt HB2.out hb)
        clear hb
        go_wp2_with fail
        go_ret
        exact ⟨rfl, HB3.out⟩
      · have d40 : decide ((40 : Int) < (ll : Int)) = false := by simpa using h40
        obtain ⟨x1, x2, x3, x4, x5⟩ := fineB_true hg
        obtain ⟨y1, y2, y3, y4, y5⟩ := fineB_true hg2
        have HUL := Lib.hid (law hg hg2)
        have HAX := Lib.hid x4
        have HU1 := Lib.hid (fun W (hW : Below w.heap.size w W) => union_any a b xs ys c c' W (HX.out.ahead hW) (HY.out.ahead hW) (by omega) (by omega))
        have HU2 := Lib.hid (fun W (hW : Below w.heap.size w W) => union_any b a ys xs c' c W (HY.out.ahead hW) (HX.out.ahead hW) (by omega) (by omega))
        rw [uniS_comm y4 x4] at HU2
        have HKP := Lib.hid (fun sa rs sc W (hW : Below w.heap.size w W) (h1 : Digs W.heap.size W sa rs) (h2 : ∀ d ∈ rs, OkD d) (h3 : (rs.length : Int) ≤ 1000000) => keep_any a xs c sa rs sc W ⟨HX.out.ahead hW, HCA.out, by omega, fun x hx => by have := x2 x hx; omega⟩ h1 h2 HXO.out h3)
        have HKU := Lib.hid (keep_union x4 l)
        have HK1 : Hid ((keepS xs l).length ≤ 40) := Lib.hid (Nat.le_trans (List.length_filter_le _ _) x1)
        have HK2 : Hid ((keepS xs (restS xs l)).length ≤ 40) := Lib.hid (Nat.le_trans (List.length_filter_le _ _) x1)
        have HRO : Hid (∀ d ∈ restS xs l, OkD d) := Lib.hid (fun d hd => by
          unfold restS at hd
          obtain ⟨y, hy, rfl⟩ := List.mem_map.1 hd
          exact HXO.out y (List.mem_filter.1 hy).1)
        have hn40 : n ≤ 40 := by omega
        generalize uniS xs ys = U at HU1 HU2 HUL
        obtain ⟨zs, ek⟩ := U
        simp only at HU1 HU2 HUL
        have HCT := Lib.hid (fun x y W (hW : Below w.heap.size w W) => containsD_any la l lc x y W ((HLD.out.below hW (Nat.le_refl _)).mono hW.size) (by omega))
        rw [← hn] at HF0 HU1 HU2 HKP
        rw [← hm] at HFQ HU1 HU2
        have HKP1 := Lib.hid (fun W hW h3 => HKP.out la l lc W hW ((HLD.out.below hW (Nat.le_refl _)).mono hW.size) HLO.out h3)
        rw [← hll] at HCT HKP1
        rw [← hn, ← hm, ← hll]
        clear hg hg2 hn hm hll x1 x2 x3 x4 x5 y1 y2 y3 y4 y5
        obtain ⟨zl, hzl⟩ : ∃ zl, zl = zs.length := ⟨_, rfl⟩
        have HZL := Lib.hid hzl
        go_enter Tryz.func9, Tryz.ntmps9
        go_wp2_with fail
        (with_reducible refine (HF0.out).mono ?_)
        rintro e u ⟨rfl, hb⟩
        have HB1 := Lib.hid hb
        clear hb
        go_wp2_with fail
        (with_reducible refine (HFQ.out _ HB1.out).mono ?_)
        rintro e u1 ⟨rfl, hb⟩
        have HB2 := Lib.hid (bt HB1.out hb)
        clear hb
        have HC1 := Lib.hid (HU1.out u1 HB2.out)
        go_wp2_with fail
        (with_reducible refine (HC1.out).mono ?_)
        rintro e u2 ⟨ra, rc, rfl, hpo⟩
        have HI2 := Lib.hid hpo.1
        have HRC := Lib.hid hpo.2.1
        have HB3 := Lib.hid (bt HB2.out hpo.2.2.2)
        clear hpo HC1 HU1
        have HC2 := Lib.hid (HU2.out u2 HB3.out)
        simp only
        rw [← hzl]
        clear hzl
        go_wp2_with fail
        (with_reducible refine (HC2.out).mono ?_)
        rintro e u3 ⟨rb, rd, he, hpo⟩
        simp only at he
        rw [← HZL.out] at he
        subst he
        have HI3 := Lib.hid (HI2.out.ahead hpo.2.2.2)
        have HJ3 := Lib.hid hpo.1
        have HB4 := Lib.hid (bt HB3.out hpo.2.2.2)
        clear hpo HC2 HU2
        go_wp2_with fail
        go_loopw [11, 44] (fun v iv wr => ∃ (k : Nat) (u : Value) (rs : List (Int × Int)), k ≤ n ∧ iv = .int .i64 k ∧ v = u ∧ rs.length ≤ k ∧ Hid (rs = restS (xs.take k) l) ∧ Hid (wr.ownsRow u3.heap.size 26 2 u rs.length (dcells rs)) ∧ Hid (Below u3.heap.size u3 wr)) (fun _ iv _ => n - (intOf iv).toNat)
        case atStart => exact ⟨0, _, [], by omega, rfl, rfl, by simp, Lib.hid rfl, Lib.hid (World.ownsRow_nil _ _ _ _), Lib.hid (Below.refl _ _)⟩
        case round =>
          obtain ⟨k, v, rs, hk, rfl, rfl, hrl, HRS, HO, HB⟩ := hrel
          have HBW := Lib.hid (bt HB4.out HB.out)
          by_cases hlt : k < n
          · have h1 : k < xs.length := by rw [← HN.out]; exact hlt
            obtain ⟨b0, o0, haa, hb0, q0, q1, q2⟩ := (HX.out.ahead HBW.out) k h1
            subst haa
            have HTK := Lib.hid (restS_take xs l k h1)
            generalize xs[k] = it at q0 q1 q2 HTK
            obtain ⟨⟨x1, x2⟩, dt⟩ := it
            simp only at q0 q1 q2 HTK
            obtain ⟨t, ht⟩ : ∃ t, t = wr.alloc (.cells #[.int .u64 x1, .int .u64 x2, .string ⟨dt.toArray⟩] 59) := ⟨_, rfl⟩
            have hst : Below wr.heap.size wr t := by rw [ht]; exact (Below.refl _ _).alloc (Nat.le_refl _) _
            have HBT := Lib.hid (bt HB.out hst)
            have HOT := Lib.hid (own_below HO.out hst)
            have HKT : Hid (BK wr.heap.size #[.int .u64 x1, .int .u64 x2, .string ⟨dt.toArray⟩] 59 t) := Lib.hid (by rw [ht]; exact BK.new _ _ _)
            have HC1 := Lib.hid (HCT.out x1 x2 t (bt HB4.out HBT.out))
            rw [ht] at HC1
            have HT := Lib.hid ht
            clear ht hst
            cases hmm : decide ((x1, x2) ∈ l) with
            | true =>
              rw [hmm] at HC1 HTK
              have HRS2 : Hid (rs = restS (xs.take (k + 1)) l) := Lib.hid (by rw [HRS.out, HTK.out]; simp)
              clear HTK hmm
              go_wp2_with fail
              (with_reducible refine (HC1.out).mono ?_)
              rintro e t2 ⟨rfl, hs⟩
              rw [← HT.out] at hs
              have HB2' := Lib.hid (bt HBT.out hs)
              have HO2 := Lib.hid (own_below HOT.out hs)
              clear hs HC1
              go_wp2_with fail
              go_roundw
              case rel => exact ⟨k + 1, _, rs, by omega, by go_num, rfl, by omega, HRS2, HO2, HB2'⟩
              case measure => simp [intOf] <;> omega
            | false =>
              rw [hmm] at HC1 HTK
              have HRS2 : Hid (rs ++ [(x1, x2)] = restS (xs.take (k + 1)) l) := Lib.hid (by rw [HRS.out, HTK.out]; simp)
              clear HTK hmm
              go_wp2_with fail
              (with_reducible refine (HC1.out).mono ?_)
              rintro e t2 ⟨rfl, hs⟩
              rw [← HT.out] at hs
              have HB2' := Lib.hid (bt HBT.out hs)
              have HO2 := Lib.hid (own_below HOT.out hs)
              have HK2' := Lib.hid (HKT.out.below hs)
              clear hs HC1 HOT HBT HKT
              have e0 : t2.cell? ⟨wr.heap.size, 0, none⟩ = some (.int .u64 x1) := by rw [HK2'.out.cell]; rfl
              have e1 : t2.cell? ⟨wr.heap.size, 1, none⟩ = some (.int .u64 x2) := by rw [HK2'.out.cell]; rfl
              have e2 : t2.cell? ⟨wr.heap.size, 2, none⟩ = some (.string ⟨dt.toArray⟩) := by rw [HK2'.out.cell]; rfl
              obtain ⟨v', z, hrun, hown, hgr, _⟩ := append_one HO2.out x1 x2 (by omega) HB2'.out.size
              have HBZ : Hid (Below u3.heap.size u3 z) := Lib.hid (below_own (HB2'.out.alloc HB2'.out.size _) (HO2.out.alloc _) hgr (Nat.le_refl _))
              have HK3 : Hid ((rs ++ [(x1, x2)]).length = rs.length + 1) := Lib.hid (by rw [List.length_append]; rfl)
              have hl2 : (rs ++ [(x1, x2)]).length ≤ k + 1 := by rw [HK3.out]; omega
              have HOZ := Lib.hid hown
              have HRUN := Lib.hid hrun
              clear hrun hown hgr HK3 HO2 HB2'
              go_wp2_with (at_builtin; refine Lib.wpList_append_run _ rfl _ _ _ _ rfl _ _ rfl rfl _ _ HRUN.out ?_)
              go_roundw
              case rel => exact ⟨k + 1, v', _, by omega, by go_num, rfl, hl2, HRS2, HOZ, HBZ⟩
              case measure => simp [intOf] <;> omega
          · have HRF : Hid (rs = restS xs l) := Lib.hid (by rw [HRS.out, List.take_of_length_le (by rw [← HN.out]; omega)])
            have HR40 : Hid (rs.length ≤ 40) := Lib.hid (by omega)
            obtain ⟨sa, sc, rfl, hsc⟩ := ownsRow_sliceN HO.out
            have HDG := Lib.hid (ownsRow_digs HO.out)
            have HOKS : Hid (∀ d ∈ rs, OkD d) := Lib.hid (by rw [HRF.out]; exact HRO.out)
            have HKU2 : Hid (uniS (keepS xs l) (keepS xs rs) = (xs, 0)) := Lib.hid (by rw [HRF.out]; exact HKU.out)
            have HK2' : Hid ((keepS xs rs).length ≤ 40) := Lib.hid (by rw [HRF.out]; exact HK2.out)
            have HC1 := Lib.hid (HKP1.out wr HBW.out (by omega))
            clear HKP1 HKU HK2 HRO HRS HRF HO hsc HCT
            generalize keepS xs l = K1 at HK1 HKU2 HC1
            obtain ⟨k1, hk1⟩ : ∃ k1, k1 = K1.length := ⟨_, rfl⟩
            have HK1L := Lib.hid hk1
            have HR := Lib.hid (rfl : rs.length = rs.length)
            obtain ⟨rl, hrll⟩ : ∃ rl, rl = rs.length := ⟨_, rfl⟩
            have HRL := Lib.hid hrll
            rw [← hrll]
            clear hk1 hrll hrl
            go_wp2_with fail
            (with_reducible refine (HC1.out).mono ?_)
            rintro e v1 ⟨ka, kc, rfl, hpo⟩
            have HKA := Lib.hid hpo.1
            have HB5 := Lib.hid (bt HBW.out hpo.2.2.2)
            have HB35 := Lib.hid (bt HB.out hpo.2.2.2)
            have HDG5 := Lib.hid ((HDG.out.below hpo.2.2.2 (Nat.le_refl _)).mono hpo.2.2.2.size)
            have HC2 := Lib.hid (HKP.out sa rs sc v1 HB5.out HDG5.out HOKS.out (by have := HR40.out; omega))
            rw [← HRL.out] at HC2
            rw [← HK1L.out]
            clear hpo HC1 HKP HDG HDG5 HOKS
            generalize keepS xs rs = K2 at HK2' HKU2 HC2
            obtain ⟨k2, hk2⟩ : ∃ k2, k2 = K2.length := ⟨_, rfl⟩
            have HK2L := Lib.hid hk2
            clear hk2
            go_wp2_with fail
            (with_reducible refine (HC2.out).mono ?_)
            rintro e v2 ⟨kb, kd, rfl, hpo⟩
            have HB6 := Lib.hid (bt HB5.out hpo.2.2.2)
            have HB36 := Lib.hid (bt HB35.out hpo.2.2.2)
            have HC3 := Lib.hid (union_any ka kb K1 K2 kc kd v2 (HKA.out.ahead hpo.2.2.2) hpo.1 (by have := HK1.out; omega) (by have := HK2'.out; omega))
            rw [HKU2.out, ← HK1L.out, ← HK2L.out] at HC3
            rw [← HK2L.out]
            clear hpo HC2 HKA HKU2 HK1 HK2'
            go_wp2_with fail
            (with_reducible refine (HC3.out).mono ?_)
            rintro e v3 ⟨ua, uc, rfl, hpo⟩
            have HUA := Lib.hid hpo.1
            have HB7 := Lib.hid (bt HB6.out hpo.2.2.2)
            have HB37 := Lib.hid (bt HB36.out hpo.2.2.2)
            clear hpo HC3
            simp only
            simp only at HUA
            have HS1 := Lib.hid (fun W (hW : Below w.heap.size w W) (hW2 : Below u3.heap.size u3 W) => same_any ra rb zs zs rc rd W (HI3.out.ahead hW2) (HJ3.out.ahead hW2) (by have := HUL.out.len; omega) (by have := HUL.out.len; omega))
            have HS2 := Lib.hid (fun W (hW : Below w.heap.size w W) (hW2 : Below v3.heap.size v3 W) => same_any ua a xs xs uc c W (HUA.out.ahead hW2) (HX.out.ahead hW) (by have := HN.out; omega) (by have := HN.out; omega))
            have HPC := Lib.hid (fun W (hW : Below u3.heap.size u3 W) => pcheck_any ra zs rc W ⟨HI3.out.ahead hW, HRC.out, by have := HUL.out.len; omega, fun x hx => by have := HUL.out.dat x hx; omega⟩)
            rw [← HZL.out] at HS1 HPC
            rw [← HN.out] at HS2 ⊢
            have hzz : decide (zs = zs) = true := by simp
            have hxx : decide (xs = xs) = true := by simp
            rw [hzz] at HS1
            rw [hxx] at HS2
            have hee : (ek == ek) = true := by simp
            rcases HUL.out.bad with ⟨hz, rfl⟩ | ⟨rfl, hck⟩
            · clear HPC HUL hz hzz hxx
              go_wp2_with fail
              (with_reducible refine (HS1.out _ HB7.out HB37.out).mono ?_)
              rintro e v4 ⟨rfl, hs⟩
              have HC4 := Lib.hid (HS2.out v4 (bt HB7.out hs) hs)
              have HB8 := Lib.hid (bt HB7.out hs)
              clear HS1 hs HS2
              go_wp2_with fail
              (with_reducible refine (HC4.out).mono ?_)
              rintro e v5 ⟨rfl, hs⟩
              have HB9 := Lib.hid (bt HB8.out hs)
              clear HC4 hs
              go_wp2_with fail
              (with_reducible refine (HA.out _).mono ?_)
              rintro e v6 ⟨rfl, hs⟩
              have HB10 := Lib.hid (bt HB9.out hs)
              clear hs
              go_wp2_with fail
              go_ret
              exact ⟨rfl, HB10.out⟩
            · rw [hck] at HPC
              clear HUL hck hzz hxx
              go_wp2_with fail
              (with_reducible refine (HS1.out _ HB7.out HB37.out).mono ?_)
              rintro e v4 ⟨rfl, hs⟩
              have HC4 := Lib.hid (HS2.out v4 (bt HB7.out hs) hs)
              have HB8 := Lib.hid (bt HB7.out hs)
              have HB38 := Lib.hid (bt HB37.out hs)
              clear HS1 hs HS2
              go_wp2_with fail
              (with_reducible refine (HC4.out).mono ?_)
              rintro e v5 ⟨rfl, hs⟩
              have HB9 := Lib.hid (bt HB8.out hs)
              have HC5 := Lib.hid (HPC.out v5 (bt HB38.out hs))
              clear HC4 hs HPC
              go_wp2_with fail
              (with_reducible refine (HC5.out).mono ?_)
              rintro e v6 ⟨rfl, hs⟩
              have HB10 := Lib.hid (bt HB9.out hs)
              clear HC5 hs
              go_wp2_with fail
              (with_reducible refine (HA.out _).mono ?_)
              rintro e v7 ⟨rfl, hs⟩
              have HB11 := Lib.hid (bt HB10.out hs)
              clear hs
              go_wp2_with fail
              go_ret
              exact ⟨rfl, HB11.out⟩

end Go.Proofs.YtlfodnehgedpmaaGreat.poolUnion
