/- The walk of the statement HistoryGrowth. -/
import Derived.Test.YtgdhkcocdmdoaaaGreatHiGp
namespace Go.Proofs.YtgdhkcocdmdoaaaGreat.historyGrowth
open Go.RowKit Go.Shelf
set_option linter.unusedVariables false

def newO (ps : List (Int × Int)) : Ob := ⟨3, [], [], (7, 7), ps, [110, 101, 119], 77, []⟩
theorem put_len {xs : List Itm} {o : Ob} (h : ∀ x ∈ xs, (x.data.length : Int) ≤ 65536) (ha : Asc xs) : ∀ x ∈ (putS xs o).1, (x.data.length : Int) ≤ 65536 := by
  cases hP : putS xs o with | mk ys r =>
  obtain ⟨d, er⟩ := r
  by_cases he : er = 0
  · subst he
    obtain ⟨T, hT, _, _, hm, _⟩ := put_ok ha hP
    intro x hx
    rcases (hm x).1 hx with h1 | rfl
    · exact h x h1
    · have := encodeS_len o
      rw [hT] at this
      simp only at this ⊢
      omega
  · intro x hx
    unfold putS at hP
    split at hP
    · cases hP; simp at hx
    · split at hP
      · cases hP; simp at hx
      · cases hP; exact absurd rfl he
theorem put_size {xs : List Itm} {o : Ob} (ha : Asc xs) : (putS xs o).1.length ≤ xs.length + 1 := by
  cases hP : putS xs o with | mk ys r =>
  obtain ⟨d, er⟩ := r
  by_cases he : er = 0
  · subst he
    obtain ⟨T, hT, _, _, hm, h⟩ := put_ok ha hP
    exact h
  · unfold putS at hP
    split at hP
    · cases hP; simp
    · split at hP
      · cases hP; simp
      · cases hP; exact absurd rfl he
theorem anc_len {xs : List Itm} (hv : HV xs) {hs : List (Int × Int)} (hok : ∀ d ∈ hs, OkD d) : (ancS xs hs).1.length ≤ 40 := by
  have := hv.le
  unfold ancS
  by_cases h : (visS xs hs []).2 = 0
  · rw [if_neg (by simpa using h)]
    have := (vis_facts h hok).le
    rw [show (sortH (depS xs) (visS xs hs []).1, (0 : Int)).1.length = (visS xs hs []).1.length from (sortH_perm _ _).length_eq]
    omega
  · rw [if_pos h]; simp
theorem digs_tail {B : Nat} {W : World} {b off : Nat} {d : Int × Int} {l : List (Int × Int)} (h : Digs B W (some ⟨b, off, none⟩) (d :: l)) : Digs B W (some ⟨b, off + 2, none⟩) l := by
  intro i hi
  obtain ⟨b', off', e, h1, h2, h3⟩ := h (i + 1) (by simpa using hi)
  cases e
  refine ⟨b, off + 2, rfl, h1, ?_, ?_⟩
  · rw [show off + 2 + i * 2 = off + (i + 1) * 2 by omega]; exact h2
  · rw [show off + 2 + i * 2 + 1 = off + (i + 1) * 2 + 1 by omega]; exact h3

set_option maxRecDepth 100000 in
set_option maxHeartbeats 8000000 in
theorem walk (a : Option Addr) (xs : List Itm) (c : Nat) (pa : Option Addr) (ps : List (Int × Int)) (pc : Nat) (x y : Int) (w : World) (hp : PoolCame w a xs c) (hh : Digs w.heap.size w pa ps) (hhc : ps.length ≤ pc ∧ pc ≤ maxLen) (hho : ∀ d ∈ ps, OkD d) (h1 : OkD (x, y)) :
    Calls Tryz.prog 6 #[.slice a xs.length c, .slice pa ps.length pc, .agg #[.int .u64 x, .int .u64 y]] w fun e w' => e = .returned (.bool true) ∧ Below w.heap.size w w' := by
  have hml := hp.cap
  unfold maxLen at hml hhc
  have hcap : xs.length ≤ c := by omega
  obtain ⟨w0, hw0⟩ : ∃ w0, w0 = w.alloc (.cells #[.int .u64 x, .int .u64 y] 32) := ⟨_, rfl⟩
  have hb0 : Below w.heap.size w w0 := by rw [hw0]; exact (Below.refl _ w).alloc (Nat.le_refl _) _
  have HVA := Lib.hid (valid13_any a xs c w0 (hp.its.ahead hb0) (by omega) (fun x hx => by have := (hp.dat x hx).2; unfold maxLen at this; omega))
  have HAW := Lib.hid awake13_any
  have HK0 : Hid (BK w.heap.size #[.int .u64 x, .int .u64 y] 32 w0) := Lib.hid (by rw [hw0]; exact BK.new _ _ _)
  have HB0 := Lib.hid hb0
  have HIT := Lib.hid hp.its
  have HPS := Lib.hid hh
  have HPO := Lib.hid hho
  rw [hw0] at HVA
  have HW0 := Lib.hid hw0
  obtain ⟨np, hnp⟩ : ∃ n, n = ps.length := ⟨_, rfl⟩
  have HNP := Lib.hid hnp
  have hnpl : (np : Int) ≤ 9223372036854775807 := by omega
  have HCP : Hid (ps.length ≤ pc) := Lib.hid hhc.1
  clear hw0 hb0 hp hml hh hho hhc
  cases hv : validS xs with
  | false =>
    rw [hv] at HVA
    rw [← hnp]
    clear hv hcap h1 HIT HK0 hnp
    generalize xs.length = n at HVA ⊢
    go_enter Tryz.func6, Tryz.ntmps6
    go_wp2_with fail
    (with_reducible refine (HVA.out).mono ?_)
    rintro e u ⟨rfl, hb⟩
    rw [← HW0.out] at hb
    have HB1 := Lib.hid (HB0.out.trans (hb.mono HB0.out.size))
    have HA1 := Lib.hid (HAW.out u)
    clear hb HVA HW0 HB0
    go_wp2_with fail
    (with_reducible refine (HA1.out).mono ?_)
    rintro e u2 ⟨rfl, hb⟩
    have HB2 := Lib.hid (HB1.out.trans (hb.mono HB1.out.size))
    clear hb
    go_wp2_with fail
    go_ret
    exact ⟨rfl, HB2.out⟩
  | true =>
    rw [hv] at HVA
    have hV := validS_true hv
    have hle := hV.le
    by_cases hlen : xs.length ≤ 39 ∧ np ≤ 3
    · have HPI := Lib.hid (fun W (hW : Below w.heap.size w W) => hV.pin (W := W) (a := a) (c := c) (HIT.out.ahead hW) hcap)
      have HAN := Lib.hid (fun W (hW : Below w.heap.size w W) => ancestors_any a xs c pa ps pc W (HPI.out W hW) hV.asc hV.acy (HPS.out.ahead hW) HPO.out (by omega) (by omega))
      have hob : ObB (newO ps) := ⟨by simp [newO], by simp [newO], by simp [newO], by simp [newO]; omega, fun d h => ⟨(HPO.out d h).1.1, (HPO.out d h).2.1⟩, by simp [newO], by simp [newO], by simp [newO], by simp [newO]⟩
      have HPU := Lib.hid (fun W (hW : Below w.heap.size w W) => put_any a xs c (newO ps) none 0 pa pc W (HPI.out W hW) hV.asc (hob.inW (Ents.nil _ _ _) (HPS.out.ahead hW) HCP.out))
      have HGR := Lib.hid (fun ys d (hy : HV ys) hput he hd => growth (xs := xs) (ys := ys) (d := d) (o := newO ps) hV hy (show OkO (newO ps) from ⟨(⟨⟨by decide, by decide⟩, by decide, by decide⟩ : OkD (7, 7)), HPO.out, fun e he => by simp [newO] at he⟩) rfl (ps := ps) rfl HPO.out hput he hd)
      have HDK := Lib.hid (fun d (h : putS xs (newO ps) = ((putS xs (newO ps)).1, d, 0)) => show OkD d by
        obtain ⟨T, _, h2, _⟩ := put_ok hV.asc h
        rw [h2]; exact digS_ok' T)
      have HLN := Lib.hid (put_len (o := newO ps) (fun x hx => by have := hV.dat x hx; omega) hV.asc)
      have HSZ := Lib.hid (put_size (xs := xs) (o := newO ps) hV.asc)
      simp only [Ob.val] at HPU
      generalize putS xs (newO ps) = R at HPU HGR HLN HSZ HDK
      obtain ⟨ys, ⟨d1, d2⟩, er⟩ := R
      simp only [newO, List.length_nil] at HPU HLN HSZ
      have hn39 : (xs.length : Int) ≤ 39 := by omega
      have hn39' : ¬ (39 : Int) < (xs.length : Int) := by omega
      have hnp3 : ¬ (3 : Int) < (np : Int) := by omega
      have g39 : decide ((39 : Int) < (xs.length : Int)) = false := by simp; omega
      have gnp : decide ((3 : Int) < (np : Int)) = false := by simp; omega
      have HER : Hid ((visS xs ps []).2 = (ancS xs ps).2) := Lib.hid (by
        by_cases h : (visS xs ps []).2 = 0
        · rw [ancS_ok h, h]
        · rw [ancS_err h])
      have HGR2 := Lib.hid (fun hy (he : er = 0) (hp : (ancS xs ps).2 = 0) hd => HGR.out ys (d1, d2) hy (by rw [he]) (by rw [HER.out]; exact hp) hd)
      have hl40 := anc_len hV HPO.out
      generalize ancS xs ps = RA at HAN HGR2 HER hl40
      obtain ⟨l, ea⟩ := RA
      rw [← hnp] at HAN HPU ⊢
      generalize xs.length = n at HVA HAN HPU hn39 hn39' g39 HSZ ⊢
      simp only at HGR2 hl40
      have HL40 := Lib.hid hl40
      clear hnp hv hcap hV hle HPI hob HGR HER HIT hl40
      go_enter Tryz.func6, Tryz.ntmps6
      go_wp2_with fail
      (with_reducible refine (HVA.out).mono ?_)
      rintro e u ⟨rfl, hb⟩
      rw [← HW0.out] at hb
      have HB1 := Lib.hid (HB0.out.trans (hb.mono HB0.out.size))
      have HK1 := Lib.hid (HK0.out.below hb)
      have HC1 := Lib.hid (HAN.out u HB1.out)
      clear hb HVA HW0 HB0 HK0 HAN
      go_wp2_with fail
      (with_reducible refine (HC1.out).mono ?_)
      rintro e u2 ⟨la, lc, rfl, hown, hb⟩
      simp only at hown ⊢
      have HB2 := Lib.hid (HB1.out.trans (hb.mono HB1.out.size))
      have HK2 := Lib.hid (HK1.out.below hb)
      have HL2 := Lib.hid (ownsRow_digs hown)
      have HC2 := Lib.hid (HPU.out u2 HB2.out)
      obtain ⟨nl, hnl⟩ : ∃ n, n = l.length := ⟨_, rfl⟩
      rw [← hnl] at ⊢
      have HNL := Lib.hid hnl
      clear hb hown HC1 HB1 HK1 hnl HPU
      go_wp2_with fail
      (with_reducible refine (HC2.out).mono ?_)
      rintro e u3 ⟨ra, rc, rfl, hits, hcap, hfr, hb⟩
      simp only at hits hcap hfr ⊢
      obtain ⟨ny, hny⟩ : ∃ n, n = ys.length := ⟨_, rfl⟩
      have hyl : (ny : Int) ≤ 40 := by have := HSZ.out; omega
      have HITS := Lib.hid hits
      have HCAP : Hid (ys.length ≤ rc) := Lib.hid hcap
      rw [← hny] at ⊢
      have HNY := Lib.hid hny
      obtain ⟨v3, hv3⟩ : ∃ v3, v3 = u3.alloc (.cells #[.int .u64 d1, .int .u64 d2] 32) := ⟨_, rfl⟩
      have hbv : Below u3.heap.size u3 v3 := by rw [hv3]; exact (Below.refl _ _).alloc (Nat.le_refl _) _
      have HB3 := Lib.hid (HB2.out.trans ((hb.trans (hbv.mono hb.size)).mono HB2.out.size))
      have HK3 := Lib.hid (HK2.out.below (hb.trans (hbv.mono hb.size)))
      have HL3 := Lib.hid (HL2.out.ahead (hb.trans (hbv.mono hb.size)))
      have HY3 := Lib.hid (HITS.out.ahead hbv)
      have HD3 : Hid (BK u3.heap.size #[.int .u64 d1, .int .u64 d2] 32 v3) := Lib.hid (by rw [hv3]; exact BK.new _ _ _)
      have HVY := Lib.hid (fun W (hW : Below v3.heap.size v3 W) => valid13_any ra ys rc W (HY3.out.ahead hW) (by have := HNY.out; omega) (fun x hx => by have := HLN.out x hx; omega))
      have e0 : v3.cell? ⟨u3.heap.size, 0, none⟩ = some (.int .u64 d1) := by rw [HD3.out.cell]; rfl
      have e1 : v3.cell? ⟨u3.heap.size, 1, none⟩ = some (.int .u64 d2) := by rw [HD3.out.cell]; rfl
      have HV3 := Lib.hid hv3
      clear hits hcap hfr hb hbv hv3 HC2 HB2 HK2 HL2 hny HITS
      by_cases hea : ea = 0
      · subst hea
        by_cases her : er = 0
        · subst her
          have HDOK := Lib.hid (HDK.out (d1, d2) rfl)
          clear HDK
          have HHS := Lib.hid (fun p r W (hW : Digs W.heap.size W la l) => has13_any la l lc p r W hW (by have := HL40.out; omega))
          rw [← HNL.out] at HHS
          rw [← HNY.out] at HVY
          have HC3 := Lib.hid (HHS.out d1 d2 v3 HL3.out)
          cases hm : decide ((d1, d2) ∈ l) with
          | true =>
            rw [hm] at HC3
            go_upto_region 5 with (fail)
            rw [← HV3.out]
            go_wp2_with fail
            (with_reducible refine (HC3.out).mono ?_)
            rintro e u4 ⟨rfl, hb⟩
            have HB4 := Lib.hid (HB3.out.trans (hb.mono HB3.out.size))
            have HA4 := Lib.hid (HAW.out u4)
            clear hb HC3 e0 e1
            go_wp2_with fail
            (with_reducible refine (HA4.out).mono ?_)
            rintro e u5 ⟨rfl, hb⟩
            have HB5 := Lib.hid (HB4.out.trans (hb.mono HB4.out.size))
            clear hb
            go_wp2_with fail
            go_ret
            exact ⟨rfl, HB5.out⟩
          | false =>
            rw [hm] at HC3
            have HND : Hid ((d1, d2) ∉ l) := Lib.hid (by simpa using hm)
            clear hm
            cases hvy : validS ys with
            | false =>
              rw [hvy] at HVY
              go_upto_region 5 with (fail)
              rw [← HV3.out]
              go_wp2_with fail
              (with_reducible refine (HC3.out).mono ?_)
              rintro e u4 ⟨rfl, hb⟩
              have HB4 := Lib.hid (HB3.out.trans (hb.mono HB3.out.size))
              have HC4 := Lib.hid (HVY.out u4 hb)
              clear hb HC3 e0 e1
              go_wp2_with fail
              (with_reducible refine (HC4.out).mono ?_)
              rintro e u5 ⟨rfl, hb⟩
              have HB5 := Lib.hid (HB4.out.trans (hb.mono HB4.out.size))
              have HA5 := Lib.hid (HAW.out u5)
              clear hb
              go_wp2_with fail
              (with_reducible refine (HA5.out).mono ?_)
              rintro e u6 ⟨rfl, hb⟩
              have HB6 := Lib.hid (HB5.out.trans (hb.mono HB5.out.size))
              clear hb
              go_wp2_with fail
              go_ret
              exact ⟨rfl, HB6.out⟩
            | true =>
              rw [hvy] at HVY
              have hy := validS_true hvy
              have hyle := hy.le
              have HG := Lib.hid (HGR2.out hy rfl rfl HND.out)
              have HPIN := Lib.hid (fun W (hW : Below v3.heap.size v3 W) => hy.pin (W := W) (HY3.out.ahead hW) HCAP.out)
              have okd : OkD (d1, d2) := HDOK.out
              have HAQ := Lib.hid (fun W (hW : Below v3.heap.size v3 W) q' (hk : BK q' #[.int .u64 d1, .int .u64 d2] 32 W) => ancestors_any ra ys rc (some ⟨q', 0, none⟩) [(d1, d2)] 1 W (HPIN.out W hW) hy.asc hy.acy (digs_one hk) (by simp; exact okd) (by omega) (by simp))
              have HDQ := Lib.hid (fun W p r (hW : Below v3.heap.size v3 W) (h : OkD (p, r)) => depth_any ra ys rc p r W (HPIN.out W hW) hy.asc hy.acy h (by omega))
              have HBQ := Lib.hid (fun W p r (hW : Below v3.heap.size v3 W) (h : OkD (p, r)) => bases_any ra ys rc p r d1 d2 W (HPIN.out W hW) hy.asc h okd (by omega))
              have HRQ := Lib.hid (fun W (hW : Below v3.heap.size v3 W) => reaches_any ra ys rc d1 d2 x y W (HPIN.out W hW) hy.asc okd h1 (by omega))
              rw [HG.out.anc] at HAQ
              rw [HG.out.rch] at HRQ
              simp only [List.length_cons, List.length_nil, Nat.zero_add] at HAQ HRQ
              rw [← HNY.out] at HAQ HDQ HBQ HRQ
              clear hvy hy hyle HGR2 HPIN
              obtain ⟨m1, hm1⟩ : ∃ m, m = nl + 1 := ⟨_, rfl⟩
              have hmn : (m1 : Int) = (nl : Int) + 1 := by omega
              have hnl40 : (nl : Int) ≤ 40 := by have := HL40.out; have := HNL.out; omega
              go_upto_region 5 with (fail)
              rw [← HV3.out]
              go_wp2_with fail
              (with_reducible refine (HC3.out).mono ?_)
              rintro e u4 ⟨rfl, hb⟩
              have HB4 := Lib.hid (HB3.out.trans (hb.mono HB3.out.size))
              have HE4 := Lib.hid hb
              have HK4 := Lib.hid (HK3.out.below hb)
              have HL4 := Lib.hid (HL3.out.ahead hb)
              have HD4 := Lib.hid (HD3.out.below hb)
              have HC4 := Lib.hid (HVY.out u4 hb)
              clear hb HC3 e0 e1 HK3 HL3 HD3 HB3 HVY
              go_wp2_with fail
              (with_reducible refine (HC4.out).mono ?_)
              rintro e u5 ⟨rfl, hb⟩
              have HB5 := Lib.hid (HB4.out.trans (hb.mono HB4.out.size))
              have HE5 := Lib.hid (HE4.out.trans (hb.mono HE4.out.size))
              have HK5 := Lib.hid (HK4.out.below hb)
              have HL5 := Lib.hid (HL4.out.ahead hb)
              have HD5 := Lib.hid (HD4.out.below hb)
              clear hb HC4 HB4 HE4 HK4 HL4 HD4
              have e0 : u5.cell? ⟨u3.heap.size, 0, none⟩ = some (.int .u64 d1) := by rw [HD5.out.cell]; rfl
              have e1 : u5.cell? ⟨u3.heap.size, 1, none⟩ = some (.int .u64 d2) := by rw [HD5.out.cell]; rfl
              obtain ⟨v5, hv5⟩ : ∃ v5, v5 = u5.alloc (.cells #[.int .u64 d1, .int .u64 d2] 32) := ⟨_, rfl⟩
              have hbv : Below u5.heap.size u5 v5 := by rw [hv5]; exact (Below.refl _ _).alloc (Nat.le_refl _) _
              have HBv := Lib.hid (HB5.out.trans (hbv.mono HB5.out.size))
              have HEv := Lib.hid (HE5.out.trans (hbv.mono HE5.out.size))
              have HKv := Lib.hid (HK5.out.below hbv)
              have HLv := Lib.hid (HL5.out.ahead hbv)
              have HDv := Lib.hid (HD5.out.below hbv)
              have HC5 := Lib.hid (HAQ.out v5 HEv.out u5.heap.size (by rw [hv5]; exact BK.new _ _ _))
              rw [hv5] at HC5
              have HV5 := Lib.hid hv5
              clear hbv hv5 HAQ HB5 HE5 HK5 HL5 HD5
              go_wp2_with fail
              (with_reducible refine (HC5.out).mono ?_)
              rintro e u6 ⟨ma, mc, rfl, hown, hb⟩
              rw [← HV5.out] at hb
              simp only [List.length_cons] at hown ⊢
              have HB6 := Lib.hid (HBv.out.trans (hb.mono HBv.out.size))
              have HE6 := Lib.hid (HEv.out.trans (hb.mono HEv.out.size))
              have HK6 := Lib.hid (HKv.out.below hb)
              have HL6 := Lib.hid (HLv.out.ahead hb)
              have HD6 := Lib.hid (HDv.out.below hb)
              obtain ⟨ma', mc', hva, hmc⟩ := ownsRow_sliceN hown
              cases hva
              have HM6 := Lib.hid (ownsRow_digs hown)
              obtain ⟨b6, o6, haa, hb6, q0, q1⟩ := HM6.out 0 (by simp)
              cases haa
              simp only [List.getElem_cons_zero, Nat.zero_mul, Nat.add_zero] at q0 q1
              rw [← HNL.out, ← hm1] at hmc ⊢
              clear hb hown HC5 HBv HEv HKv HLv HDv HV5 e0 e1
              obtain ⟨A1, c1, hds, hsl0⟩ := dslice_lo (some ⟨b6, o6, none⟩) m1 mc 1 nl (by omega) hmc (by omega)
              have HMT := Lib.hid (fun W (hW : Below u6.heap.size u6 W) => show Digs W.heap.size W A1 l from hds _ W _ (by simp only [List.length_cons]; have := HNL.out; omega) (HM6.out.ahead hW))
              have HSS := Lib.hid (fun W (hW : Below u6.heap.size u6 W) => same13_any A1 la l l c1 lc W (HMT.out W hW) (HL6.out.ahead hW) (by have := HL40.out; omega))
              rw [decide_eq_true rfl, ← HNL.out] at HSS
              have HRS := Lib.hid (fun d os => Calls.regrown_of (w := u6) (d := d) (os := os) (HSS.out _ (below_regrown u6 d os)))
              have hsl : ∀ W, (Instr.slice 24 (.slice (some ⟨b6, o6, none⟩) m1 mc) (some (.int .i64 1)) none none).run Tryz.prog W = .ok (.slice A1 nl c1) W := hsl0
              have qn := fun W => neq_dig d1 d2 d1 d2 W
              simp only [BEq.rfl, Bool.and_self, Bool.not_true] at qn
              have hwr : IntKind.i64.wrap ((nl : Int) + 1) = (m1 : Int) := by rw [wrap_i64 (by omega) (by omega)]; omega
              have e0 : u6.cell? ⟨u3.heap.size, 0, none⟩ = some (.int .u64 d1) := by rw [HD6.out.cell]; rfl
              have e1 : u6.cell? ⟨u3.heap.size, 1, none⟩ = some (.int .u64 d2) := by rw [HD6.out.cell]; rfl
              have rq0 := cell_regrown q0
              have rq1 := cell_regrown q1
              have re0 := cell_regrown e0
              have re1 := cell_regrown e1
              clear HSS HMT HM6 hm1 hds hsl0
              go_wp2_with fail
              refine wp_region_quiet_below (by kernel_rfl) (by kernel_rfl) ?_
              repeat (any_goals (first | go_big_quiet_step (first | (with_reducible exact HRS.out _ _)) | quiet_step (first | (with_reducible exact HRS.out _ _))))
              refine wpQuiet_nil ?_
              intro w7 hw7
              have hb7 := below_rg hw7
              have HB7 := Lib.hid (HB6.out.trans (hb7.mono HB6.out.size))
              have HE7 := Lib.hid (HE6.out.trans (hb7.mono HE6.out.size))
              have HK7 := Lib.hid (HK6.out.below hb7)
              have HL7 := Lib.hid (HL6.out.ahead hb7)
              have HD7 := Lib.hid (HD6.out.below hb7)
              clear hb7 hw7 HRS hsl qn rq0 rq1 re0 re1 e0 e1 q0 q1 HB6 HE6 HK6 HL6 HD6 hwr hmn hmc
              have e0 : w7.cell? ⟨u3.heap.size, 0, none⟩ = some (.int .u64 d1) := by rw [HD7.out.cell]; rfl
              have e1 : w7.cell? ⟨u3.heap.size, 1, none⟩ = some (.int .u64 d2) := by rw [HD7.out.cell]; rfl
              have HC7 := Lib.hid (HDQ.out w7 d1 d2 HE7.out okd)
              rw [HG.out.dep] at HC7
              have hdd := HG.out.dle
              have HDD := Lib.hid HG.out.eq
              generalize depS ys (d1, d2) = dd at HC7 hdd HDD
              simp only at HC7
              go_wp2_with fail
              (with_reducible refine (HC7.out).mono ?_)
              rintro e u8 ⟨rfl, hb⟩
              have HB8 := Lib.hid (HB7.out.trans (hb.mono HB7.out.size))
              have HE8 := Lib.hid (HE7.out.trans (hb.mono HE7.out.size))
              have HK8 := Lib.hid (HK7.out.below hb)
              have HL8 := Lib.hid (HL7.out.ahead hb)
              have HD8 := Lib.hid (HD7.out.below hb)
              clear hb HC7 HB7 HE7 HK7 HL7 HD7 e0 e1
              go_wp2_with fail
              go_loopw [16, 110] (fun v i wr => ∃ (k M : Nat), k ≤ np ∧ v = .int .i64 ((M : Int) - 1) ∧ M ≤ 41 ∧ Hid (M = ((ps.take k).map fun p => depS ys p + 1).foldl max 0) ∧ i = .int .i64 k ∧ Hid (Below w.heap.size w wr) ∧ Hid (Below v3.heap.size v3 wr) ∧ Hid (BK w.heap.size #[.int .u64 x, .int .u64 y] 32 wr) ∧ Hid (Digs wr.heap.size wr la l) ∧ Hid (BK u3.heap.size #[.int .u64 d1, .int .u64 d2] 32 wr)) (fun _ i _ => np - (intOf i).toNat)
              case atStart => exact ⟨0, 0, by omega, rfl, by omega, Lib.hid (by simp), rfl, HB8, HE8, HK8, HL8, HD8⟩
              case round =>
                clear HB8 HE8 HK8 HL8 HD8
                obtain ⟨k, M, hk, rfl, hM, HM, rfl, HB, HE, HK, HL, HD⟩ := hrel
                by_cases hlt : k < np
                · have h1 : k < ps.length := by have := HNP.out; omega
                  obtain ⟨b0, of0, haa, hb0, q0, q1⟩ := (HPS.out.ahead HB.out) k h1
                  subst haa
                  have hmem := List.getElem_mem h1
                  have okp := HPO.out _ hmem
                  obtain ⟨g1, g2, g3⟩ := HG.out.par _ hmem
                  have HTK : Hid (((ps.take (k + 1)).map fun p => depS ys p + 1).foldl max 0 = max M (depS ys ps[k] + 1)) := Lib.hid (by rw [List.take_succ_eq_append_getElem h1, List.map_append, HM.out]; exact foldl_snoc_max _ _)
                  generalize ps[k] = p at q0 q1 okp g1 g2 g3 HTK hmem
                  obtain ⟨p1, p2⟩ := p
                  simp only at q0 q1
                  obtain ⟨v, hv⟩ : ∃ v, v = wr.alloc (.cells #[.int .u64 p1, .int .u64 p2] 32) := ⟨_, rfl⟩
                  have hbv : Below wr.heap.size wr v := by rw [hv]; exact (Below.refl _ _).alloc (Nat.le_refl _) _
                  have HBv := Lib.hid (HB.out.trans (hbv.mono HB.out.size))
                  have HEv := Lib.hid (HE.out.trans (hbv.mono HE.out.size))
                  have HKv := Lib.hid (HK.out.below hbv)
                  have HLv := Lib.hid (HL.out.ahead hbv)
                  have HDv := Lib.hid (HD.out.below hbv)
                  have HPv : Hid (BK wr.heap.size #[.int .u64 p1, .int .u64 p2] 32 v) := Lib.hid (by rw [hv]; exact BK.new _ _ _)
                  have HC1 := Lib.hid (HDQ.out v p1 p2 HEv.out okp)
                  have HC2 := Lib.hid (fun W hW => HBQ.out W p1 p2 hW okp)
                  rw [g1, hv] at HC1
                  rw [g2] at HC2
                  generalize depS ys (p1, p2) = dp at HC1 HTK g3
                  simp only at HC1
                  have HV := Lib.hid hv
                  have hkn : (k : Int) < (np : Int) := by omega
                  clear hbv hv HB HE HK HL HD g1 g2 hmem
                  go_wp2_with fail
                  (with_reducible refine (HC1.out).mono ?_)
                  rintro e u9 ⟨rfl, hb⟩
                  rw [← HV.out] at hb
                  have HB9 := Lib.hid (HBv.out.trans (hb.mono HBv.out.size))
                  have HE9 := Lib.hid (HEv.out.trans (hb.mono HEv.out.size))
                  have HK9 := Lib.hid (HKv.out.below hb)
                  have HL9 := Lib.hid (HLv.out.ahead hb)
                  have HD9 := Lib.hid (HDv.out.below hb)
                  have HP9 := Lib.hid (HPv.out.below hb)
                  have HC3 := Lib.hid (HC2.out u9 HE9.out)
                  clear hb HC1 HC2 HV HBv HEv HKv HLv HDv HPv q0 q1
                  have e0 : u9.cell? ⟨wr.heap.size, 0, none⟩ = some (.int .u64 p1) := by rw [HP9.out.cell]; rfl
                  have e1 : u9.cell? ⟨wr.heap.size, 1, none⟩ = some (.int .u64 p2) := by rw [HP9.out.cell]; rfl
                  have f0 : u9.cell? ⟨u3.heap.size, 0, none⟩ = some (.int .u64 d1) := by rw [HD9.out.cell]; rfl
                  have f1 : u9.cell? ⟨u3.heap.size, 1, none⟩ = some (.int .u64 d2) := by rw [HD9.out.cell]; rfl
                  go_wp2_with fail
                  (with_reducible refine (HC3.out).mono ?_)
                  rintro e u10 ⟨ba, bc, rfl, hown, hb⟩
                  simp only [List.length_cons, List.length_nil, Nat.zero_add] at hown ⊢
                  have HB10 := Lib.hid (HB9.out.trans (hb.mono HB9.out.size))
                  have HE10 := Lib.hid (HE9.out.trans (hb.mono HE9.out.size))
                  have HK10 := Lib.hid (HK9.out.below hb)
                  have HL10 := Lib.hid (HL9.out.ahead hb)
                  have HD10 := Lib.hid (HD9.out.below hb)
                  have HP10 := Lib.hid (HP9.out.below hb)
                  have HQ10 := Lib.hid (ownsRow_digs hown)
                  clear hb hown HC3 HB9 HE9 HK9 HL9 HD9 HP9 e0 e1 f0 f1
                  have e0 : u10.cell? ⟨wr.heap.size, 0, none⟩ = some (.int .u64 p1) := by rw [HP10.out.cell]; rfl
                  have e1 : u10.cell? ⟨wr.heap.size, 1, none⟩ = some (.int .u64 p2) := by rw [HP10.out.cell]; rfl
                  obtain ⟨v, hv⟩ : ∃ v, v = u10.alloc (.cells #[.int .u64 p1, .int .u64 p2] 32) := ⟨_, rfl⟩
                  have hbv : Below u10.heap.size u10 v := by rw [hv]; exact (Below.refl _ _).alloc (Nat.le_refl _) _
                  have HBv := Lib.hid (HB10.out.trans (hbv.mono HB10.out.size))
                  have HEv := Lib.hid (HE10.out.trans (hbv.mono HE10.out.size))
                  have HKv := Lib.hid (HK10.out.below hbv)
                  have HLv := Lib.hid (HL10.out.ahead hbv)
                  have HDv := Lib.hid (HD10.out.below hbv)
                  have HC4 := Lib.hid (same13_any ba (some ⟨u10.heap.size, 0, none⟩) [(p1, p2)] [(p1, p2)] bc 1 v (HQ10.out.ahead hbv) (digs_one (by rw [hv]; exact BK.new _ _ _)) (by simp))
                  rw [decide_eq_true rfl, hv] at HC4
                  simp only [List.length_cons, List.length_nil, Nat.zero_add] at HC4
                  have HV := Lib.hid hv
                  clear hbv hv HB10 HE10 HK10 HL10 HD10 HP10 HQ10
                  go_wp2_with fail
                  (with_reducible refine (HC4.out).mono ?_)
                  rintro e u11 ⟨rfl, hb⟩
                  rw [← HV.out] at hb
                  have HB11 := Lib.hid (HBv.out.trans (hb.mono HBv.out.size))
                  have HE11 := Lib.hid (HEv.out.trans (hb.mono HEv.out.size))
                  have HK11 := Lib.hid (HKv.out.below hb)
                  have HL11 := Lib.hid (HLv.out.ahead hb)
                  have HD11 := Lib.hid (HDv.out.below hb)
                  clear hb HC4 HV HBv HEv HKv HLv HDv e0 e1
                  by_cases hlt2 : M < dp + 1
                  · have e1 : max M (dp + 1) = dp + 1 := by omega
                    rw [e1] at HTK
                    have hi : (M : Int) - 1 < (dp : Int) := by omega
                    have HM3 := Lib.hid HTK.out.symm
                    clear HTK e1
                    go_wp2_with fail
                    go_roundw
                    case rel => exact ⟨k + 1, dp + 1, by omega, by go_num, by omega, HM3, by go_num, HB11, HE11, HK11, HL11, HD11⟩
                    case measure => simp [intOf] <;> omega
                  · have e1 : max M (dp + 1) = M := by omega
                    rw [e1] at HTK
                    have hi : ¬ (M : Int) - 1 < (dp : Int) := by omega
                    have hmx : max ((M : Int) - 1) (dp : Int) = (M : Int) - 1 := by omega
                    have HM3 := Lib.hid HTK.out.symm
                    clear HTK e1
                    go_wp2_with fail
                    go_roundw
                    case rel => exact ⟨k + 1, M, by omega, rfl, by omega, HM3, by go_num, HB11, HE11, HK11, HL11, HD11⟩
                    case measure => simp [intOf] <;> omega
                · have hkn : ¬ (k : Int) < (np : Int) := by omega
                  have hmd : dd = M := by rw [HDD.out, HM.out, List.take_of_length_le (by have := HNP.out; omega)]
                  subst hmd
                  obtain ⟨x0, hx0⟩ : ∃ x0, x0 = wr := ⟨_, rfl⟩
                  rw [← hx0] at HB HE HK HL HD ⊢
                  have HR1 := Lib.hid (HRQ.out x0 HE.out)
                  have hwr : IntKind.i64.wrap ((dd : Int) - 1 + 1) = (dd : Int) := by rw [wrap_i64 (by omega) (by omega)]; omega
                  have e0 : x0.cell? ⟨u3.heap.size, 0, none⟩ = some (.int .u64 d1) := by rw [HD.out.cell]; rfl
                  have e1 : x0.cell? ⟨u3.heap.size, 1, none⟩ = some (.int .u64 d2) := by rw [HD.out.cell]; rfl
                  have f0 : x0.cell? ⟨w.heap.size, 0, none⟩ = some (.int .u64 x) := by rw [HK.out.cell]; rfl
                  have f1 : x0.cell? ⟨w.heap.size, 1, none⟩ = some (.int .u64 y) := by rw [HK.out.cell]; rfl
                  clear hx0
                  obtain ⟨r, hr⟩ : ∃ r, r = decide ((x, y) = (d1, d2) ∨ (x, y) ∈ l) := ⟨_, rfl⟩
                  rw [← hr] at HR1
                  go_wp2_with fail
                  (with_reducible refine (HR1.out).mono ?_)
                  rintro e u9 ⟨rfl, hb⟩
                  have HB9 := Lib.hid (HB.out.trans (hb.mono HB.out.size))
                  have HK9 := Lib.hid (HK.out.below hb)
                  have HL9 := Lib.hid (HL.out.ahead hb)
                  have HD9 := Lib.hid (HD.out.below hb)
                  clear hb HR1 HB HE HK HL HD e0 e1 f0 f1
                  have e0 : u9.cell? ⟨u3.heap.size, 0, none⟩ = some (.int .u64 d1) := by rw [HD9.out.cell]; rfl
                  have e1 : u9.cell? ⟨u3.heap.size, 1, none⟩ = some (.int .u64 d2) := by rw [HD9.out.cell]; rfl
                  have f0 : u9.cell? ⟨w.heap.size, 0, none⟩ = some (.int .u64 x) := by rw [HK9.out.cell]; rfl
                  have f1 : u9.cell? ⟨w.heap.size, 1, none⟩ = some (.int .u64 y) := by rw [HK9.out.cell]; rfl
                  have re0 := cell_regrown e0
                  have re1 := cell_regrown e1
                  have rf0 := cell_regrown f0
                  have rf1 := cell_regrown f1
                  have qd := fun W => eql_dig x y d1 d2 W
                  have HHC := Lib.hid (fun W (hW : Below u9.heap.size u9 W) => HHS.out x y W (HL9.out.ahead hW))
                  cases hz : (x == d1 && y == d2) with
                  | true =>
                    rw [hz] at qd
                    have hrt : r = true := by
                      rw [hr]; refine decide_eq_true (.inl ?_)
                      simp only [Bool.and_eq_true, beq_iff_eq] at hz
                      rw [hz.1, hz.2]
                    subst hrt
                    have HA9 := Lib.hid (HAW.out u9)
                    clear hz HHC hr re0 re1 rf0 rf1
                    go_wp2_with fail
                    (with_reducible refine (HA9.out).mono ?_)
                    rintro e u10 ⟨rfl, hb⟩
                    have HB10 := Lib.hid (HB9.out.trans (hb.mono HB9.out.size))
                    clear hb
                    go_wp2_with fail
                    go_ret
                    exact ⟨rfl, HB10.out⟩
                  | false =>
                    rw [hz] at qd
                    have hrt : r = decide ((x, y) ∈ l) := by
                      rw [hr]; refine decide_eq_decide.2 ⟨fun h => ?_, .inr⟩
                      rcases h with h | h
                      · rw [Prod.mk.injEq] at h; simp [h.1, h.2] at hz
                      · exact h
                    rw [← hrt] at HHC
                    have HH9 := Lib.hid (HHC.out u9 (Below.refl _ _))
                    clear hz HHC hr hrt re0 re1 rf0 rf1
                    go_wp2_with fail
                    (with_reducible refine (HH9.out).mono ?_)
                    rintro e u10 ⟨rfl, hb⟩
                    have HB10 := Lib.hid (HB9.out.trans (hb.mono HB9.out.size))
                    have HA10 := Lib.hid (HAW.out u10)
                    clear hb
                    cases r
                    all_goals
                      go_wp2_with fail
                      (with_reducible refine (HA10.out).mono ?_)
                      rintro e u11 ⟨rfl, hb⟩
                      have HB11 := Lib.hid (HB10.out.trans (hb.mono HB10.out.size))
                      clear hb
                      go_wp2_with fail
                      go_ret
                      exact ⟨rfl, HB11.out⟩
        · have hee : (er != 0) = true := by simpa using her
          go_upto_region 5 with (fail)
          have HA3 := Lib.hid (HAW.out v3)
          rw [← HV3.out]
          go_wp2_with fail
          (with_reducible refine (HA3.out).mono ?_)
          rintro e u5 ⟨rfl, hb⟩
          have HB5 := Lib.hid (HB3.out.trans (hb.mono HB3.out.size))
          clear hb
          go_wp2_with fail
          go_ret
          exact ⟨rfl, HB5.out⟩
      · have hee : (ea != 0) = true := by simpa using hea
        go_upto_region 5 with (fail)
        have HA3 := Lib.hid (HAW.out v3)
        rw [← HV3.out]
        go_wp2_with fail
        (with_reducible refine (HA3.out).mono ?_)
        rintro e u5 ⟨rfl, hb⟩
        have HB5 := Lib.hid (HB3.out.trans (hb.mono HB3.out.size))
        clear hb
        go_wp2_with fail
        go_ret
        exact ⟨rfl, HB5.out⟩
    · have hor : (39 : Int) < (xs.length : Int) ∨ ((xs.length : Int) ≤ 39 ∧ (3 : Int) < (np : Int)) := by omega
      rw [← hnp]
      clear hnp hv hcap HIT hV h1 HK0 hlen hle
      generalize xs.length = n at HVA hor ⊢
      rcases hor with h3 | ⟨h3, h4⟩
      all_goals
        go_enter Tryz.func6, Tryz.ntmps6
        go_wp2_with fail
        (with_reducible refine (HVA.out).mono ?_)
        rintro e u ⟨rfl, hb⟩
        rw [← HW0.out] at hb
        have HB1 := Lib.hid (HB0.out.trans (hb.mono HB0.out.size))
        have HA1 := Lib.hid (HAW.out u)
        clear hb HVA HW0 HB0
        go_wp2_with fail
        (with_reducible refine (HA1.out).mono ?_)
        rintro e u2 ⟨rfl, hb⟩
        have HB2 := Lib.hid (HB1.out.trans (hb.mono HB1.out.size))
        clear hb
        go_wp2_with fail
        go_ret
        exact ⟨rfl, HB2.out⟩
end Go.Proofs.YtgdhkcocdmdoaaaGreat.historyGrowth
