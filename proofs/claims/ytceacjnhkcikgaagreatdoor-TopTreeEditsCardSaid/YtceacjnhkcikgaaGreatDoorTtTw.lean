/- cordwoodtop.TopTreeEdits: the walk. -/
import Derived.Test.YtceacjnhkcikgaaGreatDoorTtLa
namespace Go.Proofs.YtceacjnhkcikgaaGreatDoor
open Go.RowKit Go.Shelf
set_option linter.unusedVariables false

theorem great_small {l : List Fl} (h : greatF l = false) : l.length ≤ 10 ∧ ∀ x ∈ l, x.path.length ≤ 120 ∧ x.data.length ≤ 200 := by
  unfold greatF at h
  rw [Bool.or_eq_false_iff] at h
  obtain ⟨h1, h2⟩ := h
  refine ⟨by simpa using h1, fun x hx => ?_⟩
  have := List.any_eq_false.1 h2 x hx
  unfold bigF at this
  simp only [Bool.or_eq_true, decide_eq_true_eq, not_or] at this
  omega
theorem long_small {l : List Ed} (h : longE l = false) : l.length ≤ 8 ∧ ∀ x ∈ l, x.path.length ≤ 120 ∧ x.data.length ≤ 200 := by
  unfold longE at h
  rw [Bool.or_eq_false_iff] at h
  obtain ⟨h1, h2⟩ := h
  refine ⟨by simpa using h1, fun x hx => ?_⟩
  have := List.any_eq_false.1 h2 x hx
  unfold bigE at this
  simp only [Bool.or_eq_true, decide_eq_true_eq, not_or] at this
  omega
theorem has_memP {P : List Itm} (ha : Asc P) {y : Itm} (hy : y ∈ P) : hasS P y.d = true := by
  obtain ⟨k, hk, hky⟩ := List.getElem_of_mem hy
  have h := asc_at ha y.d
  have hself : cmpD y.d y.d = 0 := cmpD_self _
  have hkp : k = posI P y.d := by
    rcases Nat.lt_trichotomy k (posI P y.d) with h1 | h1 | h1
    · have h2 := h.lo k hk h1
      rw [hky, hself] at h2
      exact absurd h2 (by decide)
    · exact h1
    · have hp : posI P y.d < P.length := by omega
      have h2 := h.hi _ hp (Nat.le_refl _)
      have h3 := ha _ _ hp hk h1
      rw [hky] at h3
      omega
  unfold hasS hitB
  rw [← hkp, List.getElem?_eq_getElem hk]
  simp [hky]
set_option maxRecDepth 100000 in
set_option maxHeartbeats 16000000 in
theorem tedits_any (la : Option Addr) (l : List Fl) (lc : Nat) (ea : Option Addr) (eds : List Ed) (ec : Nat) (w : World) (hl : Fls w.heap.size w la l) (he : Eds w.heap.size w ea eds) (hn : (l.length : Int) ≤ 9223372036854775807) (hm : (eds.length : Int) ≤ 9223372036854775807) :
    Calls Tryz.prog 3 #[.slice la l.length lc, .slice ea eds.length ec] w fun e w' => e = .returned (.bool true) ∧ Below w.heap.size w w' := by
  have HG := Lib.hid (great09_any la l lc w hl hn)
  have HLO := Lib.hid (long_any ea eds ec w he hm)
  have HEX := Lib.hid (fun W => example_any W)
  have HL := Lib.hid hl
  have HE := Lib.hid he
  have HGS := Lib.hid (@great_small l)
  have HLS := Lib.hid (@long_small eds)
  obtain ⟨nl, hnl⟩ : ∃ k, k = l.length := ⟨_, rfl⟩
  obtain ⟨ne, hne⟩ : ∃ k, k = eds.length := ⟨_, rfl⟩
  rw [← hnl] at HG ⊢
  rw [← hne] at HLO ⊢
  rw [← hnl] at hn
  rw [← hne] at hm
  have HNL := Lib.hid hnl
  have HNE := Lib.hid hne
  clear hl he hnl hne
  cases hg : greatF l with
  | true =>
    rw [hg] at HG
    clear hg HLO HGS HLS
    have HE1 := Lib.hid (HEX.out w)
    go_enter Tryz.func3, Tryz.ntmps3
    go_wp2_with fail
    (with_reducible refine HG.out.mono ?_)
    rintro e u ⟨rfl, rfl⟩
    go_wp2_with fail
    (with_reducible refine HE1.out.mono ?_)
    rintro e u2 ⟨rfl, hb⟩
    go_wp2_with fail
    go_ret
    exact ⟨rfl, hb⟩
  | false =>
    rw [hg] at HG
    cases hlo : longE eds with
    | true =>
      rw [hlo] at HLO
      clear hg hlo HGS HLS
      go_enter Tryz.func3, Tryz.ntmps3
      go_wp2_with fail
      (with_reducible refine HG.out.mono ?_)
      rintro e u ⟨rfl, rfl⟩
      go_wp2_with fail
      (with_reducible refine HLO.out.mono ?_)
      rintro e u ⟨rfl, hb⟩
      have HE1 := Lib.hid (HEX.out u)
      go_wp2_with fail
      (with_reducible refine HE1.out.mono ?_)
      rintro e u2 ⟨rfl, hb2⟩
      go_wp2_with fail
      go_ret
      exact ⟨rfl, hb.trans (hb2.mono hb.size)⟩
    | false =>
      rw [hlo] at HLO
      obtain ⟨gl, gd⟩ := HGS.out hg
      obtain ⟨el, ed⟩ := HLS.out hlo
      have hsz : SzF l := ⟨by omega, fun x hx => by have := (gd x hx).2; omega⟩
      have HST := Lib.hid (fun W (hW : Below w.heap.size w W) => Store_any none [] 0 la l lc W (poolIn_nil W) asc_nil (HL.out.ahead hW) hsz (fun x hx => by have := (gd x hx).1; omega) (by simp))
      have HGD := Lib.hid gd
      have HED := Lib.hid ed
      have HSZ := Lib.hid hsz
      rw [← HNL.out] at HST gl
      rw [← HNE.out] at el
      clear hg hlo HGS HLS hsz gd ed
      obtain ⟨R, hR⟩ : ∃ R, R = storeC [] l := ⟨_, rfl⟩
      rw [← hR] at HST
      have HR := Lib.hid hR
      clear hR
      simp only [List.length_nil] at HST
      go_enter Tryz.func3, Tryz.ntmps3
      go_wp2_with fail
      (with_reducible refine HG.out.mono ?_)
      rintro e u ⟨rfl, rfl⟩
      go_wp2_with fail
      (with_reducible refine HLO.out.mono ?_)
      rintro e u1 ⟨rfl, hb1⟩
      have HS1 := Lib.hid (HST.out u1 hb1)
      have HB1 := Lib.hid hb1
      clear HG HLO HST hb1
      go_wp2_with fail
      (with_reducible refine HS1.out.mono ?_)
      rintro e u2 ⟨⟨ra, rc, rfl, hpat, hpin, hasc⟩, hql⟩
      have HB2 : Hid (Below w.heap.size w u2) := Lib.hid (HB1.out.trans (hpat.2.2.2.mono HB1.out.size))
      have HPI := Lib.hid hpin
      have HAS := Lib.hid hasc
      have HQL := Lib.hid hql
      clear hpat hpin hasc hql HS1
      obtain ⟨Q, ⟨d1, d2⟩, er⟩ := R
      simp only at HPI HAS HQL ⊢
      obtain ⟨nq, hnq⟩ : ∃ k, k = Q.length := ⟨_, rfl⟩
      rw [← hnq]
      have HNQ := Lib.hid hnq
      clear hnq
      obtain ⟨u3, hu3⟩ : ∃ u3, u3 = u2.alloc (.cells #[.int .u64 d1, .int .u64 d2] 31) := ⟨_, rfl⟩
      have hb3 : Below u2.heap.size u2 u3 := by rw [hu3]; exact (Below.refl _ _).alloc (Nat.le_refl _) _
      have HD3 : Hid (BK u2.heap.size #[.int .u64 d1, .int .u64 d2] 31 u3) := Lib.hid (by rw [hu3]; exact BK.new _ _ _)
      have HB3 : Hid (Below w.heap.size w u3) := Lib.hid (HB2.out.trans (hb3.mono HB2.out.size))
      have HPI3 := Lib.hid (HPI.out.below hb3)
      have hz3 : u3.heap.size = u2.heap.size + 1 := by rw [hu3]; simp
      by_cases her : er = 0
      · subst her
        have hok := storeC_ok (q := Q) (d := (d1, d2)) asc_nil HSZ.out HR.out.symm
        have HOK := Lib.hid hok
        have hst := LSt.start (lc := lc) HB2.out HPI.out HAS.out (by have := HQL.out; omega) hok.2.1 hok.2.2.2 HL.out (by rw [← HNL.out]; exact gl) (fun x hx => (HGD.out x hx).2)
        rw [← HNL.out] at hst
        have HST := Lib.hid hst
        obtain ⟨c0, c1⟩ := HD3.out.c2
        rw [hu3] at c0 c1
        clear hok hst hu3 hb3
        go_wp2_with fail
        go_loopw [5, 8, 9, 50] (fun p v8 v9 i wr => ∃ (k : Nat) (P : List Itm) (pa : Option Addr) (pc np : Nat) (L : List LsT) (t : LsT), i = .int .i64 (k : Int) ∧ k ≤ ne ∧ p = .slice pa np pc ∧ np = P.length ∧ Hid (LSt u2 (u2.heap.size + 1) u2.heap.size k P pa pc L t v8 v9 wr)) (fun _ _ _ i _ => ne - (intOf i).toNat)
        case atStart => exact ⟨0, Q, ra, rc, nq, [], (l, la, lc), rfl, by omega, rfl, HNQ.out, HST⟩
        case round =>
          clear c0 c1 HST
          obtain ⟨k, P, pa, pc, np, L, ⟨now, na, nc⟩, rfl, hk, rfl, hnp, HS⟩ := hrel
          have HNP := Lib.hid hnp
          clear hnp
          have HBR : Hid (Below w.heap.size w wr) := Lib.hid (HB2.out.trans (HS.out.be.mono HB2.out.size))
          have hzr : u2.heap.size + 1 ≤ wr.heap.size := HS.out.bb.2
          by_cases hlt : k < ne
          · have hki : (k : Int) < (ne : Int) := by omega
            have hkl : k < eds.length := by rw [← HNE.out]; exact hlt
            obtain ⟨b0, of0, haa, hbb, q0, q1, q2⟩ := ed_cells (HE.out.below HBR.out (Nat.le_refl _)) hkl
            have hxd := HED.out _ (List.getElem_mem hkl)
            generalize eds[k] = x at q0 q1 q2 hxd
            obtain ⟨rm, s, d⟩ := x
            simp only at q0 q1 q2 hxd
            obtain ⟨hxs, hxd⟩ := hxd
            subst haa
            have hln := HS.out.ln
            obtain ⟨m, hm⟩ : ∃ m, m = L.length := ⟨_, rfl⟩
            have hml : (L ++ [((now, na, nc) : LsT)]).length = m + 1 := by rw [hm]; simp
            obtain ⟨a8, c8, rfl, hc8⟩ := ownsRow_sliceN HS.out.r8
            obtain ⟨a9, c9, rfl, hc9⟩ := ownsRow_sliceN HS.out.r9
            rw [hml] at hc8 hc9 hln
            have hr9 := HS.out.r9
            rw [hml] at HS hr9 ⊢
            obtain ⟨g9, o9, ha9, q3⟩ := one_cell (k := m) hr9 (u := .slice na now.length nc) (by rw [hm]; simp [encL])
            subst ha9
            have hsub : ((m : Int) + 1 - 1) = (m : Int) := by omega
            have hm8 : m ≤ 8 := by omega
            have hft := HS.out.fls (now, na, nc) (by simp)
            have hsz0 := HS.out.sz (now, na, nc) (by simp)
            have hin0 := HS.out.inp (now, na, nc) (by simp)
            simp only at hft hsz0 hin0
            obtain ⟨u1, hu1⟩ : ∃ u1, u1 = wr.alloc (.cells #[.bool rm, .string ⟨s.toArray⟩, .string ⟨d.toArray⟩] 38) := ⟨_, rfl⟩
            have hb1 : Below wr.heap.size wr u1 := by rw [hu1]; exact (Below.refl _ _).alloc (Nat.le_refl _) _
            have hg9 : g9 < wr.heap.size := (hr9.lt g9 rfl).2
            have q3 : u1.cell? ⟨g9, o9 + m, none⟩ = some (.slice na now.length nc) := (hb1.cell (p := ⟨g9, o9 + m, none⟩) hg9).trans q3
            have HX1 : Hid (BK wr.heap.size #[.bool rm, .string ⟨s.toArray⟩, .string ⟨d.toArray⟩] 38 u1) := Lib.hid (by rw [hu1]; exact BK.new _ _ _)
            have HBX1 := Lib.hid hb1
            have HFL1 := Lib.hid (hft.1.ahead hb1)
            have hnl : (now.length : Int) ≤ 1000 := by omega
            have HFI := Lib.hid (Find09_any na now nc s u1 HFL1.out (by omega))
            have HWI := Lib.hid (with_any na now nc ⟨s, d⟩ u1 HFL1.out hnl)
            rw [withR_eq _ hin0.good.asc] at HWI
            have HIN0 := Lib.hid hin0
            have HSZ0 := Lib.hid hsz0
            obtain ⟨e0, e1, e2⟩ := HX1.out.c3
            rw [hu1] at HFI HWI e0 e1 e2 q3
            have HU1 := Lib.hid hu1
            obtain ⟨nn, hnn⟩ : ∃ j, j = now.length := ⟨_, rfl⟩
            rw [← hnn] at HFI HWI q3
            have HNN := Lib.hid hnn
            clear hu1 hb1 hft hsz0 hin0 hm hml hr9 hnn
            have HFN : Hid (findR now s = (findR now s)) := Lib.hid rfl
            go_wp2_with fail
            (with_reducible refine HFI.out.mono ?_)
            rintro e ux ⟨rfl, rfl⟩
            go_wp2_with fail
            (with_reducible refine HWI.out.mono ?_)
            rintro e v3 ⟨wa, wc, rfl, hwf, hwc, hb3, hwn⟩
            rw [← HU1.out] at hb3 hwn
            have HX3 := Lib.hid (HX1.out.below hb3)
            have HB3' : Hid (Below wr.heap.size wr v3) := Lib.hid (HBX1.out.trans (hb3.mono HBX1.out.size))
            have HS3 := Lib.hid (HS.out.below HB3'.out)
            obtain ⟨⟨r1, r2⟩, hrt⟩ : ∃ rt, rt = (pureF 101 now).2 := ⟨_, rfl⟩
            have hdb : BK u2.heap.size #[.int .u64 r1, .int .u64 r2] 31 v3 := by
              have h := HS3.out.bd
              unfold rootF at h
              rw [← hrt] at h
              exact h
            have HRT := Lib.hid hrt
            have HDB3 := Lib.hid hdb
            obtain ⟨h0, h1⟩ := hdb.c2
            obtain ⟨h2, h3⟩ := (hdb.alloc (.cells #[.int .u64 0, .int .u64 0] 31)).c2
            clear hrt hdb
            go_wp2_with fail
            go_region_held3 (fun W => W.cell? ⟨u2.heap.size, 0, none⟩ = some (.int .u64 r1) ∧ W.cell? ⟨u2.heap.size, 1, none⟩ = some (.int .u64 r2)) (go_keep) (fail)
            obtain ⟨v4, hv4⟩ : ∃ v4, v4 = (v3.alloc (.cells #[.int .u64 r1, .int .u64 r2] 31)).drew := ⟨_, rfl⟩
            have hb4 : Below v3.heap.size v3 v4 := by rw [hv4]; exact ((Below.refl _ _).alloc (Nat.le_refl _) _).drew
            have hz4 : v4.heap.size = v3.heap.size + 1 := by rw [hv4]; exact World.size_alloc _ _
            have HYB4 : Hid (BK v3.heap.size #[.int .u64 r1, .int .u64 r2] 31 v4) := Lib.hid (by rw [hv4]; exact BK.new v3 _ _)
            have HXB4 := Lib.hid (HX3.out.below hb4)
            have HB4 : Hid (Below wr.heap.size wr v4) := Lib.hid (HB3'.out.trans (hb4.mono HB3'.out.size))
            have HS4 := Lib.hid (HS3.out.below hb4)
            have HDB4 := Lib.hid (HDB3.out.below hb4)
            have HNOW4 := Lib.hid ((HFL1.out.ahead hb3).ahead hb4)
            have hzw : wr.heap.size + 1 ≤ v3.heap.size := by have := hb3.size; have h5 := HX1.out.lt; omega
            have HWF4 := Lib.hid (hwf.ahead hb4)
            have HWLT := Lib.hid (gin_lt hwf)
            have hzu1 := HX1.out.lt
            obtain ⟨th, hth⟩ : ∃ th, th = (findR now s).2 := ⟨_, rfl⟩
            rw [← hth]
            have HTH : Hid (th = (findF now s).isSome) := Lib.hid (by
              rw [hth]; unfold findR
              cases findF now s <;> rfl)
            generalize (findR now s).1 = fd
            rw [← hv4]
            obtain ⟨d0, dd1⟩ := HDB4.out.c2
            obtain ⟨x0, x1, x2⟩ := HXB4.out.c3
            have hP5 : P.length ≤ 50000000 := by have := HS.out.pl; omega
            clear hth hv4 h0 h1 h2 h3 e0 e1 e2 q0 q1 q2 q3 HFI HWI hb4 hb3 hwf HX1 HX3 HB3' HS3 HDB3 HFL1 HBX1 HU1
            cases rm with
            | true =>
              have HSZN : Hid (SzF (lessF now s)) := Lib.hid (sz_less HIN0.out.sz s)
              have HPLN : Hid (∀ x ∈ lessF now s, x.path.length ≤ 100000) := Lib.hid (fun x hx => by have := good_path HIN0.out.good (List.mem_filter.1 hx).1; omega)
              have HWO := Lib.hid (without_any na now nc s v4 HNOW4.out hnl)
              rw [← HNN.out] at HWO
              generalize (withF now ⟨s, d⟩).length = wl
              go_wp2_with fail
              (with_reducible refine HWO.out.mono ?_)
              rintro e uc ⟨xa, xc, rfl, hxf, hxc, hb5, hxn⟩
              have HBC : Hid (Below wr.heap.size wr uc) := Lib.hid (HB4.out.trans (hb5.mono HB4.out.size))
              have HYBC := Lib.hid (HYB4.out.below hb5)
              have HXBC := Lib.hid (HXB4.out.below hb5)
              have HNFC := Lib.hid hxf
              have HXY : Hid (∀ ad, xa = some ad → 0 < (lessF now s).length → ad.block ≠ v3.heap.size) := Lib.hid (fun ad e _ => by have := hxn ad e; omega)
              have HXN : Hid (∀ ad, xa = some ad → 0 < (lessF now s).length → wr.heap.size ≤ ad.block) := Lib.hid (fun ad e _ => by have := hxn ad e; omega)
              have hzuc : v3.heap.size + 1 ≤ uc.heap.size := by have := hb5.size; omega
              have HLE : Hid ((lessF now s).length ≤ 10 + (k + 1) ∧ ∀ x ∈ lessF now s, x.data.length ≤ 200) := Lib.hid ⟨by have := List.length_filter_le (fun x : Fl => !decide (x.path = s)) now; have := HSZ0.out.1; unfold lessF; omega, fun x hx => HSZ0.out.2 x (List.mem_filter.1 hx).1⟩
              obtain ⟨R2, hR2⟩ : ∃ R2, R2 = delC P now s := ⟨_, rfl⟩
              have hcall := remove_any pa P pc now s r1 r2 uc ((HS4.out.below hb5).pin) HS.out.asc HIN0.out HRT.out (by omega) hP5
              rw [← hR2] at hcall
              have HR2 := Lib.hid hR2
              have HCALL := Lib.hid hcall
              rw [← HNP.out] at HCALL
              obtain ⟨xl, hxl⟩ : ∃ j, j = (lessF now s).length := ⟨_, rfl⟩
              rw [← hxl]
              have HLNX := Lib.hid hxl
              obtain ⟨x0', x1', x2'⟩ := HXBC.out.c3
              obtain ⟨d0', dd1'⟩ := (HDB4.out.below hb5).c2
              clear hR2 hcall hxf hb5 HWO hxl x0 x1 x2 d0 dd1
              go_wp2_with fail
              (with_reducible refine HCALL.out.mono ?_)
              rintro e v6 ⟨⟨qa, qc, rfl, hpat, hpin, hasc⟩, hql⟩
              have hatB : (qa = pa ∧ R2.1 = P) ∨ ∀ ad, qa = some ad → uc.heap.size ≤ ad.block := hpat.2.2.1
              have hb6 : Below wr.heap.size wr v6 := HBC.out.trans (hpat.2.2.2.mono HBC.out.size)
              have hzc := hpat.2.2.2.size
              have HYB6 := Lib.hid (HYBC.out.below hpat.2.2.2)
              have HXB6 := Lib.hid (HXBC.out.below hpat.2.2.2)
              have HNF6 := Lib.hid (HNFC.out.ahead hpat.2.2.2)
              have HB6 := Lib.hid hb6
              have HQF : Hid (R2.2.2 = 0 → Asc R2.1 ∧ (R2.2.1.1, R2.2.1.2) = (pureF 101 (lessF now s)).2 ∧ (∀ y ∈ P, y ∈ R2.1) ∧ InP R2.1 (lessF now s)) := Lib.hid (fun h0 => by
                have h1 := delC_ok (q := R2.1) (e := R2.2.1) (by rw [← HR2.out]; exact Prod.ext rfl (Prod.ext rfl h0))
                exact storeC_ok HS.out.asc HSZN.out h1)
              have HLAW : Hid (R2.2.2 = 16 ∨ (R2.2.2 = 0 ↔ (checkF (lessF now s) = 0 ∧ (findF now s).isSome = true))) := Lib.hid (by rw [HR2.out]; exact del_law HS.out.asc HIN0.out.good HIN0.out.sz)
              have HQI := Lib.hid hpin
              have HQA := Lib.hid hasc
              have HQN := Lib.hid hql
              have HAT := Lib.hid hatB
              clear hpat hpin hasc hql hatB hb6 HCALL HR2
              obtain ⟨Q2, ⟨g1, g2⟩, er2⟩ := R2
              simp only at HQF HLAW HQI HQA HQN HAT ⊢
              obtain ⟨n2, hn2⟩ : ∃ j, j = Q2.length := ⟨_, rfl⟩
              rw [← hn2]
              have HN2 := Lib.hid hn2
              clear hn2
              obtain ⟨y0, y1⟩ := HYB6.out.c2
              obtain ⟨y2, y3⟩ := HYB6.out.f2
              have hya : BK v3.heap.size #[.int .u64 g1, .int .u64 r2] 31 (v6.setCell ⟨v3.heap.size, 0, none⟩ (.int .u64 g1)) := HYB6.out.set 0 _
              obtain ⟨y4, y5⟩ := hya.c2
              obtain ⟨y6, y7⟩ := hya.f2
              obtain ⟨v7, hv7⟩ : ∃ v7, v7 = (v6.setCell ⟨v3.heap.size, 0, none⟩ (.int .u64 g1)).setCell ⟨v3.heap.size, 1, none⟩ (.int .u64 g2) := ⟨_, rfl⟩
              have HYB7 : Hid (BK v3.heap.size #[.int .u64 g1, .int .u64 g2] 31 v7) := Lib.hid (by rw [hv7]; exact hya.set 1 _)
              have HXB7 : Hid (BK wr.heap.size #[.bool true, .string ⟨s.toArray⟩, .string ⟨d.toArray⟩] 38 v7) := Lib.hid (by rw [hv7]; exact (HXB6.out.other (by omega) 0 _).other (by omega) 1 _)
              have HB7 : Hid (Below wr.heap.size wr v7) := Lib.hid (by rw [hv7]; exact (HB6.out.setCell (by simp; omega) _).setCell (by simp; omega) _)
              have HS7 := Lib.hid (HS.out.below HB7.out)
              have hga : v6.grownBy (v6.setCell ⟨v3.heap.size, 0, none⟩ (.int .u64 g1)) (some v3.heap.size) := grownBy_setCellX _ _ _ _
              have hgb : (v6.setCell ⟨v3.heap.size, 0, none⟩ (.int .u64 g1)).grownBy v7 (some v3.heap.size) := by rw [hv7]; exact grownBy_setCellX _ _ _ _
              have HNF7 : Hid (Fls v7.heap.size v7 xa (lessF now s)) := Lib.hid (gin_grown (gin_grown HNF6.out hga (fun ad e hq e2 => HXY.out ad e hq (Option.some.inj e2).symm)) hgb (fun ad e hq e2 => HXY.out ad e hq (Option.some.inj e2).symm))
              have hqy : ∀ ad, qa = some ad → 0 < Q2.length → some v3.heap.size ≠ some ad.block := by
                intro ad e hq e2
                have e2 := Option.some.inj e2
                rcases HAT.out with ⟨h1, h2⟩ | h1
                · rw [h1] at e
                  rw [h2] at hq
                  have := its_lt HS.out.pin.its ad e hq
                  omega
                · have := h1 ad e; omega
              have HQI7 : Hid (PoolIn v7 qa Q2 qc) := Lib.hid ((HQI.out.grown hga hqy).grown hgb hqy)
              have HV7 := Lib.hid hv7
              clear hv7 hga hgb hqy hya HQI HNF6 HYB6 HXB6
              by_cases h16 : er2 = 16
              · subst h16
                have HE7 := Lib.hid (HEX.out v7)
                rw [HV7.out] at HE7
                go_wp2_with fail
                (with_reducible refine HE7.out.mono ?_)
                rintro e vz ⟨rfl, hbz⟩
                rw [← HV7.out] at hbz
                have HFN : Hid (Below w.heap.size w vz) := Lib.hid (HBR.out.trans ((HB7.out.trans (hbz.mono HB7.out.size)).mono HBR.out.size))
                go_wp2_with fail
                go_ret
                exact ⟨rfl, HFN.out⟩
              · have HCK := Lib.hid (tcheck_any xa (lessF now s) xc v7 HNF7.out HSZN.out.len HPLN.out HSZN.out.dat)
                have HLW : Hid (er2 = 0 ↔ (checkF (lessF now s) = 0 ∧ (findF now s).isSome = true)) := Lib.hid (HLAW.out.resolve_left h16)
                generalize hck : checkF (lessF now s) = ck at HCK HLW
                rw [← HLNX.out, HV7.out] at HCK
                clear hck HLAW
                go_wp2_with fail
                (with_reducible refine HCK.out.mono ?_)
                rintro e v8 ⟨rfl, hb8⟩
                rw [← HV7.out] at hb8
                have HXB8 := Lib.hid (HXB7.out.below hb8)
                obtain ⟨x0, x1, x2⟩ := HXB8.out.c3
                by_cases her : er2 = 0
                · subst her
                  have hck0 := HLW.out.1 rfl
                  obtain ⟨hc0, hth⟩ := hck0
                  subst hc0
                  have hth2 : th = true := by rw [HTH.out]; exact hth
                  subst hth2
                  have HYB8 := Lib.hid (HYB7.out.below hb8)
                  have HS8 := Lib.hid (HS7.out.below hb8)
                  have HQI8 := Lib.hid (HQI7.out.below hb8)
                  have HNF8 := Lib.hid (HNF7.out.ahead hb8)
                  have HB8 : Hid (Below wr.heap.size wr v8) := Lib.hid (HB7.out.trans (hb8.mono HB7.out.size))
                  obtain ⟨z0, z1⟩ := HYB8.out.c2
                  obtain ⟨hqa, hqr, hqs, hqi⟩ := HQF.out rfl
                  have hdb8 := HS8.out.bd
                  unfold rootF at hdb8
                  rw [← HRT.out] at hdb8
                  obtain ⟨w0, w1⟩ := hdb8.c2
                  obtain ⟨w2, w3⟩ := hdb8.f2
                  have HDB8 := Lib.hid hdb8
                  have HNW := Lib.hid hqr
                  clear hdb8 hqr HCK HYB7 HXB7 HS7 HQI7 HNF7 HV7 hb8
                  have hda : BK u2.heap.size #[.int .u64 g1, .int .u64 r2] 31 (v8.setCell ⟨u2.heap.size, 0, none⟩ (.int .u64 g1)) := HDB8.out.set 0 _
                  obtain ⟨w4, w5⟩ := hda.c2
                  obtain ⟨w6, w7⟩ := hda.f2
                  have hroot : rootF (((lessF now s), xa, xc) : LsT) = (g1, g2) := by unfold rootF; exact HNW.out.symm
                  obtain ⟨b8, b9, W1, W2, hr8, hr9, hst⟩ := HS8.out.push (s := ((lessF now s), xa, xc)) (B := wr.heap.size) HQI8.out hqa hzr (fun j hj => (HS.out.r8.lt j hj).2) (fun j hj => (HS.out.r9.lt j hj).2) (HAT.out.imp id (fun h ad e => by have := h ad e; omega)) HQN.out hqs hqi HNF8.out HXN.out HLE.out.1 HLE.out.2 (by omega)
                  rw [hroot] at hr8
                  simp only [encL] at hr8 hr9
                  rw [← HLNX.out] at hr9
                  have HR8 := Lib.hid hr8.out
                  have HR9 := Lib.hid hr9.out
                  have HST := Lib.hid hst
                  clear hr8 hr9 hst hroot hda hqa hqs hqi HQF HLW HQI8 HNF8 HS8 HYB8 HDB8 HNW HB8
                  go_wp2_with fail
                  all_goals
                    go_region_law (fail)
                    all_goals
                      go_wp2_with (first | (at_builtin; refine Lib.wpList_append_run _ rfl _ _ _ _ rfl _ _ rfl rfl _ _ HR8.out ?_) | (at_builtin; refine Lib.wpList_append_run _ rfl _ _ _ _ rfl _ _ rfl rfl _ _ HR9.out ?_))
                      go_roundw
                      case rel => exact ⟨k + 1, Q2, qa, qc, n2, L ++ [(now, na, nc)], ((lessF now s), xa, xc), by go_num, by omega, rfl, HN2.out, HST⟩
                      case measure => simp [intOf] <;> omega
                · have HNO : Hid (¬ (ck = 0 ∧ (findF now s).isSome = true)) := Lib.hid (fun h => her (HLW.out.2 h))
                  have HS8 := Lib.hid (HS7.out.below hb8).next
                  have hneq : (er2 == 0) = false := by simpa using her
                  by_cases hc0 : ck = 0
                  · subst hc0
                    have hth2 : th = false := by
                      cases hth : th with
                      | false => rfl
                      | true => exact absurd ⟨rfl, by rw [← HTH.out]; exact hth⟩ HNO.out
                    subst hth2
                    clear HCK HLW HNO HQF HYB7 HXB7 HS7 HQI7 HNF7 HV7 hb8
                    go_wp2_with fail
                    go_roundw
                    case rel => exact ⟨k + 1, P, pa, pc, np, L, (now, na, nc), by go_num, by omega, rfl, HNP.out, HS8⟩
                    case measure => simp [intOf] <;> omega
                  · clear HCK HLW HNO HQF HYB7 HXB7 HS7 HQI7 HNF7 HV7 hb8
                    go_wp2_with fail
                    go_roundw
                    case rel => exact ⟨k + 1, P, pa, pc, np, L, (now, na, nc), by go_num, by omega, rfl, HNP.out, HS8⟩
                    case measure => simp [intOf] <;> omega
            | false =>
              have hwm : ∀ x ∈ withF now ⟨s, d⟩, x = ⟨s, d⟩ ∨ x ∈ now := fun x hx => by
                rcases (withF_mem HIN0.out.good.asc ⟨s, d⟩ x).1 hx with h | ⟨h, _⟩
                · exact .inl h
                · exact .inr h
              have hwl := withF_length now ⟨s, d⟩
              have HSZN : Hid (SzF (withF now ⟨s, d⟩)) := Lib.hid ⟨by have := HSZ0.out.1; omega, fun x hx => by
                rcases hwm x hx with rfl | h
                · simp only; omega
                · exact HIN0.out.sz.dat x h⟩
              have HSZW := Lib.hid HSZN.out
              have HPLN : Hid (∀ x ∈ withF now ⟨s, d⟩, x.path.length ≤ 100000) := Lib.hid (fun x hx => by
                rcases hwm x hx with rfl | h
                · simp only; omega
                · have := good_path HIN0.out.good h; omega)
              have HLE : Hid ((withF now ⟨s, d⟩).length ≤ 10 + (k + 1) ∧ ∀ x ∈ withF now ⟨s, d⟩, x.data.length ≤ 200) := Lib.hid ⟨by have := HSZ0.out.1; omega, fun x hx => by
                rcases hwm x hx with rfl | h
                · simp only; omega
                · exact HSZ0.out.2 x h⟩
              obtain ⟨uc, huc⟩ : ∃ uc, uc = v4 := ⟨_, rfl⟩
              subst huc
              obtain ⟨xa, hxa⟩ : ∃ xa, xa = wa := ⟨_, rfl⟩
              subst hxa
              obtain ⟨xc, hxc⟩ : ∃ xc, xc = wc := ⟨_, rfl⟩
              subst hxc
              have HBC := Lib.hid HB4.out
              have HYBC := Lib.hid HYB4.out
              have HXBC := Lib.hid HXB4.out
              have HNFC := Lib.hid HWF4.out
              have HXY : Hid (∀ ad, xa = some ad → 0 < (withF now ⟨s, d⟩).length → ad.block ≠ v3.heap.size) := Lib.hid (fun ad e hq => by have := HWLT.out ad e hq; omega)
              have HXN : Hid (∀ ad, xa = some ad → 0 < (withF now ⟨s, d⟩).length → wr.heap.size ≤ ad.block) := Lib.hid (fun ad e _ => by have := hwn ad e; omega)
              have hzuc : v3.heap.size + 1 ≤ uc.heap.size := by omega
              obtain ⟨R2, hR2⟩ : ∃ R2, R2 = setC P now s d := ⟨_, rfl⟩
              have hcall := set_any pa P pc now s d r1 r2 uc HS4.out.pin HS.out.asc HIN0.out HRT.out (by omega) HSZW.out hP5
              rw [← hR2] at hcall
              have HR2 := Lib.hid hR2
              have HCALL := Lib.hid hcall
              rw [← HNP.out] at HCALL
              obtain ⟨xl, hxl⟩ : ∃ j, j = (withF now ⟨s, d⟩).length := ⟨_, rfl⟩
              rw [← hxl]
              have HLNX := Lib.hid hxl
              clear hR2 hcall hxl
              go_wp2_with fail
              (with_reducible refine HCALL.out.mono ?_)
              rintro e v6 ⟨⟨qa, qc, rfl, hpat, hpin, hasc⟩, hql⟩
              have hatB : (qa = pa ∧ R2.1 = P) ∨ ∀ ad, qa = some ad → uc.heap.size ≤ ad.block := hpat.2.2.1
              have hb6 : Below wr.heap.size wr v6 := HBC.out.trans (hpat.2.2.2.mono HBC.out.size)
              have hzc := hpat.2.2.2.size
              have HYB6 := Lib.hid (HYBC.out.below hpat.2.2.2)
              have HXB6 := Lib.hid (HXBC.out.below hpat.2.2.2)
              have HNF6 := Lib.hid (HNFC.out.ahead hpat.2.2.2)
              have HB6 := Lib.hid hb6
              have HQF : Hid (R2.2.2 = 0 → Asc R2.1 ∧ (R2.2.1.1, R2.2.1.2) = (pureF 101 (withF now ⟨s, d⟩)).2 ∧ (∀ y ∈ P, y ∈ R2.1) ∧ InP R2.1 (withF now ⟨s, d⟩)) := Lib.hid (fun h0 => by
                have h1 := setC_ok (q := R2.1) (e := R2.2.1) (by rw [← HR2.out]; exact Prod.ext rfl (Prod.ext rfl h0))
                exact storeC_ok HS.out.asc HSZN.out h1)
              have HLAW : Hid (R2.2.2 = 16 ∨ (R2.2.2 = 0 ↔ checkF (withF now ⟨s, d⟩) = 0)) := Lib.hid (by rw [HR2.out]; exact set_law HS.out.asc HIN0.out.good.asc HSZW.out)
              have HQI := Lib.hid hpin
              have HQA := Lib.hid hasc
              have HQN := Lib.hid hql
              have HAT := Lib.hid hatB
              clear hpat hpin hasc hql hatB hb6 HCALL HR2
              obtain ⟨Q2, ⟨g1, g2⟩, er2⟩ := R2
              simp only at HQF HLAW HQI HQA HQN HAT ⊢
              obtain ⟨n2, hn2⟩ : ∃ j, j = Q2.length := ⟨_, rfl⟩
              rw [← hn2]
              have HN2 := Lib.hid hn2
              clear hn2
              obtain ⟨y0, y1⟩ := HYB6.out.c2
              obtain ⟨y2, y3⟩ := HYB6.out.f2
              have hya : BK v3.heap.size #[.int .u64 g1, .int .u64 r2] 31 (v6.setCell ⟨v3.heap.size, 0, none⟩ (.int .u64 g1)) := HYB6.out.set 0 _
              obtain ⟨y4, y5⟩ := hya.c2
              obtain ⟨y6, y7⟩ := hya.f2
              obtain ⟨v7, hv7⟩ : ∃ v7, v7 = (v6.setCell ⟨v3.heap.size, 0, none⟩ (.int .u64 g1)).setCell ⟨v3.heap.size, 1, none⟩ (.int .u64 g2) := ⟨_, rfl⟩
              have HYB7 : Hid (BK v3.heap.size #[.int .u64 g1, .int .u64 g2] 31 v7) := Lib.hid (by rw [hv7]; exact hya.set 1 _)
              have HXB7 : Hid (BK wr.heap.size #[.bool false, .string ⟨s.toArray⟩, .string ⟨d.toArray⟩] 38 v7) := Lib.hid (by rw [hv7]; exact (HXB6.out.other (by omega) 0 _).other (by omega) 1 _)
              have HB7 : Hid (Below wr.heap.size wr v7) := Lib.hid (by rw [hv7]; exact (HB6.out.setCell (by simp; omega) _).setCell (by simp; omega) _)
              have HS7 := Lib.hid (HS.out.below HB7.out)
              have hga : v6.grownBy (v6.setCell ⟨v3.heap.size, 0, none⟩ (.int .u64 g1)) (some v3.heap.size) := grownBy_setCellX _ _ _ _
              have hgb : (v6.setCell ⟨v3.heap.size, 0, none⟩ (.int .u64 g1)).grownBy v7 (some v3.heap.size) := by rw [hv7]; exact grownBy_setCellX _ _ _ _
              have HNF7 : Hid (Fls v7.heap.size v7 xa (withF now ⟨s, d⟩)) := Lib.hid (gin_grown (gin_grown HNF6.out hga (fun ad e hq e2 => HXY.out ad e hq (Option.some.inj e2).symm)) hgb (fun ad e hq e2 => HXY.out ad e hq (Option.some.inj e2).symm))
              have hqy : ∀ ad, qa = some ad → 0 < Q2.length → some v3.heap.size ≠ some ad.block := by
                intro ad e hq e2
                have e2 := Option.some.inj e2
                rcases HAT.out with ⟨h1, h2⟩ | h1
                · rw [h1] at e
                  rw [h2] at hq
                  have := its_lt HS.out.pin.its ad e hq
                  omega
                · have := h1 ad e; omega
              have HQI7 : Hid (PoolIn v7 qa Q2 qc) := Lib.hid ((HQI.out.grown hga hqy).grown hgb hqy)
              have HV7 := Lib.hid hv7
              clear hv7 hga hgb hqy hya HQI HNF6 HYB6 HXB6
              by_cases h16 : er2 = 16
              · subst h16
                have HE7 := Lib.hid (HEX.out v7)
                rw [HV7.out] at HE7
                go_wp2_with fail
                (with_reducible refine HE7.out.mono ?_)
                rintro e vz ⟨rfl, hbz⟩
                rw [← HV7.out] at hbz
                have HFN : Hid (Below w.heap.size w vz) := Lib.hid (HBR.out.trans ((HB7.out.trans (hbz.mono HB7.out.size)).mono HBR.out.size))
                go_wp2_with fail
                go_ret
                exact ⟨rfl, HFN.out⟩
              · have HCK := Lib.hid (tcheck_any xa (withF now ⟨s, d⟩) xc v7 HNF7.out HSZN.out.len HPLN.out HSZN.out.dat)
                have HLW : Hid (er2 = 0 ↔ checkF (withF now ⟨s, d⟩) = 0) := Lib.hid (HLAW.out.resolve_left h16)
                generalize hck : checkF (withF now ⟨s, d⟩) = ck at HCK HLW
                rw [← HLNX.out, HV7.out] at HCK
                clear hck HLAW
                go_wp2_with fail
                (with_reducible refine HCK.out.mono ?_)
                rintro e v8 ⟨rfl, hb8⟩
                rw [← HV7.out] at hb8
                have HXB8 := Lib.hid (HXB7.out.below hb8)
                obtain ⟨x0, x1, x2⟩ := HXB8.out.c3
                by_cases her : er2 = 0
                · subst her
                  have hck0 := HLW.out.1 rfl
                  subst hck0
                  have HYB8 := Lib.hid (HYB7.out.below hb8)
                  have HS8 := Lib.hid (HS7.out.below hb8)
                  have HQI8 := Lib.hid (HQI7.out.below hb8)
                  have HNF8 := Lib.hid (HNF7.out.ahead hb8)
                  have HB8 : Hid (Below wr.heap.size wr v8) := Lib.hid (HB7.out.trans (hb8.mono HB7.out.size))
                  obtain ⟨z0, z1⟩ := HYB8.out.c2
                  obtain ⟨hqa, hqr, hqs, hqi⟩ := HQF.out rfl
                  have hdb8 := HS8.out.bd
                  unfold rootF at hdb8
                  rw [← HRT.out] at hdb8
                  obtain ⟨w0, w1⟩ := hdb8.c2
                  obtain ⟨w2, w3⟩ := hdb8.f2
                  have HDB8 := Lib.hid hdb8
                  have HNW := Lib.hid hqr
                  clear hdb8 hqr HCK HYB7 HXB7 HS7 HQI7 HNF7 HV7 hb8
                  have hda : BK u2.heap.size #[.int .u64 g1, .int .u64 r2] 31 (v8.setCell ⟨u2.heap.size, 0, none⟩ (.int .u64 g1)) := HDB8.out.set 0 _
                  obtain ⟨w4, w5⟩ := hda.c2
                  obtain ⟨w6, w7⟩ := hda.f2
                  have hroot : rootF (((withF now ⟨s, d⟩), xa, xc) : LsT) = (g1, g2) := by unfold rootF; exact HNW.out.symm
                  obtain ⟨b8, b9, W1, W2, hr8, hr9, hst⟩ := HS8.out.push (s := ((withF now ⟨s, d⟩), xa, xc)) (B := wr.heap.size) HQI8.out hqa hzr (fun j hj => (HS.out.r8.lt j hj).2) (fun j hj => (HS.out.r9.lt j hj).2) (HAT.out.imp id (fun h ad e => by have := h ad e; omega)) HQN.out hqs hqi HNF8.out HXN.out HLE.out.1 HLE.out.2 (by omega)
                  rw [hroot] at hr8
                  simp only [encL] at hr8 hr9
                  rw [← HLNX.out] at hr9
                  have HR8 := Lib.hid hr8.out
                  have HR9 := Lib.hid hr9.out
                  have HST := Lib.hid hst
                  clear hr8 hr9 hst hroot hda hqa hqs hqi HQF HLW HQI8 HNF8 HS8 HYB8 HDB8 HNW HB8
                  go_wp2_with fail
                  all_goals
                    go_region_law (fail)
                    all_goals
                      go_wp2_with (first | (at_builtin; refine Lib.wpList_append_run _ rfl _ _ _ _ rfl _ _ rfl rfl _ _ HR8.out ?_) | (at_builtin; refine Lib.wpList_append_run _ rfl _ _ _ _ rfl _ _ rfl rfl _ _ HR9.out ?_))
                      go_roundw
                      case rel => exact ⟨k + 1, Q2, qa, qc, n2, L ++ [(now, na, nc)], ((withF now ⟨s, d⟩), xa, xc), by go_num, by omega, rfl, HN2.out, HST⟩
                      case measure => simp [intOf] <;> omega
                · have HNO : Hid (¬ ck = 0) := Lib.hid (fun h => her (HLW.out.2 h))
                  have HS8 := Lib.hid (HS7.out.below hb8).next
                  have hneq : (er2 == 0) = false := by simpa using her
                  have hc0 : ¬ ck = 0 := HNO.out
                  clear HCK HLW HNO HQF HYB7 HXB7 HS7 HQI7 HNF7 HV7 hb8
                  go_wp2_with fail
                  go_roundw
                  case rel => exact ⟨k + 1, P, pa, pc, np, L, (now, na, nc), by go_num, by omega, rfl, HNP.out, HS8⟩
                  case measure => simp [intOf] <;> omega
          · have hki : ¬ (k : Int) < (ne : Int) := by omega
            have hln := HS.out.ln
            obtain ⟨T, hT⟩ : ∃ T, T = L ++ [((now, na, nc) : LsT)] := ⟨_, rfl⟩
            obtain ⟨n1, hn1⟩ : ∃ j, j = T.length := ⟨_, rfl⟩
            obtain ⟨a8, c8, rfl, hc8⟩ := ownsRow_sliceN HS.out.r8
            obtain ⟨a9, c9, rfl, hc9⟩ := ownsRow_sliceN HS.out.r9
            rw [← hT, ← hn1] at HS hc8 hc9 hln ⊢
            have HT := Lib.hid hT
            have HN1 := Lib.hid hn1
            have hPl : P.length ≤ 50000000 := by have := HS.out.pl; omega
            have hn9 : n1 ≤ 9 := by omega
            clear hT hn1
            obtain ⟨w8, rfl⟩ : ∃ w8, w8 = wr := ⟨_, rfl⟩
            go_wp2_with fail
            go_loopw [134] (fun i W => ∃ j : Nat, j ≤ n1 ∧ i = .int .i64 (j : Int) ∧ Hid (Below w8.heap.size w8 W)) (fun i _ => n1 - (intOf i).toNat)
            case atStart => exact ⟨0, by omega, rfl, Lib.hid (Below.refl _ _)⟩
            case round =>
              obtain ⟨j, hj, rfl, HBW⟩ := hrel
              have HSW := Lib.hid (HS.out.below HBW.out)
              have hzw := HBW.out.size
              by_cases hjt : j < n1
              · have hji : (j : Int) < (n1 : Int) := by omega
                have hjl : j < T.length := by rw [← HN1.out]; exact hjt
                have hr8 := HSW.out.r8
                have hr9 := HSW.out.r9
                rw [← HT.out, ← HN1.out] at hr8 hr9
                have hml : (T.map rootF).length = n1 := by rw [List.length_map]; exact HN1.out.symm
                obtain ⟨g8, o8, ha8, hlt8, q0, q1⟩ := ownsRow_digs (ds := T.map rootF) (by rw [hml]; exact hr8) j (by rw [hml]; exact hjt)
                obtain ⟨g9, o9, ha9, q2⟩ := one_cell (k := j) hr9 (u := encL T[j]) (by rw [List.getElem?_map, List.getElem?_eq_getElem hjl]; rfl)
                have hg9 : g9 < wr.heap.size := (hr9.lt g9 (by rw [ha9]; rfl)).2
                have hmem : T[j] ∈ L ++ [((now, na, nc) : LsT)] := by rw [← HT.out]; exact List.getElem_mem hjl
                rw [List.getElem_map] at q0 q1
                have hft := (HSW.out.fls _ hmem).1
                have hin := HSW.out.inp _ hmem
                generalize T[j] = st at q0 q1 q2 hft hin
                obtain ⟨ls, lA, lC⟩ := st
                simp only [encL, rootF] at q0 q1 q2 hft hin
                subst ha8
                subst ha9
                obtain ⟨V, hV, hVp⟩ := load_law HSW.out.asc hin
                obtain ⟨Qs, hQs, hQa, hQm⟩ := storeC_in HSW.out.asc hin
                obtain ⟨⟨r1, r2⟩, hrt⟩ : ∃ rt, rt = (pureF 101 ls).2 := ⟨_, rfl⟩
                rw [← hrt] at q0 q1 hV hQs
                simp only at q0 q1
                have hls := hin.sz.len
                obtain ⟨u5, hu5⟩ : ∃ u5, u5 = wr.alloc (.cells #[.int .u64 r1, .int .u64 r2] 31) := ⟨_, rfl⟩
                have hb5 : Below wr.heap.size wr u5 := by rw [hu5]; exact (Below.refl _ _).alloc (Nat.le_refl _) _
                have hk5 : BK wr.heap.size #[.int .u64 r1, .int .u64 r2] 31 u5 := by rw [hu5]; exact BK.new _ _ _
                obtain ⟨e0, e1⟩ := hk5.c2
                have HLD := Lib.hid (load_any pa P pc r1 r2 101 V ls u5 (HSW.out.pin.below hb5) HSW.out.asc hV hVp hin.good.asc hls)
                have HIN := Lib.hid hin
                have HK5 := Lib.hid hk5
                have HB5 := Lib.hid hb5
                have HF5 := Lib.hid (hft.ahead hb5)
                have HQS := Lib.hid hQs
                have HQA := Lib.hid hQa
                have HQM := Lib.hid hQm
                have q2w : u5.cell? ⟨g9, o9 + j, none⟩ = some (.slice lA ls.length lC) := (hb5.cell (p := ⟨g9, o9 + j, none⟩) hg9).trans q2
                have HQ2 := Lib.hid q2w
                have hg95 : g9 < u5.heap.size := by have := hb5.size; omega
                rw [← HNP.out, hu5] at HLD
                rw [hu5] at e0 e1
                have HU5 := Lib.hid hu5
                clear hr8 hr9 hml hmem hft hin hV hVp hQs hQa hQm hrt hk5 hb5 hu5 q2w q2
                go_wp2_with fail
                (with_reducible refine HLD.out.mono ?_)
                rintro e u6 ⟨ma, mc, rfl, hrow6, hb6⟩
                rw [← HU5.out] at hrow6 hb6
                have q3 : u6.cell? ⟨g9, o9 + j, none⟩ = some (.slice lA ls.length lC) := (hb6.cell (p := ⟨g9, o9 + j, none⟩) hg95).trans HQ2.out
                have HSA := Lib.hid (same09_any ma ls mc lA ls lC u6 (own_fls rfl hrow6) (HF5.out.ahead hb6) (by omega) (by omega))
                have HK6 := Lib.hid (HK5.out.below hb6)
                have HF6 := Lib.hid (HF5.out.ahead hb6)
                have HB6 : Hid (Below wr.heap.size wr u6) := Lib.hid (HB5.out.trans (hb6.mono HB5.out.size))
                have hg96 : g9 < u6.heap.size := by have := hb6.size; omega
                rw [show decide (ls = ls) = true by simp] at HSA
                clear hrow6 hb6 HLD HU5 e0 e1 q0 q1
                go_wp2_with fail
                (with_reducible refine HSA.out.mono ?_)
                rintro e u7 ⟨rfl, hb7⟩
                have q4 : u7.cell? ⟨g9, o9 + j, none⟩ = some (.slice lA ls.length lC) := (hb7.cell (p := ⟨g9, o9 + j, none⟩) hg96).trans q3
                have HK7 := Lib.hid (HK6.out.below hb7)
                have HF7 := Lib.hid (HF6.out.ahead hb7)
                have HB7 : Hid (Below wr.heap.size wr u7) := Lib.hid (HB6.out.trans (hb7.mono HB6.out.size))
                have HST := Lib.hid (Store_any none [] 0 lA ls lC u7 (poolIn_nil u7) asc_nil HF7.out HIN.out.sz (fun x hx => by have := good_path HIN.out.good hx; omega) (by simp))
                rw [HQS.out] at HST
                simp only [List.length_nil] at HST
                clear hb7 HSA q3
                go_wp2_with fail
                (with_reducible refine HST.out.mono ?_)
                rintro e u9 ⟨⟨qa, qc, rfl, hpat, hpin, hasc⟩, hql⟩
                simp only at hpat hpin hasc hql ⊢
                have HB9 : Hid (Below wr.heap.size wr u9) := Lib.hid (HB7.out.trans (hpat.2.2.2.mono HB7.out.size))
                have HK9 := Lib.hid (HK7.out.below hpat.2.2.2)
                obtain ⟨uA, huA⟩ : ∃ uA, uA = u9.alloc (.cells #[.int .u64 r1, .int .u64 r2] 31) := ⟨_, rfl⟩
                have hbA : Below u9.heap.size u9 uA := by rw [huA]; exact (Below.refl _ _).alloc (Nat.le_refl _) _
                have hkA : BK u9.heap.size #[.int .u64 r1, .int .u64 r2] 31 uA := by rw [huA]; exact BK.new _ _ _
                obtain ⟨e0, e1⟩ := hkA.c2
                obtain ⟨e2, e3⟩ := (HK9.out.below hbA).c2
                have HPA := Lib.hid (hpin.below hbA)
                have HBA : Hid (Below wr.heap.size wr uA) := Lib.hid (HB9.out.trans (hbA.mono HB9.out.size))
                have hq := fun W => neq_dig r1 r2 r1 r2 W
                rw [show (!(r1 == r1 && r2 == r2)) = false by simp] at hq
                obtain ⟨nQ, hnQ⟩ : ∃ z, z = Qs.length := ⟨_, rfl⟩
                rw [← hnQ] at hql ⊢
                have hnQ2 : (nQ : Int) ≤ 30000 := by rw [List.length_nil] at hql; omega
                have HNQ2 := Lib.hid hnQ
                rw [huA] at e0 e1 e2 e3
                have HUA := Lib.hid huA
                clear hpat hpin hasc HST hbA hkA huA hnQ q4
                go_wp2_with fail
                rw [← HUA.out]
                obtain ⟨wy, rfl⟩ : ∃ wy, wy = wr := ⟨_, rfl⟩
                go_loopw [174] (fun i W => ∃ z : Nat, z ≤ nQ ∧ i = .int .i64 (z : Int) ∧ Hid (Below uA.heap.size uA W)) (fun i _ => nQ - (intOf i).toNat)
                case atStart => exact ⟨0, by omega, rfl, Lib.hid (Below.refl _ _)⟩
                case round =>
                  obtain ⟨z, hzq, rfl, HBZ⟩ := hrel
                  have hzz := HBZ.out.size
                  by_cases hzt : z < nQ
                  · have hzi : (z : Int) < (nQ : Int) := by omega
                    have hzl : z < Qs.length := by rw [← HNQ2.out]; exact hzt
                    obtain ⟨gq, oq, haq, hltq, p0, p1, p2⟩ := (HPA.out.below HBZ.out).its z hzl
                    have hmq := HQM.out _ (List.getElem_mem hzl)
                    generalize Qs[z] = y at p0 p1 p2 hmq
                    obtain ⟨⟨y1, y2⟩, yd⟩ := y
                    simp only at p0 p1 p2
                    subst haq
                    have hhas := has_memP HSW.out.asc hmq
                    obtain ⟨uB, huB⟩ : ∃ uB, uB = wr.alloc (.cells #[.int .u64 y1, .int .u64 y2, .string ⟨yd.toArray⟩] 52) := ⟨_, rfl⟩
                    have hbB : Below wr.heap.size wr uB := by rw [huB]; exact (Below.refl _ _).alloc (Nat.le_refl _) _
                    obtain ⟨f0, f1, f2⟩ := (BK.new wr #[.int .u64 y1, .int .u64 y2, .string ⟨yd.toArray⟩] 52).c3
                    have hbyB : Below wy.heap.size wy uB := (HBA.out.trans (HBZ.out.mono HBA.out.size)).trans (hbB.mono (by have := HBA.out.size; omega))
                    have HHA := Lib.hid (has_any pa P pc y1 y2 uB (HSW.out.pin.below hbyB) HSW.out.asc)
                    simp only at hhas
                    rw [hhas, ← HNP.out, huB] at HHA
                    have HBB := Lib.hid hbB
                    have HUB := Lib.hid huB
                    clear hbyB hbB huB hmq hhas
                    go_wp2_with fail
                    (with_reducible refine HHA.out.mono ?_)
                    rintro e uC ⟨rfl, hbC⟩
                    rw [← HUB.out] at hbC
                    have HBC : Hid (Below uA.heap.size uA uC) := Lib.hid (HBZ.out.trans ((HBB.out.trans (hbC.mono HBB.out.size)).mono hzz))
                    clear hbC HHA
                    go_wp2_with fail
                    go_roundw
                    case rel => exact ⟨z + 1, by omega, by go_num, HBC⟩
                    case measure => simp [intOf] <;> omega
                  · have hzi : ¬ (z : Int) < (nQ : Int) := by omega
                    have HBN : Hid (Below w8.heap.size w8 wr) := Lib.hid (HBW.out.trans ((HBA.out.trans (HBZ.out.mono HBA.out.size)).mono hzw))
                    go_wp2_with fail
                    go_roundw
                    case rel => exact ⟨j + 1, by omega, by go_num, HBN⟩
                    case measure => simp [intOf] <;> omega
              · have hji : ¬ (j : Int) < (n1 : Int) := by omega
                have HE1 := Lib.hid (HEX.out wr)
                have HBF : Hid (Below w.heap.size w wr) := Lib.hid (HBR.out.trans (HBW.out.mono HBR.out.size))
                go_wp2_with fail
                (with_reducible refine HE1.out.mono ?_)
                rintro e wz ⟨rfl, hbz⟩
                have HFN : Hid (Below w.heap.size w wz) := Lib.hid (HBF.out.trans (hbz.mono HBF.out.size))
                go_wp2_with fail
                go_ret
                exact ⟨rfl, HFN.out⟩
      · have HE1 := Lib.hid (HEX.out u3)
        rw [hu3] at HE1
        have HU3 := Lib.hid hu3
        clear hu3 hb3
        go_wp2_with fail
        (with_reducible refine HE1.out.mono ?_)
        rintro e u4 ⟨rfl, hb4⟩
        rw [← HU3.out] at hb4
        go_wp2_with fail
        go_ret
        exact ⟨rfl, HB3.out.trans (hb4.mono HB3.out.size)⟩
end Go.Proofs.YtceacjnhkcikgaaGreatDoor
