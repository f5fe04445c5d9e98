/- tree.Check: the walk. -/
import Derived.Test.YtceacjnhkcikgaaGreatDoorTtCk
namespace Go.Proofs.YtceacjnhkcikgaaGreatDoor
open Go.RowKit Go.Shelf
set_option linter.unusedVariables false

theorem obIn_blob (w : World) {D : Pa} (h : D.length ≤ 60000) : ObIn w (blobO D) none 0 none 0 := ⟨fun i h => by simp [blobO] at h, fun i h => by simp [blobO] at h, by simp [blobO], by simp [blobO], by simp [blobO], by simp [blobO], by simp [blobO], by simp [blobO], by simp [blobO], by simp only [blobO]; omega, by simp [blobO], by simp [blobO]⟩
theorem leq_str (P Q : Pa) : (!Op.bytesLess Q P) = (Op.bytesLess P Q || P == Q) := by
  rcases ltS_total P Q with h | h | h
  · have h2 : Op.bytesLess Q P = false := by
      cases hq : Op.bytesLess Q P with
      | false => rfl
      | true => exact absurd (ltS_trans h hq) (ltS_irrefl P)
    have h1 : Op.bytesLess P Q = true := h
    rw [h1, h2]; rfl
  · subst h
    have h2 : Op.bytesLess P P = false := by
      cases hq : Op.bytesLess P P with
      | false => rfl
      | true => exact absurd hq (ltS_irrefl P)
    rw [h2]; simp
  · have h1 : Op.bytesLess Q P = true := h
    have h2 : Op.bytesLess P Q = false := by
      cases hq : Op.bytesLess P Q with
      | false => rfl
      | true => exact absurd (ltS_trans h hq) (ltS_irrefl Q)
    have h3 : (P == Q) = false := by
      cases hq : (P == Q) with
      | false => rfl
      | true => rw [beq_iff_eq] at hq; subst hq; exact absurd h (ltS_irrefl P)
    rw [h1, h2, h3]; rfl
theorem zeroBoolT (W : World) : (zeroValue 4).run Tryz.prog W = .ok (.bool false) W := by kernel_rfl
theorem pathsK_all (l : List Fl) (s : Pa) : (pathsK l l.length s).getD (.bool false) = .bool (decide (s ∈ l.map (·.path))) := by
  unfold pathsK
  rw [List.take_length]
  by_cases h : s ∈ l.map (·.path)
  · rw [if_pos h, decide_eq_true h]; rfl
  · rw [if_neg h, decide_eq_false h]; rfl
theorem dirB_false {l : List Fl} {p : Pa} {n : Nat} (hn : n = p.length) (h : ∀ i, i < n → dirAt l p i = false) : dirB l p = false := by
  unfold dirB
  rw [List.any_eq_false]
  intro i hi
  simp [h i (by rw [hn]; simpa using hi)]
theorem dirB_true {l : List Fl} {p : Pa} {i : Nat} (hi : i < p.length) (h : dirAt l p i = true) : dirB l p = true := List.any_eq_true.2 ⟨i, by simpa using hi, h⟩
set_option maxRecDepth 100000 in
set_option maxHeartbeats 8000000 in
theorem tcheck_any (a : Option Addr) (l : List Fl) (c : Nat) (w : World) (hl : Fls w.heap.size w a l) (hn : l.length ≤ 200) (hp : ∀ x ∈ l, x.path.length ≤ 100000) (hd : ∀ x ∈ l, x.data.length ≤ 60000) :
    Calls Tryz.prog 13 #[.slice a l.length c] w fun e w' => e = .returned (.int .i64 (checkF l)) ∧ Below w.heap.size w w' := by
  obtain ⟨R, hR⟩ : ∃ R, R = checkF l := ⟨_, rfl⟩
  rw [← hR]
  have HL := Lib.hid hl
  have HP := Lib.hid hp
  have HD := Lib.hid hd
  obtain ⟨E1, hE1⟩ : ∃ E1, E1 = chkFGo none l := ⟨_, rfl⟩
  have HR : Hid (R = if E1 ≠ 0 then E1 else if l.any (fun x => dirB l x.path) = true then 7 else 0) := Lib.hid (by rw [hR, hE1]; rfl)
  have HE0 : Hid (E1 = chkFGo (prevFP l 0) (l.drop 0)) := Lib.hid hE1
  obtain ⟨n, hnn⟩ : ∃ n, n = l.length := ⟨_, rfl⟩
  have HN := Lib.hid hnn
  have hn2 : n ≤ 200 := by rw [hnn]; exact hn
  rw [← hnn]
  have HM0 : Hid (MapS w.heap.size 0 (pathsK l 0) (w.alloc (.map #[] 0))) := Lib.hid ((MapS.made w).eq (fun s => by simp [pathsK]))
  have HB0 : Hid (Below w.heap.size w (w.alloc (.map #[] 0))) := Lib.hid ((Below.refl _ w).alloc (Nat.le_refl _) _)
  clear hR hE1 hl hp hd hn hnn
  have h200 : ¬ ((200 : Int) < (n : Int)) := by omega
  have hmm := @run_makeMap Tryz.prog
  go_enter Tryz.func13, Tryz.ntmps13
  go_wp2_with fail
  go_loopw [15] (fun i wr => ∃ k : Nat, k ≤ n ∧ i = .int .i64 (k : Int) ∧ Hid (E1 = chkFGo (prevFP l k) (l.drop k)) ∧ Hid (MapS w.heap.size k (pathsK l k) wr) ∧ Hid (Below w.heap.size w wr)) (fun i _ => n - (intOf i).toNat)
  case atStart => exact ⟨0, by omega, rfl, HE0, HM0, HB0⟩
  case round =>
    clear HE0 HM0 HB0
    obtain ⟨k, hk, rfl, HE, HM, HB⟩ := hrel
    have hws := HB.out.size
    by_cases hlt : k < n
    · have hki : (k : Int) < (n : Int) := by omega
      have hkl : k < l.length := by rw [← HN.out]; exact hlt
      have HS := Lib.hid (chkFGo_drop hkl)
      obtain ⟨b0, of0, haa, hbb, q0, q1⟩ := fl_cells (HL.out.below HB.out (Nat.le_refl _)) hkl
      have HPK := Lib.hid (fun s => pathsK_succ hkl s)
      have HPL := HP.out _ (List.getElem_mem hkl)
      have HDL := HD.out _ (List.getElem_mem hkl)
      have HROW := Lib.hid (fun j (hj : j < l.length) W (hW : Below w.heap.size w W) => fl_cells (HL.out.below hW (Nat.le_refl _)) hj)
      have HE2 : Hid (E1 = if pathB l[k].path = false then 6 else if badFP (prevFP l k) l[k].path = true then 10 else chkFGo (prevFP l (k + 1)) (l.drop (k + 1))) := Lib.hid (HE.out.trans HS.out)
      generalize l[k] = x at q0 q1 HPK HPL HDL HE2
      obtain ⟨P, D⟩ := x
      simp only at q0 q1 HPK HPL HDL HE2
      subst haa
      have HBK : Hid (BK wr.heap.size #[.string ⟨P.toArray⟩, .string ⟨D.toArray⟩] 43 (wr.alloc (.cells #[.string ⟨P.toArray⟩, .string ⟨D.toArray⟩] 43))) := Lib.hid (BK.new _ _ _)
      obtain ⟨u1, hu1⟩ : ∃ u1, u1 = wr.alloc (.cells #[.string ⟨P.toArray⟩, .string ⟨D.toArray⟩] 43) := ⟨_, rfl⟩
      have HB1 : Hid (Below w.heap.size w u1) := Lib.hid (by rw [hu1]; exact HB.out.alloc hws _)
      have HM1 : Hid (MapS w.heap.size k (pathsK l k) u1) := Lib.hid (by rw [hu1]; exact HM.out.alloc _)
      have HK1 : Hid (BK wr.heap.size #[.string ⟨P.toArray⟩, .string ⟨D.toArray⟩] 43 u1) := Lib.hid (by rw [hu1]; exact HBK.out)
      have HIP := Lib.hid (isPath_any P (by omega) u1)
      have HU := Lib.hid hu1
      rw [hu1] at HIP
      clear hu1 HBK HM HB HE HS
      cases hv : pathB P with
      | false =>
        rw [hv] at HIP
        have HRF : Hid (R = 6) := Lib.hid (by rw [HR.out, HE2.out, hv]; rfl)
        clear HE2 hv HPK HROW
        go_wp2_with fail
        (with_reducible refine (HIP.out).mono ?_)
        rintro e u2 ⟨rfl, hb2⟩
        have HB2 := Lib.hid (HB1.out.trans (by rw [← HU.out] at hb2; exact hb2.mono HB1.out.size))
        clear hb2
        go_wp2_with fail
        go_ret
        exact ⟨by rw [HRF.out]; rfl, HB2.out⟩
      | true =>
        rw [hv] at HIP
        have HE3 : Hid (E1 = if badFP (prevFP l k) P = true then 10 else chkFGo (prevFP l (k + 1)) (l.drop (k + 1))) := Lib.hid (by rw [HE2.out, hv]; rfl)
        have HBL := Lib.hid (fun W => blob_any D W)
        have HCH := Lib.hid (fun W => ocheck_any (blobO D) none 0 none 0 W (obIn_blob W HDL))
        rw [(blob_enc HDL).1] at HCH
        clear HE2 hv
        go_wp2_with fail
        (with_reducible refine (HIP.out).mono ?_)
        rintro e u2 ⟨rfl, hb2⟩
        rw [← HU.out] at hb2
        have HB2 := Lib.hid (HB1.out.trans (hb2.mono HB1.out.size))
        have HM2 := Lib.hid (HM1.out.below hb2)
        have HK2 := Lib.hid (HK1.out.below hb2)
        have hz2 := hb2.size
        clear hb2 HIP HB1 HM1 HK1 HU
        have c0 := HK2.out.c2
        obtain ⟨c0, c1⟩ := c0
        go_wp2_with fail
        (with_reducible refine (HBL.out _).mono ?_)
        rintro e u3 ⟨rfl, hb3⟩
        have HB3 := Lib.hid (HB2.out.trans (hb3.mono HB2.out.size))
        have HM3 := Lib.hid (HM2.out.below hb3)
        have HK3 := Lib.hid (HK2.out.below hb3)
        clear hb3 HBL HB2 HM2 HK2 c0 c1
        go_wp2_with fail
        (with_reducible refine (HCH.out _).mono ?_)
        rintro e u4 ⟨rfl, hb4⟩
        have HB4 := Lib.hid (HB3.out.trans (hb4.mono HB3.out.size))
        have HM4 := Lib.hid (HM3.out.below hb4)
        have HK4 := Lib.hid (HK3.out.below hb4)
        clear hb4 HCH HB3 HM3 HK3
        obtain ⟨c0, c1⟩ := HK4.out.c2
        by_cases hk0 : k = 0
        · have g0 : decide ((0 : Int) < (k : Int)) = false := by simp; omega
          have g1 : decide (0 < k) = false := by simp; omega
          have HE4 : Hid (E1 = chkFGo (prevFP l (k + 1)) (l.drop (k + 1))) := Lib.hid (by rw [HE3.out, hk0]; rfl)
          clear hk0 HE3 HROW
          go_wp2_with fail
          go_quiet (fail)
          have HB5 := Lib.hid (below_drewN HB4.out nq)
          have HM5 := Lib.hid (HM4.out.below (below_drewN (Below.refl u4.heap.size u4) nq))
          have HK5 := Lib.hid (HK4.out.below (below_drewN (Below.refl u4.heap.size u4) nq))
          generalize u4.drewN nq = u5 at HB5 HM5 HK5 ⊢
          clear HB4 HM4 HK4 c0 c1
          obtain ⟨c0, c1⟩ := HK5.out.c2
          obtain ⟨W', hrun, hm', hg, hsz⟩ := HM5.out.put Tryz.underlying60 (s := P) (by omega) (by omega) (.bool true)
          have HM6 : Hid (MapS w.heap.size (k + 1) (pathsK l (k + 1)) W') := Lib.hid (hm'.eq (fun s => HPK.out s))
          have HB6 : Hid (Below w.heap.size w W') := Lib.hid (HB5.out.grown hg HB5.out.size (fun j hj => by cases hj; exact Nat.le_refl _))
          clear hm' hg HB5 HM5 HK5 HPK
          go_wp2_with fail
          go_roundw
          case rel => exact ⟨k + 1, by omega, by go_num, HE4, HM6, HB6⟩
          case measure => simp [intOf] <;> omega
        · have g0 : decide ((0 : Int) < (k : Int)) = true := by simp; omega
          have g1 : decide (0 < k) = true := by simp; omega
          obtain ⟨j, hj⟩ : ∃ j, k = j + 1 := ⟨k - 1, by omega⟩
          have hj1 : j < l.length := by have := HN.out; omega
          obtain ⟨_, _, haa, _, p0, p1⟩ := HROW.out j hj1 u4 HB4.out
          cases haa
          have hjk : (k : Int) - 1 = (j : Int) := by omega
          have hjw : IntKind.i64.wrap ((k : Int) - 1) = (j : Int) := by rw [hjk]; exact wrap_i64 (by omega) (by omega)
          have hjn : (j : Int) < (n : Int) := by omega
          have HPV : Hid (prevFP l k = some l[j].path) := Lib.hid (by rw [hj, prevFP, List.getElem?_eq_getElem hj1]; rfl)
          generalize l[j] = y at p0 p1 HPV
          obtain ⟨Q, Y⟩ := y
          simp only at p0 p1 HPV
          cases hlq : Op.bytesLess Q P with
          | false =>
            have HRF : Hid (R = 10) := Lib.hid (by
              have h : E1 = 10 := by rw [HE3.out, HPV.out, badFP, hlq]; rfl
              rw [HR.out, h]; rfl)
            have hle : (Op.bytesLess P Q || P == Q) = true := by rw [← leq_str, hlq]; rfl
            clear HE3 HPV hj hk0 HPK HROW
            go_wp2_with fail
            go_quiet (fail)
            have HB5 := Lib.hid (below_drewN HB4.out nq)
            go_wp2_with fail
            go_ret
            exact ⟨by rw [HRF.out]; rfl, HB5.out⟩
          | true =>
            have HE4 : Hid (E1 = chkFGo (prevFP l (k + 1)) (l.drop (k + 1))) := Lib.hid (by rw [HE3.out, HPV.out, badFP, hlq]; rfl)
            have hle : (Op.bytesLess P Q || P == Q) = false := by rw [← leq_str, hlq]; rfl
            clear HE3 HPV hj hk0 HROW
            go_wp2_with fail
            go_quiet (fail)
            have HB5 := Lib.hid (below_drewN HB4.out nq)
            have HM5 := Lib.hid (HM4.out.below (below_drewN (Below.refl u4.heap.size u4) nq))
            have HK5 := Lib.hid (HK4.out.below (below_drewN (Below.refl u4.heap.size u4) nq))
            generalize u4.drewN nq = u5 at HB5 HM5 HK5 ⊢
            clear HB4 HM4 HK4 c0 c1
            obtain ⟨c0, c1⟩ := HK5.out.c2
            obtain ⟨W', hrun, hm', hg, hsz⟩ := HM5.out.put Tryz.underlying60 (s := P) (by omega) (by omega) (.bool true)
            have HM6 : Hid (MapS w.heap.size (k + 1) (pathsK l (k + 1)) W') := Lib.hid (hm'.eq (fun s => HPK.out s))
            have HB6 : Hid (Below w.heap.size w W') := Lib.hid (HB5.out.grown hg HB5.out.size (fun j hj => by cases hj; exact Nat.le_refl _))
            clear hm' hg HB5 HM5 HK5 HPK
            go_wp2_with fail
            go_roundw
            case rel => exact ⟨k + 1, by omega, by go_num, HE4, HM6, HB6⟩
            case measure => simp [intOf] <;> omega

    · obtain rfl : k = n := by omega
      have hki : ¬ (k : Int) < (k : Int) := by omega
      have HZ : Hid (E1 = 0) := Lib.hid (by rw [HE.out, List.drop_of_length_le (by have := HN.out; omega)]; rfl)
      have HR2 : Hid (R = if l.any (fun x => dirB l x.path) = true then 7 else 0) := Lib.hid (by rw [HR.out, HZ.out, if_neg (by simp)])
      have HMA : Hid (MapS w.heap.size k (pathsK l l.length) wr) := Lib.hid (by rw [← HN.out]; exact HM.out)
      have HYES : Hid (∀ j (hj : j < l.length), dirB l l[j].path = true → R = 7) := Lib.hid (fun j hj h => by rw [HR2.out, if_pos (List.any_eq_true.2 ⟨_, List.getElem_mem hj, h⟩)])
      have HNO : Hid ((∀ j (hj : j < l.length), dirB l l[j].path = false) → R = 0) := Lib.hid (fun h => by rw [HR2.out, if_neg (by rw [any_take _ h]; simp)])
      obtain ⟨v0, hv0⟩ : ∃ v0, v0 = wr := ⟨_, rfl⟩
      have HMV : Hid (MapS w.heap.size k (pathsK l l.length) v0) := Lib.hid (by rw [hv0]; exact HMA.out)
      have HBV : Hid (Below w.heap.size w v0) := Lib.hid (by rw [hv0]; exact HB.out)
      have hv0s : w.heap.size + 1 ≤ v0.heap.size := HMV.out.lt
      have HB2 : Hid (Below v0.heap.size v0 wr) := Lib.hid (by rw [hv0]; exact Below.refl _ _)
      clear HE HM HZ HR2 HR HMA HB hv0
      go_wp2_with fail
      go_loopw [51] (fun i wr => ∃ j : Nat, j ≤ k ∧ i = .int .i64 (j : Int) ∧ Hid (∀ q (hq : q < l.length), q < j → dirB l l[q].path = false) ∧ Hid (Below v0.heap.size v0 wr)) (fun i _ => k - (intOf i).toNat)
      case atStart => exact ⟨0, by omega, rfl, Lib.hid (fun _ _ h => by omega), HB2⟩
      case round =>
        clear HB2 hki hws
        obtain ⟨j, hj, rfl, HA, HB⟩ := hrel
        have hws := HB.out.size
        by_cases hjlt : j < k
        · have hji : (j : Int) < (k : Int) := by omega
          have hjl : j < l.length := by rw [← HN.out]; exact hjlt
          have HB3 : Hid (Below w.heap.size w wr) := Lib.hid (HBV.out.trans (HB.out.mono (by omega)))
          obtain ⟨b0, of0, haa, hbb, q0, q1⟩ := fl_cells (HL.out.below HB3.out (Nat.le_refl _)) hjl
          have HPL := HP.out _ (List.getElem_mem hjl)
          have HY := Lib.hid (HYES.out j hjl)
          have HNX : Hid (dirB l l[j].path = false → ∀ q (hq : q < l.length), q < j + 1 → dirB l l[q].path = false) := Lib.hid (fun h q hq hqj => by
            by_cases e : q = j
            · subst e; exact h
            · exact HA.out q hq (by omega))
          generalize l[j] = x at q0 q1 HPL HY HNX
          obtain ⟨P, D⟩ := x
          simp only at q0 q1 HPL HY HNX
          subst haa
          obtain ⟨u1, hu1⟩ : ∃ u1, u1 = wr.alloc (.cells #[.string ⟨P.toArray⟩, .string ⟨D.toArray⟩] 43) := ⟨_, rfl⟩
          have HK1 : Hid (BK wr.heap.size #[.string ⟨P.toArray⟩, .string ⟨D.toArray⟩] 43 u1) := Lib.hid (by rw [hu1]; exact BK.new _ _ _)
          have HB1 : Hid (Below v0.heap.size v0 u1) := Lib.hid (by rw [hu1]; exact HB.out.alloc hws _)
          have HU := Lib.hid hu1
          have hz1 : wr.heap.size < u1.heap.size := by rw [hu1]; simp
          obtain ⟨m, hm⟩ : ∃ m, m = P.length := ⟨_, rfl⟩
          have HMM := Lib.hid hm
          have hsP := ba_len P
          rw [← hm] at hsP
          have HG : Hid (P.length ≤ 100000) := Lib.hid HPL
          have hmb : (m : Int) ≤ 100000 := by omega
          clear hu1 HB HA HYES HNO hm HPL
          go_wp2_with fail
          rw [← HU.out]
          go_loopw [58] (fun i wx => ∃ q : Nat, q ≤ m ∧ i = .int .i64 (q : Int) ∧ Hid (∀ t, t < q → dirAt l P t = false) ∧ Hid (Below u1.heap.size u1 wx)) (fun i _ => m - (intOf i).toNat)
          case atStart => exact ⟨0, by omega, rfl, Lib.hid (fun t h => by omega), Lib.hid (Below.refl _ _)⟩
          case round =>
            obtain ⟨q, hq, rfl, HT, HX⟩ := hrel
            have hwx := HX.out.size
            obtain ⟨c0, c1⟩ := (HK1.out.below HX.out).c2
            by_cases hqm : q < m
            · have hqi : (q : Int) < (m : Int) := by omega
              have hqP : q < P.length := by rw [← HMM.out]; exact hqm
              have hidx := fun W => idx_str P q hqP W
              have hsl := sl_hi P q (by omega)
              have hlk := ((HMV.out.below HB1.out).below HX.out).look Tryz.underlying60 (zeroBoolT _) (s := P.take q) (by rw [List.length_take]; have := HG.out; omega)
              rw [pathsK_all] at hlk
              have HDA : Hid (dirAt l P q = (decide (P[q] = 47) && decide (P.take q ∈ l.map (·.path)))) := Lib.hid (by unfold dirAt; rw [List.getElem?_eq_getElem hqP]; simp)
              have HST : Hid (dirAt l P q = false → ∀ t, t < q + 1 → dirAt l P t = false) := Lib.hid (fun h t ht => by
                by_cases e : t = q
                · rw [e]; exact h
                · exact HT.out t (by omega))
              have HDB : Hid (dirAt l P q = true → R = 7) := Lib.hid (fun h => HY.out (dirB_true hqP h))
              have HBX := Lib.hid (HB1.out.trans (HX.out.mono HB1.out.size))
              clear HNX HY HT
              by_cases h47 : P[q] = 47
              · have e47 : ((P[q]).toNat : Int) = 47 := by rw [h47]; rfl
                rw [e47] at hidx
                rw [decide_eq_true h47, Bool.true_and] at HDA
                cases hmem : decide (P.take q ∈ l.map (·.path)) with
                | true =>
                  rw [hmem] at hlk HDA
                  have HRF := Lib.hid (HDB.out HDA.out)
                  clear HDA HDB HST h47 e47 hmem
                  go_wp2_with fail
                  go_ret
                  exact ⟨by rw [HRF.out]; rfl, HBV.out.trans (HBX.out.mono (by omega))⟩
                | false =>
                  rw [hmem] at hlk HDA
                  have HTN := Lib.hid (HST.out HDA.out)
                  clear HDA HDB HST h47 e47 hmem
                  go_wp2_with fail
                  go_roundw
                  case rel => exact ⟨q + 1, by omega, by go_num, HTN, HX⟩
                  case measure => simp [intOf] <;> omega
              · have e47 : (((P[q]).toNat : Int) == 47) = false := by
                  have : (P[q]).toNat ≠ 47 := fun e => h47 (UInt8.toNat_inj.1 e)
                  simp; omega
                rw [decide_eq_false h47, Bool.false_and] at HDA
                have HTN := Lib.hid (HST.out HDA.out)
                obtain ⟨cc, hcc⟩ : ∃ cc, cc = ((P[q]).toNat : Int) := ⟨_, rfl⟩
                rw [← hcc] at hidx e47
                have hne : ¬ cc = 47 := by simpa using e47
                clear HDA HDB HST h47 hcc hlk
                go_wp2_with fail
                go_roundw
                case rel => exact ⟨q + 1, by omega, by go_num, HTN, HX⟩
                case measure => simp [intOf] <;> omega
            · obtain rfl : q = m := by omega
              have hqi : ¬ (q : Int) < (q : Int) := by omega
              have HF := Lib.hid (HNX.out (dirB_false HMM.out HT.out))
              have HB2 := Lib.hid (HB1.out.trans (HX.out.mono HB1.out.size))
              clear HNX HY HX HT
              go_wp2_with fail
              go_roundw
              case rel => exact ⟨j + 1, by omega, by go_num, HF, HB2⟩
              case measure => simp [intOf] <;> omega
        · obtain rfl : j = k := by omega
          have hji : ¬ (j : Int) < (j : Int) := by omega
          have HR := Lib.hid (HNO.out (fun q hq => HA.out q hq (by have := HN.out; omega)))
          clear HYES HNO HA
          go_wp2_with fail
          go_ret
          exact ⟨by rw [HR.out]; rfl, HBV.out.trans (HB.out.mono (by omega))⟩
end Go.Proofs.YtceacjnhkcikgaaGreatDoor
