/- The walk of the statement HistoryOrder. -/
import Derived.Test.YtgdhkcocdmdoaaaGreatHiPo
import Derived.Test.YtgdhkcocdmdoaaaGreatHiBa
namespace Go.Proofs.YtgdhkcocdmdoaaaGreat.historyOrder
open Go.RowKit Go.Shelf
set_option linter.unusedVariables false

theorem commit_er (xs : List Itm) (d : Int × Int) : (commitS xs d).2 = 0 ∨ (commitS xs d).2 = 8 ∨ (commitS xs d).2 = 9 := by
  unfold commitS
  split
  · exact .inr (.inl rfl)
  · split
    · exact .inr (.inr rfl)
    · exact .inl rfl
/-- What the law asks of the ancestors. -/
structure OF (xs : List Itm) (heads l : List (Int × Int)) : Prop where
  le : l.length ≤ 40
  hd : ∀ d ∈ heads, d ∈ l
  at_ : ∀ i (h : i < l.length), OkD l[i] ∧ (commitS xs l[i]).2 = 0 ∧ depthS xs l[i] = (((depS xs l[i] : Nat) : Int), (0 : Int)) ∧ depS xs l[i] ≤ 40 ∧ placeS l l[i] = i ∧ depS xs l[i] = ((commitS xs l[i]).1.pars.map fun p => depS xs p + 1).foldl max 0 ∧ ∀ p ∈ (commitS xs l[i]).1.pars, OkD p ∧ depthS xs p = (((depS xs p : Nat) : Int), (0 : Int)) ∧ (i : Int) < placeS l p ∧ depS xs p ≤ 40
  mono : ∀ i j (hij : i < j) (hj : j < l.length), depS xs l[j] ≤ depS xs l[i]
theorem facts {xs : List Itm} (hv : HV xs) {heads : List (Int × Int)} (hok : ∀ d ∈ heads, OkD d) (h : (visS xs heads []).2 = 0) : OF xs heads (ancS xs heads).1 := by
  have hf := vis_facts h hok
  have hp := sortH_perm (depS xs) (visS xs heads []).1
  have hasc := sortH_asc (dep := depS xs) hf.nd
  have hl : (ancS xs heads).1 = sortH (depS xs) (visS xs heads []).1 := by
    unfold ancS; rw [if_neg (by simpa using h)]
  rw [hl]
  generalize sortH (depS xs) (visS xs heads []).1 = l at hp hasc
  have hm : ∀ {d}, d ∈ l ↔ d ∈ (visS xs heads []).1 := hp.mem_iff
  have hnd : l.Nodup := hp.nodup_iff.2 hf.nd
  have hdl : ∀ d, depS xs d ≤ 40 := fun d => by
    have := dep_rk hv.acy _ d (Nat.le_refl _); have := rk_le xs d; have := hv.le; omega
  have hdo : ∀ d ∈ l, depthS xs d = (((depS xs d : Nat) : Int), (0 : Int)) := fun d hd => by
    have h2 := vis_sub h (gs := [d]) (fun g hg => by rw [List.mem_singleton.1 hg]; exact hm.1 hd)
    unfold depthS
    rw [if_neg (by simpa using h2)]
  have hpl : ∀ i (hi : i < l.length), placeS l l[i] = i := fun i hi => placeS_at hi (fun hh => by
    obtain ⟨j, hj, he⟩ := List.mem_iff_getElem.1 hh
    rw [List.length_take] at hj
    rw [List.getElem_take] at he
    exact absurd ((List.getElem_inj hnd).1 he) (by omega))
  have hmono : ∀ i j (hij : i < j) (hj : j < l.length), depS xs l[j] ≤ depS xs l[i] := fun i j hij hj => by
    have := cmpH_lt.1 ((List.pairwise_iff_getElem.1 hasc) i j (by omega) hj hij)
    omega
  refine ⟨by rw [hp.length_eq]; have := hf.le; have := hv.le; omega, fun d hd => hm.2 ((vis_anc h).2 ⟨d, hd, .refl d⟩), fun i hi => ?_, hmono⟩
  have hmem := hm.1 (List.getElem_mem hi)
  refine ⟨hf.ok _ hmem, (hf.cl _ hmem).1, hdo _ (List.getElem_mem hi), hdl _, hpl i hi, depS_eq hv.acy _, fun p hpp => ?_⟩
  have hpm := (hf.cl _ hmem).2 p hpp
  have hpl2 := hm.2 hpm
  refine ⟨hf.ok _ hpm, hdo _ hpl2, ?_, hdl _⟩
  obtain ⟨j, hj, he⟩ := List.mem_iff_getElem.1 hpl2
  have hdp := dep_par hv.acy hpp
  rw [← he, hpl j hj]
  rw [← he] at hdp
  by_cases hji : j < i
  · have := hmono j i hji hi
    omega
  · by_cases e : j = i
    · subst e; omega
    · omega
theorem digs_at {N : Nat} {W : World} {b o : Nat} {l : List (Int × Int)} (h : Digs N W (some ⟨b, o, none⟩) l) {i : Nat} (hi : i < l.length) : W.cell? ⟨b, o + i * 2, none⟩ = some (.int .u64 l[i].1) ∧ W.cell? ⟨b, o + i * 2 + 1, none⟩ = some (.int .u64 l[i].2) := by
  obtain ⟨b0, of0, haa, hb0, q0, q1⟩ := h i hi
  cases haa
  exact ⟨q0, q1⟩

set_option maxRecDepth 100000 in
set_option maxHeartbeats 8000000 in
theorem walk (a : Option Addr) (xs : List Itm) (c : Nat) (ha : Option Addr) (heads : List (Int × Int)) (hc : Nat) (w : World) (hp : PoolCame w a xs c) (hh : Digs w.heap.size w ha heads) (hhc : heads.length ≤ hc ∧ hc ≤ maxLen) (hho : ∀ d ∈ heads, OkD d) :
    Calls Tryz.prog 3 #[.slice a xs.length c, .slice ha heads.length hc] w fun e w' => e = .returned (.bool true) ∧ Below w.heap.size w w' := by
  have hml := hp.cap
  unfold maxLen at hml hhc
  have hcap : xs.length ≤ c := by omega
  have HVA := Lib.hid (valid13_any a xs c w hp.its (by omega) (fun x hx => by have := (hp.dat x hx).2; unfold maxLen at this; omega))
  have HAW := Lib.hid awake13_any
  have HIT := Lib.hid hp.its
  have HH := Lib.hid hh
  have HHO := Lib.hid hho
  obtain ⟨nh, hnh⟩ : ∃ n, n = heads.length := ⟨_, rfl⟩
  have HNH := Lib.hid hnh
  have hhl : (nh : Int) ≤ 9223372036854775807 := by omega
  clear hp hml hh hho hhc
  cases hv : validS xs with
  | false =>
    rw [hv] at HVA
    rw [← hnh]
    clear hv hcap HIT hnh
    generalize xs.length = n at HVA ⊢
    go_enter Tryz.func3, Tryz.ntmps3
    go_wp2_with fail
    (with_reducible refine (HVA.out).mono ?_)
    rintro e u ⟨rfl, hb⟩
    have HB1 := Lib.hid hb
    have HA1 := Lib.hid (HAW.out u)
    clear hb HVA
    go_wp2_with fail
    (with_reducible refine (HA1.out).mono ?_)
    rintro e u2 ⟨rfl, hb⟩
    have HB2 := Lib.hid (HB1.out.trans (hb.mono HB1.out.size))
    clear hb
    go_wp2_with fail
    go_ret
    exact ⟨rfl, HB2.out⟩
  | true =>
    rw [hv] at HVA
    have hV := validS_true hv
    by_cases hlen : nh ≤ 10
    · have HPI := Lib.hid (fun W (hW : Below w.heap.size w W) => hV.pin (W := W) (a := a) (c := c) (HIT.out.ahead hW) hcap)
      have hle := hV.le
      have HAN := Lib.hid (fun W (hW : Below w.heap.size w W) => ancestors_any a xs c ha heads hc W (HPI.out W hW) hV.asc hV.acy (HH.out.ahead hW) HHO.out (by omega) (by omega))
      have HCO := Lib.hid (fun W p q (hW : Below w.heap.size w W) => commit_any a xs c p q W (HPI.out W hW) hV.asc)
      have HDE := Lib.hid (fun W p q (hW : Below w.heap.size w W) (hk : OkD (p, q)) => depth_any a xs c p q W (HPI.out W hW) hV.asc hV.acy hk (by omega))
      have d1 : decide ((10 : Int) < (nh : Int)) = false := by simp; omega
      have hlh : ¬ (10 : Int) < (nh : Int) := by omega
      by_cases he : (visS xs heads []).2 = 0
      · have HF := Lib.hid (facts hV HHO.out he)
        have h0 := ancS_ok he
        generalize ancS xs heads = RA at HAN HF h0
        obtain ⟨l, ea⟩ := RA
        simp only at HAN HF h0
        subst h0
        have hll := HF.out.le
        have HAS := Lib.hid (fun sa sc W p q (h : Digs W.heap.size W sa l) => has13_any sa l sc p q W h (by omega))
        have HPL := Lib.hid (fun sa sc W p q (h : Digs W.heap.size W sa l) => place13_any sa l sc p q W h (by omega))
        obtain ⟨nl, hnl⟩ : ∃ n, n = l.length := ⟨_, rfl⟩
        rw [← hnh] at HAN ⊢
        rw [← hnl] at HAS HPL hll
        have HNL := Lib.hid hnl
        generalize xs.length = n at HVA HAN HCO HDE ⊢
        clear hnl hnh hv hcap HIT hV HPI hle he
        go_enter Tryz.func3, Tryz.ntmps3
        go_wp2_with fail
        (with_reducible refine (HVA.out).mono ?_)
        rintro e u ⟨rfl, hb⟩
        have HB1 := Lib.hid hb
        have HA1 := Lib.hid (HAN.out u hb)
        clear hb HVA HAN
        go_wp2_with fail
        (with_reducible refine (HA1.out).mono ?_)
        rintro e u2 ⟨sa, sc, rfl, hown, hb⟩
        simp only at hown ⊢
        rw [← HNL.out] at ⊢
        have HB2 := Lib.hid (HB1.out.trans (hb.mono HB1.out.size))
        have HDL2 := Lib.hid (ownsRow_digs hown)
        have HDH2 := Lib.hid (HH.out.ahead HB2.out)
        clear hb hown HA1 HB1
        go_wp2_with fail
        go_loopw [53] (fun i wr => ∃ k : Nat, k ≤ nh ∧ i = .int .i64 k ∧ Hid (Below w.heap.size w wr) ∧ Hid (Digs wr.heap.size wr sa l) ∧ Hid (Digs wr.heap.size wr ha heads)) (fun i _ => nh - (intOf i).toNat)
        case atStart => exact ⟨0, by omega, rfl, HB2, HDL2, HDH2⟩
        case round =>
          clear HB2 HDL2 HDH2
          obtain ⟨k, hk, rfl, HB, HDL, HDH⟩ := hrel
          by_cases hlt : k < nh
          · have h1 : k < heads.length := by have := HNH.out; omega
            obtain ⟨b0, of0, haa, hb0, q0, q1⟩ := HDH.out k h1
            have HDHx := HDH
            subst haa
            have hel := HF.out.hd _ (List.getElem_mem h1)
            generalize heads[k] = d at q0 q1 hel
            obtain ⟨d1, d2⟩ := d
            simp only at q0 q1
            have hbv : Below wr.heap.size wr (wr.alloc (.cells #[.int .u64 d1, .int .u64 d2] 32)) := (Below.refl _ _).alloc (Nat.le_refl _) _
            have HBv := Lib.hid (HB.out.trans (hbv.mono HB.out.size))
            have HC1 := Lib.hid (HAS.out sa sc _ d1 d2 (HDL.out.ahead hbv))
            rw [decide_eq_true hel] at HC1
            have HDLv := Lib.hid (HDL.out.ahead hbv)
            have HDHv := Lib.hid (HDHx.out.ahead hbv)
            have hkn : (k : Int) < (nh : Int) := by omega
            clear hel hbv HDL HDH HDHx HB
            go_wp2_with fail
            refine (HC1.out).mono ?_
            rintro e u8 ⟨rfl, hb⟩
            have HB8 := Lib.hid (HBv.out.trans (hb.mono HBv.out.size))
            have HDL8 := Lib.hid (HDLv.out.ahead hb)
            have HDH8 := Lib.hid (HDHv.out.ahead hb)
            clear hb HC1 HDLv HDHv HBv q0 q1
            go_wp2_with fail
            go_roundw
            case rel => exact ⟨k + 1, by omega, by go_num, HB8, HDL8, HDH8⟩
            case measure => simp [intOf] <;> omega
          · have hkn : ¬ (k : Int) < (nh : Int) := by omega
            obtain ⟨x0, hx0⟩ : ∃ x0, x0 = wr := ⟨_, rfl⟩
            rw [← hx0] at HB HDL ⊢
            clear HDH hx0
            have HB3 := HB
            have HDL3 := HDL
            clear HB HDL
            go_wp2_with fail
            go_loopw [9, 10] (fun v i wr => ∃ (k : Nat) (last : Int), k ≤ nl ∧ v = .int .i64 last ∧ i = .int .i64 ((k : Int) - 1) ∧ Hid (∀ j (h : j < l.length), j < k → last ≤ (depS xs l[j] : Nat)) ∧ Hid (Below w.heap.size w wr) ∧ Hid (Digs wr.heap.size wr sa l)) (fun _ i _ => (intOf i + 1).toNat)
            case atStart => exact ⟨nl, -1, by omega, rfl, by go_num, Lib.hid (fun j h hj => by omega), HB3, HDL3⟩
            case round =>
              clear HB3 HDL3
              obtain ⟨k, last, hk, rfl, rfl, HLA, HB, HDL⟩ := hrel
              by_cases hlt : 0 < k
              · obtain ⟨i, rfl⟩ : ∃ i, k = i + 1 := ⟨k - 1, by omega⟩
                have h1 : i < l.length := by have := HNL.out; omega
                have hix : ((i + 1 : Nat) : Int) - 1 = (i : Int) := by omega
                rw [hix]
                obtain ⟨b0, of0, haa, hb0, q0, q1⟩ := HDL.out i h1
                subst haa
                obtain ⟨g1, g2, g3, g4, g5, g6, g7⟩ := HF.out.at_ i h1
                have hla := HLA.out i h1 (by omega)
                have HLA2 : Hid (∀ j (h : j < l.length), j < i → ((depS xs l[i] : Nat) : Int) ≤ (depS xs l[j] : Nat)) := Lib.hid (fun j h hj => by have := HF.out.mono j i hj h1; omega)
                have HCL := Lib.hid (fun W (h : Digs W.heap.size W (some ⟨b0, of0, none⟩) l) => digs_at h h1)
                generalize l[i] = d at q0 q1 g1 g2 g3 g4 g5 g6 g7 hla HLA2 HCL
                obtain ⟨d1, d2⟩ := d
                simp only at q0 q1 HCL
                have HC1 := Lib.hid (HCO.out wr d1 d2 HB.out)
                rw [g2] at HC1
                have HC2 := Lib.hid (fun W hW => HDE.out W d1 d2 hW g1)
                rw [g3] at HC2
                simp only at HC2
                have HC3 := Lib.hid (fun W hW => HPL.out (some ⟨b0, of0, none⟩) sc W d1 d2 hW)
                rw [g5] at HC3
                generalize depS xs (d1, d2) = dd at HC2 hla HLA2 g4 g6
                obtain ⟨o, ho⟩ : ∃ o, o = (commitS xs (d1, d2)).1 := ⟨_, rfl⟩
                rw [← ho] at HC1 g6 g7
                obtain ⟨kind, data, ents, ⟨t1, t2⟩, pars, author, time, msg⟩ := o
                simp only at g6 g7
                have G6 := Lib.hid g6
                have G7 := Lib.hid g7
                clear ho g1 g2 g3 g5 g6 g7 HLA
                have hii : (i : Int) ≤ 40 := by omega
                have hin : (i : Int) < (nl : Int) := by omega
                have hdl : ¬ (dd : Int) < last := by omega
                have hi0 : ¬ (i : Int) < 0 := by omega
                go_wp2_with fail
                refine (HC1.out).mono ?_
                rintro e u3 ⟨ea, ec, pa, pc, rfl, hob, hb⟩
                simp only [Ob.val]
                have hpl200 : (pars.length : Int) ≤ 1000 := hob.bb.plen
                obtain ⟨np, hnp⟩ : ∃ n, n = pars.length := ⟨_, rfl⟩
                rw [← hnp] at hpl200 ⊢
                have HNP := Lib.hid hnp
                generalize ents.length = ne
                obtain ⟨v3, hv3⟩ : ∃ v3, v3 = u3.alloc (.cells #[.int .i64 kind, .string ⟨data.toArray⟩, .slice ea ne ec, .int .u64 t1, .int .u64 t2, .slice pa np pc, .string ⟨author.toArray⟩, .int .i64 time, .string ⟨msg.toArray⟩] 36) := ⟨_, rfl⟩
                have hbv : Below u3.heap.size u3 v3 := by rw [hv3]; exact (Below.refl _ _).alloc (Nat.le_refl _) _
                have HB4 := Lib.hid (HB.out.trans ((hb.trans (hbv.mono hb.size)).mono HB.out.size))
                have HDL4 := Lib.hid (HDL.out.ahead (hb.trans (hbv.mono hb.size)))
                have HDP4 := Lib.hid ((ownsRow_digs hob.po).ahead hbv)
                have HKO4 : Hid (BK u3.heap.size #[.int .i64 kind, .string ⟨data.toArray⟩, .slice ea ne ec, .int .u64 t1, .int .u64 t2, .slice pa np pc, .string ⟨author.toArray⟩, .int .i64 time, .string ⟨msg.toArray⟩] 36 v3) := Lib.hid (by rw [hv3]; exact BK.new _ _ _)
                have HD4 := Lib.hid (HC2.out v3 HB4.out)
                obtain ⟨q2, q3⟩ := HCL.out v3 HDL4.out
                rw [hv3] at HD4 q2 q3
                have HV3 := Lib.hid hv3
                clear hob hb hbv hv3 hnp HC1 HC2 HB HDL q0 q1
                go_wp2_with fail
                refine (HD4.out).mono ?_
                rintro e u5 ⟨rfl, hb⟩
                rw [← HV3.out] at hb
                have HB5 := Lib.hid (HB4.out.trans (hb.mono HB4.out.size))
                have HDL5 := Lib.hid (HDL4.out.ahead hb)
                have HDP5 := Lib.hid (HDP4.out.ahead hb)
                have HKO5 := Lib.hid (HKO4.out.below hb)
                have HP5 := Lib.hid (HC3.out u5 HDL5.out)
                clear hb HB4 HDL4 HDP4 HKO4 HD4 HV3 q2 q3 HC3
                obtain ⟨q2, q3⟩ := HCL.out u5 HDL5.out
                go_wp2_with fail
                refine (HP5.out).mono ?_
                rintro e u6 ⟨rfl, hb⟩
                have HB6 := Lib.hid (HB5.out.trans (hb.mono HB5.out.size))
                have HDL6 := Lib.hid (HDL5.out.ahead hb)
                have HDP6 := Lib.hid (HDP5.out.ahead hb)
                have HKO6 := Lib.hid (HKO5.out.below hb)
                have k5 : u6.cell? ⟨u3.heap.size, 5, none⟩ = some (.slice pa np pc) := by rw [HKO6.out.cell]; rfl
                clear hb HB5 HDL5 HDP5 HKO5 HP5 q2 q3 HCL
                go_wp2_with fail
                go_loopw [15, 112] (fun v i' wr => ∃ j m : Nat, j ≤ np ∧ v = .int .i64 (m : Int) ∧ m ≤ 41 ∧ Hid (m = ((pars.take j).map fun p => depS xs p + 1).foldl max 0) ∧ i' = .int .i64 j ∧ Hid (Below w.heap.size w wr) ∧ Hid (Digs wr.heap.size wr (some ⟨b0, of0, none⟩) l) ∧ Hid (Digs wr.heap.size wr pa pars)) (fun _ i' _ => np - (intOf i').toNat)
                case atStart => exact ⟨0, 0, by omega, rfl, by omega, Lib.hid rfl, rfl, HB6, HDL6, HDP6⟩
                case round =>
                  clear HB6 HDL6 HDP6 HKO6 k5
                  obtain ⟨j, m, hj, rfl, hm5, HM, rfl, HB, HDL, HDP⟩ := hrel
                  by_cases hlt : j < np
                  · have hj1 : j < pars.length := by have := HNP.out; omega
                    obtain ⟨b2, of2, haa, hb2, q0, q1⟩ := HDP.out j hj1
                    have HDPx := HDP
                    subst haa
                    have HTK : Hid (((pars.take (j + 1)).map fun p => depS xs p + 1).foldl max 0 = max m (depS xs pars[j] + 1)) := Lib.hid (by rw [List.take_succ_eq_append_getElem hj1, List.map_append, HM.out]; exact foldl_snoc_max _ _)
                    obtain ⟨g1, g2, g3, g4⟩ := G7.out _ (List.getElem_mem hj1)
                    generalize pars[j] = p at q0 q1 HTK g1 g2 g3 g4
                    obtain ⟨p1, p2⟩ := p
                    simp only at q0 q1
                    obtain ⟨v7, hv7⟩ : ∃ v7, v7 = wr.alloc (.cells #[.int .u64 p1, .int .u64 p2] 32) := ⟨_, rfl⟩
                    have hbv : Below wr.heap.size wr v7 := by rw [hv7]; exact (Below.refl _ _).alloc (Nat.le_refl _) _
                    have HB7 := Lib.hid (HB.out.trans (hbv.mono HB.out.size))
                    have HDL7 := Lib.hid (HDL.out.ahead hbv)
                    have HDP7 := Lib.hid (HDPx.out.ahead hbv)
                    have HK7 : Hid (BK wr.heap.size #[.int .u64 p1, .int .u64 p2] 32 v7) := Lib.hid (by rw [hv7]; exact BK.new _ _ _)
                    have HD7 := Lib.hid (HDE.out v7 p1 p2 HB7.out g1)
                    rw [g2, hv7] at HD7
                    simp only at HD7
                    have HV7 := Lib.hid hv7
                    have HPI := Lib.hid (fun W hW => HPL.out (some ⟨b0, of0, none⟩) sc W p1 p2 hW)
                    generalize placeS l (p1, p2) = pp at HPI g3
                    generalize depS xs (p1, p2) = dp at HD7 HTK g4
                    have hjn : (j : Int) < (np : Int) := by omega
                    have hpp : ¬ pp ≤ (i : Int) := by omega
                    clear HB HDL HDP HDPx hbv hv7 g1 g2
                    go_wp2_with fail
                    refine (HD7.out).mono ?_
                    rintro e u8 ⟨rfl, hb⟩
                    rw [← HV7.out] at hb
                    have HB8 := Lib.hid (HB7.out.trans (hb.mono HB7.out.size))
                    have HDL8 := Lib.hid (HDL7.out.ahead hb)
                    have HDP8 := Lib.hid (HDP7.out.ahead hb)
                    have HK8 := Lib.hid (HK7.out.below hb)
                    have HP8 := Lib.hid (HPI.out u8 HDL8.out)
                    have k0 : u8.cell? ⟨wr.heap.size, 0, none⟩ = some (.int .u64 p1) := by rw [HK8.out.cell]; rfl
                    have k1 : u8.cell? ⟨wr.heap.size, 1, none⟩ = some (.int .u64 p2) := by rw [HK8.out.cell]; rfl
                    clear hb HB7 HDL7 HDP7 HK7 HD7 HV7 HPI q0 q1
                    go_wp2_with fail
                    refine (HP8.out).mono ?_
                    rintro e u9 ⟨rfl, hb⟩
                    have HB9 := Lib.hid (HB8.out.trans (hb.mono HB8.out.size))
                    have HDL9 := Lib.hid (HDL8.out.ahead hb)
                    have HDP9 := Lib.hid (HDP8.out.ahead hb)
                    clear hb HB8 HDL8 HDP8 HK8 HP8 k0 k1
                    have hmx : (m : Int) ≤ 41 := by omega
                    have hdpx : (dp : Int) ≤ 40 := by omega
                    by_cases hlt2 : m < dp + 1
                    · have e1 : max m (dp + 1) = dp + 1 := by omega
                      rw [e1] at HTK
                      have hi : (m : Int) < (dp : Int) + 1 := by omega
                      have HM3 := Lib.hid HTK.out.symm
                      clear HTK e1
                      go_wp2_with fail
                      go_roundw
                      case rel => exact ⟨j + 1, dp + 1, by omega, by go_num, by omega, HM3, by go_num, HB9, HDL9, HDP9⟩
                      case measure => simp [intOf] <;> omega
                    · have e1 : max m (dp + 1) = m := by omega
                      rw [e1] at HTK
                      have hi : ¬ (m : Int) < (dp : Int) + 1 := by omega
                      have HM3 := Lib.hid HTK.out.symm
                      clear HTK e1
                      go_wp2_with fail
                      go_roundw
                      case rel => exact ⟨j + 1, m, by omega, by go_num, by omega, HM3, by go_num, HB9, HDL9, HDP9⟩
                      case measure => simp [intOf] <;> omega
                  · have hmd : dd = m := by rw [G6.out, HM.out, List.take_of_length_le (by have := HNP.out; omega)]
                    subst hmd
                    have hjn : ¬ (j : Int) < (np : Int) := by omega
                    go_wp2_with fail
                    go_roundw
                    case rel => exact ⟨i, dd, by omega, by go_num, by go_num, HLA2, HB, HDL⟩
                    case measure => simp [intOf] <;> omega
              · have hk0 : k = 0 := by omega
                subst hk0
                have HA9 := Lib.hid (HAW.out wr)
                go_wp2_with fail
                refine (HA9.out).mono ?_
                rintro e u9 ⟨rfl, hb⟩
                have HB9 := Lib.hid (HB.out.trans (hb.mono HB.out.size))
                clear hb
                go_wp2_with fail
                go_ret
                exact ⟨rfl, HB9.out⟩
      · rw [ancS_err he] at HAN
        have hee : (visS xs heads []).2 = 8 ∨ (visS xs heads []).2 = 9 := by
          obtain ⟨_, s, _, d, _, _, h5⟩ := visS_bad xs _ heads [] (Nat.le_refl _) he
          rw [← h5]
          rcases commit_er xs d with h | h | h
          · rw [h] at h5; exact absurd h5.symm he
          · exact .inl h
          · exact .inr h
        generalize (visS xs heads []).2 = er at HAN hee
        rw [← hnh] at HAN ⊢
        generalize xs.length = n at HVA HAN HCO HDE ⊢
        clear hnh hv hcap HIT hV HPI hle he HCO HDE HHO HH HNH
        rcases hee with rfl | rfl
        all_goals
          go_enter Tryz.func3, Tryz.ntmps3
          go_wp2_with fail
          (with_reducible refine (HVA.out).mono ?_)
          rintro e u ⟨rfl, hb⟩
          have HB1 := Lib.hid hb
          have HA1 := Lib.hid (HAN.out u hb)
          clear hb HVA HAN
          go_wp2_with fail
          (with_reducible refine (HA1.out).mono ?_)
          rintro e u2 ⟨sa, sc, rfl, hown, hb⟩
          simp only [List.length_nil] at hown ⊢
          have HB2 := Lib.hid (HB1.out.trans (hb.mono HB1.out.size))
          have HA2 := Lib.hid (HAW.out u2)
          clear hb hown HA1 HB1
          go_wp2_with fail
          (with_reducible refine (HA2.out).mono ?_)
          rintro e u3 ⟨rfl, hb⟩
          have HB3 := Lib.hid (HB2.out.trans (hb.mono HB2.out.size))
          clear hb
          go_wp2_with fail
          go_ret
          exact ⟨rfl, HB3.out⟩
    · rw [← hnh]
      have h3 : (10 : Int) < (nh : Int) := by omega
      clear hnh hv hcap HIT hV
      generalize xs.length = n at HVA ⊢
      go_enter Tryz.func3, Tryz.ntmps3
      go_wp2_with fail
      (with_reducible refine (HVA.out).mono ?_)
      rintro e u ⟨rfl, hb⟩
      have HB1 := Lib.hid hb
      have HA1 := Lib.hid (HAW.out u)
      clear hb HVA
      go_wp2_with fail
      (with_reducible refine (HA1.out).mono ?_)
      rintro e u2 ⟨rfl, hb⟩
      have HB2 := Lib.hid (HB1.out.trans (hb.mono HB1.out.size))
      clear hb
      go_wp2_with fail
      go_ret
      exact ⟨rfl, HB2.out⟩
end Go.Proofs.YtgdhkcocdmdoaaaGreat.historyOrder
