/- The reference's follow and Cycle. -/
import Derived.Test.YtgdhkcocdmdoaaaGreatHiRw
import Derived.Test.YtgdhkcocdmdoaaaGreatHiCy
namespace Go.Proofs.YtgdhkcocdmdoaaaGreat
open Go.RowKit Go.Shelf
set_option linter.unusedVariables false

theorem folS_mea (xs : List Itm) (rest : List (Int × Int)) : ∀ (f : Nat) (st cur : List (Int × Int)), mea xs st cur ≤ f → (folS xs st cur).length + mea xs rest (folS xs st cur) ≤ cur.length + mea xs (st ++ rest) cur
  | f, [], cur, _ => by rw [folS_nil]; exact Nat.le_refl _
  | 0, d :: st, cur, h => by unfold mea at h; simp at h
  | f + 1, d :: st, cur, h => by
    have h1 := mea_pop' xs st cur d
    have h2 := mea_pop' xs (st ++ rest) cur d
    rw [folS_cons, List.cons_append]
    by_cases hd : d ∈ cur
    · rw [if_pos hd]
      have := folS_mea xs rest f st cur (by omega)
      omega
    · rw [if_neg hd]
      have h3 := mea_go (xs := xs) (st := st) hd
      have h4 := mea_go (xs := xs) (st := st ++ rest) hd
      have := folS_mea xs rest f _ (cur ++ [d]) (Nat.le_trans (Nat.le_of_succ_le_succ (Nat.le_trans h3 h)) (Nat.le_refl _))
      rw [List.append_assoc] at this
      simp at this
      omega
theorem folS_le (xs : List Itm) : ∀ (f : Nat) (st cur : List (Int × Int)), mea xs st cur ≤ f → cur.length ≤ (folS xs st cur).length
  | f, [], cur, _ => by rw [folS_nil]; exact Nat.le_refl _
  | 0, d :: st, cur, h => by unfold mea at h; simp at h
  | f + 1, d :: st, cur, h => by
    have h1 := mea_pop' xs st cur d
    rw [folS_cons]
    by_cases hd : d ∈ cur
    · rw [if_pos hd]; exact folS_le xs f st cur (by omega)
    · rw [if_neg hd]
      have h3 := mea_go (xs := xs) (st := st) hd
      have := folS_le xs f _ (cur ++ [d]) (Nat.le_of_succ_le_succ (Nat.le_trans h3 h))
      simp at this
      omega
theorem folS_one (xs : List Itm) (p : Int × Int) (rest cur : List (Int × Int)) (h : p ∉ cur) : folS xs (p :: rest) cur = folS xs rest (folS xs (commitS xs p).1.pars (cur ++ [p])) := by
  rw [folS_cons, if_neg h, folS_append xs _ _ _ _ (Nat.le_refl _)]
theorem at_exit {K : Act → World → Prop} {Q : Exit → Act → World → Prop} {a : Act} (w : World) (h : Exit.then K Q .normal a w) : Exit.then K Q .normal a w := h
def GotFo (w : World) (L : List (Int × Int)) (e : Ending) (w' : World) : Prop := ∃ a c, e = .returned (.slice a L.length c) ∧ Digs w'.heap.size w' a L ∧ L.length ≤ c ∧ Below w.heap.size w w'

set_option maxRecDepth 100000 in
set_option maxHeartbeats 8000000 in
theorem rfollow_any (a : Option Addr) (xs : List Itm) (c : Nat) (hA : Asc xs) (hn : (xs.length : Int) ≤ 1000000) (hd : ∀ x ∈ xs, (x.data.length : Int) ≤ 1000000) :
    ∀ (f : Nat) (sa : Option Addr) (seen : List (Int × Int)) (sc : Nat) (x y : Int) (w : World), Its w.heap.size w a xs → Digs w.heap.size w sa seen → seen.length ≤ sc → ((seen.length + mea xs (commitS xs (x, y)).1.pars seen : Nat) : Int) ≤ 900000 → mea xs (commitS xs (x, y)).1.pars seen ≤ f →
    Calls Tryz.prog 56 #[.slice a xs.length c, .agg #[.int .u64 x, .int .u64 y], .slice sa seen.length sc] w (GotFo w (folS xs (commitS xs (x, y)).1.pars seen)) := by
  intro f
  induction f using Nat.strongRecOn with
  | _ f ih =>
    intro sa seen sc x y w hp hs hsc hsl hf
    have HIH := Lib.hid ih
    clear ih
    have HCO := Lib.hid (fun d1 d2 W (hW : Its W.heap.size W a xs) => rcmt_any a xs c d1 d2 W hW hA hn hd)
    have HP := Lib.hid hp
    have HS := Lib.hid hs
    obtain ⟨R, hR⟩ : ∃ R, R = folS xs (commitS xs (x, y)).1.pars seen := ⟨_, rfl⟩
    rw [← hR]
    obtain ⟨nx, hnn⟩ : ∃ n, n = xs.length := ⟨_, rfl⟩
    rw [← hnn] at HIH HCO ⊢
    obtain ⟨m, hm⟩ : ∃ m, m = seen.length := ⟨_, rfl⟩
    have HM := Lib.hid hm
    have HR := Lib.hid hR
    have HF := Lib.hid hf
    have HSL := Lib.hid hsl
    have HNO : Hid ((commitS xs (x, y)).2 ≠ 0 → (commitS xs (x, y)).1.pars = []) := Lib.hid no_pars
    have HPL : Hid ((commitS xs (x, y)).2 = 0 → (commitS xs (x, y)).1.pars.length ≤ 200) := Lib.hid (fun h => pars_le h)
    obtain ⟨w0, hw0⟩ : ∃ w0, w0 = w.alloc (.cells #[.int .u64 x, .int .u64 y] 32) := ⟨_, rfl⟩
    have HB0 : Hid (Below w.heap.size w w0) := Lib.hid (by rw [hw0]; exact (Below.refl _ w).alloc (Nat.le_refl _) _)
    have HC1 := Lib.hid (HCO.out x y w0 (hp.ahead HB0.out))
    rw [← hm] at hsc ⊢
    rw [hw0] at HC1
    have HW0 := Lib.hid hw0
    generalize commitS xs (x, y) = OE at HC1 HR HF HSL HPL HNO
    obtain ⟨o, er⟩ := OE
    simp only at HC1 HR HF HSL HPL HNO
    clear hw0 hR hm hnn hp hs hf hsl hn hd hA HCO
    go_enter Tryz.func56, Tryz.ntmps56
    go_wp2_with fail
    (with_reducible refine (HC1.out).mono ?_)
    rintro e u2 ⟨ea, ec, pa, pc, rfl, hob, hb⟩
    rw [← HW0.out] at hob hb
    have HB2 := Lib.hid (HB0.out.trans (hb.mono HB0.out.size))
    have HPD := Lib.hid (ownsRow_digs hob.po)
    clear hb hob HC1 HB0 HW0
    obtain ⟨kind, data, ents, ⟨t1, t2⟩, pars, author, time, msg⟩ := o
    simp only [Ob.val]
    simp only at HR HF HSL HPD HPL HNO
    obtain ⟨ne, hne⟩ : ∃ ne, ne = ents.length := ⟨_, rfl⟩
    obtain ⟨n, hnp⟩ : ∃ np, np = pars.length := ⟨_, rfl⟩
    rw [← hne, ← hnp]
    rw [← hnp] at HPL
    have HNP := Lib.hid hnp
    clear hne hnp
    obtain ⟨u3, hu3⟩ : ∃ u3, u3 = u2.alloc (.cells #[.int .i64 kind, .string ⟨data.toArray⟩, .slice ea ne ec, .int .u64 t1, .int .u64 t2, .slice pa n pc, .string ⟨author.toArray⟩, .int .i64 time, .string ⟨msg.toArray⟩] 36) := ⟨_, rfl⟩
    by_cases he : er = 0
    · subst he
      have hpl := HPL.out rfl
      have HKO : Hid (BK u2.heap.size #[.int .i64 kind, .string ⟨data.toArray⟩, .slice ea ne ec, .int .u64 t1, .int .u64 t2, .slice pa n pc, .string ⟨author.toArray⟩, .int .i64 time, .string ⟨msg.toArray⟩] 36 u3) := Lib.hid (by rw [hu3]; exact BK.new _ _ _)
      have HB3 : Hid (Below w.heap.size w u3) := Lib.hid (by rw [hu3]; exact HB2.out.alloc HB2.out.size _)
      have HPD3 : Hid (Digs u3.heap.size u3 pa pars) := Lib.hid (by rw [hu3]; exact HPD.out.ahead ((Below.refl _ _).alloc (Nat.le_refl _) _))
      have HSD3 := Lib.hid (HS.out.ahead HB3.out)
      have HU3 := Lib.hid hu3
      clear hu3 HPL HB2 HPD HNO
      go_wp2_with fail
      rw [← HU3.out]
      clear HU3
      go_loopw [2, 9] (fun v i wr => ∃ (k : Nat) (cur : List (Int × Int)) (ca : Option Addr) (cc q : Nat), k ≤ n ∧ v = .slice ca q cc ∧ Hid (q = cur.length) ∧ q ≤ cc ∧ i = .int .i64 k ∧ Hid (Digs wr.heap.size wr ca cur) ∧ Hid (Below w.heap.size w wr) ∧ Hid (BK u2.heap.size #[.int .i64 kind, .string ⟨data.toArray⟩, .slice ea ne ec, .int .u64 t1, .int .u64 t2, .slice pa n pc, .string ⟨author.toArray⟩, .int .i64 time, .string ⟨msg.toArray⟩] 36 wr) ∧ Hid (Digs wr.heap.size wr pa pars) ∧ Hid (R = folS xs (pars.drop k) cur) ∧ Hid (mea xs (pars.drop k) cur ≤ f ∧ ((q + mea xs (pars.drop k) cur : Nat) : Int) ≤ 900000)) (fun _ i _ => n - (intOf i).toNat)
      case atStart => exact ⟨0, seen, sa, sc, m, by omega, rfl, HM, hsc, rfl, HSD3, HB3, HKO, HPD3, HR, Lib.hid ⟨HF.out, by rw [HM.out]; exact HSL.out⟩⟩
      case round =>
        clear HSD3 HB3 HKO HPD3 HR HF HSL HS HM hsc
        obtain ⟨k, cur, ca, cc, q, hk, rfl, HQ, hqc, rfl, HD, HB, HK, HPX, HR, HF⟩ := hrel
        have o0 : wr.cell? ⟨u2.heap.size, 0, none⟩ = some (.int .i64 kind) := by rw [HK.out.cell]; rfl
        have o1 : wr.cell? ⟨u2.heap.size, 1, none⟩ = some (.string ⟨data.toArray⟩) := by rw [HK.out.cell]; rfl
        have o2 : wr.cell? ⟨u2.heap.size, 2, none⟩ = some (.slice ea ne ec) := by rw [HK.out.cell]; rfl
        have o3 : wr.cell? ⟨u2.heap.size, 3, none⟩ = some (.int .u64 t1) := by rw [HK.out.cell]; rfl
        have o4 : wr.cell? ⟨u2.heap.size, 4, none⟩ = some (.int .u64 t2) := by rw [HK.out.cell]; rfl
        have o5 : wr.cell? ⟨u2.heap.size, 5, none⟩ = some (.slice pa n pc) := by rw [HK.out.cell]; rfl
        have o6 : wr.cell? ⟨u2.heap.size, 6, none⟩ = some (.string ⟨author.toArray⟩) := by rw [HK.out.cell]; rfl
        have o7 : wr.cell? ⟨u2.heap.size, 7, none⟩ = some (.int .i64 time) := by rw [HK.out.cell]; rfl
        have o8 : wr.cell? ⟨u2.heap.size, 8, none⟩ = some (.string ⟨msg.toArray⟩) := by rw [HK.out.cell]; rfl
        by_cases hlt : k < n
        · have h1 : k < pars.length := by have := HNP.out; omega
          obtain ⟨b0, of0, haa, hb0, q0, q1⟩ := HPX.out k h1
          subst haa
          have HDR : Hid (pars.drop k = pars[k] :: pars.drop (k + 1)) := Lib.hid (List.drop_eq_getElem_cons h1)
          have HEL : Hid (∀ (W : World), Digs W.heap.size W (some ⟨b0, of0, none⟩) pars → W.cell? ⟨b0, of0 + k * 2, none⟩ = some (.int .u64 pars[k].1) ∧ W.cell? ⟨b0, of0 + k * 2 + 1, none⟩ = some (.int .u64 pars[k].2)) := Lib.hid (fun W h => by
            obtain ⟨b', o', e', _, c1, c2⟩ := h k h1
            cases e'
            exact ⟨c1, c2⟩)
          generalize pars[k] = p at q0 q1 HDR HEL
          obtain ⟨p1, p2⟩ := p
          simp only at q0 q1 HEL
          have hql : ((q : Nat) : Int) ≤ 900000 := by have := HF.out; omega
          have HIN := Lib.hid (rin_any ca cur cc p1 p2 wr HD.out (by rw [← HQ.out]; omega))
          rw [← HQ.out] at HIN
          have hkn : (k : Int) < (n : Int) := by omega
          cases hin : decide ((p1, p2) ∈ cur) with
          | true =>
            rw [hin] at HIN
            have HR2 : Hid (R = folS xs (pars.drop (k + 1)) cur) := Lib.hid (by rw [HR.out, HDR.out, folS_cons, if_pos (by simpa using hin)])
            have HF2 : Hid (mea xs (pars.drop (k + 1)) cur ≤ f ∧ ((q + mea xs (pars.drop (k + 1)) cur : Nat) : Int) ≤ 900000) := Lib.hid (by
              have h2 := HF.out
              rw [HDR.out] at h2
              have h3 := mea_pop' xs (pars.drop (k + 1)) cur (p1, p2)
              omega)
            clear HR HF HDR hin HEL
            go_wp2_with fail
            (with_reducible refine (HIN.out).mono ?_)
            rintro e w6 ⟨rfl, hb⟩
            have HB6 := Lib.hid (HB.out.trans (hb.mono HB.out.size))
            have HK6 := Lib.hid (HK.out.below hb)
            have HP6 := Lib.hid (HPX.out.ahead hb)
            have HD6 := Lib.hid (HD.out.ahead hb)
            clear hb HIN HB HK HPX HD q0 q1 o0 o1 o2 o3 o4 o5 o6 o7 o8
            go_wp2_with fail
            go_roundw
            case rel => exact ⟨k + 1, cur, ca, cc, q, by omega, rfl, HQ, hqc, by go_num, HD6, HB6, HK6, HP6, HR2, HF2⟩
            case measure => simp [intOf] <;> omega
          | false =>
            rw [hin] at HIN
            have hni : (p1, p2) ∉ cur := by simpa using hin
            have HNI := Lib.hid hni
            clear hin hni
            go_wp2_with fail
            (with_reducible refine (HIN.out).mono ?_)
            rintro e w6 ⟨rfl, hb⟩
            have HB6 := Lib.hid (HB.out.trans (hb.mono HB.out.size))
            have HK6 := Lib.hid (HK.out.below hb)
            have HP6 := Lib.hid (HPX.out.ahead hb)
            have HD6 := Lib.hid (HD.out.ahead hb)
            clear hb HIN HB HK HPX HD q0 q1 o0 o1 o2 o3 o4 o5 o6 o7 o8
            obtain ⟨q0, q1⟩ := HEL.out w6 HP6.out
            obtain ⟨zv1, z1, za, zc, z3, H11, H12, hb1, HF1⟩ := snD1 (c1 := cc) HD6.out p1 p2 (by rw [← HQ.out]; exact hql) HQ.out.symm
            obtain ⟨yv1, y1, ya, yc, y3, H21, H22, hb2, HF2⟩ := snD2 (c1 := cc) HD6.out p1 p2 (by rw [← HQ.out]; exact hql) HQ.out.symm
            obtain ⟨tv1, t1', ta, tc, t3, H31, H32, hb3, HF3⟩ := snD3 (c1 := cc) HD6.out p1 p2 (by rw [← HQ.out]; exact hql) HQ.out.symm
            obtain ⟨zq0, zq1⟩ := HEL.out z1 (HP6.out.ahead hb1)
            have o5 : w6.cell? ⟨u2.heap.size, 5, none⟩ = some (.slice (some ⟨b0, of0, none⟩) n pc) := by rw [HK6.out.cell]; rfl
            have zo5 : z1.cell? ⟨u2.heap.size, 5, none⟩ = some (.slice (some ⟨b0, of0, none⟩) n pc) := by rw [(HK6.out.below hb1).cell]; rfl
            have o5a := fun o => cell_a1 o5 o
            have q0a := fun o => cell_a1 q0 o
            have q1a := fun o => cell_a1 q1 o
            clear hb1 hb2 hb3
            go_wp2_with fail
            go_region_law
              (first
              | ((with_reducible refine step_at ((w6.alloc (.cells #[] 32)).drew) ?_); refine step_append_run (by rfl) (.tmp 34) (.tmp 35) _ _ (by rfl) _ _ (by rfl) (by rfl) _ _ H11.out ?_)
              | ((with_reducible refine step_at (((w6.alloc (.cells #[] 32)).alloc (.cells #[.int .u64 p1, .int .u64 p2] 32)).drew) ?_); refine step_append_run (by rfl) (.tmp 34) (.tmp 35) _ _ (by rfl) _ _ (by rfl) (by rfl) _ _ H21.out ?_)
              | ((with_reducible refine step_at (((w6.alloc (.cells #[.int .u64 p1, .int .u64 p2] 32)).alloc (.cells #[] 32)).drew) ?_); refine step_append_run (by rfl) (.tmp 34) (.tmp 35) _ _ (by rfl) _ _ (by rfl) (by rfl) _ _ H31.out ?_)
              | ((with_reducible refine step_at (z1.alloc (.cells #[.int .u64 p1, .int .u64 p2] 32)) ?_); refine step_append_run (by rfl) (.tmp 36) (.tmp 42) _ _ (by rfl) _ _ (by rfl) (by rfl) _ _ H12.out ?_)
              | ((with_reducible refine step_at y1 ?_); refine step_append_run (by rfl) (.tmp 36) (.tmp 42) _ _ (by rfl) _ _ (by rfl) (by rfl) _ _ H22.out ?_)
              | ((with_reducible refine step_at t1' ?_); refine step_append_run (by rfl) (.tmp 36) (.tmp 42) _ _ (by rfl) _ _ (by rfl) (by rfl) _ _ H32.out ?_)
              | fail)
            all_goals
              first
              | ((with_reducible refine at_exit z3 ?_); have HF9 := HF1; clear HF1 HF2 HF3 H11 H12 H21 H22 H31 H32 zq0 zq1 zo5 o5a q0a q1a; (generalize z3 = w9 at HF9 ⊢); (generalize za = qa at HF9 ⊢); (generalize zc = qc at HF9 ⊢))
              | ((with_reducible refine at_exit y3 ?_); have HF9 := HF2; clear HF1 HF2 HF3 H11 H12 H21 H22 H31 H32 zq0 zq1 zo5 o5a q0a q1a; (generalize y3 = w9 at HF9 ⊢); (generalize ya = qa at HF9 ⊢); (generalize yc = qc at HF9 ⊢))
              | ((with_reducible refine at_exit t3 ?_); have HF9 := HF3; clear HF1 HF2 HF3 H11 H12 H21 H22 H31 H32 zq0 zq1 zo5 o5a q0a q1a; (generalize t3 = w9 at HF9 ⊢); (generalize ta = qa at HF9 ⊢); (generalize tc = qc at HF9 ⊢))
            all_goals
              have HB9 := Lib.hid (HB6.out.trans (HF9.out.2.2.mono HB6.out.size))
              have HK9 := Lib.hid (HK6.out.below HF9.out.2.2)
              have HP9 := Lib.hid (HP6.out.ahead HF9.out.2.2)
              have HL9 : Hid (q + 1 = (cur ++ [(p1, p2)]).length) := Lib.hid (by rw [List.length_append, HQ.out]; rfl)
              have HD9 := Lib.hid (own_digs HL9.out HF9.out.1)
              have hqc9 := HF9.out.2.1
              have HGO : Hid (mea xs ((commitS xs (p1, p2)).1.pars ++ pars.drop (k + 1)) (cur ++ [(p1, p2)]) + 1 ≤ mea xs (pars.drop k) cur) := Lib.hid (by rw [HDR.out]; exact mea_go HNI.out)
              have HLE : Hid (mea xs (commitS xs (p1, p2)).1.pars (cur ++ [(p1, p2)]) ≤ mea xs ((commitS xs (p1, p2)).1.pars ++ pars.drop (k + 1)) (cur ++ [(p1, p2)])) := Lib.hid (by unfold mea; rw [List.length_append]; omega)
              have HV := Lib.hid (HIH.out _ (by have := HGO.out; have := HLE.out; have := HF.out.1; omega) qa (cur ++ [(p1, p2)]) qc p1 p2 w9 (HP.out.ahead HB9.out) HD9.out (by rw [← HL9.out]; exact hqc9) (by rw [← HL9.out]; have := HGO.out; have := HLE.out; have := HF.out.2; omega) (Nat.le_refl _))
              rw [← HL9.out] at HV
              have HR2 : Hid (R = folS xs (pars.drop (k + 1)) (folS xs (commitS xs (p1, p2)).1.pars (cur ++ [(p1, p2)]))) := Lib.hid (by rw [HR.out, HDR.out, folS_one xs _ _ _ HNI.out])
              have HF2 : Hid (mea xs (pars.drop (k + 1)) (folS xs (commitS xs (p1, p2)).1.pars (cur ++ [(p1, p2)])) ≤ f ∧ (((folS xs (commitS xs (p1, p2)).1.pars (cur ++ [(p1, p2)])).length + mea xs (pars.drop (k + 1)) (folS xs (commitS xs (p1, p2)).1.pars (cur ++ [(p1, p2)])) : Nat) : Int) ≤ 900000) := Lib.hid (by
                have h2 := folS_mea xs (pars.drop (k + 1)) _ _ (cur ++ [(p1, p2)]) (Nat.le_refl (mea xs (commitS xs (p1, p2)).1.pars (cur ++ [(p1, p2)])))
                have h3 := folS_le xs _ _ (cur ++ [(p1, p2)]) (Nat.le_refl (mea xs (commitS xs (p1, p2)).1.pars (cur ++ [(p1, p2)])))
                have h4 := HGO.out
                have h5 := HF.out
                have h6 := HL9.out
                omega)
              generalize folS xs (commitS xs (p1, p2)).1.pars (cur ++ [(p1, p2)]) = L2 at HV HR2 HF2
              clear HF9 HB6 HK6 HP6 HD6 HGO HLE HR HF HDR HD9 HL9 HNI o5 q0 q1
              obtain ⟨q0, q1⟩ := HEL.out w9 HP9.out
              have o5 : w9.cell? ⟨u2.heap.size, 5, none⟩ = some (.slice (some ⟨b0, of0, none⟩) n pc) := by rw [HK9.out.cell]; rfl
              clear HEL
              go_wp2_with fail
              refine (HV.out).mono ?_
              rintro e w10 ⟨da, dc, rfl, hdg, hdc, hb⟩
              have HB10 := Lib.hid (HB9.out.trans (hb.mono HB9.out.size))
              have HK10 := Lib.hid (HK9.out.below hb)
              have HP10 := Lib.hid (HP9.out.ahead hb)
              have HD10 := Lib.hid hdg
              obtain ⟨q2, hq2⟩ : ∃ q2, q2 = L2.length := ⟨_, rfl⟩
              rw [← hq2] at HF2 hdc ⊢
              have HQ2 := Lib.hid hq2
              clear hb hdg hq2 HV HB9 HK9 HP9 q0 q1 o5
              go_wp2_with fail
              go_roundw
              case rel => exact ⟨k + 1, L2, da, dc, q2, by omega, rfl, HQ2, hdc, by go_num, HD10, HB10, HK10, HP10, HR2, HF2⟩
              case measure => simp [intOf] <;> omega
        · have HX2 : Hid (R = cur) := Lib.hid (by rw [HR.out, List.drop_of_length_le (by have := HNP.out; omega), folS_nil])
          have hkn : ¬ (k : Int) < (n : Int) := by omega
          clear HR HF
          go_wp2_with fail
          go_ret
          rw [HX2.out]
          exact ⟨ca, cc, by first | (rw [← HQ.out]; done) | (rw [← HQ.out]; rfl), HD.out, by rw [← HQ.out]; exact hqc, HB.out⟩
    · have hee : (er != 0) = true := by simpa using he
      have HX2 : Hid (R = seen) := Lib.hid (by rw [HR.out, HNO.out he, folS_nil])
      have HB3 : Hid (Below w.heap.size w u3) := Lib.hid (by rw [hu3]; exact HB2.out.alloc HB2.out.size _)
      rw [hu3] at HB3
      clear HR HF HSL HPL hu3
      go_wp2_with fail
      go_ret
      rw [HX2.out]
      exact ⟨sa, sc, by first | (rw [← HM.out]; done) | (rw [← HM.out]; rfl), HS.out.ahead HB3.out, by rw [← HM.out]; exact hsc, HB3.out⟩

end Go.Proofs.YtgdhkcocdmdoaaaGreat
