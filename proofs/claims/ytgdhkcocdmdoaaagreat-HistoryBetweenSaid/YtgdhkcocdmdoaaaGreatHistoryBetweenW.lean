/- The walk of the statement HistoryBetween. -/
import Derived.Test.YtgdhkcocdmdoaaaGreatHiLx
namespace Go.Proofs.YtgdhkcocdmdoaaaGreat.historyBetween
open Go.RowKit Go.Shelf
set_option linter.unusedVariables false

theorem vis_skips {xs : List Itm} : ∀ (ps st met : List (Int × Int)), (∀ p ∈ ps, p ∈ met) → visS xs (ps ++ st) met = visS xs st met
  | [], st, met, _ => rfl
  | p :: ps, st, met, h => by
    rw [List.cons_append, visS_cons, if_pos (h p (by simp))]
    exact vis_skips ps st met (fun q hq => h q (by simp [hq]))
/-- What is known to go well may be passed over. -/
theorem vis_closed {xs : List Itm} {M : List (Int × Int)} (hM : ∀ d ∈ M, (commitS xs d).2 = 0 ∧ ∀ p ∈ (commitS xs d).1.pars, p ∈ M) : ∀ (f : Nat) (st met1 met2 : List (Int × Int)), mea xs st met1 ≤ f → (∀ d, d ∉ M → (d ∈ met1 ↔ d ∈ met2)) → (∀ d ∈ M, d ∈ met2) → (visS xs st met1).2 = (visS xs st met2).2
  | f, [], met1, met2, _, _, _ => by rw [visS_nil, visS_nil]
  | 0, d :: st, met1, met2, h, _, _ => by unfold mea at h; simp at h
  | f + 1, d :: st, met1, met2, h, h1, h2 => by
    have hp := mea_pop' xs st met1 d
    rw [visS_cons xs d st met1, visS_cons xs d st met2]
    by_cases hd : d ∈ M
    · rw [if_pos (h2 d hd)]
      by_cases hd1 : d ∈ met1
      · rw [if_pos hd1]
        exact vis_closed hM f st met1 met2 (by omega) h1 h2
      · have hg := mea_hit' (st := st) hd1 (hM d hd).1
        rw [if_neg hd1, if_neg (by rw [(hM d hd).1]; simp)]
        rw [vis_closed hM f _ (met1 ++ [d]) met2 (by omega) (fun e he => by
          rw [List.mem_append, List.mem_singleton, ← h1 e he]
          constructor
          · rintro (h3 | h3)
            · exact h3
            · subst h3; exact absurd hd he
          · exact .inl) h2]
        rw [vis_skips _ st met2 (fun p hp => h2 p ((hM d hd).2 p hp))]
    · by_cases hd1 : d ∈ met1
      · rw [if_pos hd1, if_pos ((h1 d hd).1 hd1)]
        exact vis_closed hM f st met1 met2 (by omega) h1 h2
      · rw [if_neg hd1, if_neg (fun e => hd1 ((h1 d hd).2 e))]
        by_cases he : (commitS xs d).2 = 0
        · have hg := mea_hit' (st := st) hd1 he
          rw [if_neg (by simpa using he), if_neg (by simpa using he)]
          exact vis_closed hM f _ (met1 ++ [d]) (met2 ++ [d]) (by omega) (fun e h3 => by rw [List.mem_append, List.mem_append, h1 e h3]) (fun e h3 => by simp [h2 e h3])
        · rw [if_pos he, if_pos he]
theorem facts {xs : List Itm} (hv : HV xs) {old new : List (Int × Int)} (ho : ∀ d ∈ old, OkD d) (hn : ∀ d ∈ new, OkD d) : ∃ er, (betS xs old new).2 = er ∧ (ancS xs (new ++ old)).2 = er ∧ (er ≠ 0 → (betS xs old new).1 = []) ∧ (er = 0 → (ancS xs old).2 = 0 ∧ (∀ d ∈ (betS xs old new).1, d ∉ (ancS xs old).1 ∧ d ∈ (ancS xs (new ++ old)).1) ∧ (ancS xs old).1.length + (betS xs old new).1.length = (ancS xs (new ++ old)).1.length) ∧ (betS xs old new).1.length ≤ 40 ∧ (ancS xs old).1.length ≤ 40 ∧ (ancS xs (new ++ old)).1.length ≤ 40 := by
  have hle := hv.le
  have hal : ∀ hs : List (Int × Int), (∀ d ∈ hs, OkD d) → (ancS xs hs).1.length ≤ 40 := fun hs hok => by
    unfold ancS
    by_cases h : (visS xs hs []).2 = 0
    · rw [if_neg (by simpa using h)]
      have := (vis_facts h hok).le
      rw [show (sortH (depS xs) (visS xs hs []).1, (0 : Int)).1.length = (visS xs hs []).1.length from (sortH_perm _ _).length_eq]
      omega
    · rw [if_pos h]; simp
  have hno : ∀ d ∈ new ++ old, OkD d := fun d hd => by
    rcases List.mem_append.1 hd with h | h
    · exact hn d h
    · exact ho d h
  have ha := visS_append xs _ new old [] (Nat.le_refl _)
  by_cases e1 : (visS xs new []).2 = 0
  · have hM := (vis_facts e1 hn).cl
    have e3 := vis_closed hM _ old [] (visS xs new []).1 (Nat.le_refl _) (fun d hd => by simp [hd]) (fun d hd => hd)
    rw [if_neg (by simpa using e1)] at ha
    have hea : (visS xs (new ++ old) []).2 = (visS xs old []).2 := by rw [ha, e3]
    by_cases e2 : (visS xs old []).2 = 0
    · have e4 : (visS xs (new ++ old) []).2 = 0 := by rw [hea, e2]
      have hb : betS xs old new = (sortH (depS xs) ((visS xs new []).1.filter fun d => !decide (d ∈ (visS xs old []).1)), 0) := by
        unfold betS
        rw [if_neg (by simpa using e1), if_neg (by simpa using e2)]
      have fo := vis_facts e2 ho
      have fn := vis_facts e1 hn
      have fa := vis_facts e4 hno
      have mm : ∀ d, d ∈ (visS xs (new ++ old) []).1 ↔ d ∈ (visS xs new []).1 ∨ d ∈ (visS xs old []).1 := fun d => by
        rw [vis_anc e4, vis_anc e1, vis_anc e2]
        constructor
        · rintro ⟨s, h1, h2⟩
          rcases List.mem_append.1 h1 with h | h
          · exact .inl ⟨s, h, h2⟩
          · exact .inr ⟨s, h, h2⟩
        · rintro (⟨s, h1, h2⟩ | ⟨s, h1, h2⟩)
          · exact ⟨s, List.mem_append.2 (.inl h1), h2⟩
          · exact ⟨s, List.mem_append.2 (.inr h1), h2⟩
      have lb : (betS xs old new).1.length = ((visS xs new []).1.filter fun d => !decide (d ∈ (visS xs old []).1)).length := by rw [hb]; exact (sortH_perm _ _).length_eq
      have la : ∀ hs : List (Int × Int), (visS xs hs []).2 = 0 → (ancS xs hs).1.length = (visS xs hs []).1.length := fun hs h => by
        unfold ancS
        rw [if_neg (by simpa using h)]
        exact (sortH_perm _ _).length_eq
      have hfl : ((visS xs new []).1.filter fun d => !decide (d ∈ (visS xs old []).1)).length ≤ (visS xs new []).1.length := List.length_filter_le _ _
      have hnd : ((visS xs old []).1 ++ (visS xs new []).1.filter fun d => !decide (d ∈ (visS xs old []).1)).Nodup := by
        rw [List.nodup_append]
        refine ⟨fo.nd, fn.nd.filter _, fun x h1 y h2 e => ?_⟩
        subst e
        have := (List.mem_filter.1 h2).2
        simp [h1] at this
      refine ⟨0, by rw [hb], ancS_ok e4, fun h => absurd rfl h, fun _ => ⟨ancS_ok e2, fun d hd => ?_, ?_⟩, by have := fn.le; omega, hal _ ho, hal _ hno⟩
      · rw [hb] at hd
        have h1 := List.mem_filter.1 ((sortH_perm _ _).mem_iff.1 hd)
        have h2 : d ∉ (visS xs old []).1 := by simpa using h1.2
        refine ⟨fun h3 => h2 ?_, ?_⟩
        · rw [anc_mem e2] at h3
          exact (vis_anc e2).2 h3
        · rw [anc_mem e4]
          exact (vis_anc e4).1 ((mm d).2 (.inl h1.1))
      · rw [lb, la _ e2, la _ e4, ← List.length_append]
        refine Nat.le_antisymm (hnd.length_le_of_subset fun d hd => ?_) (fa.nd.length_le_of_subset fun d hd => ?_)
        · rw [mm]
          rcases List.mem_append.1 hd with h | h
          · exact .inr h
          · exact .inl (List.mem_filter.1 h).1
        · rw [mm] at hd
          rw [List.mem_append, List.mem_filter]
          by_cases h : d ∈ (visS xs old []).1
          · exact .inl h
          · rcases hd with h5 | h5
            · exact .inr ⟨h5, by simp [h]⟩
            · exact .inl h5
    · have hb : betS xs old new = ([], (visS xs old []).2) := by
        unfold betS
        rw [if_neg (by simpa using e1), if_pos e2]
      refine ⟨(visS xs old []).2, by rw [hb], ?_, fun _ => by rw [hb], fun h => absurd h e2, by rw [hb]; simp, hal _ ho, hal _ hno⟩
      rw [ancS_err (by rw [hea]; exact e2)]
      exact hea
  · have hb : betS xs old new = ([], (visS xs new []).2) := by
      unfold betS
      rw [if_pos e1]
    rw [if_pos e1] at ha
    refine ⟨(visS xs new []).2, by rw [hb], ?_, fun _ => by rw [hb], fun h => absurd h e1, by rw [hb]; simp, hal _ ho, hal _ hno⟩
    rw [ancS_err (by rw [ha]; exact e1), ha]

set_option maxRecDepth 100000 in
set_option maxHeartbeats 8000000 in
theorem walk (a : Option Addr) (xs : List Itm) (c : Nat) (oa : Option Addr) (old : List (Int × Int)) (oc : Nat) (ha : Option Addr) (heads : List (Int × Int)) (hc : Nat) (w : World) (hp : PoolCame w a xs c) (ho : Digs w.heap.size w oa old) (hoc : old.length ≤ oc ∧ oc ≤ maxLen) (hoo : ∀ d ∈ old, OkD d) (hh : Digs w.heap.size w ha heads) (hhc : heads.length ≤ hc ∧ hc ≤ maxLen) (hho : ∀ d ∈ heads, OkD d) :
    Calls Tryz.prog 7 #[.slice a xs.length c, .slice oa old.length oc, .slice ha heads.length hc] w fun e w' => e = .returned (.bool true) ∧ Below w.heap.size w w' := by
  have hml := hp.cap
  unfold maxLen at hml hoc hhc
  have hcap : xs.length ≤ c := by omega
  have HVA := Lib.hid (valid13_any a xs c w hp.its (by omega) (fun x hx => by have := (hp.dat x hx).2; unfold maxLen at this; omega))
  have HAW := Lib.hid awake13_any
  have HIT := Lib.hid hp.its
  have HO := Lib.hid ho
  have HH := Lib.hid hh
  have HOO := Lib.hid hoo
  have HHO := Lib.hid hho
  obtain ⟨no, hno⟩ : ∃ n, n = old.length := ⟨_, rfl⟩
  obtain ⟨nh, hnh⟩ : ∃ n, n = heads.length := ⟨_, rfl⟩
  have HNO := Lib.hid hno
  have HNH := Lib.hid hnh
  have hol : (no : Int) ≤ 9223372036854775807 := by omega
  have hhl : (nh : Int) ≤ 9223372036854775807 := by omega
  clear hp hml ho hh hoo hho hoc hhc
  cases hv : validS xs with
  | false =>
    rw [hv] at HVA
    rw [← hno, ← hnh]
    clear hv hcap HIT hno hnh
    generalize xs.length = n at HVA ⊢
    go_enter Tryz.func7, Tryz.ntmps7
    go_wp2_with fail
    (with_reducible refine (HVA.out).mono ?_)
    rintro e u ⟨rfl, hb⟩
    have HB1 := Lib.hid hb
    have HA1 := Lib.hid (HAW.out u)
    clear hb HVA
    go_wp2_with fail
    (with_reducible refine (HA1.out).mono ?_)
    rintro e u2 ⟨rfl, hb⟩
    have HB2 := Lib.hid (HB1.out.trans (hb.mono HB1.out.size))
    clear hb
    go_wp2_with fail
    go_ret
    exact ⟨rfl, HB2.out⟩
  | true =>
    rw [hv] at HVA
    have hV := validS_true hv
    by_cases hlen : no ≤ 10 ∧ nh ≤ 10
    · have HPI := Lib.hid (fun W (hW : Below w.heap.size w W) => hV.pin (W := W) (a := a) (c := c) (HIT.out.ahead hW) hcap)
      have hle := hV.le
      have HAO := Lib.hid (fun W (hW : Below w.heap.size w W) => ancestors_any a xs c oa old oc W (HPI.out W hW) hV.asc hV.acy (HO.out.ahead hW) HOO.out (by omega) (by omega))
      have HBT := Lib.hid (fun W (hW : Below w.heap.size w W) => between_any a xs c oa old oc ha heads hc W (HPI.out W hW) hV.asc hV.acy (HO.out.ahead hW) (HH.out.ahead hW) HOO.out HHO.out (by omega) (by omega) (by omega))
      have HAL := Lib.hid (fun W (hW : Below w.heap.size w W) q cq (hq : Digs W.heap.size W q (heads ++ old)) => ancestors_any a xs c q (heads ++ old) cq W (HPI.out W hW) hV.asc hV.acy hq (fun d hd => by
        rcases List.mem_append.1 hd with h | h
        · exact HHO.out d h
        · exact HOO.out d h) (by omega) (by rw [List.length_append]; omega))
      obtain ⟨er, f1, f2, f3, f4, f5, f6, f7⟩ := facts hV HOO.out HHO.out
      generalize ancS xs old = RO at HAO f4 f6
      generalize betS xs old heads = RB at HBT f1 f3 f4 f5
      generalize ancS xs (heads ++ old) = RA at HAL f2 f4 f7
      obtain ⟨lo, eo⟩ := RO
      obtain ⟨lb, eb⟩ := RB
      obtain ⟨la, ea⟩ := RA
      simp only at HAO HBT HAL f1 f2 f3 f4 f5 f6 f7
      subst f1
      subst f2
      rw [← hno] at HAO HBT ⊢
      rw [← hnh] at HBT ⊢
      have d1 : decide ((10 : Int) < (no : Int)) = false := by simp; omega
      have d2 : decide ((10 : Int) < (nh : Int)) = false := by simp; omega
      have hlo : ¬ (10 : Int) < (no : Int) := by omega
      have hlh : ¬ (10 : Int) < (nh : Int) := by omega
      obtain ⟨n, hn⟩ : ∃ n, n = xs.length := ⟨_, rfl⟩
      rw [← hn] at HVA HAO HBT HAL ⊢
      clear hn hno hnh hv hcap HIT hV HPI hle
      go_enter Tryz.func7, Tryz.ntmps7
      go_wp2_with fail
      (with_reducible refine (HVA.out).mono ?_)
      rintro e u ⟨rfl, hb⟩
      have HB1 := Lib.hid hb
      have HA1 := Lib.hid (HAO.out u hb)
      clear hb HVA HAO
      go_wp2_with fail
      (with_reducible refine (HA1.out).mono ?_)
      rintro e u2 ⟨sa, sc, rfl, hown, hb⟩
      simp only at hown ⊢
      have HB2 := Lib.hid (HB1.out.trans (hb.mono HB1.out.size))
      have HDO2 := Lib.hid (ownsRow_digs hown)
      have HA2 := Lib.hid (HBT.out u2 HB2.out)
      clear hb hown HA1 HB1 HBT
      obtain ⟨nlo, hnlo⟩ : ∃ n, n = lo.length := ⟨_, rfl⟩
      rw [← hnlo]
      have HNLO := Lib.hid hnlo
      clear hnlo
      go_wp2_with fail
      (with_reducible refine (HA2.out).mono ?_)
      rintro e u3 ⟨ba, bc, rfl, hown, hb⟩
      simp only at hown ⊢
      have HB3 := Lib.hid (HB2.out.trans (hb.mono HB2.out.size))
      have HDO3 := Lib.hid (HDO2.out.ahead hb)
      have HDB3 := Lib.hid (ownsRow_digs hown)
      obtain ⟨nlb, hnlb⟩ : ∃ n, n = lb.length := ⟨_, rfl⟩
      rw [← hnlb]
      have HNLB := Lib.hid hnlb
      clear hnlb
      obtain ⟨w4, hw4⟩ : ∃ w4, w4 = u3.alloc (.cells #[] 32) := ⟨_, rfl⟩
      have hb4 : Below u3.heap.size u3 w4 := by rw [hw4]; exact (Below.refl _ _).alloc (Nat.le_refl _) _
      have hoe : w4.ownsRow u3.heap.size 32 2 (.slice (some ⟨u3.heap.size, 0, none⟩) 0 0) 0 [] := by rw [hw4]; exact own_empty _ _ _ _ (Nat.le_refl _)
      obtain ⟨v1, W5, hr1, hown1, hg1, _⟩ := append_digs w4 u3.heap.size 24 _ [] hoe ha heads hc (HH.out.ahead (HB3.out.trans (hb4.mono HB3.out.size))) (by have := HNH.out; simp; omega) hb4.size
      have hb5 : Below u3.heap.size u3 W5 := below_own hb4 hoe hg1 (Nat.le_refl _)
      obtain ⟨v2, W6, hr2, hown2, hg2, _⟩ := append_digs W5 u3.heap.size 24 v1 _ hown1 oa old oc (HO.out.ahead (HB3.out.trans (hb5.mono HB3.out.size))) (by have := HNH.out; have := HNO.out; simp; omega) hb5.size
      have hb6 : Below u3.heap.size u3 W6 := below_own hb5 hown1 hg2 (Nat.le_refl _)
      rw [List.nil_append] at hown2
      obtain ⟨qa, qc, rfl, _⟩ := ownsRow_sliceN hown2
      have HB6 := Lib.hid (HB3.out.trans (hb6.mono HB3.out.size))
      have HA6 := Lib.hid (HAL.out W6 HB6.out qa qc (ownsRow_digs hown2))
      have HDO6 := Lib.hid (HDO3.out.ahead hb6)
      have HDB6 := Lib.hid (HDB3.out.ahead hb6)
      rw [← HNH.out, hw4] at hr1
      rw [← HNO.out] at hr2
      have HR1 := Lib.hid hr1
      have HR2 := Lib.hid hr2
      clear hb hown HA2 HB2 HDO2 hw4 hb4 hoe hown1 hg1 hown2 hg2 hb5 hb6 hr1 hr2 HDO3 HDB3 HB3 HAL
      generalize (heads ++ old).length = nq at HA6 HR2
      have tok1 : True := trivial
      go_wp2_with (at_builtin; first | (have _t := tok1; refine Lib.wpList_append_run _ rfl _ _ _ _ rfl _ _ rfl rfl _ _ HR1.out ?_; clear _t tok1) | (refine Lib.wpList_append_run _ rfl _ _ _ _ rfl _ _ rfl rfl _ _ HR2.out ?_))
      refine (HA6.out).mono ?_
      rintro e u7 ⟨ta, tc, rfl, hown, hb⟩
      simp only at hown ⊢
      have HB7 := Lib.hid (HB6.out.trans (hb.mono HB6.out.size))
      have HDO7 := Lib.hid (HDO6.out.ahead hb)
      have HDB7 := Lib.hid (HDB6.out.ahead hb)
      have HDA7 := Lib.hid (ownsRow_digs hown)
      obtain ⟨nla, hnla⟩ : ∃ n, n = la.length := ⟨_, rfl⟩
      rw [← hnla]
      have HNLA := Lib.hid hnla
      clear hnla
      clear hb hown HA6 HR1 HR2 HB6 HDO6 HDB6
      by_cases he : ea = 0
      · subst he
        obtain ⟨g1, g2, g3⟩ := f4 rfl
        subst g1
        rw [← HNLO.out, ← HNLB.out, ← HNLA.out] at g3
        rw [← HNLB.out] at f5
        rw [← HNLO.out] at f6
        rw [← HNLA.out] at f7
        have HEL := Lib.hid g2
        have HNB := HNLB
        have HHO' := Lib.hid (fun W x y (h : Digs W.heap.size W sa lo) => has13_any sa lo sc x y W h (by rw [← HNLO.out]; omega))
        have HHA' := Lib.hid (fun W x y (h : Digs W.heap.size W ta la) => has13_any ta la tc x y W h (by rw [← HNLA.out]; omega))
        rw [← HNLO.out] at HHO'
        rw [← HNLA.out] at HHA'
        clear f3 f4 g2
        have hsum : (nlo : Int) + (nlb : Int) = (nla : Int) := by omega
        go_wp2_with fail
        go_loopw [80] (fun i wr => ∃ k : Nat, k ≤ nlb ∧ i = .int .i64 k ∧ Hid (Below w.heap.size w wr) ∧ Hid (Digs wr.heap.size wr sa lo) ∧ Hid (Digs wr.heap.size wr ba lb) ∧ Hid (Digs wr.heap.size wr ta la)) (fun i _ => nlb - (intOf i).toNat)
        case atStart => exact ⟨0, by omega, rfl, HB7, HDO7, HDB7, HDA7⟩
        case round =>
          clear HB7 HDO7 HDB7 HDA7
          obtain ⟨k, hk, rfl, HB, HDO, HDB, HDA⟩ := hrel
          by_cases hlt : k < nlb
          · have h1 : k < lb.length := by have := HNB.out; omega
            obtain ⟨b0, of0, haa, hb0, q0, q1⟩ := HDB.out k h1
            have HDBx := HDB
            subst haa
            have hel := HEL.out _ (List.getElem_mem h1)
            generalize lb[k] = d at q0 q1 hel
            obtain ⟨d1, d2⟩ := d
            simp only at q0 q1
            have hbv : Below wr.heap.size wr (wr.alloc (.cells #[.int .u64 d1, .int .u64 d2] 32)) := (Below.refl _ _).alloc (Nat.le_refl _) _
            have HBv := Lib.hid (HB.out.trans (hbv.mono HB.out.size))
            have HC1 := Lib.hid (HHO'.out _ d1 d2 (HDO.out.ahead hbv))
            rw [decide_eq_false hel.1] at HC1
            have HKv := Lib.hid (BK.new wr #[.int .u64 d1, .int .u64 d2] 32)
            have HDOv := Lib.hid (HDO.out.ahead hbv)
            have HDBv := Lib.hid (HDBx.out.ahead hbv)
            have HDAv := Lib.hid (HDA.out.ahead hbv)
            have hla := hel.2
            have hkn : (k : Int) < (nlb : Int) := by omega
            clear hel hbv HDO HDB HDBx HDA HB
            go_wp2_with fail
            refine (HC1.out).mono ?_
            rintro e u8 ⟨rfl, hb⟩
            have HB8 := Lib.hid (HBv.out.trans (hb.mono HBv.out.size))
            have HK8 := Lib.hid (HKv.out.below hb)
            have HC2 := Lib.hid (HHA'.out u8 d1 d2 (HDAv.out.ahead hb))
            rw [decide_eq_true hla] at HC2
            have HDO8 := Lib.hid (HDOv.out.ahead hb)
            have HDB8 := Lib.hid (HDBv.out.ahead hb)
            have HDA8 := Lib.hid (HDAv.out.ahead hb)
            have k0 : u8.cell? ⟨wr.heap.size, 0, none⟩ = some (.int .u64 d1) := by rw [HK8.out.cell]; rfl
            have k1 : u8.cell? ⟨wr.heap.size, 1, none⟩ = some (.int .u64 d2) := by rw [HK8.out.cell]; rfl
            clear hb HC1 HKv HDOv HDBv HDAv HBv q0 q1 hla
            go_wp2_with fail
            refine (HC2.out).mono ?_
            rintro e u9 ⟨rfl, hb⟩
            have HB9 := Lib.hid (HB8.out.trans (hb.mono HB8.out.size))
            have HDO9 := Lib.hid (HDO8.out.ahead hb)
            have HDB9 := Lib.hid (HDB8.out.ahead hb)
            have HDA9 := Lib.hid (HDA8.out.ahead hb)
            clear hb HC2 HB8 HK8 HDO8 HDB8 HDA8 k0 k1
            go_wp2_with fail
            go_roundw
            case rel => exact ⟨k + 1, by omega, by go_num, HB9, HDO9, HDB9, HDA9⟩
            case measure => simp [intOf] <;> omega
          · have hkn : ¬ (k : Int) < (nlb : Int) := by omega
            have HA9 := Lib.hid (HAW.out wr)
            go_wp2_with fail
            refine (HA9.out).mono ?_
            rintro e u9 ⟨rfl, hb⟩
            have HB9 := Lib.hid (HB.out.trans (hb.mono HB.out.size))
            clear hb
            go_wp2_with fail
            go_ret
            exact ⟨rfl, HB9.out⟩
      · have h0 : nlb = 0 := by rw [HNLB.out, f3 he]; rfl
        subst h0
        have e1 : (ea == 0) = false := by simpa using he
        have e2 : (ea != 0) = true := by simpa using he
        have e3 : (ea == ea) = true := by simp
        have HA9 := Lib.hid (HAW.out u7)
        clear f3 f4 he
        go_wp2_with fail
        refine (HA9.out).mono ?_
        rintro e u9 ⟨rfl, hb⟩
        have HB9 := Lib.hid (HB7.out.trans (hb.mono HB7.out.size))
        clear hb
        go_wp2_with fail
        go_ret
        exact ⟨rfl, HB9.out⟩
    · rw [← hno, ← hnh]
      clear hv hcap HIT hno hnh hV
      generalize xs.length = n at HVA ⊢
      by_cases h1 : no ≤ 10
      · have h2 : (10 : Int) < (nh : Int) := by omega
        have h3 : ¬ (10 : Int) < (no : Int) := by omega
        go_enter Tryz.func7, Tryz.ntmps7
        go_wp2_with fail
        (with_reducible refine (HVA.out).mono ?_)
        rintro e u ⟨rfl, hb⟩
        have HB1 := Lib.hid hb
        have HA1 := Lib.hid (HAW.out u)
        clear hb HVA
        go_wp2_with fail
        (with_reducible refine (HA1.out).mono ?_)
        rintro e u2 ⟨rfl, hb⟩
        have HB2 := Lib.hid (HB1.out.trans (hb.mono HB1.out.size))
        clear hb
        go_wp2_with fail
        go_ret
        exact ⟨rfl, HB2.out⟩
      · have h3 : (10 : Int) < (no : Int) := by omega
        go_enter Tryz.func7, Tryz.ntmps7
        go_wp2_with fail
        (with_reducible refine (HVA.out).mono ?_)
        rintro e u ⟨rfl, hb⟩
        have HB1 := Lib.hid hb
        have HA1 := Lib.hid (HAW.out u)
        clear hb HVA
        go_wp2_with fail
        (with_reducible refine (HA1.out).mono ?_)
        rintro e u2 ⟨rfl, hb⟩
        have HB2 := Lib.hid (HB1.out.trans (hb.mono HB1.out.size))
        clear hb
        go_wp2_with fail
        go_ret
        exact ⟨rfl, HB2.out⟩

end Go.Proofs.YtgdhkcocdmdoaaaGreat.historyBetween
