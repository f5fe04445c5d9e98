/- The walk of the statement HistoryBases. -/
import Derived.Test.YtgdhkcocdmdoaaaGreatHiSm
import Derived.Test.YtgdhkcocdmdoaaaGreatHiBs
import Derived.Test.YtgdhkcocdmdoaaaGreatHiBa
namespace Go.Proofs.YtgdhkcocdmdoaaaGreat.historyBases
open Go.RowKit Go.Shelf
set_option linter.unusedVariables false

/-- What the law asks of the bases. -/
structure BF (xs : List Itm) (b : Int × Int) (lx ly l : List (Int × Int)) : Prop where
  le : l.length ≤ 40
  lex : lx.length ≤ 40
  ley : ly.length ≤ 40
  okx : ∀ d ∈ lx, OkD d
  sub : ∀ d ∈ l, d ∈ lx ∧ d ∈ ly
  rch : ∀ d ∈ l, ∀ e, ∃ q, reachesS xs d e = (q, 0) ∧ (q = true → e ≠ d → e ∉ l)
  found : ∀ d ∈ lx, d ∈ ly → ∃ e ∈ l, (reachesS xs e d).1 = true
  one : b ∈ lx → l = [b]

theorem commons {xs : List Itm} {a b : Int × Int} (ha : (visS xs [a] []).2 = 0) (hb : (visS xs [b] []).2 = 0) {d : Int × Int} : (d ∈ (visS xs [a] []).1 ∧ d ∈ (visS xs [b] []).1) ↔ Anc xs a d ∧ Anc xs b d := by rw [vis_anc1 ha, vis_anc1 hb]
theorem bases_mem {xs : List Itm} (hv : HV xs) {a b : Int × Int} (ha : (visS xs [a] []).2 = 0) (hb : (visS xs [b] []).2 = 0) {d : Int × Int} : d ∈ basesL xs (visS xs [a] []).1 (visS xs [b] []).1 ↔ (Anc xs a d ∧ Anc xs b d) ∧ ¬ ∃ c, (Anc xs a c ∧ Anc xs b c) ∧ c ≠ d ∧ Anc xs c d := by
  have hw := worse_iff hv.acy (C := fun c => Anc xs a c ∧ Anc xs b c) (fun c d h1 h2 => ⟨h1.1.trans h2, h1.2.trans h2⟩) (fun c h => vis_ok ha ((vis_anc1 ha).2 h.1)) d
  unfold basesL
  rw [(sortS_perm _).mem_iff, List.mem_filter, ← hw, vis_anc1 ha]
  unfold worseS
  simp only [vis_anc1 ha, vis_anc1 hb, Bool.and_eq_true, decide_eq_true_eq, Bool.not_eq_true', decide_eq_false_iff_not]
  constructor
  · rintro ⟨h1, h2, h3⟩
    exact ⟨⟨h1, h2⟩, fun ⟨c, h4, h5⟩ => h3 ⟨c, h4.1, h4.2, h5⟩⟩
  · rintro ⟨⟨h1, h2⟩, h3⟩
    exact ⟨h1, h2, fun ⟨c, h4, h5, h6⟩ => h3 ⟨c, ⟨h4, h5⟩, h6⟩⟩
theorem basesL_sym (xs : List Itm) {l r : List (Int × Int)} (h1 : l.Nodup) (h2 : r.Nodup) : basesL xs l r = basesL xs r l := by
  unfold basesL
  refine sortS_ext (h1.filter _) (h2.filter _) (fun d => ?_)
  have hw : worseS xs l r d = worseS xs r l d := by
    unfold worseS
    refine decide_eq_decide.2 ⟨?_, ?_⟩ <;> (rintro ⟨c, h3, h4, h5⟩; exact ⟨c, h4, h3, h5⟩)
  rw [List.mem_filter, List.mem_filter, hw]
  simp only [Bool.and_eq_true, decide_eq_true_eq]
  constructor <;> (rintro ⟨h3, h4, h5⟩; exact ⟨h4, h3, h5⟩)
theorem facts {xs : List Itm} (hv : HV xs) {a b : Int × Int} (oka : OkD a) (okb : OkD b) (ha : (visS xs [a] []).2 = 0) (hb : (visS xs [b] []).2 = 0) : BF xs b (ancS xs [a]).1 (ancS xs [b]).1 (basesL xs (visS xs [a] []).1 (visS xs [b] []).1) := by
  have fa := vis_facts ha (fun d hd => by rw [List.mem_singleton.1 hd]; exact oka)
  have fb := vis_facts hb (fun d hd => by rw [List.mem_singleton.1 hd]; exact okb)
  have hle := hv.le
  have hal : ∀ g, (visS xs [g] []).2 = 0 → (visS xs [g] []).1.length ≤ xs.length → (ancS xs [g]).1.length ≤ 40 := fun g h h2 => by
    have : (ancS xs [g]).1.length = (visS xs [g] []).1.length := by
      unfold ancS
      rw [if_neg (by simpa using h)]
      exact (sortH_perm _ _).length_eq
    omega
  have mx : ∀ {g d}, (visS xs [g] []).2 = 0 → (d ∈ (ancS xs [g]).1 ↔ Anc xs g d) := fun h => by
    rw [anc_mem h]
    constructor
    · rintro ⟨s, h1, h2⟩; rw [List.mem_singleton] at h1; subst h1; exact h2
    · intro h1; exact ⟨_, by simp, h1⟩
  have mb := fun d => bases_mem hv ha hb (d := d)
  have hnd : (basesL xs (visS xs [a] []).1 (visS xs [b] []).1).Nodup := by
    unfold basesL
    exact (sortS_perm _).nodup_iff.2 (fa.nd.filter _)
  have hlen : (basesL xs (visS xs [a] []).1 (visS xs [b] []).1).length ≤ (visS xs [a] []).1.length := by
    unfold basesL
    rw [(sortS_perm _).length_eq]
    exact List.length_filter_le _ _
  have hdep : ∀ d, depS xs d ≤ 40 := fun d => by
    have := dep_rk hv.acy _ d (Nat.le_refl _); have := rk_le xs d; omega
  have hsub : ∀ d ∈ basesL xs (visS xs [a] []).1 (visS xs [b] []).1, (visS xs [d] []).2 = 0 := fun d hd => vis_sub ha (fun g hg => by rw [List.mem_singleton.1 hg]; exact (vis_anc1 ha).2 ((mb d).1 hd).1.1)
  have hfound : ∀ (n : Nat) (d : Int × Int), 40 - depS xs d ≤ n → Anc xs a d → Anc xs b d → ∃ e ∈ basesL xs (visS xs [a] []).1 (visS xs [b] []).1, Anc xs e d := by
    intro n
    induction n with
    | zero =>
      intro d hn h1 h2
      refine ⟨d, (mb d).2 ⟨⟨h1, h2⟩, ?_⟩, .refl d⟩
      rintro ⟨c, _, hc, hcd⟩
      rcases anc_rk hv.acy hcd with h | h
      · exact hc h
      · have := hdep c; omega
    | succ n ih =>
      intro d hn h1 h2
      by_cases hw : ∃ c, (Anc xs a c ∧ Anc xs b c) ∧ c ≠ d ∧ Anc xs c d
      · obtain ⟨c, ⟨h3, h4⟩, hc, hcd⟩ := hw
        have hlt : depS xs d < depS xs c := by
          rcases anc_rk hv.acy hcd with h | h
          · exact absurd h hc
          · exact h
        obtain ⟨e, he, hec⟩ := ih c (by have := hdep c; omega) h3 h4
        exact ⟨e, he, hec.trans hcd⟩
      · exact ⟨d, (mb d).2 ⟨⟨h1, h2⟩, hw⟩, .refl d⟩
  refine ⟨by have := fa.le; omega, hal a ha fa.le, hal b hb fb.le, fun d hd => anc_okD ((mx ha).1 hd) oka, fun d hd => ⟨(mx ha).2 ((mb d).1 hd).1.1, (mx hb).2 ((mb d).1 hd).1.2⟩, fun d hd e => ?_, fun d h1 h2 => ?_, fun h => ?_⟩
  · refine ⟨_, reachesS_ok (hsub d hd), fun hq hne he => ?_⟩
    rw [decide_eq_true_eq] at hq
    exact ((mb e).1 he).2 ⟨d, ((mb d).1 hd).1, fun h => hne h.symm, (vis_anc1 (hsub d hd)).1 hq⟩
  · obtain ⟨e, he, hed⟩ := hfound _ d (Nat.le_refl _) ((mx ha).1 h1) ((mx hb).1 h2)
    exact ⟨e, he, by rw [reachesS_ok (hsub e he)]; exact decide_eq_true ((vis_anc1 (hsub e he)).2 hed)⟩
  · have hab := (mx ha).1 h
    have hm : ∀ d, d ∈ basesL xs (visS xs [a] []).1 (visS xs [b] []).1 ↔ d ∈ [b] := fun d => by
      rw [mb, List.mem_singleton]
      constructor
      · rintro ⟨⟨h1, h2⟩, h3⟩
        by_cases e : d = b
        · exact e
        · exact absurd ⟨b, ⟨hab, .refl b⟩, fun e2 => e e2.symm, h2⟩ h3
      · rintro rfl
        refine ⟨⟨hab, .refl _⟩, ?_⟩
        rintro ⟨c, ⟨_, h2⟩, h3, h4⟩
        exact h3 (anc_anti hv.acy h4 h2)
    have hp : (basesL xs (visS xs [a] []).1 (visS xs [b] []).1).Perm [b] := (List.perm_ext_iff_of_nodup hnd (by simp)).2 hm
    exact List.perm_singleton.1 hp

set_option maxRecDepth 100000 in
set_option maxHeartbeats 8000000 in
theorem walk (a : Option Addr) (xs : List Itm) (c : Nat) (x y x' y' : Int) (w : World) (hp : PoolCame w a xs c) (h1 : OkD (x, y)) (h2 : OkD (x', y')) :
    Calls Tryz.prog 5 #[.slice a xs.length c, .agg #[.int .u64 x, .int .u64 y], .agg #[.int .u64 x', .int .u64 y']] w fun e w' => e = .returned (.bool true) ∧ Below w.heap.size w w' := by
  have hml := hp.cap
  unfold maxLen at hml
  have hcap : xs.length ≤ c := by omega
  obtain ⟨w0, hw0⟩ : ∃ w0, w0 = (w.alloc (.cells #[.int .u64 x, .int .u64 y] 32)).alloc (.cells #[.int .u64 x', .int .u64 y'] 32) := ⟨_, rfl⟩
  have hb0 : Below w.heap.size w w0 := by rw [hw0]; exact ((Below.refl _ w).alloc (Nat.le_refl _) _).alloc (by simp) _
  have HVA := Lib.hid (valid13_any a xs c w0 (hp.its.ahead hb0) (by omega) (fun x hx => by have := (hp.dat x hx).2; unfold maxLen at this; omega))
  have HAW := Lib.hid awake13_any
  have HK0 : Hid (BK w.heap.size #[.int .u64 x, .int .u64 y] 32 w0) := Lib.hid (by rw [hw0]; exact (BK.new _ _ _).alloc _)
  have HK0b : Hid (BK (w.heap.size + 1) #[.int .u64 x', .int .u64 y'] 32 w0) := Lib.hid (by rw [hw0]; exact BK.new2 _ _ _ _)
  have HB0 := Lib.hid hb0
  have HIT := Lib.hid hp.its
  rw [hw0] at HVA
  have HW0 := Lib.hid hw0
  clear hw0 hb0 hp hml
  cases hv : validS xs with
  | false =>
    rw [hv] at HVA
    clear hv hcap h1 h2 HIT HK0 HK0b
    generalize xs.length = n at HVA ⊢
    go_enter Tryz.func5, Tryz.ntmps5
    go_wp2_with fail
    (with_reducible refine (HVA.out).mono ?_)
    rintro e u ⟨rfl, hb⟩
    rw [← HW0.out] at hb
    have HB1 := Lib.hid (HB0.out.trans (hb.mono HB0.out.size))
    have HA1 := Lib.hid (HAW.out u)
    clear hb HVA HW0 HB0
    go_wp2_with fail
    (with_reducible refine (HA1.out).mono ?_)
    rintro e u2 ⟨rfl, hb⟩
    have HB2 := Lib.hid (HB1.out.trans (hb.mono HB1.out.size))
    clear hb
    go_wp2_with fail
    go_ret
    exact ⟨rfl, HB2.out⟩
  | true =>
    rw [hv] at HVA
    have hV := validS_true hv
    have HPI := Lib.hid (fun W (hW : Below w.heap.size w W) => hV.pin (W := W) (a := a) (c := c) (HIT.out.ahead hW) hcap)
    have hle := hV.le
    have HBA := Lib.hid (fun W (hW : Below w.heap.size w W) => bases_any a xs c x y x' y' W (HPI.out W hW) hV.asc h1 h2 (by omega))
    have HBB := Lib.hid (fun W (hW : Below w.heap.size w W) => bases_any a xs c x' y' x y W (HPI.out W hW) hV.asc h2 h1 (by omega))
    have HAA := Lib.hid (fun W (hW : Below w.heap.size w W) q (hk : BK q #[.int .u64 x, .int .u64 y] 32 W) => ancestors_any a xs c (some ⟨q, 0, none⟩) [(x, y)] 1 W (HPI.out W hW) hV.asc hV.acy (digs_one hk) (by simp; exact h1) (by omega) (by simp))
    have HAB := Lib.hid (fun W (hW : Below w.heap.size w W) q (hk : BK q #[.int .u64 x', .int .u64 y'] 32 W) => ancestors_any a xs c (some ⟨q, 0, none⟩) [(x', y')] 1 W (HPI.out W hW) hV.asc hV.acy (digs_one hk) (by simp; exact h2) (by omega) (by simp))
    simp only [List.length_cons, List.length_nil, Nat.zero_add] at HAA HAB
    by_cases her : (visS xs [(x, y)] []).2 = 0 ∧ (visS xs [(x', y')] []).2 = 0
    · have HRE := Lib.hid (fun p q r s W (hW : Below w.heap.size w W) (h5 : OkD (p, q)) (h6 : OkD (r, s)) => reaches_any a xs c p q r s W (HPI.out W hW) hV.asc h5 h6 (by omega))
      have HF := Lib.hid (facts hV h1 h2 her.1 her.2)
      have fa := vis_facts her.1 (fun d hd => by rw [List.mem_singleton.1 hd]; exact h1)
      have fb := vis_facts her.2 (fun d hd => by rw [List.mem_singleton.1 hd]; exact h2)
      have hAB : basesS xs (x, y) (x', y') = (basesL xs (visS xs [(x, y)] []).1 (visS xs [(x', y')] []).1, 0) := by
        unfold basesS; rw [if_neg (by simpa using her.1), if_neg (by simpa using her.2)]
      have hBA : basesS xs (x', y') (x, y) = (basesL xs (visS xs [(x, y)] []).1 (visS xs [(x', y')] []).1, 0) := by
        unfold basesS; rw [if_neg (by simpa using her.2), if_neg (by simpa using her.1), basesL_sym xs fb.nd fa.nd]
      have hXA : ancS xs [(x, y)] = ((ancS xs [(x, y)]).1, 0) := Prod.ext rfl (ancS_ok her.1)
      have hXB : ancS xs [(x', y')] = ((ancS xs [(x', y')]).1, 0) := Prod.ext rfl (ancS_ok her.2)
      rw [hAB] at HBA
      rw [hBA] at HBB
      rw [hXA] at HAA
      rw [hXB] at HAB
      clear hAB hBA hXA hXB fa fb her
      generalize (ancS xs [(x, y)]).1 = lx at HAA HF
      generalize (ancS xs [(x', y')]).1 = ly at HAB HF
      generalize basesL xs (visS xs [(x, y)] []).1 (visS xs [(x', y')] []).1 = l at HBA HBB HF
      have hll := HF.out.le
      have hlx := HF.out.lex
      have hly := HF.out.ley
      have HHL := Lib.hid (fun sa sc W p q (h : Digs W.heap.size W sa l) => has13_any sa l sc p q W h (by omega))
      have HHX := Lib.hid (fun sa sc W p q (h : Digs W.heap.size W sa lx) => has13_any sa lx sc p q W h (by omega))
      have HHY := Lib.hid (fun sa sc W p q (h : Digs W.heap.size W sa ly) => has13_any sa ly sc p q W h (by omega))
      have HSM := Lib.hid (fun sa sc ta tc W (h : Digs W.heap.size W sa l) (h' : Digs W.heap.size W ta l) => same13_any sa ta l l sc tc W h h' (by omega))
      have HSO := Lib.hid (fun sa sc W q (h : Digs W.heap.size W sa l) (hk : BK q #[.int .u64 x', .int .u64 y'] 32 W) => same13_any sa (some ⟨q, 0, none⟩) l [(x', y')] sc 1 W h (digs_one hk) (by omega))
      rw [decide_eq_true rfl] at HSM
      simp only [List.length_cons, List.length_nil, Nat.zero_add] at HSO
      obtain ⟨nl, hnl⟩ : ∃ n, n = l.length := ⟨_, rfl⟩
      obtain ⟨nx, hnx⟩ : ∃ n, n = lx.length := ⟨_, rfl⟩
      obtain ⟨ny, hny⟩ : ∃ n, n = ly.length := ⟨_, rfl⟩
      rw [← hnl] at hll HHL HSM HSO
      rw [← hnx] at hlx HHX
      rw [← hny] at hly HHY
      have HNL := Lib.hid hnl
      have HNX := Lib.hid hnx
      have HNY := Lib.hid hny
      generalize xs.length = n at HVA HBA HBB HAA HAB HRE ⊢
      have HO1 := Lib.hid h1
      have HO2 := Lib.hid h2
      clear hnl hnx hny hv hcap HIT hV HPI hle h1 h2
      go_enter Tryz.func5, Tryz.ntmps5
      go_wp2_with fail
      (with_reducible refine (HVA.out).mono ?_)
      rintro e u ⟨rfl, hb⟩
      rw [← HW0.out] at hb
      have HB1 := Lib.hid (HB0.out.trans (hb.mono HB0.out.size))
      have HK1 := Lib.hid (HK0.out.below hb)
      have HK1b := Lib.hid (HK0b.out.below hb)
      have HC1 := Lib.hid (HBA.out u HB1.out)
      have e0 : u.cell? ⟨w.heap.size, 0, none⟩ = some (.int .u64 x) := by rw [HK1.out.cell]; rfl
      have e1 : u.cell? ⟨w.heap.size, 1, none⟩ = some (.int .u64 y) := by rw [HK1.out.cell]; rfl
      have f0 : u.cell? ⟨w.heap.size + 1, 0, none⟩ = some (.int .u64 x') := by rw [HK1b.out.cell]; rfl
      have f1 : u.cell? ⟨w.heap.size + 1, 1, none⟩ = some (.int .u64 y') := by rw [HK1b.out.cell]; rfl
      clear hb HVA HW0 HB0 HK0 HK0b HBA
      go_wp2_with fail
      (with_reducible refine (HC1.out).mono ?_)
      rintro e u2 ⟨la, lc, rfl, hown, hb⟩
      simp only at hown ⊢
      rw [← HNL.out] at ⊢
      have HB2 := Lib.hid (HB1.out.trans (hb.mono HB1.out.size))
      have HK2 := Lib.hid (HK1.out.below hb)
      have HK2b := Lib.hid (HK1b.out.below hb)
      have HL2 := Lib.hid (ownsRow_digs hown)
      have HC2 := Lib.hid (HBB.out u2 HB2.out)
      clear hb hown HC1 HB1 HK1 HK1b e0 e1 f0 f1 HBB
      have e0 : u2.cell? ⟨w.heap.size, 0, none⟩ = some (.int .u64 x) := by rw [HK2.out.cell]; rfl
      have e1 : u2.cell? ⟨w.heap.size, 1, none⟩ = some (.int .u64 y) := by rw [HK2.out.cell]; rfl
      have f0 : u2.cell? ⟨w.heap.size + 1, 0, none⟩ = some (.int .u64 x') := by rw [HK2b.out.cell]; rfl
      have f1 : u2.cell? ⟨w.heap.size + 1, 1, none⟩ = some (.int .u64 y') := by rw [HK2b.out.cell]; rfl
      go_wp2_with fail
      (with_reducible refine (HC2.out).mono ?_)
      rintro e u3 ⟨ma, mc, rfl, hown, hb⟩
      simp only at hown ⊢
      rw [← HNL.out] at ⊢
      have HB3 := Lib.hid (HB2.out.trans (hb.mono HB2.out.size))
      have HK3 := Lib.hid (HK2.out.below hb)
      have HK3b := Lib.hid (HK2b.out.below hb)
      have HL3 := Lib.hid (HL2.out.ahead hb)
      have HM3 := Lib.hid (ownsRow_digs hown)
      clear hb hown HC2 HB2 HK2 HK2b HL2 e0 e1 f0 f1
      have e0 : u3.cell? ⟨w.heap.size, 0, none⟩ = some (.int .u64 x) := by rw [HK3.out.cell]; rfl
      have e1 : u3.cell? ⟨w.heap.size, 1, none⟩ = some (.int .u64 y) := by rw [HK3.out.cell]; rfl
      obtain ⟨v3, hv3⟩ : ∃ v3, v3 = u3.alloc (.cells #[.int .u64 x, .int .u64 y] 32) := ⟨_, rfl⟩
      have hbv : Below u3.heap.size u3 v3 := by rw [hv3]; exact (Below.refl _ _).alloc (Nat.le_refl _) _
      have HBv := Lib.hid (HB3.out.trans (hbv.mono HB3.out.size))
      have HC3 := Lib.hid (HAA.out v3 HBv.out u3.heap.size (by rw [hv3]; exact BK.new _ _ _))
      have HKv := Lib.hid (HK3.out.below hbv)
      have HKvb := Lib.hid (HK3b.out.below hbv)
      have HLv := Lib.hid (HL3.out.ahead hbv)
      have HMv := Lib.hid (HM3.out.ahead hbv)
      rw [hv3] at HC3
      have HV3 := Lib.hid hv3
      clear hbv hv3 HAA HB3 HK3 HK3b HL3 HM3
      go_wp2_with fail
      (with_reducible refine (HC3.out).mono ?_)
      rintro e u4 ⟨xa, xc, rfl, hown, hb⟩
      rw [← HV3.out] at hb
      simp only at hown ⊢
      rw [← HNX.out] at ⊢
      have HB4 := Lib.hid (HBv.out.trans (hb.mono HBv.out.size))
      have HK4 := Lib.hid (HKv.out.below hb)
      have HK4b := Lib.hid (HKvb.out.below hb)
      have HL4 := Lib.hid (HLv.out.ahead hb)
      have HM4 := Lib.hid (HMv.out.ahead hb)
      have HX4 := Lib.hid (ownsRow_digs hown)
      clear hb hown HC3 HBv HKv HKvb HLv HMv HV3 e0 e1
      have f0 : u4.cell? ⟨w.heap.size + 1, 0, none⟩ = some (.int .u64 x') := by rw [HK4b.out.cell]; rfl
      have f1 : u4.cell? ⟨w.heap.size + 1, 1, none⟩ = some (.int .u64 y') := by rw [HK4b.out.cell]; rfl
      obtain ⟨v4, hv4⟩ : ∃ v4, v4 = u4.alloc (.cells #[.int .u64 x', .int .u64 y'] 32) := ⟨_, rfl⟩
      have hbv : Below u4.heap.size u4 v4 := by rw [hv4]; exact (Below.refl _ _).alloc (Nat.le_refl _) _
      have HBv := Lib.hid (HB4.out.trans (hbv.mono HB4.out.size))
      have HC4 := Lib.hid (HAB.out v4 HBv.out u4.heap.size (by rw [hv4]; exact BK.new _ _ _))
      have HKv := Lib.hid (HK4.out.below hbv)
      have HKvb := Lib.hid (HK4b.out.below hbv)
      have HLv := Lib.hid (HL4.out.ahead hbv)
      have HMv := Lib.hid (HM4.out.ahead hbv)
      have HXv := Lib.hid (HX4.out.ahead hbv)
      rw [hv4] at HC4
      have HV4 := Lib.hid hv4
      clear hbv hv4 HAB HB4 HK4 HK4b HL4 HM4 HX4
      go_wp2_with fail
      (with_reducible refine (HC4.out).mono ?_)
      rintro e u5 ⟨ya, yc, rfl, hown, hb⟩
      rw [← HV4.out] at hb
      simp only at hown ⊢
      rw [← HNY.out] at ⊢
      have HB5 := Lib.hid (HBv.out.trans (hb.mono HBv.out.size))
      have HK5b := Lib.hid (HKvb.out.below hb)
      have HL5 := Lib.hid (HLv.out.ahead hb)
      have HM5 := Lib.hid (HMv.out.ahead hb)
      have HX5 := Lib.hid (HXv.out.ahead hb)
      have HY5 := Lib.hid (ownsRow_digs hown)
      have HC5 := Lib.hid (HSM.out la lc ma mc u5 HL5.out HM5.out)
      clear hb hown HC4 HBv HKv HKvb HLv HMv HXv HV4 f0 f1 HSM
      go_wp2_with fail
      (with_reducible refine (HC5.out).mono ?_)
      rintro e u6 ⟨rfl, hb⟩
      have HB6 := Lib.hid (HB5.out.trans (hb.mono HB5.out.size))
      have HK6b := Lib.hid (HK5b.out.below hb)
      have HL6 := Lib.hid (HL5.out.ahead hb)
      have HX6 := Lib.hid (HX5.out.ahead hb)
      have HY6 := Lib.hid (HY5.out.ahead hb)
      clear hb HC5 HB5 HK5b HL5 HM5 HX5 HY5
      go_wp2_with fail
      go_loopw [88] (fun i wr => ∃ k : Nat, k ≤ nx ∧ i = .int .i64 k ∧ Hid (Below w.heap.size w wr) ∧ Hid (BK (w.heap.size + 1) #[.int .u64 x', .int .u64 y'] 32 wr) ∧ Hid (Digs wr.heap.size wr la l) ∧ Hid (Digs wr.heap.size wr xa lx) ∧ Hid (Digs wr.heap.size wr ya ly)) (fun i _ => nx - (intOf i).toNat)
      case atStart => exact ⟨0, by omega, rfl, HB6, HK6b, HL6, HX6, HY6⟩
      case round =>
        clear HB6 HK6b HL6 HX6 HY6
        obtain ⟨k, hk, rfl, HB, HKb, HL, HX, HY⟩ := hrel
        by_cases hlt : k < nx
        · have h1 : k < lx.length := by have := HNX.out; omega
          obtain ⟨b0, of0, haa, hb0, q0, q1⟩ := HX.out k h1
          have HXx := HX
          subst haa
          have hmx := List.getElem_mem h1
          have hod := HF.out.okx _ hmx
          have HFD := Lib.hid (HF.out.found _ hmx)
          have HRC := Lib.hid (fun d hd => HF.out.rch d hd lx[k])
          generalize lx[k] = d at q0 q1 hmx hod HFD HRC
          obtain ⟨d1, d2⟩ := d
          simp only at q0 q1
          obtain ⟨v, hv⟩ : ∃ v, v = wr.alloc (.cells #[.int .u64 d1, .int .u64 d2] 32) := ⟨_, rfl⟩
          have hbv : Below wr.heap.size wr v := by rw [hv]; exact (Below.refl _ _).alloc (Nat.le_refl _) _
          have HBv := Lib.hid (HB.out.trans (hbv.mono HB.out.size))
          have HKv := Lib.hid (HKb.out.below hbv)
          have HLv := Lib.hid (HL.out.ahead hbv)
          have HXv := Lib.hid (HXx.out.ahead hbv)
          have HYv := Lib.hid (HY.out.ahead hbv)
          have HDv : Hid (BK wr.heap.size #[.int .u64 d1, .int .u64 d2] 32 v) := Lib.hid (by rw [hv]; exact BK.new _ _ _)
          have HC := Lib.hid (HHY.out ya yc v d1 d2 HYv.out)
          rw [hv] at HC
          have HV := Lib.hid hv
          have hkn : (k : Int) < (nx : Int) := by omega
          have HOD := Lib.hid hod
          clear hbv hv HB HKb HL HX HXx HY hod hmx
          cases hmy : decide ((d1, d2) ∈ ly) with
          | false =>
            rw [hmy] at HC
            clear HFD HRC HOD hmy
            go_wp2_with fail
            (with_reducible refine (HC.out).mono ?_)
            rintro e u7 ⟨rfl, hb⟩
            rw [← HV.out] at hb
            have HB7 := Lib.hid (HBv.out.trans (hb.mono HBv.out.size))
            have HK7 := Lib.hid (HKv.out.below hb)
            have HL7 := Lib.hid (HLv.out.ahead hb)
            have HX7 := Lib.hid (HXv.out.ahead hb)
            have HY7 := Lib.hid (HYv.out.ahead hb)
            clear hb HC HV HBv HKv HLv HXv HYv HDv q0 q1
            go_wp2_with fail
            go_roundw
            case rel => exact ⟨k + 1, by omega, by go_num, HB7, HK7, HL7, HX7, HY7⟩
            case measure => simp [intOf] <;> omega
          | true =>
            rw [hmy] at HC
            have HFE := Lib.hid (HFD.out (by simpa using hmy))
            clear HFD hmy
            go_wp2_with fail
            (with_reducible refine (HC.out).mono ?_)
            rintro e u7 ⟨rfl, hb⟩
            rw [← HV.out] at hb
            have HB7 := Lib.hid (HBv.out.trans (hb.mono HBv.out.size))
            have HK7 := Lib.hid (HKv.out.below hb)
            have HL7 := Lib.hid (HLv.out.ahead hb)
            have HX7 := Lib.hid (HXv.out.ahead hb)
            have HY7 := Lib.hid (HYv.out.ahead hb)
            have HD7 := Lib.hid (HDv.out.below hb)
            obtain ⟨db, hdb⟩ : ∃ db, db = wr.heap.size := ⟨_, rfl⟩
            rw [← hdb] at HD7 ⊢
            clear hb HC HV HBv HKv HLv HXv HYv HDv q0 q1 hdb
            go_wp2_with fail
            go_loopw [17, 98] (fun v i wr => ∃ (j : Nat) (f : Bool), j ≤ nl ∧ v = .bool f ∧ Hid (f = (l.take j).any fun b => (reachesS xs b (d1, d2)).1) ∧ i = .int .i64 j ∧ Hid (Below w.heap.size w wr) ∧ Hid (BK (w.heap.size + 1) #[.int .u64 x', .int .u64 y'] 32 wr) ∧ Hid (Digs wr.heap.size wr la l) ∧ Hid (Digs wr.heap.size wr (some ⟨b0, of0, none⟩) lx) ∧ Hid (Digs wr.heap.size wr ya ly) ∧ Hid (BK db #[.int .u64 d1, .int .u64 d2] 32 wr)) (fun _ i _ => nl - (intOf i).toNat)
            case atStart => exact ⟨0, false, by omega, rfl, Lib.hid (by simp), rfl, HB7, HK7, HL7, HX7, HY7, HD7⟩
            case round =>
              clear HB7 HK7 HL7 HX7 HY7 HD7
              obtain ⟨j, f, hj, rfl, HJ, rfl, HB, HKb, HL, HX, HY, HD⟩ := hrel
              by_cases hlt : j < nl
              · have hj1 : j < l.length := by have := HNL.out; omega
                obtain ⟨b2, of2, haa, hb2, q0, q1⟩ := HL.out j hj1
                have HLx := HL
                subst haa
                have hml := List.getElem_mem hj1
                obtain ⟨q, hq1, hq2⟩ := HRC.out _ hml
                have hob := HF.out.okx _ (HF.out.sub _ hml).1
                have HTK : Hid (((l.take (j + 1)).any fun b => (reachesS xs b (d1, d2)).1) = (f || (reachesS xs l[j] (d1, d2)).1)) := Lib.hid (by rw [List.take_succ_eq_append_getElem hj1, List.any_append, ← HJ.out]; simp)
                generalize l[j] = b at q0 q1 hml hq1 hq2 hob HTK
                obtain ⟨p1, p2⟩ := b
                simp only at q0 q1
                obtain ⟨v, hv⟩ : ∃ v, v = wr.alloc (.cells #[.int .u64 p1, .int .u64 p2] 32) := ⟨_, rfl⟩
                have hbv : Below wr.heap.size wr v := by rw [hv]; exact (Below.refl _ _).alloc (Nat.le_refl _) _
                have HBv := Lib.hid (HB.out.trans (hbv.mono HB.out.size))
                have HKv := Lib.hid (HKb.out.below hbv)
                have HLv := Lib.hid (HLx.out.ahead hbv)
                have HXv := Lib.hid (HX.out.ahead hbv)
                have HYv := Lib.hid (HY.out.ahead hbv)
                have HDv := Lib.hid (HD.out.below hbv)
                have HPv : Hid (BK wr.heap.size #[.int .u64 p1, .int .u64 p2] 32 v) := Lib.hid (by rw [hv]; exact BK.new _ _ _)
                have HC := Lib.hid (HRE.out p1 p2 d1 d2 v HBv.out hob HOD.out)
                rw [hq1] at HC HTK
                have e0 : v.cell? ⟨db, 0, none⟩ = some (.int .u64 d1) := by rw [HDv.out.cell]; rfl
                have e1 : v.cell? ⟨db, 1, none⟩ = some (.int .u64 d2) := by rw [HDv.out.cell]; rfl
                rw [hv] at HC e0 e1
                have HV := Lib.hid hv
                have hjn : (j : Int) < (nl : Int) := by omega
                have HQ2 := Lib.hid hq2
                simp only at HC HTK
                clear hbv hv HB HKb HL HLx HX HY HD hob hml hq1 hq2
                go_wp2_with fail
                (with_reducible refine (HC.out).mono ?_)
                rintro e u8 ⟨rfl, hb⟩
                rw [← HV.out] at hb
                have HB8 := Lib.hid (HBv.out.trans (hb.mono HBv.out.size))
                have HK8 := Lib.hid (HKv.out.below hb)
                have HL8 := Lib.hid (HLv.out.ahead hb)
                have HX8 := Lib.hid (HXv.out.ahead hb)
                have HY8 := Lib.hid (HYv.out.ahead hb)
                have HD8 := Lib.hid (HDv.out.below hb)
                have HP8 := Lib.hid (HPv.out.below hb)
                clear hb HC HV HBv HKv HLv HXv HYv HDv HPv q0 q1 e0 e1
                cases q with
                | false =>
                  have HTK2 : Hid (f = (l.take (j + 1)).any fun b => (reachesS xs b (d1, d2)).1) := Lib.hid (by rw [HTK.out]; simp)
                  clear HTK HQ2 HP8
                  cases f
                  all_goals
                    go_wp2_with fail
                    go_roundw
                    case rel => exact ⟨j + 1, _, by omega, rfl, HTK2, by go_num, HB8, HK8, HL8, HX8, HY8, HD8⟩
                    case measure => simp [intOf] <;> omega
                | true =>
                  have HTK2 : Hid (true = (l.take (j + 1)).any fun b => (reachesS xs b (d1, d2)).1) := Lib.hid (by rw [HTK.out]; simp)
                  have e0 : u8.cell? ⟨db, 0, none⟩ = some (.int .u64 d1) := by rw [HD8.out.cell]; rfl
                  have e1 : u8.cell? ⟨db, 1, none⟩ = some (.int .u64 d2) := by rw [HD8.out.cell]; rfl
                  have f0 : u8.cell? ⟨wr.heap.size, 0, none⟩ = some (.int .u64 p1) := by rw [HP8.out.cell]; rfl
                  have f1 : u8.cell? ⟨wr.heap.size, 1, none⟩ = some (.int .u64 p2) := by rw [HP8.out.cell]; rfl
                  have hq := fun W => neq_dig d1 d2 p1 p2 W
                  cases hz : (d1 == p1 && d2 == p2) with
                  | true =>
                    rw [hz] at hq
                    clear hz HTK HQ2
                    cases f
                    all_goals
                      go_wp2_with fail
                      go_roundw
                      case rel => exact ⟨j + 1, true, by omega, rfl, HTK2, by go_num, HB8, HK8, HL8, HX8, HY8, HD8⟩
                      case measure => simp [intOf] <;> omega
                  | false =>
                    rw [hz] at hq
                    have hnm := HQ2.out rfl (fun h => by
                      rw [Prod.mk.injEq] at h
                      simp [h.1, h.2] at hz)
                    have HC9 := Lib.hid (HHL.out (some ⟨b2, of2, none⟩) lc u8 d1 d2 HL8.out)
                    rw [decide_eq_false hnm] at HC9
                    clear hz HTK HQ2 hnm
                    go_wp2_with fail
                    (with_reducible refine (HC9.out).mono ?_)
                    rintro e u9 ⟨rfl, hb⟩
                    have HB9 := Lib.hid (HB8.out.trans (hb.mono HB8.out.size))
                    have HK9 := Lib.hid (HK8.out.below hb)
                    have HL9 := Lib.hid (HL8.out.ahead hb)
                    have HX9 := Lib.hid (HX8.out.ahead hb)
                    have HY9 := Lib.hid (HY8.out.ahead hb)
                    have HD9 := Lib.hid (HD8.out.below hb)
                    clear hb HC9 HB8 HK8 HL8 HX8 HY8 HD8 HP8 e0 e1 f0 f1 hq
                    cases f
                    all_goals
                      go_wp2_with fail
                      go_roundw
                      case rel => exact ⟨j + 1, true, by omega, rfl, HTK2, by go_num, HB9, HK9, HL9, HX9, HY9, HD9⟩
                      case measure => simp [intOf] <;> omega
              · have hjn : ¬ (j : Int) < (nl : Int) := by omega
                have hft : f = true := by
                  rw [HJ.out, List.take_of_length_le (by have := HNL.out; omega)]
                  obtain ⟨e, he, her⟩ := HFE.out
                  exact List.any_eq_true.2 ⟨e, he, her⟩
                subst hft
                go_wp2_with fail
                go_roundw
                case rel => exact ⟨k + 1, by omega, by go_num, HB, HKb, HL, HX, HY⟩
                case measure => simp [intOf] <;> omega
        · have hkn : ¬ (k : Int) < (nx : Int) := by omega
          obtain ⟨x0, hx0⟩ : ∃ x0, x0 = wr := ⟨_, rfl⟩
          rw [← hx0] at HB HKb HL HX HY ⊢
          have HB3 := HB
          have HK3 := HKb
          have HL3 := HL
          have HX3 := HX
          have HY3 := HY
          clear HB HKb HL HX HY hx0
          go_wp2_with fail
          go_loopw [134] (fun i wr => ∃ k : Nat, k ≤ nl ∧ i = .int .i64 k ∧ Hid (Below w.heap.size w wr) ∧ Hid (BK (w.heap.size + 1) #[.int .u64 x', .int .u64 y'] 32 wr) ∧ Hid (Digs wr.heap.size wr la l) ∧ Hid (Digs wr.heap.size wr xa lx) ∧ Hid (Digs wr.heap.size wr ya ly)) (fun i _ => nl - (intOf i).toNat)
          case atStart => exact ⟨0, by omega, rfl, HB3, HK3, HL3, HX3, HY3⟩
          case round =>
            clear HB3 HK3 HL3 HX3 HY3
            obtain ⟨j, hj, rfl, HB, HKb, HL, HX, HY⟩ := hrel
            by_cases hlt : j < nl
            · have hj1 : j < l.length := by have := HNL.out; omega
              obtain ⟨b2, of2, haa, hb2, q0, q1⟩ := HL.out j hj1
              have HLx := HL
              subst haa
              have hml := HF.out.sub _ (List.getElem_mem hj1)
              generalize l[j] = b at q0 q1 hml
              obtain ⟨p1, p2⟩ := b
              simp only at q0 q1
              obtain ⟨v, hv⟩ : ∃ v, v = wr.alloc (.cells #[.int .u64 p1, .int .u64 p2] 32) := ⟨_, rfl⟩
              have hbv : Below wr.heap.size wr v := by rw [hv]; exact (Below.refl _ _).alloc (Nat.le_refl _) _
              have HBv := Lib.hid (HB.out.trans (hbv.mono HB.out.size))
              have HKv := Lib.hid (HKb.out.below hbv)
              have HLv := Lib.hid (HLx.out.ahead hbv)
              have HXv := Lib.hid (HX.out.ahead hbv)
              have HYv := Lib.hid (HY.out.ahead hbv)
              have HPv : Hid (BK wr.heap.size #[.int .u64 p1, .int .u64 p2] 32 v) := Lib.hid (by rw [hv]; exact BK.new _ _ _)
              have HC := Lib.hid (HHX.out xa xc v p1 p2 HXv.out)
              rw [decide_eq_true hml.1, hv] at HC
              have HV := Lib.hid hv
              have hjn : (j : Int) < (nl : Int) := by omega
              have HMY := Lib.hid hml.2
              clear hbv hv HB HKb HL HLx HX HY hml
              go_wp2_with fail
              (with_reducible refine (HC.out).mono ?_)
              rintro e u8 ⟨rfl, hb⟩
              rw [← HV.out] at hb
              have HB8 := Lib.hid (HBv.out.trans (hb.mono HBv.out.size))
              have HK8 := Lib.hid (HKv.out.below hb)
              have HL8 := Lib.hid (HLv.out.ahead hb)
              have HX8 := Lib.hid (HXv.out.ahead hb)
              have HY8 := Lib.hid (HYv.out.ahead hb)
              have HP8 := Lib.hid (HPv.out.below hb)
              have HC8 := Lib.hid (HHY.out ya yc u8 p1 p2 HY8.out)
              rw [decide_eq_true HMY.out] at HC8
              have e0 : u8.cell? ⟨wr.heap.size, 0, none⟩ = some (.int .u64 p1) := by rw [HP8.out.cell]; rfl
              have e1 : u8.cell? ⟨wr.heap.size, 1, none⟩ = some (.int .u64 p2) := by rw [HP8.out.cell]; rfl
              clear hb HC HV HBv HKv HLv HXv HYv HPv q0 q1 HMY
              go_wp2_with fail
              (with_reducible refine (HC8.out).mono ?_)
              rintro e u9 ⟨rfl, hb⟩
              have HB9 := Lib.hid (HB8.out.trans (hb.mono HB8.out.size))
              have HK9 := Lib.hid (HK8.out.below hb)
              have HL9 := Lib.hid (HL8.out.ahead hb)
              have HX9 := Lib.hid (HX8.out.ahead hb)
              have HY9 := Lib.hid (HY8.out.ahead hb)
              clear hb HC8 HB8 HK8 HL8 HX8 HY8 HP8 e0 e1
              go_wp2_with fail
              go_roundw
              case rel => exact ⟨j + 1, by omega, by go_num, HB9, HK9, HL9, HX9, HY9⟩
              case measure => simp [intOf] <;> omega
            · have hjn : ¬ (j : Int) < (nl : Int) := by omega
              obtain ⟨x0, hx0⟩ : ∃ x0, x0 = wr := ⟨_, rfl⟩
              rw [← hx0] at HB HKb HL HX ⊢
              have HC := Lib.hid (HHX.out xa xc x0 x' y' HX.out)
              have e0 : x0.cell? ⟨w.heap.size + 1, 0, none⟩ = some (.int .u64 x') := by rw [HKb.out.cell]; rfl
              have e1 : x0.cell? ⟨w.heap.size + 1, 1, none⟩ = some (.int .u64 y') := by rw [HKb.out.cell]; rfl
              cases hm : decide ((x', y') ∈ lx) with
              | false =>
                rw [hm] at HC
                clear hm HX HY hx0
                go_wp2_with fail
                (with_reducible refine (HC.out).mono ?_)
                rintro e u8 ⟨rfl, hb⟩
                have HB8 := Lib.hid (HB.out.trans (hb.mono HB.out.size))
                have HA8 := Lib.hid (HAW.out u8)
                clear hb HC HB HKb HL e0 e1
                go_wp2_with fail
                (with_reducible refine (HA8.out).mono ?_)
                rintro e u9 ⟨rfl, hb⟩
                have HB9 := Lib.hid (HB8.out.trans (hb.mono HB8.out.size))
                clear hb
                go_wp2_with fail
                go_ret
                exact ⟨rfl, HB9.out⟩
              | true =>
                rw [hm] at HC
                have HONE := Lib.hid (HF.out.one (by simpa using hm))
                clear hm HX HY hx0
                go_wp2_with fail
                (with_reducible refine (HC.out).mono ?_)
                rintro e u8 ⟨rfl, hb⟩
                have HB8 := Lib.hid (HB.out.trans (hb.mono HB.out.size))
                have HK8 := Lib.hid (HKb.out.below hb)
                have HL8 := Lib.hid (HL.out.ahead hb)
                have f0 : u8.cell? ⟨w.heap.size + 1, 0, none⟩ = some (.int .u64 x') := by rw [HK8.out.cell]; rfl
                have f1 : u8.cell? ⟨w.heap.size + 1, 1, none⟩ = some (.int .u64 y') := by rw [HK8.out.cell]; rfl
                obtain ⟨v, hv⟩ : ∃ v, v = u8.alloc (.cells #[.int .u64 x', .int .u64 y'] 32) := ⟨_, rfl⟩
                have hbv : Below u8.heap.size u8 v := by rw [hv]; exact (Below.refl _ _).alloc (Nat.le_refl _) _
                have HBv := Lib.hid (HB8.out.trans (hbv.mono HB8.out.size))
                have HC8 := Lib.hid (HSO.out la lc v u8.heap.size (HL8.out.ahead hbv) (by rw [hv]; exact BK.new _ _ _))
                rw [decide_eq_true HONE.out, hv] at HC8
                have HV := Lib.hid hv
                clear hb HC HB HKb HL e0 e1 hbv hv HB8 HK8 HL8
                go_wp2_with fail
                (with_reducible refine (HC8.out).mono ?_)
                rintro e u9 ⟨rfl, hb⟩
                rw [← HV.out] at hb
                have HB9 := Lib.hid (HBv.out.trans (hb.mono HBv.out.size))
                have HA9 := Lib.hid (HAW.out u9)
                clear hb HC8 HBv HV f0 f1
                go_wp2_with fail
                (with_reducible refine (HA9.out).mono ?_)
                rintro e u10 ⟨rfl, hb⟩
                have HB10 := Lib.hid (HB9.out.trans (hb.mono HB9.out.size))
                clear hb
                go_wp2_with fail
                go_ret
                exact ⟨rfl, HB10.out⟩
    · obtain ⟨ea, eb, e1, e2, HE, f1, f2, f3, f4⟩ : ∃ ea eb e1 e2 : Int, Hid (ea ≠ 0 ∨ (ea = 0 ∧ eb ≠ 0)) ∧ basesS xs (x, y) (x', y') = ([], e1) ∧ basesS xs (x', y') (x, y) = ([], e2) ∧ ((ancS xs [(x, y)]).2 = ea ∧ (ancS xs [(x', y')]).2 = eb) ∧ e1 ≠ 0 ∧ e2 ≠ 0 := by
        have er : ∀ g, (ancS xs [g]).2 = (visS xs [g] []).2 := fun g => by
          by_cases h : (visS xs [g] []).2 = 0
          · rw [ancS_ok h, h]
          · rw [ancS_err h]
        by_cases ha : (visS xs [(x, y)] []).2 = 0
        · have hb : (visS xs [(x', y')] []).2 ≠ 0 := fun h => her ⟨ha, h⟩
          refine ⟨_, _, (visS xs [(x', y')] []).2, (visS xs [(x', y')] []).2, Lib.hid (.inr ⟨ha, hb⟩), ?_, ?_, ⟨er _, er _⟩, hb, hb⟩
          · unfold basesS; rw [if_neg (by simpa using ha), if_pos hb]
          · unfold basesS; rw [if_pos hb]
        · by_cases hb : (visS xs [(x', y')] []).2 = 0
          · refine ⟨_, _, (visS xs [(x, y)] []).2, (visS xs [(x, y)] []).2, Lib.hid (.inl ha), ?_, ?_, ⟨er _, er _⟩, ha, ha⟩
            · unfold basesS; rw [if_pos ha]
            · unfold basesS; rw [if_neg (by simpa using hb), if_pos ha]
          · refine ⟨_, _, (visS xs [(x, y)] []).2, (visS xs [(x', y')] []).2, Lib.hid (.inl ha), ?_, ?_, ⟨er _, er _⟩, ha, hb⟩
            · unfold basesS; rw [if_pos ha]
            · unfold basesS; rw [if_pos hb]
      rw [f1] at HBA
      rw [f2] at HBB
      generalize ancS xs [(x, y)] = RX at HAA f3
      generalize ancS xs [(x', y')] = RY at HAB f3
      obtain ⟨lx, ex⟩ := RX
      obtain ⟨ly, ey⟩ := RY
      simp only at f3 HAA HAB
      obtain ⟨rfl, rfl⟩ := f3
      have b1 : (e1 == 0) = false := by simpa using f4.1
      have b1' : (e1 != 0) = true := by simpa using f4.1
      have b2 : (e2 == 0) = false := by simpa using f4.2
      have HSM := Lib.hid (fun sa sc ta tc W => same13_any sa ta [] [] sc tc W (Digs.nil _ _ _) (Digs.nil _ _ _) (by simp))
      rw [decide_eq_true rfl] at HSM
      simp only [List.length_nil] at HSM
      generalize lx.length = nx at HAA
      generalize xs.length = n at HVA HBA HBB HAA HAB ⊢
      clear hv hcap HIT hV HPI hle h1 h2 f1 f2 f4 her
      have hcase : (ex == 0) = false ∨ (ex = 0 ∧ (ey == 0) = false) := by
        rcases HE.out with h | ⟨h, h'⟩
        · exact .inl (by simpa using h)
        · exact .inr ⟨h, by simpa using h'⟩
      clear HE
      rcases hcase with g1 | ⟨rfl, g2⟩
      all_goals
        go_enter Tryz.func5, Tryz.ntmps5
        go_wp2_with fail
        (with_reducible refine (HVA.out).mono ?_)
        rintro e u ⟨rfl, hb⟩
        rw [← HW0.out] at hb
        have HB1 := Lib.hid (HB0.out.trans (hb.mono HB0.out.size))
        have HK1 := Lib.hid (HK0.out.below hb)
        have HK1b := Lib.hid (HK0b.out.below hb)
        have HC1 := Lib.hid (HBA.out u HB1.out)
        have e0 : u.cell? ⟨w.heap.size, 0, none⟩ = some (.int .u64 x) := by rw [HK1.out.cell]; rfl
        have e1 : u.cell? ⟨w.heap.size, 1, none⟩ = some (.int .u64 y) := by rw [HK1.out.cell]; rfl
        have f0 : u.cell? ⟨w.heap.size + 1, 0, none⟩ = some (.int .u64 x') := by rw [HK1b.out.cell]; rfl
        have f1 : u.cell? ⟨w.heap.size + 1, 1, none⟩ = some (.int .u64 y') := by rw [HK1b.out.cell]; rfl
        clear hb HVA HW0 HB0 HK0 HK0b HBA
        go_wp2_with fail
        (with_reducible refine (HC1.out).mono ?_)
        rintro e u2 ⟨la, lc, rfl, hown, hb⟩
        simp only [List.length_nil] at hown ⊢
        have HB2 := Lib.hid (HB1.out.trans (hb.mono HB1.out.size))
        have HK2 := Lib.hid (HK1.out.below hb)
        have HK2b := Lib.hid (HK1b.out.below hb)
        have HC2 := Lib.hid (HBB.out u2 HB2.out)
        clear hb hown HC1 HB1 HK1 HK1b e0 e1 f0 f1 HBB
        have e0 : u2.cell? ⟨w.heap.size, 0, none⟩ = some (.int .u64 x) := by rw [HK2.out.cell]; rfl
        have e1 : u2.cell? ⟨w.heap.size, 1, none⟩ = some (.int .u64 y) := by rw [HK2.out.cell]; rfl
        have f0 : u2.cell? ⟨w.heap.size + 1, 0, none⟩ = some (.int .u64 x') := by rw [HK2b.out.cell]; rfl
        have f1 : u2.cell? ⟨w.heap.size + 1, 1, none⟩ = some (.int .u64 y') := by rw [HK2b.out.cell]; rfl
        go_wp2_with fail
        (with_reducible refine (HC2.out).mono ?_)
        rintro e u3 ⟨ma, mc, rfl, hown, hb⟩
        simp only [List.length_nil] at hown ⊢
        have HB3 := Lib.hid (HB2.out.trans (hb.mono HB2.out.size))
        have HK3 := Lib.hid (HK2.out.below hb)
        have HK3b := Lib.hid (HK2b.out.below hb)
        clear hb hown HC2 HB2 HK2 HK2b e0 e1 f0 f1
        have e0 : u3.cell? ⟨w.heap.size, 0, none⟩ = some (.int .u64 x) := by rw [HK3.out.cell]; rfl
        have e1 : u3.cell? ⟨w.heap.size, 1, none⟩ = some (.int .u64 y) := by rw [HK3.out.cell]; rfl
        obtain ⟨v3, hv3⟩ : ∃ v3, v3 = u3.alloc (.cells #[.int .u64 x, .int .u64 y] 32) := ⟨_, rfl⟩
        have hbv : Below u3.heap.size u3 v3 := by rw [hv3]; exact (Below.refl _ _).alloc (Nat.le_refl _) _
        have HBv := Lib.hid (HB3.out.trans (hbv.mono HB3.out.size))
        have HC3 := Lib.hid (HAA.out v3 HBv.out u3.heap.size (by rw [hv3]; exact BK.new _ _ _))
        have HKv := Lib.hid (HK3.out.below hbv)
        have HKvb := Lib.hid (HK3b.out.below hbv)
        rw [hv3] at HC3
        have HV3 := Lib.hid hv3
        clear hbv hv3 HAA HB3 HK3 HK3b
        go_wp2_with fail
        (with_reducible refine (HC3.out).mono ?_)
        rintro e u4 ⟨xa, xc, rfl, hown, hb⟩
        rw [← HV3.out] at hb
        simp only at hown ⊢
        generalize lx.length = nx
        have HB4 := Lib.hid (HBv.out.trans (hb.mono HBv.out.size))
        have HK4 := Lib.hid (HKv.out.below hb)
        have HK4b := Lib.hid (HKvb.out.below hb)
        clear hb hown HC3 HBv HKv HKvb HV3 e0 e1
        have f0 : u4.cell? ⟨w.heap.size + 1, 0, none⟩ = some (.int .u64 x') := by rw [HK4b.out.cell]; rfl
        have f1 : u4.cell? ⟨w.heap.size + 1, 1, none⟩ = some (.int .u64 y') := by rw [HK4b.out.cell]; rfl
        obtain ⟨v4, hv4⟩ : ∃ v4, v4 = u4.alloc (.cells #[.int .u64 x', .int .u64 y'] 32) := ⟨_, rfl⟩
        have hbv : Below u4.heap.size u4 v4 := by rw [hv4]; exact (Below.refl _ _).alloc (Nat.le_refl _) _
        have HBv := Lib.hid (HB4.out.trans (hbv.mono HB4.out.size))
        have HC4 := Lib.hid (HAB.out v4 HBv.out u4.heap.size (by rw [hv4]; exact BK.new _ _ _))
        rw [hv4] at HC4
        have HV4 := Lib.hid hv4
        clear hbv hv4 HAB HB4 HK4 HK4b
        go_wp2_with fail
        (with_reducible refine (HC4.out).mono ?_)
        rintro e u5 ⟨ya, yc, rfl, hown, hb⟩
        rw [← HV4.out] at hb
        simp only at hown ⊢
        generalize ly.length = ny
        have HB5 := Lib.hid (HBv.out.trans (hb.mono HBv.out.size))
        have HC5 := Lib.hid (HSM.out la lc ma mc u5)
        clear hb hown HC4 HBv HV4 f0 f1 HSM
        go_wp2_with fail
        (with_reducible refine (HC5.out).mono ?_)
        rintro e u6 ⟨rfl, hb⟩
        have HB6 := Lib.hid (HB5.out.trans (hb.mono HB5.out.size))
        have HA6 := Lib.hid (HAW.out u6)
        clear hb HC5 HB5
        go_wp2_with fail
        (with_reducible refine (HA6.out).mono ?_)
        rintro e u7 ⟨rfl, hb⟩
        have HB7 := Lib.hid (HB6.out.trans (hb.mono HB6.out.size))
        clear hb
        go_wp2_with fail
        go_ret
        exact ⟨rfl, HB7.out⟩

end Go.Proofs.YtgdhkcocdmdoaaaGreat.historyBases
