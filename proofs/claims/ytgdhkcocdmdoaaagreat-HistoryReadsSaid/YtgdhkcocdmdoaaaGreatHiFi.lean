/- history.First. -/
import Derived.Test.YtgdhkcocdmdoaaaGreatHiBs
namespace Go.Proofs.YtgdhkcocdmdoaaaGreat
open Go.RowKit Go.Shelf Go.Sort
set_option linter.unusedVariables false

def catS (acc : List (Int × Int)) (r : List (Int × Int) × Int) : List (Int × Int) × Int := if r.2 ≠ 0 then ([], r.2) else (acc ++ r.1, 0)
theorem cat_cat (acc : List (Int × Int)) (d : Int × Int) (r : List (Int × Int) × Int) : catS acc (catS [d] r) = catS (acc ++ [d]) r := by
  unfold catS
  by_cases h : r.2 = 0 <;> simp [h]
theorem cat_nil (r : List (Int × Int) × Int) (h : r.2 ≠ 0 → r.1 = []) : catS [] r = r := by
  unfold catS
  by_cases e : r.2 = 0
  · simp [e, Prod.ext_iff]
  · rw [if_pos e]; exact Prod.ext (h e).symm rfl
/-- A commit, its first parent, and so on. -/
def firF (xs : List Itm) : Nat → Int × Int → List (Int × Int) × Int
  | 0, _ => ([], 0)
  | f + 1, d => if (commitS xs d).2 ≠ 0 then ([], (commitS xs d).2) else
      match (commitS xs d).1.pars with
      | [] => ([d], 0)
      | p :: _ => catS [d] (firF xs f p)
theorem firF_fuel {xs : List Itm} (ha : AcyS xs) : ∀ (f g : Nat) (d : Int × Int), rkS xs d < f → rkS xs d < g → firF xs f d = firF xs g d
  | 0, _, _, h, _ => by omega
  | _, 0, _, _, h => by omega
  | f + 1, g + 1, d, h, h' => by
    unfold firF
    by_cases e : (commitS xs d).2 = 0
    · rw [if_neg (by simpa using e), if_neg (by simpa using e)]
      cases hp : (commitS xs d).1.pars with
      | nil => rfl
      | cons p ps =>
        have := rk_lt ha e (p := p) (by rw [hp]; simp)
        simp only
        rw [firF_fuel ha f g p (by omega) (by omega)]
    · rw [if_pos e, if_pos e]
def firS (xs : List Itm) (d : Int × Int) : List (Int × Int) × Int := firF xs (xs.length + 1) d
theorem firS_bad {xs : List Itm} {d : Int × Int} (h : (commitS xs d).2 ≠ 0) : firS xs d = ([], (commitS xs d).2) := by unfold firS firF; rw [if_pos h]
theorem firS_end {xs : List Itm} {d : Int × Int} (h : (commitS xs d).2 = 0) (hp : (commitS xs d).1.pars = []) : firS xs d = ([d], 0) := by
  unfold firS firF; rw [if_neg (by simpa using h), hp]
theorem firS_go {xs : List Itm} (ha : AcyS xs) {d p : Int × Int} {ps : List (Int × Int)} (h : (commitS xs d).2 = 0) (hp : (commitS xs d).1.pars = p :: ps) : firS xs d = catS [d] (firS xs p) := by
  have h1 : firS xs d = catS [d] (firF xs xs.length p) := by
    unfold firS
    rw [show firF xs (xs.length + 1) d = _ from by unfold firF; rfl, if_neg (by simpa using h), hp]
  have := rk_lt ha h (p := p) (by rw [hp]; simp)
  have := rk_le xs d
  rw [h1, firF_fuel ha xs.length (xs.length + 1) p (by omega) (by omega)]
  rfl
def sliceLen : Value → Nat
  | .slice _ n _ => n
  | _ => 0
set_option maxRecDepth 100000 in
set_option maxHeartbeats 4000000 in
theorem first_any (a : Option Addr) (xs : List Itm) (c : Nat) (x y : Int) (w : World) (hp : PoolIn w a xs c) (hA : Asc xs) (hac : AcyS xs) (hok : OkD (x, y)) (hxl : (xs.length : Int) ≤ 500) :
    Calls Tryz.prog 23 #[.slice a xs.length c, .agg #[.int .u64 x, .int .u64 y]] w (GotRo w (firS xs (x, y))) := by
  have HCO := Lib.hid (fun W p q (hW : Below w.heap.size w W) => commit_any a xs c p q W (hp.below hW) hA)
  have HFB := Lib.hid (fun d (h : (commitS xs d).2 ≠ 0) => firS_bad h)
  have HFE := Lib.hid (fun d (h : (commitS xs d).2 = 0) (hp : (commitS xs d).1.pars = []) => firS_end h hp)
  have HFG := Lib.hid (fun d p ps (h : (commitS xs d).2 = 0) (hp : (commitS xs d).1.pars = p :: ps) => firS_go hac h hp)
  have HRK := Lib.hid (fun d p (h : (commitS xs d).2 = 0) (hp : p ∈ (commitS xs d).1.pars) => rk_lt hac h hp)
  have HAC := Lib.hid hac
  have HOKP := Lib.hid (fun d p (h : OkD d) (hc : (commitS xs d).2 = 0) (hp : p ∈ (commitS xs d).1.pars) => anc_okD (xs := xs) (.step hc hp (.refl p)) h)
  obtain ⟨R, hR⟩ : ∃ R, R = firS xs (x, y) := ⟨_, rfl⟩
  have hrk := rk_le xs (x, y)
  obtain ⟨n, hn⟩ : ∃ n, n = xs.length := ⟨_, rfl⟩
  have HRe : Hid ((firS xs (x, y)).2 ≠ 0 → (firS xs (x, y)).1 = []) := Lib.hid (by
    unfold firS firF
    by_cases h : (commitS xs (x, y)).2 = 0
    · rw [if_neg (by simpa using h)]
      cases (commitS xs (x, y)).1.pars with
      | nil => simp
      | cons p ps => unfold catS; by_cases h2 : (firF xs xs.length p).2 = 0 <;> simp [h2]
    · rw [if_pos h]; simp)
  have HR0 : Hid (R = catS [] (firS xs (x, y))) := Lib.hid (by rw [hR, cat_nil _ HRe.out])
  rw [← hR]
  rw [← hn] at HCO hxl hrk ⊢
  clear hR HRe hn hp hac hA
  obtain ⟨w1, hw1⟩ : ∃ w1, w1 = (w.alloc (.cells #[.int .u64 x, .int .u64 y] 32)).alloc (.map #[] 0) := ⟨_, rfl⟩
  have hb1 : Below w.heap.size w w1 := by rw [hw1]; exact ((Below.refl _ w).alloc (Nat.le_refl _) _).alloc (by simp) _
  have HB1 := Lib.hid hb1
  have HK1 : Hid (BK w.heap.size #[.int .u64 x, .int .u64 y] 32 w1) := Lib.hid (by rw [hw1]; exact (BK.new _ _ _).alloc _)
  have HM1 : Hid (MapD (w.heap.size + 1) 0 (fun d => decide (d ∈ ([] : List (Int × Int)))) w1) := Lib.hid (by
    rw [hw1]
    have h1 := MapD.made (w.alloc (.cells #[.int .u64 x, .int .u64 y] 32))
    rw [World.size_alloc] at h1
    exact h1.eq (fun d => by simp))
  have hz1 : w.heap.size + 2 ≤ w1.heap.size := by rw [hw1]; simp
  have HW1 := Lib.hid hw1
  have HOK := Lib.hid hok
  have hmm := @run_makeMap Tryz.prog
  clear hb1 hw1 hok
  go_enter Tryz.func23, Tryz.ntmps23
  go_wp2_with fail
  rw [← HW1.out]
  clear HW1
  go_loopw [6] (fun v wr => ∃ (acc : List (Int × Int)) (x y : Int) (av : Option Addr) (cv : Nat), v = .slice av acc.length cv ∧ Hid (wr.ownsRow (w.heap.size + 2) 32 2 (.slice av acc.length cv) acc.length (dcells acc)) ∧ Hid (Below w.heap.size w wr) ∧ Hid (BK w.heap.size #[.int .u64 x, .int .u64 y] 32 wr) ∧ Hid (MapD (w.heap.size + 1) acc.length (fun d => decide (d ∈ acc)) wr) ∧ Hid (R = catS acc (firS xs (x, y))) ∧ Hid (∀ e ∈ acc, ¬ Anc xs (x, y) e) ∧ acc.length + rkS xs (x, y) ≤ n ∧ w.heap.size + 2 ≤ wr.heap.size ∧ Hid (OkD (x, y))) (fun v _ => n + 2 - sliceLen v)
  case atStart => exact ⟨[], x, y, none, 0, rfl, Lib.hid (World.ownsRow_nil _ _ _ _), HB1, HK1, HM1, HR0, Lib.hid (by simp), by simpa using hrk, hz1, HOK⟩
  case round =>
    clear HK1 HB1 HM1 HR0 hrk hz1 HOK
    obtain ⟨acc, x, y, av, cv, rfl, HO, HB, HK, HM, HR, HN, hrk, hz, HOK⟩ := hrel
    have hnot : (x, y) ∉ acc := fun h => HN.out _ h (.refl _)
    have hlk := HM.out.look HOK.out
    rw [decide_eq_false hnot] at hlk
    obtain ⟨m, hm⟩ : ∃ m, m = acc.length := ⟨_, rfl⟩
    rw [← hm] at hrk HO HM ⊢
    have HML := Lib.hid hm
    obtain ⟨W1, hrun, hmd, hg1⟩ := HM.out.put HOK.out (by omega)
    have HM1 := Lib.hid hmd
    have HB1 : Hid (Below w.heap.size w W1) := Lib.hid (HB.out.grown hg1 HB.out.size (fun j e => by cases e; omega))
    have HK1 : Hid (BK w.heap.size #[.int .u64 x, .int .u64 y] 32 W1) := Lib.hid (HK.out.grow1 hg1 (by omega))
    have HO1 := Lib.hid (own_kept HO.out hg1 (by omega))
    have hz1 : w.heap.size + 2 ≤ W1.heap.size := by have := hg1.size; omega
    have e0 : wr.cell? ⟨w.heap.size, 0, none⟩ = some (.int .u64 x) := by rw [HK.out.cell]; rfl
    have e1 : wr.cell? ⟨w.heap.size, 1, none⟩ = some (.int .u64 y) := by rw [HK.out.cell]; rfl
    have f0 : W1.cell? ⟨w.heap.size, 0, none⟩ = some (.int .u64 x) := by rw [HK1.out.cell]; rfl
    have f1 : W1.cell? ⟨w.heap.size, 1, none⟩ = some (.int .u64 y) := by rw [HK1.out.cell]; rfl
    have HC := Lib.hid (HCO.out W1 x y HB1.out)
    have HFB' := Lib.hid (HFB.out (x, y))
    have HFE' := Lib.hid (HFE.out (x, y))
    have HFG' := Lib.hid (HFG.out (x, y))
    have HRK' := Lib.hid (HRK.out (x, y))
    have HOKP' := Lib.hid (fun p => HOKP.out (x, y) p HOK.out)
    have HAN := Lib.hid (fun p (h : (commitS xs (x, y)).2 = 0) (hp : p ∈ (commitS xs (x, y)).1.pars) => (⟨fun e he hh => HN.out e he (.step h hp hh), HAC.out _ _ h hp⟩ : (∀ e ∈ acc, ¬ Anc xs p e) ∧ ¬ Anc xs p (x, y)))
    obtain ⟨CR, hCR⟩ : ∃ CR, CR = commitS xs (x, y) := ⟨_, rfl⟩
    rw [← hCR] at HC HFB' HFE' HFG' HRK' HOKP' HAN
    obtain ⟨⟨kind, data, ents, ⟨t1, t2⟩, pars, author, time, msg⟩, er⟩ := CR
    simp only at HC HFB' HFE' HFG' HRK' HOKP' HAN
    generalize rkS xs (x, y) = rk at hrk HRK'
    clear hmd hg1 hm hCR HFB HFE HFG HRK HAC HOKP HN hnot HO HB HK
    go_wp2_with fail
    (with_reducible refine (HC.out).mono ?_)
    rintro e u ⟨ea, ec, pa, pc, rfl, hob, hb⟩
    simp only [Ob.val]
    have hpl := hob.bb.plen
    simp only at hpl
    have HPO := Lib.hid hob.po
    obtain ⟨np, hnp⟩ : ∃ n, n = pars.length := ⟨_, rfl⟩
    rw [← hnp] at hpl ⊢
    have HNP := Lib.hid hnp
    generalize ents.length = ne
    simp only at HPO
    rw [← hnp] at HPO
    have hzu : w.heap.size + 2 ≤ u.heap.size := by have := hb.size; omega
    have HB2 := Lib.hid (HB1.out.trans (hb.mono HB1.out.size))
    have HK2 := Lib.hid (HK1.out.below hb)
    have HM2 := Lib.hid (HM1.out.below hb)
    have HLT : Hid (∀ j, (Value.slice av m cv).ownBlock = some j → w.heap.size + 2 ≤ j ∧ j < W1.heap.size) := Lib.hid (fun j hj => HO1.out.lt _ hj)
    have hzz : W1.heap.size ≤ u.heap.size := hb.size
    have HO2 := Lib.hid (own_below HO1.out hb)
    obtain ⟨v2, hv2⟩ : ∃ v2, v2 = u.alloc (.cells #[.int .i64 kind, .string ⟨data.toArray⟩, .slice ea ne ec, .int .u64 t1, .int .u64 t2, .slice pa np pc, .string ⟨author.toArray⟩, .int .i64 time, .string ⟨msg.toArray⟩] 36) := ⟨_, rfl⟩
    have hbv : Below u.heap.size u v2 := by rw [hv2]; exact (Below.refl _ _).alloc (Nat.le_refl _) _
    have HB3 := Lib.hid (HB2.out.trans (hbv.mono HB2.out.size))
    have HK3 := Lib.hid (HK2.out.below hbv)
    have HM3 := Lib.hid (HM2.out.below hbv)
    have HO3 := Lib.hid (own_below HO2.out hbv)
    have HP3 := Lib.hid (own_below HPO.out hbv)
    have HKO : Hid (BK u.heap.size #[.int .i64 kind, .string ⟨data.toArray⟩, .slice ea ne ec, .int .u64 t1, .int .u64 t2, .slice pa np pc, .string ⟨author.toArray⟩, .int .i64 time, .string ⟨msg.toArray⟩] 36 v2) := Lib.hid (by rw [hv2]; exact BK.new _ _ _)
    have hzv : v2.heap.size = u.heap.size + 1 := by rw [hv2]; simp
    have HZV := Lib.hid hzv
    have g0 : v2.cell? ⟨w.heap.size, 0, none⟩ = some (.int .u64 x) := by rw [HK3.out.cell]; rfl
    have g1 : v2.cell? ⟨w.heap.size, 1, none⟩ = some (.int .u64 y) := by rw [HK3.out.cell]; rfl
    rw [hv2] at g0 g1
    have HV2 := Lib.hid hv2
    clear hob hb hbv hv2 hzv hnp HB1 HK1 HM1 HO1 HB2 HK2 HM2 HO2 e0 e1 f0 f1 hrun HC HPO hlk HM
    by_cases he : er = 0
    · subst he
      obtain ⟨v', W', hrun', hown', hg', _⟩ := append_one (xs := acc) (by rw [← HML.out]; exact HO3.out) x y (by have := HML.out; omega) (by have := HZV.out; omega)
      have HB4 : Hid (Below w.heap.size w W') := Lib.hid ((HB3.out.alloc HB3.out.size _).grown hg' (by have := HB3.out.size; simp; omega) (fun j hj => by have := HLT.out j hj; omega))
      have HK4 : Hid (BK w.heap.size #[.int .u64 x, .int .u64 y] 32 W') := Lib.hid ((HK3.out.alloc _).grow hg' (fun j hj e => by have := HLT.out j hj; omega))
      have HKO4 : Hid (BK u.heap.size #[.int .i64 kind, .string ⟨data.toArray⟩, .slice ea ne ec, .int .u64 t1, .int .u64 t2, .slice pa np pc, .string ⟨author.toArray⟩, .int .i64 time, .string ⟨msg.toArray⟩] 36 W') := Lib.hid ((HKO.out.alloc _).grow hg' (fun j hj e => by have := HLT.out j hj; omega))
      have HM4 : Hid (MapD (w.heap.size + 1) (m + 1) (fun d => decide (d ∈ acc ++ [(x, y)])) W') := Lib.hid (((HM3.out.alloc _).kept hg' (fun e => by have := HLT.out _ e.symm; omega)).eq (fun d => by simp))
      have HP4 : Hid (Digs W'.heap.size W' pa pars) := Lib.hid (by
        have h5 := own_apart (own_below HP3.out ((Below.refl _ _).alloc (Nat.le_refl _) (.cells #[.int .u64 x, .int .u64 y] 32))) (fun j h1 h2 => by have := HLT.out j h2; have := (HP3.out.lt _ h1).1; omega) hg'
        rw [HNP.out] at h5
        exact ownsRow_digs h5)
      have HO4 := Lib.hid hown'
      have hz4 : w.heap.size + 2 ≤ W'.heap.size := by have h5 := hg'.size; have h6 := HZV.out; simp at h5; omega
      obtain ⟨av', cv', rfl, _⟩ := ownsRow_sliceN hown'
      have HML4 : Hid ((acc ++ [(x, y)]).length = m + 1) := Lib.hid (by rw [List.length_append, ← HML.out]; rfl)
      rw [HZV.out, HV2.out] at hrun'
      have HRUN := Lib.hid hrun'
      have k5 : W'.cell? ⟨u.heap.size, 5, none⟩ = some (.slice pa np pc) := by rw [HKO4.out.cell]; rfl
      have k5a := k5
      clear hrun' hown' hg' HB3 HK3 HM3 HO3 HP3 HKO HZV HV2 HLT HKO4 HFB'
      obtain ⟨m2, hm2⟩ : ∃ m2, m2 = (acc ++ [(x, y)]).length := ⟨_, rfl⟩
      rw [← hm2] at HRUN HO4 HML4
      have HM2L := Lib.hid hm2
      clear hm2
      cases pars with
      | nil =>
        obtain rfl : np = 0 := HNP.out
        have HX : Hid (R = (acc ++ [(x, y)], 0)) := Lib.hid (by rw [HR.out, HFE'.out rfl rfl]; unfold catS; simp)
        clear HFE' HFG' HRK' HAN HOKP' HR
        go_wp2_with (at_builtin; refine Lib.wpList_append_run _ rfl _ _ _ _ rfl _ _ rfl rfl _ _ HRUN.out ?_)
        go_ret2
        rw [HX.out]
        exact ⟨av', cv', by rw [← HM2L.out]; rfl, own_le (by rw [← HM2L.out]; exact HO4.out) (by omega), HB4.out⟩
      | cons p ps =>
        have HX : Hid (R = catS (acc ++ [(x, y)]) (firS xs p)) := Lib.hid (by rw [HR.out, HFG'.out p ps rfl rfl, cat_cat])
        have hr2 := HRK'.out p rfl (by simp)
        have HN2 : Hid (∀ e ∈ acc ++ [(x, y)], ¬ Anc xs p e) := Lib.hid (fun e he => by
          obtain ⟨h1, h2⟩ := HAN.out p rfl (by simp)
          rcases List.mem_append.1 he with h | h
          · exact h1 e h
          · rw [List.mem_singleton.1 h]; exact h2)
        have HOK2 := Lib.hid (HOKP'.out p rfl (by simp))
        obtain ⟨b9, o9, haa, hb9, q0, q1⟩ := HP4.out 0 (by simp)
        simp only [List.getElem_cons_zero, Nat.zero_mul, Nat.add_zero] at q0 q1
        subst haa
        obtain ⟨p1, p2⟩ := p
        simp only at q0 q1
        have hnp : 0 < np := by rw [HNP.out]; simp
        have hnpi : (0 : Int) < (np : Int) := by omega
        have hnp0 : ¬ (np : Int) = 0 := by omega
        have hnpb : ((np : Int) == 0) = false := by simpa using hnp0
        obtain ⟨W5, hW5⟩ : ∃ W5, W5 = (W'.setCell ⟨w.heap.size, 0, none⟩ (.int .u64 p1)).setCell ⟨w.heap.size, 1, none⟩ (.int .u64 p2) := ⟨_, rfl⟩
        have hg5 : W'.grownBy W5 (some w.heap.size) := by rw [hW5]; exact gown (gset _ _ _ _) _ _
        have HB5 : Hid (Below w.heap.size w W5) := Lib.hid (HB4.out.grown hg5 HB4.out.size (fun j e => by cases e; omega))
        have HK5 : Hid (BK w.heap.size #[.int .u64 p1, .int .u64 p2] 32 W5) := Lib.hid (by rw [hW5]; exact (HK4.out.set 0 (.int .u64 p1)).set 1 (.int .u64 p2))
        have HO5 := Lib.hid (own_kept HO4.out hg5 (by omega))
        have HM5 : Hid (MapD (w.heap.size + 1) (m + 1) (fun d => decide (d ∈ acc ++ [(x, y)])) W5) := Lib.hid (HM4.out.kept hg5 (fun e => by have := Option.some.inj e; omega))
        have hz5 : w.heap.size + 2 ≤ W5.heap.size := by have := hg5.size; omega
        have fz := HK4.out.frozen
        have f0 : W'.frozen? ⟨w.heap.size, 0, none⟩ = false := HK4.out.frozen 0
        have f1 : W'.frozen? ⟨w.heap.size, 1, none⟩ = false := HK4.out.frozen 1
        have k0 : W'.cell? ⟨w.heap.size, 0, none⟩ = some (.int .u64 x) := by rw [HK4.out.cell]; rfl
        have k1 : W'.cell? ⟨w.heap.size, 1, none⟩ = some (.int .u64 y) := by rw [HK4.out.cell]; rfl
        have HW5 := Lib.hid hW5
        clear hg5 hW5 fz HB4 HO4 HM4 HFE' HFG' HRK' HAN HOKP' HR HP4
        go_wp2_with (at_builtin; refine Lib.wpList_append_run _ rfl _ _ _ _ rfl _ _ rfl rfl _ _ HRUN.out ?_)
        rw [← HW5.out]
        go_roundw
        case rel => exact ⟨acc ++ [(x, y)], p1, p2, av', cv', by rw [← HM2L.out], by rw [← HM2L.out]; exact HO5, HB5, HK5, by rw [← HM2L.out, HML4.out]; exact HM5, HX, HN2, by rw [← HM2L.out, HML4.out]; omega, hz5, HOK2⟩
        case measure =>
          have := HML4.out
          simp [sliceLen]
          omega
    · have hee : (er != 0) = true := by simpa using he
      have HX : Hid (R = ([], er)) := Lib.hid (by rw [HR.out, HFB'.out he]; unfold catS; rw [if_pos he])
      clear HFB' HFE' HFG' HRK' HAN HR
      go_wp2_with fail
      go_ret2
      rw [← HV2.out, HX.out]
      exact ⟨none, 0, rfl, World.ownsRow_nil _ _ _ _, HB3.out⟩
end Go.Proofs.YtgdhkcocdmdoaaaGreat
