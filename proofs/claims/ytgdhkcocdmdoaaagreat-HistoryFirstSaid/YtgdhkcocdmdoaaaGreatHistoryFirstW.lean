/- The walk of the statement HistoryFirst. -/
import Derived.Test.YtgdhkcocdmdoaaaGreatHiFi
import Derived.Test.YtgdhkcocdmdoaaaGreatHiLx
namespace Go.Proofs.YtgdhkcocdmdoaaaGreat.historyFirst
open Go.RowKit Go.Shelf
set_option linter.unusedVariables false

theorem digs_at {N : Nat} {W : World} {b o : Nat} {l : List (Int × Int)} (h : Digs N W (some ⟨b, o, none⟩) l) {i : Nat} (hi : i < l.length) : W.cell? ⟨b, o + i * 2, none⟩ = some (.int .u64 l[i].1) ∧ W.cell? ⟨b, o + i * 2 + 1, none⟩ = some (.int .u64 l[i].2) := by
  obtain ⟨b0, of0, haa, hb0, q0, q1⟩ := h i hi
  cases haa
  exact ⟨q0, q1⟩
/-- A walk along first parents. -/
structure FL (xs : List Itm) (d : Int × Int) (l : List (Int × Int)) : Prop where
  pos : 0 < l.length
  hd : ∀ h : 0 < l.length, l[0] = d
  le : l.length ≤ depS xs d + 1
  com : ∀ i (h : i < l.length), (commitS xs l[i]).2 = 0
  fin : ∀ i (h : i < l.length), i + 1 = l.length → (commitS xs l[i]).1.pars = []
  nxt : ∀ i (h : i + 1 < l.length), ∃ ps, (commitS xs l[i]).1.pars = l[i + 1] :: ps
theorem firF_bad {xs : List Itm} {f : Nat} {d : Int × Int} (h : (commitS xs d).2 ≠ 0) : firF xs (f + 1) d = ([], (commitS xs d).2) := by rw [firF, if_pos h]
theorem firF_end {xs : List Itm} {f : Nat} {d : Int × Int} (h : (commitS xs d).2 = 0) (hp : (commitS xs d).1.pars = []) : firF xs (f + 1) d = ([d], 0) := by rw [firF, if_neg (by simpa using h), hp]
theorem firF_go {xs : List Itm} {f : Nat} {d p : Int × Int} {ps : List (Int × Int)} (h : (commitS xs d).2 = 0) (hp : (commitS xs d).1.pars = p :: ps) : firF xs (f + 1) d = catS [d] (firF xs f p) := by rw [firF, if_neg (by simpa using h), hp]
theorem first_fl {xs : List Itm} (ha : AcyS xs) : ∀ (f : Nat) (d : Int × Int), rkS xs d < f → (firF xs f d).2 = 0 → FL xs d (firF xs f d).1
  | 0, _, h, _ => by omega
  | f + 1, d, h, he => by
    by_cases e : (commitS xs d).2 = 0
    · cases hp : (commitS xs d).1.pars with
      | nil =>
        rw [firF_end e hp]
        refine ⟨by simp, fun _ => rfl, by simp, fun i h => ?_, fun i h h2 => ?_, fun i h => by simp at h⟩ <;> (simp at h; subst h; simpa)
      | cons p ps =>
        rw [firF_go e hp] at he ⊢
        have hpm : p ∈ (commitS xs d).1.pars := by rw [hp]; simp
        have hr := rk_lt ha e hpm
        by_cases e2 : (firF xs f p).2 = 0
        · have ih := first_fl ha f p (by omega) e2
          have hl : catS [d] (firF xs f p) = (d :: (firF xs f p).1, 0) := by unfold catS; rw [if_neg (by simpa using e2)]; rfl
          rw [hl]
          generalize (firF xs f p).1 = l at ih
          simp only
          have hdp := dep_par ha hpm
          refine ⟨by simp, fun _ => rfl, by have := ih.le; simp; omega, fun i h => ?_, fun i h h2 => ?_, fun i h => ?_⟩
          · cases i with
            | zero => exact e
            | succ i => exact ih.com i (by simpa using h)
          · cases i with
            | zero => have := ih.pos; simp only [List.length_cons] at h2; omega
            | succ i => exact ih.fin i (by simpa using h) (by simpa using h2)
          · cases i with
            | zero => exact ⟨ps, by simp only [List.getElem_cons_zero, List.getElem_cons_succ]; rw [ih.hd ih.pos, hp]⟩
            | succ i => exact ih.nxt i (by simpa using h)
        · exfalso
          unfold catS at he
          rw [if_pos e2] at he
          exact e2 he
    · rw [firF_bad e] at he
      exact absurd he e
theorem first_er {xs : List Itm} : ∀ (f : Nat) (d : Int × Int), (firF xs f d).2 ≠ 0 → (firF xs f d).1 = []
  | 0, _, h => by simp [firF]
  | f + 1, d, h => by
    by_cases e : (commitS xs d).2 = 0
    · cases hp : (commitS xs d).1.pars with
      | nil => rw [firF_end e hp] at h; exact absurd rfl h
      | cons p ps =>
        rw [firF_go e hp] at h ⊢
        unfold catS at h ⊢
        by_cases e2 : (firF xs f p).2 = 0
        · rw [if_neg (by simpa using e2)] at h; exact absurd rfl h
        · rw [if_pos e2]
    · rw [firF_bad e]

set_option maxRecDepth 100000 in
set_option maxHeartbeats 8000000 in
theorem walk (a : Option Addr) (xs : List Itm) (c : Nat) (x y : Int) (w : World) (hp : PoolCame w a xs c) (h1 : OkD (x, y)) :
    Calls Tryz.prog 8 #[.slice a xs.length c, .agg #[.int .u64 x, .int .u64 y]] w fun e w' => e = .returned (.bool true) ∧ Below w.heap.size w w' := by
  have hml := hp.cap
  unfold maxLen at hml
  have hcap : xs.length ≤ c := by omega
  obtain ⟨w0, hw0⟩ : ∃ w0, w0 = w.alloc (.cells #[.int .u64 x, .int .u64 y] 32) := ⟨_, rfl⟩
  have hb0 : Below w.heap.size w w0 := by rw [hw0]; exact (Below.refl _ w).alloc (Nat.le_refl _) _
  have HVA := Lib.hid (valid13_any a xs c w0 (hp.its.ahead hb0) (by omega) (fun x hx => by have := (hp.dat x hx).2; unfold maxLen at this; omega))
  have HAW := Lib.hid awake13_any
  have HK0 : Hid (BK w.heap.size #[.int .u64 x, .int .u64 y] 32 w0) := Lib.hid (by rw [hw0]; exact BK.new _ _ _)
  have HB0 := Lib.hid hb0
  have HIT := Lib.hid hp.its
  rw [hw0] at HVA
  have HW0 := Lib.hid hw0
  clear hw0 hb0 hp hml
  cases hv : validS xs with
  | false =>
    rw [hv] at HVA
    clear hv hcap h1 HIT HK0
    generalize xs.length = n at HVA ⊢
    go_enter Tryz.func8, Tryz.ntmps8
    go_wp2_with fail
    (with_reducible refine (HVA.out).mono ?_)
    rintro e u ⟨rfl, hb⟩
    rw [← HW0.out] at hb
    have HB1 := Lib.hid (HB0.out.trans (hb.mono HB0.out.size))
    have HA1 := Lib.hid (HAW.out u)
    clear hb HVA HW0 HB0
    go_wp2_with fail
    (with_reducible refine (HA1.out).mono ?_)
    rintro e u2 ⟨rfl, hb⟩
    have HB2 := Lib.hid (HB1.out.trans (hb.mono HB1.out.size))
    clear hb
    go_wp2_with fail
    go_ret
    exact ⟨rfl, HB2.out⟩
  | true =>
    rw [hv] at HVA
    have hV := validS_true hv
    have HPI := Lib.hid (fun W (hW : Below w.heap.size w W) => hV.pin (W := W) (a := a) (c := c) (HIT.out.ahead hW) hcap)
    have hle := hV.le
    have HFI := Lib.hid (fun W (hW : Below w.heap.size w W) => first_any a xs c x y W (HPI.out W hW) hV.asc hV.acy h1 (by omega))
    have HCO := Lib.hid (fun W p q (hW : Below w.heap.size w W) => commit_any a xs c p q W (HPI.out W hW) hV.asc)
    have HDE := Lib.hid (fun W (hW : Below w.heap.size w W) => depth_any a xs c x y W (HPI.out W hW) hV.asc hV.acy h1 (by omega))
    have hdl : depS xs (x, y) ≤ 40 := by
      have := dep_rk hV.acy _ (x, y) (Nat.le_refl _); have := rk_le xs (x, y); omega
    have hdo : (depthS xs (x, y)).2 ≠ 0 ∨ depthS xs (x, y) = (((depS xs (x, y) : Nat) : Int), (0 : Int)) := by
      unfold depthS
      by_cases h : (visS xs [(x, y)] []).2 = 0
      · rw [if_neg (by simpa using h)]; exact .inr rfl
      · rw [if_pos h]; exact .inl h
    by_cases he : (firS xs (x, y)).2 = 0
    · have HF := Lib.hid (first_fl hV.acy _ (x, y) (Nat.lt_succ_of_le (rk_le xs (x, y))) he)
      rw [show firF xs (xs.length + 1) (x, y) = firS xs (x, y) from rfl] at HF
      generalize firS xs (x, y) = RF at HFI HF he
      obtain ⟨l, er⟩ := RF
      simp only at HFI HF he
      subst he
      have hll := HF.out.le
      have hlp := HF.out.pos
      have HH0 := Lib.hid (HF.out.hd hlp)
      generalize depS xs (x, y) = dd at hdl hdo hll
      generalize depthS xs (x, y) = DR at HDE hdo
      obtain ⟨dn, de⟩ := DR
      simp only at HDE hdo
      have HDO := Lib.hid hdo
      obtain ⟨nl, hnl⟩ : ∃ n, n = l.length := ⟨_, rfl⟩
      rw [← hnl] at hll hlp
      have HNL := Lib.hid hnl
      generalize xs.length = n at HVA HFI HCO HDE ⊢
      clear hnl hv hcap HIT hV HPI hle h1 hdo
      have hnl40 : (nl : Int) ≤ 41 := by omega
      have hnl0 : ((nl : Int) == 0) = false := by simp; omega
      go_enter Tryz.func8, Tryz.ntmps8
      go_wp2_with fail
      (with_reducible refine (HVA.out).mono ?_)
      rintro e u ⟨rfl, hb⟩
      rw [← HW0.out] at hb
      have HB1 := Lib.hid (HB0.out.trans (hb.mono HB0.out.size))
      have HK1 := Lib.hid (HK0.out.below hb)
      have HF1 := Lib.hid (HFI.out u HB1.out)
      have e0 : u.cell? ⟨w.heap.size, 0, none⟩ = some (.int .u64 x) := by rw [HK1.out.cell]; rfl
      have e1 : u.cell? ⟨w.heap.size, 1, none⟩ = some (.int .u64 y) := by rw [HK1.out.cell]; rfl
      clear hb HVA HW0 HB0 HK0 HFI
      go_wp2_with fail
      (with_reducible refine (HF1.out).mono ?_)
      rintro e u2 ⟨sa, sc, rfl, hown, hb⟩
      simp only at hown ⊢
      rw [← HNL.out] at ⊢
      have HB2 := Lib.hid (HB1.out.trans (hb.mono HB1.out.size))
      have HK2 := Lib.hid (HK1.out.below hb)
      have HDL2 := Lib.hid (ownsRow_digs hown)
      clear hb hown HF1 HB1 HK1 e0 e1
      have e0 : u2.cell? ⟨w.heap.size, 0, none⟩ = some (.int .u64 x) := by rw [HK2.out.cell]; rfl
      have e1 : u2.cell? ⟨w.heap.size, 1, none⟩ = some (.int .u64 y) := by rw [HK2.out.cell]; rfl
      obtain ⟨b0, of0, haa, hb0, q0, q1⟩ := HDL2.out 0 (by rw [← HNL.out]; exact hlp)
      subst haa
      rw [HH0.out] at q0 q1
      simp only [Nat.zero_mul, Nat.add_zero] at q0 q1
      have hq := fun W => neq_dig x y x y W
      rw [show (!(x == x && y == y)) = false by simp] at hq
      go_wp2_with fail
      go_quiet (fail)
      clear q0 q1 e0 e1 hq hb0
      obtain ⟨u3, hu3⟩ : ∃ u3, u3 = u2.drewN nq := ⟨_, rfl⟩
      have hbd : Below u2.heap.size u2 u3 := by rw [hu3]; exact below_drewN (Below.refl _ _) _
      rw [← hu3]
      have HB3 := Lib.hid (HB2.out.trans (hbd.mono HB2.out.size))
      have HK3 := Lib.hid (HK2.out.below hbd)
      have HDL3 := Lib.hid (HDL2.out.ahead hbd)
      clear hbd hu3 HB2 HK2 HDL2
      go_wp2_with fail
      go_loopw [43] (fun i wr => ∃ k : Nat, k ≤ nl ∧ i = .int .i64 k ∧ Hid (Below w.heap.size w wr) ∧ Hid (BK w.heap.size #[.int .u64 x, .int .u64 y] 32 wr) ∧ Hid (Digs wr.heap.size wr (some ⟨b0, of0, none⟩) l)) (fun i _ => nl - (intOf i).toNat)
      case atStart => exact ⟨0, by omega, rfl, HB3, HK3, HDL3⟩
      case round =>
        clear HB3 HK3 HDL3
        obtain ⟨k, hk, rfl, HB, HK, HDL⟩ := hrel
        by_cases hlt : k < nl
        · have h1 : k < l.length := by have := HNL.out; omega
          obtain ⟨q0, q1⟩ := digs_at HDL.out h1
          have hc := HF.out.com k h1
          have HFN := Lib.hid (HF.out.fin k h1)
          have HNX : Hid (∀ h : k + 1 < l.length, ∃ ps, (commitS xs (l[k]'h1)).1.pars = l[k + 1] :: ps) := Lib.hid (fun h => HF.out.nxt k h)
          generalize l[k] = d at q0 q1 hc HFN HNX
          obtain ⟨d1, d2⟩ := d
          simp only at q0 q1
          obtain ⟨v, hv⟩ : ∃ v, v = wr.alloc (.cells #[.int .u64 d1, .int .u64 d2] 32) := ⟨_, rfl⟩
          have hbv : Below wr.heap.size wr v := by rw [hv]; exact (Below.refl _ _).alloc (Nat.le_refl _) _
          have HBv := Lib.hid (HB.out.trans (hbv.mono HB.out.size))
          have HKv := Lib.hid (HK.out.below hbv)
          have HDLv := Lib.hid (HDL.out.ahead hbv)
          have HC := Lib.hid (HCO.out v d1 d2 HBv.out)
          rw [hc, hv] at HC
          have HV := Lib.hid hv
          obtain ⟨o, ho⟩ : ∃ o, o = (commitS xs (d1, d2)).1 := ⟨_, rfl⟩
          rw [← ho] at HC HFN HNX
          obtain ⟨kind, data, ents, ⟨t1, t2⟩, pars, author, time, msg⟩ := o
          simp only at HFN HNX
          have hkn : (k : Int) < (nl : Int) := by omega
          clear hc ho hbv hv HB HK HDL
          go_wp2_with fail
          (with_reducible refine (HC.out).mono ?_)
          rintro e u4 ⟨ea, ec, pa, pc, rfl, hob, hb⟩
          rw [← HV.out] at hb hob
          simp only [Ob.val]
          have hpl := hob.bb.plen
          have hpo := hob.po
          simp only at hpl hpo
          obtain ⟨np, hnp⟩ : ∃ n, n = pars.length := ⟨_, rfl⟩
          have HPD := Lib.hid (ownsRow_digs hpo)
          rw [← hnp] at hpl ⊢
          have HNP := Lib.hid hnp
          generalize ents.length = ne
          obtain ⟨v5, hv5⟩ : ∃ v5, v5 = u4.alloc (.cells #[.int .i64 kind, .string ⟨data.toArray⟩, .slice ea ne ec, .int .u64 t1, .int .u64 t2, .slice pa np pc, .string ⟨author.toArray⟩, .int .i64 time, .string ⟨msg.toArray⟩] 36) := ⟨_, rfl⟩
          have hbv : Below u4.heap.size u4 v5 := by rw [hv5]; exact (Below.refl _ _).alloc (Nat.le_refl _) _
          have HB5 := Lib.hid (HBv.out.trans ((hb.trans (hbv.mono hb.size)).mono HBv.out.size))
          have HK5 := Lib.hid (HKv.out.below (hb.trans (hbv.mono hb.size)))
          have HDL5 := Lib.hid (HDLv.out.ahead (hb.trans (hbv.mono hb.size)))
          have HPD5 := Lib.hid (HPD.out.ahead hbv)
          have HKO5 : Hid (BK u4.heap.size #[.int .i64 kind, .string ⟨data.toArray⟩, .slice ea ne ec, .int .u64 t1, .int .u64 t2, .slice pa np pc, .string ⟨author.toArray⟩, .int .i64 time, .string ⟨msg.toArray⟩] 36 v5) := Lib.hid (by rw [hv5]; exact BK.new _ _ _)
          have HV5 := Lib.hid hv5
          have k5 : v5.cell? ⟨u4.heap.size, 5, none⟩ = some (.slice pa np pc) := by rw [HKO5.out.cell]; rfl
          clear hob hpo hb hbv hv5 hnp HC HBv HKv HDLv HPD HKO5 HV
          by_cases hl2 : k + 1 < nl
          · obtain ⟨ps, hps⟩ := HNX.out (by have := HNL.out; omega)
            have h2 : k + 1 < l.length := by have := HNL.out; omega
            obtain ⟨r0, r1⟩ := digs_at HDL5.out h2
            obtain ⟨b9, o9, haa, hb9, s0, s1⟩ := HPD5.out 0 (by rw [hps]; simp)
            have hp0 : pars[0]'(by rw [hps]; simp) = l[k + 1] := by simp only [hps]; rfl
            rw [hp0] at s0 s1
            subst haa
            simp only [Nat.zero_mul, Nat.add_zero] at s0 s1
            generalize l[k + 1] = d' at r0 r1 s0 s1
            obtain ⟨z1, z2⟩ := d'
            simp only at r0 r1 s0 s1
            have hq := fun W => neq_dig z1 z2 z1 z2 W
            rw [show (!(z1 == z1 && z2 == z2)) = false by simp] at hq
            have hnp1 : 0 < np := by rw [HNP.out, hps]; simp
            have g1 : ((np : Int) == 0) = false := by simp; omega
            have g2 : ((k : Int) == (nl : Int) - 1) = false := by simp; omega
            have g3 : decide ((k : Int) + 1 < (nl : Int)) = true := by simp; omega
            have g3' : (k : Int) + 1 < (nl : Int) := by omega
            have hnpi : (0 : Int) < (np : Int) := by omega
            have hk41 : (k : Int) ≤ 40 := by omega
            clear hp0 hps hb9 HNX HFN
            go_upto_region 12 with (fail)
            rw [← HV5.out]
            clear HV5
            go_quiet (fail)
            have hbd := below_drewN (Below.refl v5.heap.size v5) nq
            go_wp2_with fail
            go_roundw
            case rel => exact ⟨k + 1, by omega, by go_num, Lib.hid (HB5.out.trans (hbd.mono HB5.out.size)), Lib.hid (HK5.out.below hbd), Lib.hid (HDL5.out.ahead hbd)⟩
            case measure => simp [intOf] <;> omega
          · have hk1 : k + 1 = nl := by omega
            have hps := HFN.out (by have := HNL.out; omega)
            obtain rfl : np = 0 := by rw [HNP.out, hps]; rfl
            have g2 : ((k : Int) == (nl : Int) - 1) = true := by simp; omega
            have g3' : ¬ (k : Int) + 1 < (nl : Int) := by omega
            have g3 : decide ((k : Int) + 1 < (nl : Int)) = false := by simp; omega
            have hk41 : (k : Int) ≤ 40 := by omega
            clear hps HNX HFN
            go_upto_region 12 with (fail)
            rw [← HV5.out]
            clear HV5
            go_quiet (fail)
            have hbd := below_drewN (Below.refl v5.heap.size v5) nq
            go_wp2_with fail
            go_roundw
            case rel => exact ⟨k + 1, by omega, by go_num, Lib.hid (HB5.out.trans (hbd.mono HB5.out.size)), Lib.hid (HK5.out.below hbd), Lib.hid (HDL5.out.ahead hbd)⟩
            case measure => simp [intOf] <;> omega
        · have hkn : ¬ (k : Int) < (nl : Int) := by omega
          obtain ⟨x0, hx0⟩ : ∃ x0, x0 = wr := ⟨_, rfl⟩
          rw [← hx0] at HB HK HDL ⊢
          have e0 : x0.cell? ⟨w.heap.size, 0, none⟩ = some (.int .u64 x) := by rw [HK.out.cell]; rfl
          have e1 : x0.cell? ⟨w.heap.size, 1, none⟩ = some (.int .u64 y) := by rw [HK.out.cell]; rfl
          have HD := Lib.hid (HDE.out x0 HB.out)
          clear HDL HK hx0
          go_wp2_with fail
          (with_reducible refine (HD.out).mono ?_)
          rintro e u7 ⟨rfl, hb⟩
          have HB7 := Lib.hid (HB.out.trans (hb.mono HB.out.size))
          have HA7 := Lib.hid (HAW.out u7)
          clear hb HD HB e0 e1
          have hdb : (de != 0) = true ∨ ((de != 0) = false ∧ (nl : Int) - 1 ≤ dn) := by
            rcases HDO.out with h | h
            · exact .inl (by simpa using h)
            · rw [Prod.mk.injEq] at h
              exact .inr ⟨by simp [h.2], by rw [h.1]; omega⟩
          clear HDO
          rcases hdb with g1 | ⟨g1, g2⟩
          · go_wp2_with fail
            (with_reducible refine (HA7.out).mono ?_)
            rintro e u8 ⟨rfl, hb⟩
            have HB8 := Lib.hid (HB7.out.trans (hb.mono HB7.out.size))
            clear hb
            go_wp2_with fail
            go_ret
            exact ⟨rfl, HB8.out⟩
          · have g3 : decide ((nl : Int) - 1 ≤ dn) = true := by simpa using g2
            go_wp2_with fail
            (with_reducible refine (HA7.out).mono ?_)
            rintro e u8 ⟨rfl, hb⟩
            have HB8 := Lib.hid (HB7.out.trans (hb.mono HB7.out.size))
            clear hb
            go_wp2_with fail
            go_ret
            exact ⟨rfl, HB8.out⟩
    · have hl0 := first_er _ _ he
      rw [show firF xs (xs.length + 1) (x, y) = firS xs (x, y) from rfl] at hl0
      generalize firS xs (x, y) = RF at HFI he hl0
      obtain ⟨l, er⟩ := RF
      simp only at HFI he hl0
      subst hl0
      generalize xs.length = n at HVA HFI HCO HDE ⊢
      clear hv hcap HIT hV HPI hle h1 hdo HCO HDE
      have hee : (er != 0) = true := by simpa using he
      go_enter Tryz.func8, Tryz.ntmps8
      go_wp2_with fail
      (with_reducible refine (HVA.out).mono ?_)
      rintro e u ⟨rfl, hb⟩
      rw [← HW0.out] at hb
      have HB1 := Lib.hid (HB0.out.trans (hb.mono HB0.out.size))
      have HK1 := Lib.hid (HK0.out.below hb)
      have HF1 := Lib.hid (HFI.out u HB1.out)
      have e0 : u.cell? ⟨w.heap.size, 0, none⟩ = some (.int .u64 x) := by rw [HK1.out.cell]; rfl
      have e1 : u.cell? ⟨w.heap.size, 1, none⟩ = some (.int .u64 y) := by rw [HK1.out.cell]; rfl
      clear hb HVA HW0 HB0 HK0 HFI
      go_wp2_with fail
      (with_reducible refine (HF1.out).mono ?_)
      rintro e u2 ⟨sa, sc, rfl, hown, hb⟩
      simp only [List.length_nil] at hown ⊢
      have HB2 := Lib.hid (HB1.out.trans (hb.mono HB1.out.size))
      have HA2 := Lib.hid (HAW.out u2)
      clear hb hown HF1 HB1 HK1 e0 e1
      go_wp2_with fail
      (with_reducible refine (HA2.out).mono ?_)
      rintro e u8 ⟨rfl, hb⟩
      have HB8 := Lib.hid (HB2.out.trans (hb.mono HB2.out.size))
      clear hb
      go_wp2_with fail
      go_ret
      exact ⟨rfl, HB8.out⟩
end Go.Proofs.YtgdhkcocdmdoaaaGreat.historyFirst
