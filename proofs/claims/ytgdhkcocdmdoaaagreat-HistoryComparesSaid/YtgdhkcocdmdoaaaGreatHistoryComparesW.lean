/- The walk of the statement HistoryCompares. -/
import Derived.Test.YtgdhkcocdmdoaaaGreatK7
import Derived.Test.YtgdhkcocdmdoaaaGreatHiSm
namespace Go.Proofs.YtgdhkcocdmdoaaaGreat.historyCompares
open Go.RowKit Go.Shelf
set_option linter.unusedVariables false

set_option maxRecDepth 100000 in
set_option maxHeartbeats 8000000 in
theorem walk (a : Option Addr) (xs : List Itm) (c : Nat) (oa : Option Addr) (old : List (Int × Int)) (oc : Nat) (na : Option Addr) (new : List (Int × Int)) (nc : Nat) (x y x' y' : Int) (w : World) (hp : PoolCame w a xs c) (ho : Digs w.heap.size w oa old) (hoc : old.length ≤ oc ∧ oc ≤ maxLen) (hoo : ∀ d ∈ old, OkD d) (hh : Digs w.heap.size w na new) (hhc : new.length ≤ nc ∧ nc ≤ maxLen) (hho : ∀ d ∈ new, OkD d) (h1 : OkD (x, y)) (h2 : OkD (x', y')) :
    Calls Tryz.prog 9 #[.slice a xs.length c, .slice oa old.length oc, .slice na new.length nc, .agg #[.int .u64 x, .int .u64 y], .agg #[.int .u64 x', .int .u64 y']] w fun e w' => e = .returned (.bool true) ∧ Below w.heap.size w w' := by
  have hml := hp.cap
  unfold maxLen at hml hoc hhc
  have hcap : xs.length ≤ c := by omega
  obtain ⟨w0, hw0⟩ : ∃ w0, w0 = (w.alloc (.cells #[.int .u64 x, .int .u64 y] 32)).alloc (.cells #[.int .u64 x', .int .u64 y'] 32) := ⟨_, rfl⟩
  have hb0 : Below w.heap.size w w0 := by rw [hw0]; exact ((Below.refl _ w).alloc (Nat.le_refl _) _).alloc (by simp) _
  have HVA := Lib.hid (valid13_any a xs c w0 (hp.its.ahead hb0) (by omega) (fun x hx => by have := (hp.dat x hx).2; unfold maxLen at this; omega))
  have HAW := Lib.hid awake13_any
  have HK0 : Hid (BK w.heap.size #[.int .u64 x, .int .u64 y] 32 w0) := Lib.hid (by rw [hw0]; exact (BK.new _ _ _).alloc _)
  have HJ0 : Hid (BK (w.heap.size + 1) #[.int .u64 x', .int .u64 y'] 32 w0) := Lib.hid (by rw [hw0]; exact BK.new2 _ _ _ _)
  have HB0 := Lib.hid hb0
  have HIT := Lib.hid hp.its
  have HOD := Lib.hid ho
  have HND := Lib.hid hh
  obtain ⟨no, hno⟩ : ∃ n, n = old.length := ⟨_, rfl⟩
  obtain ⟨nn, hnn⟩ : ∃ n, n = new.length := ⟨_, rfl⟩
  have hol : (no : Int) ≤ 9223372036854775807 := by omega
  have hnl : (nn : Int) ≤ 9223372036854775807 := by omega
  rw [hw0] at HVA
  have HW0 := Lib.hid hw0
  clear hw0 hb0 hp hml ho hh
  cases hv : validS xs with
  | false =>
    rw [← hno, ← hnn]
    clear hno hnn h1 h2 HIT HK0 HJ0 hoc hhc hoo hho
    rw [hv] at HVA
    clear hv hcap 
    generalize xs.length = n at HVA ⊢
    go_enter Tryz.func9, Tryz.ntmps9
    go_wp2_with fail
    (with_reducible refine (HVA.out).mono ?_)
    rintro e u ⟨rfl, hb⟩
    rw [← HW0.out] at hb
    have HB1 := Lib.hid (HB0.out.trans (hb.mono HB0.out.size))
    have HA1 := Lib.hid (HAW.out u)
    clear hb HVA HW0 HB0
    go_wp2_with fail
    (with_reducible refine (HA1.out).mono ?_)
    rintro e u2 ⟨rfl, hb⟩
    have HB2 := Lib.hid (HB1.out.trans (hb.mono HB1.out.size))
    clear hb
    go_wp2_with fail
    go_ret
    exact ⟨rfl, HB2.out⟩
  | true =>
    rw [hv] at HVA
    have hV := validS_true hv
    by_cases hlen : no ≤ 10 ∧ nn ≤ 10
    · have hle := hV.le
      have HPI := Lib.hid (fun W (hW : Below w.heap.size w W) => hV.pin (W := W) (a := a) (c := c) (HIT.out.ahead hW) hcap)
      have hd1 : ∀ x ∈ xs, (x.data.length : Int) ≤ 1000000 := fun x hx => by have := hV.dat x hx; omega
      have HC1 := Lib.hid (fun W (hW : Below w.heap.size w W) => reaches_any a xs c x y x' y' W (HPI.out W hW) hV.asc h1 h2 (by omega))
      have HC2 := Lib.hid (fun W (hW : Below w.heap.size w W) => rreaches_any a xs c x y x' y' W (HIT.out.ahead hW) hV.asc (by omega) hd1 h1)
      have HC3 := Lib.hid (fun W (hW : Below w.heap.size w W) => bases_any a xs c x y x' y' W (HPI.out W hW) hV.asc h1 h2 (by omega))
      have HC4 := Lib.hid (fun W (hW : Below w.heap.size w W) => rbases_any a xs c x y x' y' W (HIT.out.ahead hW) hV.asc hV.acy (by omega) hd1 h1 h2)
      have HC5 := Lib.hid (fun W (hW : Below w.heap.size w W) => between_any a xs c oa old oc na new nc W (HPI.out W hW) hV.asc hV.acy (HOD.out.ahead hW) (HND.out.ahead hW) hoo hho (by omega) (by omega) (by omega))
      have HC6 := Lib.hid (fun W (hW : Below w.heap.size w W) => rbetween_any a xs c oa old oc na new nc W (HIT.out.ahead hW) hV.asc hV.acy (by omega) hd1 (HOD.out.ahead hW) (by omega) hoo (HND.out.ahead hW) (by omega) hho)
      have hb1 : ((basesS xs (x, y) (x', y')).1.length : Int) ≤ 500 := by
        unfold basesS
        split
        · simp
        · split
          · simp
          · rename_i g1 g2
            have := (vis_facts (by simpa using g1) (fun d hd => by rw [List.mem_singleton.1 hd]; exact h1)).le
            have h3 : (basesL xs (visS xs [(x, y)] []).1 (visS xs [(x', y')] []).1).length ≤ (visS xs [(x, y)] []).1.length := by
              unfold basesL; rw [sortS_length]; exact List.length_filter_le _ _
            simp only; omega
      have hb2 : ((betS xs old new).1.length : Int) ≤ 500 := by
        unfold betS
        split
        · simp
        · split
          · simp
          · rename_i g1 g2
            have := (vis_facts (by simpa using g1) hho).le
            have h3 : (sortH (depS xs) ((visS xs new []).1.filter fun d => !decide (d ∈ (visS xs old []).1))).length ≤ (visS xs new []).1.length := by
              rw [(sortH_perm _ _).length_eq]; exact List.length_filter_le _ _
            simp only; omega
      rw [← hno, ← hnn] at HC5 HC6 ⊢
      generalize reachesS xs (x, y) (x', y') = R1 at HC1 HC2
      generalize basesS xs (x, y) (x', y') = R2 at HC3 HC4 hb1
      generalize betS xs old new = R3 at HC5 HC6 hb2
      obtain ⟨r1, e1⟩ := R1
      obtain ⟨l2, e2⟩ := R2
      obtain ⟨l3, e3⟩ := R3
      simp only at HC1 HC2 hb1 hb2
      have HSA := Lib.hid (fun pa pc qa qc W (h : Digs W.heap.size W pa l2) (h' : Digs W.heap.size W qa l2) => same13_any pa qa l2 l2 pc qc W h h' (by omega))
      have HSB := Lib.hid (fun pa pc qa qc W (h : Digs W.heap.size W pa l3) (h' : Digs W.heap.size W qa l3) => same13_any pa qa l3 l3 pc qc W h h' (by omega))
      rw [decide_eq_true rfl] at HSA HSB
      obtain ⟨n2, hn2⟩ : ∃ n, n = l2.length := ⟨_, rfl⟩
      obtain ⟨n3, hn3⟩ : ∃ n, n = l3.length := ⟨_, rfl⟩
      rw [← hn2] at HSA
      rw [← hn3] at HSB
      have HN2 := Lib.hid hn2
      have HN3 := Lib.hid hn3
      have d1 : decide ((10 : Int) < (no : Int)) = false := by simp; omega
      have d2 : decide ((10 : Int) < (nn : Int)) = false := by simp; omega
      have d3 : ¬ (10 : Int) < (no : Int) := by omega
      have d4 : ¬ (10 : Int) < (nn : Int) := by omega
      generalize xs.length = n at HVA HC1 HC2 HC3 HC4 HC5 HC6 ⊢
      clear hn2 hn3 hno hnn hv hcap HIT hV HPI hle h1 h2 hd1 hb1 hb2 hoo hho HOD HND hoc hhc hlen
      go_enter Tryz.func9, Tryz.ntmps9
      go_wp2_with fail
      (with_reducible refine (HVA.out).mono ?_)
      rintro e u0 ⟨rfl, hb⟩
      rw [← HW0.out] at hb
      have HBa0 := Lib.hid (HB0.out.trans (hb.mono HB0.out.size))
      have HKa0 := Lib.hid (HK0.out.below hb)
      have HJa0 := Lib.hid (HJ0.out.below hb)
      clear hb HVA HW0 HB0 HK0 HJ0
      have HR := Lib.hid (HC1.out u0 HBa0.out)
      have e0 : u0.cell? ⟨w.heap.size, 0, none⟩ = some (.int .u64 x) := by rw [HKa0.out.cell]; rfl
      have e1 : u0.cell? ⟨w.heap.size, 1, none⟩ = some (.int .u64 y) := by rw [HKa0.out.cell]; rfl
      have f0 : u0.cell? ⟨w.heap.size + 1, 0, none⟩ = some (.int .u64 x') := by rw [HJa0.out.cell]; rfl
      have f1 : u0.cell? ⟨w.heap.size + 1, 1, none⟩ = some (.int .u64 y') := by rw [HJa0.out.cell]; rfl
      clear HC1
      go_wp2_with fail
      (with_reducible refine (HR.out).mono ?_)
      rintro e u1 ⟨rfl, hb⟩
      have HBa1 := Lib.hid (HBa0.out.trans (hb.mono HBa0.out.size))
      have HKa1 := Lib.hid (HKa0.out.below hb)
      have HJa1 := Lib.hid (HJa0.out.below hb)
      clear hb HR HBa0 HKa0 HJa0 e0 e1 f0 f1 
      have HR := Lib.hid (HC2.out u1 HBa1.out)
      have e0 : u1.cell? ⟨w.heap.size, 0, none⟩ = some (.int .u64 x) := by rw [HKa1.out.cell]; rfl
      have e1 : u1.cell? ⟨w.heap.size, 1, none⟩ = some (.int .u64 y) := by rw [HKa1.out.cell]; rfl
      have f0 : u1.cell? ⟨w.heap.size + 1, 0, none⟩ = some (.int .u64 x') := by rw [HJa1.out.cell]; rfl
      have f1 : u1.cell? ⟨w.heap.size + 1, 1, none⟩ = some (.int .u64 y') := by rw [HJa1.out.cell]; rfl
      clear HC2
      go_wp2_with fail
      (with_reducible refine (HR.out).mono ?_)
      rintro e u2 ⟨rfl, hb⟩
      have HBa2 := Lib.hid (HBa1.out.trans (hb.mono HBa1.out.size))
      have HKa2 := Lib.hid (HKa1.out.below hb)
      have HJa2 := Lib.hid (HJa1.out.below hb)
      clear hb HR HBa1 HKa1 HJa1 e0 e1 f0 f1 
      have HR := Lib.hid (HC3.out u2 HBa2.out)
      have e0 : u2.cell? ⟨w.heap.size, 0, none⟩ = some (.int .u64 x) := by rw [HKa2.out.cell]; rfl
      have e1 : u2.cell? ⟨w.heap.size, 1, none⟩ = some (.int .u64 y) := by rw [HKa2.out.cell]; rfl
      have f0 : u2.cell? ⟨w.heap.size + 1, 0, none⟩ = some (.int .u64 x') := by rw [HJa2.out.cell]; rfl
      have f1 : u2.cell? ⟨w.heap.size + 1, 1, none⟩ = some (.int .u64 y') := by rw [HJa2.out.cell]; rfl
      clear HC3
      go_wp2_with fail
      (with_reducible refine (HR.out).mono ?_)
      rintro e u3 ⟨la, lc, rfl, hown, hb⟩
      have HBa3 := Lib.hid (HBa2.out.trans (hb.mono HBa2.out.size))
      have HKa3 := Lib.hid (HKa2.out.below hb)
      have HJa3 := Lib.hid (HJa2.out.below hb)
      simp only at hown ⊢
      have HLa3 := Lib.hid (ownsRow_digs hown)
      rw [← HN2.out] at ⊢
      clear hb HR HBa2 HKa2 HJa2 e0 e1 f0 f1 hown
      have HR := Lib.hid (HC4.out u3 HBa3.out)
      have e0 : u3.cell? ⟨w.heap.size, 0, none⟩ = some (.int .u64 x) := by rw [HKa3.out.cell]; rfl
      have e1 : u3.cell? ⟨w.heap.size, 1, none⟩ = some (.int .u64 y) := by rw [HKa3.out.cell]; rfl
      have f0 : u3.cell? ⟨w.heap.size + 1, 0, none⟩ = some (.int .u64 x') := by rw [HJa3.out.cell]; rfl
      have f1 : u3.cell? ⟨w.heap.size + 1, 1, none⟩ = some (.int .u64 y') := by rw [HJa3.out.cell]; rfl
      clear HC4
      go_wp2_with fail
      (with_reducible refine (HR.out).mono ?_)
      rintro e u4 ⟨ma, mc, rfl, hdg, hmc, hb⟩
      have HBa4 := Lib.hid (HBa3.out.trans (hb.mono HBa3.out.size))
      have HKa4 := Lib.hid (HKa3.out.below hb)
      have HJa4 := Lib.hid (HJa3.out.below hb)
      have HLa4 := Lib.hid (HLa3.out.ahead hb)
      simp only at hdg ⊢
      have HMa4 := Lib.hid (hdg)
      rw [← HN2.out] at ⊢
      clear hb HR HBa3 HKa3 HJa3 HLa3 e0 e1 f0 f1 hdg
      have HR := Lib.hid (HC5.out u4 HBa4.out)
      clear HC5
      go_wp2_with fail
      (with_reducible refine (HR.out).mono ?_)
      rintro e u5 ⟨pa, pc, rfl, hown, hb⟩
      have HBa5 := Lib.hid (HBa4.out.trans (hb.mono HBa4.out.size))
      have HKa5 := Lib.hid (HKa4.out.below hb)
      have HJa5 := Lib.hid (HJa4.out.below hb)
      have HLa5 := Lib.hid (HLa4.out.ahead hb)
      have HMa5 := Lib.hid (HMa4.out.ahead hb)
      simp only at hown ⊢
      have HPa5 := Lib.hid (ownsRow_digs hown)
      rw [← HN3.out] at ⊢
      clear hb HR HBa4 HKa4 HJa4 HLa4 HMa4 hown
      have HR := Lib.hid (HC6.out u5 HBa5.out)
      clear HC6
      go_wp2_with fail
      (with_reducible refine (HR.out).mono ?_)
      rintro e u6 ⟨qa, qc, rfl, hdg, hqc, hb⟩
      have HBa6 := Lib.hid (HBa5.out.trans (hb.mono HBa5.out.size))
      have HKa6 := Lib.hid (HKa5.out.below hb)
      have HJa6 := Lib.hid (HJa5.out.below hb)
      have HLa6 := Lib.hid (HLa5.out.ahead hb)
      have HMa6 := Lib.hid (HMa5.out.ahead hb)
      have HPa6 := Lib.hid (HPa5.out.ahead hb)
      simp only at hdg ⊢
      have HQa6 := Lib.hid (hdg)
      rw [← HN3.out] at ⊢
      clear hb HR HBa5 HKa5 HJa5 HLa5 HMa5 HPa5 hdg
      have HR := Lib.hid (HSA.out la lc ma mc u6 HLa6.out HMa6.out)
      clear HSA
      go_wp2_with fail
      (with_reducible refine (HR.out).mono ?_)
      rintro e u7 ⟨rfl, hb⟩
      have HBa7 := Lib.hid (HBa6.out.trans (hb.mono HBa6.out.size))
      have HPa7 := Lib.hid (HPa6.out.ahead hb)
      have HQa7 := Lib.hid (HQa6.out.ahead hb)
      have HR2 := Lib.hid (HSB.out pa pc qa qc u7 HPa7.out HQa7.out)
      clear hb HR HSB HBa6 HPa6 HQa6 HLa6 HMa6 HKa6 HJa6
      go_wp2_with fail
      (with_reducible refine (HR2.out).mono ?_)
      rintro e u8 ⟨rfl, hb⟩
      have HBa8 := Lib.hid (HBa7.out.trans (hb.mono HBa7.out.size))
      have HA8 := Lib.hid (HAW.out u8)
      clear hb HR2 HBa7 HPa7 HQa7
      go_wp2_with fail
      (with_reducible refine (HA8.out).mono ?_)
      rintro e u9 ⟨rfl, hb⟩
      have HBa9 := Lib.hid (HBa8.out.trans (hb.mono HBa8.out.size))
      clear hb
      go_wp2_with fail
      go_ret
      exact ⟨rfl, HBa9.out⟩
    · have hor : (10 : Int) < (no : Int) ∨ ((no : Int) ≤ 10 ∧ (10 : Int) < (nn : Int)) := by omega
      rw [← hno, ← hnn]
      clear hno hnn hv hcap HIT hV h1 h2 HK0 HJ0 hlen hoo hho hoc hhc HOD HND
      generalize xs.length = n at HVA ⊢
      rcases hor with h3 | ⟨h3, h4⟩
      all_goals
        go_enter Tryz.func9, Tryz.ntmps9
        go_wp2_with fail
        (with_reducible refine (HVA.out).mono ?_)
        rintro e u ⟨rfl, hb⟩
        rw [← HW0.out] at hb
        have HB1 := Lib.hid (HB0.out.trans (hb.mono HB0.out.size))
        have HA1 := Lib.hid (HAW.out u)
        clear hb HVA HW0 HB0
        go_wp2_with fail
        (with_reducible refine (HA1.out).mono ?_)
        rintro e u2 ⟨rfl, hb⟩
        have HB2 := Lib.hid (HB1.out.trans (hb.mono HB1.out.size))
        clear hb
        go_wp2_with fail
        go_ret
        exact ⟨rfl, HB2.out⟩

end Go.Proofs.YtgdhkcocdmdoaaaGreat.historyCompares
