/- The walk of the statement HistoryReads. -/
import Derived.Test.YtgdhkcocdmdoaaaGreatK7
import Derived.Test.YtgdhkcocdmdoaaaGreatHiSm
namespace Go.Proofs.YtgdhkcocdmdoaaaGreat.historyReads
open Go.RowKit Go.Shelf
set_option linter.unusedVariables false

theorem firF_len (xs : List Itm) : ∀ (f : Nat) (d : Int × Int), (firF xs f d).1.length ≤ f
  | 0, d => by simp [firF]
  | f + 1, d => by
    rw [firF_succ]
    split
    · simp
    · cases (commitS xs d).1.pars with
      | nil => simp [firN]
      | cons p ps =>
        have := firF_len xs f p
        show (catS [d] (firF xs f p)).1.length ≤ f + 1
        unfold catS
        by_cases h : (firF xs f p).2 = 0
        · rw [if_neg (by simpa using h)]; simp; omega
        · rw [if_pos h]; simp

set_option maxRecDepth 100000 in
set_option maxHeartbeats 8000000 in
theorem walk (a : Option Addr) (xs : List Itm) (c : Nat) (na : Option Addr) (new : List (Int × Int)) (nc : Nat) (x y : Int) (w : World) (hp : PoolCame w a xs c) (hh : Digs w.heap.size w na new) (hhc : new.length ≤ nc ∧ nc ≤ maxLen) (hho : ∀ d ∈ new, OkD d) (h1 : OkD (x, y)) :
    Calls Tryz.prog 10 #[.slice a xs.length c, .slice na new.length nc, .agg #[.int .u64 x, .int .u64 y]] w fun e w' => e = .returned (.bool true) ∧ Below w.heap.size w w' := by
  have hml := hp.cap
  unfold maxLen at hml hhc
  have hcap : xs.length ≤ c := by omega
  obtain ⟨w0, hw0⟩ : ∃ w0, w0 = w.alloc (.cells #[.int .u64 x, .int .u64 y] 32) := ⟨_, rfl⟩
  have hb0 : Below w.heap.size w w0 := by rw [hw0]; exact (Below.refl _ w).alloc (Nat.le_refl _) _
  have HVA := Lib.hid (valid13_any a xs c w0 (hp.its.ahead hb0) (by omega) (fun x hx => by have := (hp.dat x hx).2; unfold maxLen at this; omega))
  have HAW := Lib.hid awake13_any
  have HK0 : Hid (BK w.heap.size #[.int .u64 x, .int .u64 y] 32 w0) := Lib.hid (by rw [hw0]; exact BK.new _ _ _)
  have HB0 := Lib.hid hb0
  have HIT := Lib.hid hp.its
  have HND := Lib.hid hh
  obtain ⟨nn, hnn⟩ : ∃ n, n = new.length := ⟨_, rfl⟩
  have hnl : (nn : Int) ≤ 9223372036854775807 := by omega
  rw [hw0] at HVA
  have HW0 := Lib.hid hw0
  clear hw0 hb0 hp hml hh
  cases hv : validS xs with
  | false =>
    rw [← hnn]
    clear hnn h1 HIT HK0 hhc hho
    rw [hv] at HVA
    clear hv hcap 
    generalize xs.length = n at HVA ⊢
    go_enter Tryz.func10, Tryz.ntmps10
    go_wp2_with fail
    (with_reducible refine (HVA.out).mono ?_)
    rintro e u ⟨rfl, hb⟩
    rw [← HW0.out] at hb
    have HB1 := Lib.hid (HB0.out.trans (hb.mono HB0.out.size))
    have HA1 := Lib.hid (HAW.out u)
    clear hb HVA HW0 HB0
    go_wp2_with fail
    (with_reducible refine (HA1.out).mono ?_)
    rintro e u2 ⟨rfl, hb⟩
    have HB2 := Lib.hid (HB1.out.trans (hb.mono HB1.out.size))
    clear hb
    go_wp2_with fail
    go_ret
    exact ⟨rfl, HB2.out⟩
  | true =>
    rw [hv] at HVA
    have hV := validS_true hv
    by_cases hlen : nn ≤ 10
    · have hle := hV.le
      have HPI := Lib.hid (fun W (hW : Below w.heap.size w W) => hV.pin (W := W) (a := a) (c := c) (HIT.out.ahead hW) hcap)
      have hd1 : ∀ x ∈ xs, (x.data.length : Int) ≤ 1000000 := fun x hx => by have := hV.dat x hx; omega
      have HC1 := Lib.hid (fun W (hW : Below w.heap.size w W) => commit_any a xs c x y W (HPI.out W hW) hV.asc)
      have HC2 := Lib.hid (fun W (hW : Below w.heap.size w W) => rcmt_any a xs c x y W (HIT.out.ahead hW) hV.asc (by omega) hd1)
      have HC5 := Lib.hid (fun W (hW : Below w.heap.size w W) => depth_any a xs c x y W (HPI.out W hW) hV.asc hV.acy h1 (by omega))
      have HC6 := Lib.hid (fun W (hW : Below w.heap.size w W) => rdepth_any a xs c x y W (HIT.out.ahead hW) hV.asc hV.acy (by omega) hd1 h1)
      have HC7 := Lib.hid (fun W (hW : Below w.heap.size w W) => ancestors_any a xs c na new nc W (HPI.out W hW) hV.asc hV.acy (HND.out.ahead hW) hho (by omega) (by omega))
      have HC8 := Lib.hid (fun W (hW : Below w.heap.size w W) => rancestors_any a xs c na new nc W (HIT.out.ahead hW) hV.asc hV.acy (by omega) hd1 (HND.out.ahead hW) (by omega) hho)
      have HC9 := Lib.hid (fun W (hW : Below w.heap.size w W) => first_any a xs c x y W (HPI.out W hW) hV.asc hV.acy h1 (by omega))
      have HC10 := Lib.hid (fun W (hW : Below w.heap.size w W) => rfirst_any a xs c x y W (HIT.out.ahead hW) hV.asc (by omega) hd1)
      have hb1 : ((ancS xs new).1.length : Int) ≤ 500 := by
        unfold ancS
        split
        · simp
        · rename_i g1
          have := (vis_facts (by simpa using g1) hho).le
          rw [show (sortH (depS xs) (visS xs new []).1, (0 : Int)).1.length = (visS xs new []).1.length from (sortH_perm _ _).length_eq]
          omega
      have hb2 : ((firS xs (x, y)).1.length : Int) ≤ 500 := by
        have := firF_len xs (xs.length + 1) (x, y)
        unfold firS
        omega
      rw [← hnn] at HC7 HC8 ⊢
      generalize commitS xs (x, y) = R1 at HC1 HC2
      generalize depthS xs (x, y) = R2 at HC5 HC6
      generalize ancS xs new = R3 at HC7 HC8 hb1
      generalize firS xs (x, y) = R4 at HC9 HC10 hb2
      obtain ⟨⟨kind, data, ents, ⟨t1, t2⟩, pars, author, time, msg⟩, e1⟩ := R1
      obtain ⟨n2, e2⟩ := R2
      obtain ⟨l3, e3⟩ := R3
      obtain ⟨l4, e4⟩ := R4
      simp only at HC1 HC2 HC5 HC6 hb1 hb2
      have HNA := Lib.hid (fun ea ec pa pc W h => name_any ⟨kind, data, ents, ⟨t1, t2⟩, pars, author, time, msg⟩ ea ec pa pc W h)
      obtain ⟨RN, hRN⟩ : ∃ RN, RN = nameS ⟨kind, data, ents, ⟨t1, t2⟩, pars, author, time, msg⟩ := ⟨_, rfl⟩
      rw [← hRN] at HNA
      obtain ⟨⟨s1, s2⟩, se⟩ := RN
      simp only [Ob.val] at HNA
      clear hRN
      have HSA := Lib.hid (fun pa pc qa qc W (h : Digs W.heap.size W pa l3) (h' : Digs W.heap.size W qa l3) => same13_any pa qa l3 l3 pc qc W h h' (by omega))
      have HSB := Lib.hid (fun pa pc qa qc W (h : Digs W.heap.size W pa l4) (h' : Digs W.heap.size W qa l4) => same13_any pa qa l4 l4 pc qc W h h' (by omega))
      rw [decide_eq_true rfl] at HSA HSB
      obtain ⟨n3, hn3⟩ : ∃ n, n = l3.length := ⟨_, rfl⟩
      obtain ⟨n4, hn4⟩ : ∃ n, n = l4.length := ⟨_, rfl⟩
      rw [← hn3] at HSA
      rw [← hn4] at HSB
      have HN3 := Lib.hid hn3
      have HN4 := Lib.hid hn4
      have d2 : decide ((10 : Int) < (nn : Int)) = false := by simp; omega
      have d4 : ¬ (10 : Int) < (nn : Int) := by omega
      generalize xs.length = n at HVA HC1 HC2 HC5 HC6 HC7 HC8 HC9 HC10 ⊢
      clear hn3 hn4 hnn hv hcap HIT hV HPI hle h1 hd1 hb1 hb2 hho HND hhc hlen
      obtain ⟨ne, hne⟩ : ∃ n, n = ents.length := ⟨_, rfl⟩
      obtain ⟨np, hnp⟩ : ∃ n, n = pars.length := ⟨_, rfl⟩
      have HNE := Lib.hid hne
      have HNP := Lib.hid hnp
      rw [← hne, ← hnp] at HNA
      clear hne hnp
      go_enter Tryz.func10, Tryz.ntmps10
      go_wp2_with fail
      (with_reducible refine (HVA.out).mono ?_)
      rintro e u0 ⟨rfl, hb⟩
      rw [← HW0.out] at hb
      have HBa0 := Lib.hid (HB0.out.trans (hb.mono HB0.out.size))
      have HKa0 := Lib.hid (HK0.out.below hb)
      clear hb HVA HW0 HB0 HK0
      have HR := Lib.hid (HC1.out u0 HBa0.out)
      have e0 : u0.cell? ⟨w.heap.size, 0, none⟩ = some (.int .u64 x) := by rw [HKa0.out.cell]; rfl
      have e1 : u0.cell? ⟨w.heap.size, 1, none⟩ = some (.int .u64 y) := by rw [HKa0.out.cell]; rfl
      clear HC1
      go_wp2_with fail
      (with_reducible refine (HR.out).mono ?_)
      rintro e v1 ⟨oea, oec, opa, opc, rfl, hob, hb⟩
      simp only [Ob.val]
      rw [← HNE.out, ← HNP.out]
      have HBb1 := Lib.hid (HBa0.out.trans (hb.mono HBa0.out.size))
      have HKb1 := Lib.hid (HKa0.out.below hb)
      have HOob1 := Lib.hid hob.inn
      obtain ⟨u1, hu⟩ : ∃ z, z = v1.alloc (.cells #[.int .i64 kind, .string ⟨data.toArray⟩, .slice oea ne oec, .int .u64 t1, .int .u64 t2, .slice opa np opc, .string ⟨author.toArray⟩, .int .i64 time, .string ⟨msg.toArray⟩] 36) := ⟨_, rfl⟩
      have hbv : Below v1.heap.size v1 u1 := by rw [hu]; exact (Below.refl _ _).alloc (Nat.le_refl _) _
      have HBa1 := Lib.hid (HBb1.out.trans (hbv.mono HBb1.out.size))
      have HKa1 := Lib.hid (HKb1.out.below hbv)
      have HOoa1 := Lib.hid (HOob1.out.below hbv)
      have HVoa1 : Hid (BK v1.heap.size #[.int .i64 kind, .string ⟨data.toArray⟩, .slice oea ne oec, .int .u64 t1, .int .u64 t2, .slice opa np opc, .string ⟨author.toArray⟩, .int .i64 time, .string ⟨msg.toArray⟩] 36 u1) := Lib.hid (by rw [hu]; exact BK.new _ _ _)
      have HU1 := Lib.hid hu
      clear hb hob hbv hu HR HBa0 HKa0 HBb1 HKb1 HOob1 e0 e1
      obtain ⟨z1, hz1⟩ : ∃ z, z = v1.heap.size := ⟨_, rfl⟩
      rw [← hz1] at HVoa1
      have HZ1 := Lib.hid hz1
      clear hz1
      have HX1 : Hid (∀ W, W = u1 → W = u1) := Lib.hid (fun _ h => h)
      clear HX1
      have e0 : u1.cell? ⟨w.heap.size, 0, none⟩ = some (.int .u64 x) := by rw [HKa1.out.cell]; rfl
      have e1 : u1.cell? ⟨w.heap.size, 1, none⟩ = some (.int .u64 y) := by rw [HKa1.out.cell]; rfl
      clear e0 e1
      go_upto_region 4 with (fail)
      rw [← HU1.out, ← HZ1.out]
      have HR := Lib.hid (HC2.out u1 HBa1.out)
      have e0 : u1.cell? ⟨w.heap.size, 0, none⟩ = some (.int .u64 x) := by rw [HKa1.out.cell]; rfl
      have e1 : u1.cell? ⟨w.heap.size, 1, none⟩ = some (.int .u64 y) := by rw [HKa1.out.cell]; rfl
      clear HC2
      go_wp2_with fail
      (with_reducible refine (HR.out).mono ?_)
      rintro e v2 ⟨qea, qec, qpa, qpc, rfl, hob, hb⟩
      simp only [Ob.val]
      rw [← HNE.out, ← HNP.out]
      have HBb2 := Lib.hid (HBa1.out.trans (hb.mono HBa1.out.size))
      have HKb2 := Lib.hid (HKa1.out.below hb)
      have HOob2 := Lib.hid (HOoa1.out.below hb)
      have HVob2 := Lib.hid (HVoa1.out.below hb)
      have HOqb2 := Lib.hid hob.inn
      obtain ⟨u2, hu⟩ : ∃ z, z = v2.alloc (.cells #[.int .i64 kind, .string ⟨data.toArray⟩, .slice qea ne qec, .int .u64 t1, .int .u64 t2, .slice qpa np qpc, .string ⟨author.toArray⟩, .int .i64 time, .string ⟨msg.toArray⟩] 36) := ⟨_, rfl⟩
      have hbv : Below v2.heap.size v2 u2 := by rw [hu]; exact (Below.refl _ _).alloc (Nat.le_refl _) _
      have HBa2 := Lib.hid (HBb2.out.trans (hbv.mono HBb2.out.size))
      have HKa2 := Lib.hid (HKb2.out.below hbv)
      have HOoa2 := Lib.hid (HOob2.out.below hbv)
      have HVoa2 := Lib.hid (HVob2.out.below hbv)
      have HOqa2 := Lib.hid (HOqb2.out.below hbv)
      have HVqa2 : Hid (BK v2.heap.size #[.int .i64 kind, .string ⟨data.toArray⟩, .slice qea ne qec, .int .u64 t1, .int .u64 t2, .slice qpa np qpc, .string ⟨author.toArray⟩, .int .i64 time, .string ⟨msg.toArray⟩] 36 u2) := Lib.hid (by rw [hu]; exact BK.new _ _ _)
      have HU2 := Lib.hid hu
      clear hb hob hbv hu HR HBa1 HKa1 HOoa1 HVoa1 HBb2 HKb2 HOob2 HVob2 HOqb2 e0 e1
      obtain ⟨z2, hz2⟩ : ∃ z, z = v2.heap.size := ⟨_, rfl⟩
      rw [← hz2] at HVqa2
      have HZ2 := Lib.hid hz2
      clear hz2
      go_upto_region 5 with (fail)
      rw [← HU2.out, ← HZ2.out]
      have HR := Lib.hid (HNA.out oea oec opa opc u2 HOoa2.out)
      have o0 : u2.cell? ⟨z1, 0, none⟩ = some (.int .i64 kind) := by rw [HVoa2.out.cell]; rfl
      have o1 : u2.cell? ⟨z1, 1, none⟩ = some (.string ⟨data.toArray⟩) := by rw [HVoa2.out.cell]; rfl
      have o2 : u2.cell? ⟨z1, 2, none⟩ = some (.slice oea ne oec) := by rw [HVoa2.out.cell]; rfl
      have o3 : u2.cell? ⟨z1, 3, none⟩ = some (.int .u64 t1) := by rw [HVoa2.out.cell]; rfl
      have o4 : u2.cell? ⟨z1, 4, none⟩ = some (.int .u64 t2) := by rw [HVoa2.out.cell]; rfl
      have o5 : u2.cell? ⟨z1, 5, none⟩ = some (.slice opa np opc) := by rw [HVoa2.out.cell]; rfl
      have o6 : u2.cell? ⟨z1, 6, none⟩ = some (.string ⟨author.toArray⟩) := by rw [HVoa2.out.cell]; rfl
      have o7 : u2.cell? ⟨z1, 7, none⟩ = some (.int .i64 time) := by rw [HVoa2.out.cell]; rfl
      have o8 : u2.cell? ⟨z1, 8, none⟩ = some (.string ⟨msg.toArray⟩) := by rw [HVoa2.out.cell]; rfl
      go_wp2_with fail
      (with_reducible refine (HR.out).mono ?_)
      rintro e v3 ⟨rfl, hb⟩
      have HBb3 := Lib.hid (HBa2.out.trans (hb.mono HBa2.out.size))
      have HKb3 := Lib.hid (HKa2.out.below hb)
      have HOqb3 := Lib.hid (HOqa2.out.below hb)
      have HVqb3 := Lib.hid (HVqa2.out.below hb)
      obtain ⟨u3, hu⟩ : ∃ z, z = v3.alloc (.cells #[.int .u64 s1, .int .u64 s2] 32) := ⟨_, rfl⟩
      have hbv : Below v3.heap.size v3 u3 := by rw [hu]; exact (Below.refl _ _).alloc (Nat.le_refl _) _
      have HBa3 := Lib.hid (HBb3.out.trans (hbv.mono HBb3.out.size))
      have HKa3 := Lib.hid (HKb3.out.below hbv)
      have HOqa3 := Lib.hid (HOqb3.out.below hbv)
      have HVqa3 := Lib.hid (HVqb3.out.below hbv)
      have HSoa3 : Hid (BK v3.heap.size #[.int .u64 s1, .int .u64 s2] 32 u3) := Lib.hid (by rw [hu]; exact BK.new _ _ _)
      have HU3 := Lib.hid hu
      obtain ⟨z3, hz⟩ : ∃ z, z = v3.heap.size := ⟨_, rfl⟩
      rw [← hz] at HSoa3
      have HZ3 := Lib.hid hz
      clear hb hbv hu hz HR HBa2 HKa2 HOoa2 HVoa2 HOqa2 HVqa2 HBb3 HKb3 HOqb3 HVqb3 o0 o1 o2 o3 o4 o5 o6 o7 o8
      go_upto_region 6 with (fail)
      rw [← HU3.out, ← HZ3.out]
      have HR := Lib.hid (HNA.out qea qec qpa qpc u3 HOqa3.out)
      have o0 : u3.cell? ⟨z2, 0, none⟩ = some (.int .i64 kind) := by rw [HVqa3.out.cell]; rfl
      have o1 : u3.cell? ⟨z2, 1, none⟩ = some (.string ⟨data.toArray⟩) := by rw [HVqa3.out.cell]; rfl
      have o2 : u3.cell? ⟨z2, 2, none⟩ = some (.slice qea ne qec) := by rw [HVqa3.out.cell]; rfl
      have o3 : u3.cell? ⟨z2, 3, none⟩ = some (.int .u64 t1) := by rw [HVqa3.out.cell]; rfl
      have o4 : u3.cell? ⟨z2, 4, none⟩ = some (.int .u64 t2) := by rw [HVqa3.out.cell]; rfl
      have o5 : u3.cell? ⟨z2, 5, none⟩ = some (.slice qpa np qpc) := by rw [HVqa3.out.cell]; rfl
      have o6 : u3.cell? ⟨z2, 6, none⟩ = some (.string ⟨author.toArray⟩) := by rw [HVqa3.out.cell]; rfl
      have o7 : u3.cell? ⟨z2, 7, none⟩ = some (.int .i64 time) := by rw [HVqa3.out.cell]; rfl
      have o8 : u3.cell? ⟨z2, 8, none⟩ = some (.string ⟨msg.toArray⟩) := by rw [HVqa3.out.cell]; rfl
      go_wp2_with fail
      (with_reducible refine (HR.out).mono ?_)
      rintro e v4 ⟨rfl, hb⟩
      have HBb4 := Lib.hid (HBa3.out.trans (hb.mono HBa3.out.size))
      have HKb4 := Lib.hid (HKa3.out.below hb)
      have HSob4 := Lib.hid (HSoa3.out.below hb)
      obtain ⟨u4, hu⟩ : ∃ z, z = v4.alloc (.cells #[.int .u64 s1, .int .u64 s2] 32) := ⟨_, rfl⟩
      have hbv : Below v4.heap.size v4 u4 := by rw [hu]; exact (Below.refl _ _).alloc (Nat.le_refl _) _
      have HBa4 := Lib.hid (HBb4.out.trans (hbv.mono HBb4.out.size))
      have HKa4 := Lib.hid (HKb4.out.below hbv)
      have HSoa4 := Lib.hid (HSob4.out.below hbv)
      have HSqa4 : Hid (BK v4.heap.size #[.int .u64 s1, .int .u64 s2] 32 u4) := Lib.hid (by rw [hu]; exact BK.new _ _ _)
      have HU4 := Lib.hid hu
      obtain ⟨z4, hz⟩ : ∃ z, z = v4.heap.size := ⟨_, rfl⟩
      rw [← hz] at HSqa4
      have HZ4 := Lib.hid hz
      clear hb hbv hu hz HR HBa3 HKa3 HOqa3 HVqa3 HSoa3 HBb4 HKb4 HSob4 o0 o1 o2 o3 o4 o5 o6 o7 o8
      go_upto_region 7 with (fail)
      rw [← HU4.out, ← HZ4.out]
      have HR := Lib.hid (HC5.out u4 HBa4.out)
      have e0 : u4.cell? ⟨w.heap.size, 0, none⟩ = some (.int .u64 x) := by rw [HKa4.out.cell]; rfl
      have e1 : u4.cell? ⟨w.heap.size, 1, none⟩ = some (.int .u64 y) := by rw [HKa4.out.cell]; rfl
      clear HC5
      go_wp2_with fail
      (with_reducible refine (HR.out).mono ?_)
      rintro e u5 ⟨rfl, hb⟩
      have HBa5 := Lib.hid (HBa4.out.trans (hb.mono HBa4.out.size))
      have HKa5 := Lib.hid (HKa4.out.below hb)
      have HSoa5 := Lib.hid (HSoa4.out.below hb)
      have HSqa5 := Lib.hid (HSqa4.out.below hb)
      clear hb HR e0 e1 HBa4 HKa4 HSoa4 HSqa4
      have HR := Lib.hid (HC6.out u5 HBa5.out)
      have e0 : u5.cell? ⟨w.heap.size, 0, none⟩ = some (.int .u64 x) := by rw [HKa5.out.cell]; rfl
      have e1 : u5.cell? ⟨w.heap.size, 1, none⟩ = some (.int .u64 y) := by rw [HKa5.out.cell]; rfl
      clear HC6
      go_wp2_with fail
      (with_reducible refine (HR.out).mono ?_)
      rintro e u6 ⟨rfl, hb⟩
      have HBa6 := Lib.hid (HBa5.out.trans (hb.mono HBa5.out.size))
      have HKa6 := Lib.hid (HKa5.out.below hb)
      have HSoa6 := Lib.hid (HSoa5.out.below hb)
      have HSqa6 := Lib.hid (HSqa5.out.below hb)
      clear hb HR e0 e1 HBa5 HKa5 HSoa5 HSqa5
      have e0 : u6.cell? ⟨z3, 0, none⟩ = some (.int .u64 s1) := by rw [HSoa6.out.cell]; rfl
      have e1 : u6.cell? ⟨z3, 1, none⟩ = some (.int .u64 s2) := by rw [HSoa6.out.cell]; rfl
      have f0 : u6.cell? ⟨z4, 0, none⟩ = some (.int .u64 s1) := by rw [HSqa6.out.cell]; rfl
      have f1 : u6.cell? ⟨z4, 1, none⟩ = some (.int .u64 s2) := by rw [HSqa6.out.cell]; rfl
      have qn := fun W => neq_dig s1 s2 s1 s2 W
      simp only [BEq.rfl, Bool.and_self, Bool.not_true] at qn
      have HR := Lib.hid (HC7.out u6 HBa6.out)
      have re0 := cell_regrown e0
      have re1 := cell_regrown e1
      have rf0 := cell_regrown f0
      have rf1 := cell_regrown f1
      clear HC7
      go_wp2_with fail
      (with_reducible refine (HR.out).mono ?_)
      rintro e u7 ⟨la, lc, rfl, hown, hb⟩
      simp only at hown ⊢
      have HBa7 := Lib.hid (HBa6.out.trans (hb.mono HBa6.out.size))
      have HKa7 := Lib.hid (HKa6.out.below hb)
      have HLa7 := Lib.hid (ownsRow_digs hown)
      rw [← HN3.out] at ⊢
      clear hb hown HR HBa6 HKa6 HSoa6 HSqa6 e0 e1 f0 f1 qn re0 re1 rf0 rf1
      have HR := Lib.hid (HC8.out u7 HBa7.out)
      clear HC8
      go_wp2_with fail
      (with_reducible refine (HR.out).mono ?_)
      rintro e u8 ⟨ma, mc, rfl, hdg, hmc, hb⟩
      have HBa8 := Lib.hid (HBa7.out.trans (hb.mono HBa7.out.size))
      have HKa8 := Lib.hid (HKa7.out.below hb)
      have HLa8 := Lib.hid (HLa7.out.ahead hb)
      simp only at hdg ⊢
      have HMa8 := Lib.hid (hdg)
      rw [← HN3.out] at ⊢
      clear hb HR HBa7 HKa7 HLa7 hdg
      have HR := Lib.hid (HC9.out u8 HBa8.out)
      have e0 : u8.cell? ⟨w.heap.size, 0, none⟩ = some (.int .u64 x) := by rw [HKa8.out.cell]; rfl
      have e1 : u8.cell? ⟨w.heap.size, 1, none⟩ = some (.int .u64 y) := by rw [HKa8.out.cell]; rfl
      clear HC9
      go_wp2_with fail
      (with_reducible refine (HR.out).mono ?_)
      rintro e u9 ⟨pa, pc, rfl, hown, hb⟩
      have HBa9 := Lib.hid (HBa8.out.trans (hb.mono HBa8.out.size))
      have HKa9 := Lib.hid (HKa8.out.below hb)
      have HLa9 := Lib.hid (HLa8.out.ahead hb)
      have HMa9 := Lib.hid (HMa8.out.ahead hb)
      simp only at hown ⊢
      have HPa9 := Lib.hid (ownsRow_digs hown)
      rw [← HN4.out] at ⊢
      clear hb HR HBa8 HKa8 HLa8 HMa8 hown e0 e1
      have HR := Lib.hid (HC10.out u9 HBa9.out)
      have e0 : u9.cell? ⟨w.heap.size, 0, none⟩ = some (.int .u64 x) := by rw [HKa9.out.cell]; rfl
      have e1 : u9.cell? ⟨w.heap.size, 1, none⟩ = some (.int .u64 y) := by rw [HKa9.out.cell]; rfl
      clear HC10
      go_wp2_with fail
      (with_reducible refine (HR.out).mono ?_)
      rintro e u10 ⟨qa, qc, rfl, hdg, hqc, hb⟩
      have HBa10 := Lib.hid (HBa9.out.trans (hb.mono HBa9.out.size))
      have HKa10 := Lib.hid (HKa9.out.below hb)
      have HLa10 := Lib.hid (HLa9.out.ahead hb)
      have HMa10 := Lib.hid (HMa9.out.ahead hb)
      have HPa10 := Lib.hid (HPa9.out.ahead hb)
      simp only at hdg ⊢
      have HQa10 := Lib.hid (hdg)
      rw [← HN4.out] at ⊢
      clear hb HR HBa9 HKa9 HLa9 HMa9 HPa9 hdg e0 e1
      have HR := Lib.hid (HSA.out la lc ma mc u10 HLa10.out HMa10.out)
      clear HSA
      go_wp2_with fail
      (with_reducible refine (HR.out).mono ?_)
      rintro e u11 ⟨rfl, hb⟩
      have HBa11 := Lib.hid (HBa10.out.trans (hb.mono HBa10.out.size))
      have HPa11 := Lib.hid (HPa10.out.ahead hb)
      have HQa11 := Lib.hid (HQa10.out.ahead hb)
      have HR2 := Lib.hid (HSB.out pa pc qa qc u11 HPa11.out HQa11.out)
      clear hb HR HSB HBa10 HPa10 HQa10 HLa10 HMa10 HKa10
      go_wp2_with fail
      (with_reducible refine (HR2.out).mono ?_)
      rintro e u12 ⟨rfl, hb⟩
      have HBa12 := Lib.hid (HBa11.out.trans (hb.mono HBa11.out.size))
      have HA12 := Lib.hid (HAW.out u12)
      clear hb HR2 HBa11 HPa11 HQa11
      go_wp2_with fail
      (with_reducible refine (HA12.out).mono ?_)
      rintro e u13 ⟨rfl, hb⟩
      have HBa13 := Lib.hid (HBa12.out.trans (hb.mono HBa12.out.size))
      clear hb
      go_wp2_with fail
      go_ret
      exact ⟨rfl, HBa13.out⟩
    · have h3 : (10 : Int) < (nn : Int) := by omega
      rw [← hnn]
      clear hnn hv hcap HIT hV h1 HK0 hlen hho hhc HND
      generalize xs.length = n at HVA ⊢
      go_enter Tryz.func10, Tryz.ntmps10
      go_wp2_with fail
      (with_reducible refine (HVA.out).mono ?_)
      rintro e u ⟨rfl, hb⟩
      rw [← HW0.out] at hb
      have HB1 := Lib.hid (HB0.out.trans (hb.mono HB0.out.size))
      have HA1 := Lib.hid (HAW.out u)
      clear hb HVA HW0 HB0
      go_wp2_with fail
      (with_reducible refine (HA1.out).mono ?_)
      rintro e u2 ⟨rfl, hb⟩
      have HB2 := Lib.hid (HB1.out.trans (hb.mono HB1.out.size))
      clear hb
      go_wp2_with fail
      go_ret
      exact ⟨rfl, HB2.out⟩

end Go.Proofs.YtgdhkcocdmdoaaaGreat.historyReads
