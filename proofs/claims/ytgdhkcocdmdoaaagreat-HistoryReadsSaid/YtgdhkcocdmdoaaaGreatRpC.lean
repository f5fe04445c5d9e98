/- The reference's find, Has, Get of pools, In. -/
import Derived.Test.YtgdhkcocdmdoaaaGreatRpB
import Derived.Test.YtgdhkcocdmdoaaaGreatPoOp
namespace Go.Proofs.YtgdhkcocdmdoaaaGreat
open Go.RowKit Go.Shelf
set_option linter.unusedVariables false

/-- Where an item with a digest is, or -1. -/
def FindR (xs : List Itm) (d : Int × Int) (n : Int) : Prop := (∃ k, ∃ h : k < xs.length, n = (k : Int) ∧ xs[k].d = d) ∨ (n = -1 ∧ ∀ x ∈ xs, x.d ≠ d)
def GotFR (w : World) (xs : List Itm) (d : Int × Int) (e : Ending) (w' : World) : Prop := ∃ n : Int, e = .returned (.int .i64 n) ∧ FindR xs d n ∧ Below w.heap.size w w'

set_option maxRecDepth 100000 in
set_option maxHeartbeats 2000000 in
theorem rfind_any (a : Option Addr) (xs : List Itm) (c : Nat) (x y : Int) (w : World) (hp : Its w.heap.size w a xs) (hn : (xs.length : Int) ≤ 9223372036854775807) :
    Calls Tryz.prog 78 #[.slice a xs.length c, .agg #[.int .u64 x, .int .u64 y]] w (GotFR w xs (x, y)) := by
  obtain ⟨n, hnn⟩ : ∃ n, n = xs.length := ⟨_, rfl⟩
  rw [← hnn] at hn ⊢
  have HN := Lib.hid hnn
  have HP := Lib.hid hp
  clear hnn hp
  go_enter Tryz.func78, Tryz.ntmps78
  go_wp2_with fail
  go_loopw [5] (fun i wr => ∃ k q : Nat, k ≤ n ∧ i = .int .i64 k ∧ wr = (w.alloc (.cells #[.int .u64 x, .int .u64 y] 32)).drewN q ∧ Hid (∀ j (h : j < xs.length), j < k → xs[j].d ≠ (x, y))) (fun i _ => n - (intOf i).toNat)
  case atStart => exact ⟨0, 0, by omega, rfl, rfl, Lib.hid (fun j h hj => by omega)⟩
  case round =>
    obtain ⟨k, q, hk, rfl, rfl, HT⟩ := hrel
    by_cases hlt : k < n
    · have h1 : k < xs.length := by rw [← HN.out]; exact hlt
      obtain ⟨b1, o1, rfl, hb1, c1, c2, _⟩ := HP.out k h1
      have c1' := fun z => cell_a1 c1 z
      have c2' := fun z => cell_a1 c2 z
      have HH : Hid (xs[k].d = (x, y) → FindR xs (x, y) (k : Int)) := Lib.hid (fun h => .inl ⟨k, h1, rfl, h⟩)
      have HM : Hid (xs[k].d ≠ (x, y) → ∀ j (h : j < xs.length), j < k + 1 → xs[j].d ≠ (x, y)) := Lib.hid (fun hne j h hj => by
        rcases Nat.lt_or_ge j k with h2 | h2
        · exact HT.out j h h2
        · obtain rfl : j = k := by omega
          exact hne)
      generalize xs[k] = it at c1 c2 c1' c2' HH HM
      obtain ⟨⟨u, v⟩, dt⟩ := it
      simp only at c1 c2 c1' c2' HH HM
      have hq := fun W => eql_dig u v x y W
      cases hz : (u == x && v == y) with
      | true =>
        rw [hz] at hq
        have HF := Lib.hid (HH.out (by
          simp only [Bool.and_eq_true, beq_iff_eq] at hz
          rw [hz.1, hz.2]))
        clear hz HH HM HT
        go_wp2_with fail
        go_quiet (fail)
        go_wp2_with fail
        go_ret
        exact ⟨(k : Int), rfl, HF.out, below_drewN (below_drewN ((Below.refl _ w).alloc (Nat.le_refl _) _) _) _⟩
      | false =>
        rw [hz] at hq
        have HF := Lib.hid (HM.out (by
          intro h
          simp only [Prod.mk.injEq] at h
          simp [h.1, h.2] at hz))
        clear hz HH HM HT
        go_wp2_with fail
        go_quiet (fail)
        go_wp2_with fail
        go_roundw
        case rel => exact ⟨k + 1, _, by omega, by go_num, by first | rfl | (simp only [World.drewN_drewN]; rfl), HF⟩
        case measure => simp [intOf] <;> omega
    · have HF : Hid (FindR xs (x, y) (-1)) := Lib.hid (.inr ⟨rfl, fun z hz => by
        obtain ⟨j, hj, rfl⟩ := List.getElem_of_mem hz
        exact HT.out j hj (by have := HN.out; omega)⟩)
      go_wp2_with fail
      go_ret
      exact ⟨-1, rfl, HF.out, below_drewN ((Below.refl _ w).alloc (Nat.le_refl _) _) _⟩

theorem at_uniq {xs : List Itm} (h : Asc xs) {k : Nat} (hk : k < xs.length) {d : Int × Int} (hd : xs[k].d = d) : At xs d k := by
  refine ⟨by omega, fun j hj hlt => ?_, fun j hj hle => ?_⟩
  · rw [← hd]; exact h j k hj hk hlt
  · rcases Nat.lt_or_ge k j with h1 | h1
    · have := h k j hk hj h1
      rw [hd] at this
      have := cmpD_anti (a := xs[j].d) (b := d)
      omega
    · obtain rfl : j = k := by omega
      rw [hd, cmpD_self]
      omega
/-- What find says of a pool in order. -/
theorem FindR.asc {xs : List Itm} {d : Int × Int} {n : Int} (h : FindR xs d n) (ha : Asc xs) : (∃ k, ∃ hk : k < xs.length, n = (k : Int) ∧ At xs d k ∧ hitB xs d k = true ∧ xs[k].d = d) ∨ (n = -1 ∧ ∀ k, hitB xs d k = false) := by
  rcases h with ⟨k, hk, hn, hd⟩ | ⟨hn, hd⟩
  · exact .inl ⟨k, hk, hn, at_uniq ha hk hd, by unfold hitB; rw [List.getElem?_eq_getElem hk]; simpa using hd, hd⟩
  · refine .inr ⟨hn, fun k => ?_⟩
    unfold hitB
    cases hx : xs[k]? with
    | none => rfl
    | some x => simp only [decide_eq_false_iff_not]; exact hd x (List.mem_of_getElem? hx)

set_option maxRecDepth 100000 in
set_option maxHeartbeats 4000000 in
theorem rget_any (a : Option Addr) (xs : List Itm) (c : Nat) (x y : Int) (w : World) (hp : Its w.heap.size w a xs) (ha : Asc xs) (hn : (xs.length : Int) ≤ 1000000) (hd : ∀ x ∈ xs, (x.data.length : Int) ≤ 1000000) :
    Calls Tryz.prog 51 #[.slice a xs.length c, .agg #[.int .u64 x, .int .u64 y]] w (GotO w (getS xs (x, y)).1 (getS xs (x, y)).2) := by
  have HF := Lib.hid (fun W (hW : Below w.heap.size w W) => rfind_any a xs c x y W (hp.ahead hW) (by omega))
  obtain ⟨n, hnn⟩ : ∃ n, n = xs.length := ⟨_, rfl⟩
  rw [← hnn] at HF hn ⊢
  have HN := Lib.hid hnn
  have HP := Lib.hid hp
  have HD := Lib.hid hd
  have HA := Lib.hid ha
  clear hnn hp hd ha
  obtain ⟨w0, hw0⟩ : ∃ w0, w0 = (w.alloc (.cells #[.int .u64 x, .int .u64 y] 32)).alloc (.cells #[.int .i64 0, .string ⟨#[]⟩, .slice none 0 0, .int .u64 0, .int .u64 0, .slice none 0 0, .string ⟨#[]⟩, .int .i64 0, .string ⟨#[]⟩] 36) := ⟨_, rfl⟩
  have HK0 : Hid (BK (w.heap.size + 1) #[.int .i64 0, .string ⟨#[]⟩, .slice none 0 0, .int .u64 0, .int .u64 0, .slice none 0 0, .string ⟨#[]⟩, .int .i64 0, .string ⟨#[]⟩] 36 w0) := Lib.hid (by rw [hw0]; exact BK.new2 _ _ _ _)
  have HB0 : Hid (Below w.heap.size w w0) := Lib.hid (by rw [hw0]; exact ((Below.refl _ w).alloc (Nat.le_refl _) _).alloc (by simp) _)
  have HF0 := Lib.hid (HF.out w0 HB0.out)
  rw [hw0] at HF0
  have HW0 := Lib.hid hw0
  clear hw0 HF
  go_enter Tryz.func51, Tryz.ntmps51
  go_wp2_with fail
  (with_reducible refine (HF0.out).mono ?_)
  rintro e u ⟨m, rfl, hf, hb⟩
  rw [← HW0.out] at hb
  have HB1 := Lib.hid (HB0.out.trans (hb.mono HB0.out.size))
  have HK1 := Lib.hid (HK0.out.below hb)
  have hu := HK1.out.lt
  have HH := Lib.hid (hf.asc HA.out)
  clear hf hb HF0 HW0 HB0 HK0
  rcases HH.out with ⟨k, hk, hm, hat, hh, hkd⟩ | ⟨hm, hh⟩
  · subst hm
    obtain ⟨p0, o0, rfl, hp0, q0, q1, q2⟩ := (HP.out.ahead HB1.out) k hk
    have hdl := HD.out _ (List.getElem_mem hk)
    obtain ⟨_, _, hR⟩ := getS_hit hat hh
    have hkn : (k : Int) < (n : Int) := by have := HN.out; omega
    clear hat hh hkd HH
    generalize xs[k] = it at q0 q1 q2 hR hdl
    obtain ⟨⟨y1, y2⟩, yd⟩ := it
    simp only at q0 q1 q2 hR hdl
    have HDC := Lib.hid (rdecode_any yd u hdl)
    have HR := Lib.hid hR
    clear hR
    generalize decodeS yd = D at HDC HR
    obtain ⟨o, er⟩ := D
    simp only at HDC HR
    go_wp2_with fail
    (with_reducible refine (HDC.out).mono ?_)
    rintro e v ⟨ea, ec, pa, pc, rfl, hob, hb⟩
    have HOB := Lib.hid hob
    have HB2 := Lib.hid (HB1.out.trans (hb.mono HB1.out.size))
    have HK2 := Lib.hid (HK1.out.below hb)
    have hv := HK2.out.lt
    have huv := hb.size
    clear hob hb q0 q1 q2 HDC
    obtain ⟨kind, data, ents, ⟨t1, t2⟩, pars, author, time, msg⟩ := o
    have HFN : Hid (∀ (W V : World), V = v.alloc (.cells (Ob.arr ⟨kind, data, ents, (t1, t2), pars, author, time, msg⟩ ea ec pa pc) 36) → V.grownBy W (some (w.heap.size + 1)) → Below w.heap.size w W → GotO w (getS xs (x, y)).1 (getS xs (x, y)).2 (.returned (.tuple #[.agg #[.int .i64 kind, .string ⟨data.toArray⟩, .slice ea ents.length ec, .int .u64 t1, .int .u64 t2, .slice pa pars.length pc, .string ⟨author.toArray⟩, .int .i64 time, .string ⟨msg.toArray⟩], .int .i64 er])) W) := Lib.hid (fun W V hV h1 h2 => by
      rw [HR.out]
      have hO := HOB.out.below (show Below v.heap.size v V by rw [hV]; exact (Below.refl _ _).alloc (Nat.le_refl _) _)
      exact ⟨ea, ec, pa, pc, rfl, (hO.kept h1 (by omega)).le (by omega), h2⟩)
    obtain ⟨v2, hv2⟩ : ∃ v2, v2 = v.alloc (.cells (Ob.arr ⟨kind, data, ents, (t1, t2), pars, author, time, msg⟩ ea ec pa pc) 36) := ⟨_, rfl⟩
    have HFN2 := Lib.hid (fun W h1 h2 => HFN.out W v2 hv2 h1 h2)
    have HK3 : Hid (BK (w.heap.size + 1) #[.int .i64 0, .string ⟨#[]⟩, .slice none 0 0, .int .u64 0, .int .u64 0, .slice none 0 0, .string ⟨#[]⟩, .int .i64 0, .string ⟨#[]⟩] 36 v2) := Lib.hid (by rw [hv2]; exact HK2.out.alloc _)
    have HKO : Hid (BK v.heap.size (Ob.arr ⟨kind, data, ents, (t1, t2), pars, author, time, msg⟩ ea ec pa pc) 36 v2) := Lib.hid (by rw [hv2]; exact BK.new _ _ _)
    have HB3 : Hid (Below w.heap.size w v2) := Lib.hid (by rw [hv2]; exact HB2.out.alloc HB2.out.size _)
    clear HFN
    simp only [Ob.arr] at hv2 HKO
    simp only [Ob.val]
    generalize ents.length = ne at HFN2 hv2 HKO ⊢
    generalize pars.length = np at HFN2 hv2 HKO ⊢
    have HV2 := Lib.hid hv2
    clear hv2
    go_upto_region 5 with (fail)
    rw [← HV2.out]
    have r0 : v2.cell? ⟨w.heap.size + 1, 0, none⟩ = some (.int .i64 0) := by rw [HK3.out.cell]; rfl
    have fr0 : v2.frozen? ⟨w.heap.size + 1, 0, none⟩ = false := HK3.out.frozen 0
    have r1 : v2.cell? ⟨w.heap.size + 1, 1, none⟩ = some (.string ⟨#[]⟩) := by rw [HK3.out.cell]; rfl
    have fr1 : v2.frozen? ⟨w.heap.size + 1, 1, none⟩ = false := HK3.out.frozen 1
    have r2 : v2.cell? ⟨w.heap.size + 1, 2, none⟩ = some (.slice none 0 0) := by rw [HK3.out.cell]; rfl
    have fr2 : v2.frozen? ⟨w.heap.size + 1, 2, none⟩ = false := HK3.out.frozen 2
    have r3 : v2.cell? ⟨w.heap.size + 1, 3, none⟩ = some (.int .u64 0) := by rw [HK3.out.cell]; rfl
    have fr3 : v2.frozen? ⟨w.heap.size + 1, 3, none⟩ = false := HK3.out.frozen 3
    have r4 : v2.cell? ⟨w.heap.size + 1, 4, none⟩ = some (.int .u64 0) := by rw [HK3.out.cell]; rfl
    have fr4 : v2.frozen? ⟨w.heap.size + 1, 4, none⟩ = false := HK3.out.frozen 4
    have r5 : v2.cell? ⟨w.heap.size + 1, 5, none⟩ = some (.slice none 0 0) := by rw [HK3.out.cell]; rfl
    have fr5 : v2.frozen? ⟨w.heap.size + 1, 5, none⟩ = false := HK3.out.frozen 5
    have r6 : v2.cell? ⟨w.heap.size + 1, 6, none⟩ = some (.string ⟨#[]⟩) := by rw [HK3.out.cell]; rfl
    have fr6 : v2.frozen? ⟨w.heap.size + 1, 6, none⟩ = false := HK3.out.frozen 6
    have r7 : v2.cell? ⟨w.heap.size + 1, 7, none⟩ = some (.int .i64 0) := by rw [HK3.out.cell]; rfl
    have fr7 : v2.frozen? ⟨w.heap.size + 1, 7, none⟩ = false := HK3.out.frozen 7
    have r8 : v2.cell? ⟨w.heap.size + 1, 8, none⟩ = some (.string ⟨#[]⟩) := by rw [HK3.out.cell]; rfl
    have fr8 : v2.frozen? ⟨w.heap.size + 1, 8, none⟩ = false := HK3.out.frozen 8
    have o0 : v2.cell? ⟨v.heap.size, 0, none⟩ = some (.int .i64 kind) := by rw [HKO.out.cell]; rfl
    have o1 : v2.cell? ⟨v.heap.size, 1, none⟩ = some (.string ⟨data.toArray⟩) := by rw [HKO.out.cell]; rfl
    have o2 : v2.cell? ⟨v.heap.size, 2, none⟩ = some (.slice ea ne ec) := by rw [HKO.out.cell]; rfl
    have o3 : v2.cell? ⟨v.heap.size, 3, none⟩ = some (.int .u64 t1) := by rw [HKO.out.cell]; rfl
    have o4 : v2.cell? ⟨v.heap.size, 4, none⟩ = some (.int .u64 t2) := by rw [HKO.out.cell]; rfl
    have o5 : v2.cell? ⟨v.heap.size, 5, none⟩ = some (.slice pa np pc) := by rw [HKO.out.cell]; rfl
    have o6 : v2.cell? ⟨v.heap.size, 6, none⟩ = some (.string ⟨author.toArray⟩) := by rw [HKO.out.cell]; rfl
    have o7 : v2.cell? ⟨v.heap.size, 7, none⟩ = some (.int .i64 time) := by rw [HKO.out.cell]; rfl
    have o8 : v2.cell? ⟨v.heap.size, 8, none⟩ = some (.string ⟨msg.toArray⟩) := by rw [HKO.out.cell]; rfl
    have hne : v.heap.size ≠ w.heap.size + 1 := by omega
    go_wp2_with fail
    refine bodyPost_ret (v := .tuple #[.agg #[.int .i64 kind, .string ⟨data.toArray⟩, .slice ea ne ec, .int .u64 t1, .int .u64 t2, .slice pa np pc, .string ⟨author.toArray⟩, .int .i64 time, .string ⟨msg.toArray⟩], .int .i64 er]) (by simp [results, Tryz.results51, go_sem, r0, r1, r2, r3, r4, r5, r6, r7, r8]) rfl ?_
    refine HFN2.out _ ?_ ?_
    · exact (gown (gown (gown (gown (gown (gown (gown (gown (gset _ _ _ _) _ _) _ _) _ _) _ _) _ _) _ _) _ _) _ _)
    · exact ((((((((HB3.out.setCell (by simp) _).setCell (by simp) _).setCell (by simp) _).setCell (by simp) _).setCell (by simp) _).setCell (by simp) _).setCell (by simp) _).setCell (by simp) _).setCell (by simp) _
  · subst hm
    have HR := Lib.hid (getS_miss (asc_at HA.out (x, y)) (hh _))
    clear hh HH
    have r0 : u.cell? ⟨w.heap.size + 1, 0, none⟩ = some (.int .i64 0) := by rw [HK1.out.cell]; rfl
    have fr0 : u.frozen? ⟨w.heap.size + 1, 0, none⟩ = false := HK1.out.frozen 0
    have r1 : u.cell? ⟨w.heap.size + 1, 1, none⟩ = some (.string ⟨#[]⟩) := by rw [HK1.out.cell]; rfl
    have fr1 : u.frozen? ⟨w.heap.size + 1, 1, none⟩ = false := HK1.out.frozen 1
    have r2 : u.cell? ⟨w.heap.size + 1, 2, none⟩ = some (.slice none 0 0) := by rw [HK1.out.cell]; rfl
    have fr2 : u.frozen? ⟨w.heap.size + 1, 2, none⟩ = false := HK1.out.frozen 2
    have r3 : u.cell? ⟨w.heap.size + 1, 3, none⟩ = some (.int .u64 0) := by rw [HK1.out.cell]; rfl
    have fr3 : u.frozen? ⟨w.heap.size + 1, 3, none⟩ = false := HK1.out.frozen 3
    have r4 : u.cell? ⟨w.heap.size + 1, 4, none⟩ = some (.int .u64 0) := by rw [HK1.out.cell]; rfl
    have fr4 : u.frozen? ⟨w.heap.size + 1, 4, none⟩ = false := HK1.out.frozen 4
    have r5 : u.cell? ⟨w.heap.size + 1, 5, none⟩ = some (.slice none 0 0) := by rw [HK1.out.cell]; rfl
    have fr5 : u.frozen? ⟨w.heap.size + 1, 5, none⟩ = false := HK1.out.frozen 5
    have r6 : u.cell? ⟨w.heap.size + 1, 6, none⟩ = some (.string ⟨#[]⟩) := by rw [HK1.out.cell]; rfl
    have fr6 : u.frozen? ⟨w.heap.size + 1, 6, none⟩ = false := HK1.out.frozen 6
    have r7 : u.cell? ⟨w.heap.size + 1, 7, none⟩ = some (.int .i64 0) := by rw [HK1.out.cell]; rfl
    have fr7 : u.frozen? ⟨w.heap.size + 1, 7, none⟩ = false := HK1.out.frozen 7
    have r8 : u.cell? ⟨w.heap.size + 1, 8, none⟩ = some (.string ⟨#[]⟩) := by rw [HK1.out.cell]; rfl
    have fr8 : u.frozen? ⟨w.heap.size + 1, 8, none⟩ = false := HK1.out.frozen 8
    go_wp2_with fail
    refine bodyPost_ret (v := .tuple #[obZ.val none 0 none 0, .int .i64 8]) (by simp [results, Tryz.results51, go_sem, obZ, r0, r1, r2, r3, r4, r5, r6, r7, r8]) rfl ?_
    rw [HR.out]
    exact ⟨none, 0, none, 0, rfl, ObOwn.zero _ _, ((((((((HB1.out.setCell (by simp) _).setCell (by simp) _).setCell (by simp) _).setCell (by simp) _).setCell (by simp) _).setCell (by simp) _).setCell (by simp) _).setCell (by simp) _).setCell (by simp) _⟩

set_option maxRecDepth 100000 in
set_option maxHeartbeats 2000000 in
theorem rin_any (a : Option Addr) (ds : List (Int × Int)) (c : Nat) (x y : Int) (w : World) (hds : Digs w.heap.size w a ds) (hn : (ds.length : Int) ≤ 9223372036854775807) :
    Calls Tryz.prog 39 #[.slice a ds.length c, .agg #[.int .u64 x, .int .u64 y]] w fun e w' => e = .returned (.bool (decide ((x, y) ∈ ds))) ∧ Below w.heap.size w w' := by
  obtain ⟨R, hR⟩ : ∃ R, R = decide ((x, y) ∈ ds) := ⟨_, rfl⟩
  rw [← hR]
  obtain ⟨n, hnn⟩ : ∃ n, n = ds.length := ⟨_, rfl⟩
  rw [← hnn] at hn ⊢
  have HR := Lib.hid hR
  have HN := Lib.hid hnn
  have HD := Lib.hid hds
  clear hnn hR hds
  go_enter Tryz.func39, Tryz.ntmps39
  go_wp2_with fail
  go_loopw [5] (fun i wr => ∃ k q : Nat, k ≤ n ∧ i = .int .i64 k ∧ wr = (w.alloc (.cells #[.int .u64 x, .int .u64 y] 32)).drewN q ∧ Hid ((x, y) ∉ ds.take k)) (fun i _ => n - (intOf i).toNat)
  case atStart => exact ⟨0, 0, by omega, rfl, rfl, Lib.hid (by simp)⟩
  case round =>
    obtain ⟨k, q, hk, rfl, rfl, HT⟩ := hrel
    by_cases hlt : k < n
    · have h1 : k < ds.length := by rw [← HN.out]; exact hlt
      obtain ⟨b1, o1, rfl, hb1, c1, c2⟩ := HD.out k h1
      have c1' := fun z => cell_a1 c1 z
      have c2' := fun z => cell_a1 c2 z
      have HH : Hid (ds[k] = (x, y) → R = true) := Lib.hid (fun h => by rw [HR.out]; exact decide_eq_true (by rw [← h]; exact List.getElem_mem h1))
      have HM := Lib.hid (fun (h : ds[k] ≠ (x, y)) => mem_take_succ h1 HT.out h)
      generalize ds[k] = dk at c1 c2 c1' c2' HH HM
      obtain ⟨u, v⟩ := dk
      simp only at c1 c2 c1' c2'
      have hq := fun W => eql_dig u v x y W
      cases hz : (u == x && v == y) with
      | true =>
        rw [hz] at hq
        have HF := Lib.hid (HH.out (by
          simp only [Bool.and_eq_true, beq_iff_eq] at hz
          rw [hz.1, hz.2]))
        clear hz HH HM HT
        go_wp2_with fail
        go_quiet (fail)
        go_wp2_with fail
        go_ret
        exact ⟨by rw [HF.out]; rfl, below_drewN (below_drewN ((Below.refl _ w).alloc (Nat.le_refl _) _) _) _⟩
      | false =>
        rw [hz] at hq
        have HF := Lib.hid (HM.out (by
          intro h
          simp only [Prod.mk.injEq] at h
          simp [h.1, h.2] at hz))
        clear hz HH HM HT
        go_wp2_with fail
        go_quiet (fail)
        go_wp2_with fail
        go_roundw
        case rel => exact ⟨k + 1, _, by omega, by go_num, by first | rfl | (simp only [World.drewN_drewN]; rfl), HF⟩
        case measure => simp [intOf] <;> omega
    · have HF : Hid (R = false) := Lib.hid (by
        rw [HR.out]
        refine decide_eq_false ?_
        have := HT.out
        rwa [List.take_of_length_le (by rw [← HN.out]; omega)] at this)
      go_wp2_with fail
      go_ret
      exact ⟨by rw [HF.out]; rfl, below_drewN ((Below.refl _ w).alloc (Nat.le_refl _) _) _⟩

end Go.Proofs.YtgdhkcocdmdoaaaGreat
