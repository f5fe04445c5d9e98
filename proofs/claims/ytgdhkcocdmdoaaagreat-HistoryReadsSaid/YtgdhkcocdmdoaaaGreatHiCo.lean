/- A commit out of a pool: history.Commit and the reference's Commit. -/
import Derived.Test.YtgdhkcocdmdoaaaGreatHiPl
namespace Go.Proofs.YtgdhkcocdmdoaaaGreat
open Go.RowKit Go.Shelf
set_option linter.unusedVariables false

set_option maxRecDepth 100000 in
set_option maxHeartbeats 4000000 in
theorem commit_any (a : Option Addr) (xs : List Itm) (c : Nat) (x y : Int) (w : World) (hp : PoolIn w a xs c) (ha : Asc xs) :
    Calls Tryz.prog 15 #[.slice a xs.length c, .agg #[.int .u64 x, .int .u64 y]] w (GotO w (commitS xs (x, y)).1 (commitS xs (x, y)).2) := by
  have HG := Lib.hid (fun W (hW : Below w.heap.size w W) => get_any a xs c x y W (hp.below hW) ha)
  obtain ⟨n, hnn⟩ : ∃ n, n = xs.length := ⟨_, rfl⟩
  rw [← hnn] at HG ⊢
  have HC : Hid (commitS xs (x, y) = if (getS xs (x, y)).2 ≠ 0 then (obZ, 8) else if (getS xs (x, y)).1.kind ≠ 3 then (obZ, 9) else ((getS xs (x, y)).1, 0)) := Lib.hid rfl
  generalize getS xs (x, y) = OE at HG HC
  obtain ⟨o, er⟩ := OE
  simp only at HG HC
  generalize commitS xs (x, y) = CR at HC ⊢
  obtain ⟨w0, hw0⟩ : ∃ w0, w0 = (w.alloc (.cells #[.int .u64 x, .int .u64 y] 32)).alloc (.cells #[.int .i64 0, .string ⟨#[]⟩, .slice none 0 0, .int .u64 0, .int .u64 0, .slice none 0 0, .string ⟨#[]⟩, .int .i64 0, .string ⟨#[]⟩] 36) := ⟨_, rfl⟩
  have HK0 : Hid (BK (w.heap.size + 1) #[.int .i64 0, .string ⟨#[]⟩, .slice none 0 0, .int .u64 0, .int .u64 0, .slice none 0 0, .string ⟨#[]⟩, .int .i64 0, .string ⟨#[]⟩] 36 w0) := Lib.hid (by rw [hw0]; exact BK.new2 _ _ _ _)
  have HB0 : Hid (Below w.heap.size w w0) := Lib.hid (by rw [hw0]; exact ((Below.refl _ w).alloc (Nat.le_refl _) _).alloc (by simp) _)
  have hw0s : w0.heap.size = w.heap.size + 2 := by rw [hw0]; simp
  have HG0 := Lib.hid (HG.out w0 HB0.out)
  rw [hw0] at HG0
  have HW0 := Lib.hid hw0
  clear hw0 HG hnn hp ha
  go_enter Tryz.func15, Tryz.ntmps15
  go_wp2_with fail
  (with_reducible refine (HG0.out).mono ?_)
  rintro e v ⟨ea, ec, pa, pc, rfl, hob, hb⟩
  rw [← HW0.out] at hb hob
  rw [hw0s] at hob
  have HB1 := Lib.hid (HB0.out.trans (hb.mono HB0.out.size))
  have HK1 := Lib.hid (HK0.out.below hb)
  have HOB := Lib.hid hob
  have hv := HK1.out.lt
  clear hob hb HG0 HW0 HB0 HK0 hw0s
  obtain ⟨kind, data, ents, ⟨t1, t2⟩, pars, author, time, msg⟩ := o
  obtain ⟨v2, hv2⟩ : ∃ v2, v2 = v.alloc (.cells (Ob.arr ⟨kind, data, ents, (t1, t2), pars, author, time, msg⟩ ea ec pa pc) 36) := ⟨_, rfl⟩
  have HFN : Hid (∀ W, CR = (⟨kind, data, ents, (t1, t2), pars, author, time, msg⟩, 0) → v2.grownBy W (some (w.heap.size + 1)) → Below w.heap.size w W → GotO w CR.1 CR.2 (.returned (.tuple #[.agg #[.int .i64 kind, .string ⟨data.toArray⟩, .slice ea ents.length ec, .int .u64 t1, .int .u64 t2, .slice pa pars.length pc, .string ⟨author.toArray⟩, .int .i64 time, .string ⟨msg.toArray⟩], .int .i64 0])) W) := Lib.hid (fun W hc h1 h2 => by
    rw [hc]
    have hO := HOB.out.below (show Below v.heap.size v v2 by rw [hv2]; exact (Below.refl _ _).alloc (Nat.le_refl _) _)
    exact ⟨ea, ec, pa, pc, rfl, (hO.kept h1 (by omega)).le (by omega), h2⟩)
  have HK3 : Hid (BK (w.heap.size + 1) #[.int .i64 0, .string ⟨#[]⟩, .slice none 0 0, .int .u64 0, .int .u64 0, .slice none 0 0, .string ⟨#[]⟩, .int .i64 0, .string ⟨#[]⟩] 36 v2) := Lib.hid (by rw [hv2]; exact HK1.out.alloc _)
  have HKO : Hid (BK v.heap.size (Ob.arr ⟨kind, data, ents, (t1, t2), pars, author, time, msg⟩ ea ec pa pc) 36 v2) := Lib.hid (by rw [hv2]; exact BK.new _ _ _)
  have HB3 : Hid (Below w.heap.size w v2) := Lib.hid (by rw [hv2]; exact HB1.out.alloc HB1.out.size _)
  simp only [Ob.arr] at hv2 HKO
  simp only [Ob.val]
  generalize ents.length = ne at HFN hv2 HKO ⊢
  generalize pars.length = np at HFN hv2 HKO ⊢
  have HV2 := Lib.hid hv2
  clear hv2 HB1 HK1 HOB
  have hne : v.heap.size ≠ w.heap.size + 1 := by omega
  go_upto_region 2 with (fail)
  rw [← HV2.out]
  have r0 : v2.cell? ⟨w.heap.size + 1, 0, none⟩ = some (.int .i64 0) := by rw [HK3.out.cell]; rfl
  have fr0 : v2.frozen? ⟨w.heap.size + 1, 0, none⟩ = false := HK3.out.frozen 0
  have r1 : v2.cell? ⟨w.heap.size + 1, 1, none⟩ = some (.string ⟨#[]⟩) := by rw [HK3.out.cell]; rfl
  have fr1 : v2.frozen? ⟨w.heap.size + 1, 1, none⟩ = false := HK3.out.frozen 1
  have r2 : v2.cell? ⟨w.heap.size + 1, 2, none⟩ = some (.slice none 0 0) := by rw [HK3.out.cell]; rfl
  have fr2 : v2.frozen? ⟨w.heap.size + 1, 2, none⟩ = false := HK3.out.frozen 2
  have r3 : v2.cell? ⟨w.heap.size + 1, 3, none⟩ = some (.int .u64 0) := by rw [HK3.out.cell]; rfl
  have fr3 : v2.frozen? ⟨w.heap.size + 1, 3, none⟩ = false := HK3.out.frozen 3
  have r4 : v2.cell? ⟨w.heap.size + 1, 4, none⟩ = some (.int .u64 0) := by rw [HK3.out.cell]; rfl
  have fr4 : v2.frozen? ⟨w.heap.size + 1, 4, none⟩ = false := HK3.out.frozen 4
  have r5 : v2.cell? ⟨w.heap.size + 1, 5, none⟩ = some (.slice none 0 0) := by rw [HK3.out.cell]; rfl
  have fr5 : v2.frozen? ⟨w.heap.size + 1, 5, none⟩ = false := HK3.out.frozen 5
  have r6 : v2.cell? ⟨w.heap.size + 1, 6, none⟩ = some (.string ⟨#[]⟩) := by rw [HK3.out.cell]; rfl
  have fr6 : v2.frozen? ⟨w.heap.size + 1, 6, none⟩ = false := HK3.out.frozen 6
  have r7 : v2.cell? ⟨w.heap.size + 1, 7, none⟩ = some (.int .i64 0) := by rw [HK3.out.cell]; rfl
  have fr7 : v2.frozen? ⟨w.heap.size + 1, 7, none⟩ = false := HK3.out.frozen 7
  have r8 : v2.cell? ⟨w.heap.size + 1, 8, none⟩ = some (.string ⟨#[]⟩) := by rw [HK3.out.cell]; rfl
  have fr8 : v2.frozen? ⟨w.heap.size + 1, 8, none⟩ = false := HK3.out.frozen 8
  have o0 : v2.cell? ⟨v.heap.size, 0, none⟩ = some (.int .i64 kind) := by rw [HKO.out.cell]; rfl
  have o1 : v2.cell? ⟨v.heap.size, 1, none⟩ = some (.string ⟨data.toArray⟩) := by rw [HKO.out.cell]; rfl
  have o2 : v2.cell? ⟨v.heap.size, 2, none⟩ = some (.slice ea ne ec) := by rw [HKO.out.cell]; rfl
  have o3 : v2.cell? ⟨v.heap.size, 3, none⟩ = some (.int .u64 t1) := by rw [HKO.out.cell]; rfl
  have o4 : v2.cell? ⟨v.heap.size, 4, none⟩ = some (.int .u64 t2) := by rw [HKO.out.cell]; rfl
  have o5 : v2.cell? ⟨v.heap.size, 5, none⟩ = some (.slice pa np pc) := by rw [HKO.out.cell]; rfl
  have o6 : v2.cell? ⟨v.heap.size, 6, none⟩ = some (.string ⟨author.toArray⟩) := by rw [HKO.out.cell]; rfl
  have o7 : v2.cell? ⟨v.heap.size, 7, none⟩ = some (.int .i64 time) := by rw [HKO.out.cell]; rfl
  have o8 : v2.cell? ⟨v.heap.size, 8, none⟩ = some (.string ⟨msg.toArray⟩) := by rw [HKO.out.cell]; rfl
  clear HV2 HK3 HKO
  by_cases he : er = 0
  · subst he
    simp only [ne_eq, not_true_eq_false, if_false] at HC
    by_cases hk : kind = 3
    · subst hk
      simp only [not_true_eq_false, if_false] at HC
      go_wp2_with fail
      refine bodyPost_ret (v := .tuple #[.agg #[.int .i64 3, .string ⟨data.toArray⟩, .slice ea ne ec, .int .u64 t1, .int .u64 t2, .slice pa np pc, .string ⟨author.toArray⟩, .int .i64 time, .string ⟨msg.toArray⟩], .int .i64 0]) (by simp [results, Tryz.results15, go_sem, r0, r1, r2, r3, r4, r5, r6, r7, r8]) rfl ?_
      refine HFN.out _ HC.out ?_ ?_
      · exact (gown (gown (gown (gown (gown (gown (gown (gown (gset _ _ _ _) _ _) _ _) _ _) _ _) _ _) _ _) _ _) _ _)
      · exact ((((((((HB3.out.setCell (by simp) _).setCell (by simp) _).setCell (by simp) _).setCell (by simp) _).setCell (by simp) _).setCell (by simp) _).setCell (by simp) _).setCell (by simp) _).setCell (by simp) _
    · have hkk : (kind != 3) = true := by simpa using hk
      rw [if_pos hk] at HC
      go_wp2_with fail
      refine bodyPost_ret (v := .tuple #[obZ.val none 0 none 0, .int .i64 9]) (by simp [results, Tryz.results15, go_sem, obZ, r0, r1, r2, r3, r4, r5, r6, r7, r8]) rfl ?_
      rw [HC.out]
      exact ⟨none, 0, none, 0, rfl, ObOwn.zero _ _, ((((((((HB3.out.setCell (by simp) _).setCell (by simp) _).setCell (by simp) _).setCell (by simp) _).setCell (by simp) _).setCell (by simp) _).setCell (by simp) _).setCell (by simp) _).setCell (by simp) _⟩
  · have hee : (er != 0) = true := by simpa using he
    simp only [ne_eq] at HC
    rw [if_pos he] at HC
    go_wp2_with fail
    refine bodyPost_ret (v := .tuple #[obZ.val none 0 none 0, .int .i64 8]) (by simp [results, Tryz.results15, go_sem, obZ, r0, r1, r2, r3, r4, r5, r6, r7, r8]) rfl ?_
    rw [HC.out]
    exact ⟨none, 0, none, 0, rfl, ObOwn.zero _ _, ((((((((HB3.out.setCell (by simp) _).setCell (by simp) _).setCell (by simp) _).setCell (by simp) _).setCell (by simp) _).setCell (by simp) _).setCell (by simp) _).setCell (by simp) _).setCell (by simp) _⟩

set_option maxRecDepth 100000 in
set_option maxHeartbeats 4000000 in
theorem rcmt_any (a : Option Addr) (xs : List Itm) (c : Nat) (x y : Int) (w : World) (hp : Its w.heap.size w a xs) (ha : Asc xs) (hn : (xs.length : Int) ≤ 1000000) (hd : ∀ x ∈ xs, (x.data.length : Int) ≤ 1000000) :
    Calls Tryz.prog 27 #[.slice a xs.length c, .agg #[.int .u64 x, .int .u64 y]] w (GotO w (commitS xs (x, y)).1 (commitS xs (x, y)).2) := by
  have HG := Lib.hid (fun W (hW : Below w.heap.size w W) => rget_any a xs c x y W (hp.ahead hW) ha hn hd)
  obtain ⟨n, hnn⟩ : ∃ n, n = xs.length := ⟨_, rfl⟩
  rw [← hnn] at HG ⊢
  have HC : Hid (commitS xs (x, y) = if (getS xs (x, y)).2 ≠ 0 then (obZ, 8) else if (getS xs (x, y)).1.kind ≠ 3 then (obZ, 9) else ((getS xs (x, y)).1, 0)) := Lib.hid rfl
  generalize getS xs (x, y) = OE at HG HC
  obtain ⟨o, er⟩ := OE
  simp only at HG HC
  generalize commitS xs (x, y) = CR at HC ⊢
  obtain ⟨w0, hw0⟩ : ∃ w0, w0 = (w.alloc (.cells #[.int .u64 x, .int .u64 y] 32)).alloc (.cells #[.int .i64 0, .string ⟨#[]⟩, .slice none 0 0, .int .u64 0, .int .u64 0, .slice none 0 0, .string ⟨#[]⟩, .int .i64 0, .string ⟨#[]⟩] 36) := ⟨_, rfl⟩
  have HK0 : Hid (BK (w.heap.size + 1) #[.int .i64 0, .string ⟨#[]⟩, .slice none 0 0, .int .u64 0, .int .u64 0, .slice none 0 0, .string ⟨#[]⟩, .int .i64 0, .string ⟨#[]⟩] 36 w0) := Lib.hid (by rw [hw0]; exact BK.new2 _ _ _ _)
  have HB0 : Hid (Below w.heap.size w w0) := Lib.hid (by rw [hw0]; exact ((Below.refl _ w).alloc (Nat.le_refl _) _).alloc (by simp) _)
  have hw0s : w0.heap.size = w.heap.size + 2 := by rw [hw0]; simp
  have HG0 := Lib.hid (HG.out w0 HB0.out)
  rw [hw0] at HG0
  have HW0 := Lib.hid hw0
  clear hw0 HG hnn hp ha hn hd
  go_enter Tryz.func27, Tryz.ntmps27
  go_wp2_with fail
  (with_reducible refine (HG0.out).mono ?_)
  rintro e v ⟨ea, ec, pa, pc, rfl, hob, hb⟩
  rw [← HW0.out] at hb hob
  rw [hw0s] at hob
  have HB1 := Lib.hid (HB0.out.trans (hb.mono HB0.out.size))
  have HK1 := Lib.hid (HK0.out.below hb)
  have HOB := Lib.hid hob
  have hv := HK1.out.lt
  clear hob hb HG0 HW0 HB0 HK0 hw0s
  obtain ⟨kind, data, ents, ⟨t1, t2⟩, pars, author, time, msg⟩ := o
  obtain ⟨v2, hv2⟩ : ∃ v2, v2 = v.alloc (.cells (Ob.arr ⟨kind, data, ents, (t1, t2), pars, author, time, msg⟩ ea ec pa pc) 36) := ⟨_, rfl⟩
  have HFN : Hid (∀ W, CR = (⟨kind, data, ents, (t1, t2), pars, author, time, msg⟩, 0) → v2.grownBy W (some (w.heap.size + 1)) → Below w.heap.size w W → GotO w CR.1 CR.2 (.returned (.tuple #[.agg #[.int .i64 kind, .string ⟨data.toArray⟩, .slice ea ents.length ec, .int .u64 t1, .int .u64 t2, .slice pa pars.length pc, .string ⟨author.toArray⟩, .int .i64 time, .string ⟨msg.toArray⟩], .int .i64 0])) W) := Lib.hid (fun W hc h1 h2 => by
    rw [hc]
    have hO := HOB.out.below (show Below v.heap.size v v2 by rw [hv2]; exact (Below.refl _ _).alloc (Nat.le_refl _) _)
    exact ⟨ea, ec, pa, pc, rfl, (hO.kept h1 (by omega)).le (by omega), h2⟩)
  have HK3 : Hid (BK (w.heap.size + 1) #[.int .i64 0, .string ⟨#[]⟩, .slice none 0 0, .int .u64 0, .int .u64 0, .slice none 0 0, .string ⟨#[]⟩, .int .i64 0, .string ⟨#[]⟩] 36 v2) := Lib.hid (by rw [hv2]; exact HK1.out.alloc _)
  have HKO : Hid (BK v.heap.size (Ob.arr ⟨kind, data, ents, (t1, t2), pars, author, time, msg⟩ ea ec pa pc) 36 v2) := Lib.hid (by rw [hv2]; exact BK.new _ _ _)
  have HB3 : Hid (Below w.heap.size w v2) := Lib.hid (by rw [hv2]; exact HB1.out.alloc HB1.out.size _)
  simp only [Ob.arr] at hv2 HKO
  simp only [Ob.val]
  generalize ents.length = ne at HFN hv2 HKO ⊢
  generalize pars.length = np at HFN hv2 HKO ⊢
  have HV2 := Lib.hid hv2
  clear hv2 HB1 HK1 HOB
  have hne : v.heap.size ≠ w.heap.size + 1 := by omega
  go_upto_region 2 with (fail)
  rw [← HV2.out]
  have r0 : v2.cell? ⟨w.heap.size + 1, 0, none⟩ = some (.int .i64 0) := by rw [HK3.out.cell]; rfl
  have fr0 : v2.frozen? ⟨w.heap.size + 1, 0, none⟩ = false := HK3.out.frozen 0
  have r1 : v2.cell? ⟨w.heap.size + 1, 1, none⟩ = some (.string ⟨#[]⟩) := by rw [HK3.out.cell]; rfl
  have fr1 : v2.frozen? ⟨w.heap.size + 1, 1, none⟩ = false := HK3.out.frozen 1
  have r2 : v2.cell? ⟨w.heap.size + 1, 2, none⟩ = some (.slice none 0 0) := by rw [HK3.out.cell]; rfl
  have fr2 : v2.frozen? ⟨w.heap.size + 1, 2, none⟩ = false := HK3.out.frozen 2
  have r3 : v2.cell? ⟨w.heap.size + 1, 3, none⟩ = some (.int .u64 0) := by rw [HK3.out.cell]; rfl
  have fr3 : v2.frozen? ⟨w.heap.size + 1, 3, none⟩ = false := HK3.out.frozen 3
  have r4 : v2.cell? ⟨w.heap.size + 1, 4, none⟩ = some (.int .u64 0) := by rw [HK3.out.cell]; rfl
  have fr4 : v2.frozen? ⟨w.heap.size + 1, 4, none⟩ = false := HK3.out.frozen 4
  have r5 : v2.cell? ⟨w.heap.size + 1, 5, none⟩ = some (.slice none 0 0) := by rw [HK3.out.cell]; rfl
  have fr5 : v2.frozen? ⟨w.heap.size + 1, 5, none⟩ = false := HK3.out.frozen 5
  have r6 : v2.cell? ⟨w.heap.size + 1, 6, none⟩ = some (.string ⟨#[]⟩) := by rw [HK3.out.cell]; rfl
  have fr6 : v2.frozen? ⟨w.heap.size + 1, 6, none⟩ = false := HK3.out.frozen 6
  have r7 : v2.cell? ⟨w.heap.size + 1, 7, none⟩ = some (.int .i64 0) := by rw [HK3.out.cell]; rfl
  have fr7 : v2.frozen? ⟨w.heap.size + 1, 7, none⟩ = false := HK3.out.frozen 7
  have r8 : v2.cell? ⟨w.heap.size + 1, 8, none⟩ = some (.string ⟨#[]⟩) := by rw [HK3.out.cell]; rfl
  have fr8 : v2.frozen? ⟨w.heap.size + 1, 8, none⟩ = false := HK3.out.frozen 8
  have o0 : v2.cell? ⟨v.heap.size, 0, none⟩ = some (.int .i64 kind) := by rw [HKO.out.cell]; rfl
  have o1 : v2.cell? ⟨v.heap.size, 1, none⟩ = some (.string ⟨data.toArray⟩) := by rw [HKO.out.cell]; rfl
  have o2 : v2.cell? ⟨v.heap.size, 2, none⟩ = some (.slice ea ne ec) := by rw [HKO.out.cell]; rfl
  have o3 : v2.cell? ⟨v.heap.size, 3, none⟩ = some (.int .u64 t1) := by rw [HKO.out.cell]; rfl
  have o4 : v2.cell? ⟨v.heap.size, 4, none⟩ = some (.int .u64 t2) := by rw [HKO.out.cell]; rfl
  have o5 : v2.cell? ⟨v.heap.size, 5, none⟩ = some (.slice pa np pc) := by rw [HKO.out.cell]; rfl
  have o6 : v2.cell? ⟨v.heap.size, 6, none⟩ = some (.string ⟨author.toArray⟩) := by rw [HKO.out.cell]; rfl
  have o7 : v2.cell? ⟨v.heap.size, 7, none⟩ = some (.int .i64 time) := by rw [HKO.out.cell]; rfl
  have o8 : v2.cell? ⟨v.heap.size, 8, none⟩ = some (.string ⟨msg.toArray⟩) := by rw [HKO.out.cell]; rfl
  clear HV2 HK3 HKO
  by_cases he : er = 0
  · subst he
    simp only [ne_eq, not_true_eq_false, if_false] at HC
    by_cases hk : kind = 3
    · subst hk
      simp only [not_true_eq_false, if_false] at HC
      go_wp2_with fail
      refine bodyPost_ret (v := .tuple #[.agg #[.int .i64 3, .string ⟨data.toArray⟩, .slice ea ne ec, .int .u64 t1, .int .u64 t2, .slice pa np pc, .string ⟨author.toArray⟩, .int .i64 time, .string ⟨msg.toArray⟩], .int .i64 0]) (by simp [results, Tryz.results27, go_sem, r0, r1, r2, r3, r4, r5, r6, r7, r8]) rfl ?_
      refine HFN.out _ HC.out ?_ ?_
      · exact (gown (gown (gown (gown (gown (gown (gown (gown (gset _ _ _ _) _ _) _ _) _ _) _ _) _ _) _ _) _ _) _ _)
      · exact ((((((((HB3.out.setCell (by simp) _).setCell (by simp) _).setCell (by simp) _).setCell (by simp) _).setCell (by simp) _).setCell (by simp) _).setCell (by simp) _).setCell (by simp) _).setCell (by simp) _
    · have hkk : (kind != 3) = true := by simpa using hk
      rw [if_pos hk] at HC
      go_wp2_with fail
      refine bodyPost_ret (v := .tuple #[obZ.val none 0 none 0, .int .i64 9]) (by simp [results, Tryz.results27, go_sem, obZ, r0, r1, r2, r3, r4, r5, r6, r7, r8]) rfl ?_
      rw [HC.out]
      exact ⟨none, 0, none, 0, rfl, ObOwn.zero _ _, ((((((((HB3.out.setCell (by simp) _).setCell (by simp) _).setCell (by simp) _).setCell (by simp) _).setCell (by simp) _).setCell (by simp) _).setCell (by simp) _).setCell (by simp) _).setCell (by simp) _⟩
  · have hee : (er != 0) = true := by simpa using he
    simp only [ne_eq] at HC
    rw [if_pos he] at HC
    go_wp2_with fail
    refine bodyPost_ret (v := .tuple #[obZ.val none 0 none 0, .int .i64 8]) (by simp [results, Tryz.results27, go_sem, obZ, r0, r1, r2, r3, r4, r5, r6, r7, r8]) rfl ?_
    rw [HC.out]
    exact ⟨none, 0, none, 0, rfl, ObOwn.zero _ _, ((((((((HB3.out.setCell (by simp) _).setCell (by simp) _).setCell (by simp) _).setCell (by simp) _).setCell (by simp) _).setCell (by simp) _).setCell (by simp) _).setCell (by simp) _).setCell (by simp) _⟩

end Go.Proofs.YtgdhkcocdmdoaaaGreat
