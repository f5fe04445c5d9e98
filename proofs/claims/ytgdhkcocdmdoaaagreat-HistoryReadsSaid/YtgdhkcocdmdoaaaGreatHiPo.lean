/- The statements' own place. -/
import Derived.Test.YtgdhkcocdmdoaaaGreatHiLx
namespace Go.Proofs.YtgdhkcocdmdoaaaGreat
open Go.RowKit Go.Shelf Go.Sort
set_option linter.unusedVariables false

/-- The index of a digest in a list, or -1. -/
def placeS (l : List (Int × Int)) (d : Int × Int) : Int := if d ∈ l then (l.idxOf d : Nat) else -1
theorem placeS_out {l : List (Int × Int)} {d : Int × Int} (h : d ∉ l) : placeS l d = -1 := if_neg h
theorem placeS_at {l : List (Int × Int)} {k : Nat} (hk : k < l.length) (h : l[k] ∉ l.take k) : placeS l l[k] = k := by
  unfold placeS
  rw [if_pos (List.getElem_mem hk)]
  congr 1
  have h1 : l = l.take k ++ l[k] :: l.drop (k + 1) := by simp
  have h2 : l.idxOf l[k] = (l.take k ++ l[k] :: l.drop (k + 1)).idxOf l[k] := by rw [← h1]
  rw [h2, List.idxOf_append, if_neg h, List.idxOf_cons_self, List.length_take]
  omega

set_option maxRecDepth 100000 in
set_option maxHeartbeats 2000000 in
theorem place13_any (a : Option Addr) (ds : List (Int × Int)) (c : Nat) (x y : Int) (w : World) (hds : Digs w.heap.size w a ds) (hn : (ds.length : Int) ≤ 9223372036854775807) :
    Calls Tryz.prog 17 #[.slice a ds.length c, .agg #[.int .u64 x, .int .u64 y]] w fun e w' => e = .returned (.int .i64 (placeS ds (x, y))) ∧ Below w.heap.size w w' := by
  obtain ⟨R, hR⟩ : ∃ R, R = placeS ds (x, y) := ⟨_, rfl⟩
  rw [← hR]
  obtain ⟨n, hnn⟩ : ∃ n, n = ds.length := ⟨_, rfl⟩
  rw [← hnn] at hn ⊢
  have HR := Lib.hid hR
  have HN := Lib.hid hnn
  obtain ⟨w0, hw0⟩ : ∃ w0, w0 = w.alloc (.cells #[.int .u64 x, .int .u64 y] 32) := ⟨_, rfl⟩
  have hb0 : Below w.heap.size w w0 := by rw [hw0]; exact (Below.refl _ w).alloc (Nat.le_refl _) _
  have HB0 := Lib.hid hb0
  have HK0 : Hid (BK w.heap.size #[.int .u64 x, .int .u64 y] 32 w0) := Lib.hid (by rw [hw0]; exact BK.new _ _ _)
  have HD0 := Lib.hid (hds.ahead hb0)
  have HW0 := Lib.hid hw0
  clear hnn hR hds hb0 hw0
  go_enter Tryz.func17, Tryz.ntmps17
  go_wp2_with fail
  rw [← HW0.out]
  clear HW0
  go_loopw [9] (fun i wr => ∃ k : Nat, k ≤ n ∧ i = .int .i64 k ∧ Hid (Below w.heap.size w wr) ∧ Hid (BK w.heap.size #[.int .u64 x, .int .u64 y] 32 wr) ∧ Hid (Digs wr.heap.size wr a ds) ∧ Hid ((x, y) ∉ ds.take k)) (fun i _ => n - (intOf i).toNat)
  case atStart => exact ⟨0, by omega, rfl, HB0, HK0, HD0, Lib.hid (by simp)⟩
  case round =>
    clear HB0 HK0 HD0
    obtain ⟨k, hk, rfl, HB, HK, HD, HT⟩ := hrel
    by_cases hlt : k < n
    · have h1 : k < ds.length := by rw [← HN.out]; exact hlt
      obtain ⟨b1, o1, rfl, hb1, c1, c2⟩ := HD.out k h1
      have hkn : (k : Int) < (n : Int) := by omega
      have HH : Hid (ds[k] = (x, y) → R = k) := Lib.hid (fun h => by
        rw [HR.out, ← h]
        exact placeS_at h1 (by rw [h]; exact HT.out))
      have HM := Lib.hid (fun (h : ds[k] ≠ (x, y)) => mem_take_succ h1 HT.out h)
      generalize ds[k] = dk at c1 c2 HH HM
      obtain ⟨u, v⟩ := dk
      simp only at c1 c2
      have hbv : Below wr.heap.size wr (wr.alloc (.cells #[.int .u64 u, .int .u64 v] 32)) := (Below.refl _ _).alloc (Nat.le_refl _) _
      have HBv := Lib.hid (HB.out.trans (hbv.mono HB.out.size))
      have HKv := Lib.hid (HK.out.below hbv)
      have HDv := Lib.hid (HD.out.ahead hbv)
      have e0 : (wr.alloc (.cells #[.int .u64 u, .int .u64 v] 32)).cell? ⟨w.heap.size, 0, none⟩ = some (.int .u64 x) := by rw [HKv.out.cell]; rfl
      have e1 : (wr.alloc (.cells #[.int .u64 u, .int .u64 v] 32)).cell? ⟨w.heap.size, 1, none⟩ = some (.int .u64 y) := by rw [HKv.out.cell]; rfl
      have hq := fun W => eql_dig u v x y W
      clear HB HK HD hbv
      cases hz : (u == x && v == y) with
      | true =>
        rw [hz] at hq
        have HF := Lib.hid (HH.out (by
          simp only [Bool.and_eq_true, beq_iff_eq] at hz
          rw [hz.1, hz.2]))
        clear hz HH HM HT HKv HDv
        go_wp2_with fail
        go_ret
        exact ⟨by rw [HF.out]; rfl, HBv.out⟩
      | false =>
        rw [hz] at hq
        have HF := Lib.hid (HM.out (by
          intro h
          simp only [Prod.mk.injEq] at h
          simp [h.1, h.2] at hz))
        clear hz HH HM HT
        go_wp2_with fail
        go_roundw
        case rel => exact ⟨k + 1, by omega, by go_num, HBv, HKv, HDv, HF⟩
        case measure => simp [intOf] <;> omega
    · have hkn : ¬ (k : Int) < (n : Int) := by omega
      have hx : k = n := by omega
      have HF : Hid (R = -1) := Lib.hid (by
        rw [HR.out]
        refine placeS_out ?_
        have := HT.out
        rwa [hx, HN.out, List.take_length] at this)
      go_wp2_with fail
      go_ret
      exact ⟨by rw [HF.out]; rfl, HB.out⟩

end Go.Proofs.YtgdhkcocdmdoaaaGreat
