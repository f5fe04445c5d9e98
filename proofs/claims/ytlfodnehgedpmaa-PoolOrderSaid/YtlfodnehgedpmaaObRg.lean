/- object.reader.digest. -/
import Derived.Test.YtlfodnehgedpmaaObRd
namespace Go.Proofs.Ytlfodnehgedpmaa
open Go.RowKit Go.Shelf
set_option linter.unusedVariables false

/-- The digest after so many bytes. -/
def dgAt (l : List UInt8) (k : Nat) : Int × Int := (fixS ((l.take 8).take k), fixS (((l.drop 8).take 8).take (k - 8)))
theorem dgAt_zero (l : List UInt8) : dgAt l 0 = (0, 0) := by simp [dgAt, fixS]
theorem dgAt_full (l : List UInt8) : dgAt l 16 = (fixS (l.take 8), fixS ((l.drop 8).take 8)) := by
  simp [dgAt, List.take_take]
theorem dgAt_lo (l : List UInt8) (k : Nat) (hl : 16 ≤ l.length) (hk : k < 8) : dgAt l (k + 1) = (fstep (dgAt l k).1 (l[k]'(by omega)), (dgAt l k).2) := by
  have h1 : k < (l.take 8).length := by rw [List.length_take]; omega
  have e1 : fixS ((l.take 8).take (k + 1)) = fstep (fixS ((l.take 8).take k)) ((l.take 8)[k]) := foldl_take fstep 0 (l.take 8) k h1
  have e2 : k + 1 - 8 = 0 := by omega
  have e3 : k - 8 = 0 := by omega
  simp only [dgAt, e1, e2, e3, List.getElem_take]
theorem dgAt_hi (l : List UInt8) (k : Nat) (hl : 16 ≤ l.length) (hk : 8 ≤ k) (hk2 : k < 16) : dgAt l (k + 1) = ((dgAt l k).1, fstep (dgAt l k).2 (l[k]'(by omega))) := by
  have h1 : k - 8 < ((l.drop 8).take 8).length := by rw [List.length_take, List.length_drop]; omega
  have e1 : fixS (((l.drop 8).take 8).take (k - 8 + 1)) = fstep (fixS (((l.drop 8).take 8).take (k - 8))) (((l.drop 8).take 8)[k - 8]) := foldl_take fstep 0 _ _ h1
  have e2 : k + 1 - 8 = k - 8 + 1 := by omega
  have e3 : (l.take 8).take (k + 1) = (l.take 8).take k := by
    rw [List.take_take, List.take_take, Nat.min_eq_right (by omega), Nat.min_eq_right (by omega)]
  simp only [dgAt, e1, e2, e3, List.getElem_take, List.getElem_drop]
  congr 3
  congr 1
  omega

theorem set_cells {W : World} {b : Nat} {cs : Array Value} {t : TypeId} {fz : Nat × Nat} (h : W.heap[b]? = some (.cells cs t fz)) (j : Nat) (v : Value) : (W.setCell ⟨b, j, none⟩ v).heap[b]? = some (.cells (cs.setIfInBounds j v) t fz) := by
  simp [World.setCell, Array.getElem?_modify, h]

set_option maxRecDepth 100000 in
set_option maxHeartbeats 2000000 in
theorem rdigest_any (b : Nat) (r : RS) (w : World) (h : RD b r w) (hl : (r.1.length : Int) ≤ 140737488355328) :
    Calls Try.prog 45 #[.pointer (some ⟨b, 0, none⟩)] w fun e w' => e = .returned (.agg #[.int .u64 (rDig r).1.1, .int .u64 (rDig r).1.2]) ∧ Hid (RD b (rDig r).2 w') ∧ Hid (w.grownBy w' (some b)) := by
  obtain ⟨l, bad⟩ := r
  have hbw : b < w.heap.size := (Array.getElem?_eq_some_iff.1 h).1
  simp only at hl
  have HH := Lib.hid h
  have c0 : w.cell? ⟨b, 0, none⟩ = some (.string ⟨l.toArray⟩) := by rw [Lib.cell_of_heap h]; rfl
  have f0 : w.frozen? ⟨b, 0, none⟩ = false := Lib.frozen_of_heap h 0
  have f1 : w.frozen? ⟨b, 1, none⟩ = false := Lib.frozen_of_heap h 1
  have c1 : w.cell? ⟨b, 1, none⟩ = some (.bool bad) := by rw [Lib.cell_of_heap h]; rfl
  clear h
  by_cases h16 : (l.length : Int) < 16
  · have HR : Hid (rDig (l, bad) = ((0, 0), (l, true))) := Lib.hid (by unfold rDig; rw [if_pos (by simp only; omega)])
    rw [HR.out]
    go_enter Try.func45, Try.ntmps45
    go_wp2_with fail
    refine bodyPost_ret (v := .agg #[.int .u64 0, .int .u64 0]) (by simp [results, Try.results45, go_sem]) rfl ⟨rfl, Lib.hid ?_, Lib.hid ?_⟩
    · have hs : b < (w.setCell ⟨b, 1, none⟩ (.bool true)).heap.size := by simpa using hbw
      unfold RD
      rw [Below.heap_alloc _ _ _ (by simp; omega), Below.heap_alloc _ _ _ hs]
      have := HH.out
      unfold RD at this
      simp [World.setCell, Array.getElem?_modify, this]
    · exact gtrans (gtrans (gset _ _ _ _) (World.grownBy_alloc _ _ _)) (World.grownBy_alloc _ _ _)
  · have h16' : (16 : Int) ≤ l.length := by omega
    have HR : Hid (rDig (l, bad) = (dgAt l 16, (l.drop 16, bad))) := Lib.hid (by unfold rDig; rw [if_neg (by simp only; omega), dgAt_full])
    rw [HR.out]
    go_enter Try.func45, Try.ntmps45
    go_wp2_with fail
    go_loopw [15] (fun i wr => ∃ (k : Nat) (x y : Int), k ≤ 16 ∧ i = .int .i64 k ∧ Hid (Below w.heap.size w wr) ∧ Hid (wr.heap[w.heap.size]? = some (.cells #[.int .u64 0, .int .u64 0] 30 (0, 0))) ∧ Hid (wr.heap[w.heap.size + 1]? = some (.cells #[.int .u64 x, .int .u64 y] 30 (0, 0))) ∧ Hid (dgAt l k = (x, y))) (fun i _ => 16 - (intOf i).toNat)
    case atStart =>
      refine ⟨0, 0, 0, by omega, rfl, Lib.hid (((Below.refl _ w).alloc (Nat.le_refl _) _).alloc (by simp) _), Lib.hid ?_, Lib.hid ?_, Lib.hid (dgAt_zero l)⟩
      · rw [Below.heap_alloc _ _ _ (by simp)]; exact World.alloc_heap_new _ _
      · have := World.alloc_heap_new (w.alloc (.cells #[.int .u64 0, .int .u64 0] 30)) (.cells #[.int .u64 0, .int .u64 0] 30)
        rwa [World.size_alloc] at this
    case round =>
      obtain ⟨k, x, y, hk, rfl, HB, HZ, HX, HD⟩ := hrel
      have g0 : wr.cell? ⟨b, 0, none⟩ = some (.string ⟨l.toArray⟩) := (HB.out.cell (p := ⟨b, 0, none⟩) hbw).trans c0
      have g1 : wr.cell? ⟨w.heap.size + 1, 0, none⟩ = some (.int .u64 x) := by rw [Lib.cell_of_heap HX.out]; rfl
      have g2 : wr.cell? ⟨w.heap.size + 1, 1, none⟩ = some (.int .u64 y) := by rw [Lib.cell_of_heap HX.out]; rfl
      have z1 : wr.frozen? ⟨w.heap.size + 1, 0, none⟩ = false := Lib.frozen_of_heap HX.out 0
      have z2 : wr.frozen? ⟨w.heap.size + 1, 1, none⟩ = false := Lib.frozen_of_heap HX.out 1
      by_cases hlt : k < 16
      · have hkl : k < l.length := by omega
        by_cases hk8 : k < 8
        · have HN : Hid (dgAt l (k + 1) = (fstep x l[k], y)) := Lib.hid (by rw [dgAt_lo l k (by omega) hk8, HD.out])
          have hq1 : (k : Int).tdiv 8 = 0 := by rw [Int.tdiv_eq_ediv_of_nonneg (by omega)]; omega
          have hq2 : (k : Int) / 8 = 0 := by omega
          have dk : decide ((k : Int) < 16) = true := by simp; omega
          go_wp2_with fail
          go_region
          go_wp2_with fail
          go_roundw
          case rel =>
            refine ⟨k + 1, _, _, by omega, by go_num, Lib.hid (HB.out.setCell (p := ⟨w.heap.size + 1, 0, none⟩) (by simp) _).drew, Lib.hid ?_, Lib.hid ?_, Lib.hid HN.out⟩
            · exact (Below.heap_setCell _ _ _ _ (by simp)).trans HZ.out
            · exact set_cells HX.out _ _
          case measure => simp [intOf]; omega
        · have HN : Hid (dgAt l (k + 1) = (x, fstep y l[k])) := Lib.hid (by rw [dgAt_hi l k (by omega) (by omega) hlt, HD.out])
          have hq1 : (k : Int).tdiv 8 = 1 := by rw [Int.tdiv_eq_ediv_of_nonneg (by omega)]; omega
          have hq2 : (k : Int) / 8 = 1 := by omega
          have dk : decide ((k : Int) < 16) = true := by simp; omega
          go_wp2_with fail
          go_region
          go_wp2_with fail
          go_roundw
          case rel =>
            refine ⟨k + 1, _, _, by omega, by go_num, Lib.hid (HB.out.setCell (p := ⟨w.heap.size + 1, 1, none⟩) (by simp) _).drew, Lib.hid ?_, Lib.hid ?_, Lib.hid HN.out⟩
            · exact (Below.heap_setCell _ _ _ _ (by simp)).trans HZ.out
            · exact set_cells HX.out _ _
          case measure => simp [intOf]; omega
      · obtain rfl : k = 16 := by omega
        have g3 : wr.frozen? ⟨b, 0, none⟩ = false := (HB.out.frozen (p := ⟨b, 0, none⟩) hbw).trans f0
        have y0 : wr.cell? ⟨w.heap.size, 0, none⟩ = some (.int .u64 0) := by rw [Lib.cell_of_heap HZ.out]; rfl
        have y1 : wr.cell? ⟨w.heap.size, 1, none⟩ = some (.int .u64 0) := by rw [Lib.cell_of_heap HZ.out]; rfl
        have y2 : wr.frozen? ⟨w.heap.size, 0, none⟩ = false := Lib.frozen_of_heap HZ.out 0
        have y3 : wr.frozen? ⟨w.heap.size, 1, none⟩ = false := Lib.frozen_of_heap HZ.out 1
        have hne1 : w.heap.size ≠ b := by omega
        have hne2 : w.heap.size + 1 ≠ b := by omega
        have hex : (⟨l.toArray⟩ : ByteArray).extract 16 l.length = ⟨(l.drop 16).toArray⟩ := by rw [ex_mid, List.take_of_length_le (by simp)]
        have hsl := fun W => sl_lo l 16 (by omega) W
        obtain ⟨l', hl'⟩ : ∃ l', l' = l.drop 16 := ⟨_, rfl⟩
        rw [← hl'] at hex hsl
        have HL := Lib.hid hl'
        clear hl'
        go_wp2_with fail
        refine bodyPost_ret (v := .agg #[.int .u64 x, .int .u64 y]) (by simp [results, Try.results45, go_sem, y0, y1]) rfl ⟨by rw [HD.out], Lib.hid ?_, Lib.hid ?_⟩
        · rw [← HL.out]
          have hb0 := (HB.out.block b hbw).trans HH.out
          exact (Below.heap_setCell _ _ _ _ (fun e => hne1 e.symm)).trans ((Below.heap_setCell _ _ _ _ (fun e => hne1 e.symm)).trans (set_cells hb0 _ _))
        · have hb := HB.out
          exact ⟨hb.os, hb.tape, hb.output, by simpa using hb.size, fun k hk hr => (Below.heap_setCell _ _ _ _ (by simp; omega)).trans ((Below.heap_setCell _ _ _ _ (by simp; omega)).trans ((Below.heap_setCell _ _ _ _ (fun e => hr (by rw [e]))).trans (hb.block k hk)))⟩

end Go.Proofs.Ytlfodnehgedpmaa
