/- Joined texts: ObRd, ObRg, ObRe, ObRp, ObDl, ObRl, ObCx, ObDe. -/
import Derived.Test.YtdedfkljaeloiaaGreatDoorK2
import Derived.Test.YtdedfkljaeloiaaGreatDoorK1

/- object.reader's methods. -/
namespace Go.Proofs.YtdedfkljaeloiaaGreatDoor
open Go.RowKit Go.Shelf
set_option linter.unusedVariables false

/-- What is left of a text, and whether something was wrong. -/
abbrev RS := List UInt8 × Bool
def rNum (r : RS) : Int × RS := ((Cw.getI r.1).1, (r.1.drop (Cw.getI r.1).2.1.toNat, r.2 || (Cw.getI r.1).2.2 != 0))
def rStr (r : RS) : List UInt8 × RS := ((Cw.getT r.1).1, (r.1.drop (Cw.getT r.1).2.1.toNat, r.2 || (Cw.getT r.1).2.2 != 0))
def rDig (r : RS) : (Int × Int) × RS := if r.1.length < 16 then ((0, 0), (r.1, true)) else ((fixS (r.1.take 8), fixS ((r.1.drop 8).take 8)), (r.1.drop 16, r.2))
/-- A reader in a block. -/
def RD (b : Nat) (r : RS) (W : World) : Prop := W.heap[b]? = some (.cells #[.string ⟨r.1.toArray⟩, .bool r.2] 243 (0, 0))
theorem getI_all {l : List UInt8} {n u er : Int} (h : Cw.getI l = (n, u, er)) : 0 ≤ n ∧ n ≤ 1099511627776 ∧ 0 ≤ u ∧ u ≤ l.length := by
  by_cases he : er = 0
  · subst he
    have := getI_bounds h
    omega
  · have h1 : (Cw.getGo 6 0 0 1 l).2.2 ≠ 0 := by
      have : Cw.getGo 6 0 0 1 l = (n, u, er) := h
      rw [this]; exact he
    have h2 : Cw.getGo 6 0 0 1 l = (n, u, er) := h
    rcases getGo_err 6 0 0 1 l h1 with h3 | h3
    · rw [h3] at h2; simp only [Prod.mk.injEq] at h2; omega
    · rw [h3] at h2; simp only [Prod.mk.injEq] at h2; omega
theorem getT_all {l x : List UInt8} {u er : Int} (h : Cw.getT l = (x, u, er)) : 0 ≤ u ∧ u ≤ l.length ∧ x.length ≤ 65536 := by
  obtain ⟨n, k, er', hI, hc⟩ := getT_cases l
  have hb := getI_all hI
  rcases hc with ⟨_, hr⟩ | ⟨_, _, hr⟩ | ⟨_, _, _, hr⟩ | ⟨_, _, _, hr⟩
  · rw [h] at hr; simp only [Prod.mk.injEq] at hr; rw [hr.1, hr.2.1]; simp
  · rw [h] at hr; simp only [Prod.mk.injEq] at hr; rw [hr.1, hr.2.1]; simp
  · rw [h] at hr; simp only [Prod.mk.injEq] at hr; rw [hr.1, hr.2.1]; simp
  · rw [h] at hr; simp only [Prod.mk.injEq] at hr; rw [hr.1, hr.2.1]; simp only [List.length_take, List.length_drop]; omega
theorem rd_set {b : Nat} {l l' : List UInt8} {bad bad' : Bool} {W : World} (h : RD b (l, bad) W) : RD b (l', bad') ((W.setCell ⟨b, 1, none⟩ (.bool bad')).setCell ⟨b, 0, none⟩ (.string ⟨l'.toArray⟩)) := by
  unfold RD at h ⊢
  simp [World.setCell, Array.getElem?_modify, h]

set_option maxRecDepth 100000 in
set_option maxHeartbeats 1000000 in
theorem rnumber_any (b : Nat) (r : RS) (w : World) (h : RD b r w) (hl : (r.1.length : Int) ≤ 140737488355328) :
    Calls Tryz.prog 185 #[.pointer (some ⟨b, 0, none⟩)] w fun e w' => e = .returned (.int .i64 (rNum r).1) ∧ Hid (RD b (rNum r).2 w') ∧ Hid (w.grownBy w' (some b)) := by
  obtain ⟨l, bad⟩ := r
  obtain ⟨n, u, er, hg⟩ : ∃ n u er, Cw.getI l = (n, u, er) := ⟨_, _, _, rfl⟩
  have HGI := Lib.hid (fun X => getInt_is (s := ⟨l.toArray⟩) (n := n) (k := u) (er := er) (by simpa using hg) X)
  have hb := getI_all hg
  have hR : rNum (l, bad) = (n, (l.drop u.toNat, bad || er != 0)) := by unfold rNum; rw [hg]
  obtain ⟨u0, rfl⟩ : ∃ u0 : Nat, u = (u0 : Int) := ⟨u.toNat, by omega⟩
  rw [Int.toNat_natCast] at hR
  have hul : u0 ≤ l.length := by omega
  have hsl := fun W => sl_lo l u0 hul W
  have hex : (⟨l.toArray⟩ : ByteArray).extract u0 l.length = ⟨(l.drop u0).toArray⟩ := by rw [ex_mid, List.take_of_length_le (by simp)]
  rw [hR]
  generalize l.drop u0 = l' at hsl hex ⊢
  have HH := Lib.hid h
  have c0 : w.cell? ⟨b, 0, none⟩ = some (.string ⟨l.toArray⟩) := by rw [Lib.cell_of_heap h]; rfl
  have c1 : w.cell? ⟨b, 1, none⟩ = some (.bool bad) := by rw [Lib.cell_of_heap h]; rfl
  have f0 : w.frozen? ⟨b, 0, none⟩ = false := Lib.frozen_of_heap h 0
  have f1 : w.frozen? ⟨b, 1, none⟩ = false := Lib.frozen_of_heap h 1
  simp only at hl
  clear hg hR h
  cases bad with
  | true =>
    go_enter Tryz.func185, Tryz.ntmps185
    go_wp2_with fail
    refine (HGI.out _).mono ?_
    rintro e w' ⟨rfl, rfl⟩
    go_wp2_with fail
    go_ret
    exact ⟨rfl, Lib.hid (rd_set HH.out), Lib.hid (gtrans (gset _ _ _ _) (gset _ _ _ _))⟩
  | false =>
    cases he : (er != 0) with
    | true =>
      go_enter Tryz.func185, Tryz.ntmps185
      go_wp2_with fail
      refine (HGI.out _).mono ?_
      rintro e w' ⟨rfl, rfl⟩
      go_wp2_with fail
      go_ret
      exact ⟨rfl, Lib.hid (rd_set HH.out), Lib.hid (gtrans (gset _ _ _ _) (gset _ _ _ _))⟩
    | false =>
      go_enter Tryz.func185, Tryz.ntmps185
      go_wp2_with fail
      refine (HGI.out _).mono ?_
      rintro e w' ⟨rfl, rfl⟩
      go_wp2_with fail
      go_ret
      exact ⟨rfl, Lib.hid (rd_set HH.out), Lib.hid (gtrans (gset _ _ _ _) (gset _ _ _ _))⟩

set_option maxRecDepth 100000 in
set_option maxHeartbeats 1000000 in
theorem rstring_any (b : Nat) (r : RS) (w : World) (h : RD b r w) (hl : (r.1.length : Int) ≤ 140737488355328) :
    Calls Tryz.prog 186 #[.pointer (some ⟨b, 0, none⟩)] w fun e w' => e = .returned (.string ⟨(rStr r).1.toArray⟩) ∧ Hid (RD b (rStr r).2 w') ∧ Hid (w.grownBy w' (some b)) := by
  obtain ⟨l, bad⟩ := r
  obtain ⟨n, u, er, hg⟩ : ∃ n u er, Cw.getT l = (n, u, er) := ⟨_, _, _, rfl⟩
  have HGI : Hid (∀ X, Calls Tryz.prog 195 #[.string ⟨l.toArray⟩] X fun e w' => e = .returned (.tuple #[.string ⟨n.toArray⟩, .int .i64 u, .int .i64 er]) ∧ X = w') := Lib.hid (fun X => by
    have := getText_any ⟨l.toArray⟩ X (by rw [ba_len]; exact hl)
    rw [show (⟨l.toArray⟩ : ByteArray).data.toList = l by simp, hg] at this
    exact this)
  have hb := getT_all hg
  have hR : rStr (l, bad) = (n, (l.drop u.toNat, bad || er != 0)) := by unfold rStr; rw [hg]
  obtain ⟨u0, rfl⟩ : ∃ u0 : Nat, u = (u0 : Int) := ⟨u.toNat, by omega⟩
  rw [Int.toNat_natCast] at hR
  have hul : u0 ≤ l.length := by omega
  have hsl := fun W => sl_lo l u0 hul W
  have hex : (⟨l.toArray⟩ : ByteArray).extract u0 l.length = ⟨(l.drop u0).toArray⟩ := by rw [ex_mid, List.take_of_length_le (by simp)]
  rw [hR]
  generalize l.drop u0 = l' at hsl hex ⊢
  have HH := Lib.hid h
  have c0 : w.cell? ⟨b, 0, none⟩ = some (.string ⟨l.toArray⟩) := by rw [Lib.cell_of_heap h]; rfl
  have c1 : w.cell? ⟨b, 1, none⟩ = some (.bool bad) := by rw [Lib.cell_of_heap h]; rfl
  have f0 : w.frozen? ⟨b, 0, none⟩ = false := Lib.frozen_of_heap h 0
  have f1 : w.frozen? ⟨b, 1, none⟩ = false := Lib.frozen_of_heap h 1
  simp only at hl
  clear hg hR h
  cases bad with
  | true =>
    go_enter Tryz.func186, Tryz.ntmps186
    go_wp2_with fail
    refine (HGI.out _).mono ?_
    rintro e w' ⟨rfl, rfl⟩
    go_wp2_with fail
    go_ret
    exact ⟨rfl, Lib.hid (rd_set HH.out), Lib.hid (gtrans (gset _ _ _ _) (gset _ _ _ _))⟩
  | false =>
    cases he : (er != 0) with
    | true =>
      go_enter Tryz.func186, Tryz.ntmps186
      go_wp2_with fail
      refine (HGI.out _).mono ?_
      rintro e w' ⟨rfl, rfl⟩
      go_wp2_with fail
      go_ret
      exact ⟨rfl, Lib.hid (rd_set HH.out), Lib.hid (gtrans (gset _ _ _ _) (gset _ _ _ _))⟩
    | false =>
      go_enter Tryz.func186, Tryz.ntmps186
      go_wp2_with fail
      refine (HGI.out _).mono ?_
      rintro e w' ⟨rfl, rfl⟩
      go_wp2_with fail
      go_ret
      exact ⟨rfl, Lib.hid (rd_set HH.out), Lib.hid (gtrans (gset _ _ _ _) (gset _ _ _ _))⟩

end Go.Proofs.YtdedfkljaeloiaaGreatDoor

/- object.reader.digest. -/
namespace Go.Proofs.YtdedfkljaeloiaaGreatDoor
open Go.RowKit Go.Shelf
set_option linter.unusedVariables false

/-- The digest after so many bytes. -/
def dgAt (l : List UInt8) (k : Nat) : Int × Int := (fixS ((l.take 8).take k), fixS (((l.drop 8).take 8).take (k - 8)))
theorem dgAt_zero (l : List UInt8) : dgAt l 0 = (0, 0) := by simp [dgAt, fixS]
theorem dgAt_full (l : List UInt8) : dgAt l 16 = (fixS (l.take 8), fixS ((l.drop 8).take 8)) := by
  simp [dgAt, List.take_take]
theorem dgAt_lo (l : List UInt8) (k : Nat) (hl : 16 ≤ l.length) (hk : k < 8) : dgAt l (k + 1) = (fstep (dgAt l k).1 (l[k]'(by omega)), (dgAt l k).2) := by
  have h1 : k < (l.take 8).length := by rw [List.length_take]; omega
  have e1 : fixS ((l.take 8).take (k + 1)) = fstep (fixS ((l.take 8).take k)) ((l.take 8)[k]) := foldl_take fstep 0 (l.take 8) k h1
  have e2 : k + 1 - 8 = 0 := by omega
  have e3 : k - 8 = 0 := by omega
  simp only [dgAt, e1, e2, e3, List.getElem_take]
theorem dgAt_hi (l : List UInt8) (k : Nat) (hl : 16 ≤ l.length) (hk : 8 ≤ k) (hk2 : k < 16) : dgAt l (k + 1) = ((dgAt l k).1, fstep (dgAt l k).2 (l[k]'(by omega))) := by
  have h1 : k - 8 < ((l.drop 8).take 8).length := by rw [List.length_take, List.length_drop]; omega
  have e1 : fixS (((l.drop 8).take 8).take (k - 8 + 1)) = fstep (fixS (((l.drop 8).take 8).take (k - 8))) (((l.drop 8).take 8)[k - 8]) := foldl_take fstep 0 _ _ h1
  have e2 : k + 1 - 8 = k - 8 + 1 := by omega
  have e3 : (l.take 8).take (k + 1) = (l.take 8).take k := by
    rw [List.take_take, List.take_take, Nat.min_eq_right (by omega), Nat.min_eq_right (by omega)]
  simp only [dgAt, e1, e2, e3, List.getElem_take, List.getElem_drop]
  congr 3
  congr 1
  omega

theorem set_cells {W : World} {b : Nat} {cs : Array Value} {t : TypeId} {fz : Nat × Nat} (h : W.heap[b]? = some (.cells cs t fz)) (j : Nat) (v : Value) : (W.setCell ⟨b, j, none⟩ v).heap[b]? = some (.cells (cs.setIfInBounds j v) t fz) := by
  simp [World.setCell, Array.getElem?_modify, h]

set_option maxRecDepth 100000 in
set_option maxHeartbeats 2000000 in
theorem rdigest_any (b : Nat) (r : RS) (w : World) (h : RD b r w) (hl : (r.1.length : Int) ≤ 140737488355328) :
    Calls Tryz.prog 189 #[.pointer (some ⟨b, 0, none⟩)] w fun e w' => e = .returned (.agg #[.int .u64 (rDig r).1.1, .int .u64 (rDig r).1.2]) ∧ Hid (RD b (rDig r).2 w') ∧ Hid (w.grownBy w' (some b)) := by
  obtain ⟨l, bad⟩ := r
  have hbw : b < w.heap.size := (Array.getElem?_eq_some_iff.1 h).1
  simp only at hl
  have HH := Lib.hid h
  have c0 : w.cell? ⟨b, 0, none⟩ = some (.string ⟨l.toArray⟩) := by rw [Lib.cell_of_heap h]; rfl
  have f0 : w.frozen? ⟨b, 0, none⟩ = false := Lib.frozen_of_heap h 0
  have f1 : w.frozen? ⟨b, 1, none⟩ = false := Lib.frozen_of_heap h 1
  have c1 : w.cell? ⟨b, 1, none⟩ = some (.bool bad) := by rw [Lib.cell_of_heap h]; rfl
  clear h
  by_cases h16 : (l.length : Int) < 16
  · have HR : Hid (rDig (l, bad) = ((0, 0), (l, true))) := Lib.hid (by unfold rDig; rw [if_pos (by simp only; omega)])
    rw [HR.out]
    go_enter Tryz.func189, Tryz.ntmps189
    go_wp2_with fail
    refine bodyPost_ret (v := .agg #[.int .u64 0, .int .u64 0]) (by simp [results, Tryz.results189, go_sem]) rfl ⟨rfl, Lib.hid ?_, Lib.hid ?_⟩
    · have hs : b < (w.setCell ⟨b, 1, none⟩ (.bool true)).heap.size := by simpa using hbw
      unfold RD
      rw [Below.heap_alloc _ _ _ (by simp; omega), Below.heap_alloc _ _ _ hs]
      have := HH.out
      unfold RD at this
      simp [World.setCell, Array.getElem?_modify, this]
    · exact gtrans (gtrans (gset _ _ _ _) (World.grownBy_alloc _ _ _)) (World.grownBy_alloc _ _ _)
  · have h16' : (16 : Int) ≤ l.length := by omega
    have HR : Hid (rDig (l, bad) = (dgAt l 16, (l.drop 16, bad))) := Lib.hid (by unfold rDig; rw [if_neg (by simp only; omega), dgAt_full])
    rw [HR.out]
    go_enter Tryz.func189, Tryz.ntmps189
    go_wp2_with fail
    go_loopw [15] (fun i wr => ∃ (k : Nat) (x y : Int), k ≤ 16 ∧ i = .int .i64 k ∧ Hid (Below w.heap.size w wr) ∧ Hid (wr.heap[w.heap.size]? = some (.cells #[.int .u64 0, .int .u64 0] 35 (0, 0))) ∧ Hid (wr.heap[w.heap.size + 1]? = some (.cells #[.int .u64 x, .int .u64 y] 35 (0, 0))) ∧ Hid (dgAt l k = (x, y))) (fun i _ => 16 - (intOf i).toNat)
    case atStart =>
      refine ⟨0, 0, 0, by omega, rfl, Lib.hid (((Below.refl _ w).alloc (Nat.le_refl _) _).alloc (by simp) _), Lib.hid ?_, Lib.hid ?_, Lib.hid (dgAt_zero l)⟩
      · rw [Below.heap_alloc _ _ _ (by simp)]; exact World.alloc_heap_new _ _
      · have := World.alloc_heap_new (w.alloc (.cells #[.int .u64 0, .int .u64 0] 35)) (.cells #[.int .u64 0, .int .u64 0] 35)
        rwa [World.size_alloc] at this
    case round =>
      obtain ⟨k, x, y, hk, rfl, HB, HZ, HX, HD⟩ := hrel
      have g0 : wr.cell? ⟨b, 0, none⟩ = some (.string ⟨l.toArray⟩) := (HB.out.cell (p := ⟨b, 0, none⟩) hbw).trans c0
      have g1 : wr.cell? ⟨w.heap.size + 1, 0, none⟩ = some (.int .u64 x) := by rw [Lib.cell_of_heap HX.out]; rfl
      have g2 : wr.cell? ⟨w.heap.size + 1, 1, none⟩ = some (.int .u64 y) := by rw [Lib.cell_of_heap HX.out]; rfl
      have z1 : wr.frozen? ⟨w.heap.size + 1, 0, none⟩ = false := Lib.frozen_of_heap HX.out 0
      have z2 : wr.frozen? ⟨w.heap.size + 1, 1, none⟩ = false := Lib.frozen_of_heap HX.out 1
      by_cases hlt : k < 16
      · have hkl : k < l.length := by omega
        by_cases hk8 : k < 8
        · have HN : Hid (dgAt l (k + 1) = (fstep x l[k], y)) := Lib.hid (by rw [dgAt_lo l k (by omega) hk8, HD.out])
          have hq1 : (k : Int).tdiv 8 = 0 := by rw [Int.tdiv_eq_ediv_of_nonneg (by omega)]; omega
          have hq2 : (k : Int) / 8 = 0 := by omega
          have dk : decide ((k : Int) < 16) = true := by simp; omega
          go_wp2_with fail
          go_region
          go_wp2_with fail
          go_roundw
          case rel =>
            refine ⟨k + 1, _, _, by omega, by go_num, Lib.hid (HB.out.setCell (p := ⟨w.heap.size + 1, 0, none⟩) (by simp) _).drew, Lib.hid ?_, Lib.hid ?_, Lib.hid HN.out⟩
            · exact (Below.heap_setCell _ _ _ _ (by simp)).trans HZ.out
            · exact set_cells HX.out _ _
          case measure => simp [intOf]; omega
        · have HN : Hid (dgAt l (k + 1) = (x, fstep y l[k])) := Lib.hid (by rw [dgAt_hi l k (by omega) (by omega) hlt, HD.out])
          have hq1 : (k : Int).tdiv 8 = 1 := by rw [Int.tdiv_eq_ediv_of_nonneg (by omega)]; omega
          have hq2 : (k : Int) / 8 = 1 := by omega
          have dk : decide ((k : Int) < 16) = true := by simp; omega
          go_wp2_with fail
          go_region
          go_wp2_with fail
          go_roundw
          case rel =>
            refine ⟨k + 1, _, _, by omega, by go_num, Lib.hid (HB.out.setCell (p := ⟨w.heap.size + 1, 1, none⟩) (by simp) _).drew, Lib.hid ?_, Lib.hid ?_, Lib.hid HN.out⟩
            · exact (Below.heap_setCell _ _ _ _ (by simp)).trans HZ.out
            · exact set_cells HX.out _ _
          case measure => simp [intOf]; omega
      · obtain rfl : k = 16 := by omega
        have g3 : wr.frozen? ⟨b, 0, none⟩ = false := (HB.out.frozen (p := ⟨b, 0, none⟩) hbw).trans f0
        have y0 : wr.cell? ⟨w.heap.size, 0, none⟩ = some (.int .u64 0) := by rw [Lib.cell_of_heap HZ.out]; rfl
        have y1 : wr.cell? ⟨w.heap.size, 1, none⟩ = some (.int .u64 0) := by rw [Lib.cell_of_heap HZ.out]; rfl
        have y2 : wr.frozen? ⟨w.heap.size, 0, none⟩ = false := Lib.frozen_of_heap HZ.out 0
        have y3 : wr.frozen? ⟨w.heap.size, 1, none⟩ = false := Lib.frozen_of_heap HZ.out 1
        have hne1 : w.heap.size ≠ b := by omega
        have hne2 : w.heap.size + 1 ≠ b := by omega
        have hex : (⟨l.toArray⟩ : ByteArray).extract 16 l.length = ⟨(l.drop 16).toArray⟩ := by rw [ex_mid, List.take_of_length_le (by simp)]
        have hsl := fun W => sl_lo l 16 (by omega) W
        obtain ⟨l', hl'⟩ : ∃ l', l' = l.drop 16 := ⟨_, rfl⟩
        rw [← hl'] at hex hsl
        have HL := Lib.hid hl'
        clear hl'
        go_wp2_with fail
        refine bodyPost_ret (v := .agg #[.int .u64 x, .int .u64 y]) (by simp [results, Tryz.results189, go_sem, y0, y1]) rfl ⟨by rw [HD.out], Lib.hid ?_, Lib.hid ?_⟩
        · rw [← HL.out]
          have hb0 := (HB.out.block b hbw).trans HH.out
          exact (Below.heap_setCell _ _ _ _ (fun e => hne1 e.symm)).trans ((Below.heap_setCell _ _ _ _ (fun e => hne1 e.symm)).trans (set_cells hb0 _ _))
        · have hb := HB.out
          exact ⟨hb.os, hb.tape, hb.output, by simpa using hb.size, fun k hk hr => (Below.heap_setCell _ _ _ _ (by simp; omega)).trans ((Below.heap_setCell _ _ _ _ (by simp; omega)).trans ((Below.heap_setCell _ _ _ _ (fun e => hr (by rw [e]))).trans (hb.block k hk)))⟩

end Go.Proofs.YtdedfkljaeloiaaGreatDoor

/- object.reader.entry. -/
namespace Go.Proofs.YtdedfkljaeloiaaGreatDoor
open Go.RowKit Go.Shelf
set_option linter.unusedVariables false

def rEnt (r : RS) : Ent × RS :=
  (⟨(rStr r).1, (rNum (rStr r).2).1 == 1, (rDig ((rNum (rStr r).2).2.1, (rNum (rStr r).2).2.2 || decide (1 < (rNum (rStr r).2).1))).1⟩, (rDig ((rNum (rStr r).2).2.1, (rNum (rStr r).2).2.2 || decide (1 < (rNum (rStr r).2).1))).2)
theorem RD.alloc {b : Nat} {r : RS} {W : World} (h : RD b r W) (o : Obj) : RD b r (W.alloc o) := (Below.heap_alloc _ _ _ (Array.getElem?_eq_some_iff.1 h).1).trans h
theorem RD.lt {b : Nat} {r : RS} {W : World} (h : RD b r W) : b < W.heap.size := (Array.getElem?_eq_some_iff.1 h).1
theorem rStr_len (r : RS) : (rStr r).2.1.length ≤ r.1.length := by unfold rStr; simp
theorem rNum_len (r : RS) : (rNum r).2.1.length ≤ r.1.length := by unfold rNum; simp

theorem gnew {w x : World} {r : Option Nat} (h : w.grownBy x r) {c : Nat} (hc : w.heap.size ≤ c) (j : Nat) (v : Value) : w.grownBy (x.setCell ⟨c, j, none⟩ v) r :=
  ⟨h.os, h.tape, h.output, by have := h.size; simpa using this, fun k hk hr => (Below.heap_setCell _ _ _ _ (by simp; omega)).trans (h.block k hk hr)⟩
theorem gown {w x : World} {b : Nat} (h : w.grownBy x (some b)) (j : Nat) (v : Value) : w.grownBy (x.setCell ⟨b, j, none⟩ v) (some b) := gtrans h (gset _ _ _ _)
theorem galloc {w x : World} {r : Option Nat} (h : w.grownBy x r) (o : Obj) : w.grownBy (x.alloc o) r := gtrans h (World.grownBy_alloc _ _ _)
theorem grefl (w : World) (r : Option Nat) : w.grownBy w r := ⟨rfl, rfl, rfl, Nat.le_refl _, fun _ _ _ => rfl⟩
theorem RD.set {b : Nat} {r : RS} {W : World} (h : RD b r W) {c : Nat} (hc : c ≠ b) (j : Nat) (v : Value) : RD b r (W.setCell ⟨c, j, none⟩ v) := (Below.heap_setCell _ _ _ _ (by simp; omega)).trans h

set_option maxRecDepth 100000 in
set_option maxHeartbeats 2000000 in
theorem rentry_any (b : Nat) (r : RS) (w : World) (h : RD b r w) (hl : (r.1.length : Int) ≤ 140737488355328) :
    Calls Tryz.prog 188 #[.pointer (some ⟨b, 0, none⟩)] w fun e w' => e = .returned (.agg #[.string ⟨(rEnt r).1.name.toArray⟩, .bool (rEnt r).1.dir, .int .u64 (rEnt r).1.d.1, .int .u64 (rEnt r).1.d.2]) ∧ Hid (RD b (rEnt r).2 w') ∧ Hid (w.grownBy w' (some b)) := by
  have hl1 := rStr_len r
  have hl2 := rNum_len (rStr r).2
  have hbw := h.lt
  have HE : Hid (rEnt r = (⟨(rStr r).1, (rNum (rStr r).2).1 == 1, (rDig ((rNum (rStr r).2).2.1, (rNum (rStr r).2).2.2 || decide (1 < (rNum (rStr r).2).1))).1⟩, (rDig ((rNum (rStr r).2).2.1, (rNum (rStr r).2).2.2 || decide (1 < (rNum (rStr r).2).1))).2)) := Lib.hid rfl
  have HS := Lib.hid (fun W hW => rstring_any b r W hW hl)
  generalize rStr r = s1 at HE HS hl1 hl2
  obtain ⟨s, r1⟩ := s1
  simp only at HE HS hl1 hl2
  have HN := Lib.hid (fun W hW => rnumber_any b r1 W hW (by omega))
  generalize rNum r1 = s2 at HE HN hl2
  obtain ⟨n, r2⟩ := s2
  simp only at HE HN hl2
  obtain ⟨l2, bad2⟩ := r2
  simp only at HE hl2
  have HD := Lib.hid (fun W hW => rdigest_any b (l2, bad2 || decide (1 < n)) W hW (by simp only; omega))
  generalize rDig (l2, bad2 || decide (1 < n)) = s3 at HE HD
  obtain ⟨⟨d1, d2⟩, r3⟩ := s3
  simp only at HE HD
  rw [HE.out]
  have HH := Lib.hid h
  clear h HE
  go_enter Tryz.func188, Tryz.ntmps188
  go_wp2_with fail
  refine (HS.out _ (HH.out.alloc _)).mono ?_
  rintro e x1 ⟨rfl, HR1, HG1⟩
  go_wp2_with fail
  refine (HN.out _ (HR1.out.alloc _)).mono ?_
  rintro e x2 ⟨rfl, HR2, HG2⟩
  have hx1 : w.heap.size < x1.heap.size := by have := HG1.out.size; simp at this; omega
  have hb2 := HR2.out
  have hE2 : x2.heap[x1.heap.size]? = some (.cells #[.string ⟨s.toArray⟩, .bool false, .int .u64 0, .int .u64 0] 111 (0, 0)) := (HG2.out.block _ (by simp) (fun e => by have := Option.some.inj e; have := HR1.out.lt; omega)).trans (World.alloc_heap_new _ _)
  have c1 : x2.cell? ⟨b, 1, none⟩ = some (.bool bad2) := by rw [Lib.cell_of_heap hb2]; rfl
  have f1 : x2.frozen? ⟨b, 1, none⟩ = false := Lib.frozen_of_heap hb2 1
  have k1 : x2.cell? ⟨x1.heap.size, 1, none⟩ = some (.bool false) := by rw [Lib.cell_of_heap hE2]; rfl
  have k2 : x2.frozen? ⟨x1.heap.size, 1, none⟩ = false := Lib.frozen_of_heap hE2 1
  have hneb : x1.heap.size ≠ b := by omega
  have HE2 := Lib.hid hE2
  have HZ2 : Hid (x2.heap[w.heap.size]? = some (.cells #[.string ⟨#[]⟩, .bool false, .int .u64 0, .int .u64 0] 111 (0, 0))) := Lib.hid ((HG2.out.block _ (by simp; omega) (fun e => by have := Option.some.inj e; omega)).trans ((Below.heap_alloc _ _ _ hx1).trans ((HG1.out.block _ (by simp) (fun e => by have := Option.some.inj e; omega)).trans (World.alloc_heap_new _ _))))
  clear hb2 hE2
  cases bad2 with
  | true =>
    have HR3 : Hid (RD b (l2, true) (x2.setCell ⟨b, 1, none⟩ (.bool true))) := Lib.hid (set_cells HR2.out 1 _)
    have HR4 : Hid (RD b (l2, true) ((x2.setCell ⟨b, 1, none⟩ (.bool true)).setCell ⟨x1.heap.size, 1, none⟩ (.bool (n == 1)))) := Lib.hid ((Below.heap_setCell _ _ _ _ (by simp; omega)).trans HR3.out)
    go_wp2_with fail
    have hx := HD.out _ HR4.out
    (with_reducible refine hx.mono ?_)
    clear hx
    rintro e x3 ⟨rfl, HR5, HG3⟩
    have hE3 : x3.heap[x1.heap.size]? = some (.cells #[.string ⟨s.toArray⟩, .bool (n == 1), .int .u64 0, .int .u64 0] 111 (0, 0)) := (HG3.out.block _ (by have := (Array.getElem?_eq_some_iff.1 HE2.out).1; simpa using this) (fun e => hneb (Option.some.inj e))).trans (set_cells ((Below.heap_setCell _ _ _ _ (by simpa using hneb)).trans HE2.out) 1 _)
    have m0 : x3.cell? ⟨x1.heap.size, 0, none⟩ = some (.string ⟨s.toArray⟩) := by rw [Lib.cell_of_heap hE3]; rfl
    have m1 : x3.cell? ⟨x1.heap.size, 1, none⟩ = some (.bool (n == 1)) := by rw [Lib.cell_of_heap hE3]; rfl
    have m2 : x3.cell? ⟨x1.heap.size, 2, none⟩ = some (.int .u64 0) := by rw [Lib.cell_of_heap hE3]; rfl
    have m3 : x3.cell? ⟨x1.heap.size, 3, none⟩ = some (.int .u64 0) := by rw [Lib.cell_of_heap hE3]; rfl
    have p2 : x3.frozen? ⟨x1.heap.size, 2, none⟩ = false := Lib.frozen_of_heap hE3 2
    have p3 : x3.frozen? ⟨x1.heap.size, 3, none⟩ = false := Lib.frozen_of_heap hE3 3
    have hZ3 : x3.heap[w.heap.size]? = some (.cells #[.string ⟨#[]⟩, .bool false, .int .u64 0, .int .u64 0] 111 (0, 0)) := (HG3.out.block _ (by have := HG2.out.size; simp at this; simp; omega) (fun e => by have := Option.some.inj e; omega)).trans ((Below.heap_setCell _ _ _ _ (by simp; omega)).trans ((Below.heap_setCell _ _ _ _ (by simp; omega)).trans HZ2.out))
    have o0 : x3.cell? ⟨w.heap.size, 0, none⟩ = some (.string ⟨#[]⟩) := by rw [Lib.cell_of_heap hZ3]; rfl
    have o1 : x3.cell? ⟨w.heap.size, 1, none⟩ = some (.bool false) := by rw [Lib.cell_of_heap hZ3]; rfl
    have o2 : x3.cell? ⟨w.heap.size, 2, none⟩ = some (.int .u64 0) := by rw [Lib.cell_of_heap hZ3]; rfl
    have o3 : x3.cell? ⟨w.heap.size, 3, none⟩ = some (.int .u64 0) := by rw [Lib.cell_of_heap hZ3]; rfl
    have q0 : x3.frozen? ⟨w.heap.size, 0, none⟩ = false := Lib.frozen_of_heap hZ3 0
    have q1 : x3.frozen? ⟨w.heap.size, 1, none⟩ = false := Lib.frozen_of_heap hZ3 1
    have q2 : x3.frozen? ⟨w.heap.size, 2, none⟩ = false := Lib.frozen_of_heap hZ3 2
    have q3 : x3.frozen? ⟨w.heap.size, 3, none⟩ = false := Lib.frozen_of_heap hZ3 3
    have hne9 : x1.heap.size ≠ w.heap.size := by omega
    clear hE3 hZ3 c1 f1 k1 k2
    go_wp2_with fail
    refine bodyPost_ret (v := .agg #[.string ⟨s.toArray⟩, .bool (n == 1), .int .u64 d1, .int .u64 d2]) (by simp [results, Tryz.results188, go_sem, o0, o1, o2, o3]) rfl ⟨rfl, Lib.hid ?_, Lib.hid ?_⟩
    · exact (((((HR5.out.set (by omega) _ _).set (by omega) _ _).set (by omega) _ _).set (by omega) _ _).set (by omega) _ _).set (by omega) _ _
    · exact gnew (gnew (gnew (gnew (gnew (gnew (gtrans (gnew (gown (gtrans (galloc (gtrans (galloc (grefl w _) _) HG1.out) _) HG2.out) _ _) (by omega) _ _) HG3.out) (by omega) _ _) (by omega) _ _) (by omega) _ _) (by omega) _ _) (by omega) _ _) (by omega) _ _
  | false =>
    simp only [Bool.false_or] at HD
    have HR3 : Hid (RD b (l2, decide (1 < n)) (x2.setCell ⟨b, 1, none⟩ (.bool (decide (1 < n))))) := Lib.hid (set_cells HR2.out 1 _)
    have HR4 : Hid (RD b (l2, decide (1 < n)) ((x2.setCell ⟨b, 1, none⟩ (.bool (decide (1 < n)))).setCell ⟨x1.heap.size, 1, none⟩ (.bool (n == 1)))) := Lib.hid ((Below.heap_setCell _ _ _ _ (by simp; omega)).trans HR3.out)
    go_wp2_with fail
    have hx := HD.out _ HR4.out
    (with_reducible refine hx.mono ?_)
    clear hx
    rintro e x3 ⟨rfl, HR5, HG3⟩
    have hE3 : x3.heap[x1.heap.size]? = some (.cells #[.string ⟨s.toArray⟩, .bool (n == 1), .int .u64 0, .int .u64 0] 111 (0, 0)) := (HG3.out.block _ (by have := (Array.getElem?_eq_some_iff.1 HE2.out).1; simpa using this) (fun e => hneb (Option.some.inj e))).trans (set_cells ((Below.heap_setCell _ _ _ _ (by simpa using hneb)).trans HE2.out) 1 _)
    have m0 : x3.cell? ⟨x1.heap.size, 0, none⟩ = some (.string ⟨s.toArray⟩) := by rw [Lib.cell_of_heap hE3]; rfl
    have m1 : x3.cell? ⟨x1.heap.size, 1, none⟩ = some (.bool (n == 1)) := by rw [Lib.cell_of_heap hE3]; rfl
    have m2 : x3.cell? ⟨x1.heap.size, 2, none⟩ = some (.int .u64 0) := by rw [Lib.cell_of_heap hE3]; rfl
    have m3 : x3.cell? ⟨x1.heap.size, 3, none⟩ = some (.int .u64 0) := by rw [Lib.cell_of_heap hE3]; rfl
    have p2 : x3.frozen? ⟨x1.heap.size, 2, none⟩ = false := Lib.frozen_of_heap hE3 2
    have p3 : x3.frozen? ⟨x1.heap.size, 3, none⟩ = false := Lib.frozen_of_heap hE3 3
    have hZ3 : x3.heap[w.heap.size]? = some (.cells #[.string ⟨#[]⟩, .bool false, .int .u64 0, .int .u64 0] 111 (0, 0)) := (HG3.out.block _ (by have := HG2.out.size; simp at this; simp; omega) (fun e => by have := Option.some.inj e; omega)).trans ((Below.heap_setCell _ _ _ _ (by simp; omega)).trans ((Below.heap_setCell _ _ _ _ (by simp; omega)).trans HZ2.out))
    have o0 : x3.cell? ⟨w.heap.size, 0, none⟩ = some (.string ⟨#[]⟩) := by rw [Lib.cell_of_heap hZ3]; rfl
    have o1 : x3.cell? ⟨w.heap.size, 1, none⟩ = some (.bool false) := by rw [Lib.cell_of_heap hZ3]; rfl
    have o2 : x3.cell? ⟨w.heap.size, 2, none⟩ = some (.int .u64 0) := by rw [Lib.cell_of_heap hZ3]; rfl
    have o3 : x3.cell? ⟨w.heap.size, 3, none⟩ = some (.int .u64 0) := by rw [Lib.cell_of_heap hZ3]; rfl
    have q0 : x3.frozen? ⟨w.heap.size, 0, none⟩ = false := Lib.frozen_of_heap hZ3 0
    have q1 : x3.frozen? ⟨w.heap.size, 1, none⟩ = false := Lib.frozen_of_heap hZ3 1
    have q2 : x3.frozen? ⟨w.heap.size, 2, none⟩ = false := Lib.frozen_of_heap hZ3 2
    have q3 : x3.frozen? ⟨w.heap.size, 3, none⟩ = false := Lib.frozen_of_heap hZ3 3
    have hne9 : x1.heap.size ≠ w.heap.size := by omega
    clear hE3 hZ3 c1 f1 k1 k2
    go_wp2_with fail
    refine bodyPost_ret (v := .agg #[.string ⟨s.toArray⟩, .bool (n == 1), .int .u64 d1, .int .u64 d2]) (by simp [results, Tryz.results188, go_sem, o0, o1, o2, o3]) rfl ⟨rfl, Lib.hid ?_, Lib.hid ?_⟩
    · exact (((((HR5.out.set (by omega) _ _).set (by omega) _ _).set (by omega) _ _).set (by omega) _ _).set (by omega) _ _).set (by omega) _ _
    · exact gnew (gnew (gnew (gnew (gnew (gnew (gtrans (gnew (gown (gtrans (galloc (gtrans (galloc (grefl w _) _) HG1.out) _) HG2.out) _ _) (by omega) _ _) HG3.out) (by omega) _ _) (by omega) _ _) (by omega) _ _) (by omega) _ _) (by omega) _ _) (by omega) _ _

end Go.Proofs.YtdedfkljaeloiaaGreatDoor

/- Reading an object, in plain terms. -/
namespace Go.Proofs.YtdedfkljaeloiaaGreatDoor

def rList {α : Type} (get : RS → α × RS) : Nat → RS → List α × RS
  | 0, r => ([], r)
  | n + 1, r => if r.2 = true then ([], r) else ((get r).1 :: (rList get n (get r).2).1, (rList get n (get r).2).2)
def rMost (most : Int) (r : RS) : Int × RS := ((rNum r).1, ((rNum r).2.1, (rNum r).2.2 || decide (most < (rNum r).1)))
/-- A number, and so many elements; more than most are wrong. -/
def rMany {α : Type} (get : RS → α × RS) (most : Int) (r : RS) : List α × RS := rList get (rMost most r).1.toNat (rMost most r).2
def obZ : Ob := ⟨0, [], [], (0, 0), [], [], 0, []⟩
def readC (r : RS) : Ob × RS :=
  (⟨3, [], [], (rDig r).1, (rMany rDig 8 (rDig r).2).1, (rStr (rMany rDig 8 (rDig r).2).2).1, (rNum (rStr (rMany rDig 8 (rDig r).2).2).2).1, (rStr (rNum (rStr (rMany rDig 8 (rDig r).2).2).2).2).1⟩,
   (rStr (rNum (rStr (rMany rDig 8 (rDig r).2).2).2).2).2)
def readO (s : List UInt8) : Ob × RS :=
  if (rNum (s, false)).1 = 1 ∨ (rNum (s, false)).1 = 4 then ({ obZ with kind := (rNum (s, false)).1, data := (rStr (rNum (s, false)).2).1 }, (rStr (rNum (s, false)).2).2)
  else if (rNum (s, false)).1 = 2 then ({ obZ with kind := 2, ents := (rMany rEnt 200 (rNum (s, false)).2).1 }, (rMany rEnt 200 (rNum (s, false)).2).2)
  else if (rNum (s, false)).1 = 3 then readC (rNum (s, false)).2
  else ({ obZ with kind := (rNum (s, false)).1 }, (rNum (s, false)).2)
/-- The object with an encoding. -/
def decodeS (s : List UInt8) : Ob × Int := if (readO s).2.2 = true ∨ (readO s).2.1 ≠ [] ∨ (encodeS (readO s).1).2 ≠ 0 then (obZ, 13) else ((readO s).1, 0)

end Go.Proofs.YtdedfkljaeloiaaGreatDoor

/- Reading an object: the plain law. What is read is what was encoded, and the other way round. -/
namespace Go.Proofs.YtdedfkljaeloiaaGreatDoor

def u64B (x : Int) : Prop := 0 ≤ x ∧ x < 18446744073709551616
def OkD (d : Int × Int) : Prop := u64B d.1 ∧ u64B d.2
def OkO (o : Ob) : Prop := OkD o.tree ∧ (∀ d ∈ o.pars, OkD d) ∧ ∀ e ∈ o.ents, OkD e.d

theorem rNum_good {l l' : List UInt8} {b : Bool} {n : Int} (h : rNum (l, b) = (n, (l', false))) : b = false ∧ l = Cw.enc n.toNat ++ l' ∧ 0 ≤ n ∧ n ≤ 1099511627776 := by
  obtain ⟨m, u, er, hg⟩ : ∃ m u er, Cw.getI l = (m, u, er) := ⟨_, _, _, rfl⟩
  unfold rNum at h
  simp only [hg, Prod.mk.injEq, Bool.or_eq_false_iff, bne_eq_false_iff_eq] at h
  obtain ⟨rfl, rfl, rfl, rfl⟩ := h
  have hb := getI_bounds hg
  obtain ⟨h0, hk, ht⟩ := Cw.getI_canon hg
  refine ⟨rfl, ?_, h0, hb.2.1⟩
  rw [hk, Int.toNat_natCast]
  conv => lhs; rw [← List.take_append_drop (Cw.enc m.toNat).length l]
  rw [ht]
theorem rNum_enc {n : Nat} (h : n ≤ 1099511627776) (l : List UInt8) : rNum (Cw.enc n ++ l, false) = ((n : Int), (l, false)) := by
  unfold rNum
  rw [Cw.getI_enc n h l]
  simp
theorem rStr_good {l l' : List UInt8} {b : Bool} {x : List UInt8} (h : rStr (l, b) = (x, (l', false))) : b = false ∧ l = putX x ++ l' ∧ x.length ≤ 65536 := by
  obtain ⟨m, u, er, hg⟩ : ∃ m u er, Cw.getT l = (m, u, er) := ⟨_, _, _, rfl⟩
  unfold rStr at h
  simp only [hg, Prod.mk.injEq, Bool.or_eq_false_iff, bne_eq_false_iff_eq] at h
  obtain ⟨rfl, rfl, rfl, rfl⟩ := h
  obtain ⟨h0, hk, hx, ht⟩ := getT_canon hg
  refine ⟨rfl, ?_, hx⟩
  unfold putX
  conv => lhs; rw [← List.take_append_drop u.toNat l]
  rw [ht]
theorem rStr_put {x : List UInt8} (h : x.length ≤ 65536) (l : List UInt8) : rStr (putX x ++ l, false) = (x, (l, false)) := by
  unfold rStr putX
  rw [getT_put h l]
  simp only [Int.toNat_natCast, List.drop_left]
  simp
theorem rDig_good {l l' : List UInt8} {b : Bool} {d : Int × Int} (h : rDig (l, b) = (d, (l', false))) : b = false ∧ l = beD d ++ l' ∧ OkD d := by
  unfold rDig at h
  simp only at h
  split at h
  · simp at h
  · rename_i hl
    simp only [Prod.mk.injEq] at h
    obtain ⟨rfl, rfl, rfl⟩ := h
    have h1 : (l.take 8).length = 8 := by rw [List.length_take]; omega
    have h2 : ((l.drop 8).take 8).length = 8 := by rw [List.length_take, List.length_drop]; omega
    refine ⟨rfl, ?_, fixS_range _ (by omega), fixS_range _ (by omega)⟩
    unfold beD
    simp only
    rw [be_fix _ h1, be_fix _ h2, show l.drop 16 = (l.drop 8).drop 8 by rw [List.drop_drop], List.append_assoc, List.take_append_drop, List.take_append_drop]
theorem rDig_be {d : Int × Int} (h : OkD d) (l : List UInt8) : rDig (beD d ++ l, false) = (d, (l, false)) := by
  obtain ⟨d1, d2⟩ := d
  unfold rDig
  have h1 : (be 8 d1).length = 8 := be_length 8 d1
  have h2 : (be 8 d2).length = 8 := be_length 8 d2
  have hl := beD_length (d1, d2)
  rw [if_neg (by simp only [List.length_append, hl]; omega)]
  have e1 : (beD (d1, d2) ++ l).take 8 = be 8 d1 := by unfold beD; rw [List.append_assoc]; exact takeL h1 _
  have e2 : (beD (d1, d2) ++ l).drop 8 = be 8 d2 ++ l := by unfold beD; rw [List.append_assoc]; exact dropL h1 _
  have e3 : (beD (d1, d2) ++ l).drop 16 = l := dropL hl _
  simp only [e1, e2, e3, takeL h2]
  rw [fixS_be d1 h.1.1 h.1.2, fixS_be d2 h.2.1 h.2.2]
theorem rEnt_good {l l' : List UInt8} {b : Bool} {e : Ent} (h : rEnt (l, b) = (e, (l', false))) : b = false ∧ l = entX e ++ l' ∧ OkD e.d := by
  unfold rEnt at h
  obtain ⟨s, l1, b1, hs⟩ : ∃ s l1 b1, rStr (l, b) = (s, (l1, b1)) := ⟨_, _, _, rfl⟩
  obtain ⟨n, l2, b2, hn⟩ : ∃ n l2 b2, rNum (l1, b1) = (n, (l2, b2)) := ⟨_, _, _, rfl⟩
  simp only [hs, hn] at h
  obtain ⟨d, l3, b3, hd⟩ : ∃ d l3 b3, rDig (l2, b2 || decide (1 < n)) = (d, (l3, b3)) := ⟨_, _, _, rfl⟩
  simp only [hd, Prod.mk.injEq] at h
  obtain ⟨rfl, rfl, rfl⟩ := h
  obtain ⟨hb, rfl, ho⟩ := rDig_good hd
  simp only [Bool.or_eq_false_iff, decide_eq_false_iff_not] at hb
  obtain ⟨rfl, hn1⟩ := hb
  obtain ⟨rfl, rfl, h0, _⟩ := rNum_good hn
  obtain ⟨rfl, rfl, _⟩ := rStr_good hs
  refine ⟨rfl, ?_, ho⟩
  have : dirN (n == 1) = n.toNat := by
    unfold dirN
    by_cases h1 : n = 1
    · subst h1; rfl
    · have : n = 0 := by omega
      subst this; rfl
  simp [entX, this, List.append_assoc]
theorem rEnt_put {e : Ent} (hn : e.name.length ≤ 65536) (h : OkD e.d) (l : List UInt8) : rEnt (entX e ++ l, false) = (e, (l, false)) := by
  obtain ⟨nm, dir, d⟩ := e
  unfold rEnt entX
  simp only at hn h ⊢
  rw [List.append_assoc, rStr_put hn]
  simp only
  rw [List.append_assoc, rNum_enc (by cases dir <;> simp [dirN])]
  simp only
  have e1 : (false || decide (1 < ((dirN dir : Nat) : Int))) = false := by cases dir <;> simp [dirN]
  have e2 : (((dirN dir : Nat) : Int) == 1) = dir := by cases dir <;> rfl
  rw [e1, rDig_be h, e2]
theorem rList_good {α : Type} {get : RS → α × RS} {enc : α → List UInt8} {ok : α → Prop} (hg : ∀ {l l' : List UInt8} {b : Bool} {x : α}, get (l, b) = (x, (l', false)) → b = false ∧ l = enc x ++ l' ∧ ok x) :
    ∀ (n : Nat) {l l' : List UInt8} {b : Bool} {xs : List α}, rList get n (l, b) = (xs, (l', false)) → b = false ∧ l = xs.flatMap enc ++ l' ∧ xs.length = n ∧ ∀ x ∈ xs, ok x
  | 0, l, l', b, xs, h => by
    simp only [rList, Prod.mk.injEq] at h
    obtain ⟨rfl, rfl, rfl⟩ := h
    simp
  | n + 1, l, l', b, xs, h => by
    rw [rList] at h
    cases b with
    | true => simp at h
    | false =>
      simp only [Bool.false_eq_true, if_false] at h
      obtain ⟨x, l1, b1, hx⟩ : ∃ x l1 b1, get (l, false) = (x, (l1, b1)) := ⟨_, _, _, rfl⟩
      obtain ⟨ys, l2, b2, hy⟩ : ∃ ys l2 b2, rList get n (l1, b1) = (ys, (l2, b2)) := ⟨_, _, _, rfl⟩
      simp only [hx, hy, Prod.mk.injEq] at h
      obtain ⟨rfl, rfl, rfl⟩ := h
      obtain ⟨rfl, rfl, h3, h4⟩ := rList_good hg n hy
      obtain ⟨_, rfl, h5⟩ := hg hx
      refine ⟨rfl, by simp, by simp [h3], fun y hy => ?_⟩
      rcases List.mem_cons.1 hy with rfl | hy
      · exact h5
      · exact h4 y hy
theorem rList_put {α : Type} {get : RS → α × RS} {enc : α → List UInt8} : ∀ (xs : List α) (l : List UInt8), (∀ x ∈ xs, ∀ l', get (enc x ++ l', false) = (x, (l', false))) → rList get xs.length (xs.flatMap enc ++ l, false) = (xs, (l, false))
  | [], l, _ => by simp [rList]
  | x :: xs, l, hg => by
    rw [List.length_cons, rList, if_neg (by simp), List.flatMap_cons, List.append_assoc, hg x (by simp)]
    simp only
    rw [rList_put xs l (fun y hy => hg y (by simp [hy]))]
theorem rMany_good {α : Type} {get : RS → α × RS} {enc : α → List UInt8} {ok : α → Prop} (hg : ∀ {l l' : List UInt8} {b : Bool} {x : α}, get (l, b) = (x, (l', false)) → b = false ∧ l = enc x ++ l' ∧ ok x)
    {most : Int} {l l' : List UInt8} {b : Bool} {xs : List α} (h : rMany get most (l, b) = (xs, (l', false))) : b = false ∧ l = Cw.enc xs.length ++ (xs.flatMap enc ++ l') ∧ (xs.length : Int) ≤ most ∧ ∀ x ∈ xs, ok x := by
  unfold rMany rMost at h
  obtain ⟨n, l1, b1, hn⟩ : ∃ n l1 b1, rNum (l, b) = (n, (l1, b1)) := ⟨_, _, _, rfl⟩
  simp only [hn] at h
  obtain ⟨hb, rfl, hl, ho⟩ := rList_good hg _ h
  simp only [Bool.or_eq_false_iff, decide_eq_false_iff_not] at hb
  obtain ⟨rfl, hm⟩ := hb
  obtain ⟨rfl, rfl, h0, _⟩ := rNum_good hn
  exact ⟨rfl, by rw [hl], by omega, ho⟩
theorem rMany_put {α : Type} {get : RS → α × RS} {enc : α → List UInt8} {most : Int} (xs : List α) (l : List UInt8) (hm : (xs.length : Int) ≤ most) (hm2 : most ≤ 1000000) (hg : ∀ x ∈ xs, ∀ l', get (enc x ++ l', false) = (x, (l', false))) :
    rMany get most (Cw.enc xs.length ++ (xs.flatMap enc ++ l), false) = (xs, (l, false)) := by
  unfold rMany rMost
  rw [rNum_enc (by omega)]
  simp only [Int.toNat_natCast, Bool.false_or]
  rw [show decide (most < (xs.length : Int)) = false by simp; omega, rList_put xs l hg]

theorem readO_good {s l' : List UInt8} {o : Ob} (h : readO s = (o, (l', false))) (hk : 1 ≤ o.kind ∧ o.kind ≤ 4) : s = bodyO o ++ l' ∧ OkO o := by
  have hz : OkD (0, 0) := ⟨⟨by decide, by decide⟩, by decide, by decide⟩
  unfold readO at h
  obtain ⟨k, l1, b1, hn⟩ : ∃ k l1 b1, rNum (s, false) = (k, (l1, b1)) := ⟨_, _, _, rfl⟩
  simp only [hn] at h
  by_cases h1 : k = 1 ∨ k = 4
  · rw [if_pos h1] at h
    obtain ⟨x, l2, b2, hx⟩ : ∃ x l2 b2, rStr (l1, b1) = (x, (l2, b2)) := ⟨_, _, _, rfl⟩
    simp only [hx, Prod.mk.injEq] at h
    obtain ⟨rfl, rfl, rfl⟩ := h
    obtain ⟨rfl, rfl, _⟩ := rStr_good hx
    obtain ⟨_, rfl, _, _⟩ := rNum_good hn
    refine ⟨?_, hz, by simp [obZ], by simp [obZ]⟩
    unfold bodyO
    simp only [obZ]
    rw [if_neg (by omega), if_neg (by omega), List.append_assoc]
  · rw [if_neg h1] at h
    by_cases h2 : k = 2
    · rw [if_pos h2] at h
      subst h2
      obtain ⟨xs, l2, b2, hx⟩ : ∃ xs l2 b2, rMany rEnt 200 (l1, b1) = (xs, (l2, b2)) := ⟨_, _, _, rfl⟩
      simp only [hx, Prod.mk.injEq] at h
      obtain ⟨rfl, rfl, rfl⟩ := h
      obtain ⟨rfl, rfl, _, ho⟩ := rMany_good (ok := fun e => OkD e.d) (fun h => rEnt_good h) hx
      obtain ⟨_, rfl, _, _⟩ := rNum_good hn
      refine ⟨?_, hz, by simp [obZ], ho⟩
      unfold bodyO
      simp [List.append_assoc]
    · rw [if_neg h2] at h
      by_cases h3 : k = 3
      · rw [if_pos h3] at h
        subst h3
        unfold readC at h
        obtain ⟨t, l2, b2, h2'⟩ : ∃ t l2 b2, rDig (l1, b1) = (t, (l2, b2)) := ⟨_, _, _, rfl⟩
        obtain ⟨ps, l3, b3, h3'⟩ : ∃ t l2' b2', rMany rDig 8 (l2, b2) = (t, (l2', b2')) := ⟨_, _, _, rfl⟩
        obtain ⟨au, l4, b4, h4'⟩ : ∃ t l2' b2', rStr (l3, b3) = (t, (l2', b2')) := ⟨_, _, _, rfl⟩
        obtain ⟨ti, l5, b5, h5'⟩ : ∃ t l2' b2', rNum (l4, b4) = (t, (l2', b2')) := ⟨_, _, _, rfl⟩
        obtain ⟨ms, l6, b6, h6'⟩ : ∃ t l2' b2', rStr (l5, b5) = (t, (l2', b2')) := ⟨_, _, _, rfl⟩
        simp only [h2', h3', h4', h5', h6', Prod.mk.injEq] at h
        obtain ⟨rfl, rfl, rfl⟩ := h
        obtain ⟨rfl, rfl, _⟩ := rStr_good h6'
        obtain ⟨rfl, rfl, _, _⟩ := rNum_good h5'
        obtain ⟨rfl, rfl, _⟩ := rStr_good h4'
        obtain ⟨rfl, rfl, _, ho⟩ := rMany_good (ok := OkD) (fun h => rDig_good h) h3'
        obtain ⟨rfl, rfl, hd⟩ := rDig_good h2'
        obtain ⟨_, rfl, _, _⟩ := rNum_good hn
        refine ⟨?_, hd, ho, by simp⟩
        unfold bodyO
        simp [List.append_assoc]
      · rw [if_neg h3] at h
        simp only [Prod.mk.injEq] at h
        obtain ⟨rfl, rfl, rfl⟩ := h
        simp only at hk
        omega

theorem hasC_false {o : Ob} (h : ¬ hasC o = true) : o.tree = (0, 0) ∧ o.pars = [] ∧ o.author = [] ∧ o.time = 0 ∧ o.msg = [] := by
  simp only [hasC, Bool.or_eq_true, Bool.not_eq_true', decide_eq_false_iff_not, decide_eq_true_eq, not_or, Classical.not_not] at h
  obtain ⟨⟨⟨⟨h1, h2⟩, h3⟩, h4⟩, h5⟩ := h
  exact ⟨h1, List.eq_nil_of_length_eq_zero (by omega), List.eq_nil_of_length_eq_zero (by omega), h4, List.eq_nil_of_length_eq_zero (by omega)⟩
theorem ne_if {a b : Int} {p : Prop} [Decidable p] (h : (if p then a else b) = 0) (ha : a ≠ 0) : ¬ p ∧ b = 0 := by
  split at h
  · exact absurd h ha
  · exact ⟨‹_›, h⟩
theorem commitE_parts {o : Ob} (h : commitE o = 0) : (o.pars.length : Int) ≤ 8 ∧ nameB o.author = true ∧ 0 ≤ o.time ∧ o.time ≤ 1099511627776 ∧ o.msg.length ≤ 200 ∧ o.tree ≠ (0, 0) ∧ parGo [] o.pars = 0 := by
  unfold commitE at h
  obtain ⟨h0, h⟩ := ne_if h (by decide)
  obtain ⟨h1, h⟩ := ne_if h (by decide)
  split at h
  · rename_i hp; exact absurd h hp
  · rename_i hp
    obtain ⟨h3, h⟩ := ne_if h (by decide)
    obtain ⟨h4, h⟩ := ne_if h (by decide)
    obtain ⟨h5, h⟩ := ne_if h (by decide)
    exact ⟨by omega, by simpa using h3, by omega, by omega, by omega, h0, by simpa using hp⟩
theorem checkS_one {o : Ob} (h : checkS o = 0) (hk : o.kind = 1 ∨ o.kind = 4) : o = { obZ with kind := o.kind, data := o.data } := by
  unfold checkS at h
  rw [if_pos hk] at h
  obtain ⟨h1, _⟩ := ne_if h (by decide)
  obtain ⟨ho, hc⟩ := not_or.1 h1
  obtain ⟨a, b, c, d, e⟩ := hasC_false hc
  have f : o.ents = [] := List.eq_nil_of_length_eq_zero (by omega)
  cases o
  simp only at a b c d e f
  subst a b c d e f
  rfl
theorem checkS_two {o : Ob} (h : checkS o = 0) (hk : o.kind = 2) : o = { obZ with kind := 2, ents := o.ents } ∧ entsE o.ents = 0 := by
  unfold checkS at h
  rw [if_neg (by omega), if_pos hk] at h
  obtain ⟨h1, h2⟩ := ne_if h (by decide)
  obtain ⟨ho, hc⟩ := not_or.1 h1
  obtain ⟨a, b, c, d, e⟩ := hasC_false hc
  have f : o.data = [] := List.eq_nil_of_length_eq_zero (by omega)
  cases o
  simp only at a b c d e f hk
  subst a b c d e f hk
  exact ⟨rfl, h2⟩
theorem checkS_three {o : Ob} (h : checkS o = 0) (hk : o.kind = 3) : o = ⟨3, [], [], o.tree, o.pars, o.author, o.time, o.msg⟩ ∧ commitE o = 0 := by
  unfold checkS at h
  rw [if_neg (by omega), if_neg (by omega), if_pos hk] at h
  obtain ⟨h1, h2⟩ := ne_if h (by decide)
  obtain ⟨ho, hc⟩ := not_or.1 h1
  have f : o.data = [] := List.eq_nil_of_length_eq_zero (by omega)
  have g : o.ents = [] := List.eq_nil_of_length_eq_zero (by omega)
  cases o
  simp only at f g hk
  subst f g hk
  exact ⟨rfl, h2⟩
theorem entsE_parts {l : List Ent} (h : entsE l = 0) : l.length ≤ 200 ∧ entGo none l = 0 := by
  unfold entsE at h
  obtain ⟨h1, h2⟩ := ne_if h (by decide)
  exact ⟨by omega, h2⟩
theorem readO_put {o : Ob} (h : checkS o = 0) (ho : OkO o) (hd : o.data.length ≤ 65536) (l : List UInt8) : readO (bodyO o ++ l) = (o, (l, false)) := by
  have hk := checkS_kind h
  unfold readO bodyO
  rw [List.append_assoc, rNum_enc (by omega)]
  have e : ((o.kind.toNat : Nat) : Int) = o.kind := by omega
  simp only [e]
  by_cases h1 : o.kind = 1 ∨ o.kind = 4
  · rw [if_pos h1, if_neg (by omega), if_neg (by omega), rStr_put hd]
    simp only
    rw [← checkS_one h h1]
  · rw [if_neg h1]
    by_cases h2 : o.kind = 2
    · rw [if_pos h2, if_pos h2, List.append_assoc]
      obtain ⟨he, hE⟩ := checkS_two h h2
      obtain ⟨hl, hg⟩ := entsE_parts hE
      rw [rMany_put o.ents l (by omega) (by omega) (fun x hx l' => rEnt_put (by have := nameB_length (entGo_name hg x hx); omega) (ho.2.2 x hx) l')]
      simp only
      rw [← he]
    · rw [if_neg h2, if_neg h2]
      have h3 : o.kind = 3 := by omega
      rw [if_pos h3, if_pos h3]
      obtain ⟨he, hE⟩ := checkS_three h h3
      obtain ⟨c1, c2, c3, c4, c5, _⟩ := commitE_parts hE
      have hn := nameB_length c2
      unfold readC
      simp only [List.append_assoc]
      rw [rDig_be ho.1]
      simp only
      rw [rMany_put o.pars _ c1 (by omega) (fun x hx l' => rDig_be (ho.2.1 x hx) l')]
      simp only
      rw [rStr_put (by omega)]
      simp only
      rw [rNum_enc (by omega)]
      simp only
      rw [rStr_put (by omega)]
      simp only
      rw [show ((o.time.toNat : Nat) : Int) = o.time by omega, ← he]

theorem encodeS_parts {o : Ob} {s : List UInt8} (h : encodeS o = (s, 0)) : checkS o = 0 ∧ s = bodyO o ∧ (bodyO o).length ≤ 65536 := by
  unfold encodeS at h
  split at h
  · rename_i hc
    simp only [Prod.mk.injEq] at h
    exact absurd h.2 hc
  · rename_i hc
    split at h
    · simp at h
    · simp only [Prod.mk.injEq, and_true] at h
      exact ⟨by simpa using hc, h.symm, by omega⟩
theorem encodeS_err {o : Ob} (h : (encodeS o).2 = 0) : encodeS o = (bodyO o, 0) := by
  have : encodeS o = ((encodeS o).1, 0) := by rw [← h]
  have h2 := encodeS_parts this
  rw [← h2.2.1]; exact this
theorem decode_good {s : List UInt8} {o : Ob} (h : decodeS s = (o, 0)) : encodeS o = (s, 0) ∧ OkO o := by
  unfold decodeS at h
  split at h
  · simp at h
  · rename_i hc
    simp only [not_or, Bool.not_eq_true, Classical.not_not, Prod.mk.injEq, and_true] at h hc
    obtain ⟨h1, h2, h3⟩ := hc
    have he := encodeS_err h3
    have hp := encodeS_parts he
    have hr : readO s = (o, ([], false)) := by
      rw [← h, ← h1, ← h2]
    rw [h] at he hp
    obtain ⟨hs, hk⟩ := readO_good hr (checkS_kind hp.1)
    rw [List.append_nil] at hs
    rw [hs]
    exact ⟨he, hk⟩
theorem body_data {o : Ob} (h : checkS o = 0) : o.data.length ≤ (bodyO o).length := by
  have hk := checkS_kind h
  by_cases h1 : o.kind = 1 ∨ o.kind = 4
  · unfold bodyO
    rw [if_neg (by omega), if_neg (by omega)]
    simp [putX]
    omega
  · by_cases h2 : o.kind = 2
    · rw [(checkS_two h h2).1]; simp [obZ]
    · rw [(checkS_three h (by omega)).1]; simp
theorem decode_put {s : List UInt8} {o : Ob} (h : encodeS o = (s, 0)) (ho : OkO o) : decodeS s = (o, 0) := by
  obtain ⟨h1, rfl, h3⟩ := encodeS_parts h
  have hr := readO_put h1 ho (by have := body_data h1; omega) []
  rw [List.append_nil] at hr
  unfold decodeS
  rw [hr]
  simp only
  rw [if_neg]
  simp [h]
theorem decode_cases (s : List UInt8) : decodeS s = (obZ, 13) ∨ ∃ o, decodeS s = (o, 0) := by
  unfold decodeS
  split
  · exact .inl rfl
  · exact .inr ⟨_, rfl⟩

end Go.Proofs.YtdedfkljaeloiaaGreatDoor

/- object.list at entries and at digests. -/
namespace Go.Proofs.YtdedfkljaeloiaaGreatDoor
open Go.RowKit Go.Shelf
set_option linter.unusedVariables false

theorem rDig_len (r : RS) : (rDig r).2.1.length ≤ r.1.length := by unfold rDig; split <;> simp
theorem rEnt_len (r : RS) : (rEnt r).2.1.length ≤ r.1.length := by
  unfold rEnt
  exact Nat.le_trans (rDig_len _) (Nat.le_trans (rNum_len _) (rStr_len _))
theorem rMost_len (m : Int) (r : RS) : (rMost m r).2.1.length ≤ r.1.length := rNum_len r
theorem rNum_range (r : RS) : 0 ≤ (rNum r).1 ∧ (rNum r).1 ≤ 1099511627776 := by
  obtain ⟨n, u, er, hg⟩ : ∃ n u er, Cw.getI r.1 = (n, u, er) := ⟨_, _, _, rfl⟩
  have := getI_all hg
  unfold rNum
  rw [hg]
  exact ⟨this.1, this.2.1⟩
def ecells (es : List Ent) : List Value := es.flatMap fun e => [.string ⟨e.name.toArray⟩, .bool e.dir, .int .u64 e.d.1, .int .u64 e.d.2]
theorem ecells_append (a b : List Ent) : ecells (a ++ b) = ecells a ++ ecells b := by simp [ecells]
theorem ecells_length (a : List Ent) : (ecells a).length = a.length * 4 := by
  induction a with
  | nil => rfl
  | cons x a ih => simp [ecells] at ih ⊢; omega
theorem ecells_at : ∀ (es : List Ent) (i : Nat) (h : i < es.length), (ecells es)[i * 4]? = some (.string ⟨es[i].name.toArray⟩) ∧ (ecells es)[i * 4 + 1]? = some (.bool es[i].dir) ∧ (ecells es)[i * 4 + 2]? = some (.int .u64 es[i].d.1) ∧ (ecells es)[i * 4 + 3]? = some (.int .u64 es[i].d.2)
  | [], i, h => by simp at h
  | d :: ds, 0, h => by simp [ecells]
  | d :: ds, i + 1, h => by
    have h' : i < ds.length := by simpa using h
    have e : ecells (d :: ds) = [.string ⟨d.name.toArray⟩, .bool d.dir, .int .u64 d.d.1, .int .u64 d.d.2] ++ ecells ds := by simp [ecells]
    have g : ∀ j, (ecells (d :: ds))[(i + 1) * 4 + j]? = (ecells ds)[i * 4 + j]? := fun j => by
      rw [e, List.getElem?_append_right (by simp; omega)]
      congr 1
      simp
      omega
    have := ecells_at ds i h'
    simp only [List.getElem_cons_succ]
    exact ⟨(g 0).trans this.1, (g 1).trans this.2.1, (g 2).trans this.2.2.1, (g 3).trans this.2.2.2⟩
theorem ownsRow_ents {w : World} {base : Nat} {a : Option Addr} {cap : Nat} {es : List Ent} (h : w.ownsRow base 111 4 (.slice a es.length cap) es.length (ecells es)) : Ents w.heap.size w a es := by
  intro i hi
  rcases h.2 with ⟨h1, h2⟩ | ⟨g, cap', cur, h1, _, hg, _⟩
  · omega
  · cases h1
    obtain ⟨c0, c1, c2, c3⟩ := ecells_at es i hi
    refine ⟨g, 0, rfl, (Array.getElem?_eq_some_iff.1 hg).1, ?_, ?_, ?_, ?_⟩
    · have := h.cells (g := g) rfl _ _ c0; rwa [Go.WideShapes.add_plain] at this
    · have := h.cells (g := g) rfl _ _ c1; rwa [Go.WideShapes.add_plain, ← Nat.add_assoc] at this
    · have := h.cells (g := g) rfl _ _ c2; rwa [Go.WideShapes.add_plain, ← Nat.add_assoc] at this
    · have := h.cells (g := g) rfl _ _ c3; rwa [Go.WideShapes.add_plain, ← Nat.add_assoc] at this
theorem infoEnt : (Tryz.prog.info? 111).map (fun i => (i.zero, i.size, i.bytes)) = some (some (.agg #[.string ⟨#[]⟩, .bool false, .int .u64 0, .int .u64 0]), 4, 40) := by kernel_rfl

/-- A list that was read. -/
def GotL (w : World) (b : Nat) (T : TypeId) (k n : Nat) (cells : List Value) (r : RS) (e : Ending) (w' : World) : Prop :=
  ∃ a c, e = .returned (.slice a n c) ∧ n ≤ c ∧ Hid (RD b r w') ∧ Hid (w'.ownsRow w.heap.size T k (.slice a n c) n cells) ∧ Hid (w.grownBy w' (some b))
theorem GotL.fin {α : Type} {w wr : World} {b : Nat} {T : TypeId} {k c : Nat} {a : Option Addr} {cells : List α → List Value} {R : List α × RS} {xs : List α} {q : RS} (hF : R = (xs, q)) (hc : xs.length ≤ c) (h1 : Hid (RD b q wr)) (h2 : Hid (wr.ownsRow w.heap.size T k (.slice a xs.length c) xs.length (cells xs))) (h3 : Hid (w.grownBy wr (some b))) : GotL w b T k R.1.length (cells R.1) R.2 (.returned (.slice a xs.length c)) wr := by
  subst hF; exact ⟨a, c, rfl, hc, h1, h2, h3⟩
def NM (q : Bool) (n most : Int) : Prop := q = true ∨ n ≤ most
/-- What is left to be read. -/
def LR {α : Type} (get : RS → α × RS) (R : List α × RS) (m : Nat) (xs : List α) (r : RS) : Prop := R = (xs ++ (rList get m r).1, (rList get m r).2)
theorem LR.start {α : Type} (get : RS → α × RS) (m : Nat) (r : RS) : LR get (rList get m r) m [] r := rfl
theorem LR.next {α : Type} {get : RS → α × RS} {R : List α × RS} {m : Nat} {xs : List α} {r : RS} (h : LR get R (m + 1) xs r) (hb : r.2 = false) : LR get R m (xs ++ [(get r).1]) (get r).2 := by
  unfold LR at h ⊢
  rw [h, rList, if_neg (by simp [hb])]
  simp
theorem LR.stop {α : Type} {get : RS → α × RS} {R : List α × RS} {m : Nat} {xs : List α} {r : RS} (h : LR get R m xs r) (hb : m = 0 ∨ r.2 = true) : R = (xs, r) := by
  unfold LR at h
  rcases hb with rfl | hb
  · simpa [rList] using h
  · cases m with
    | zero => simpa [rList] using h
    | succ m => rw [rList, if_pos hb] at h; simpa using h

set_option maxRecDepth 100000 in
set_option maxHeartbeats 2000000 in
theorem rlistE_any (b : Nat) (most : Int) (r : RS) (w : World) (h : RD b r w) (hl : (r.1.length : Int) ≤ 140737488355328) (hm0 : 0 ≤ most) (hm1 : most ≤ 1000) :
    Calls Tryz.prog 187 #[.pointer (some ⟨b, 0, none⟩), .int .i64 most, .func (.func 188) #[.pointer (some ⟨b, 0, none⟩)] #[]] w (GotL w b 111 4 (rMany rEnt most r).1.length (ecells (rMany rEnt most r).1) (rMany rEnt most r).2) := by
  have hl1 := rMost_len most r
  have hbw := h.lt
  obtain ⟨i0, hi, hz0, hz1, hz2⟩ := info_parts infoEnt
  have HZ0 := Lib.hid hz0
  have HZ1 := Lib.hid hz1
  have HZ2 := Lib.hid hz2
  clear hz0 hz1 hz2
  have HN := Lib.hid (rnumber_any b r w h hl)
  have hr := rNum_range r
  have HLR : Hid (LR rEnt (rMany rEnt most r) (rNum r).1.toNat [] ((rNum r).2.1, (rNum r).2.2 || decide (most < (rNum r).1))) := Lib.hid (LR.start _ _ _)
  have HG := Lib.hid (fun q W hW hq => rentry_any b q W hW hq)
  generalize rMany rEnt most r = R at HLR ⊢
  unfold rMost at hl1
  simp only at hl1
  generalize rNum r = s1 at HN HLR hl1 hr
  obtain ⟨n, l1, bad⟩ := s1
  simp only at HN HLR hl1 hr
  obtain ⟨hn0, hn1⟩ := hr
  obtain ⟨n, rfl⟩ : ∃ m : Nat, n = (m : Int) := ⟨n.toNat, by omega⟩
  rw [Int.toNat_natCast] at HLR
  clear h
  obtain ⟨q0, hq0⟩ : ∃ q, q = (bad || decide (most < (n : Int))) := ⟨_, rfl⟩
  have HNM : Hid (NM q0 n most) := Lib.hid (by
    rw [hq0]
    by_cases h : most < (n : Int)
    · left; simp [h]
    · right; omega)
  rw [← hq0] at HLR
  go_enter Tryz.func187, Tryz.ntmps187
  go_wp2_with fail
  have hx := HN.out
  (with_reducible refine hx.mono ?_)
  clear hx
  rintro e x1 ⟨rfl, HR1, HG1⟩
  have hb1 := HR1.out
  have c1 : x1.cell? ⟨b, 1, none⟩ = some (.bool bad) := by rw [Lib.cell_of_heap hb1]; rfl
  have f1 : x1.frozen? ⟨b, 1, none⟩ = false := Lib.frozen_of_heap hb1 1
  clear hb1
  have HR2 : Hid (RD b (l1, q0) (x1.setCell ⟨b, 1, none⟩ (.bool q0))) := Lib.hid (set_cells HR1.out 1 _)
  have HG2 : Hid (w.grownBy (x1.setCell ⟨b, 1, none⟩ (.bool q0)) (some b)) := Lib.hid (gown HG1.out _ _)
  have HQ := Lib.hid hq0
  clear hq0
  cases bad with
  | true =>
    obtain rfl : q0 = true := HQ.out
    clear HQ
    go_wp2_with fail
    go_loopw [8, 9] (fun v i wr => ∃ (m : Nat) (xs : List Ent) (q : RS) (k : Nat), i = .int .i64 k ∧ k + m = n ∧ k = xs.length ∧ (k : Int) ≤ 1000 ∧ (q.1.length : Int) ≤ 140737488355328 ∧ Hid (RD b q wr) ∧ Hid (wr.ownsRow w.heap.size 111 4 v xs.length (ecells xs)) ∧ Hid (w.grownBy wr (some b)) ∧ Hid (LR rEnt R m xs q) ∧ Hid (NM q.2 n most)) (fun _ i _ => n - (intOf i).toNat)
    case atStart => exact ⟨n, [], _, 0, rfl, by omega, rfl, by omega, by simp only; omega, HR2, Lib.hid (World.ownsRow_nil _ _ _ _), HG2, HLR, HNM⟩
    case round =>
      clear HR1 HR2 HG1 HG2 HLR HNM HN c1 f1
      obtain ⟨m, xs, ⟨l, bd⟩, k, rfl, hkm, hkx, hk1, hql, HR, HO, HGR, HL, HM⟩ := hrel
      simp only at hql HM
      have HKX := Lib.hid hkx
      have HKM := Lib.hid hkm
      have hkn : k ≤ n := by omega
      obtain ⟨hbl, hsz⟩ : b < wr.heap.size ∧ w.heap.size ≤ wr.heap.size := ⟨HR.out.lt, HGR.out.size⟩
      have hbb := HR.out
      have c1 : wr.cell? ⟨b, 1, none⟩ = some (.bool bd) := by rw [Lib.cell_of_heap hbb]; rfl
      obtain ⟨av, cv, rfl, hcap⟩ := ownsRow_sliceN HO.out
      clear hbb hkx hkm
      by_cases hlt : k < n
      · have d1 : decide ((k : Int) < (n : Int)) = true := by simp; omega
        have d2 : decide (k < n) = true := by simp; omega
        cases bd with
        | true =>
          have HF : Hid (R = (xs, (l, true))) := Lib.hid (HL.out.stop (.inr rfl))
          go_wp2_with fail
          go_ret
          exact GotL.fin HF.out hcap HR HO HGR
        | false =>
          have hnm : (n : Int) ≤ most := by
            rcases HM.out with h | h
            · cases h
            · exact h
          obtain ⟨m', rfl⟩ : ∃ m', m = m' + 1 := ⟨m - 1, by have := HKM.out; omega⟩
          have HL2 := Lib.hid (HL.out.next rfl)
          have HC := Lib.hid (HG.out (l, false) wr HR.out hql)
          have hql2 := rEnt_len (l, false)
          simp only at hql2
          generalize rEnt (l, false) = g1 at HL2 HC hql2
          obtain ⟨⟨nm, dir, d1', d2'⟩, q2⟩ := g1
          simp only at HL2 HC hql2
          clear HL
          go_wp2_with fail
          have hx := HC.out
          (with_reducible refine hx.mono ?_)
          clear hx HC
          rintro e x2 ⟨rfl, HR2, HG2⟩
          have HO2 := Lib.hid (HO.out.kept HG2.out (by
            by_cases hv : (Value.slice av xs.length cv).ownBlock = none
            · exact .inl hv
            · right
              intro hh
              have := HO.out.lt b hh
              omega))
          have hsz2 := HG2.out.size
          go_wp2_with (at_builtin; refine wpList_append_own _ rfl _ _ 97 rfl w.heap.size 111 i0 (.agg #[.string ⟨#[]⟩, .bool false, .int .u64 0, .int .u64 0]) 4 40 Tryz.underlying97 hi HZ0.out HZ1.out HZ2.out rfl (by decide) _ _ _ rfl (HO2.out.alloc _) ⟨x2.heap.size, 0, none⟩ 1 1 [.string ⟨nm.toArray⟩, .bool dir, .int .u64 d1', .int .u64 d2'] rfl rfl ?_ ?_ ?_ ?_ ?_ ?_)
          · exact World.news_of_block (heap_alloc_new x2 _)
          · intro u hu; simp at hu; rcases hu with rfl | rfl | rfl | rfl <;> rfl
          · unfold maxLen; have := HKX.out; omega
          · have := HKX.out; omega
          · simp; omega
          · intro v' x3 hown' hgrow' _
            have HO3 : Hid (x3.ownsRow w.heap.size 111 4 v' (xs ++ [(⟨nm, dir, (d1', d2')⟩ : Ent)]).length (ecells (xs ++ [(⟨nm, dir, (d1', d2')⟩ : Ent)]))) := Lib.hid (by rw [ecells_append, List.length_append]; exact hown')
            have hne : (Value.slice av xs.length cv).ownBlock ≠ some b := fun hh => by
              have := HO.out.lt b hh
              omega
            have HR3 : Hid (RD b q2 x3) := Lib.hid (((hgrow'.block b (by simp; omega) (fun e => hne e.symm)).trans (Below.heap_alloc _ _ _ (by omega))).trans HR2.out)
            have HG3 : Hid (w.grownBy x3 (some b)) := Lib.hid (by
              have a1 := gtrans HGR.out HG2.out
              have a2 := galloc a1 (.cells #[.string ⟨nm.toArray⟩, .bool dir, .int .u64 d1', .int .u64 d2'] 111)
              exact ⟨hgrow'.os.trans a2.os, hgrow'.tape.trans a2.tape, hgrow'.output.trans a2.output, Nat.le_trans a2.size hgrow'.size, fun j hj hr => (hgrow'.block j (by simp; omega) (fun e => by have := HO.out.lt j e.symm; omega)).trans (a2.block j hj hr)⟩)
            clear hown' hgrow' HO2 HR2 HG2 HGR HO HR
            go_wp2_with fail
            go_roundw
            case rel => exact ⟨m', xs ++ [(⟨nm, dir, (d1', d2')⟩ : Ent)], q2, k + 1, by go_num, by have := HKM.out; omega, by have := HKX.out; simp; omega, by omega, by omega, HR3, HO3, HG3, HL2, Lib.hid (.inr hnm)⟩
            case measure => simp [intOf]; omega
      · have d1 : decide ((k : Int) < (n : Int)) = false := by simp; omega
        have d2 : decide (k < n) = false := by simp; omega
        have HF : Hid (R = (xs, (l, bd))) := Lib.hid (HL.out.stop (.inl (by have := HKM.out; omega)))
        go_wp2_with fail
        go_ret
        exact GotL.fin HF.out hcap HR HO HGR
  | false =>
    obtain rfl : q0 = decide (most < (n : Int)) := by rw [HQ.out]; rfl
    clear HQ
    go_wp2_with fail
    go_loopw [8, 9] (fun v i wr => ∃ (m : Nat) (xs : List Ent) (q : RS) (k : Nat), i = .int .i64 k ∧ k + m = n ∧ k = xs.length ∧ (k : Int) ≤ 1000 ∧ (q.1.length : Int) ≤ 140737488355328 ∧ Hid (RD b q wr) ∧ Hid (wr.ownsRow w.heap.size 111 4 v xs.length (ecells xs)) ∧ Hid (w.grownBy wr (some b)) ∧ Hid (LR rEnt R m xs q) ∧ Hid (NM q.2 n most)) (fun _ i _ => n - (intOf i).toNat)
    case atStart => exact ⟨n, [], _, 0, rfl, by omega, rfl, by omega, by simp only; omega, HR2, Lib.hid (World.ownsRow_nil _ _ _ _), HG2, HLR, HNM⟩
    case round =>
      clear HR1 HR2 HG1 HG2 HLR HNM HN c1 f1
      obtain ⟨m, xs, ⟨l, bd⟩, k, rfl, hkm, hkx, hk1, hql, HR, HO, HGR, HL, HM⟩ := hrel
      simp only at hql HM
      have HKX := Lib.hid hkx
      have HKM := Lib.hid hkm
      have hkn : k ≤ n := by omega
      obtain ⟨hbl, hsz⟩ : b < wr.heap.size ∧ w.heap.size ≤ wr.heap.size := ⟨HR.out.lt, HGR.out.size⟩
      have hbb := HR.out
      have c1 : wr.cell? ⟨b, 1, none⟩ = some (.bool bd) := by rw [Lib.cell_of_heap hbb]; rfl
      obtain ⟨av, cv, rfl, hcap⟩ := ownsRow_sliceN HO.out
      clear hbb hkx hkm
      by_cases hlt : k < n
      · have d1 : decide ((k : Int) < (n : Int)) = true := by simp; omega
        have d2 : decide (k < n) = true := by simp; omega
        cases bd with
        | true =>
          have HF : Hid (R = (xs, (l, true))) := Lib.hid (HL.out.stop (.inr rfl))
          go_wp2_with fail
          go_ret
          exact GotL.fin HF.out hcap HR HO HGR
        | false =>
          have hnm : (n : Int) ≤ most := by
            rcases HM.out with h | h
            · cases h
            · exact h
          obtain ⟨m', rfl⟩ : ∃ m', m = m' + 1 := ⟨m - 1, by have := HKM.out; omega⟩
          have HL2 := Lib.hid (HL.out.next rfl)
          have HC := Lib.hid (HG.out (l, false) wr HR.out hql)
          have hql2 := rEnt_len (l, false)
          simp only at hql2
          generalize rEnt (l, false) = g1 at HL2 HC hql2
          obtain ⟨⟨nm, dir, d1', d2'⟩, q2⟩ := g1
          simp only at HL2 HC hql2
          clear HL
          go_wp2_with fail
          have hx := HC.out
          (with_reducible refine hx.mono ?_)
          clear hx HC
          rintro e x2 ⟨rfl, HR2, HG2⟩
          have HO2 := Lib.hid (HO.out.kept HG2.out (by
            by_cases hv : (Value.slice av xs.length cv).ownBlock = none
            · exact .inl hv
            · right
              intro hh
              have := HO.out.lt b hh
              omega))
          have hsz2 := HG2.out.size
          go_wp2_with (at_builtin; refine wpList_append_own _ rfl _ _ 97 rfl w.heap.size 111 i0 (.agg #[.string ⟨#[]⟩, .bool false, .int .u64 0, .int .u64 0]) 4 40 Tryz.underlying97 hi HZ0.out HZ1.out HZ2.out rfl (by decide) _ _ _ rfl (HO2.out.alloc _) ⟨x2.heap.size, 0, none⟩ 1 1 [.string ⟨nm.toArray⟩, .bool dir, .int .u64 d1', .int .u64 d2'] rfl rfl ?_ ?_ ?_ ?_ ?_ ?_)
          · exact World.news_of_block (heap_alloc_new x2 _)
          · intro u hu; simp at hu; rcases hu with rfl | rfl | rfl | rfl <;> rfl
          · unfold maxLen; have := HKX.out; omega
          · have := HKX.out; omega
          · simp; omega
          · intro v' x3 hown' hgrow' _
            have HO3 : Hid (x3.ownsRow w.heap.size 111 4 v' (xs ++ [(⟨nm, dir, (d1', d2')⟩ : Ent)]).length (ecells (xs ++ [(⟨nm, dir, (d1', d2')⟩ : Ent)]))) := Lib.hid (by rw [ecells_append, List.length_append]; exact hown')
            have hne : (Value.slice av xs.length cv).ownBlock ≠ some b := fun hh => by
              have := HO.out.lt b hh
              omega
            have HR3 : Hid (RD b q2 x3) := Lib.hid (((hgrow'.block b (by simp; omega) (fun e => hne e.symm)).trans (Below.heap_alloc _ _ _ (by omega))).trans HR2.out)
            have HG3 : Hid (w.grownBy x3 (some b)) := Lib.hid (by
              have a1 := gtrans HGR.out HG2.out
              have a2 := galloc a1 (.cells #[.string ⟨nm.toArray⟩, .bool dir, .int .u64 d1', .int .u64 d2'] 111)
              exact ⟨hgrow'.os.trans a2.os, hgrow'.tape.trans a2.tape, hgrow'.output.trans a2.output, Nat.le_trans a2.size hgrow'.size, fun j hj hr => (hgrow'.block j (by simp; omega) (fun e => by have := HO.out.lt j e.symm; omega)).trans (a2.block j hj hr)⟩)
            clear hown' hgrow' HO2 HR2 HG2 HGR HO HR
            go_wp2_with fail
            go_roundw
            case rel => exact ⟨m', xs ++ [(⟨nm, dir, (d1', d2')⟩ : Ent)], q2, k + 1, by go_num, by have := HKM.out; omega, by have := HKX.out; simp; omega, by omega, by omega, HR3, HO3, HG3, HL2, Lib.hid (.inr hnm)⟩
            case measure => simp [intOf]; omega
      · have d1 : decide ((k : Int) < (n : Int)) = false := by simp; omega
        have d2 : decide (k < n) = false := by simp; omega
        have HF : Hid (R = (xs, (l, bd))) := Lib.hid (HL.out.stop (.inl (by have := HKM.out; omega)))
        go_wp2_with fail
        go_ret
        exact GotL.fin HF.out hcap HR HO HGR

set_option maxRecDepth 100000 in
set_option maxHeartbeats 2000000 in
theorem rlistD_any (b : Nat) (most : Int) (r : RS) (w : World) (h : RD b r w) (hl : (r.1.length : Int) ≤ 140737488355328) (hm0 : 0 ≤ most) (hm1 : most ≤ 1000) :
    Calls Tryz.prog 190 #[.pointer (some ⟨b, 0, none⟩), .int .i64 most, .func (.func 189) #[.pointer (some ⟨b, 0, none⟩)] #[]] w (GotL w b 35 2 (rMany rDig most r).1.length (dcells (rMany rDig most r).1) (rMany rDig most r).2) := by
  have hl1 := rMost_len most r
  have hbw := h.lt
  obtain ⟨i0, hi, hz0, hz1, hz2⟩ := info_parts infoDig
  have HZ0 := Lib.hid hz0
  have HZ1 := Lib.hid hz1
  have HZ2 := Lib.hid hz2
  clear hz0 hz1 hz2
  have HN := Lib.hid (rnumber_any b r w h hl)
  have hr := rNum_range r
  have HLR : Hid (LR rDig (rMany rDig most r) (rNum r).1.toNat [] ((rNum r).2.1, (rNum r).2.2 || decide (most < (rNum r).1))) := Lib.hid (LR.start _ _ _)
  have HG := Lib.hid (fun q W hW hq => rdigest_any b q W hW hq)
  generalize rMany rDig most r = R at HLR ⊢
  unfold rMost at hl1
  simp only at hl1
  generalize rNum r = s1 at HN HLR hl1 hr
  obtain ⟨n, l1, bad⟩ := s1
  simp only at HN HLR hl1 hr
  obtain ⟨hn0, hn1⟩ := hr
  obtain ⟨n, rfl⟩ : ∃ m : Nat, n = (m : Int) := ⟨n.toNat, by omega⟩
  rw [Int.toNat_natCast] at HLR
  clear h
  obtain ⟨q0, hq0⟩ : ∃ q, q = (bad || decide (most < (n : Int))) := ⟨_, rfl⟩
  have HNM : Hid (NM q0 n most) := Lib.hid (by
    rw [hq0]
    by_cases h : most < (n : Int)
    · left; simp [h]
    · right; omega)
  rw [← hq0] at HLR
  go_enter Tryz.func190, Tryz.ntmps190
  go_wp2_with fail
  have hx := HN.out
  (with_reducible refine hx.mono ?_)
  clear hx
  rintro e x1 ⟨rfl, HR1, HG1⟩
  have hb1 := HR1.out
  have c1 : x1.cell? ⟨b, 1, none⟩ = some (.bool bad) := by rw [Lib.cell_of_heap hb1]; rfl
  have f1 : x1.frozen? ⟨b, 1, none⟩ = false := Lib.frozen_of_heap hb1 1
  clear hb1
  have HR2 : Hid (RD b (l1, q0) (x1.setCell ⟨b, 1, none⟩ (.bool q0))) := Lib.hid (set_cells HR1.out 1 _)
  have HG2 : Hid (w.grownBy (x1.setCell ⟨b, 1, none⟩ (.bool q0)) (some b)) := Lib.hid (gown HG1.out _ _)
  have HQ := Lib.hid hq0
  clear hq0
  cases bad with
  | true =>
    obtain rfl : q0 = true := HQ.out
    clear HQ
    go_wp2_with fail
    go_loopw [8, 9] (fun v i wr => ∃ (m : Nat) (xs : List (Int × Int)) (q : RS) (k : Nat), i = .int .i64 k ∧ k + m = n ∧ k = xs.length ∧ (k : Int) ≤ 1000 ∧ (q.1.length : Int) ≤ 140737488355328 ∧ Hid (RD b q wr) ∧ Hid (wr.ownsRow w.heap.size 35 2 v xs.length (dcells xs)) ∧ Hid (w.grownBy wr (some b)) ∧ Hid (LR rDig R m xs q) ∧ Hid (NM q.2 n most)) (fun _ i _ => n - (intOf i).toNat)
    case atStart => exact ⟨n, [], _, 0, rfl, by omega, rfl, by omega, by simp only; omega, HR2, Lib.hid (World.ownsRow_nil _ _ _ _), HG2, HLR, HNM⟩
    case round =>
      clear HR1 HR2 HG1 HG2 HLR HNM HN c1 f1
      obtain ⟨m, xs, ⟨l, bd⟩, k, rfl, hkm, hkx, hk1, hql, HR, HO, HGR, HL, HM⟩ := hrel
      simp only at hql HM
      have HKX := Lib.hid hkx
      have HKM := Lib.hid hkm
      have hkn : k ≤ n := by omega
      obtain ⟨hbl, hsz⟩ : b < wr.heap.size ∧ w.heap.size ≤ wr.heap.size := ⟨HR.out.lt, HGR.out.size⟩
      have hbb := HR.out
      have c1 : wr.cell? ⟨b, 1, none⟩ = some (.bool bd) := by rw [Lib.cell_of_heap hbb]; rfl
      obtain ⟨av, cv, rfl, hcap⟩ := ownsRow_sliceN HO.out
      clear hbb hkx hkm
      by_cases hlt : k < n
      · have d1 : decide ((k : Int) < (n : Int)) = true := by simp; omega
        have d2 : decide (k < n) = true := by simp; omega
        cases bd with
        | true =>
          have HF : Hid (R = (xs, (l, true))) := Lib.hid (HL.out.stop (.inr rfl))
          go_wp2_with fail
          go_ret
          exact GotL.fin HF.out hcap HR HO HGR
        | false =>
          have hnm : (n : Int) ≤ most := by
            rcases HM.out with h | h
            · cases h
            · exact h
          obtain ⟨m', rfl⟩ : ∃ m', m = m' + 1 := ⟨m - 1, by have := HKM.out; omega⟩
          have HL2 := Lib.hid (HL.out.next rfl)
          have HC := Lib.hid (HG.out (l, false) wr HR.out hql)
          have hql2 := rDig_len (l, false)
          simp only at hql2
          generalize rDig (l, false) = g1 at HL2 HC hql2
          obtain ⟨⟨d1', d2'⟩, q2⟩ := g1
          simp only at HL2 HC hql2
          clear HL
          go_wp2_with fail
          have hx := HC.out
          (with_reducible refine hx.mono ?_)
          clear hx HC
          rintro e x2 ⟨rfl, HR2, HG2⟩
          have HO2 := Lib.hid (HO.out.kept HG2.out (by
            by_cases hv : (Value.slice av xs.length cv).ownBlock = none
            · exact .inl hv
            · right
              intro hh
              have := HO.out.lt b hh
              omega))
          have hsz2 := HG2.out.size
          go_wp2_with (at_builtin; refine wpList_append_own _ rfl _ _ 98 rfl w.heap.size 35 i0 (.agg #[.int .u64 0, .int .u64 0]) 2 16 Tryz.underlying98 hi HZ0.out HZ1.out HZ2.out rfl (by decide) _ _ _ rfl (HO2.out.alloc _) ⟨x2.heap.size, 0, none⟩ 1 1 [.int .u64 d1', .int .u64 d2'] rfl rfl ?_ ?_ ?_ ?_ ?_ ?_)
          · exact World.news_of_block (heap_alloc_new x2 _)
          · intro u hu; simp at hu; rcases hu with rfl | rfl <;> rfl
          · unfold maxLen; have := HKX.out; omega
          · have := HKX.out; omega
          · simp; omega
          · intro v' x3 hown' hgrow' _
            have HO3 : Hid (x3.ownsRow w.heap.size 35 2 v' (xs ++ [(d1', d2')]).length (dcells (xs ++ [(d1', d2')]))) := Lib.hid (by rw [dcells_append, List.length_append]; exact hown')
            have hne : (Value.slice av xs.length cv).ownBlock ≠ some b := fun hh => by
              have := HO.out.lt b hh
              omega
            have HR3 : Hid (RD b q2 x3) := Lib.hid (((hgrow'.block b (by simp; omega) (fun e => hne e.symm)).trans (Below.heap_alloc _ _ _ (by omega))).trans HR2.out)
            have HG3 : Hid (w.grownBy x3 (some b)) := Lib.hid (by
              have a1 := gtrans HGR.out HG2.out
              have a2 := galloc a1 (.cells #[.int .u64 d1', .int .u64 d2'] 35)
              exact ⟨hgrow'.os.trans a2.os, hgrow'.tape.trans a2.tape, hgrow'.output.trans a2.output, Nat.le_trans a2.size hgrow'.size, fun j hj hr => (hgrow'.block j (by simp; omega) (fun e => by have := HO.out.lt j e.symm; omega)).trans (a2.block j hj hr)⟩)
            clear hown' hgrow' HO2 HR2 HG2 HGR HO HR
            go_wp2_with fail
            go_roundw
            case rel => exact ⟨m', xs ++ [(d1', d2')], q2, k + 1, by go_num, by have := HKM.out; omega, by have := HKX.out; simp; omega, by omega, by omega, HR3, HO3, HG3, HL2, Lib.hid (.inr hnm)⟩
            case measure => simp [intOf]; omega
      · have d1 : decide ((k : Int) < (n : Int)) = false := by simp; omega
        have d2 : decide (k < n) = false := by simp; omega
        have HF : Hid (R = (xs, (l, bd))) := Lib.hid (HL.out.stop (.inl (by have := HKM.out; omega)))
        go_wp2_with fail
        go_ret
        exact GotL.fin HF.out hcap HR HO HGR
  | false =>
    obtain rfl : q0 = decide (most < (n : Int)) := by rw [HQ.out]; rfl
    clear HQ
    go_wp2_with fail
    go_loopw [8, 9] (fun v i wr => ∃ (m : Nat) (xs : List (Int × Int)) (q : RS) (k : Nat), i = .int .i64 k ∧ k + m = n ∧ k = xs.length ∧ (k : Int) ≤ 1000 ∧ (q.1.length : Int) ≤ 140737488355328 ∧ Hid (RD b q wr) ∧ Hid (wr.ownsRow w.heap.size 35 2 v xs.length (dcells xs)) ∧ Hid (w.grownBy wr (some b)) ∧ Hid (LR rDig R m xs q) ∧ Hid (NM q.2 n most)) (fun _ i _ => n - (intOf i).toNat)
    case atStart => exact ⟨n, [], _, 0, rfl, by omega, rfl, by omega, by simp only; omega, HR2, Lib.hid (World.ownsRow_nil _ _ _ _), HG2, HLR, HNM⟩
    case round =>
      clear HR1 HR2 HG1 HG2 HLR HNM HN c1 f1
      obtain ⟨m, xs, ⟨l, bd⟩, k, rfl, hkm, hkx, hk1, hql, HR, HO, HGR, HL, HM⟩ := hrel
      simp only at hql HM
      have HKX := Lib.hid hkx
      have HKM := Lib.hid hkm
      have hkn : k ≤ n := by omega
      obtain ⟨hbl, hsz⟩ : b < wr.heap.size ∧ w.heap.size ≤ wr.heap.size := ⟨HR.out.lt, HGR.out.size⟩
      have hbb := HR.out
      have c1 : wr.cell? ⟨b, 1, none⟩ = some (.bool bd) := by rw [Lib.cell_of_heap hbb]; rfl
      obtain ⟨av, cv, rfl, hcap⟩ := ownsRow_sliceN HO.out
      clear hbb hkx hkm
      by_cases hlt : k < n
      · have d1 : decide ((k : Int) < (n : Int)) = true := by simp; omega
        have d2 : decide (k < n) = true := by simp; omega
        cases bd with
        | true =>
          have HF : Hid (R = (xs, (l, true))) := Lib.hid (HL.out.stop (.inr rfl))
          go_wp2_with fail
          go_ret
          exact GotL.fin HF.out hcap HR HO HGR
        | false =>
          have hnm : (n : Int) ≤ most := by
            rcases HM.out with h | h
            · cases h
            · exact h
          obtain ⟨m', rfl⟩ : ∃ m', m = m' + 1 := ⟨m - 1, by have := HKM.out; omega⟩
          have HL2 := Lib.hid (HL.out.next rfl)
          have HC := Lib.hid (HG.out (l, false) wr HR.out hql)
          have hql2 := rDig_len (l, false)
          simp only at hql2
          generalize rDig (l, false) = g1 at HL2 HC hql2
          obtain ⟨⟨d1', d2'⟩, q2⟩ := g1
          simp only at HL2 HC hql2
          clear HL
          go_wp2_with fail
          have hx := HC.out
          (with_reducible refine hx.mono ?_)
          clear hx HC
          rintro e x2 ⟨rfl, HR2, HG2⟩
          have HO2 := Lib.hid (HO.out.kept HG2.out (by
            by_cases hv : (Value.slice av xs.length cv).ownBlock = none
            · exact .inl hv
            · right
              intro hh
              have := HO.out.lt b hh
              omega))
          have hsz2 := HG2.out.size
          go_wp2_with (at_builtin; refine wpList_append_own _ rfl _ _ 98 rfl w.heap.size 35 i0 (.agg #[.int .u64 0, .int .u64 0]) 2 16 Tryz.underlying98 hi HZ0.out HZ1.out HZ2.out rfl (by decide) _ _ _ rfl (HO2.out.alloc _) ⟨x2.heap.size, 0, none⟩ 1 1 [.int .u64 d1', .int .u64 d2'] rfl rfl ?_ ?_ ?_ ?_ ?_ ?_)
          · exact World.news_of_block (heap_alloc_new x2 _)
          · intro u hu; simp at hu; rcases hu with rfl | rfl <;> rfl
          · unfold maxLen; have := HKX.out; omega
          · have := HKX.out; omega
          · simp; omega
          · intro v' x3 hown' hgrow' _
            have HO3 : Hid (x3.ownsRow w.heap.size 35 2 v' (xs ++ [(d1', d2')]).length (dcells (xs ++ [(d1', d2')]))) := Lib.hid (by rw [dcells_append, List.length_append]; exact hown')
            have hne : (Value.slice av xs.length cv).ownBlock ≠ some b := fun hh => by
              have := HO.out.lt b hh
              omega
            have HR3 : Hid (RD b q2 x3) := Lib.hid (((hgrow'.block b (by simp; omega) (fun e => hne e.symm)).trans (Below.heap_alloc _ _ _ (by omega))).trans HR2.out)
            have HG3 : Hid (w.grownBy x3 (some b)) := Lib.hid (by
              have a1 := gtrans HGR.out HG2.out
              have a2 := galloc a1 (.cells #[.int .u64 d1', .int .u64 d2'] 35)
              exact ⟨hgrow'.os.trans a2.os, hgrow'.tape.trans a2.tape, hgrow'.output.trans a2.output, Nat.le_trans a2.size hgrow'.size, fun j hj hr => (hgrow'.block j (by simp; omega) (fun e => by have := HO.out.lt j e.symm; omega)).trans (a2.block j hj hr)⟩)
            clear hown' hgrow' HO2 HR2 HG2 HGR HO HR
            go_wp2_with fail
            go_roundw
            case rel => exact ⟨m', xs ++ [(d1', d2')], q2, k + 1, by go_num, by have := HKM.out; omega, by have := HKX.out; simp; omega, by omega, by omega, HR3, HO3, HG3, HL2, Lib.hid (.inr hnm)⟩
            case measure => simp [intOf]; omega
      · have d1 : decide ((k : Int) < (n : Int)) = false := by simp; omega
        have d2 : decide (k < n) = false := by simp; omega
        have HF : Hid (R = (xs, (l, bd))) := Lib.hid (HL.out.stop (.inl (by have := HKM.out; omega)))
        go_wp2_with fail
        go_ret
        exact GotL.fin HF.out hcap HR HO HGR

end Go.Proofs.YtdedfkljaeloiaaGreatDoor

/- object.Check, object.Name. -/
namespace Go.Proofs.YtdedfkljaeloiaaGreatDoor
open Go.RowKit Go.Shelf
set_option linter.unusedVariables false

set_option maxRecDepth 100000 in
set_option maxHeartbeats 1000000 in
theorem ocheck_any (o : Ob) (ea : Option Addr) (ec : Nat) (pa : Option Addr) (pc : Nat) (w : World) (h : ObIn w o ea ec pa pc) :
    Calls Tryz.prog 46 #[o.val ea ec pa pc] w fun e w' => e = .returned (.int .i64 (encodeS o).2) ∧ Below w.heap.size w w' := by
  have HE := Lib.hid (fun W (hW : Below w.heap.size w W) => encode_any o ea ec pa pc W (h.below hW))
  generalize encodeS o = r at HE ⊢
  obtain ⟨T, er⟩ := r
  simp only at HE ⊢
  obtain ⟨kind, data, ents, ⟨t1, t2⟩, pars, author, time, msg⟩ := o
  simp only [Ob.val] at HE ⊢
  clear h
  generalize ents.length = ne at HE ⊢
  generalize pars.length = np at HE ⊢
  go_enter Tryz.func46, Tryz.ntmps46
  go_wp2_with fail
  have hx := HE.out _ ((Below.refl _ w).alloc (Nat.le_refl _) (.cells #[.int .i64 kind, .string ⟨data.toArray⟩, .slice ea ne ec, .int .u64 t1, .int .u64 t2, .slice pa np pc, .string ⟨author.toArray⟩, .int .i64 time, .string ⟨msg.toArray⟩] 100))
  (with_reducible refine hx.mono ?_)
  clear hx HE
  rintro e w1 ⟨rfl, hb⟩
  have HB := Lib.hid hb
  clear hb
  go_wp2_with fail
  go_ret
  exact ⟨rfl, ((Below.refl _ w).alloc (Nat.le_refl _) _).trans (HB.out.mono (by simp))⟩

/-- The digest of an object, and its error. -/
def nameS (o : Ob) : (Int × Int) × Int := if (encodeS o).2 ≠ 0 then ((0, 0), (encodeS o).2) else (digS (encodeS o).1, 0)
end Go.Proofs.YtdedfkljaeloiaaGreatDoor

/- object.Decode. -/
namespace Go.Proofs.YtdedfkljaeloiaaGreatDoor
open Go.RowKit Go.Shelf
set_option linter.unusedVariables false

theorem rStr_le (r : RS) : (rStr r).1.length ≤ 65536 := by
  obtain ⟨n, u, er, hg⟩ : ∃ n u er, Cw.getT r.1 = (n, u, er) := ⟨_, _, _, rfl⟩
  have := getT_all hg
  unfold rStr
  rw [hg]
  exact this.2.2
theorem rDig_nn (r : RS) : 0 ≤ (rDig r).1.1 ∧ 0 ≤ (rDig r).1.2 := by
  unfold rDig
  split
  · simp
  · exact ⟨(fixS_range _ (by rw [List.length_take]; omega)).1, (fixS_range _ (by rw [List.length_take]; omega)).1⟩
theorem rList_all {α : Type} {get : RS → α × RS} {P : α → Prop} (h : ∀ r, P (get r).1) : ∀ (n : Nat) (r : RS), (rList get n r).1.length ≤ n ∧ ∀ x ∈ (rList get n r).1, P x
  | 0, r => by simp [rList]
  | n + 1, r => by
    rw [rList]
    split
    · simp
    · have := rList_all h n (get r).2
      refine ⟨by simp only [List.length_cons]; omega, fun x hx => ?_⟩
      rcases List.mem_cons.1 hx with rfl | hx
      · exact h r
      · exact this.2 x hx
theorem rMany_all {α : Type} {get : RS → α × RS} {P : α → Prop} (h : ∀ r, P (get r).1) (most : Int) (hm : 0 ≤ most) (r : RS) : ((rMany get most r).1.length : Int) ≤ most ∧ ∀ x ∈ (rMany get most r).1, P x := by
  unfold rMany
  refine ⟨?_, (rList_all h _ _).2⟩
  have h1 := (rList_all h (rMost most r).1.toNat (rMost most r).2).1
  by_cases hb : (rMost most r).2.2 = true
  · cases hn : (rMost most r).1.toNat with
    | zero => simp [rList]; exact hm
    | succ n => rw [rList, if_pos hb]; simpa using hm
  · have : ¬ most < (rMost most r).1 := by
      intro h
      apply hb
      unfold rMost at h ⊢
      simp only at h ⊢
      simp [h]
    omega
/-- The bounds of an object that was read. -/
structure ObB (o : Ob) : Prop where
  elen : (o.ents.length : Int) ≤ 1000
  enam : ∀ e ∈ o.ents, (e.name.length : Int) ≤ 65536
  edig : ∀ e ∈ o.ents, 0 ≤ e.d.1 ∧ 0 ≤ e.d.2
  plen : (o.pars.length : Int) ≤ 1000
  pdig : ∀ d ∈ o.pars, 0 ≤ d.1 ∧ 0 ≤ d.2
  tdig : 0 ≤ o.tree.1 ∧ 0 ≤ o.tree.2
  dlen : o.data.length ≤ 65536
  alen : (o.author.length : Int) ≤ 65536
  mlen : (o.msg.length : Int) ≤ 65536
theorem readO_b (s : List UInt8) : ObB (readO s).1 := by
  unfold readO
  split
  · exact ⟨by simp [obZ], by simp [obZ], by simp [obZ], by simp [obZ], by simp [obZ], by simp [obZ], rStr_le _, by simp [obZ], by simp [obZ]⟩
  · split
    · have h := rMany_all (get := rEnt) (P := fun e => (e.name.length : Int) ≤ 65536 ∧ 0 ≤ e.d.1 ∧ 0 ≤ e.d.2) (fun r => ⟨by have := rStr_le r; unfold rEnt; simp only; omega, rDig_nn _⟩) 200 (by omega) (rNum (s, false)).2
      exact ⟨by simp only; omega, fun e he => (h.2 e he).1, fun e he => (h.2 e he).2, by simp [obZ], by simp [obZ], by simp [obZ], by simp [obZ], by simp [obZ], by simp [obZ]⟩
    · split
      · unfold readC
        have h := rMany_all (get := rDig) (P := fun d => 0 ≤ d.1 ∧ 0 ≤ d.2) rDig_nn 8 (by omega) (rDig (rNum (s, false)).2).2
        refine ⟨by simp, by simp, by simp, by simp only; omega, h.2, rDig_nn _, by simp, ?_, ?_⟩
        · exact Int.ofNat_le.2 (rStr_le _)
        · exact Int.ofNat_le.2 (rStr_le _)
      · exact ⟨by simp [obZ], by simp [obZ], by simp [obZ], by simp [obZ], by simp [obZ], by simp [obZ], by simp [obZ], by simp [obZ], by simp [obZ]⟩
theorem ObB.inW {o : Ob} (h : ObB o) {W : World} {ea : Option Addr} {ec : Nat} {pa : Option Addr} {pc : Nat} (h1 : Ents W.heap.size W ea o.ents) (h2 : Digs W.heap.size W pa o.pars) (h3 : o.pars.length ≤ pc) : ObIn W o ea ec pa pc :=
  ⟨h1, h2, h3, by have := h.elen; omega, fun e he => by have := h.enam e he; omega, h.edig, by have := h.plen; omega, h.pdig, h.tdig, by have := h.dlen; omega, by have := h.alen; omega, by have := h.mlen; omega⟩
theorem obB_obZ : ObB obZ := ⟨by simp [obZ], by simp [obZ], by simp [obZ], by simp [obZ], by simp [obZ], by simp [obZ], by simp [obZ], by simp [obZ], by simp [obZ]⟩

abbrev Ob.arr (o : Ob) (ea : Option Addr) (ec : Nat) (pa : Option Addr) (pc : Nat) : Array Value :=
  #[.int .i64 o.kind, .string ⟨o.data.toArray⟩, .slice ea o.ents.length ec, .int .u64 o.tree.1, .int .u64 o.tree.2, .slice pa o.pars.length pc, .string ⟨o.author.toArray⟩, .int .i64 o.time, .string ⟨o.msg.toArray⟩]
/-- A block of cells. -/
def BK (b : Nat) (cs : Array Value) (t : TypeId) (W : World) : Prop := W.heap[b]? = some (.cells cs t (0, 0))
theorem BK.lt {b : Nat} {cs : Array Value} {t : TypeId} {W : World} (h : BK b cs t W) : b < W.heap.size := (Array.getElem?_eq_some_iff.1 h).1
theorem BK.grow {b : Nat} {cs : Array Value} {t : TypeId} {W W' : World} {r : Option Nat} (h : BK b cs t W) (hg : W.grownBy W' r) (hr : ∀ k, r = some k → k ≠ b) : BK b cs t W' := (hg.block b h.lt (fun e => hr b e.symm rfl)).trans h
theorem BK.grow1 {b c : Nat} {cs : Array Value} {t : TypeId} {W W' : World} (h : BK b cs t W) (hg : W.grownBy W' (some c)) (hr : c ≠ b) : BK b cs t W' := h.grow hg (fun k e => by cases e; exact hr)
theorem BK.below {b : Nat} {cs : Array Value} {t : TypeId} {W W' : World} (h : BK b cs t W) (hg : Below W.heap.size W W') : BK b cs t W' := (hg.block b h.lt).trans h
theorem BK.set {b : Nat} {cs : Array Value} {t : TypeId} {W : World} (h : BK b cs t W) (j : Nat) (v : Value) : BK b (cs.setIfInBounds j v) t (W.setCell ⟨b, j, none⟩ v) := set_cells h j v
theorem BK.other {b : Nat} {cs : Array Value} {t : TypeId} {W : World} (h : BK b cs t W) {c : Nat} (hc : c ≠ b) (j : Nat) (v : Value) : BK b cs t (W.setCell ⟨c, j, none⟩ v) := (Below.heap_setCell _ _ _ _ (by simp; omega)).trans h
theorem BK.alloc {b : Nat} {cs : Array Value} {t : TypeId} {W : World} (h : BK b cs t W) (o : Obj) : BK b cs t (W.alloc o) := (Below.heap_alloc _ _ _ h.lt).trans h
theorem BK.new (W : World) (cs : Array Value) (t : TypeId) : BK W.heap.size cs t (W.alloc (.cells cs t)) := World.alloc_heap_new _ _
theorem BK.new2 (W : World) (o : Obj) (cs : Array Value) (t : TypeId) : BK (W.heap.size + 1) cs t ((W.alloc o).alloc (.cells cs t)) := by
  have := BK.new (W.alloc o) cs t
  rwa [show (W.alloc o).heap.size = W.heap.size + 1 by simp] at this
theorem BK.cell {b : Nat} {cs : Array Value} {t : TypeId} {W : World} (h : BK b cs t W) (j : Nat) : W.cell? ⟨b, j, none⟩ = cs[j]? := Lib.cell_of_heap h j
theorem BK.frozen {b : Nat} {cs : Array Value} {t : TypeId} {W : World} (h : BK b cs t W) (j : Nat) : W.frozen? ⟨b, j, none⟩ = false := Lib.frozen_of_heap h j
theorem own_digs {W : World} {base : Nat} {a : Option Addr} {n c : Nat} {ds : List (Int × Int)} (hn : n = ds.length) (h : W.ownsRow base 35 2 (.slice a n c) n (dcells ds)) : Digs W.heap.size W a ds := by subst hn; exact ownsRow_digs h
/-- A row that lies in none of these blocks. -/
theorem own_kept {W W' : World} {base : Nat} {e : TypeId} {z : Nat} {v : Value} {n : Nat} {xs : List Value} {b : Nat} (h : W.ownsRow base e z v n xs) (hg : W.grownBy W' (some b)) (hb : b < base) : W'.ownsRow base e z v n xs :=
  h.kept hg (by
    by_cases hv : v.ownBlock = none
    · exact .inl hv
    · right
      intro hh
      have := h.lt b hh
      omega)
/-- An object whose lists lie from block base on. -/
structure ObOwn (base : Nat) (W : World) (o : Ob) (ea : Option Addr) (ec : Nat) (pa : Option Addr) (pc : Nat) : Prop where
  bb : ObB o
  eo : W.ownsRow base 111 4 (.slice ea o.ents.length ec) o.ents.length (ecells o.ents)
  po : W.ownsRow base 35 2 (.slice pa o.pars.length pc) o.pars.length (dcells o.pars)
theorem own_cap {W : World} {base : Nat} {e : TypeId} {z : Nat} {a : Option Addr} {n c : Nat} {xs : List Value} (h : W.ownsRow base e z (.slice a n c) n xs) : n ≤ c := by
  obtain ⟨a', c', h1, h2⟩ := ownsRow_sliceN h
  cases h1; exact h2
theorem own_le {W : World} {base base' : Nat} {e : TypeId} {z : Nat} {v : Value} {n : Nat} {xs : List Value} (h : W.ownsRow base e z v n xs) (hb : base' ≤ base) : W.ownsRow base' e z v n xs := by
  refine ⟨h.1, ?_⟩
  rcases h.2 with h1 | ⟨g, cap, cur, h1, h2, h3⟩
  · exact .inl h1
  · exact .inr ⟨g, cap, cur, h1, by omega, h3⟩
theorem own_below {W W' : World} {base : Nat} {e : TypeId} {z : Nat} {v : Value} {n : Nat} {xs : List Value} (h : W.ownsRow base e z v n xs) (hb : Below W.heap.size W W') : W'.ownsRow base e z v n xs := by
  refine ⟨h.1, ?_⟩
  rcases h.2 with h1 | ⟨g, cap, cur, h1, h2, h3, h4⟩
  · exact .inl h1
  · exact .inr ⟨g, cap, cur, h1, h2, (hb.block g (Array.getElem?_eq_some_iff.1 h3).1).trans h3, h4⟩
theorem ObOwn.inn {base : Nat} {W : World} {o : Ob} {ea : Option Addr} {ec : Nat} {pa : Option Addr} {pc : Nat} (h : ObOwn base W o ea ec pa pc) : ObIn W o ea ec pa pc := h.bb.inW (ownsRow_ents h.eo) (ownsRow_digs h.po) (own_cap h.po)
theorem ObOwn.below {base : Nat} {W W' : World} {o : Ob} {ea : Option Addr} {ec : Nat} {pa : Option Addr} {pc : Nat} (h : ObOwn base W o ea ec pa pc) (hb : Below W.heap.size W W') : ObOwn base W' o ea ec pa pc := ⟨h.bb, own_below h.eo hb, own_below h.po hb⟩
theorem ObOwn.kept {base : Nat} {W W' : World} {o : Ob} {ea : Option Addr} {ec : Nat} {pa : Option Addr} {pc b : Nat} (h : ObOwn base W o ea ec pa pc) (hg : W.grownBy W' (some b)) (hb : b < base) : ObOwn base W' o ea ec pa pc := ⟨h.bb, own_kept h.eo hg hb, own_kept h.po hg hb⟩
theorem ObOwn.le {base base' : Nat} {W : World} {o : Ob} {ea : Option Addr} {ec : Nat} {pa : Option Addr} {pc : Nat} (h : ObOwn base W o ea ec pa pc) (hb : base' ≤ base) : ObOwn base' W o ea ec pa pc := ⟨h.bb, own_le h.eo hb, own_le h.po hb⟩
theorem ObOwn.zero (base : Nat) (W : World) : ObOwn base W obZ none 0 none 0 := ⟨obB_obZ, World.ownsRow_nil _ _ _ _, World.ownsRow_nil _ _ _ _⟩
/-- The state of Decode when the object has been read. -/
structure DecSt (w : World) (ob : Nat) (o : Ob) (r : RS) (W : World) (ea : Option Addr) (ec : Nat) (pa : Option Addr) (pc : Nat) : Prop where
  rd : RD (w.heap.size + 1) r W
  obj : BK ob (o.arr ea ec pa pc) 100 W
  inn : ObOwn (w.heap.size + 2) W o ea ec pa pc
  res : BK w.heap.size #[.int .i64 0, .string ⟨#[]⟩, .slice none 0 0, .int .u64 0, .int .u64 0, .slice none 0 0, .string ⟨#[]⟩, .int .i64 0, .string ⟨#[]⟩] 100 W
  bel : Below w.heap.size w W
def DecX (w : World) (ob : Nat) (o : Ob) (r : RS) (W : World) : Prop := ∃ ea ec pa pc, DecSt w ob o r W ea ec pa pc
theorem below_of_grown {w x y : World} {b : Nat} (h : Below w.heap.size w x) (hg : x.grownBy y (some b)) (hb : w.heap.size ≤ b) : Below w.heap.size w y := h.grown hg h.size (fun k e => by cases e; exact hb)
/-- An object that was handed back with an error. -/
def GotO (w : World) (o : Ob) (er : Int) (e : Ending) (w' : World) : Prop := ∃ ea ec pa pc, e = .returned (.tuple #[o.val ea ec pa pc, .int .i64 er]) ∧ ObOwn w.heap.size w' o ea ec pa pc ∧ Below w.heap.size w w'

theorem rList_len {α : Type} (get : RS → α × RS) (h : ∀ r, (get r).2.1.length ≤ r.1.length) : ∀ (n : Nat) (r : RS), (rList get n r).2.1.length ≤ r.1.length
  | 0, r => by simp [rList]
  | n + 1, r => by
    rw [rList]
    split
    · simp
    · exact Nat.le_trans (rList_len get h n _) (h r)
theorem rMany_len {α : Type} (get : RS → α × RS) (h : ∀ r, (get r).2.1.length ≤ r.1.length) (m : Int) (r : RS) : (rMany get m r).2.1.length ≤ r.1.length := Nat.le_trans (rList_len get h _ _) (rMost_len m r)

set_option maxRecDepth 100000 in
set_option maxHeartbeats 4000000 in
theorem decode_any (s : List UInt8) (w : World) (hs : (s.length : Int) ≤ 140737488355328) :
    Calls Tryz.prog 170 #[.string ⟨s.toArray⟩] w (GotO w (decodeS s).1 (decodeS s).2) := by
  have HN := Lib.hid (fun b W hW => rnumber_any b (s, false) W hW hs)
  have HB := Lib.hid (readO_b s)
  have hlen := rNum_len (s, false)
  have HRO : Hid (readO s = if (rNum (s, false)).1 = 1 ∨ (rNum (s, false)).1 = 4 then ({ obZ with kind := (rNum (s, false)).1, data := (rStr (rNum (s, false)).2).1 }, (rStr (rNum (s, false)).2).2) else if (rNum (s, false)).1 = 2 then ({ obZ with kind := 2, ents := (rMany rEnt 200 (rNum (s, false)).2).1 }, (rMany rEnt 200 (rNum (s, false)).2).2) else if (rNum (s, false)).1 = 3 then readC (rNum (s, false)).2 else ({ obZ with kind := (rNum (s, false)).1 }, (rNum (s, false)).2)) := Lib.hid rfl
  have HDE : Hid (decodeS s = if (readO s).2.2 = true ∨ (readO s).2.1 ≠ [] ∨ (encodeS (readO s).1).2 ≠ 0 then (obZ, 13) else ((readO s).1, 0)) := Lib.hid rfl
  generalize decodeS s = D at HDE ⊢
  generalize readO s = RO at HRO HDE HB
  generalize rNum (s, false) = s1 at HN HRO hlen
  obtain ⟨k, r1⟩ := s1
  simp only at HN HRO hlen
  obtain ⟨OB, q⟩ := RO
  simp only at HDE HB
  have hl1 : (r1.1.length : Int) ≤ 140737488355328 := by omega
  clear hlen
  go_enter Tryz.func170, Tryz.ntmps170
  go_wp2_with fail
  have hx := HN.out (w.heap.size + 1) ((w.alloc (.cells #[.int .i64 0, .string ⟨#[]⟩, .slice none 0 0, .int .u64 0, .int .u64 0, .slice none 0 0, .string ⟨#[]⟩, .int .i64 0, .string ⟨#[]⟩] 100)).alloc (.cells #[.string ⟨s.toArray⟩, .bool false] 243)) (BK.new2 w _ #[.string ⟨s.toArray⟩, .bool false] 243)
  (with_reducible refine hx.mono ?_)
  clear hx
  rintro e x1 ⟨rfl, HR1, HG1⟩
  have hz1 : w.heap.size + 2 ≤ x1.heap.size := by have := HG1.out.size; simpa using this
  have HRES1 : Hid (BK w.heap.size #[.int .i64 0, .string ⟨#[]⟩, .slice none 0 0, .int .u64 0, .int .u64 0, .slice none 0 0, .string ⟨#[]⟩, .int .i64 0, .string ⟨#[]⟩] 100 x1) := Lib.hid (((BK.new w #[.int .i64 0, .string ⟨#[]⟩, .slice none 0 0, .int .u64 0, .int .u64 0, .slice none 0 0, .string ⟨#[]⟩, .int .i64 0, .string ⟨#[]⟩] 100).alloc _).grow1 HG1.out (by omega))
  have HB1 : Hid (Below w.heap.size w x1) := Lib.hid (below_of_grown (((Below.refl _ w).alloc (Nat.le_refl _) _).alloc (by simp) _) HG1.out (by omega))
  clear HN HG1
  go_upto_block 0 with (fail)
  go_cut [] from 12 to 64 (fun wx => DecX w x1.heap.size OB q wx)
  case rest =>
    clear HB HRO HB1 HRES1 HR1
    obtain ⟨ea, ec, pa, pc, hS⟩ := hcut
    have HS := Lib.hid hS
    clear hS
    obtain ⟨l, bd⟩ := q
    have hws := HS.out.bel.size
    have hobl := HS.out.obj.lt
    have r0b : wc.cell? ⟨w.heap.size + 1, 0, none⟩ = some (.string ⟨l.toArray⟩) := by rw [BK.cell HS.out.rd]; rfl
    have r1b : wc.cell? ⟨w.heap.size + 1, 1, none⟩ = some (.bool bd) := by rw [BK.cell HS.out.rd]; rfl
    simp only at HDE
    cases bd with
    | true =>
      have HF : Hid (D = (obZ, 13)) := Lib.hid (by rw [HDE.out, if_pos (.inl rfl)])
      clear HDE
      have r0 : wc.cell? ⟨w.heap.size, 0, none⟩ = some (.int .i64 0) := by rw [HS.out.res.cell]; rfl
      have g0 : wc.frozen? ⟨w.heap.size, 0, none⟩ = false := HS.out.res.frozen 0
      have r1 : wc.cell? ⟨w.heap.size, 1, none⟩ = some (.string ⟨#[]⟩) := by rw [HS.out.res.cell]; rfl
      have g1 : wc.frozen? ⟨w.heap.size, 1, none⟩ = false := HS.out.res.frozen 1
      have r2 : wc.cell? ⟨w.heap.size, 2, none⟩ = some (.slice none 0 0) := by rw [HS.out.res.cell]; rfl
      have g2 : wc.frozen? ⟨w.heap.size, 2, none⟩ = false := HS.out.res.frozen 2
      have r3 : wc.cell? ⟨w.heap.size, 3, none⟩ = some (.int .u64 0) := by rw [HS.out.res.cell]; rfl
      have g3 : wc.frozen? ⟨w.heap.size, 3, none⟩ = false := HS.out.res.frozen 3
      have r4 : wc.cell? ⟨w.heap.size, 4, none⟩ = some (.int .u64 0) := by rw [HS.out.res.cell]; rfl
      have g4 : wc.frozen? ⟨w.heap.size, 4, none⟩ = false := HS.out.res.frozen 4
      have r5 : wc.cell? ⟨w.heap.size, 5, none⟩ = some (.slice none 0 0) := by rw [HS.out.res.cell]; rfl
      have g5 : wc.frozen? ⟨w.heap.size, 5, none⟩ = false := HS.out.res.frozen 5
      have r6 : wc.cell? ⟨w.heap.size, 6, none⟩ = some (.string ⟨#[]⟩) := by rw [HS.out.res.cell]; rfl
      have g6 : wc.frozen? ⟨w.heap.size, 6, none⟩ = false := HS.out.res.frozen 6
      have r7 : wc.cell? ⟨w.heap.size, 7, none⟩ = some (.int .i64 0) := by rw [HS.out.res.cell]; rfl
      have g7 : wc.frozen? ⟨w.heap.size, 7, none⟩ = false := HS.out.res.frozen 7
      have r8 : wc.cell? ⟨w.heap.size, 8, none⟩ = some (.string ⟨#[]⟩) := by rw [HS.out.res.cell]; rfl
      have g8 : wc.frozen? ⟨w.heap.size, 8, none⟩ = false := HS.out.res.frozen 8
      go_wp2_with fail
      refine bodyPost_ret (v := .tuple #[obZ.val none 0 none 0, .int .i64 13]) (by simp [results, Tryz.results170, go_sem, obZ, r0, r1, r2, r3, r4, r5, r6, r7, r8]) rfl ?_
      rw [HF.out]
      exact ⟨none, 0, none, 0, rfl, ObOwn.zero _ _, ((((((((HS.out.bel.setCell (by simp) _).setCell (by simp) _).setCell (by simp) _).setCell (by simp) _).setCell (by simp) _).setCell (by simp) _).setCell (by simp) _).setCell (by simp) _).setCell (by simp) _⟩
    | false =>
      cases l with
      | cons c0 l0 =>
        have HF : Hid (D = (obZ, 13)) := Lib.hid (by rw [HDE.out, if_pos (.inr (.inl (by simp)))])
        clear HDE
        have r0 : wc.cell? ⟨w.heap.size, 0, none⟩ = some (.int .i64 0) := by rw [HS.out.res.cell]; rfl
        have g0 : wc.frozen? ⟨w.heap.size, 0, none⟩ = false := HS.out.res.frozen 0
        have r1 : wc.cell? ⟨w.heap.size, 1, none⟩ = some (.string ⟨#[]⟩) := by rw [HS.out.res.cell]; rfl
        have g1 : wc.frozen? ⟨w.heap.size, 1, none⟩ = false := HS.out.res.frozen 1
        have r2 : wc.cell? ⟨w.heap.size, 2, none⟩ = some (.slice none 0 0) := by rw [HS.out.res.cell]; rfl
        have g2 : wc.frozen? ⟨w.heap.size, 2, none⟩ = false := HS.out.res.frozen 2
        have r3 : wc.cell? ⟨w.heap.size, 3, none⟩ = some (.int .u64 0) := by rw [HS.out.res.cell]; rfl
        have g3 : wc.frozen? ⟨w.heap.size, 3, none⟩ = false := HS.out.res.frozen 3
        have r4 : wc.cell? ⟨w.heap.size, 4, none⟩ = some (.int .u64 0) := by rw [HS.out.res.cell]; rfl
        have g4 : wc.frozen? ⟨w.heap.size, 4, none⟩ = false := HS.out.res.frozen 4
        have r5 : wc.cell? ⟨w.heap.size, 5, none⟩ = some (.slice none 0 0) := by rw [HS.out.res.cell]; rfl
        have g5 : wc.frozen? ⟨w.heap.size, 5, none⟩ = false := HS.out.res.frozen 5
        have r6 : wc.cell? ⟨w.heap.size, 6, none⟩ = some (.string ⟨#[]⟩) := by rw [HS.out.res.cell]; rfl
        have g6 : wc.frozen? ⟨w.heap.size, 6, none⟩ = false := HS.out.res.frozen 6
        have r7 : wc.cell? ⟨w.heap.size, 7, none⟩ = some (.int .i64 0) := by rw [HS.out.res.cell]; rfl
        have g7 : wc.frozen? ⟨w.heap.size, 7, none⟩ = false := HS.out.res.frozen 7
        have r8 : wc.cell? ⟨w.heap.size, 8, none⟩ = some (.string ⟨#[]⟩) := by rw [HS.out.res.cell]; rfl
        have g8 : wc.frozen? ⟨w.heap.size, 8, none⟩ = false := HS.out.res.frozen 8
        go_wp2_with fail
        refine bodyPost_ret (v := .tuple #[obZ.val none 0 none 0, .int .i64 13]) (by simp [results, Tryz.results170, go_sem, obZ, r0, r1, r2, r3, r4, r5, r6, r7, r8]) rfl ?_
        rw [HF.out]
        exact ⟨none, 0, none, 0, rfl, ObOwn.zero _ _, ((((((((HS.out.bel.setCell (by simp) _).setCell (by simp) _).setCell (by simp) _).setCell (by simp) _).setCell (by simp) _).setCell (by simp) _).setCell (by simp) _).setCell (by simp) _).setCell (by simp) _⟩
      | nil =>
        have HC := Lib.hid (ocheck_any OB ea ec pa pc wc HS.out.inn.inn)
        have o0 : wc.cell? ⟨x1.heap.size, 0, none⟩ = some (.int .i64 OB.kind) := by rw [HS.out.obj.cell]; rfl
        have o1 : wc.cell? ⟨x1.heap.size, 1, none⟩ = some (.string ⟨OB.data.toArray⟩) := by rw [HS.out.obj.cell]; rfl
        have o2 : wc.cell? ⟨x1.heap.size, 2, none⟩ = some (.slice ea OB.ents.length ec) := by rw [HS.out.obj.cell]; rfl
        have o3 : wc.cell? ⟨x1.heap.size, 3, none⟩ = some (.int .u64 OB.tree.1) := by rw [HS.out.obj.cell]; rfl
        have o4 : wc.cell? ⟨x1.heap.size, 4, none⟩ = some (.int .u64 OB.tree.2) := by rw [HS.out.obj.cell]; rfl
        have o5 : wc.cell? ⟨x1.heap.size, 5, none⟩ = some (.slice pa OB.pars.length pc) := by rw [HS.out.obj.cell]; rfl
        have o6 : wc.cell? ⟨x1.heap.size, 6, none⟩ = some (.string ⟨OB.author.toArray⟩) := by rw [HS.out.obj.cell]; rfl
        have o7 : wc.cell? ⟨x1.heap.size, 7, none⟩ = some (.int .i64 OB.time) := by rw [HS.out.obj.cell]; rfl
        have o8 : wc.cell? ⟨x1.heap.size, 8, none⟩ = some (.string ⟨OB.msg.toArray⟩) := by rw [HS.out.obj.cell]; rfl
        generalize (encodeS OB).2 = er at HDE HC
        by_cases he : er = 0
        · subst he
          have HF : Hid (D = (OB, 0)) := Lib.hid (by rw [HDE.out, if_neg (by simp)])
          clear HDE
          go_wp2_with fail
          have hx := HC.out
          (with_reducible refine hx.mono ?_)
          clear hx HC o0 o1 o2 o3 o4 o5 o6 o7 o8 r0b r1b
          rintro e w1 ⟨rfl, hb⟩
          have HB := Lib.hid hb
          have HRS := Lib.hid (HS.out.res.below hb)
          have HOJ := Lib.hid (HS.out.obj.below hb)
          have hz1 := hb.size
          clear hb
          have r0 : w1.cell? ⟨w.heap.size, 0, none⟩ = some (.int .i64 0) := by rw [HRS.out.cell]; rfl
          have g0 : w1.frozen? ⟨w.heap.size, 0, none⟩ = false := HRS.out.frozen 0
          have r1 : w1.cell? ⟨w.heap.size, 1, none⟩ = some (.string ⟨#[]⟩) := by rw [HRS.out.cell]; rfl
          have g1 : w1.frozen? ⟨w.heap.size, 1, none⟩ = false := HRS.out.frozen 1
          have r2 : w1.cell? ⟨w.heap.size, 2, none⟩ = some (.slice none 0 0) := by rw [HRS.out.cell]; rfl
          have g2 : w1.frozen? ⟨w.heap.size, 2, none⟩ = false := HRS.out.frozen 2
          have r3 : w1.cell? ⟨w.heap.size, 3, none⟩ = some (.int .u64 0) := by rw [HRS.out.cell]; rfl
          have g3 : w1.frozen? ⟨w.heap.size, 3, none⟩ = false := HRS.out.frozen 3
          have r4 : w1.cell? ⟨w.heap.size, 4, none⟩ = some (.int .u64 0) := by rw [HRS.out.cell]; rfl
          have g4 : w1.frozen? ⟨w.heap.size, 4, none⟩ = false := HRS.out.frozen 4
          have r5 : w1.cell? ⟨w.heap.size, 5, none⟩ = some (.slice none 0 0) := by rw [HRS.out.cell]; rfl
          have g5 : w1.frozen? ⟨w.heap.size, 5, none⟩ = false := HRS.out.frozen 5
          have r6 : w1.cell? ⟨w.heap.size, 6, none⟩ = some (.string ⟨#[]⟩) := by rw [HRS.out.cell]; rfl
          have g6 : w1.frozen? ⟨w.heap.size, 6, none⟩ = false := HRS.out.frozen 6
          have r7 : w1.cell? ⟨w.heap.size, 7, none⟩ = some (.int .i64 0) := by rw [HRS.out.cell]; rfl
          have g7 : w1.frozen? ⟨w.heap.size, 7, none⟩ = false := HRS.out.frozen 7
          have r8 : w1.cell? ⟨w.heap.size, 8, none⟩ = some (.string ⟨#[]⟩) := by rw [HRS.out.cell]; rfl
          have g8 : w1.frozen? ⟨w.heap.size, 8, none⟩ = false := HRS.out.frozen 8
          have o0 : w1.cell? ⟨x1.heap.size, 0, none⟩ = some (.int .i64 OB.kind) := by rw [HOJ.out.cell]; rfl
          have o1 : w1.cell? ⟨x1.heap.size, 1, none⟩ = some (.string ⟨OB.data.toArray⟩) := by rw [HOJ.out.cell]; rfl
          have o2 : w1.cell? ⟨x1.heap.size, 2, none⟩ = some (.slice ea OB.ents.length ec) := by rw [HOJ.out.cell]; rfl
          have o3 : w1.cell? ⟨x1.heap.size, 3, none⟩ = some (.int .u64 OB.tree.1) := by rw [HOJ.out.cell]; rfl
          have o4 : w1.cell? ⟨x1.heap.size, 4, none⟩ = some (.int .u64 OB.tree.2) := by rw [HOJ.out.cell]; rfl
          have o5 : w1.cell? ⟨x1.heap.size, 5, none⟩ = some (.slice pa OB.pars.length pc) := by rw [HOJ.out.cell]; rfl
          have o6 : w1.cell? ⟨x1.heap.size, 6, none⟩ = some (.string ⟨OB.author.toArray⟩) := by rw [HOJ.out.cell]; rfl
          have o7 : w1.cell? ⟨x1.heap.size, 7, none⟩ = some (.int .i64 OB.time) := by rw [HOJ.out.cell]; rfl
          have o8 : w1.cell? ⟨x1.heap.size, 8, none⟩ = some (.string ⟨OB.msg.toArray⟩) := by rw [HOJ.out.cell]; rfl
          have hne : x1.heap.size ≠ w.heap.size := by omega
          go_wp2_with fail
          refine bodyPost_ret (v := .tuple #[OB.val ea ec pa pc, .int .i64 0]) (by simp [results, Tryz.results170, go_sem, r0, r1, r2, r3, r4, r5, r6, r7, r8]) rfl ?_
          rw [HF.out]
          have hbb : Below w.heap.size w w1 := HS.out.bel.trans (HB.out.mono hws)
          exact ⟨ea, ec, pa, pc, rfl, ((HS.out.inn.below HB.out).kept (gown (gown (gown (gown (gown (gown (gown (gown (gset _ _ _ _) _ _) _ _) _ _) _ _) _ _) _ _) _ _) _ _) (by omega)).le (by omega), ((((((((hbb.setCell (by simp) _).setCell (by simp) _).setCell (by simp) _).setCell (by simp) _).setCell (by simp) _).setCell (by simp) _).setCell (by simp) _).setCell (by simp) _).setCell (by simp) _⟩
        · have hne : (er != 0) = true := by simpa using he
          have HF : Hid (D = (obZ, 13)) := Lib.hid (by rw [HDE.out, if_pos (.inr (.inr he))])
          clear HDE he
          go_wp2_with fail
          have hx := HC.out
          (with_reducible refine hx.mono ?_)
          clear hx HC o0 o1 o2 o3 o4 o5 o6 o7 o8 r0b r1b
          rintro e w1 ⟨rfl, hb⟩
          have HB := Lib.hid hb
          have HRS := Lib.hid (HS.out.res.below hb)
          clear hb
          have r0 : w1.cell? ⟨w.heap.size, 0, none⟩ = some (.int .i64 0) := by rw [HRS.out.cell]; rfl
          have g0 : w1.frozen? ⟨w.heap.size, 0, none⟩ = false := HRS.out.frozen 0
          have r1 : w1.cell? ⟨w.heap.size, 1, none⟩ = some (.string ⟨#[]⟩) := by rw [HRS.out.cell]; rfl
          have g1 : w1.frozen? ⟨w.heap.size, 1, none⟩ = false := HRS.out.frozen 1
          have r2 : w1.cell? ⟨w.heap.size, 2, none⟩ = some (.slice none 0 0) := by rw [HRS.out.cell]; rfl
          have g2 : w1.frozen? ⟨w.heap.size, 2, none⟩ = false := HRS.out.frozen 2
          have r3 : w1.cell? ⟨w.heap.size, 3, none⟩ = some (.int .u64 0) := by rw [HRS.out.cell]; rfl
          have g3 : w1.frozen? ⟨w.heap.size, 3, none⟩ = false := HRS.out.frozen 3
          have r4 : w1.cell? ⟨w.heap.size, 4, none⟩ = some (.int .u64 0) := by rw [HRS.out.cell]; rfl
          have g4 : w1.frozen? ⟨w.heap.size, 4, none⟩ = false := HRS.out.frozen 4
          have r5 : w1.cell? ⟨w.heap.size, 5, none⟩ = some (.slice none 0 0) := by rw [HRS.out.cell]; rfl
          have g5 : w1.frozen? ⟨w.heap.size, 5, none⟩ = false := HRS.out.frozen 5
          have r6 : w1.cell? ⟨w.heap.size, 6, none⟩ = some (.string ⟨#[]⟩) := by rw [HRS.out.cell]; rfl
          have g6 : w1.frozen? ⟨w.heap.size, 6, none⟩ = false := HRS.out.frozen 6
          have r7 : w1.cell? ⟨w.heap.size, 7, none⟩ = some (.int .i64 0) := by rw [HRS.out.cell]; rfl
          have g7 : w1.frozen? ⟨w.heap.size, 7, none⟩ = false := HRS.out.frozen 7
          have r8 : w1.cell? ⟨w.heap.size, 8, none⟩ = some (.string ⟨#[]⟩) := by rw [HRS.out.cell]; rfl
          have g8 : w1.frozen? ⟨w.heap.size, 8, none⟩ = false := HRS.out.frozen 8
          go_wp2_with fail
          refine bodyPost_ret (v := .tuple #[obZ.val none 0 none 0, .int .i64 13]) (by simp [results, Tryz.results170, go_sem, obZ, r0, r1, r2, r3, r4, r5, r6, r7, r8]) rfl ?_
          rw [HF.out]
          exact ⟨none, 0, none, 0, rfl, ObOwn.zero _ _, (((((((((HS.out.bel.trans (HB.out.mono hws)).setCell (by simp) _).setCell (by simp) _).setCell (by simp) _).setCell (by simp) _).setCell (by simp) _).setCell (by simp) _).setCell (by simp) _).setCell (by simp) _).setCell (by simp) _⟩
  case first =>
    have HBK : Hid (BK x1.heap.size #[.int .i64 k, .string ⟨#[]⟩, .slice none 0 0, .int .u64 0, .int .u64 0, .slice none 0 0, .string ⟨#[]⟩, .int .i64 0, .string ⟨#[]⟩] 100 (x1.alloc (.cells #[.int .i64 k, .string ⟨#[]⟩, .slice none 0 0, .int .u64 0, .int .u64 0, .slice none 0 0, .string ⟨#[]⟩, .int .i64 0, .string ⟨#[]⟩] 100))) := Lib.hid (BK.new _ _ _)
    clear HDE
    by_cases h1 : k = 1
    · subst h1
      have HRO2 := Lib.hid (by have := HRO.out; rw [if_pos (by omega)] at this; exact this)
      clear HRO
      have HC := Lib.hid (fun W hW => rstring_any (w.heap.size + 1) r1 W hW hl1)
      generalize rStr r1 = s2 at HC HRO2
      obtain ⟨dt, q2⟩ := s2
      simp only at HC HRO2
      go_wp2_with fail
      have hx := HC.out _ (HR1.out.alloc (.cells #[.int .i64 1, .string ⟨#[]⟩, .slice none 0 0, .int .u64 0, .int .u64 0, .slice none 0 0, .string ⟨#[]⟩, .int .i64 0, .string ⟨#[]⟩] 100))
      (with_reducible refine hx.mono ?_)
      clear hx HC
      rintro e x2 ⟨rfl, HR2, HG2⟩
      have HBK2 : Hid (BK x1.heap.size #[.int .i64 1, .string ⟨#[]⟩, .slice none 0 0, .int .u64 0, .int .u64 0, .slice none 0 0, .string ⟨#[]⟩, .int .i64 0, .string ⟨#[]⟩] 100 x2) := Lib.hid (HBK.out.grow1 HG2.out (by omega))
      have hz2 : x1.heap.size + 1 ≤ x2.heap.size := by have := HG2.out.size; simpa using this
      have c1 : x2.cell? ⟨x1.heap.size, 1, none⟩ = some (.string ⟨#[]⟩) := by rw [HBK2.out.cell]; rfl
      have f1 : x2.frozen? ⟨x1.heap.size, 1, none⟩ = false := HBK2.out.frozen 1
      have HF : Hid (DecX w x1.heap.size OB q (x2.setCell ⟨x1.heap.size, 1, none⟩ (.string ⟨dt.toArray⟩))) := Lib.hid (by
        obtain ⟨rfl, rfl⟩ := Prod.mk.inj HRO2.out
        refine ⟨none, 0, none, 0, HR2.out.set (by omega) _ _, HBK2.out.set 1 _, ⟨HB.out, World.ownsRow_nil _ _ _ _, World.ownsRow_nil _ _ _ _⟩, ((HRES1.out.alloc _).grow1 HG2.out (by omega)).other (by omega) _ _, ?_⟩
        exact (below_of_grown (HB1.out.alloc (by omega) _) HG2.out (by omega)).setCell (by simp; omega) _)
      clear HR1 HR2 HBK HBK2 HRO2 HG2 HB1 HRES1
      go_wp2_with fail
      go_meet
      case rel => exact HF.out
    · by_cases h4 : k = 4
      · subst h4
        have HRO2 := Lib.hid (by have := HRO.out; rw [if_pos (by omega)] at this; exact this)
        clear HRO h1
        have HC := Lib.hid (fun W hW => rstring_any (w.heap.size + 1) r1 W hW hl1)
        generalize rStr r1 = s2 at HC HRO2
        obtain ⟨dt, q2⟩ := s2
        simp only at HC HRO2
        go_wp2_with fail
        have hx := HC.out _ (HR1.out.alloc (.cells #[.int .i64 4, .string ⟨#[]⟩, .slice none 0 0, .int .u64 0, .int .u64 0, .slice none 0 0, .string ⟨#[]⟩, .int .i64 0, .string ⟨#[]⟩] 100))
        (with_reducible refine hx.mono ?_)
        clear hx HC
        rintro e x2 ⟨rfl, HR2, HG2⟩
        have HBK2 : Hid (BK x1.heap.size #[.int .i64 4, .string ⟨#[]⟩, .slice none 0 0, .int .u64 0, .int .u64 0, .slice none 0 0, .string ⟨#[]⟩, .int .i64 0, .string ⟨#[]⟩] 100 x2) := Lib.hid (HBK.out.grow1 HG2.out (by omega))
        have hz2 : x1.heap.size + 1 ≤ x2.heap.size := by have := HG2.out.size; simpa using this
        have c1 : x2.cell? ⟨x1.heap.size, 1, none⟩ = some (.string ⟨#[]⟩) := by rw [HBK2.out.cell]; rfl
        have f1 : x2.frozen? ⟨x1.heap.size, 1, none⟩ = false := HBK2.out.frozen 1
        have HF : Hid (DecX w x1.heap.size OB q (x2.setCell ⟨x1.heap.size, 1, none⟩ (.string ⟨dt.toArray⟩))) := Lib.hid (by
          obtain ⟨rfl, rfl⟩ := Prod.mk.inj HRO2.out
          refine ⟨none, 0, none, 0, HR2.out.set (by omega) _ _, HBK2.out.set 1 _, ⟨HB.out, World.ownsRow_nil _ _ _ _, World.ownsRow_nil _ _ _ _⟩, ((HRES1.out.alloc _).grow1 HG2.out (by omega)).other (by omega) _ _, ?_⟩
          exact (below_of_grown (HB1.out.alloc (by omega) _) HG2.out (by omega)).setCell (by simp; omega) _)
        clear HR1 HR2 HBK HBK2 HRO2 HG2 HB1 HRES1
        go_wp2_with fail
        go_meet
        case rel => exact HF.out
      · by_cases h2 : k = 2
        · subst h2
          have HRO2 := Lib.hid (by have := HRO.out; rw [if_neg (by omega), if_pos rfl] at this; exact this)
          clear HRO h1 h4
          have HC := Lib.hid (fun W hW => rlistE_any (w.heap.size + 1) 200 r1 W hW hl1 (by omega) (by omega))
          generalize rMany rEnt 200 r1 = s2 at HC HRO2
          obtain ⟨es, q2⟩ := s2
          simp only at HC HRO2
          go_wp2_with fail
          have hx := HC.out _ (HR1.out.alloc (.cells #[.int .i64 2, .string ⟨#[]⟩, .slice none 0 0, .int .u64 0, .int .u64 0, .slice none 0 0, .string ⟨#[]⟩, .int .i64 0, .string ⟨#[]⟩] 100))
          (with_reducible refine hx.mono ?_)
          clear hx HC
          rintro e x2 ⟨ea, ec, rfl, hec, HR2, HO2, HG2⟩
          have HBK2 : Hid (BK x1.heap.size #[.int .i64 2, .string ⟨#[]⟩, .slice none 0 0, .int .u64 0, .int .u64 0, .slice none 0 0, .string ⟨#[]⟩, .int .i64 0, .string ⟨#[]⟩] 100 x2) := Lib.hid (HBK.out.grow1 HG2.out (by omega))
          have hz2 : x1.heap.size + 1 ≤ x2.heap.size := by have := HG2.out.size; simpa using this
          have c2 : x2.cell? ⟨x1.heap.size, 2, none⟩ = some (.slice none 0 0) := by rw [HBK2.out.cell]; rfl
          have f2 : x2.frozen? ⟨x1.heap.size, 2, none⟩ = false := HBK2.out.frozen 2
          have HF : Hid (DecX w x1.heap.size OB q (x2.setCell ⟨x1.heap.size, 2, none⟩ (.slice ea es.length ec))) := Lib.hid (by
            obtain ⟨rfl, rfl⟩ := Prod.mk.inj HRO2.out
            have hO := own_kept HO2.out (gset x2 x1.heap.size 2 (.slice ea es.length ec)) (by simp)
            refine ⟨ea, ec, none, 0, HR2.out.set (by omega) _ _, HBK2.out.set 2 _, ⟨HB.out, own_le hO (by simp; omega), World.ownsRow_nil _ _ _ _⟩, ((HRES1.out.alloc _).grow1 HG2.out (by omega)).other (by omega) _ _, ?_⟩
            exact (below_of_grown (HB1.out.alloc (by omega) _) HG2.out (by omega)).setCell (by simp; omega) _)
          clear HR1 HR2 HBK HBK2 HRO2 HG2 HB1 HRES1 HO2
          go_wp2_with fail
          go_meet
          case rel => exact HF.out
        · by_cases h3 : k = 3
          · subst h3
            have HRO2 := Lib.hid (by have := HRO.out; rw [if_neg (by omega), if_neg (by omega), if_pos rfl] at this; exact this)
            clear HRO h1 h4 h2
            have HC := Lib.hid (fun W hW => rdigest_any (w.heap.size + 1) r1 W hW hl1)
            have hl2 := rDig_len r1
            unfold readC at HRO2
            generalize rDig r1 = s2 at HC HRO2 hl2
            obtain ⟨⟨t1, t2⟩, q2⟩ := s2
            simp only at HC HRO2 hl2
            have HC3 := Lib.hid (fun W hW => rlistD_any (w.heap.size + 1) 8 q2 W hW (by omega) (by omega) (by omega))
            have hl3 := rMany_len rDig rDig_len 8 q2
            generalize rMany rDig 8 q2 = s3 at HC3 HRO2 hl3
            obtain ⟨ps, q3⟩ := s3
            simp only at HC3 HRO2 hl3
            have HC4 := Lib.hid (fun W hW => rstring_any (w.heap.size + 1) q3 W hW (by omega))
            have hl4 := rStr_len q3
            generalize rStr q3 = s4 at HC4 HRO2 hl4
            obtain ⟨au, q4⟩ := s4
            simp only at HC4 HRO2 hl4
            have HC5 := Lib.hid (fun W hW => rnumber_any (w.heap.size + 1) q4 W hW (by omega))
            have hl5 := rNum_len q4
            generalize rNum q4 = s5 at HC5 HRO2 hl5
            obtain ⟨ti, q5⟩ := s5
            simp only at HC5 HRO2 hl5
            have HC6 := Lib.hid (fun W hW => rstring_any (w.heap.size + 1) q5 W hW (by omega))
            generalize rStr q5 = s6 at HC6 HRO2
            obtain ⟨ms, q6⟩ := s6
            simp only at HC6 HRO2
            go_wp2_with fail
            have hx := HC.out _ (HR1.out.alloc (.cells #[.int .i64 3, .string ⟨#[]⟩, .slice none 0 0, .int .u64 0, .int .u64 0, .slice none 0 0, .string ⟨#[]⟩, .int .i64 0, .string ⟨#[]⟩] 100))
            (with_reducible refine hx.mono ?_)
            clear hx HC
            rintro e x2 ⟨rfl, HR2, HG2⟩
            have HBK2 : Hid (BK x1.heap.size #[.int .i64 3, .string ⟨#[]⟩, .slice none 0 0, .int .u64 0, .int .u64 0, .slice none 0 0, .string ⟨#[]⟩, .int .i64 0, .string ⟨#[]⟩] 100 x2) := Lib.hid (HBK.out.grow1 HG2.out (by omega))
            have hz2 : x1.heap.size + 1 ≤ x2.heap.size := by have := HG2.out.size; simpa using this
            have HRES2 : Hid (BK w.heap.size #[.int .i64 0, .string ⟨#[]⟩, .slice none 0 0, .int .u64 0, .int .u64 0, .slice none 0 0, .string ⟨#[]⟩, .int .i64 0, .string ⟨#[]⟩] 100 x2) := Lib.hid ((HRES1.out.alloc _).grow1 HG2.out (by omega))
            have HB2 : Hid (Below w.heap.size w x2) := Lib.hid (below_of_grown (HB1.out.alloc (by omega) _) HG2.out (by omega))
            clear HR1 HBK HG2 HB1 HRES1
            have c3 : x2.cell? ⟨x1.heap.size, 3, none⟩ = some (.int .u64 0) := by rw [HBK2.out.cell]; rfl
            have f3 : x2.frozen? ⟨x1.heap.size, 3, none⟩ = false := HBK2.out.frozen 3
            have c4 : x2.cell? ⟨x1.heap.size, 4, none⟩ = some (.int .u64 0) := by rw [HBK2.out.cell]; rfl
            have f4 : x2.frozen? ⟨x1.heap.size, 4, none⟩ = false := HBK2.out.frozen 4
            have HRY : Hid (RD (w.heap.size + 1) q2 ((x2.setCell ⟨x1.heap.size, 3, none⟩ (.int .u64 t1)).setCell ⟨x1.heap.size, 4, none⟩ (.int .u64 t2))) := Lib.hid ((HR2.out.set (by omega) _ _).set (by omega) _ _)
            have HBY : Hid (BK x1.heap.size #[.int .i64 3, .string ⟨#[]⟩, .slice none 0 0, .int .u64 t1, .int .u64 t2, .slice none 0 0, .string ⟨#[]⟩, .int .i64 0, .string ⟨#[]⟩] 100 ((x2.setCell ⟨x1.heap.size, 3, none⟩ (.int .u64 t1)).setCell ⟨x1.heap.size, 4, none⟩ (.int .u64 t2))) := Lib.hid ((HBK2.out.set 3 _).set 4 _)
            have HRESY : Hid (BK w.heap.size #[.int .i64 0, .string ⟨#[]⟩, .slice none 0 0, .int .u64 0, .int .u64 0, .slice none 0 0, .string ⟨#[]⟩, .int .i64 0, .string ⟨#[]⟩] 100 ((x2.setCell ⟨x1.heap.size, 3, none⟩ (.int .u64 t1)).setCell ⟨x1.heap.size, 4, none⟩ (.int .u64 t2))) := Lib.hid ((HRES2.out.other (by omega) _ _).other (by omega) _ _)
            have HBLY : Hid (Below w.heap.size w ((x2.setCell ⟨x1.heap.size, 3, none⟩ (.int .u64 t1)).setCell ⟨x1.heap.size, 4, none⟩ (.int .u64 t2))) := Lib.hid ((HB2.out.setCell (by simp; omega) _).setCell (by simp; omega) _)
            clear HR2 HBK2 HRES2 HB2
            go_wp2_with fail
            have hx := HC3.out _ HRY.out
            (with_reducible refine hx.mono ?_)
            clear hx HC3 c3 f3 c4 f4
            rintro e x3 ⟨pa, pc, rfl, hpc, HR3, HO3, HG3⟩
            have hz3 : x2.heap.size ≤ x3.heap.size := by have := HG3.out.size; simpa using this
            have HBK3 : Hid (BK x1.heap.size #[.int .i64 3, .string ⟨#[]⟩, .slice none 0 0, .int .u64 t1, .int .u64 t2, .slice none 0 0, .string ⟨#[]⟩, .int .i64 0, .string ⟨#[]⟩] 100 x3) := Lib.hid (HBY.out.grow1 HG3.out (by omega))
            have HRES3 := Lib.hid (HRESY.out.grow1 HG3.out (by omega))
            have HB3 := Lib.hid (below_of_grown HBLY.out HG3.out (by omega))
            clear HRY HBY HRESY HBLY HG3
            have c5 : x3.cell? ⟨x1.heap.size, 5, none⟩ = some (.slice none 0 0) := by rw [HBK3.out.cell]; rfl
            have f5 : x3.frozen? ⟨x1.heap.size, 5, none⟩ = false := HBK3.out.frozen 5
            have HRZ := Lib.hid (HR3.out.set (c := x1.heap.size) (by omega) 5 (.slice pa ps.length pc))
            have HBZ : Hid (BK x1.heap.size #[.int .i64 3, .string ⟨#[]⟩, .slice none 0 0, .int .u64 t1, .int .u64 t2, .slice pa ps.length pc, .string ⟨#[]⟩, .int .i64 0, .string ⟨#[]⟩] 100 (x3.setCell ⟨x1.heap.size, 5, none⟩ (.slice pa ps.length pc))) := Lib.hid (HBK3.out.set 5 _)
            have HRESZ := Lib.hid (HRES3.out.other (c := x1.heap.size) (by omega) 5 (.slice pa ps.length pc))
            have HBLZ := Lib.hid (HB3.out.setCell (p := ⟨x1.heap.size, 5, none⟩) (by simp; omega) (.slice pa ps.length pc))
            have HOZ := Lib.hid (own_kept HO3.out (gset x3 x1.heap.size 5 (.slice pa ps.length pc)) (by simp; omega))
            clear HR3 HBK3 HRES3 HB3 HO3
            go_wp2_with fail
            have hx := HC4.out _ HRZ.out
            (with_reducible refine hx.mono ?_)
            clear hx HC4 c5 f5
            rintro e x4 ⟨rfl, HR4, HG4⟩
            have hz4 : x3.heap.size ≤ x4.heap.size := by have := HG4.out.size; simpa using this
            have HBK4 : Hid (BK x1.heap.size #[.int .i64 3, .string ⟨#[]⟩, .slice none 0 0, .int .u64 t1, .int .u64 t2, .slice pa ps.length pc, .string ⟨#[]⟩, .int .i64 0, .string ⟨#[]⟩] 100 x4) := Lib.hid (HBZ.out.grow1 HG4.out (by omega))
            have HRES4 := Lib.hid (HRESZ.out.grow1 HG4.out (by omega))
            have HB4 := Lib.hid (below_of_grown HBLZ.out HG4.out (by omega))
            have HO4 := Lib.hid (own_kept HOZ.out HG4.out (by simp; omega))
            clear HRZ HBZ HRESZ HBLZ HOZ HG4
            have c6 : x4.cell? ⟨x1.heap.size, 6, none⟩ = some (.string ⟨#[]⟩) := by rw [HBK4.out.cell]; rfl
            have f6 : x4.frozen? ⟨x1.heap.size, 6, none⟩ = false := HBK4.out.frozen 6
            have HRU := Lib.hid (HR4.out.set (c := x1.heap.size) (by omega) 6 (.string ⟨au.toArray⟩))
            have HBU : Hid (BK x1.heap.size #[.int .i64 3, .string ⟨#[]⟩, .slice none 0 0, .int .u64 t1, .int .u64 t2, .slice pa ps.length pc, .string ⟨au.toArray⟩, .int .i64 0, .string ⟨#[]⟩] 100 (x4.setCell ⟨x1.heap.size, 6, none⟩ (.string ⟨au.toArray⟩))) := Lib.hid (HBK4.out.set 6 _)
            have HRESU := Lib.hid (HRES4.out.other (c := x1.heap.size) (by omega) 6 (.string ⟨au.toArray⟩))
            have HBLU := Lib.hid (HB4.out.setCell (p := ⟨x1.heap.size, 6, none⟩) (by simp; omega) (.string ⟨au.toArray⟩))
            have HOU := Lib.hid (own_kept HO4.out (gset x4 x1.heap.size 6 (.string ⟨au.toArray⟩)) (by simp; omega))
            clear HR4 HBK4 HRES4 HB4 HO4
            go_wp2_with fail
            have hx := HC5.out _ HRU.out
            (with_reducible refine hx.mono ?_)
            clear hx HC5 c6 f6
            rintro e x5 ⟨rfl, HR5, HG5⟩
            have hz5 : x4.heap.size ≤ x5.heap.size := by have := HG5.out.size; simpa using this
            have HBK5 : Hid (BK x1.heap.size #[.int .i64 3, .string ⟨#[]⟩, .slice none 0 0, .int .u64 t1, .int .u64 t2, .slice pa ps.length pc, .string ⟨au.toArray⟩, .int .i64 0, .string ⟨#[]⟩] 100 x5) := Lib.hid (HBU.out.grow1 HG5.out (by omega))
            have HRES5 := Lib.hid (HRESU.out.grow1 HG5.out (by omega))
            have HB5 := Lib.hid (below_of_grown HBLU.out HG5.out (by omega))
            have HO5 := Lib.hid (own_kept HOU.out HG5.out (by simp; omega))
            clear HRU HBU HRESU HBLU HOU HG5
            have c7 : x5.cell? ⟨x1.heap.size, 7, none⟩ = some (.int .i64 0) := by rw [HBK5.out.cell]; rfl
            have f7 : x5.frozen? ⟨x1.heap.size, 7, none⟩ = false := HBK5.out.frozen 7
            have HRV := Lib.hid (HR5.out.set (c := x1.heap.size) (by omega) 7 (.int .i64 ti))
            have HBV : Hid (BK x1.heap.size #[.int .i64 3, .string ⟨#[]⟩, .slice none 0 0, .int .u64 t1, .int .u64 t2, .slice pa ps.length pc, .string ⟨au.toArray⟩, .int .i64 ti, .string ⟨#[]⟩] 100 (x5.setCell ⟨x1.heap.size, 7, none⟩ (.int .i64 ti))) := Lib.hid (HBK5.out.set 7 _)
            have HRESV := Lib.hid (HRES5.out.other (c := x1.heap.size) (by omega) 7 (.int .i64 ti))
            have HBLV := Lib.hid (HB5.out.setCell (p := ⟨x1.heap.size, 7, none⟩) (by simp; omega) (.int .i64 ti))
            have HOV := Lib.hid (own_kept HO5.out (gset x5 x1.heap.size 7 (.int .i64 ti)) (by simp; omega))
            clear HR5 HBK5 HRES5 HB5 HO5
            go_wp2_with fail
            have hx := HC6.out _ HRV.out
            (with_reducible refine hx.mono ?_)
            clear hx HC6 c7 f7
            rintro e x6 ⟨rfl, HR6, HG6⟩
            have hz6 : x5.heap.size ≤ x6.heap.size := by have := HG6.out.size; simpa using this
            have HBK6 : Hid (BK x1.heap.size #[.int .i64 3, .string ⟨#[]⟩, .slice none 0 0, .int .u64 t1, .int .u64 t2, .slice pa ps.length pc, .string ⟨au.toArray⟩, .int .i64 ti, .string ⟨#[]⟩] 100 x6) := Lib.hid (HBV.out.grow1 HG6.out (by omega))
            have HRES6 := Lib.hid (HRESV.out.grow1 HG6.out (by omega))
            have HB6 := Lib.hid (below_of_grown HBLV.out HG6.out (by omega))
            have HO6 := Lib.hid (own_kept HOV.out HG6.out (by simp; omega))
            clear HRV HBV HRESV HBLV HOV HG6
            have c8 : x6.cell? ⟨x1.heap.size, 8, none⟩ = some (.string ⟨#[]⟩) := by rw [HBK6.out.cell]; rfl
            have f8 : x6.frozen? ⟨x1.heap.size, 8, none⟩ = false := HBK6.out.frozen 8
            have HF : Hid (DecX w x1.heap.size OB q (x6.setCell ⟨x1.heap.size, 8, none⟩ (.string ⟨ms.toArray⟩))) := Lib.hid (by
              obtain ⟨rfl, rfl⟩ := Prod.mk.inj HRO2.out
              have hO := own_kept HO6.out (gset x6 x1.heap.size 8 (.string ⟨ms.toArray⟩)) (by simp; omega)
              exact ⟨none, 0, pa, pc, HR6.out.set (by omega) _ _, HBK6.out.set 8 _, ⟨HB.out, World.ownsRow_nil _ _ _ _, own_le hO (by simp; omega)⟩, HRES6.out.other (by omega) _ _, HB6.out.setCell (by simp; omega) _⟩)
            clear HR6 HBK6 HRES6 HB6 HO6 HRO2
            go_wp2_with fail
            go_meet
            case rel => exact HF.out
          · have HRO2 := Lib.hid (by have := HRO.out; rw [if_neg (by omega), if_neg h2, if_neg h3] at this; exact this)
            have e1 : (k == 1) = false := by simpa using h1
            have e4 : (k == 4) = false := by simpa using h4
            have e2 : (k == 2) = false := by simpa using h2
            have e3 : (k == 3) = false := by simpa using h3
            clear HRO h1 h4 h2 h3
            have HF : Hid (DecX w x1.heap.size OB q (x1.alloc (.cells #[.int .i64 k, .string ⟨#[]⟩, .slice none 0 0, .int .u64 0, .int .u64 0, .slice none 0 0, .string ⟨#[]⟩, .int .i64 0, .string ⟨#[]⟩] 100))) := Lib.hid (by
              obtain ⟨rfl, rfl⟩ := Prod.mk.inj HRO2.out
              exact ⟨none, 0, none, 0, HR1.out.alloc _, HBK.out, ⟨HB.out, World.ownsRow_nil _ _ _ _, World.ownsRow_nil _ _ _ _⟩, HRES1.out.alloc _, HB1.out.alloc (by omega) _⟩)
            clear HR1 HBK HRO2 HB1 HRES1
            go_wp2_with fail
            go_meet
            case rel => exact HF.out

end Go.Proofs.YtdedfkljaeloiaaGreatDoor
