/- object.reader.entry. -/
import Derived.Test.YtlfodnehgedpmaaObRg
namespace Go.Proofs.Ytlfodnehgedpmaa
open Go.RowKit Go.Shelf
set_option linter.unusedVariables false

def rEnt (r : RS) : Ent × RS :=
  (⟨(rStr r).1, (rNum (rStr r).2).1 == 1, (rDig ((rNum (rStr r).2).2.1, (rNum (rStr r).2).2.2 || decide (1 < (rNum (rStr r).2).1))).1⟩, (rDig ((rNum (rStr r).2).2.1, (rNum (rStr r).2).2.2 || decide (1 < (rNum (rStr r).2).1))).2)
theorem RD.alloc {b : Nat} {r : RS} {W : World} (h : RD b r W) (o : Obj) : RD b r (W.alloc o) := (Below.heap_alloc _ _ _ (Array.getElem?_eq_some_iff.1 h).1).trans h
theorem RD.lt {b : Nat} {r : RS} {W : World} (h : RD b r W) : b < W.heap.size := (Array.getElem?_eq_some_iff.1 h).1
theorem rStr_len (r : RS) : (rStr r).2.1.length ≤ r.1.length := by unfold rStr; simp
theorem rNum_len (r : RS) : (rNum r).2.1.length ≤ r.1.length := by unfold rNum; simp

theorem gnew {w x : World} {r : Option Nat} (h : w.grownBy x r) {c : Nat} (hc : w.heap.size ≤ c) (j : Nat) (v : Value) : w.grownBy (x.setCell ⟨c, j, none⟩ v) r :=
  ⟨h.os, h.tape, h.output, by have := h.size; simpa using this, fun k hk hr => (Below.heap_setCell _ _ _ _ (by simp; omega)).trans (h.block k hk hr)⟩
theorem gown {w x : World} {b : Nat} (h : w.grownBy x (some b)) (j : Nat) (v : Value) : w.grownBy (x.setCell ⟨b, j, none⟩ v) (some b) := gtrans h (gset _ _ _ _)
theorem galloc {w x : World} {r : Option Nat} (h : w.grownBy x r) (o : Obj) : w.grownBy (x.alloc o) r := gtrans h (World.grownBy_alloc _ _ _)
theorem grefl (w : World) (r : Option Nat) : w.grownBy w r := ⟨rfl, rfl, rfl, Nat.le_refl _, fun _ _ _ => rfl⟩
theorem RD.set {b : Nat} {r : RS} {W : World} (h : RD b r W) {c : Nat} (hc : c ≠ b) (j : Nat) (v : Value) : RD b r (W.setCell ⟨c, j, none⟩ v) := (Below.heap_setCell _ _ _ _ (by simp; omega)).trans h

set_option maxRecDepth 100000 in
set_option maxHeartbeats 2000000 in
theorem rentry_any (b : Nat) (r : RS) (w : World) (h : RD b r w) (hl : (r.1.length : Int) ≤ 140737488355328) :
    Calls Try.prog 44 #[.pointer (some ⟨b, 0, none⟩)] w fun e w' => e = .returned (.agg #[.string ⟨(rEnt r).1.name.toArray⟩, .bool (rEnt r).1.dir, .int .u64 (rEnt r).1.d.1, .int .u64 (rEnt r).1.d.2]) ∧ Hid (RD b (rEnt r).2 w') ∧ Hid (w.grownBy w' (some b)) := by
  have hl1 := rStr_len r
  have hl2 := rNum_len (rStr r).2
  have hbw := h.lt
  have HE : Hid (rEnt r = (⟨(rStr r).1, (rNum (rStr r).2).1 == 1, (rDig ((rNum (rStr r).2).2.1, (rNum (rStr r).2).2.2 || decide (1 < (rNum (rStr r).2).1))).1⟩, (rDig ((rNum (rStr r).2).2.1, (rNum (rStr r).2).2.2 || decide (1 < (rNum (rStr r).2).1))).2)) := Lib.hid rfl
  have HS := Lib.hid (fun W hW => rstring_any b r W hW hl)
  generalize rStr r = s1 at HE HS hl1 hl2
  obtain ⟨s, r1⟩ := s1
  simp only at HE HS hl1 hl2
  have HN := Lib.hid (fun W hW => rnumber_any b r1 W hW (by omega))
  generalize rNum r1 = s2 at HE HN hl2
  obtain ⟨n, r2⟩ := s2
  simp only at HE HN hl2
  obtain ⟨l2, bad2⟩ := r2
  simp only at HE hl2
  have HD := Lib.hid (fun W hW => rdigest_any b (l2, bad2 || decide (1 < n)) W hW (by simp only; omega))
  generalize rDig (l2, bad2 || decide (1 < n)) = s3 at HE HD
  obtain ⟨⟨d1, d2⟩, r3⟩ := s3
  simp only at HE HD
  rw [HE.out]
  have HH := Lib.hid h
  clear h HE
  go_enter Try.func44, Try.ntmps44
  go_wp2_with fail
  refine (HS.out _ (HH.out.alloc _)).mono ?_
  rintro e x1 ⟨rfl, HR1, HG1⟩
  go_wp2_with fail
  refine (HN.out _ (HR1.out.alloc _)).mono ?_
  rintro e x2 ⟨rfl, HR2, HG2⟩
  have hx1 : w.heap.size < x1.heap.size := by have := HG1.out.size; simp at this; omega
  have hb2 := HR2.out
  have hE2 : x2.heap[x1.heap.size]? = some (.cells #[.string ⟨s.toArray⟩, .bool false, .int .u64 0, .int .u64 0] 42 (0, 0)) := (HG2.out.block _ (by simp) (fun e => by have := Option.some.inj e; have := HR1.out.lt; omega)).trans (World.alloc_heap_new _ _)
  have c1 : x2.cell? ⟨b, 1, none⟩ = some (.bool bad2) := by rw [Lib.cell_of_heap hb2]; rfl
  have f1 : x2.frozen? ⟨b, 1, none⟩ = false := Lib.frozen_of_heap hb2 1
  have k1 : x2.cell? ⟨x1.heap.size, 1, none⟩ = some (.bool false) := by rw [Lib.cell_of_heap hE2]; rfl
  have k2 : x2.frozen? ⟨x1.heap.size, 1, none⟩ = false := Lib.frozen_of_heap hE2 1
  have hneb : x1.heap.size ≠ b := by omega
  have HE2 := Lib.hid hE2
  have HZ2 : Hid (x2.heap[w.heap.size]? = some (.cells #[.string ⟨#[]⟩, .bool false, .int .u64 0, .int .u64 0] 42 (0, 0))) := Lib.hid ((HG2.out.block _ (by simp; omega) (fun e => by have := Option.some.inj e; omega)).trans ((Below.heap_alloc _ _ _ hx1).trans ((HG1.out.block _ (by simp) (fun e => by have := Option.some.inj e; omega)).trans (World.alloc_heap_new _ _))))
  clear hb2 hE2
  cases bad2 with
  | true =>
    have HR3 : Hid (RD b (l2, true) (x2.setCell ⟨b, 1, none⟩ (.bool true))) := Lib.hid (set_cells HR2.out 1 _)
    have HR4 : Hid (RD b (l2, true) ((x2.setCell ⟨b, 1, none⟩ (.bool true)).setCell ⟨x1.heap.size, 1, none⟩ (.bool (n == 1)))) := Lib.hid ((Below.heap_setCell _ _ _ _ (by simp; omega)).trans HR3.out)
    go_wp2_with fail
    have hx := HD.out _ HR4.out
    (with_reducible refine hx.mono ?_)
    clear hx
    rintro e x3 ⟨rfl, HR5, HG3⟩
    have hE3 : x3.heap[x1.heap.size]? = some (.cells #[.string ⟨s.toArray⟩, .bool (n == 1), .int .u64 0, .int .u64 0] 42 (0, 0)) := (HG3.out.block _ (by have := (Array.getElem?_eq_some_iff.1 HE2.out).1; simpa using this) (fun e => hneb (Option.some.inj e))).trans (set_cells ((Below.heap_setCell _ _ _ _ (by simpa using hneb)).trans HE2.out) 1 _)
    have m0 : x3.cell? ⟨x1.heap.size, 0, none⟩ = some (.string ⟨s.toArray⟩) := by rw [Lib.cell_of_heap hE3]; rfl
    have m1 : x3.cell? ⟨x1.heap.size, 1, none⟩ = some (.bool (n == 1)) := by rw [Lib.cell_of_heap hE3]; rfl
    have m2 : x3.cell? ⟨x1.heap.size, 2, none⟩ = some (.int .u64 0) := by rw [Lib.cell_of_heap hE3]; rfl
    have m3 : x3.cell? ⟨x1.heap.size, 3, none⟩ = some (.int .u64 0) := by rw [Lib.cell_of_heap hE3]; rfl
    have p2 : x3.frozen? ⟨x1.heap.size, 2, none⟩ = false := Lib.frozen_of_heap hE3 2
    have p3 : x3.frozen? ⟨x1.heap.size, 3, none⟩ = false := Lib.frozen_of_heap hE3 3
    have hZ3 : x3.heap[w.heap.size]? = some (.cells #[.string ⟨#[]⟩, .bool false, .int .u64 0, .int .u64 0] 42 (0, 0)) := (HG3.out.block _ (by have := HG2.out.size; simp at this; simp; omega) (fun e => by have := Option.some.inj e; omega)).trans ((Below.heap_setCell _ _ _ _ (by simp; omega)).trans ((Below.heap_setCell _ _ _ _ (by simp; omega)).trans HZ2.out))
    have o0 : x3.cell? ⟨w.heap.size, 0, none⟩ = some (.string ⟨#[]⟩) := by rw [Lib.cell_of_heap hZ3]; rfl
    have o1 : x3.cell? ⟨w.heap.size, 1, none⟩ = some (.bool false) := by rw [Lib.cell_of_heap hZ3]; rfl
    have o2 : x3.cell? ⟨w.heap.size, 2, none⟩ = some (.int .u64 0) := by rw [Lib.cell_of_heap hZ3]; rfl
    have o3 : x3.cell? ⟨w.heap.size, 3, none⟩ = some (.int .u64 0) := by rw [Lib.cell_of_heap hZ3]; rfl
    have q0 : x3.frozen? ⟨w.heap.size, 0, none⟩ = false := Lib.frozen_of_heap hZ3 0
    have q1 : x3.frozen? ⟨w.heap.size, 1, none⟩ = false := Lib.frozen_of_heap hZ3 1
    have q2 : x3.frozen? ⟨w.heap.size, 2, none⟩ = false := Lib.frozen_of_heap hZ3 2
    have q3 : x3.frozen? ⟨w.heap.size, 3, none⟩ = false := Lib.frozen_of_heap hZ3 3
    have hne9 : x1.heap.size ≠ w.heap.size := by omega
    clear hE3 hZ3 c1 f1 k1 k2
    go_wp2_with fail
    refine bodyPost_ret (v := .agg #[.string ⟨s.toArray⟩, .bool (n == 1), .int .u64 d1, .int .u64 d2]) (by simp [results, Try.results44, go_sem, o0, o1, o2, o3]) rfl ⟨rfl, Lib.hid ?_, Lib.hid ?_⟩
    · exact (((((HR5.out.set (by omega) _ _).set (by omega) _ _).set (by omega) _ _).set (by omega) _ _).set (by omega) _ _).set (by omega) _ _
    · exact gnew (gnew (gnew (gnew (gnew (gnew (gtrans (gnew (gown (gtrans (galloc (gtrans (galloc (grefl w _) _) HG1.out) _) HG2.out) _ _) (by omega) _ _) HG3.out) (by omega) _ _) (by omega) _ _) (by omega) _ _) (by omega) _ _) (by omega) _ _) (by omega) _ _
  | false =>
    simp only [Bool.false_or] at HD
    have HR3 : Hid (RD b (l2, decide (1 < n)) (x2.setCell ⟨b, 1, none⟩ (.bool (decide (1 < n))))) := Lib.hid (set_cells HR2.out 1 _)
    have HR4 : Hid (RD b (l2, decide (1 < n)) ((x2.setCell ⟨b, 1, none⟩ (.bool (decide (1 < n)))).setCell ⟨x1.heap.size, 1, none⟩ (.bool (n == 1)))) := Lib.hid ((Below.heap_setCell _ _ _ _ (by simp; omega)).trans HR3.out)
    go_wp2_with fail
    have hx := HD.out _ HR4.out
    (with_reducible refine hx.mono ?_)
    clear hx
    rintro e x3 ⟨rfl, HR5, HG3⟩
    have hE3 : x3.heap[x1.heap.size]? = some (.cells #[.string ⟨s.toArray⟩, .bool (n == 1), .int .u64 0, .int .u64 0] 42 (0, 0)) := (HG3.out.block _ (by have := (Array.getElem?_eq_some_iff.1 HE2.out).1; simpa using this) (fun e => hneb (Option.some.inj e))).trans (set_cells ((Below.heap_setCell _ _ _ _ (by simpa using hneb)).trans HE2.out) 1 _)
    have m0 : x3.cell? ⟨x1.heap.size, 0, none⟩ = some (.string ⟨s.toArray⟩) := by rw [Lib.cell_of_heap hE3]; rfl
    have m1 : x3.cell? ⟨x1.heap.size, 1, none⟩ = some (.bool (n == 1)) := by rw [Lib.cell_of_heap hE3]; rfl
    have m2 : x3.cell? ⟨x1.heap.size, 2, none⟩ = some (.int .u64 0) := by rw [Lib.cell_of_heap hE3]; rfl
    have m3 : x3.cell? ⟨x1.heap.size, 3, none⟩ = some (.int .u64 0) := by rw [Lib.cell_of_heap hE3]; rfl
    have p2 : x3.frozen? ⟨x1.heap.size, 2, none⟩ = false := Lib.frozen_of_heap hE3 2
    have p3 : x3.frozen? ⟨x1.heap.size, 3, none⟩ = false := Lib.frozen_of_heap hE3 3
    have hZ3 : x3.heap[w.heap.size]? = some (.cells #[.string ⟨#[]⟩, .bool false, .int .u64 0, .int .u64 0] 42 (0, 0)) := (HG3.out.block _ (by have := HG2.out.size; simp at this; simp; omega) (fun e => by have := Option.some.inj e; omega)).trans ((Below.heap_setCell _ _ _ _ (by simp; omega)).trans ((Below.heap_setCell _ _ _ _ (by simp; omega)).trans HZ2.out))
    have o0 : x3.cell? ⟨w.heap.size, 0, none⟩ = some (.string ⟨#[]⟩) := by rw [Lib.cell_of_heap hZ3]; rfl
    have o1 : x3.cell? ⟨w.heap.size, 1, none⟩ = some (.bool false) := by rw [Lib.cell_of_heap hZ3]; rfl
    have o2 : x3.cell? ⟨w.heap.size, 2, none⟩ = some (.int .u64 0) := by rw [Lib.cell_of_heap hZ3]; rfl
    have o3 : x3.cell? ⟨w.heap.size, 3, none⟩ = some (.int .u64 0) := by rw [Lib.cell_of_heap hZ3]; rfl
    have q0 : x3.frozen? ⟨w.heap.size, 0, none⟩ = false := Lib.frozen_of_heap hZ3 0
    have q1 : x3.frozen? ⟨w.heap.size, 1, none⟩ = false := Lib.frozen_of_heap hZ3 1
    have q2 : x3.frozen? ⟨w.heap.size, 2, none⟩ = false := Lib.frozen_of_heap hZ3 2
    have q3 : x3.frozen? ⟨w.heap.size, 3, none⟩ = false := Lib.frozen_of_heap hZ3 3
    have hne9 : x1.heap.size ≠ w.heap.size := by omega
    clear hE3 hZ3 c1 f1 k1 k2
    go_wp2_with fail
    refine bodyPost_ret (v := .agg #[.string ⟨s.toArray⟩, .bool (n == 1), .int .u64 d1, .int .u64 d2]) (by simp [results, Try.results44, go_sem, o0, o1, o2, o3]) rfl ⟨rfl, Lib.hid ?_, Lib.hid ?_⟩
    · exact (((((HR5.out.set (by omega) _ _).set (by omega) _ _).set (by omega) _ _).set (by omega) _ _).set (by omega) _ _).set (by omega) _ _
    · exact gnew (gnew (gnew (gnew (gnew (gnew (gtrans (gnew (gown (gtrans (galloc (gtrans (galloc (grefl w _) _) HG1.out) _) HG2.out) _ _) (by omega) _ _) HG3.out) (by omega) _ _) (by omega) _ _) (by omega) _ _) (by omega) _ _) (by omega) _ _) (by omega) _ _

end Go.Proofs.Ytlfodnehgedpmaa
