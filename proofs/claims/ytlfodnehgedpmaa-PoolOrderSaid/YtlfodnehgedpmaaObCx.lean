/- object.Check, object.Name. -/
import Derived.Test.YtlfodnehgedpmaaObDl
import Derived.Test.YtlfodnehgedpmaaObRl
namespace Go.Proofs.Ytlfodnehgedpmaa
open Go.RowKit Go.Shelf
set_option linter.unusedVariables false

set_option maxRecDepth 100000 in
set_option maxHeartbeats 1000000 in
theorem ocheck_any (o : Ob) (ea : Option Addr) (ec : Nat) (pa : Option Addr) (pc : Nat) (w : World) (h : ObIn w o ea ec pa pc) :
    Calls Try.prog 29 #[o.val ea ec pa pc] w fun e w' => e = .returned (.int .i64 (encodeS o).2) ∧ Below w.heap.size w w' := by
  have HE := Lib.hid (fun W (hW : Below w.heap.size w W) => encode_any o ea ec pa pc W (h.below hW))
  generalize encodeS o = r at HE ⊢
  obtain ⟨T, er⟩ := r
  simp only at HE ⊢
  obtain ⟨kind, data, ents, ⟨t1, t2⟩, pars, author, time, msg⟩ := o
  simp only [Ob.val] at HE ⊢
  clear h
  generalize ents.length = ne at HE ⊢
  generalize pars.length = np at HE ⊢
  go_enter Try.func29, Try.ntmps29
  go_wp2_with fail
  have hx := HE.out _ ((Below.refl _ w).alloc (Nat.le_refl _) (.cells #[.int .i64 kind, .string ⟨data.toArray⟩, .slice ea ne ec, .int .u64 t1, .int .u64 t2, .slice pa np pc, .string ⟨author.toArray⟩, .int .i64 time, .string ⟨msg.toArray⟩] 33))
  (with_reducible refine hx.mono ?_)
  clear hx HE
  rintro e w1 ⟨rfl, hb⟩
  have HB := Lib.hid hb
  clear hb
  go_wp2_with fail
  go_ret
  exact ⟨rfl, ((Below.refl _ w).alloc (Nat.le_refl _) _).trans (HB.out.mono (by simp))⟩

/-- The digest of an object, and its error. -/
def nameS (o : Ob) : (Int × Int) × Int := if (encodeS o).2 ≠ 0 then ((0, 0), (encodeS o).2) else (digS (encodeS o).1, 0)
set_option maxRecDepth 100000 in
set_option maxHeartbeats 1000000 in
theorem name_any (o : Ob) (ea : Option Addr) (ec : Nat) (pa : Option Addr) (pc : Nat) (w : World) (h : ObIn w o ea ec pa pc) :
    Calls Try.prog 8 #[o.val ea ec pa pc] w fun e w' => e = .returned (.tuple #[.agg #[.int .u64 (nameS o).1.1, .int .u64 (nameS o).1.2], .int .i64 (nameS o).2]) ∧ Below w.heap.size w w' := by
  have HE := Lib.hid (fun W (hW : Below w.heap.size w W) => encode_any o ea ec pa pc W (h.below hW))
  have hlen : (encodeS o).1.length ≤ 65536 := by
    unfold encodeS
    split
    · simp
    · split
      · simp
      · simp only; omega
  unfold nameS
  generalize encodeS o = r at HE hlen ⊢
  obtain ⟨T, er⟩ := r
  simp only at HE hlen ⊢
  obtain ⟨kind, data, ents, ⟨t1, t2⟩, pars, author, time, msg⟩ := o
  simp only [Ob.val] at HE ⊢
  clear h
  generalize ents.length = ne at HE ⊢
  generalize pars.length = np at HE ⊢
  have HOf := Lib.hid (fun W => of_any T W (by omega))
  obtain ⟨R, hR⟩ : ∃ R, R = digS T := ⟨_, rfl⟩
  rw [← hR] at HOf ⊢
  obtain ⟨d1, d2⟩ := R
  clear hR
  simp only at HOf
  by_cases he : er = 0
  · subst he
    rw [if_neg (by simp)]
    go_enter Try.func8, Try.ntmps8
    go_wp2_with fail
    have hx := HE.out _ (((Below.refl _ w).alloc (Nat.le_refl _) (.cells #[.int .i64 kind, .string ⟨data.toArray⟩, .slice ea ne ec, .int .u64 t1, .int .u64 t2, .slice pa np pc, .string ⟨author.toArray⟩, .int .i64 time, .string ⟨msg.toArray⟩] 33)).alloc (by simp) (.cells #[.int .u64 0, .int .u64 0] 30))
    (with_reducible refine hx.mono ?_)
    clear hx HE
    rintro e w1 ⟨rfl, hb⟩
    have HB := Lib.hid hb
    have hz := hb.size
    simp at hz
    clear hb
    go_wp2_with fail
    have hx := HOf.out w1
    (with_reducible refine hx.mono ?_)
    clear hx HOf
    rintro e w2 ⟨rfl, hb⟩
    have HB2 := Lib.hid hb
    have hb1 : w2.heap[w.heap.size + 1]? = some (.cells #[.int .u64 0, .int .u64 0] 30 (0, 0)) := (hb.block _ (by omega)).trans ((HB.out.block _ (by simp)).trans (by simpa using World.alloc_heap_new (w.alloc (.cells #[.int .i64 kind, .string ⟨data.toArray⟩, .slice ea ne ec, .int .u64 t1, .int .u64 t2, .slice pa np pc, .string ⟨author.toArray⟩, .int .i64 time, .string ⟨msg.toArray⟩] 33)) (.cells #[.int .u64 0, .int .u64 0] 30)))
    have c0 : w2.cell? ⟨w.heap.size + 1, 0, none⟩ = some (.int .u64 0) := by rw [Lib.cell_of_heap hb1]; rfl
    have c1 : w2.cell? ⟨w.heap.size + 1, 1, none⟩ = some (.int .u64 0) := by rw [Lib.cell_of_heap hb1]; rfl
    have f0 : w2.frozen? ⟨w.heap.size + 1, 0, none⟩ = false := Lib.frozen_of_heap hb1 0
    have f1 : w2.frozen? ⟨w.heap.size + 1, 1, none⟩ = false := Lib.frozen_of_heap hb1 1
    clear hb hb1
    go_wp2_with fail
    refine bodyPost_ret (v := .tuple #[.agg #[.int .u64 d1, .int .u64 d2], .int .i64 0]) (by simp [results, Try.results8, go_sem, c0, c1]) rfl ⟨rfl, ?_⟩
    exact (((((Below.refl _ w).alloc (Nat.le_refl _) _).alloc (by simp) _).trans ((HB.out.trans (HB2.out.mono (by simpa using hz))).mono (by simp; omega))).setCell (by simp) _).setCell (by simp) _
  · rw [if_pos he]
    have hne : (er != 0) = true := by simpa using he
    clear he
    go_enter Try.func8, Try.ntmps8
    go_wp2_with fail
    have hx := HE.out _ (((Below.refl _ w).alloc (Nat.le_refl _) (.cells #[.int .i64 kind, .string ⟨data.toArray⟩, .slice ea ne ec, .int .u64 t1, .int .u64 t2, .slice pa np pc, .string ⟨author.toArray⟩, .int .i64 time, .string ⟨msg.toArray⟩] 33)).alloc (by simp) (.cells #[.int .u64 0, .int .u64 0] 30))
    (with_reducible refine hx.mono ?_)
    clear hx HE
    rintro e w1 ⟨rfl, hb⟩
    have HB := Lib.hid hb
    have hz := hb.size
    simp at hz
    have hb1 : w1.heap[w.heap.size + 1]? = some (.cells #[.int .u64 0, .int .u64 0] 30 (0, 0)) := (hb.block _ (by simp)).trans (by simpa using World.alloc_heap_new (w.alloc (.cells #[.int .i64 kind, .string ⟨data.toArray⟩, .slice ea ne ec, .int .u64 t1, .int .u64 t2, .slice pa np pc, .string ⟨author.toArray⟩, .int .i64 time, .string ⟨msg.toArray⟩] 33)) (.cells #[.int .u64 0, .int .u64 0] 30))
    have c0 : w1.cell? ⟨w.heap.size + 1, 0, none⟩ = some (.int .u64 0) := by rw [Lib.cell_of_heap hb1]; rfl
    have c1 : w1.cell? ⟨w.heap.size + 1, 1, none⟩ = some (.int .u64 0) := by rw [Lib.cell_of_heap hb1]; rfl
    have f0 : w1.frozen? ⟨w.heap.size + 1, 0, none⟩ = false := Lib.frozen_of_heap hb1 0
    have f1 : w1.frozen? ⟨w.heap.size + 1, 1, none⟩ = false := Lib.frozen_of_heap hb1 1
    clear hb hb1
    go_wp2_with fail
    refine bodyPost_ret (v := .tuple #[.agg #[.int .u64 0, .int .u64 0], .int .i64 er]) (by simp [results, Try.results8, go_sem, c0, c1]) rfl ⟨rfl, ?_⟩
    exact (((((Below.refl _ w).alloc (Nat.le_refl _) _).alloc (by simp) _).trans (HB.out.mono (by simp; omega))).setCell (by simp) _).setCell (by simp) _

end Go.Proofs.Ytlfodnehgedpmaa
