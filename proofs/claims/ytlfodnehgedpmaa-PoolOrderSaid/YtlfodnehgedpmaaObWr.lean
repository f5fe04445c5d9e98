/- object.writer's methods. -/
import Derived.Test.YtlfodnehgedpmaaObCh
import Derived.Lib.AppendStr
namespace Go.Proofs.Ytlfodnehgedpmaa
open Go.RowKit Go.Shelf
set_option linter.unusedVariables false

/-- A writer with a text, and all that was there when it began. -/
structure WR (w w0 : World) (b : Nat) (l : List UInt8) (bad : Bool) (wr : World) : Prop where
  cell : ∃ v, wr.heap[b]? = some (.cells #[v, .bool bad] 63 (0, 0)) ∧ wr.ownsRow w.heap.size 5 1 v l.length (Lib.byteCells l) ∧ v.ownBlock ≠ some b
  bel : Below w.heap.size w wr
  kept : Kept b w0 wr
  le : w.heap.size ≤ b
theorem row_kind {w : World} {B : Nat} {v : Value} {n : Nat} {xs : List Value} (h : w.ownsRow B 5 1 v n xs) : ∀ g, v.ownBlock = some g → ∃ c fz, w.heap[g]? = some (.cells c 5 fz) := Lib.ownsRowF_kind (World.ownsRowF_of h)
theorem kept_below {b : Nat} {w W X : World} (h : Kept b w W) (hb : Below W.heap.size W X) : Kept b w X := fun k o hk hkb ho => by
  have h1 := h k o hk hkb ho
  exact (hb.block k (Array.getElem?_eq_some_iff.1 h1).1).trans h1
theorem WR.below {w w0 wr x : World} {b : Nat} {l : List UInt8} {bad : Bool} (h : WR w w0 b l bad wr) (hb : Below wr.heap.size wr x) : WR w w0 b l bad x := by
  obtain ⟨⟨v, h1, h2, h3⟩, h4, h5, h6⟩ := h
  refine ⟨⟨v, (hb.block b (Array.getElem?_eq_some_iff.1 h1).1).trans h1, h2.kept (row := none) ⟨hb.os, hb.tape, hb.output, hb.size, fun k hk _ => hb.block k hk⟩ ?_, h3⟩, h4.trans (hb.mono h4.size), kept_below h5 hb, h6⟩
  cases h2 : v.ownBlock with
  | none => exact .inl rfl
  | some k => exact .inr (by simp)
theorem WR.block {w w0 wr : World} {b : Nat} {l : List UInt8} {bad : Bool} (h : WR w w0 b l bad wr) {k : Nat} {cs : Array Value} {t : TypeId} {fz : Nat × Nat} (hk : w0.heap[k]? = some (.cells cs t fz)) (hkb : k ≠ b) (ht : t ≠ 5) : wr.heap[k]? = some (.cells cs t fz) :=
  h.kept k _ hk (fun e => hkb (Option.some.inj e)) (fun c f e => by cases e; exact ht rfl)
/-- Behind an append to the text and the store of the new slice. -/
theorem WR.put {w w0 wr x : World} {b : Nat} {l l' : List UInt8} {bad : Bool} {v v' : Value} (h : WR w w0 b l bad wr) (hv : wr.heap[b]? = some (.cells #[v, .bool bad] 63 (0, 0))) (ho : wr.ownsRow w.heap.size 5 1 v l.length (Lib.byteCells l)) (hne : v.ownBlock ≠ some b)
    (hg : wr.grownBy x v.ownBlock) (ho' : x.ownsRow w.heap.size 5 1 v' l'.length (Lib.byteCells l')) : WR w w0 b l' bad (x.setCell ⟨b, 0, none⟩ v') := by
  have hb : b < wr.heap.size := (Array.getElem?_eq_some_iff.1 hv).1
  have hbx : x.heap[b]? = some (.cells #[v, .bool bad] 63 (0, 0)) := (hg.block b hb (fun e => hne e.symm)).trans hv
  have hne' : v'.ownBlock ≠ some b := fun e => by
    obtain ⟨c, fz, hc⟩ := row_kind ho' b e
    rw [hbx] at hc
    cases hc
  refine ⟨⟨v', ?_, ho'.kept (gset _ _ _ _) (.inr hne'), hne'⟩, (h.bel.grown hg h.bel.size (fun k hk => (ho.lt k hk).1)).setCell h.le _, (h.kept.grown hg (row_kind ho)).setCell ⟨b, 0, none⟩ rfl _, h.le⟩
  simp [World.setCell, Array.getElem?_modify, hbx]
/-- Behind a store of the mark. -/
theorem WR.mark {w w0 wr : World} {b : Nat} {l : List UInt8} {bad : Bool} (h : WR w w0 b l bad wr) (bad' : Bool) : WR w w0 b l bad' (wr.setCell ⟨b, 1, none⟩ (.bool bad')) := by
  obtain ⟨⟨v, h1, h2, h3⟩, h4, h5, h6⟩ := h
  refine ⟨⟨v, ?_, h2.kept (gset _ _ _ _) (.inr h3), h3⟩, h4.setCell h6 _, h5.setCell ⟨b, 1, none⟩ rfl _, h6⟩
  simp [World.setCell, Array.getElem?_modify, h1]

theorem putInt_in (n : Int) (h0 : 0 ≤ n) (h1 : n ≤ 1099511627776) (w : World) : Calls Try.prog 36 #[.int .i64 n] w fun e w' => e = .returned (.tuple #[.string ⟨(Cw.enc n.toNat).toArray⟩, .int .i64 0]) ∧ Below w.heap.size w w' := by
  have h := putInt_any n w
  have : putI n = (Cw.enc n.toNat, 0) := by unfold putI; rw [if_pos ((Cw.inR_iff n).2 ⟨h0, h1⟩)]
  rw [this] at h
  exact h

set_option maxRecDepth 100000 in
set_option maxHeartbeats 1000000 in
theorem wnumber_any {w w0 wr : World} {b : Nat} {l : List UInt8} {bad : Bool} (h : WR w w0 b l bad wr) (n : Int) (h0 : 0 ≤ n) (h1 : n ≤ 1099511627776) (hl : (l.length : Int) ≤ 70000000000000) :
    Calls Try.prog 20 #[.pointer (some ⟨b, 0, none⟩), .int .i64 n] wr fun e w' => e = .returned (.tuple #[]) ∧ Hid (WR w w0 b (l ++ Cw.enc n.toNat) bad w') ∧ Hid (Kept b wr w') := by
  have HP := Lib.hid (fun W => putInt_in n h0 h1 W)
  have hel := enc_length n.toNat
  generalize Cw.enc n.toNat = E at HP hel ⊢
  obtain ⟨i0, hi, hz0, hz1, hz2⟩ := info_parts infoByte
  have HZ0 := Lib.hid hz0
  have HZ1 := Lib.hid hz1
  have HZ2 := Lib.hid hz2
  clear hz0 hz1 hz2 h0 h1
  have HW := Lib.hid h
  have HK : Hid (WR w wr b l bad wr) := Lib.hid ⟨h.cell, h.bel, Lib.OthersKept.refl _ _ _, h.le⟩
  clear h
  go_enter Try.func20, Try.ntmps20
  go_wp2_with fail
  refine (HP.out _).mono ?_
  rintro e x1 ⟨rfl, hb1⟩
  have HW1 := Lib.hid (HW.out.below hb1)
  have HK1 := Lib.hid (HK.out.below hb1)
  clear hb1 HW HK
  obtain ⟨v, hv, hown, hne⟩ := HW1.out.cell
  have c0 : x1.cell? ⟨b, 0, none⟩ = some v := by rw [Lib.cell_of_heap hv]; rfl
  have c1 : x1.cell? ⟨b, 1, none⟩ = some (.bool bad) := by rw [Lib.cell_of_heap hv]; rfl
  have f0 : x1.frozen? ⟨b, 0, none⟩ = false := Lib.frozen_of_heap hv 0
  have f1 : x1.frozen? ⟨b, 1, none⟩ = false := Lib.frozen_of_heap hv 1
  have HV0 := Lib.hid hv
  have HO0 := Lib.hid hown
  have HNE := Lib.hid hne
  have hxs : w.heap.size ≤ x1.heap.size := HW1.out.bel.size
  clear hv hown hne
  have hEl : (⟨E.toArray⟩ : ByteArray).size = E.length := ba_len E
  have HEl := Lib.hid hEl
  clear hEl
  cases bad with
  | true =>
    have HV2 : Hid ((x1.setCell ⟨b, 1, none⟩ (.bool true)).heap[b]? = some (.cells #[v, .bool true] 63 (0, 0))) := Lib.hid (by simp [World.setCell, Array.getElem?_modify, HV0.out])
    go_wp2_with (at_builtin; refine Lib.wpList_append_own_string _ rfl _ _ 61 9 rfl w.heap.size 5 i0 Try.underlying61 Try.underlying9 hi HZ0.out HZ1.out HZ2.out _ _ _ rfl (HO0.out.kept (gset _ _ _ _) (.inr HNE.out)) ⟨E.toArray⟩ rfl ?_ ?_ ?_ ?_)
    · rw [HEl.out]; unfold maxLen; omega
    · rw [HEl.out]; omega
    · simpa using hxs
    · intro v' x3 ho hg _
      rw [strCells_eq, ← byteCells_append, ← List.length_append] at ho
      have HOn := Lib.hid ho
      obtain ⟨ao, cap, rfl, _⟩ := ownsRow_sliceN ho
      have hbk : x3.heap[b]? = some (.cells #[v, .bool true] 63 (0, 0)) := (hg.block b (by simpa using (Array.getElem?_eq_some_iff.1 HV0.out).1) (fun e => HNE.out e.symm)).trans HV2.out
      have d0 : x3.cell? ⟨b, 0, none⟩ = some v := by rw [Lib.cell_of_heap hbk]; rfl
      have d1 : x3.frozen? ⟨b, 0, none⟩ = false := Lib.frozen_of_heap hbk 0
      have HF1 := Lib.hid ((HW1.out.mark true).put HV2.out (HO0.out.kept (gset _ _ _ _) (.inr HNE.out)) HNE.out hg HOn.out)
      have HF2 := Lib.hid ((HK1.out.mark true).put HV2.out (HO0.out.kept (gset _ _ _ _) (.inr HNE.out)) HNE.out hg HOn.out)
      rw [List.length_append] at HF1 HF2
      clear ho hg hbk HV0 HO0 HV2 HW1 HK1
      go_wp2_with fail
      go_end0
      exact ⟨rfl, HF1, Lib.hid HF2.out.kept⟩
  | false =>
    have HV2 : Hid ((x1.setCell ⟨b, 1, none⟩ (.bool false)).heap[b]? = some (.cells #[v, .bool false] 63 (0, 0))) := Lib.hid (by simp [World.setCell, Array.getElem?_modify, HV0.out])
    go_wp2_with (at_builtin; refine Lib.wpList_append_own_string _ rfl _ _ 61 9 rfl w.heap.size 5 i0 Try.underlying61 Try.underlying9 hi HZ0.out HZ1.out HZ2.out _ _ _ rfl (HO0.out.kept (gset _ _ _ _) (.inr HNE.out)) ⟨E.toArray⟩ rfl ?_ ?_ ?_ ?_)
    · rw [HEl.out]; unfold maxLen; omega
    · rw [HEl.out]; omega
    · simpa using hxs
    · intro v' x3 ho hg _
      rw [strCells_eq, ← byteCells_append, ← List.length_append] at ho
      have HOn := Lib.hid ho
      obtain ⟨ao, cap, rfl, _⟩ := ownsRow_sliceN ho
      have hbk : x3.heap[b]? = some (.cells #[v, .bool false] 63 (0, 0)) := (hg.block b (by simpa using (Array.getElem?_eq_some_iff.1 HV0.out).1) (fun e => HNE.out e.symm)).trans HV2.out
      have d0 : x3.cell? ⟨b, 0, none⟩ = some v := by rw [Lib.cell_of_heap hbk]; rfl
      have d1 : x3.frozen? ⟨b, 0, none⟩ = false := Lib.frozen_of_heap hbk 0
      have HF1 := Lib.hid ((HW1.out.mark false).put HV2.out (HO0.out.kept (gset _ _ _ _) (.inr HNE.out)) HNE.out hg HOn.out)
      have HF2 := Lib.hid ((HK1.out.mark false).put HV2.out (HO0.out.kept (gset _ _ _ _) (.inr HNE.out)) HNE.out hg HOn.out)
      rw [List.length_append] at HF1 HF2
      clear ho hg hbk HV0 HO0 HV2 HW1 HK1
      go_wp2_with fail
      go_end0
      exact ⟨rfl, HF1, Lib.hid HF2.out.kept⟩

theorem putText_in (T : List UInt8) (h : T.length ≤ 65536) (w : World) : Calls Try.prog 37 #[.string ⟨T.toArray⟩] w fun e w' => e = .returned (.tuple #[.string ⟨(putX T).toArray⟩, .int .i64 0]) ∧ Below w.heap.size w w' := by
  have h1 := putText_any ⟨T.toArray⟩ w (by rw [ba_len]; omega)
  have : putT T = (putX T, 0) := if_pos h
  simp only [this] at h1
  exact h1

set_option maxRecDepth 100000 in
set_option maxHeartbeats 1000000 in
theorem wstring_any {w w0 wr : World} {b : Nat} {l : List UInt8} {bad : Bool} (h : WR w w0 b l bad wr) (s : List UInt8) (h1 : s.length ≤ 65536) (hl : (l.length : Int) ≤ 70000000000000) :
    Calls Try.prog 21 #[.pointer (some ⟨b, 0, none⟩), .string ⟨s.toArray⟩] wr fun e w' => e = .returned (.tuple #[]) ∧ Hid (WR w w0 b (l ++ putX s) bad w') ∧ Hid (Kept b wr w') := by
  have HP := Lib.hid (fun W => putText_in s h1 W)
  have hel : (putX s).length ≤ 65546 := by have := enc_length s.length; rw [putX, List.length_append]; omega
  generalize putX s = E at HP hel ⊢
  obtain ⟨i0, hi, hz0, hz1, hz2⟩ := info_parts infoByte
  have HZ0 := Lib.hid hz0
  have HZ1 := Lib.hid hz1
  have HZ2 := Lib.hid hz2
  clear hz0 hz1 hz2 h1
  have HW := Lib.hid h
  have HK : Hid (WR w wr b l bad wr) := Lib.hid ⟨h.cell, h.bel, Lib.OthersKept.refl _ _ _, h.le⟩
  clear h
  go_enter Try.func21, Try.ntmps21
  go_wp2_with fail
  refine (HP.out _).mono ?_
  rintro e x1 ⟨rfl, hb1⟩
  have HW1 := Lib.hid (HW.out.below hb1)
  have HK1 := Lib.hid (HK.out.below hb1)
  clear hb1 HW HK
  obtain ⟨v, hv, hown, hne⟩ := HW1.out.cell
  have c0 : x1.cell? ⟨b, 0, none⟩ = some v := by rw [Lib.cell_of_heap hv]; rfl
  have c1 : x1.cell? ⟨b, 1, none⟩ = some (.bool bad) := by rw [Lib.cell_of_heap hv]; rfl
  have f0 : x1.frozen? ⟨b, 0, none⟩ = false := Lib.frozen_of_heap hv 0
  have f1 : x1.frozen? ⟨b, 1, none⟩ = false := Lib.frozen_of_heap hv 1
  have HV0 := Lib.hid hv
  have HO0 := Lib.hid hown
  have HNE := Lib.hid hne
  have hxs : w.heap.size ≤ x1.heap.size := HW1.out.bel.size
  clear hv hown hne
  have hEl : (⟨E.toArray⟩ : ByteArray).size = E.length := ba_len E
  have HEl := Lib.hid hEl
  clear hEl
  cases bad with
  | true =>
    have HV2 : Hid ((x1.setCell ⟨b, 1, none⟩ (.bool true)).heap[b]? = some (.cells #[v, .bool true] 63 (0, 0))) := Lib.hid (by simp [World.setCell, Array.getElem?_modify, HV0.out])
    go_wp2_with (at_builtin; refine Lib.wpList_append_own_string _ rfl _ _ 61 9 rfl w.heap.size 5 i0 Try.underlying61 Try.underlying9 hi HZ0.out HZ1.out HZ2.out _ _ _ rfl (HO0.out.kept (gset _ _ _ _) (.inr HNE.out)) ⟨E.toArray⟩ rfl ?_ ?_ ?_ ?_)
    · rw [HEl.out]; unfold maxLen; omega
    · rw [HEl.out]; omega
    · simpa using hxs
    · intro v' x3 ho hg _
      rw [strCells_eq, ← byteCells_append, ← List.length_append] at ho
      have HOn := Lib.hid ho
      obtain ⟨ao, cap, rfl, _⟩ := ownsRow_sliceN ho
      have hbk : x3.heap[b]? = some (.cells #[v, .bool true] 63 (0, 0)) := (hg.block b (by simpa using (Array.getElem?_eq_some_iff.1 HV0.out).1) (fun e => HNE.out e.symm)).trans HV2.out
      have d0 : x3.cell? ⟨b, 0, none⟩ = some v := by rw [Lib.cell_of_heap hbk]; rfl
      have d1 : x3.frozen? ⟨b, 0, none⟩ = false := Lib.frozen_of_heap hbk 0
      have HF1 := Lib.hid ((HW1.out.mark true).put HV2.out (HO0.out.kept (gset _ _ _ _) (.inr HNE.out)) HNE.out hg HOn.out)
      have HF2 := Lib.hid ((HK1.out.mark true).put HV2.out (HO0.out.kept (gset _ _ _ _) (.inr HNE.out)) HNE.out hg HOn.out)
      rw [List.length_append] at HF1 HF2
      clear ho hg hbk HV0 HO0 HV2 HW1 HK1
      go_wp2_with fail
      go_end0
      exact ⟨rfl, HF1, Lib.hid HF2.out.kept⟩
  | false =>
    have HV2 : Hid ((x1.setCell ⟨b, 1, none⟩ (.bool false)).heap[b]? = some (.cells #[v, .bool false] 63 (0, 0))) := Lib.hid (by simp [World.setCell, Array.getElem?_modify, HV0.out])
    go_wp2_with (at_builtin; refine Lib.wpList_append_own_string _ rfl _ _ 61 9 rfl w.heap.size 5 i0 Try.underlying61 Try.underlying9 hi HZ0.out HZ1.out HZ2.out _ _ _ rfl (HO0.out.kept (gset _ _ _ _) (.inr HNE.out)) ⟨E.toArray⟩ rfl ?_ ?_ ?_ ?_)
    · rw [HEl.out]; unfold maxLen; omega
    · rw [HEl.out]; omega
    · simpa using hxs
    · intro v' x3 ho hg _
      rw [strCells_eq, ← byteCells_append, ← List.length_append] at ho
      have HOn := Lib.hid ho
      obtain ⟨ao, cap, rfl, _⟩ := ownsRow_sliceN ho
      have hbk : x3.heap[b]? = some (.cells #[v, .bool false] 63 (0, 0)) := (hg.block b (by simpa using (Array.getElem?_eq_some_iff.1 HV0.out).1) (fun e => HNE.out e.symm)).trans HV2.out
      have d0 : x3.cell? ⟨b, 0, none⟩ = some v := by rw [Lib.cell_of_heap hbk]; rfl
      have d1 : x3.frozen? ⟨b, 0, none⟩ = false := Lib.frozen_of_heap hbk 0
      have HF1 := Lib.hid ((HW1.out.mark false).put HV2.out (HO0.out.kept (gset _ _ _ _) (.inr HNE.out)) HNE.out hg HOn.out)
      have HF2 := Lib.hid ((HK1.out.mark false).put HV2.out (HO0.out.kept (gset _ _ _ _) (.inr HNE.out)) HNE.out hg HOn.out)
      rw [List.length_append] at HF1 HF2
      clear ho hg hbk HV0 HO0 HV2 HW1 HK1
      go_wp2_with fail
      go_end0
      exact ⟨rfl, HF1, Lib.hid HF2.out.kept⟩

theorem putText_big (T : List UInt8) (h : 65536 < T.length) (hT : (T.length : Int) ≤ 9223372036854775807) (w : World) : Calls Try.prog 37 #[.string ⟨T.toArray⟩] w fun e w' => e = .returned (.tuple #[.string ⟨#[]⟩, .int .i64 4]) ∧ Below w.heap.size w w' := by
  have h1 := putText_any ⟨T.toArray⟩ w (by rw [ba_len]; omega)
  have : putT T = ([], 4) := if_neg (by omega)
  simp only [this] at h1
  exact h1

set_option maxRecDepth 100000 in
set_option maxHeartbeats 1000000 in
theorem wstring_big {w w0 wr : World} {b : Nat} {l : List UInt8} (h : WR w w0 b l false wr) (s : List UInt8) (h1 : 65536 < s.length) (hs : (s.length : Int) ≤ 9223372036854775807) (hl : (l.length : Int) ≤ 70000000000000) :
    Calls Try.prog 21 #[.pointer (some ⟨b, 0, none⟩), .string ⟨s.toArray⟩] wr fun e w' => e = .returned (.tuple #[]) ∧ Hid (WR w w0 b l true w') := by
  have HP := Lib.hid (fun W => putText_big s h1 hs W)
  obtain ⟨E, hE⟩ : ∃ E : List UInt8, E = [] := ⟨_, rfl⟩
  have hel : E.length ≤ 65546 := by rw [hE]; simp
  have HE := Lib.hid hE
  rw [show (⟨#[]⟩ : ByteArray) = ⟨E.toArray⟩ by rw [hE]] at HP
  clear hE
  obtain ⟨i0, hi, hz0, hz1, hz2⟩ := info_parts infoByte
  have HZ0 := Lib.hid hz0
  have HZ1 := Lib.hid hz1
  have HZ2 := Lib.hid hz2
  clear hz0 hz1 hz2 h1 hs
  have HW := Lib.hid h
  have HK : Hid (WR w wr b l false wr) := Lib.hid ⟨h.cell, h.bel, Lib.OthersKept.refl _ _ _, h.le⟩
  clear h
  go_enter Try.func21, Try.ntmps21
  go_wp2_with fail
  refine (HP.out _).mono ?_
  rintro e x1 ⟨rfl, hb1⟩
  have HW1 := Lib.hid (HW.out.below hb1)
  have HK1 := Lib.hid (HK.out.below hb1)
  clear hb1 HW HK
  obtain ⟨v, hv, hown, hne⟩ := HW1.out.cell
  have c0 : x1.cell? ⟨b, 0, none⟩ = some v := by rw [Lib.cell_of_heap hv]; rfl
  have c1 : x1.cell? ⟨b, 1, none⟩ = some (.bool false) := by rw [Lib.cell_of_heap hv]; rfl
  have f0 : x1.frozen? ⟨b, 0, none⟩ = false := Lib.frozen_of_heap hv 0
  have f1 : x1.frozen? ⟨b, 1, none⟩ = false := Lib.frozen_of_heap hv 1
  have HV0 := Lib.hid hv
  have HO0 := Lib.hid hown
  have HNE := Lib.hid hne
  have hxs : w.heap.size ≤ x1.heap.size := HW1.out.bel.size
  clear hv hown hne
  have hEl : (⟨E.toArray⟩ : ByteArray).size = E.length := ba_len E
  have HEl := Lib.hid hEl
  clear hEl
  have HV2 : Hid ((x1.setCell ⟨b, 1, none⟩ (.bool true)).heap[b]? = some (.cells #[v, .bool true] 63 (0, 0))) := Lib.hid (by simp [World.setCell, Array.getElem?_modify, HV0.out])
  go_wp2_with (at_builtin; refine Lib.wpList_append_own_string _ rfl _ _ 61 9 rfl w.heap.size 5 i0 Try.underlying61 Try.underlying9 hi HZ0.out HZ1.out HZ2.out _ _ _ rfl (HO0.out.kept (gset _ _ _ _) (.inr HNE.out)) ⟨E.toArray⟩ rfl ?_ ?_ ?_ ?_)
  · rw [HEl.out]; unfold maxLen; omega
  · rw [HEl.out]; omega
  · simpa using hxs
  · intro v' x3 ho hg _
    rw [strCells_eq, ← byteCells_append, ← List.length_append] at ho
    have HOn := Lib.hid ho
    obtain ⟨ao, cap, rfl, _⟩ := ownsRow_sliceN ho
    have hbk : x3.heap[b]? = some (.cells #[v, .bool true] 63 (0, 0)) := (hg.block b (by simpa using (Array.getElem?_eq_some_iff.1 HV0.out).1) (fun e => HNE.out e.symm)).trans HV2.out
    have d0 : x3.cell? ⟨b, 0, none⟩ = some v := by rw [Lib.cell_of_heap hbk]; rfl
    have d1 : x3.frozen? ⟨b, 0, none⟩ = false := Lib.frozen_of_heap hbk 0
    have HF1 := Lib.hid ((HW1.out.mark true).put HV2.out (HO0.out.kept (gset _ _ _ _) (.inr HNE.out)) HNE.out hg HOn.out)
    have HF2 := Lib.hid ((HK1.out.mark true).put HV2.out (HO0.out.kept (gset _ _ _ _) (.inr HNE.out)) HNE.out hg HOn.out)
    rw [List.length_append] at HF1 HF2
    clear ho hg hbk HV0 HO0 HV2 HW1 HK1
    go_wp2_with fail
    go_end0
    refine ⟨rfl, Lib.hid ?_⟩
    have h9 := HF1.out
    have hE := HE.out
    subst hE
    rw [List.append_nil] at h9
    exact h9

end Go.Proofs.Ytlfodnehgedpmaa
