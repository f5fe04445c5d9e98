/- What a row's reading tells of files and edits that came in. -/
import Derived.Test.YtceacjnhkcikgaaGreatDoorTtRe
import Derived.Test.YtceacjnhkcikgaaGreatDoorK5
namespace Go.Proofs.YtceacjnhkcikgaaGreatDoor
open Go.ChangeShapes Go.WideShapes Go.ChangeAt Go.RowKit Go.Deep
set_option linter.unusedVariables false
section
variable {H : Type} {enc : TypeId × Value → H} {W : World}
set_option maxRecDepth 100000 in
theorem trod_fl {fuel : Nat} {cs : List Value} {x : DataW H × List MemPlace} (h : DataW.trod enc Tryz.prog W 0 (fun _ => true) true fuel 43 cs = some x) : ∃ f : Fl, cs = flCs f := by
  obtain ⟨xs, n, _, _, hl, hxl, hf⟩ := DataW.trod_struct Tryz.underlying43 h
  rw [show Tryz.prog.cellsOf 43 = 2 by kernel_rfl] at hl
  match cs, hl with
  | [c0, c1], _ =>
    match xs, hxl with
    | [x0, x1], _ =>
      obtain ⟨s, e0, _, _⟩ := DataW.trod_string Tryz.underlying9 (show DataW.trod enc Tryz.prog W 0 (fun _ => true) true n 9 [c0] = some x0 from hf 0 _ rfl)
      obtain ⟨d, e1, _, _⟩ := DataW.trod_string Tryz.underlying9 (show DataW.trod enc Tryz.prog W 0 (fun _ => true) true n 9 [c1] = some x1 from hf 1 _ rfl)
      cases e0
      cases e1
      exact ⟨⟨s.data.toList, d.data.toList⟩, by simp only [flCs]⟩
set_option maxRecDepth 100000 in
theorem trod_ed {fuel : Nat} {cs : List Value} {x : DataW H × List MemPlace} (h : DataW.trod enc Tryz.prog W 0 (fun _ => true) true fuel 38 cs = some x) : ∃ f : Ed, cs = edCs f := by
  obtain ⟨xs, n, _, _, hl, hxl, hf⟩ := DataW.trod_struct Tryz.underlying38 h
  rw [show Tryz.prog.cellsOf 38 = 3 by kernel_rfl] at hl
  match cs, hl with
  | [c0, c1, c2], _ =>
    match xs, hxl with
    | [x0, x1, x2], _ =>
      obtain ⟨b, e0, _⟩ := DataW.trod_bool Tryz.underlying4 (show DataW.trod enc Tryz.prog W 0 (fun _ => true) true n 4 [c0] = some x0 from hf 0 _ rfl)
      obtain ⟨s, e1, _, _⟩ := DataW.trod_string Tryz.underlying9 (show DataW.trod enc Tryz.prog W 0 (fun _ => true) true n 9 [c1] = some x1 from hf 1 _ rfl)
      obtain ⟨d, e2, _, _⟩ := DataW.trod_string Tryz.underlying9 (show DataW.trod enc Tryz.prog W 0 (fun _ => true) true n 9 [c2] = some x2 from hf 2 _ rfl)
      cases e0
      cases e1
      cases e2
      exact ⟨⟨b, s.data.toList, d.data.toList⟩, by simp only [edCs]⟩
set_option maxRecDepth 100000 in
theorem open_files {r : Reach} {b0 : Nat} {v : Value} {d : DataW H} {p : List MemPlace} (hv : Value.okWide Tryz.prog W r b0 22 v) (h : DataW.Trod enc Tryz.prog W 0 (fun _ => true) true 22 v d p) :
    ∃ (a : Option Addr) (l : List Fl) (c : Nat), v = .slice a l.length c ∧ Fls W.heap.size W a l ∧ (l.length : Int) ≤ 9223372036854775807 := by
  obtain ⟨a, len, cap, rfl⟩ := okWide_slice Tryz.underlying22 hv
  obtain ⟨fuel, hf⟩ := h
  obtain ⟨hl, hr⟩ := open_rows Tryz.underlying22 (C := 2) (by kernel_rfl) (by decide) hf
  obtain ⟨xs, hxs, hq⟩ := list_of (fun i (e : Fl) => ∃ b off, a = some ⟨b, off, none⟩ ∧ b < W.heap.size ∧ ∀ j v, (flCs e)[j]? = some v → W.cell? ⟨b, off + i * 2 + j, none⟩ = some v) len (fun i hi => by
    obtain ⟨b, off, cs, n, y, ha, hb, _, hcell, ht⟩ := hr i hi
    obtain ⟨e, rfl⟩ := trod_fl ht
    exact ⟨e, b, off, ha, hb, hcell⟩)
  refine ⟨a, xs, cap, by rw [hxs], fun i hi => hq i hi, ?_⟩
  have := hl.1
  have := hl.2
  unfold maxLen at this
  omega
set_option maxRecDepth 100000 in
theorem open_edits {r : Reach} {b0 : Nat} {v : Value} {d : DataW H} {p : List MemPlace} (hv : Value.okWide Tryz.prog W r b0 23 v) (h : DataW.Trod enc Tryz.prog W 0 (fun _ => true) true 23 v d p) :
    ∃ (a : Option Addr) (l : List Ed) (c : Nat), v = .slice a l.length c ∧ Eds W.heap.size W a l ∧ (l.length : Int) ≤ 9223372036854775807 := by
  obtain ⟨a, len, cap, rfl⟩ := okWide_slice Tryz.underlying23 hv
  obtain ⟨fuel, hf⟩ := h
  obtain ⟨hl, hr⟩ := open_rows Tryz.underlying23 (C := 3) (by kernel_rfl) (by decide) hf
  obtain ⟨xs, hxs, hq⟩ := list_of (fun i (e : Ed) => ∃ b off, a = some ⟨b, off, none⟩ ∧ b < W.heap.size ∧ ∀ j v, (edCs e)[j]? = some v → W.cell? ⟨b, off + i * 3 + j, none⟩ = some v) len (fun i hi => by
    obtain ⟨b, off, cs, n, y, ha, hb, _, hcell, ht⟩ := hr i hi
    obtain ⟨e, rfl⟩ := trod_ed ht
    exact ⟨e, b, off, ha, hb, hcell⟩)
  refine ⟨a, xs, cap, by rw [hxs], fun i hi => hq i hi, ?_⟩
  have := hl.1
  have := hl.2
  unfold maxLen at this
  omega
end
end Go.Proofs.YtceacjnhkcikgaaGreatDoor
