/- What a row's reading tells of digests, entries, objects and items that came in. -/
import Derived.Test.YtlfodnehgedpmaaPoAw
import Derived.ProofKit
import Derived.OpenShut
import Derived.ShutString
import Derived.Deep.Slices
import Derived.Deep.Fields
namespace Go.Proofs.Ytlfodnehgedpmaa
open Go.ChangeShapes Go.WideShapes Go.ChangeAt Go.RowKit Go.Deep

theorem list_of {α : Type} (Q : Nat → α → Prop) : ∀ (n : Nat), (∀ i, i < n → ∃ x, Q i x) → ∃ l : List α, l.length = n ∧ ∀ i (h : i < l.length), Q i l[i]
  | 0, _ => ⟨[], rfl, fun i h => by simp at h⟩
  | n + 1, h => by
    obtain ⟨l, hl, hq⟩ := list_of Q n (fun i hi => h i (by omega))
    obtain ⟨x, hx⟩ := h n (by omega)
    refine ⟨l ++ [x], by simp [hl], fun i hi => ?_⟩
    by_cases he : i < l.length
    · rw [List.getElem_append_left he]; exact hq i he
    · obtain rfl : i = l.length := by simp at hi; omega
      simpa [hl] using hx


section
variable {H : Type} {enc : TypeId × Value → H} {W : World}

theorem open_rows {t e : TypeId} {C : Nat} {a : Option Addr} {len cap fuel : Nat} {x : DataW H × List MemPlace} (ht : Try.prog.underlying t = some (.slice e)) (hC : Try.prog.cellsOf e = C) (h0 : 0 < C)
    (h : DataW.trod enc Try.prog W 0 (fun _ => true) true fuel t [.slice a len cap] = some x) :
    (len ≤ cap ∧ cap ≤ maxLen) ∧ ∀ i, i < len → ∃ b off cs n y, a = some ⟨b, off, none⟩ ∧ b < W.heap.size ∧ cs.length = C ∧ (∀ (j : Nat) (v : Value), cs[j]? = some v → W.cell? ⟨b, off + i * C + j, none⟩ = some v) ∧ DataW.trod enc Try.prog W 0 (fun _ => true) true n e cs = some y := by
  rcases open_slice ht h with ⟨hcs, _⟩ | ⟨ad, l, c, m, n, D, Pl, hcs, _, hl, hm, hmm, _, hi⟩
  · simp at hcs
    obtain ⟨rfl, rfl, rfl⟩ := hcs
    exact ⟨⟨Nat.le_refl _, Nat.zero_le _⟩, fun i hi => by omega⟩
  · simp at hcs
    obtain ⟨rfl, rfl, rfl⟩ := hcs
    refine ⟨⟨hl, hm⟩, fun i hlt => ?_⟩
    simp only [if_true] at hmm
    obtain ⟨cs0, hc0, _⟩ := hi 0 (by omega)
    obtain ⟨_, hcl0, hat0⟩ := World.cells?_some hc0
    rw [hC] at hcl0 hat0
    obtain ⟨b, off, spot⟩ := ad
    have e0 : W.cell? ((⟨b, off, spot⟩ : Addr).add 0) = some (cs0[0]'(by omega)) := by
      have := hat0 0 h0
      rw [List.getElem?_eq_getElem (by omega)] at this
      simpa [Addr.add] using this
    have hspot : spot = none := by simpa [Addr.add] using World.cell?_spot e0
    subst hspot
    obtain ⟨cs', hc, ht'⟩ := hi i (by omega)
    obtain ⟨_, hcl, hat⟩ := World.cells?_some hc
    rw [hC] at hcl hat
    have hlt0 : b < W.heap.size := by
      unfold World.cell? at e0
      simp only [Addr.add, if_true] at e0
      cases ho : W.heap[b]? with
      | none => simp [ho] at e0
      | some o => exact (Array.getElem?_eq_some_iff.1 ho).1
    refine ⟨b, off, cs', n, _, rfl, hlt0, hcl, fun j v hj => ?_, ht'⟩
    have hjl : j < C := by rw [← hcl]; exact (List.getElem?_eq_some_iff.1 hj).1
    have := hat j hjl
    rw [hj, Go.WideShapes.add_plain, Go.WideShapes.add_plain] at this
    exact this
set_option maxRecDepth 100000 in
theorem trod_digest {fuel : Nat} {cs : List Value} {x : DataW H × List MemPlace} (h : DataW.trod enc Try.prog W 0 (fun _ => true) true fuel 30 cs = some x) : ∃ p : Int × Int, cs = [.int .u64 p.1, .int .u64 p.2] ∧ (Lit.int .u64 p.1).wf = true ∧ (Lit.int .u64 p.2).wf = true := by
  obtain ⟨xs, n, _, _, hl, hxl, hf⟩ := DataW.trod_array Try.underlying30 h
  rw [show Try.prog.cellsOf 30 = 2 by kernel_rfl] at hl
  match cs, hl with
  | [c0, c1], _ =>
    match xs, hxl with
    | [x0, x1], _ =>
      obtain ⟨o, e0, _, w0⟩ := DataW.trod_int Try.underlying28 (show DataW.trod enc Try.prog W 0 (fun _ => true) true n 28 [c0] = some x0 from hf 0 (by decide))
      obtain ⟨s, e1, _, w1⟩ := DataW.trod_int Try.underlying28 (show DataW.trod enc Try.prog W 0 (fun _ => true) true n 28 [c1] = some x1 from hf 1 (by decide))
      cases e0
      cases e1
      exact ⟨(o, s), rfl, w0, w1⟩
/-- The digests of a list are digests. -/
def DigsOk (ds : List (Int × Int)) : Prop := ∀ d ∈ ds, (Lit.int .u64 d.1).wf = true ∧ (Lit.int .u64 d.2).wf = true
theorem open_digs {a : Option Addr} {len cap fuel : Nat} {x : DataW H × List MemPlace} (h : DataW.trod enc Try.prog W 0 (fun _ => true) true fuel 31 [.slice a len cap] = some x) : (len ≤ cap ∧ cap ≤ maxLen) ∧ ∃ ds : List (Int × Int), len = ds.length ∧ Digs W.heap.size W a ds ∧ DigsOk ds := by
  obtain ⟨hl, hr⟩ := open_rows Try.underlying31 (C := 2) (by kernel_rfl) (by decide) h
  obtain ⟨ds, hds, hq⟩ := list_of (fun i (p : Int × Int) => (∃ b off, a = some ⟨b, off, none⟩ ∧ b < W.heap.size ∧ W.cell? ⟨b, off + i * 2, none⟩ = some (.int .u64 p.1) ∧ W.cell? ⟨b, off + i * 2 + 1, none⟩ = some (.int .u64 p.2)) ∧ (Lit.int .u64 p.1).wf = true ∧ (Lit.int .u64 p.2).wf = true) len (fun i hi => by
    obtain ⟨b, off, cs, n, y, ha, hb, _, hcell, ht⟩ := hr i hi
    obtain ⟨p, rfl, w0, w1⟩ := trod_digest ht
    exact ⟨p, ⟨b, off, ha, hb, hcell 0 _ rfl, hcell 1 _ rfl⟩, w0, w1⟩)
  refine ⟨hl, ds, hds.symm, fun i hi => (hq i hi).1, fun d hd => ?_⟩
  obtain ⟨i, hi, rfl⟩ := List.getElem_of_mem hd
  exact (hq i hi).2
theorem trod_slice_val {t e : TypeId} {fuel : Nat} {c : Value} {x : DataW H × List MemPlace} (ht : Try.prog.underlying t = some (.slice e)) (h : DataW.trod enc Try.prog W 0 (fun _ => true) true fuel t [c] = some x) : ∃ a len cap, c = .slice a len cap := by
  rcases open_slice ht h with ⟨hcs, _⟩ | ⟨ad, l, c, m, n, D, Pl, hcs, _⟩
  · simp at hcs; exact ⟨_, _, _, hcs⟩
  · simp at hcs; exact ⟨_, _, _, hcs⟩

theorem okD_wf {d : Int × Int} (h0 : (Lit.int .u64 d.1).wf = true) (h1 : (Lit.int .u64 d.2).wf = true) : OkD d := by
  simp [Lit.wf, IntKind.min, IntKind.max, IntKind.signed, IntKind.bits] at h0 h1
  exact ⟨⟨by omega, by omega⟩, by omega, by omega⟩
set_option maxRecDepth 100000 in
theorem trod_ent {fuel : Nat} {cs : List Value} {x : DataW H × List MemPlace} (h : DataW.trod enc Try.prog W 0 (fun _ => true) true fuel 42 cs = some x) : ∃ e : Ent, cs = [.string ⟨e.name.toArray⟩, .bool e.dir, .int .u64 e.d.1, .int .u64 e.d.2] ∧ OkD e.d ∧ e.name.length ≤ maxLen := by
  obtain ⟨xs, n, _, _, hl, hxl, hf⟩ := DataW.trod_struct Try.underlying42 h
  rw [show Try.prog.cellsOf 42 = 4 by kernel_rfl] at hl
  match cs, hl with
  | [c0, c1, c2, c3], _ =>
    match xs, hxl with
    | [x0, x1, x2], _ =>
      obtain ⟨s, e0, _, ws⟩ := DataW.trod_string Try.underlying9 (show DataW.trod enc Try.prog W 0 (fun _ => true) true n 9 [c0] = some x0 from hf 0 _ rfl)
      obtain ⟨b, e1, _⟩ := DataW.trod_bool Try.underlying4 (show DataW.trod enc Try.prog W 0 (fun _ => true) true n 4 [c1] = some x1 from hf 1 _ rfl)
      obtain ⟨d, e2, w0, w1⟩ := trod_digest (show DataW.trod enc Try.prog W 0 (fun _ => true) true n 30 [c2, c3] = some x2 from hf 2 _ rfl)
      cases e0
      cases e1
      cases e2
      exact ⟨⟨s.data.toList, b, d⟩, by rw [← ba_eq (t := s) rfl], okD_wf w0 w1, ws⟩
theorem open_ents {a : Option Addr} {len cap fuel : Nat} {x : DataW H × List MemPlace} (h : DataW.trod enc Try.prog W 0 (fun _ => true) true fuel 27 [.slice a len cap] = some x) : (len ≤ cap ∧ cap ≤ maxLen) ∧ ∃ es : List Ent, len = es.length ∧ Ents W.heap.size W a es ∧ ∀ e ∈ es, OkD e.d ∧ e.name.length ≤ maxLen := by
  obtain ⟨hl, hr⟩ := open_rows Try.underlying27 (C := 4) (by kernel_rfl) (by decide) h
  obtain ⟨es, hes, hq⟩ := list_of (fun i (e : Ent) => (∃ b off, a = some ⟨b, off, none⟩ ∧ b < W.heap.size ∧ W.cell? ⟨b, off + i * 4, none⟩ = some (.string ⟨e.name.toArray⟩) ∧ W.cell? ⟨b, off + i * 4 + 1, none⟩ = some (.bool e.dir) ∧ W.cell? ⟨b, off + i * 4 + 2, none⟩ = some (.int .u64 e.d.1) ∧ W.cell? ⟨b, off + i * 4 + 3, none⟩ = some (.int .u64 e.d.2)) ∧ OkD e.d ∧ e.name.length ≤ maxLen) len (fun i hi => by
    obtain ⟨b, off, cs, n, y, ha, hb, _, hcell, ht⟩ := hr i hi
    obtain ⟨e, rfl, w0, w1⟩ := trod_ent ht
    exact ⟨e, ⟨b, off, ha, hb, hcell 0 _ rfl, hcell 1 _ rfl, hcell 2 _ rfl, hcell 3 _ rfl⟩, w0, w1⟩)
  refine ⟨hl, es, hes.symm, fun i hi => (hq i hi).1, fun e he => ?_⟩
  obtain ⟨i, hi, rfl⟩ := List.getElem_of_mem he
  exact (hq i hi).2
/-- An object that came in. -/
structure ObCame (W : World) (o : Ob) (ea : Option Addr) (ec : Nat) (pa : Option Addr) (pc : Nat) : Prop where
  ents : Ents W.heap.size W ea o.ents
  pars : Digs W.heap.size W pa o.pars
  ecap : o.ents.length ≤ ec ∧ ec ≤ maxLen
  pcap : o.pars.length ≤ pc ∧ pc ≤ maxLen
  ok : OkO o
  enam : ∀ e ∈ o.ents, e.name.length ≤ maxLen
  dlen : o.data.length ≤ maxLen
  alen : o.author.length ≤ maxLen
  mlen : o.msg.length ≤ maxLen
set_option maxRecDepth 100000 in
theorem trod_ob {fuel : Nat} {cs : List Value} {x : DataW H × List MemPlace} (h : DataW.trod enc Try.prog W 0 (fun _ => true) true fuel 33 cs = some x) :
    ∃ (o : Ob) (ea : Option Addr) (ec : Nat) (pa : Option Addr) (pc : Nat), cs = (o.arr ea ec pa pc).toList ∧ ObCame W o ea ec pa pc := by
  obtain ⟨xs, n, _, _, hl, hxl, hf⟩ := DataW.trod_struct Try.underlying33 h
  rw [show Try.prog.cellsOf 33 = 9 by kernel_rfl] at hl
  match cs, hl with
  | [c0, c1, c2, c3, c4, c5, c6, c7, c8], _ =>
    match xs, hxl with
    | [x0, x1, x2, x3, x4, x5, x6, x7], _ =>
      obtain ⟨kind, e0, _, _⟩ := DataW.trod_int Try.underlying3 (show DataW.trod enc Try.prog W 0 (fun _ => true) true n 3 [c0] = some x0 from hf 0 _ rfl)
      obtain ⟨s1, e1, _, w1⟩ := DataW.trod_string Try.underlying9 (show DataW.trod enc Try.prog W 0 (fun _ => true) true n 9 [c1] = some x1 from hf 1 _ rfl)
      have h2 : DataW.trod enc Try.prog W 0 (fun _ => true) true n 27 [c2] = some x2 := hf 2 _ rfl
      obtain ⟨d, e3, w30, w31⟩ := trod_digest (show DataW.trod enc Try.prog W 0 (fun _ => true) true n 30 [c3, c4] = some x3 from hf 3 _ rfl)
      have h4 : DataW.trod enc Try.prog W 0 (fun _ => true) true n 31 [c5] = some x4 := hf 4 _ rfl
      obtain ⟨s5, e5, _, w5⟩ := DataW.trod_string Try.underlying9 (show DataW.trod enc Try.prog W 0 (fun _ => true) true n 9 [c6] = some x5 from hf 5 _ rfl)
      obtain ⟨time, e6, _, _⟩ := DataW.trod_int Try.underlying3 (show DataW.trod enc Try.prog W 0 (fun _ => true) true n 3 [c7] = some x6 from hf 6 _ rfl)
      obtain ⟨s7, e7, _, w7⟩ := DataW.trod_string Try.underlying9 (show DataW.trod enc Try.prog W 0 (fun _ => true) true n 9 [c8] = some x7 from hf 7 _ rfl)
      obtain ⟨ea, el, ec, rfl⟩ := trod_slice_val Try.underlying27 h2
      obtain ⟨pa, pl, pc, rfl⟩ := trod_slice_val Try.underlying31 h4
      obtain ⟨hec, es, rfl, hes, hok⟩ := open_ents h2
      obtain ⟨hpc, ps, rfl, hps, hpok⟩ := open_digs h4
      cases e0
      cases e1
      cases e3
      cases e5
      cases e6
      cases e7
      refine ⟨⟨kind, s1.data.toList, es, d, ps, s5.data.toList, time, s7.data.toList⟩, ea, ec, pa, pc, ?_, hes, hps, hec, hpc, ⟨okD_wf w30 w31, fun p hp => okD_wf (hpok p hp).1 (hpok p hp).2, fun e he => (hok e he).1⟩, fun e he => (hok e he).2, w1, w5, w7⟩
      simp only
/-- A slice of objects that came in. -/
def ObsIn (B : Nat) (W : World) (a : Option Addr) (os : List Ob) : Prop :=
  ∀ i (h : i < os.length), ∃ b off ea ec pa pc, a = some ⟨b, off, none⟩ ∧ b < B ∧ (∀ j v, (os[i].arr ea ec pa pc)[j]? = some v → W.cell? ⟨b, off + i * 9 + j, none⟩ = some v) ∧ ObCame W os[i] ea ec pa pc
set_option maxRecDepth 100000 in
theorem open_obs {r : Reach} {b0 : Nat} {v : Value} {d : DataW H} {p : List MemPlace} (hv : Value.okWide Try.prog W r b0 22 v) (h : DataW.Trod enc Try.prog W 0 (fun _ => true) true 22 v d p) :
    ∃ (a : Option Addr) (os : List Ob) (c : Nat), v = .slice a os.length c ∧ ObsIn W.heap.size W a os ∧ os.length ≤ c ∧ c ≤ maxLen := by
  obtain ⟨a, len, cap, rfl⟩ := okWide_slice Try.underlying22 hv
  obtain ⟨fuel, hf⟩ := h
  simp only [Value.cells] at hf
  obtain ⟨hl, hr⟩ := open_rows Try.underlying22 (C := 9) (by kernel_rfl) (by decide) hf
  obtain ⟨os, hos, hq⟩ := list_of (fun i (o : Ob) => ∃ b off ea ec pa pc, a = some ⟨b, off, none⟩ ∧ b < W.heap.size ∧ (∀ j v, (o.arr ea ec pa pc)[j]? = some v → W.cell? ⟨b, off + i * 9 + j, none⟩ = some v) ∧ ObCame W o ea ec pa pc) len (fun i hi => by
    obtain ⟨b, off, cs, n, y, ha, hb, _, hcell, ht⟩ := hr i hi
    obtain ⟨o, ea, ec, pa, pc, rfl, hc⟩ := trod_ob ht
    exact ⟨o, b, off, ea, ec, pa, pc, ha, hb, fun j v hj => hcell j v (by rw [Array.getElem?_toList]; exact hj), hc⟩)
  exact ⟨a, os, cap, by rw [hos], hq, by omega, hl.2⟩
theorem ObCame.inn {o : Ob} {ea : Option Addr} {ec : Nat} {pa : Option Addr} {pc : Nat} (h : ObCame W o ea ec pa pc) : ObIn W o ea ec pa pc := by
  have h1 := h.ecap
  have h2 := h.pcap
  have h3 := h.dlen
  have h4 := h.alen
  have h5 := h.mlen
  unfold maxLen at h1 h2 h3 h4 h5
  exact ⟨h.ents, h.pars, h2.1, by omega, fun e he => by have := h.enam e he; unfold maxLen at this; omega, fun e he => ⟨(h.ok.2.2 e he).1.1, (h.ok.2.2 e he).2.1⟩, by omega, fun d hd => ⟨(h.ok.2.1 d hd).1.1, (h.ok.2.1 d hd).2.1⟩, ⟨h.ok.1.1.1, h.ok.1.2.1⟩, by omega, by omega, by omega⟩
end

end Go.Proofs.Ytlfodnehgedpmaa
