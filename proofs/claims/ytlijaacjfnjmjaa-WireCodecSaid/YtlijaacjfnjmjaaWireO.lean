/- What a row's reading tells of pieces, digests, messages and parts that came in. -/
import Derived.Test.YtlijaacjfnjmjaaWireSp
import Derived.ProofKit
import Derived.OpenShut
import Derived.ShutString
import Derived.Deep.Slices
import Derived.Deep.Fields
namespace Go.Proofs.Ytlijaacjfnjmjaa
open Go.ChangeShapes Go.WideShapes Go.ChangeAt Go.RowKit Go.Deep

theorem list_of {α : Type} (Q : Nat → α → Prop) : ∀ (n : Nat), (∀ i, i < n → ∃ x, Q i x) → ∃ l : List α, l.length = n ∧ ∀ i (h : i < l.length), Q i l[i]
  | 0, _ => ⟨[], rfl, fun i h => by simp at h⟩
  | n + 1, h => by
    obtain ⟨l, hl, hq⟩ := list_of Q n (fun i hi => h i (by omega))
    obtain ⟨x, hx⟩ := h n (by omega)
    refine ⟨l ++ [x], by simp [hl], fun i hi => ?_⟩
    by_cases he : i < l.length
    · rw [List.getElem_append_left he]; exact hq i he
    · obtain rfl : i = l.length := by simp at hi; omega
      simpa [hl] using hx

section
variable {H : Type} {enc : TypeId × Value → H} {W : World}

theorem open_rows {t e : TypeId} {C : Nat} {a : Option Addr} {len cap fuel : Nat} {x : DataW H × List MemPlace} (ht : Try.prog.underlying t = some (.slice e)) (hC : Try.prog.cellsOf e = C) (h0 : 0 < C)
    (h : DataW.trod enc Try.prog W 0 (fun _ => true) true fuel t [.slice a len cap] = some x) :
    len ≤ cap ∧ ∀ i, i < len → ∃ b off cs n y, a = some ⟨b, off, none⟩ ∧ b < W.heap.size ∧ cs.length = C ∧ (∀ (j : Nat) (v : Value), cs[j]? = some v → W.cell? ⟨b, off + i * C + j, none⟩ = some v) ∧ DataW.trod enc Try.prog W 0 (fun _ => true) true n e cs = some y := by
  rcases open_slice ht h with ⟨hcs, _⟩ | ⟨ad, l, c, m, n, D, Pl, hcs, _, hl, hm, hmm, _, hi⟩
  · simp at hcs
    obtain ⟨rfl, rfl, rfl⟩ := hcs
    exact ⟨Nat.le_refl _, fun i hi => by omega⟩
  · simp at hcs
    obtain ⟨rfl, rfl, rfl⟩ := hcs
    refine ⟨hl, fun i hlt => ?_⟩
    simp only [if_true] at hmm
    obtain ⟨cs0, hc0, _⟩ := hi 0 (by omega)
    obtain ⟨_, hcl0, hat0⟩ := World.cells?_some hc0
    rw [hC] at hcl0 hat0
    obtain ⟨b, off, spot⟩ := ad
    have e0 : W.cell? ((⟨b, off, spot⟩ : Addr).add 0) = some (cs0[0]'(by omega)) := by
      have := hat0 0 h0
      rw [List.getElem?_eq_getElem (by omega)] at this
      simpa [Addr.add] using this
    have hspot : spot = none := by simpa [Addr.add] using World.cell?_spot e0
    subst hspot
    obtain ⟨cs', hc, ht'⟩ := hi i (by omega)
    obtain ⟨_, hcl, hat⟩ := World.cells?_some hc
    rw [hC] at hcl hat
    have hlt0 : b < W.heap.size := by
      unfold World.cell? at e0
      simp only [Addr.add, if_true] at e0
      cases ho : W.heap[b]? with
      | none => simp [ho] at e0
      | some o => exact (Array.getElem?_eq_some_iff.1 ho).1
    refine ⟨b, off, cs', n, _, rfl, hlt0, hcl, fun j v hj => ?_, ht'⟩
    have hjl : j < C := by rw [← hcl]; exact (List.getElem?_eq_some_iff.1 hj).1
    have := hat j hjl
    rw [hj, Go.WideShapes.add_plain, Go.WideShapes.add_plain] at this
    exact this

set_option maxRecDepth 100000 in
theorem trod_piece {fuel : Nat} {cs : List Value} {x : DataW H × List MemPlace} (h : DataW.trod enc Try.prog W 0 (fun _ => true) true fuel 40 cs = some x) : ∃ p : P, cs = [.int .i64 p.1, .string ⟨p.2.toArray⟩] := by
  obtain ⟨xs, n, _, _, hl, hxl, hf⟩ := DataW.trod_struct Try.underlying40 h
  rw [show Try.prog.cellsOf 40 = 2 by kernel_rfl] at hl
  match cs, hl with
  | [c0, c1], _ =>
    match xs, hxl with
    | [x0, x1], _ =>
      obtain ⟨o, e0, _⟩ := DataW.trod_int Try.underlying3 (show DataW.trod enc Try.prog W 0 (fun _ => true) true n 3 [c0] = some x0 from hf 0 _ rfl)
      obtain ⟨s, e1, _⟩ := DataW.trod_string Try.underlying9 (show DataW.trod enc Try.prog W 0 (fun _ => true) true n 9 [c1] = some x1 from hf 1 _ rfl)
      cases e0
      cases e1
      exact ⟨(o, s.data.toList), by rw [← ba_eq (t := s) rfl]⟩

set_option maxRecDepth 100000 in
theorem trod_digest {fuel : Nat} {cs : List Value} {x : DataW H × List MemPlace} (h : DataW.trod enc Try.prog W 0 (fun _ => true) true fuel 72 cs = some x) : ∃ p : Int × Int, cs = [.int .u64 p.1, .int .u64 p.2] ∧ (Lit.int .u64 p.1).wf = true ∧ (Lit.int .u64 p.2).wf = true := by
  obtain ⟨xs, n, _, _, hl, hxl, hf⟩ := DataW.trod_array Try.underlying72 h
  rw [show Try.prog.cellsOf 72 = 2 by kernel_rfl] at hl
  match cs, hl with
  | [c0, c1], _ =>
    match xs, hxl with
    | [x0, x1], _ =>
      obtain ⟨o, e0, _, w0⟩ := DataW.trod_int Try.underlying69 (show DataW.trod enc Try.prog W 0 (fun _ => true) true n 69 [c0] = some x0 from hf 0 (by decide))
      obtain ⟨s, e1, _, w1⟩ := DataW.trod_int Try.underlying69 (show DataW.trod enc Try.prog W 0 (fun _ => true) true n 69 [c1] = some x1 from hf 1 (by decide))
      cases e0
      cases e1
      exact ⟨(o, s), rfl, w0, w1⟩

theorem open_pcs {a : Option Addr} {len cap fuel : Nat} {x : DataW H × List MemPlace} (h : DataW.trod enc Try.prog W 0 (fun _ => true) true fuel 29 [.slice a len cap] = some x) : len ≤ cap ∧ ∃ ps : List P, len = ps.length ∧ Pcs W.heap.size W a ps := by
  obtain ⟨hl, hr⟩ := open_rows Try.underlying29 (C := 2) (by kernel_rfl) (by decide) h
  obtain ⟨ps, hps, hq⟩ := list_of (fun i (p : P) => ∃ b off, a = some ⟨b, off, none⟩ ∧ b < W.heap.size ∧ W.cell? ⟨b, off + i * 2, none⟩ = some (.int .i64 p.1) ∧ W.cell? ⟨b, off + i * 2 + 1, none⟩ = some (.string ⟨p.2.toArray⟩)) len (fun i hi => by
    obtain ⟨b, off, cs, n, y, ha, hb, _, hcell, ht⟩ := hr i hi
    obtain ⟨p, rfl⟩ := trod_piece ht
    exact ⟨p, b, off, ha, hb, hcell 0 _ rfl, hcell 1 _ rfl⟩)
  exact ⟨hl, ps, hps.symm, hq⟩

/-- The digests of a list are digests. -/
def DigsOk (ds : List (Int × Int)) : Prop := ∀ d ∈ ds, (Lit.int .u64 d.1).wf = true ∧ (Lit.int .u64 d.2).wf = true

theorem open_digs {a : Option Addr} {len cap fuel : Nat} {x : DataW H × List MemPlace} (h : DataW.trod enc Try.prog W 0 (fun _ => true) true fuel 32 [.slice a len cap] = some x) : len ≤ cap ∧ ∃ ds : List (Int × Int), len = ds.length ∧ Digs W.heap.size W a ds ∧ DigsOk ds := by
  obtain ⟨hl, hr⟩ := open_rows Try.underlying32 (C := 2) (by kernel_rfl) (by decide) h
  obtain ⟨ds, hds, hq⟩ := list_of (fun i (p : Int × Int) => (∃ b off, a = some ⟨b, off, none⟩ ∧ b < W.heap.size ∧ W.cell? ⟨b, off + i * 2, none⟩ = some (.int .u64 p.1) ∧ W.cell? ⟨b, off + i * 2 + 1, none⟩ = some (.int .u64 p.2)) ∧ (Lit.int .u64 p.1).wf = true ∧ (Lit.int .u64 p.2).wf = true) len (fun i hi => by
    obtain ⟨b, off, cs, n, y, ha, hb, _, hcell, ht⟩ := hr i hi
    obtain ⟨p, rfl, w0, w1⟩ := trod_digest ht
    exact ⟨p, ⟨b, off, ha, hb, hcell 0 _ rfl, hcell 1 _ rfl⟩, w0, w1⟩)
  refine ⟨hl, ds, hds.symm, fun i hi => (hq i hi).1, fun d hd => ?_⟩
  obtain ⟨i, hi, rfl⟩ := List.getElem_of_mem hd
  exact (hq i hi).2

/-- The numbers of a message are in their ranges. -/
def Msg.Ok (m : Msg) : Prop := DigsOk m.ds ∧ (Lit.int .i64 m.kind).wf = true ∧ (Lit.int .i64 m.id).wf = true ∧ (Lit.int .i64 m.off).wf = true ∧ (Lit.int .i64 m.tot).wf = true ∧ m.data.length ≤ maxLen

theorem trod_slice_val {t e : TypeId} {fuel : Nat} {c : Value} {x : DataW H × List MemPlace} (ht : Try.prog.underlying t = some (.slice e)) (h : DataW.trod enc Try.prog W 0 (fun _ => true) true fuel t [c] = some x) : ∃ a len cap, c = .slice a len cap := by
  rcases open_slice ht h with ⟨hcs, _⟩ | ⟨ad, l, c, m, n, D, Pl, hcs, _⟩
  · simp at hcs; exact ⟨_, _, _, hcs⟩
  · simp at hcs; exact ⟨_, _, _, hcs⟩

set_option maxRecDepth 100000 in
theorem trod_msg {fuel : Nat} {cs : List Value} {x : DataW H × List MemPlace} (h : DataW.trod enc Try.prog W 0 (fun _ => true) true fuel 34 cs = some x) :
    ∃ (m : Msg) (a : Option Addr) (c : Nat), cs = [.int .i64 m.kind, .int .i64 m.id, .int .i64 m.off, .int .i64 m.tot, .slice a m.ds.length c, .string ⟨m.data.toArray⟩] ∧ Digs W.heap.size W a m.ds ∧ m.ds.length ≤ c ∧ m.Ok := by
  obtain ⟨xs, n, _, _, hl, hxl, hf⟩ := DataW.trod_struct Try.underlying34 h
  rw [show Try.prog.cellsOf 34 = 6 by kernel_rfl] at hl
  match cs, hl with
  | [c0, c1, c2, c3, c4, c5], _ =>
    match xs, hxl with
    | [x0, x1, x2, x3, x4, x5], _ =>
      obtain ⟨v0, e0, _, w0⟩ := DataW.trod_int Try.underlying3 (show DataW.trod enc Try.prog W 0 (fun _ => true) true n 3 [c0] = some x0 from hf 0 _ rfl)
      obtain ⟨v1, e1, _, w1⟩ := DataW.trod_int Try.underlying3 (show DataW.trod enc Try.prog W 0 (fun _ => true) true n 3 [c1] = some x1 from hf 1 _ rfl)
      obtain ⟨v2, e2, _, w2⟩ := DataW.trod_int Try.underlying3 (show DataW.trod enc Try.prog W 0 (fun _ => true) true n 3 [c2] = some x2 from hf 2 _ rfl)
      obtain ⟨v3, e3, _, w3⟩ := DataW.trod_int Try.underlying3 (show DataW.trod enc Try.prog W 0 (fun _ => true) true n 3 [c3] = some x3 from hf 3 _ rfl)
      have h4 : DataW.trod enc Try.prog W 0 (fun _ => true) true n 32 [c4] = some x4 := hf 4 _ rfl
      obtain ⟨s, e5, _, w5⟩ := DataW.trod_string Try.underlying9 (show DataW.trod enc Try.prog W 0 (fun _ => true) true n 9 [c5] = some x5 from hf 5 _ rfl)
      obtain ⟨a, len, cap, rfl⟩ := trod_slice_val Try.underlying32 h4
      obtain ⟨hcap, ds, rfl, hds, hok⟩ := open_digs h4
      cases e0
      cases e1
      cases e2
      cases e3
      cases e5
      exact ⟨⟨v0, v1, v2, v3, ds, s.data.toList⟩, a, cap, by rw [← ba_eq (t := s) rfl], hds, hcap, hok, w0, w1, w2, w3, w5⟩

set_option maxRecDepth 100000 in
theorem open_msg {r : Reach} {b0 : Nat} {v : Value} {d : DataW H} {p : List MemPlace} (hv : Value.okWide Try.prog W r b0 34 v) (h : DataW.Trod enc Try.prog W 0 (fun _ => true) true 34 v d p) :
    ∃ (m : Msg) (a : Option Addr) (c : Nat), v = m.val a c ∧ Digs W.heap.size W a m.ds ∧ m.ds.length ≤ c ∧ m.Ok := by
  obtain ⟨cs, rfl, hsz⟩ := okWide_struct Try.underlying34 hv
  obtain ⟨fuel, hf⟩ := h
  obtain ⟨m, a, c, hcs, hrest⟩ := trod_msg hf
  refine ⟨m, a, c, ?_, hrest⟩
  simp [Value.cells] at hcs
  rw [Msg.val, ← Array.toList_inj.1 (show cs.toList = #[Value.int .i64 m.kind, .int .i64 m.id, .int .i64 m.off, .int .i64 m.tot, .slice a m.ds.length c, .string ⟨m.data.toArray⟩].toList by simpa using hcs)]

set_option maxRecDepth 100000 in
theorem open_parts {r : Reach} {b0 : Nat} {v : Value} {d : DataW H} {p : List MemPlace} (hv : Value.okWide Try.prog W r b0 31 v) (h : DataW.Trod enc Try.prog W 0 (fun _ => true) true 31 v d p) :
    ∃ (id tot : Int) (a : Option Addr) (ps : List P) (c : Nat), v = .agg #[.int .i64 id, .int .i64 tot, .slice a ps.length c] ∧ Pcs W.heap.size W a ps ∧ ps.length ≤ c := by
  obtain ⟨cs, rfl, hsz⟩ := okWide_struct Try.underlying31 hv
  obtain ⟨fuel, hf⟩ := h
  obtain ⟨xs, n, _, _, hl, hxl, hf⟩ := DataW.trod_struct Try.underlying31 hf
  obtain ⟨l⟩ := cs
  rw [show Try.prog.cellsOf 31 = 3 by kernel_rfl] at hl
  have hl : l.length = 3 := by simpa [Value.cells] using hl
  match l, hl with
  | [c0, c1, c2], _ =>
    match xs, hxl with
    | [x0, x1, x2], _ =>
      obtain ⟨v0, e0, _⟩ := DataW.trod_int Try.underlying3 (show DataW.trod enc Try.prog W 0 (fun _ => true) true n 3 [c0] = some x0 from hf 0 _ rfl)
      obtain ⟨v1, e1, _⟩ := DataW.trod_int Try.underlying3 (show DataW.trod enc Try.prog W 0 (fun _ => true) true n 3 [c1] = some x1 from hf 1 _ rfl)
      have h2 : DataW.trod enc Try.prog W 0 (fun _ => true) true n 29 [c2] = some x2 := hf 2 _ rfl
      obtain ⟨a, len, cap, rfl⟩ := trod_slice_val Try.underlying29 h2
      obtain ⟨hcap, ps, rfl, hps⟩ := open_pcs h2
      cases e0
      cases e1
      exact ⟨v0, v1, a, ps, cap, rfl, hps, hcap⟩
/-- A slice of bytes that lies below block B. -/
def Bys (B : Nat) (W : World) (a : Option Addr) (zs : List Int) : Prop :=
  ∀ i (h : i < zs.length), (0 ≤ zs[i] ∧ zs[i] ≤ 255) ∧ ∃ b off, a = some ⟨b, off, none⟩ ∧ b < B ∧ W.cell? ⟨b, off + i, none⟩ = some (.int .u8 zs[i])
theorem Bys.below {B B' : Nat} {W W' : World} {a : Option Addr} {zs : List Int} (h : Bys B W a zs) (hb : Below B' W W') (hB : B ≤ B') : Bys B W' a zs := by
  intro i hi
  obtain ⟨hz, b, off, ha, hlt, hc⟩ := h i hi
  exact ⟨hz, b, off, ha, hlt, (hb.cell (p := ⟨b, off + i, none⟩) (by simp; omega)).trans hc⟩
theorem u8_wf {z : Int} (h : (Lit.int .u8 z).wf = true) : 0 ≤ z ∧ z ≤ 255 := by
  simp [Lit.wf, IntKind.min, IntKind.max, IntKind.bits, IntKind.signed] at h
  omega

set_option maxRecDepth 100000 in
theorem open_u8s {r : Reach} {b0 : Nat} {v : Value} {d : DataW H} {p : List MemPlace} (hv : Value.okWide Try.prog W r b0 49 v) (h : DataW.Trod enc Try.prog W 0 (fun _ => true) true 49 v d p) :
    ∃ (a : Option Addr) (zs : List Int) (c : Nat), v = .slice a zs.length c ∧ Bys W.heap.size W a zs ∧ zs.length ≤ c := by
  obtain ⟨a, len, cap, rfl⟩ := okWide_slice Try.underlying49 hv
  obtain ⟨fuel, hf⟩ := h
  simp only [Value.cells] at hf
  obtain ⟨hl, hr⟩ := open_rows Try.underlying49 (C := 1) (by kernel_rfl) (by decide) hf
  obtain ⟨zs, hzs, hq⟩ := list_of (fun i (z : Int) => (0 ≤ z ∧ z ≤ 255) ∧ ∃ b off, a = some ⟨b, off, none⟩ ∧ b < W.heap.size ∧ W.cell? ⟨b, off + i, none⟩ = some (.int .u8 z)) len (fun i hi => by
    obtain ⟨b, off, cs, n, y, ha, hb, _, hcell, ht⟩ := hr i hi
    obtain ⟨z, rfl, _, wz⟩ := DataW.trod_int Try.underlying5 ht
    exact ⟨z, u8_wf wz, b, off, ha, hb, by simpa using hcell 0 _ rfl⟩)
  exact ⟨a, zs, cap, by rw [hzs], hq, by omega⟩

/-- A slice of pairs of bytes that lies below block B. -/
def Prs (B : Nat) (W : World) (a : Option Addr) (zs : List (Int × Int)) : Prop :=
  ∀ i (h : i < zs.length), (0 ≤ zs[i].1 ∧ zs[i].1 ≤ 255 ∧ 0 ≤ zs[i].2 ∧ zs[i].2 ≤ 255) ∧ ∃ b off, a = some ⟨b, off, none⟩ ∧ b < B ∧ W.cell? ⟨b, off + i * 2, none⟩ = some (.int .u8 zs[i].1) ∧ W.cell? ⟨b, off + i * 2 + 1, none⟩ = some (.int .u8 zs[i].2)
theorem Prs.below {B B' : Nat} {W W' : World} {a : Option Addr} {zs : List (Int × Int)} (h : Prs B W a zs) (hb : Below B' W W') (hB : B ≤ B') : Prs B W' a zs := by
  intro i hi
  obtain ⟨hz, b, off, ha, hlt, hc, hd⟩ := h i hi
  exact ⟨hz, b, off, ha, hlt, (hb.cell (p := ⟨b, off + i * 2, none⟩) (by simp; omega)).trans hc, (hb.cell (p := ⟨b, off + i * 2 + 1, none⟩) (by simp; omega)).trans hd⟩

set_option maxRecDepth 100000 in
theorem trod_pair {fuel : Nat} {cs : List Value} {x : DataW H × List MemPlace} (h : DataW.trod enc Try.prog W 0 (fun _ => true) true fuel 52 cs = some x) : ∃ p : Int × Int, cs = [.int .u8 p.1, .int .u8 p.2] ∧ (Lit.int .u8 p.1).wf = true ∧ (Lit.int .u8 p.2).wf = true := by
  obtain ⟨xs, n, _, _, hl, hxl, hf⟩ := DataW.trod_array Try.underlying52 h
  rw [show Try.prog.cellsOf 52 = 2 by kernel_rfl] at hl
  match cs, hl with
  | [c0, c1], _ =>
    match xs, hxl with
    | [x0, x1], _ =>
      obtain ⟨o, e0, _, w0⟩ := DataW.trod_int Try.underlying5 (show DataW.trod enc Try.prog W 0 (fun _ => true) true n 5 [c0] = some x0 from hf 0 (by decide))
      obtain ⟨s, e1, _, w1⟩ := DataW.trod_int Try.underlying5 (show DataW.trod enc Try.prog W 0 (fun _ => true) true n 5 [c1] = some x1 from hf 1 (by decide))
      cases e0
      cases e1
      exact ⟨(o, s), rfl, w0, w1⟩

set_option maxRecDepth 100000 in
theorem open_pairs {r : Reach} {b0 : Nat} {v : Value} {d : DataW H} {p : List MemPlace} (hv : Value.okWide Try.prog W r b0 51 v) (h : DataW.Trod enc Try.prog W 0 (fun _ => true) true 51 v d p) :
    ∃ (a : Option Addr) (zs : List (Int × Int)) (c : Nat), v = .slice a zs.length c ∧ Prs W.heap.size W a zs ∧ zs.length ≤ c := by
  obtain ⟨a, len, cap, rfl⟩ := okWide_slice Try.underlying51 hv
  obtain ⟨fuel, hf⟩ := h
  simp only [Value.cells] at hf
  obtain ⟨hl, hr⟩ := open_rows Try.underlying51 (C := 2) (by kernel_rfl) (by decide) hf
  obtain ⟨zs, hzs, hq⟩ := list_of (fun i (z : Int × Int) => (0 ≤ z.1 ∧ z.1 ≤ 255 ∧ 0 ≤ z.2 ∧ z.2 ≤ 255) ∧ ∃ b off, a = some ⟨b, off, none⟩ ∧ b < W.heap.size ∧ W.cell? ⟨b, off + i * 2, none⟩ = some (.int .u8 z.1) ∧ W.cell? ⟨b, off + i * 2 + 1, none⟩ = some (.int .u8 z.2)) len (fun i hi => by
    obtain ⟨b, off, cs, n, y, ha, hb, _, hcell, ht⟩ := hr i hi
    obtain ⟨z, rfl, w0, w1⟩ := trod_pair ht
    have h0 := u8_wf w0
    have h1 := u8_wf w1
    exact ⟨z, ⟨h0.1, h0.2, h1.1, h1.2⟩, b, off, ha, hb, hcell 0 _ rfl, hcell 1 _ rfl⟩)
  exact ⟨a, zs, cap, by rw [hzs], hq, by omega⟩

set_option maxRecDepth 100000 in
theorem open_msgs {r : Reach} {b0 : Nat} {v : Value} {d : DataW H} {p : List MemPlace} (hv : Value.okWide Try.prog W r b0 23 v) (h : DataW.Trod enc Try.prog W 0 (fun _ => true) true 23 v d p) :
    ∃ (a : Option Addr) (ms : List Msg) (c : Nat), v = .slice a ms.length c ∧ Msgs W.heap.size W a ms ∧ ms.length ≤ c ∧ ∀ m ∈ ms, m.Ok := by
  obtain ⟨a, len, cap, rfl⟩ := okWide_slice Try.underlying23 hv
  obtain ⟨fuel, hf⟩ := h
  simp only [Value.cells] at hf
  obtain ⟨hl, hr⟩ := open_rows Try.underlying23 (C := 6) (by kernel_rfl) (by decide) hf
  obtain ⟨ms, hms, hq⟩ := list_of (fun i (m : Msg) => m.Ok ∧ ∃ b off da cd, a = some ⟨b, off, none⟩ ∧ b < W.heap.size ∧ W.cell? ⟨b, off + i * 6, none⟩ = some (.int .i64 m.kind) ∧ W.cell? ⟨b, off + i * 6 + 1, none⟩ = some (.int .i64 m.id)
    ∧ W.cell? ⟨b, off + i * 6 + 2, none⟩ = some (.int .i64 m.off) ∧ W.cell? ⟨b, off + i * 6 + 3, none⟩ = some (.int .i64 m.tot) ∧ W.cell? ⟨b, off + i * 6 + 4, none⟩ = some (.slice da m.ds.length cd)
    ∧ W.cell? ⟨b, off + i * 6 + 5, none⟩ = some (.string ⟨m.data.toArray⟩) ∧ Digs W.heap.size W da m.ds) len (fun i hi => by
    obtain ⟨b, off, cs, n, y, ha, hb, _, hcell, ht⟩ := hr i hi
    obtain ⟨m, da, cd, rfl, hd, _, hok⟩ := trod_msg ht
    exact ⟨m, hok, b, off, da, cd, ha, hb, hcell 0 _ rfl, hcell 1 _ rfl, hcell 2 _ rfl, hcell 3 _ rfl, hcell 4 _ rfl, hcell 5 _ rfl, hd⟩)
  refine ⟨a, ms, cap, by rw [hms], fun i hi => (hq i hi).2, by omega, fun m hm => ?_⟩
  obtain ⟨i, hi, rfl⟩ := List.getElem_of_mem hm
  exact (hq i hi).1
end

end Go.Proofs.Ytlijaacjfnjmjaa
