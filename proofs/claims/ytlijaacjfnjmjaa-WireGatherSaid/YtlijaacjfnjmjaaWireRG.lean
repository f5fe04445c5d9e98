/- The reference's Gather. -/
import Derived.Test.YtlijaacjfnjmjaaWireRL
import Derived.Test.YtlijaacjfnjmjaaWireM
import Derived.Test.YtlijaacjfnjmjaaWireRV
import Derived.Test.YtlijaacjfnjmjaaWireGather
import Derived.Deep.RegionHeld3
import Derived.Deep.AppendLies
import Derived.Laws.AppendOwnNone
namespace Go.Proofs.Ytlijaacjfnjmjaa
open Go.RowKit
set_option linter.unusedVariables false

theorem whyM2 {id off tot : Int} {nd n : Nat} (h : v2i id off tot nd n = false) : (whyM 2 id off tot nd n != 0) = true := by
  unfold whyM
  rw [if_neg (by decide)]
  by_cases hi : id < 0 ∨ 1099511627776 < id
  · rw [if_pos hi]; rfl
  · rw [if_neg hi]
    have hv : vM 2 off tot nd n = false := by
      unfold v2i at h
      rw [decide_eq_true (by omega), Bool.true_and] at h
      exact h
    rw [if_pos hv]; rfl
theorem whyM2' {id off tot : Int} {nd n : Nat} (h : v2i id off tot nd n = true) : whyM 2 id off tot nd n = 0 := by
  unfold v2i at h
  simp only [Bool.and_eq_true, decide_eq_true_eq] at h
  unfold whyM
  rw [if_neg (by decide), if_neg (by omega)]
  have hv : vM 2 off tot nd n = true := h.2
  rw [if_neg (by rw [hv]; decide)]

/-- The relation of the loop: what is left to look at decides. -/
def RGP (off : Int) (data : List UInt8) (ps : List P) (k : Nat) (p : P) (bs as_ : List P) : Prop :=
  rgo (off, data) ps = (rgo p (ps.drop k)).map (fun r => (bs ++ r.1, r.2.1, as_ ++ r.2.2)) ∧ 0 ≤ p.1 ∧ pend p ≤ 1048576 ∧ bs.length + as_.length ≤ k

theorem RGP.start {off : Int} {data : List UInt8} {ps : List P} (h0 : 0 ≤ off) (h1 : off + data.length ≤ 1048576) : RGP off data ps 0 (off, data) [] [] := by
  refine ⟨?_, h0, h1, by simp⟩
  rw [List.drop_zero]
  cases rgo (off, data) ps <;> rfl
theorem RGP.bad {off : Int} {data : List UInt8} {ps : List P} {k : Nat} {p : P} {bs as_ : List P} (h : RGP off data ps k p bs as_) (hk : k < ps.length) (ha : agr p ps[k] = false) : rgo (off, data) ps = none := by
  rw [h.1, List.drop_eq_getElem_cons hk, rgo, if_pos ha]; rfl
theorem RGP.before {off : Int} {data : List UInt8} {ps : List P} {k : Nat} {p : P} {bs as_ : List P} (h : RGP off data ps k p bs as_) (hk : k < ps.length) (ha : agr p ps[k] = true) (hb : pend ps[k] < p.1) : RGP off data ps (k + 1) p (bs ++ [ps[k]]) as_ := by
  refine ⟨?_, h.2.1, h.2.2.1, by have := h.2.2.2; simp; omega⟩
  rw [h.1, List.drop_eq_getElem_cons hk]
  conv => lhs; rw [rgo, if_neg (by rw [ha]; decide), if_pos hb]
  rw [Option.map_map]
  congr 1
  funext r
  simp
theorem RGP.after {off : Int} {data : List UInt8} {ps : List P} {k : Nat} {p : P} {bs as_ : List P} (h : RGP off data ps k p bs as_) (hk : k < ps.length) (ha : agr p ps[k] = true) (hb : ¬ pend ps[k] < p.1) (hc : pend p < ps[k].1) : RGP off data ps (k + 1) p bs (as_ ++ [ps[k]]) := by
  refine ⟨?_, h.2.1, h.2.2.1, by have := h.2.2.2; simp; omega⟩
  rw [h.1, List.drop_eq_getElem_cons hk]
  conv => lhs; rw [rgo, if_neg (by rw [ha]; decide), if_neg hb, if_pos hc]
  rw [Option.map_map]
  congr 1
  funext r
  simp
theorem RGP.join {off : Int} {data : List UInt8} {ps : List P} {k : Nat} {p : P} {bs as_ : List P} (h : RGP off data ps k p bs as_) (hk : k < ps.length) (ha : agr p ps[k] = true) (hb : ¬ pend ps[k] < p.1) (hc : ¬ pend p < ps[k].1) (h0 : 0 ≤ ps[k].1) (h1 : pend ps[k] ≤ 1048576) : RGP off data ps (k + 1) (rjoin p ps[k]) bs as_ := by
  have hj : joinS p ps[k] = some (rjoin p ps[k]) := by rw [agr_join (by omega) (by omega), if_pos ha]
  have he := joinS_ends hj (by omega) (by omega)
  refine ⟨?_, by have := h.2.1; omega, by have := h.2.2.1; omega, by have := h.2.2.2; omega⟩
  rw [h.1, List.drop_eq_getElem_cons hk]
  conv => lhs; rw [rgo, if_neg (by rw [ha]; decide), if_neg hb, if_neg hc]
theorem RGP.fin {off : Int} {data : List UInt8} {ps : List P} {k : Nat} {p : P} {bs as_ : List P} (h : RGP off data ps k p bs as_) (hk : ps.length ≤ k) : rgo (off, data) ps = some (bs, p, as_) := by
  rw [h.1, List.drop_eq_nil_of_le hk, rgo]; simp

/-- The memory at a round's head. -/
structure RGW (b6 : Nat) (z wr : World) (v7 v8 : Value) (po : Int) (PT : List UInt8) (bs as_ : List P) : Prop where
  bel : Below b6 z wr
  p0 : wr.cell? ⟨b6, 0, none⟩ = some (.int .i64 po)
  p1 : wr.cell? ⟨b6, 1, none⟩ = some (.string ⟨PT.toArray⟩)
  f0 : wr.frozen? ⟨b6, 0, none⟩ = false
  f1 : wr.frozen? ⟨b6, 1, none⟩ = false
  o7 : wr.ownsRow (b6 + 1) 40 2 v7 bs.length (pcells bs)
  o8 : wr.ownsRow (b6 + 1) 40 2 v8 as_.length (pcells as_)
  dist : ∀ g, v7.ownBlock = some g → v8.ownBlock ≠ some g
  nil8 : as_ = [] → v8 = .slice none 0 0
  sz : b6 + 1 ≤ wr.heap.size

theorem ownsRow_keep {w w' : World} {base : Nat} {e : TypeId} {size : Nat} {v : Value} {n : Nat} {xs : List Value} (h : w.ownsRow base e size v n xs) (hb : Below w.heap.size w w') : w'.ownsRow base e size v n xs := by
  refine h.kept (row := none) ⟨hb.os, hb.tape, hb.output, hb.size, fun k hk _ => hb.block k hk⟩ ?_
  cases h1 : v.ownBlock with
  | none => exact .inl rfl
  | some k => exact .inr (by simp)

theorem RGW.grow {b6 : Nat} {z wr x : World} {v7 v8 : Value} {po : Int} {PT : List UInt8} {bs as_ : List P} (h : RGW b6 z wr v7 v8 po PT bs as_) (hb : Below wr.heap.size wr x) : RGW b6 z x v7 v8 po PT bs as_ :=
  ⟨h.bel.trans (hb.mono (by have := h.sz; omega)), (hb.cell (p := ⟨b6, 0, none⟩) (by have := h.sz; simp; omega)).trans h.p0, (hb.cell (p := ⟨b6, 1, none⟩) (by have := h.sz; simp; omega)).trans h.p1, (hb.frozen (p := ⟨b6, 0, none⟩) (by have := h.sz; simp; omega)).trans h.f0, (hb.frozen (p := ⟨b6, 1, none⟩) (by have := h.sz; simp; omega)).trans h.f1,
    ownsRow_keep h.o7 hb, ownsRow_keep h.o8 hb, h.dist, h.nil8, Nat.le_trans h.sz hb.size⟩

theorem grown_cell {u w' : World} {row : Option Nat} (hg : u.grownBy w' row) {b : Nat} (hb : b < u.heap.size) (hr : row ≠ some b) (j : Nat) : w'.cell? ⟨b, j, none⟩ = u.cell? ⟨b, j, none⟩ ∧ w'.frozen? ⟨b, j, none⟩ = u.frozen? ⟨b, j, none⟩ := by
  have hk := hg.block b hb (fun h => hr h.symm)
  exact ⟨World.cell?_of_block (a := ⟨b, j, none⟩) hk, World.frozen?_of_block (a := ⟨b, j, none⟩) hk⟩

theorem RGW.app7 {b6 : Nat} {z u w' : World} {v7 v8 : Value} {po : Int} {PT : List UInt8} {bs as_ : List P} (h : RGW b6 z u v7 v8 po PT bs as_) {g cap : Nat} {y : P}
    (ho : w'.ownsRow (b6 + 1) 40 2 (.slice (some ⟨g, 0, none⟩) (bs.length + 1) cap) (bs.length + 1) (pcells bs ++ [.int .i64 y.1, .string ⟨y.2.toArray⟩])) (hg : u.grownBy w' v7.ownBlock) (hat : v7.ownBlock = some g ∨ g = u.heap.size) :
    RGW b6 z w' (.slice (some ⟨g, 0, none⟩) (bs.length + 1) cap) v8 po PT (bs ++ [y]) as_ := by
  have h7 : v7.ownBlock ≠ some b6 := fun e => by have := (h.o7.lt _ e).1; omega
  have hsz := h.sz
  have k8 : v8.ownBlock = none ∨ v8.ownBlock ≠ v7.ownBlock := by
    cases e7 : v7.ownBlock with
    | none => cases e8 : v8.ownBlock with
      | none => exact .inl rfl
      | some k => exact .inr (by simp)
    | some k => exact .inr (h.dist k e7)
  refine ⟨h.bel.grown hg (by omega) (fun k hk => by have := (h.o7.lt k hk).1; omega), ?_, ?_, ?_, ?_, ?_, h.o8.kept hg k8, ?_, h.nil8, Nat.le_trans hsz hg.size⟩
  · exact (grown_cell hg (by omega) h7 0).1.trans h.p0
  · exact (grown_cell hg (by omega) h7 1).1.trans h.p1
  · exact (grown_cell hg (by omega) h7 0).2.trans h.f0
  · exact (grown_cell hg (by omega) h7 1).2.trans h.f1
  · rw [pcells_append, List.length_append]; exact ho
  · intro g' hg' e8
    simp only [Value.ownBlock, Option.some.injEq] at hg'
    subst hg'
    rcases hat with hat | hat
    · exact h.dist _ hat e8
    · have := (h.o8.lt _ e8).2; omega

theorem RGW.app8 {b6 : Nat} {z u w' : World} {v7 v8 : Value} {po : Int} {PT : List UInt8} {bs as_ : List P} (h : RGW b6 z u v7 v8 po PT bs as_) {g cap : Nat} {y : P}
    (ho : w'.ownsRow (b6 + 1) 40 2 (.slice (some ⟨g, 0, none⟩) (as_.length + 1) cap) (as_.length + 1) (pcells as_ ++ [.int .i64 y.1, .string ⟨y.2.toArray⟩])) (hg : u.grownBy w' v8.ownBlock) (hat : v8.ownBlock = some g ∨ g = u.heap.size) :
    RGW b6 z w' v7 (.slice (some ⟨g, 0, none⟩) (as_.length + 1) cap) po PT bs (as_ ++ [y]) := by
  have h8 : v8.ownBlock ≠ some b6 := fun e => by have := (h.o8.lt _ e).1; omega
  have hsz := h.sz
  have k7 : v7.ownBlock = none ∨ v7.ownBlock ≠ v8.ownBlock := by
    cases e7 : v7.ownBlock with
    | none => exact .inl rfl
    | some k => exact .inr (fun e => h.dist k e7 e.symm)
  refine ⟨h.bel.grown hg (by omega) (fun k hk => by have := (h.o8.lt k hk).1; omega), ?_, ?_, ?_, ?_, h.o7.kept hg k7, ?_, ?_, fun e => by simp at e, Nat.le_trans hsz hg.size⟩
  · exact (grown_cell hg (by omega) h8 0).1.trans h.p0
  · exact (grown_cell hg (by omega) h8 1).1.trans h.p1
  · exact (grown_cell hg (by omega) h8 0).2.trans h.f0
  · exact (grown_cell hg (by omega) h8 1).2.trans h.f1
  · rw [pcells_append, List.length_append]; exact ho
  · intro g' hg' e8
    simp only [Value.ownBlock, Option.some.injEq] at e8
    subst e8
    rcases hat with hat | hat
    · exact h.dist _ hg' hat
    · have := (h.o7.lt _ hg').2; omega

theorem RGW.setp {b6 : Nat} {z u : World} {v7 v8 : Value} {po : Int} {PT : List UInt8} {bs as_ : List P} (h : RGW b6 z u v7 v8 po PT bs as_) (po' : Int) (PT' : List UInt8) :
    RGW b6 z ((u.setCell ⟨b6, 0, none⟩ (.int .i64 po')).setCell ⟨b6, 1, none⟩ (.string ⟨PT'.toArray⟩)) v7 v8 po' PT' bs as_ := by
  have hg : u.grownBy ((u.setCell ⟨b6, 0, none⟩ (.int .i64 po')).setCell ⟨b6, 1, none⟩ (.string ⟨PT'.toArray⟩)) (some b6) :=
    ⟨rfl, rfl, rfl, by simp, fun k _ hk => (Below.heap_setCell _ _ _ k (fun e => hk (by rw [e]))).trans (Below.heap_setCell _ _ _ k (fun e => hk (by rw [e])))⟩
  have h7 : v7.ownBlock ≠ some b6 := fun e => by have := (h.o7.lt _ e).1; omega
  have h8 : v8.ownBlock ≠ some b6 := fun e => by have := (h.o8.lt _ e).1; omega
  exact ⟨(h.bel.setCell (Nat.le_refl _) _).setCell (Nat.le_refl _) _, by simp [go_sem, h.p0], by simp [go_sem, h.p1], by simp [go_sem, h.f0], by simp [go_sem, h.f1], h.o7.kept hg (.inr h7), h.o8.kept hg (.inr h8), h.dist, h.nil8, by simpa using h.sz⟩

theorem Pcs.setCell' {B : Nat} {W : World} {a : Option Addr} {ps : List P} {p : Addr} {v : Value} (h : Pcs B W a ps) (hne : ∀ ad, a = some ad → ad.block ≠ p.block) : Pcs B (W.setCell p v) a ps := by
  intro i hi
  obtain ⟨b, off, rfl, hlt, hc, hd⟩ := h i hi
  have hk : (W.setCell p v).heap[b]? = W.heap[b]? := Below.heap_setCell W p v b (hne _ rfl)
  exact ⟨b, off, rfl, hlt, (World.cell?_of_block (a := ⟨b, off + i * 2, none⟩) hk).trans hc, (World.cell?_of_block (a := ⟨b, off + i * 2 + 1, none⟩) hk).trans hd⟩

theorem and_six {a b c d e f G : Prop} (h : a ∧ b ∧ c ∧ d ∧ e ∧ f) (k : a → b → c → d → e → f → G) : G := k h.1 h.2.1 h.2.2.1 h.2.2.2.1 h.2.2.2.2.1 h.2.2.2.2.2

theorem gathered_own {w y4 : World} {R : Int × Int × Int × List P} {mid mtot : Int} {qs : List P} {g cap N base : Nat} (hR : R = (0, mid, mtot, qs)) (hl : qs.length = N) (hrow : y4.ownsRow base 40 2 (.slice (some ⟨g, 0, none⟩) N cap) N (pcells qs)) (hb : Below w.heap.size w y4) (hbase : w.heap.size + 3 ≤ base) :
    Gathered w R (.returned (.tuple #[.agg #[.int .i64 mid, .int .i64 mtot, .slice (some ⟨g, 0, none⟩) N cap], .int .i64 0])) (((y4.setCell ⟨w.heap.size + 1 + 1, 0, none⟩ (.int .i64 mid)).setCell ⟨w.heap.size + 1 + 1, 1, none⟩ (.int .i64 mtot)).setCell ⟨w.heap.size + 1 + 1, 2, none⟩ (.slice (some ⟨g, 0, none⟩) N cap)) := by
  subst hR hl
  have hg := (hrow.lt g rfl).1
  have hcap : qs.length ≤ cap := by
    rcases hrow.2 with ⟨h1, _⟩ | ⟨g', cap', cur, h1, _, _, h2, _⟩
    · cases h1
    · cases h1; exact h2
  refine ⟨some ⟨g, 0, none⟩, cap, rfl, ?_, ((hb.setCell (by simp; omega) _).setCell (by simp; omega) _).setCell (by simp; omega) _, hcap, fun ad h => by cases h; show w.heap.size ≤ g; omega⟩
  have hne : ∀ ad, some (⟨g, 0, none⟩ : Addr) = some ad → ad.block ≠ w.heap.size + 1 + 1 := fun ad h => by cases h; show g ≠ _; omega
  have hp : Pcs y4.heap.size y4 (some ⟨g, 0, none⟩) qs := by
    intro i hi
    rcases hrow.2 with ⟨h1, _⟩ | ⟨g', cap', cur, h1, _, hg', _⟩
    · cases h1
    · cases h1
      obtain ⟨c0, c1⟩ := pcells_even qs i hi
      refine ⟨g, 0, rfl, (Array.getElem?_eq_some_iff.1 hg').1, ?_, ?_⟩
      · have := hrow.cells (g := g) rfl _ _ c0; rwa [Go.WideShapes.add_plain] at this
      · have := hrow.cells (g := g) rfl _ _ c1; rwa [Go.WideShapes.add_plain, ← Nat.add_assoc] at this
  simpa using ((hp.setCell' hne).setCell' hne).setCell' hne

theorem step_append_none {P : Program} {w : World} {ops : Array Oper} {o : Oper} {a : Act} {K : Act → World → Prop} {Q : Exit → Act → World → Prop} {E : Prop} (hgd : o.guard = none) (s x : Operand) (t : TypeId)
    (ho : o.op = .call { callee := .builtin .append, args := #[s, x], argTypes := #[t, t] }) (base : Nat) (e : TypeId) (i : TypeInfo) (size : Nat) (ht : P.underlying t = some (.slice e)) (hi : P.info? e = some i)
    (v : Value) (n : Nat) (xs : List Value) (hs : a.eval s = v) (hown : w.ownsRow base e size v n xs) (hx : a.eval x = .slice none 0 0) (h : K (a.put o.dst v) w) :
    if Region.wanted o (yielded ops a.tmps) = true then Oper.wp P o a w K Q else E := by
  have hw : Region.wanted o (yielded ops a.tmps) = true := by simp [Region.wanted, hgd]
  rw [if_pos hw]
  have hrun := run_append_owned_none (P := P) (w := w) base t o.type e i size ht hi v n xs hown
  unfold Oper.wp
  simp [execOp, ho, resolve, invoke, builtin, hs, hx, hrun, Result.andThen]
  exact h

set_option maxRecDepth 100000 in
set_option maxHeartbeats 4000000 in
theorem refGather_any (id tot : Int) (a : Option Addr) (ps : List P) (c : Nat) (kind mid off mtot : Int) (ad : Option Addr) (nd cd : Nat) (data : List UInt8) (w : World)
    (hps : Pcs w.heap.size w a ps) (hcap : ps.length ≤ c) (hn : (ps.length : Int) ≤ 1048576) (hsz : ∀ p ∈ ps, p.2.length ≤ 1048576) (hdl : (data.length : Int) ≤ 1048576) (hnd : (nd : Int) ≤ 140737488355328) :
    Calls Try.prog 20 #[.agg #[.int .i64 id, .int .i64 tot, .slice a ps.length c], .agg #[.int .i64 kind, .int .i64 mid, .int .i64 off, .int .i64 mtot, .slice ad nd cd, .string ⟨data.toArray⟩]] w
      (Gathered w (gatherS id tot ps kind mid off mtot nd data)) := by
  have HS : Hid (∀ p ∈ ps, p.2.length ≤ 1048576) := Lib.hid hsz
  clear hsz
  obtain ⟨R, hR⟩ : ∃ R, R = gatherS id tot ps kind mid off mtot nd data := ⟨_, rfl⟩
  rw [← hR]
  have HR := Lib.hid hR
  clear hR
  obtain ⟨n, hnn⟩ : ∃ n, n = ps.length := ⟨_, rfl⟩
  have HN := Lib.hid hnn
  have HVP0 := Lib.hid (fun W hp h1 h2 => refValid_any id tot a ps c W hp h1 h2)
  rw [← hnn] at hn hcap HVP0 ⊢
  clear hnn
  obtain ⟨W, hW⟩ : ∃ W : World, (((w.alloc (.cells #[.int .i64 id, .int .i64 tot, .slice a n c] 31)).alloc (.cells #[.int .i64 kind, .int .i64 mid, .int .i64 off, .int .i64 mtot, .slice ad nd cd, .string ⟨data.toArray⟩] 34)).alloc (.cells #[.int .i64 0, .int .i64 0, .slice none 0 0] 31)) = W := ⟨_, rfl⟩
  have HBW : Hid (Below w.heap.size w W) := Lib.hid (by rw [← hW]; exact (((Below.refl _ w).alloc (Nat.le_refl _) _).alloc (by simp) _).alloc (by simp; omega) _)
  have HG : Hid (GC w.heap.size id tot a n c kind mid off mtot ad nd cd data W) := Lib.hid (by
    rw [← hW]
    constructor <;> simp [go_sem])
  have HPW : Hid (Pcs w.heap.size W a ps) := Lib.hid (hps.below HBW.out (Nat.le_refl _))
  have HW := Lib.hid hW
  clear hW hps
  have HVP := Lib.hid (HVP0.out W (HPW.out.mono (by have := HG.out.hs; omega)) (by omega) (fun p hp => by have := HS.out p hp; omega))
  go_enter Try.func20, Try.ntmps20
  go_wp2_with fail
  rw [HW.out]
  refine HVP.out.mono ?_
  rintro e x ⟨rfl, hb⟩
  have HX : Hid (GC w.heap.size id tot a n c kind mid off mtot ad nd cd data x) := Lib.hid (HG.out.below hb HG.out.hs)
  have HBX : Hid (Below w.heap.size w x) := Lib.hid (HBW.out.trans (hb.mono HBW.out.size))
  have HPX : Hid (Pcs w.heap.size x a ps) := Lib.hid (HPW.out.below hb (by have := HG.out.hs; omega))
  clear hb HVP HVP0 HW HG HBW HPW W
  obtain ⟨w0, w1, w2, m0, m1, m2, m3, m4, m5, r0, r1, r2, f0, f1, f2, hs⟩ := HX.out
  cases hv : vParts id tot ps with
  | false =>
    have HF : Hid (R = (1, 0, 0, [])) := Lib.hid (by rw [HR.out, gatherS, hv]; rfl)
    clear hv
    go_wp2_with fail
    refine bodyPost_ret (v := .tuple #[.agg #[.int .i64 0, .int .i64 0, .slice none 0 0], .int .i64 1]) (by simp [results, Try.results20, go_sem, r0, r1, r2]) rfl (ret_err HF.out HBX.out)
  | true =>
    by_cases hk : kind = 2
    · subst hk
      have HR1 := Lib.hid (show R = if !v2i mid off mtot nd data.length then (1, 0, 0, []) else if 0 < ps.length ∧ (id ≠ mid ∨ tot ≠ mtot) then (11, 0, 0, []) else gRest off mid mtot data ps from by rw [HR.out, gatherS, hv]; rfl)
      have HV := Lib.hid hv
      clear hv HR
      go_wp2_with fail
      refine (check_any 2 mid off mtot ad nd cd data x (by omega) hnd).mono ?_
      rintro e y ⟨rfl, hb⟩
      clear w0 w1 w2 m0 m1 m2 m3 m4 m5 r0 r1 r2 f0 f1 f2
      have HY : Hid (GC w.heap.size id tot a n c 2 mid off mtot ad nd cd data y) := Lib.hid (HX.out.below hb hs)
      have HBY : Hid (Below w.heap.size w y) := Lib.hid (HBX.out.trans (hb.mono HBX.out.size))
      have HPY : Hid (Pcs w.heap.size y a ps) := Lib.hid (HPX.out.below hb (by omega))
      clear hb HX HBX HPX hs x
      obtain ⟨w0, w1, w2, m0, m1, m2, m3, m4, m5, r0, r1, r2, f0, f1, f2, hs⟩ := HY.out
      cases hv : v2i mid off mtot nd data.length with
      | false =>
        have HF : Hid (R = (1, 0, 0, [])) := Lib.hid (by rw [HR1.out, hv]; rfl)
        obtain ⟨er, hers⟩ : ∃ er, er = whyM 2 mid off mtot nd data.length := ⟨_, rfl⟩
        have her : (er != 0) = true := by rw [hers, whyM2 hv]
        rw [← hers]
        clear hv hers
        go_wp2_with fail
        refine bodyPost_ret (v := .tuple #[.agg #[.int .i64 0, .int .i64 0, .slice none 0 0], .int .i64 1]) (by simp [results, Try.results20, go_sem, r0, r1, r2]) rfl (ret_err HF.out HBY.out)
      | true =>
        rw [whyM2' hv]
        go_upto_region 7 with fail
        go_cut [40] from 23 (fun c wx => c = .bool (decide (0 < n ∧ (id ≠ mid ∨ tot ≠ mtot))) ∧ y = wx)
        case first =>
          by_cases h0 : 0 < n
          · have g1 : decide (0 < n) = true := by simpa using h0
            by_cases hi : id = mid
            · have g2 : (id == mid) = true := by simpa using hi
              by_cases ht : tot = mtot
              · have g3 : (tot == mtot) = true := by simpa using ht
                go_wp2_with fail
                go_meet
                case rel => exact ⟨congrArg Value.bool (decide_eq_false (by omega)).symm, rfl⟩
              · have g3 : (tot == mtot) = false := by simpa using ht
                go_wp2_with fail
                go_meet
                case rel => exact ⟨congrArg Value.bool (by rw [decide_eq_true (by omega : 0 < n ∧ (id ≠ mid ∨ tot ≠ mtot))]; simpa [bne] using g3), rfl⟩
            · have g2 : (id == mid) = false := by simpa using hi
              go_wp2_with fail
              go_meet
              case rel => exact ⟨congrArg Value.bool (decide_eq_true (by omega)).symm, rfl⟩
          · have g1 : decide (0 < n) = false := by simpa using h0
            go_wp2_with fail
            go_meet
            case rel => exact ⟨congrArg Value.bool (decide_eq_false (by omega)).symm, rfl⟩
        case rest =>
        obtain ⟨rfl, rfl⟩ := hcut
        by_cases hm : 0 < n ∧ (id ≠ mid ∨ tot ≠ mtot)
        · have HF : Hid (R = (11, 0, 0, [])) := Lib.hid (by rw [HR1.out, hv, ← HN.out, if_pos hm]; rfl)
          have g1 : decide (0 < n ∧ (id ≠ mid ∨ tot ≠ mtot)) = true := decide_eq_true hm
          rw [g1]
          clear hv hm g1
          go_wp2_with fail
          refine bodyPost_ret (v := .tuple #[.agg #[.int .i64 0, .int .i64 0, .slice none 0 0], .int .i64 11]) (by simp [results, Try.results20, go_sem, r0, r1, r2]) rfl (ret_err HF.out HBY.out)
        · have HR2 := Lib.hid (show R = gRest off mid mtot data ps from by rw [HR1.out, hv, ← HN.out, if_neg hm]; rfl)
          have g1 : decide (0 < n ∧ (id ≠ mid ∨ tot ≠ mtot)) = false := decide_eq_false hm
          rw [g1]
          have hvv : (0 ≤ mid ∧ mid ≤ 1099511627776) ∧ (1 ≤ data.length ∧ data.length ≤ 65536 ∧ 1 ≤ mtot ∧ mtot ≤ 1048576 ∧ 0 ≤ off ∧ off ≤ mtot - data.length ∧ nd = 0) := by
            unfold v2i v2 at hv; simpa using hv
          clear hv HR1
          obtain ⟨⟨hv1, hv2⟩, hv3, hv4, hv5, hv6, hv7, hv8, rfl⟩ := hvv
          have HVG : Hid (0 < n → vgo mtot (-1) ps = true) := Lib.hid (fun h0 => by
            have hi : id = mid := by omega
            have ht : tot = mtot := by omega
            subst hi ht
            have := HV.out
            rwa [vParts_go (by rw [← HN.out]; exact h0) ⟨hv1, hv2, by omega, by omega⟩] at this)
          clear hm g1 HV
          obtain ⟨z, hz⟩ : ∃ z : World, y.alloc (.cells #[.int .i64 off, .string ⟨data.toArray⟩] 40) = z := ⟨_, rfl⟩
          have hzy : y.heap.size + 1 ≤ z.heap.size := by rw [← hz]; simp
          have HBYZ : Hid (Below y.heap.size y z) := Lib.hid (by rw [← hz]; exact (Below.refl _ y).alloc (Nat.le_refl _) _)
          have HZ : Hid (GC w.heap.size id tot a n c 2 mid off mtot ad 0 cd data z) := Lib.hid (HY.out.below HBYZ.out hs)
          have HBZ : Hid (Below w.heap.size w z) := Lib.hid (HBY.out.trans (HBYZ.out.mono HBY.out.size))
          have HPZ : Hid (Pcs w.heap.size z a ps) := Lib.hid (HPY.out.below HBYZ.out (by omega))
          have p0 : z.cell? ⟨y.heap.size, 0, none⟩ = some (.int .i64 off) := by rw [← hz]; simp [go_sem]
          have p1 : z.cell? ⟨y.heap.size, 1, none⟩ = some (.string ⟨data.toArray⟩) := by rw [← hz]; simp [go_sem]
          have p2 : z.frozen? ⟨y.heap.size, 0, none⟩ = false := by rw [← hz]; simp [go_sem]
          have p3 : z.frozen? ⟨y.heap.size, 1, none⟩ = false := by rw [← hz]; simp [go_sem]
          have HZE := Lib.hid hz
          have HRR : Hid (R = rRest off mid mtot data ps) := Lib.hid (by
            rw [HR2.out]
            by_cases h0 : 0 < n
            · rw [rRest_eq (HVG.out h0)]; rfl
            · have : ps = [] := List.length_eq_zero_iff.1 (by rw [← HN.out]; omega)
              subst this; rfl)
          clear hz HR2 w0 w1 w2 m0 m1 m2 m3 m4 m5 r0 r1 r2 f0 f1 f2
          obtain ⟨w0, w1, w2, m0, m1, m2, m3, m4, m5, r0, r1, r2, f0, f1, f2, _⟩ := HY.out
          go_wp2_with fail
          rw [HZE.out]
          obtain ⟨b6, hb6⟩ : ∃ b6, y.heap.size = b6 := ⟨_, rfl⟩
          rw [hb6] at p0 p1 p2 p3 hzy hs
          rw [hb6]
          obtain ⟨i0', hi, hz0, hz1, hz2⟩ := info_parts infoPiece
          have HZI := Lib.hid hz0
          clear hb6 HZE HY HBY HPY HBYZ w0 w1 w2 m0 m1 m2 m3 m4 m5 r0 r1 r2 f0 f1 f2
          go_loopw [7, 8, 9] (fun v7 v8 i wr => ∃ (k : Nat) (po : Int) (PT : List UInt8) (bs as_ : List P), k ≤ n ∧ i = .int .i64 k ∧ RGW b6 z wr v7 v8 po PT bs as_ ∧ RGP off data ps k (po, PT) bs as_) (fun _ _ i _ => n - (intOf i).toNat)
          case atStart => exact ⟨0, off, data, [], [], by omega, rfl, ⟨Below.refl _ _, p0, p1, p2, p3, World.ownsRow_nil _ _ _ _, World.ownsRow_nil _ _ _ _, (fun g h => by cases h), (fun _ => rfl), hzy⟩, RGP.start hv7 (by omega)⟩
          case round =>
            obtain ⟨k, po, PT, bs, as_, hk, rfl, hrw, hrel⟩ := hrel
            have HRW := Lib.hid hrw
            have HRL := Lib.hid hrel
            have hpo0 : 0 ≤ po := hrel.2.1
            have hpo1 : po + PT.length ≤ 1048576 := hrel.2.2.1
            have hlen : bs.length + as_.length ≤ k := hrel.2.2.2
            have hws : b6 + 1 ≤ wr.heap.size := hrw.sz
            have HG := Lib.hid (HZ.out.below hrw.bel (by omega))
            have HBR := Lib.hid (HBZ.out.trans (hrw.bel.mono (by omega)))
            obtain ⟨_, _, w2, _, _, _, _, _, _, r0, r1, r2, f0, f1, f2, _⟩ := HG.out
            clear hrw hrel
            by_cases hlt : k < n
            · have hlt' : k < ps.length := by rw [← HN.out]; exact hlt
              obtain ⟨b1, o1, rfl, hbl, hc, hd⟩ := (HPZ.out.below HRW.out.bel (by omega)) k hlt'
              have hva := vgo_all (HVG.out (by omega)) ps[k] (List.getElem_mem hlt')
              obtain ⟨⟨o, T⟩, hp⟩ : ∃ p, p = ps[k] := ⟨_, rfl⟩
              have HPK := Lib.hid hp
              rw [← hp] at hc hd hva
              simp only [pend] at hc hd hva
              obtain ⟨ho0, _, ho1, _⟩ := hva
              have q0 := HRW.out.p0
              have q1 := HRW.out.p1
              have q0' := fun x => cell_a1 q0 x
              have q1' := fun x => cell_a1 q1 x
              obtain ⟨R9, hR9⟩ : ∃ r, r = agr (po, PT) (o, T) := ⟨_, rfl⟩
              have HAG := Lib.hid (fun X => agree_any po o PT T X (by omega) (by omega) (by omega) (by omega) (by omega) (by omega))
              rw [← hR9] at HAG
              have HR9 := Lib.hid hR9
              clear hp hR9
              go_wp2_with fail
              refine (HAG.out _).mono ?_
              rintro e x ⟨rfl, hbx⟩
              have hwx : Below wr.heap.size wr x := ((Below.refl _ _).alloc (Nat.le_refl _) _).trans (hbx.mono (by simp))
              have t0 : x.cell? ⟨wr.heap.size, 0, none⟩ = some (.int .i64 o) := (hbx.cell (p := ⟨wr.heap.size, 0, none⟩) (by simp)).trans (by simp)
              have t1 : x.cell? ⟨wr.heap.size, 1, none⟩ = some (.string ⟨T.toArray⟩) := (hbx.cell (p := ⟨wr.heap.size, 1, none⟩) (by simp)).trans (by simp)
              have HXW := Lib.hid (HRW.out.grow hwx)
              have hxs : wr.heap.size + 1 ≤ x.heap.size := by have := hbx.size; simpa using this
              have HGX := Lib.hid (HG.out.below hwx (by omega))
              have HBX := Lib.hid (HBR.out.trans (hwx.mono (by omega)))
              obtain ⟨_, _, _, _, _, _, _, _, _, r0, r1, r2, f0, f1, f2, _⟩ := HGX.out
              have s0 := HXW.out.p0
              have s1 := HXW.out.p1
              clear hbx hwx q0 q1 q0' q1' hc hd w2
              cases R9 with
              | false =>
                have HF : Hid (R = (11, 0, 0, [])) := Lib.hid (by
                  have := HRL.out.bad hlt' (by rw [← HPK.out]; exact HR9.out.symm)
                  rw [HRR.out, rRest, this])
                go_wp2_with fail
                refine bodyPost_ret (v := .tuple #[.agg #[.int .i64 0, .int .i64 0, .slice none 0 0], .int .i64 11]) (by simp [results, Try.results20, go_sem, r0, r1, r2]) rfl (ret_err HF.out HBX.out)
              | true =>
                have HAT : Hid (agr (po, PT) ps[k] = true) := Lib.hid (by rw [← HPK.out]; exact HR9.out.symm)
                by_cases h1 : o + (T.length : Int) < po
                · have HN1 : Hid (RGP off data ps (k + 1) (po, PT) (bs ++ [(o, T)]) as_) := Lib.hid (by
                    have := HRL.out.before hlt' HAT.out (by rw [← HPK.out]; exact h1)
                    rwa [← HPK.out] at this)
                  go_wp2_with (at_builtin; refine wpList_append_lies _ rfl _ _ 29 rfl (b6 + 1) 40 i0' _ 2 24 Try.underlying29 hi HZI.out hz1 hz2 rfl (by decide) _ _ _ rfl (HXW.out.o7.alloc _) ⟨x.heap.size, 0, none⟩ 1 1 [.int .i64 o, .string ⟨T.toArray⟩] rfl rfl (World.news_of_block (cs := #[.int .i64 o, .string ⟨T.toArray⟩]) (t := 40) (fr := (0, 0)) (heap_alloc_new x _)) (by simp [Value.oneCell']) (by decide) (by unfold maxLen; omega) (by omega) (by simp; omega) _ rfl ?_)
                  intro g cap w3 hown hgrow hat _
                  have HW3 := Lib.hid ((HXW.out.grow ((Below.refl _ _).alloc (Nat.le_refl _) _)).app7 (y := (o, T)) hown hgrow (by simpa using hat))
                  clear hown hgrow hat
                  go_wp2_with fail
                  go_roundw
                  case rel => exact ⟨k + 1, po, PT, bs ++ [(o, T)], as_, by omega, by go_num, HW3.out, HN1.out⟩
                  case measure => simp [intOf]; omega
                · by_cases h2 : po + (PT.length : Int) < o
                  · have HN1 : Hid (RGP off data ps (k + 1) (po, PT) bs (as_ ++ [(o, T)])) := Lib.hid (by
                      have := HRL.out.after hlt' HAT.out (by rw [← HPK.out]; exact h1) (by rw [← HPK.out]; exact h2)
                      rwa [← HPK.out] at this)
                    go_wp2_with (at_builtin; refine wpList_append_lies _ rfl _ _ 29 rfl (b6 + 1) 40 i0' _ 2 24 Try.underlying29 hi HZI.out hz1 hz2 rfl (by decide) _ _ _ rfl (HXW.out.o8.alloc _) ⟨x.heap.size, 0, none⟩ 1 1 [.int .i64 o, .string ⟨T.toArray⟩] rfl rfl (World.news_of_block (cs := #[.int .i64 o, .string ⟨T.toArray⟩]) (t := 40) (fr := (0, 0)) (heap_alloc_new x _)) (by simp [Value.oneCell']) (by decide) (by unfold maxLen; omega) (by omega) (by simp; omega) _ rfl ?_)
                    intro g cap w3 hown hgrow hat _
                    have HW3 := Lib.hid ((HXW.out.grow ((Below.refl _ _).alloc (Nat.le_refl _) _)).app8 (y := (o, T)) hown hgrow (by simpa using hat))
                    clear hown hgrow hat
                    go_wp2_with fail
                    go_roundw
                    case rel => exact ⟨k + 1, po, PT, bs, as_ ++ [(o, T)], by omega, by go_num, HW3.out, HN1.out⟩
                    case measure => simp [intOf]; omega
                  · have HN1 : Hid (RGP off data ps (k + 1) (rjoin (po, PT) (o, T)) bs as_) := Lib.hid (by
                      have := HRL.out.join hlt' HAT.out (by rw [← HPK.out]; exact h1) (by rw [← HPK.out]; exact h2) (by rw [← HPK.out]; exact ho0) (by rw [← HPK.out]; simp only [pend]; omega)
                      rwa [← HPK.out] at this)
                    have HJ := Lib.hid (fun X => refJoin_any po o PT T X (by omega) (by omega) (by omega) (by omega) (by omega) (by omega) (by omega) (by omega))
                    generalize rjoin (po, PT) (o, T) = RJ at HN1 HJ
                    obtain ⟨ro, RT⟩ := RJ
                    have g0 := HXW.out.f0
                    have g1 := HXW.out.f1
                    go_wp2_with fail
                    refine (HJ.out _).mono ?_
                    rintro e x2 ⟨rfl, hb2⟩
                    have HXW2 := Lib.hid (HXW.out.grow hb2)
                    have s0 := HXW2.out.p0
                    have s1 := HXW2.out.p1
                    have g0 := HXW2.out.f0
                    have g1 := HXW2.out.f1
                    clear hb2
                    go_wp2_with fail
                    go_roundw
                    case rel => exact ⟨k + 1, ro, RT, bs, as_, by omega, by go_num, HXW2.out.setp ro RT, HN1.out⟩
                    case measure => simp [intOf]; omega
            · have HRF : Hid (R = (0, mid, mtot, bs ++ (po, PT) :: as_)) := Lib.hid (by
                have := HRL.out.fin (by rw [← HN.out]; omega)
                rw [HRR.out, rRest, this])
              obtain ⟨_, _, _, _, m1, _, m3, _, _, _⟩ := HG.out
              have q0 := HRW.out.p0
              have q1 := HRW.out.p1
              have HK : Hid (∀ X, Below (b6 + 1) wr X → X.cell? ⟨w.heap.size + 1, 1, none⟩ = some (.int .i64 mid) ∧ X.cell? ⟨w.heap.size + 1, 3, none⟩ = some (.int .i64 mtot) ∧ X.cell? ⟨b6, 0, none⟩ = some (.int .i64 po) ∧ X.cell? ⟨b6, 1, none⟩ = some (.string ⟨PT.toArray⟩)) := Lib.hid (fun X hX =>
                ⟨(hX.cell (p := ⟨w.heap.size + 1, 1, none⟩) (by simp; omega)).trans m1, (hX.cell (p := ⟨w.heap.size + 1, 3, none⟩) (by simp; omega)).trans m3, (hX.cell (p := ⟨b6, 0, none⟩) (by simp)).trans q0, (hX.cell (p := ⟨b6, 1, none⟩) (by simp)).trans q1⟩)
              have HKS : Hid (∀ X, Below (b6 + 1) wr X → ∀ (v0 v1 v2 : Value), (((X.setCell ⟨w.heap.size + 1 + 1, 0, none⟩ v0).setCell ⟨w.heap.size + 1 + 1, 1, none⟩ v1).setCell ⟨w.heap.size + 1 + 1, 2, none⟩ v2).cell? ⟨w.heap.size + 1, 1, none⟩ = some (.int .i64 mid) ∧ (((X.setCell ⟨w.heap.size + 1 + 1, 0, none⟩ v0).setCell ⟨w.heap.size + 1 + 1, 1, none⟩ v1).setCell ⟨w.heap.size + 1 + 1, 2, none⟩ v2).cell? ⟨w.heap.size + 1, 3, none⟩ = some (.int .i64 mtot) ∧ (((X.setCell ⟨w.heap.size + 1 + 1, 0, none⟩ v0).setCell ⟨w.heap.size + 1 + 1, 1, none⟩ v1).setCell ⟨w.heap.size + 1 + 1, 2, none⟩ v2).cell? ⟨b6, 0, none⟩ = some (.int .i64 po) ∧ (((X.setCell ⟨w.heap.size + 1 + 1, 0, none⟩ v0).setCell ⟨w.heap.size + 1 + 1, 1, none⟩ v1).setCell ⟨w.heap.size + 1 + 1, 2, none⟩ v2).cell? ⟨b6, 1, none⟩ = some (.string ⟨PT.toArray⟩)) := Lib.hid (fun X hX v0 v1 v2 => by
                obtain ⟨k1, k2, k3, k4⟩ := HK.out X hX
                have hb : ∀ b, b ≠ w.heap.size + 1 + 1 → ∀ j, (((X.setCell ⟨w.heap.size + 1 + 1, 0, none⟩ v0).setCell ⟨w.heap.size + 1 + 1, 1, none⟩ v1).setCell ⟨w.heap.size + 1 + 1, 2, none⟩ v2).cell? ⟨b, j, none⟩ = X.cell? ⟨b, j, none⟩ := fun b hne j =>
                  World.cell?_of_block (a := ⟨b, j, none⟩) (((Below.heap_setCell _ _ _ b hne).trans (Below.heap_setCell _ _ _ b hne)).trans (Below.heap_setCell _ _ _ b hne))
                exact ⟨(hb _ (by omega) _).trans k1, (hb _ (by omega) _).trans k2, (hb _ (by omega) _).trans k3, (hb _ (by omega) _).trans k4⟩)
              have HR3 : Hid (∀ X, Below (b6 + 1) wr X → X.cell? ⟨w.heap.size + 1 + 1, 0, none⟩ = some (.int .i64 0) ∧ X.cell? ⟨w.heap.size + 1 + 1, 1, none⟩ = some (.int .i64 0) ∧ X.cell? ⟨w.heap.size + 1 + 1, 2, none⟩ = some (.slice none 0 0) ∧ X.frozen? ⟨w.heap.size + 1 + 1, 0, none⟩ = false ∧ X.frozen? ⟨w.heap.size + 1 + 1, 1, none⟩ = false ∧ X.frozen? ⟨w.heap.size + 1 + 1, 2, none⟩ = false) := Lib.hid (fun X hX =>
                ⟨(hX.cell (p := ⟨w.heap.size + 1 + 1, 0, none⟩) (by simp; omega)).trans r0, (hX.cell (p := ⟨w.heap.size + 1 + 1, 1, none⟩) (by simp; omega)).trans r1, (hX.cell (p := ⟨w.heap.size + 1 + 1, 2, none⟩) (by simp; omega)).trans r2, (hX.frozen (p := ⟨w.heap.size + 1 + 1, 0, none⟩) (by simp; omega)).trans f0, (hX.frozen (p := ⟨w.heap.size + 1 + 1, 1, none⟩) (by simp; omega)).trans f1, (hX.frozen (p := ⟨w.heap.size + 1 + 1, 2, none⟩) (by simp; omega)).trans f2⟩)
              clear w2 m1 m3 r0 r1 r2 f0 f1 f2 q0 q1
              by_cases has : as_ = []
              · have h8 := HRW.out.nil8 has
                subst h8
                subst has
                go_wp2_with fail
                go_region_held3 (fun w' => w'.cell? ⟨w.heap.size + 1, 1, none⟩ = some (.int .i64 mid) ∧ w'.cell? ⟨w.heap.size + 1, 3, none⟩ = some (.int .i64 mtot) ∧ w'.cell? ⟨b6, 0, none⟩ = some (.int .i64 po) ∧ w'.cell? ⟨b6, 1, none⟩ = some (.string ⟨PT.toArray⟩))
                  (first
                    | exact HK.out _ (Below.refl _ _).drew
                    | exact HK.out _ ((Below.refl _ _).alloc hws _).drew
                    | exact HK.out _ hw1
                    | exact HKS.out _ hw1 _ _ _)
                  (first
                    | (refine step_append_lies _ (by rfl) (.tmp 97) (.tmp 99) _ (by rfl) (b6 + 1) 40 i0' _ 2 24 Try.underlying29 hi HZI.out hz1 hz2 rfl (by omega) _ bs.length (pcells bs) (by rfl) (HRW.out.o7.alloc _).drew ⟨wr.heap.size, 0, none⟩ 1 1 [.int .i64 po, .string ⟨PT.toArray⟩] (by rfl) (by rfl) (World.news_of_block (cs := #[.int .i64 po, .string ⟨PT.toArray⟩]) (t := 40) (fr := (0, 0)) (heap_alloc_new wr _)) (by simp [Value.oneCell']) (by omega) (by unfold maxLen; omega) (by omega) (by simp; omega) _ rfl ?_; intro g2 cap2 y1 hown1 hgrow1 hat1 hlt1; have H1 := (HRW.out.grow (((Below.refl _ _).alloc (Nat.le_refl _) (.cells #[.int .i64 po, .string ⟨PT.toArray⟩] 40)).drew)).app7 (y := (po, PT)) hown1 hgrow1 (by simpa using hat1); have hw1 : Below (b6 + 1) wr y1 := (((Below.refl _ _).alloc hws _).drew).grown hgrow1 (by simp; omega) (fun k hk => (HRW.out.o7.lt k hk).1))
                    | (refine step_append_none (by rfl) (.tmp 100) (.tmp 101) _ (by rfl) (b6 + 1) 40 i0' 2 Try.underlying29 hi (.slice (some ⟨g2, 0, none⟩) (bs.length + 1) cap2) (bs.length + 1) (pcells bs ++ [.int .i64 po, .string ⟨PT.toArray⟩]) (by rfl) hown1 (by rfl) ?_; refine and_six (HR3.out _ hw1) ?_; intro e0 e1 e2 e3 e4 e5)
                    | fail)
                all_goals
                  go_wp2_with fail
                  refine bodyPost_ret (v := .tuple #[.agg #[.int .i64 mid, .int .i64 mtot, .slice (some ⟨g2, 0, none⟩) (bs.length + 1) cap2], .int .i64 0]) (by simp [results, Try.results20, go_sem, e0, e1, e2]) rfl (gathered_own (base := b6 + 1) HRF.out (by simp) ?_ (HBR.out.trans (hw1.mono (by omega))) (by omega))
                  rw [pcells_append, pcells_cons]
                  exact hown1
              · have hal : 0 < as_.length := List.length_pos_iff.2 has
                obtain ⟨g8, cap8, h8, _, _⟩ := HRW.out.o8.form hal
                subst h8
                clear has
                go_wp2_with fail
                go_region_held3 (fun w' => w'.cell? ⟨w.heap.size + 1, 1, none⟩ = some (.int .i64 mid) ∧ w'.cell? ⟨w.heap.size + 1, 3, none⟩ = some (.int .i64 mtot) ∧ w'.cell? ⟨b6, 0, none⟩ = some (.int .i64 po) ∧ w'.cell? ⟨b6, 1, none⟩ = some (.string ⟨PT.toArray⟩))
                  (first
                    | exact HK.out _ (Below.refl _ _).drew
                    | exact HK.out _ ((Below.refl _ _).alloc hws _).drew
                    | exact HK.out _ hw2
                    | exact HK.out _ hw1
                    | exact HKS.out _ hw2 _ _ _)
                  (first
                    | (refine step_append_lies _ (by rfl) (.tmp 97) (.tmp 99) _ (by rfl) (b6 + 1) 40 i0' _ 2 24 Try.underlying29 hi HZI.out hz1 hz2 rfl (by omega) _ bs.length (pcells bs) (by rfl) (HRW.out.o7.alloc _).drew ⟨wr.heap.size, 0, none⟩ 1 1 [.int .i64 po, .string ⟨PT.toArray⟩] (by rfl) (by rfl) (World.news_of_block (cs := #[.int .i64 po, .string ⟨PT.toArray⟩]) (t := 40) (fr := (0, 0)) (heap_alloc_new wr _)) (by simp [Value.oneCell']) (by omega) (by unfold maxLen; omega) (by omega) (by simp; omega) _ rfl ?_; intro g2 cap2 y1 hown1 hgrow1 hat1 hlt1; have H1 := (HRW.out.grow (((Below.refl _ _).alloc (Nat.le_refl _) (.cells #[.int .i64 po, .string ⟨PT.toArray⟩] 40)).drew)).app7 (y := (po, PT)) hown1 hgrow1 (by simpa using hat1); have hw1 : Below (b6 + 1) wr y1 := (((Below.refl _ _).alloc hws _).drew).grown hgrow1 (by simp; omega) (fun k hk => (HRW.out.o7.lt k hk).1))
                    | (refine step_append_lies _ (by rfl) (.tmp 100) (.tmp 101) _ (by rfl) (b6 + 1) 40 i0' _ 2 24 Try.underlying29 hi HZI.out hz1 hz2 rfl (by omega) (.slice (some ⟨g2, 0, none⟩) (bs.length + 1) cap2) (bs.length + 1) (pcells bs ++ [.int .i64 po, .string ⟨PT.toArray⟩]) (by rfl) hown1 ⟨g8, 0, none⟩ as_.length cap8 (pcells as_) (by rfl) (length_pcells _) (H1.o8.cells rfl) (fun v hv => pcells_one hv) hal (by unfold maxLen; omega) (by omega) H1.sz _ rfl ?_; intro g3 cap3 y2 hown2 hgrow2 hat2 hlt2; have hw2 : Below (b6 + 1) wr y2 := hw1.grown hgrow2 H1.sz (fun k hk => (hown1.lt k hk).1); refine and_six (HR3.out _ hw2) ?_; intro e0 e1 e2 e3 e4 e5)
                    | fail)
                all_goals
                  go_wp2_with fail
                  refine bodyPost_ret (v := .tuple #[.agg #[.int .i64 mid, .int .i64 mtot, .slice (some ⟨g3, 0, none⟩) (bs.length + 1 + as_.length) cap3], .int .i64 0]) (by simp [results, Try.results20, go_sem, e0, e1, e2]) rfl (gathered_own (base := b6 + 1) HRF.out (by simp; omega) ?_ (HBR.out.trans (hw2.mono (by omega))) (by omega))
                  rw [pcells_append, pcells_cons]
                  have := hown2
                  rw [List.append_assoc] at this
                  exact this
    · have HF : Hid (R = (9, 0, 0, [])) := Lib.hid (by rw [HR.out, gatherS, hv, if_pos hk]; rfl)
      have hk' : (kind == 2) = false := by simpa using hk
      clear hv hk
      go_wp2_with fail
      refine bodyPost_ret (v := .tuple #[.agg #[.int .i64 0, .int .i64 0, .slice none 0 0], .int .i64 9]) (by simp [results, Try.results20, go_sem, r0, r1, r2]) rfl (ret_err HF.out HBX.out)

end Go.Proofs.Ytlijaacjfnjmjaa
