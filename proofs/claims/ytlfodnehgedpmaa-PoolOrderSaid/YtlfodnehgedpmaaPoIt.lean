/- Items of a pool. -/
import Derived.Test.YtlfodnehgedpmaaPoCm
namespace Go.Proofs.Ytlfodnehgedpmaa
open Go.RowKit Go.Shelf
set_option linter.unusedVariables false

structure Itm where
  d : Int × Int
  data : List UInt8
deriving DecidableEq
abbrev Itm.val (x : Itm) : Value := .agg #[.int .u64 x.d.1, .int .u64 x.d.2, .string ⟨x.data.toArray⟩]
def icells (xs : List Itm) : List Value := xs.flatMap fun x => [.int .u64 x.d.1, .int .u64 x.d.2, .string ⟨x.data.toArray⟩]
theorem icells_append (a b : List Itm) : icells (a ++ b) = icells a ++ icells b := by simp [icells]
theorem icells_length (a : List Itm) : (icells a).length = a.length * 3 := by
  induction a with
  | nil => rfl
  | cons x a ih => simp [icells] at ih ⊢; omega
theorem icells_at : ∀ (es : List Itm) (i : Nat) (h : i < es.length), (icells es)[i * 3]? = some (.int .u64 es[i].d.1) ∧ (icells es)[i * 3 + 1]? = some (.int .u64 es[i].d.2) ∧ (icells es)[i * 3 + 2]? = some (.string ⟨es[i].data.toArray⟩)
  | [], i, h => by simp at h
  | d :: ds, 0, h => by simp [icells]
  | d :: ds, i + 1, h => by
    have h' : i < ds.length := by simpa using h
    have e : icells (d :: ds) = [.int .u64 d.d.1, .int .u64 d.d.2, .string ⟨d.data.toArray⟩] ++ icells ds := by simp [icells]
    have g : ∀ j, (icells (d :: ds))[(i + 1) * 3 + j]? = (icells ds)[i * 3 + j]? := fun j => by
      rw [e, List.getElem?_append_right (by simp; omega)]
      congr 1
      simp
      omega
    have := icells_at ds i h'
    simp only [List.getElem_cons_succ]
    exact ⟨(g 0).trans this.1, (g 1).trans this.2.1, (g 2).trans this.2.2⟩
theorem icells_one (xs : List Itm) : ∀ v ∈ icells xs, v.oneCell' = true := by
  intro v hv
  simp only [icells, List.mem_flatMap] at hv
  obtain ⟨x, _, hv⟩ := hv
  simp at hv
  rcases hv with rfl | rfl | rfl <;> rfl
/-- A slice of items that lies below block B. -/
def Its (B : Nat) (W : World) (a : Option Addr) (es : List Itm) : Prop :=
  ∀ i (h : i < es.length), ∃ b off, a = some ⟨b, off, none⟩ ∧ b < B ∧ W.cell? ⟨b, off + i * 3, none⟩ = some (.int .u64 es[i].d.1) ∧ W.cell? ⟨b, off + i * 3 + 1, none⟩ = some (.int .u64 es[i].d.2) ∧ W.cell? ⟨b, off + i * 3 + 2, none⟩ = some (.string ⟨es[i].data.toArray⟩)
theorem Its.below {B B' : Nat} {W W' : World} {a : Option Addr} {es : List Itm} (h : Its B W a es) (hb : Below B' W W') (hB : B ≤ B') : Its B W' a es := by
  intro i hi
  obtain ⟨b, off, ha, hlt, h0, h1, h2⟩ := h i hi
  exact ⟨b, off, ha, hlt, (hb.cell (p := ⟨b, off + i * 3, none⟩) (by simp; omega)).trans h0, (hb.cell (p := ⟨b, off + i * 3 + 1, none⟩) (by simp; omega)).trans h1, (hb.cell (p := ⟨b, off + i * 3 + 2, none⟩) (by simp; omega)).trans h2⟩
theorem Its.mono {B B' : Nat} {W : World} {a : Option Addr} {es : List Itm} (h : Its B W a es) (hB : B ≤ B') : Its B' W a es := by
  intro i hi
  obtain ⟨b, off, ha, hlt, h0⟩ := h i hi
  exact ⟨b, off, ha, by omega, h0⟩
theorem Its.ahead {W W' : World} {a : Option Addr} {es : List Itm} (h : Its W.heap.size W a es) (hb : Below W.heap.size W W') : Its W'.heap.size W' a es := (h.below hb (Nat.le_refl _)).mono hb.size
theorem Its.nil (B : Nat) (W : World) (a : Option Addr) : Its B W a [] := fun i h => by simp at h
theorem Its.take {B : Nat} {W : World} {a : Option Addr} {es : List Itm} (h : Its B W a es) (k : Nat) : Its B W a (es.take k) := by
  intro i hi
  have hi' : i < es.length := by simp at hi; omega
  obtain ⟨b, off, ha, hlt, h0⟩ := h i hi'
  refine ⟨b, off, ha, hlt, ?_⟩
  rw [List.getElem_take]
  exact h0
theorem ownsRow_its {w : World} {base : Nat} {a : Option Addr} {cap : Nat} {es : List Itm} (h : w.ownsRow base 52 3 (.slice a es.length cap) es.length (icells es)) : Its w.heap.size w a es := by
  intro i hi
  rcases h.2 with ⟨h1, h2⟩ | ⟨g, cap', cur, h1, _, hg, _⟩
  · omega
  · cases h1
    obtain ⟨c0, c1, c2⟩ := icells_at es i hi
    refine ⟨g, 0, rfl, (Array.getElem?_eq_some_iff.1 hg).1, ?_, ?_, ?_⟩
    · have := h.cells (g := g) rfl _ _ c0; rwa [Go.WideShapes.add_plain] at this
    · have := h.cells (g := g) rfl _ _ c1; rwa [Go.WideShapes.add_plain, ← Nat.add_assoc] at this
    · have := h.cells (g := g) rfl _ _ c2; rwa [Go.WideShapes.add_plain, ← Nat.add_assoc] at this
theorem infoItm : (Try.prog.info? 52).map (fun i => (i.zero, i.size, i.bytes)) = some (some (.agg #[.int .u64 0, .int .u64 0, .string ⟨#[]⟩]), 3, 32) := by kernel_rfl

set_option maxRecDepth 100000 in
set_option maxHeartbeats 1000000 in
theorem findc_any (x : Itm) (d1 d2 : Int) (w : World) : Calls Try.prog 39 #[x.val, .agg #[.int .u64 d1, .int .u64 d2]] w fun e w' => e = .returned (.int .i64 (cmpD x.d (d1, d2))) ∧ Below w.heap.size w w' := by
  obtain ⟨⟨x1, x2⟩, data⟩ := x
  have HC := Lib.hid (fun W => cmpD_any x1 x2 d1 d2 W)
  simp only [Itm.val]
  generalize cmpD (x1, x2) (d1, d2) = R at HC ⊢
  go_enter Try.func39, Try.ntmps39
  go_wp2_with fail
  have hx := HC.out ((w.alloc (.cells #[.int .u64 x1, .int .u64 x2, .string ⟨data.toArray⟩] 52)).alloc (.cells #[.int .u64 d1, .int .u64 d2] 30))
  (with_reducible refine hx.mono ?_)
  clear hx HC
  rintro e w1 ⟨rfl, hb⟩
  have HB := Lib.hid hb.below
  clear hb
  go_wp2_with fail
  go_ret
  exact ⟨rfl, (((Below.refl _ w).alloc (Nat.le_refl _) _).alloc (by simp) _).trans (HB.out.mono (by simp; omega))⟩

/-- Where a digest is, or would be. -/
structure At (xs : List Itm) (d : Int × Int) (k : Nat) : Prop where
  le : k ≤ xs.length
  lo : ∀ j (h : j < xs.length), j < k → cmpD xs[j].d d < 0
  hi : ∀ j (h : j < xs.length), k ≤ j → 0 ≤ cmpD xs[j].d d
def hitB (xs : List Itm) (d : Int × Int) (k : Nat) : Bool := match xs[k]? with | some x => decide (x.d = d) | none => false
/-- Ascending by digests. -/
def Asc (xs : List Itm) : Prop := ∀ i j (hi : i < xs.length) (hj : j < xs.length), i < j → cmpD xs[i].d xs[j].d < 0
def GotF (w : World) (xs : List Itm) (d : Int × Int) (e : Ending) (w' : World) : Prop := ∃ k : Nat, e = .returned (.tuple #[.int .i64 k, .bool (hitB xs d k)]) ∧ At xs d k ∧ Below w.heap.size w w'
theorem cmpI_trans {x y z : Int} (h1 : cmpI x y < 0) (h2 : cmpI y z < 0) : cmpI x z < 0 := by
  unfold cmpI at h1 h2 ⊢
  split at h1
  · split at h2
    · rw [if_pos (by omega)]; omega
    · split at h2 <;> omega
  · split at h1 <;> omega
theorem cmpI_range (x y : Int) : (cmpI x y = -1 ∧ x < y) ∨ (cmpI x y = 0 ∧ x = y) ∨ (cmpI x y = 1 ∧ y < x) := by
  unfold cmpI
  split
  · left; exact ⟨rfl, ‹_›⟩
  · split
    · right; right; exact ⟨rfl, ‹_›⟩
    · right; left; exact ⟨rfl, by omega⟩
theorem cmpD_range (a b : Int × Int) : (cmpD a b = -1 ∧ (a.1 < b.1 ∨ (a.1 = b.1 ∧ a.2 < b.2))) ∨ (cmpD a b = 0 ∧ a.1 = b.1 ∧ a.2 = b.2) ∨ (cmpD a b = 1 ∧ (b.1 < a.1 ∨ (a.1 = b.1 ∧ b.2 < a.2))) := by
  unfold cmpD
  rcases cmpI_range a.1 b.1 with h | h | h
  · rw [if_pos (by rw [h.1]; decide)]; left; exact ⟨h.1, .inl h.2⟩
  · rw [if_neg (by rw [h.1]; decide)]
    rcases cmpI_range a.2 b.2 with g | g | g
    · left; exact ⟨g.1, .inr ⟨h.2, g.2⟩⟩
    · right; left; exact ⟨g.1, h.2, g.2⟩
    · right; right; exact ⟨g.1, .inr ⟨h.2, g.2⟩⟩
  · rw [if_pos (by rw [h.1]; decide)]; right; right; exact ⟨h.1, .inl h.2⟩
theorem cmpD_trans {a b c : Int × Int} (h1 : cmpD a b < 0) (h2 : cmpD b c < 0) : cmpD a c < 0 := by
  have g1 := cmpD_range a b
  have g2 := cmpD_range b c
  have g3 := cmpD_range a c
  omega
theorem cmpD_trans2 {a b c : Int × Int} (h1 : cmpD a b < 0) (h2 : 0 ≤ cmpD a c) : 0 ≤ cmpD b c := by
  have g1 := cmpD_range a b
  have g2 := cmpD_range b c
  have g3 := cmpD_range a c
  omega
theorem cmpD_anti {a b : Int × Int} : cmpD a b = - cmpD b a := by
  have g1 := cmpD_range a b
  have g2 := cmpD_range b a
  omega
/-- What binary search has left over. -/
def BS (xs : List Itm) (d : Int × Int) (i j : Nat) : Prop := (∀ k (h : k < xs.length), k < i → cmpD xs[k].d d < 0) ∧ ∀ k (h : k < xs.length), j ≤ k → 0 ≤ cmpD xs[k].d d
theorem BS.start (xs : List Itm) (d : Int × Int) : BS xs d 0 xs.length := ⟨fun k h hk => by omega, fun k h hk => by omega⟩
theorem BS.left {xs : List Itm} {d : Int × Int} {i j h : Nat} (hb : BS xs d i j) (ha : Asc xs) (hh : h < xs.length) (hc : cmpD xs[h].d d < 0) : BS xs d (h + 1) j := by
  refine ⟨fun k hk hlt => ?_, hb.2⟩
  rcases Nat.lt_or_ge k h with h1 | h1
  · exact cmpD_trans (ha k h hk hh h1) hc
  · obtain rfl : k = h := by omega
    exact hc
theorem BS.right {xs : List Itm} {d : Int × Int} {i j h : Nat} (hb : BS xs d i j) (ha : Asc xs) (hh : h < xs.length) (hc : 0 ≤ cmpD xs[h].d d) : BS xs d i h := by
  refine ⟨hb.1, fun k hk hlt => ?_⟩
  rcases Nat.lt_or_ge h k with h1 | h1
  · exact cmpD_trans2 (ha h k hh hk h1) hc
  · obtain rfl : k = h := by omega
    exact hc
theorem BS.fin {xs : List Itm} {d : Int × Int} {i : Nat} (hb : BS xs d i i) (hi : i ≤ xs.length) : At xs d i := ⟨hi, hb.1, hb.2⟩

end Go.Proofs.Ytlfodnehgedpmaa
