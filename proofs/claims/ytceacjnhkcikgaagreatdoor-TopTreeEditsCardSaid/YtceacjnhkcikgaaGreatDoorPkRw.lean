/- Rows of elements of any kind: cells, reading, appending, storing. -/
import Derived.Test.YtceacjnhkcikgaaGreatDoorK4
namespace Go.Proofs.YtceacjnhkcikgaaGreatDoor
open Go.RowKit Go.Shelf
set_option linter.unusedVariables false

section
variable {α : Type} {f : α → List Value} {z : Nat}
/-- The cells of a list of elements. -/
def gcs (f : α → List Value) (l : List α) : List Value := l.flatMap f
/-- Every element has z cells. -/
structure Lay (f : α → List Value) (z : Nat) : Prop where
  pos : 0 < z
  len : ∀ a, (f a).length = z
  one : ∀ a, ∀ v ∈ f a, v.oneCell' = true
theorem gcs_append (f : α → List Value) (a b : List α) : gcs f (a ++ b) = gcs f a ++ gcs f b := by simp [gcs]
theorem gcs_cons (f : α → List Value) (a : α) (b : List α) : gcs f (a :: b) = f a ++ gcs f b := by simp [gcs]
theorem gcs_one (f : α → List Value) (a : α) : gcs f [a] = f a := by simp [gcs]
theorem gcs_length (h : Lay f z) : ∀ l : List α, (gcs f l).length = l.length * z
  | [] => by simp [gcs]
  | a :: l => by rw [gcs_cons, List.length_append, h.len, gcs_length h l, List.length_cons, Nat.add_mul]; omega
theorem gcs_ones (h : Lay f z) (l : List α) : ∀ v ∈ gcs f l, v.oneCell' = true := by
  intro v hv
  simp only [gcs, List.mem_flatMap] at hv
  obtain ⟨a, _, hv⟩ := hv
  exact h.one a v hv
theorem gcs_at (h : Lay f z) : ∀ (l : List α) (i : Nat) (hi : i < l.length) (j : Nat), j < z → (gcs f l)[i * z + j]? = (f l[i])[j]?
  | [], i, hi, _, _ => by simp at hi
  | a :: l, 0, _, j, hj => by
    rw [gcs_cons, Nat.zero_mul, Nat.zero_add, List.getElem?_append_left (by rw [h.len]; exact hj)]
    rfl
  | a :: l, i + 1, hi, j, hj => by
    rw [gcs_cons, List.getElem?_append_right (by rw [h.len, Nat.add_mul]; omega), h.len, show (i + 1) * z + j - z = i * z + j by rw [Nat.add_mul]; omega, gcs_at h l i (by simpa using hi) j hj]
    rfl
theorem gcs_set (h : Lay f z) : ∀ (l : List α) (i : Nat) (hi : i < l.length) (j : Nat) (v : Value) (b : α), j < z → f b = (f l[i]).set j v → (gcs f l).set (i * z + j) v = gcs f (l.set i b)
  | [], i, hi, _, _, _, _, _ => by simp at hi
  | a :: l, 0, _, j, v, b, hj, hb => by
    rw [gcs_cons, Nat.zero_mul, Nat.zero_add, List.set_append_left _ _ (by rw [h.len]; exact hj), List.set_cons_zero, gcs_cons, hb]
    rfl
  | a :: l, i + 1, hi, j, v, b, hj, hb => by
    rw [gcs_cons, List.set_append_right _ _ (by rw [h.len, Nat.add_mul]; omega), h.len, show (i + 1) * z + j - z = i * z + j by rw [Nat.add_mul]; omega, List.set_cons_succ, gcs_cons, gcs_set h l i (by simpa using hi) j v b hj (by simpa using hb)]
/-- A slice of elements below block B. -/
def GIn (f : α → List Value) (z B : Nat) (W : World) (a : Option Addr) (l : List α) : Prop :=
  ∀ i (h : i < l.length), ∃ b off, a = some ⟨b, off, none⟩ ∧ b < B ∧ ∀ j v, (f l[i])[j]? = some v → W.cell? ⟨b, off + i * z + j, none⟩ = some v
theorem GIn.nil (B : Nat) (W : World) (a : Option Addr) : GIn f z B W a [] := fun i h => by simp at h
theorem GIn.below {B B' : Nat} {W W' : World} {a : Option Addr} {l : List α} (h : GIn f z B W a l) (hb : Below B' W W') (hB : B ≤ B') : GIn f z B W' a l := by
  intro i hi
  obtain ⟨b, off, ha, hlt, hc⟩ := h i hi
  exact ⟨b, off, ha, hlt, fun j v hv => (hb.cell (p := ⟨b, off + i * z + j, none⟩) (by simp; omega)).trans (hc j v hv)⟩
theorem GIn.mono {B B' : Nat} {W : World} {a : Option Addr} {l : List α} (h : GIn f z B W a l) (hB : B ≤ B') : GIn f z B' W a l := by
  intro i hi
  obtain ⟨b, off, ha, hlt, hc⟩ := h i hi
  exact ⟨b, off, ha, by omega, hc⟩
theorem GIn.ahead {w W : World} {a : Option Addr} {l : List α} (h : GIn f z w.heap.size w a l) (hb : Below w.heap.size w W) : GIn f z W.heap.size W a l := (h.below hb (Nat.le_refl _)).mono hb.size
/-- A store into a block of another kind leaves the elements. -/
theorem GIn.store {W W' : World} {tb : Nat} {cs : Array Value} {T : TypeId} {a : Option Addr} {l : List α} (h : GIn f z W.heap.size W a l) (hk : BK tb cs T W) (hz : 0 < z) (hl : ∀ a, (f a).length = z) (hn : ∀ (j : Nat) (a : α), cs[j]? ≠ (f a)[0]?) (hg : W.grownBy W' (some tb)) : GIn f z W'.heap.size W' a l := by
  intro i hi
  obtain ⟨b, off, rfl, hb, hc⟩ := h i hi
  have hne : some b ≠ some tb := fun e => by
    cases e
    have h0 : (f l[i])[0]? = some ((f l[i])[0]'(by rw [hl]; exact hz)) := List.getElem?_eq_getElem _
    have h1 := hc 0 _ h0
    rw [hk.cell] at h1
    exact hn _ l[i] (h1.trans h0.symm)
  exact ⟨b, off, rfl, Nat.lt_of_lt_of_le hb hg.size, fun j v hv => (hg.cell_far ⟨b, off + i * z + j, none⟩ hb hne).trans (hc j v hv)⟩
theorem own_gin {W : World} {base : Nat} {e : TypeId} {a : Option Addr} {n c : Nat} {l : List α} (hf : Lay f z) (hn : n = l.length) (h : W.ownsRow base e z (.slice a n c) n (gcs f l)) : GIn f z W.heap.size W a l := by
  subst hn
  intro i hi
  rcases h.2 with ⟨h1, h2⟩ | ⟨g, cap, cur, h1, _, hg, _⟩
  · omega
  · cases h1
    refine ⟨g, 0, rfl, (Array.getElem?_eq_some_iff.1 hg).1, fun j v hv => ?_⟩
    have hj : j < z := by rw [← hf.len l[i]]; exact (List.getElem?_eq_some_iff.1 hv).1
    have hji : i * z + j < l.length * z := by
      have : (i + 1) * z ≤ l.length * z := Nat.mul_le_mul_right _ hi
      rw [Nat.add_mul] at this; omega
    rw [Nat.zero_add, h.cellAt _ hji, gcs_at hf l i hi j hj, hv]
/-- What is appended lies in a block of its own. -/
theorem append_oneG {base : Nat} {t e : TypeId} {i0 : TypeInfo} {zv : Value} {bytes : Nat} (hf : Lay f z) (ht : Tryz.prog.underlying t = some (.slice e)) (hi : Tryz.prog.info? e = some i0) (hz0 : i0.zero = some zv) (hz1 : i0.size = z) (hz2 : i0.bytes = bytes) (hzs : zv.cells.size = z)
    {W : World} {v : Value} {n : Nat} {l : List α} (hn : n = l.length) (hown : W.ownsRow base e z v n (gcs f l)) (x : α) (hlen : (n : Int) ≤ 1000000) (hby : bytes ≤ 1000) (hbase : base ≤ W.heap.size) :
    ∃ v' W', Hid ((Builtin.append_ #[t, t] t #[v, .slice (some ⟨W.heap.size, 0, none⟩) 1 1]).run Tryz.prog (W.alloc (.cells (f x).toArray e)) = .ok v' W') ∧ W'.ownsRow base e z v' (n + 1) (gcs f (l ++ [x])) ∧ (W.alloc (.cells (f x).toArray e)).grownBy W' v.ownBlock ∧ (v'.ownBlock = v.ownBlock ∨ v'.ownBlock = some (W.heap.size + 1)) := by
  have hb : (n + 1) * bytes ≤ 140737488355328 := Nat.le_trans (Nat.mul_le_mul (show n + 1 ≤ 1000001 by omega) hby) (by decide)
  obtain ⟨v', W', h1, h2, h3, h4⟩ := append_src (P := Tryz.prog) (W.alloc (.cells (f x).toArray e)) base t t e i0 zv z bytes ht hi hz0 hz1 hz2 hzs hf.pos v n (gcs f l) (hown.alloc _) (some ⟨W.heap.size, 0, none⟩) 1 1 (f x) (by rw [hf.len]; omega) (.inr ⟨_, rfl, fun j u hu => by
    have hk := BK.new W (f x).toArray e
    rw [Go.WideShapes.add_plain, hk.cell]
    simpa using hu⟩) (hf.one x) (by unfold maxLen; omega) hb (by simp; omega)
  refine ⟨v', W', Lib.hid h1, ?_, h3, by simpa using h4⟩
  rw [gcs_append, gcs_one]
  exact h2
theorem own_setG {W : World} {base : Nat} {e : TypeId} {g n cap i j : Nat} {l : List α} (hf : Lay f z) (h : W.ownsRow base e z (.slice (some ⟨g, 0, none⟩) n cap) n (gcs f l)) (hn : n = l.length) (hi : i < l.length) (hj : j < z) (v : Value) (b : α) (hb : f b = (f l[i]).set j v) :
    (W.setCell ⟨g, i * z + j, none⟩ v).ownsRow base e z (.slice (some ⟨g, 0, none⟩) n cap) n (gcs f (l.set i b)) := by
  rw [← gcs_set hf l i hi j v b hj hb]
  exact (h.stored (i * z + j) v).1
end
end Go.Proofs.YtceacjnhkcikgaaGreatDoor
