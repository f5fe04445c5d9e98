/- append of a whole slice; slices.Grow and slices.Concat at items. -/
import Derived.Test.YtlfodnehgedpmaaPoFd
import Derived.Lib.AppendZerosOnto
import Derived.Maps.AppendAt
namespace Go.Proofs.Ytlfodnehgedpmaa
open Go.RowKit Go.Shelf
set_option linter.unusedVariables false

/-- The cells of a slice that is appended, if it has some. -/
def Src (w : World) (A : Option Addr) (news : List Value) : Prop := news = [] ∨ ∃ ad, A = some ad ∧ ∀ j u, news[j]? = some u → w.cell? (ad.add j) = some u
theorem append_src {P : Program} (w : World) (base : Nat) (t ty e : TypeId) (i : TypeInfo) (z : Value) (size bytes : Nat) (ht : P.underlying t = some (.slice e)) (hi : P.info? e = some i) (hz : i.zero = some z)
    (hsize : i.size = size) (hby : i.bytes = bytes) (hzs : z.cells.size = size) (hsz : 0 < size) (v : Value) (n : Nat) (xs : List Value) (hown : w.ownsRow base e size v n xs)
    (A : Option Addr) (m c : Nat) (news : List Value) (hl : news.length = m * size) (hs : Src w A news) (h1 : ∀ u ∈ news, u.oneCell' = true) (h63 : n + m ≤ maxLen) (hbytes : (n + m) * bytes ≤ 140737488355328) (hbase : base ≤ w.heap.size) :
    ∃ v' w', (Builtin.append_ #[t, t] ty #[v, .slice A m c]).run P w = .ok v' w' ∧ w'.ownsRow base e size v' (n + m) (xs ++ news) ∧ w.grownBy w' v.ownBlock ∧ (v'.ownBlock = v.ownBlock ∨ v'.ownBlock = some w.heap.size) := by
  cases A with
  | some ad =>
    obtain ⟨v', w', r1, r2, r3, _, r5⟩ := run_append_own_at (P := P) w base t ty e i z size bytes ht hi hz hsize hby hzs hsz v n xs hown ad m c news hl (by
      rcases hs with rfl | ⟨ad', h, hc⟩
      · intro j u hu; simp at hu
      · cases h; exact hc) h1 h63 hbytes hbase
    exact ⟨v', w', r1, r2, r3, r5⟩
  | none =>
    have hn : news = [] := by
      rcases hs with h | ⟨ad, h, _⟩
      · exact h
      · cases h
    subst hn
    have hm : m = 0 := by
      rcases Nat.eq_zero_or_pos m with h | h
      · exact h
      · have := Nat.mul_pos h hsz
        rw [List.length_nil] at hl
        omega
    subst hm
    refine ⟨v, w, ?_, by simpa using hown, ⟨rfl, rfl, rfl, Nat.le_refl _, fun _ _ _ => rfl⟩, .inl rfl⟩
    rcases hown.2 with ⟨rfl, rfl⟩ | ⟨g, cap, cur, rfl, _, _, hc, _⟩
    · simp [Builtin.append_, run_underlying ht, sizeOf, typeInfo, hi, Builtin.lenOf, Builtin.firstCells]
    · simp [Builtin.append_, run_underlying ht, sizeOf, typeInfo, hi, Builtin.lenOf, Builtin.firstCells, hc, storeCells]
theorem its_src {B : Nat} {W : World} {a : Option Addr} {ys : List Itm} (h : Its B W a ys) : Src W a (icells ys) := by
  cases hy : ys with
  | nil => exact .inl rfl
  | cons y ys' =>
    rw [← hy]
    have h0 : 0 < ys.length := by rw [hy]; simp
    obtain ⟨b, off, rfl, _⟩ := h 0 h0
    refine .inr ⟨_, rfl, fun j u hu => ?_⟩
    have hj : j < ys.length * 3 := by
      have := (List.getElem?_eq_some_iff.1 hu).1
      rwa [icells_length] at this
    obtain ⟨i, r, hi, hr, rfl⟩ : ∃ i r, i < ys.length ∧ r < 3 ∧ j = i * 3 + r := ⟨j / 3, j % 3, by omega, by omega, by omega⟩
    obtain ⟨b', off', e, _, c0, c1, c2⟩ := h i hi
    cases e
    obtain ⟨d0, d1, d2⟩ := icells_at ys i hi
    rw [Go.WideShapes.add_plain]
    rcases (by omega : r = 0 ∨ r = 1 ∨ r = 2) with rfl | rfl | rfl
    · rw [show i * 3 + 0 = i * 3 from rfl, d0] at hu; cases hu; exact c0
    · rw [d1] at hu; cases hu; rw [← Nat.add_assoc]; exact c1
    · rw [d2] at hu; cases hu; rw [← Nat.add_assoc]; exact c2
theorem dcells_length (a : List (Int × Int)) : (dcells a).length = a.length * 2 := by
  induction a with
  | nil => rfl
  | cons x a ih => simp [dcells] at ih ⊢; omega
theorem dcells_one (xs : List (Int × Int)) : ∀ v ∈ dcells xs, v.oneCell' = true := by
  intro v hv
  simp only [dcells, List.mem_flatMap] at hv
  obtain ⟨x, _, hv⟩ := hv
  simp at hv
  rcases hv with rfl | rfl <;> rfl
theorem digs_src {B : Nat} {W : World} {a : Option Addr} {ys : List (Int × Int)} (h : Digs B W a ys) : Src W a (dcells ys) := by
  cases hy : ys with
  | nil => exact .inl rfl
  | cons y ys' =>
    rw [← hy]
    have h0 : 0 < ys.length := by rw [hy]; simp
    obtain ⟨b, off, rfl, _⟩ := h 0 h0
    refine .inr ⟨_, rfl, fun j u hu => ?_⟩
    have hj : j < ys.length * 2 := by
      have := (List.getElem?_eq_some_iff.1 hu).1
      rwa [dcells_length] at this
    obtain ⟨i, r, hi, hr, rfl⟩ : ∃ i r, i < ys.length ∧ r < 2 ∧ j = i * 2 + r := ⟨j / 2, j % 2, by omega, by omega, by omega⟩
    obtain ⟨b', off', e, _, c0, c1⟩ := h i hi
    cases e
    obtain ⟨d0, d1⟩ := dcells_at ys i hi
    rw [Go.WideShapes.add_plain]
    rcases (by omega : r = 0 ∨ r = 1) with rfl | rfl
    · rw [show i * 2 + 0 = i * 2 from rfl, d0] at hu; cases hu; exact c0
    · rw [d1] at hu; cases hu; rw [← Nat.add_assoc]; exact c1
/-- append(v, ys...) at items. -/
theorem append_its (W : World) (base : Nat) (ty : TypeId) (v : Value) (xs : List Itm) (hown : W.ownsRow base 52 3 v xs.length (icells xs)) (a : Option Addr) (ys : List Itm) (c : Nat) (hy : Its W.heap.size W a ys)
    (hlen : ((xs.length + ys.length : Nat) : Int) ≤ 1000000000) (hbase : base ≤ W.heap.size) :
    ∃ v' W', (Builtin.append_ #[25, 25] ty #[v, .slice a ys.length c]).run Try.prog W = .ok v' W' ∧ W'.ownsRow base 52 3 v' (xs ++ ys).length (icells (xs ++ ys)) ∧ W.grownBy W' v.ownBlock ∧ (v'.ownBlock = v.ownBlock ∨ v'.ownBlock = some W.heap.size) := by
  obtain ⟨i0, hi, hz0, hz1, hz2⟩ := info_parts infoItm
  obtain ⟨v', W', h1, h2, h3, h4⟩ := append_src (P := Try.prog) W base 25 ty 52 i0 _ 3 32 Try.underlying25 hi hz0 hz1 hz2 rfl (by decide) v xs.length (icells xs) hown a ys.length c (icells ys) (icells_length _) (its_src hy) (icells_one _) (by unfold maxLen; omega) (by omega) hbase
  exact ⟨v', W', h1, by rw [icells_append, List.length_append]; exact h2, h3, h4⟩
theorem append_digs (W : World) (base : Nat) (ty : TypeId) (v : Value) (xs : List (Int × Int)) (hown : W.ownsRow base 30 2 v xs.length (dcells xs)) (a : Option Addr) (ys : List (Int × Int)) (c : Nat) (hy : Digs W.heap.size W a ys)
    (hlen : ((xs.length + ys.length : Nat) : Int) ≤ 1000000000) (hbase : base ≤ W.heap.size) :
    ∃ v' W', (Builtin.append_ #[31, 31] ty #[v, .slice a ys.length c]).run Try.prog W = .ok v' W' ∧ W'.ownsRow base 30 2 v' (xs ++ ys).length (dcells (xs ++ ys)) ∧ W.grownBy W' v.ownBlock ∧ (v'.ownBlock = v.ownBlock ∨ v'.ownBlock = some W.heap.size) := by
  obtain ⟨i0, hi, hz0, hz1, hz2⟩ := info_parts infoDig
  obtain ⟨v', W', h1, h2, h3, h4⟩ := append_src (P := Try.prog) W base 31 ty 30 i0 _ 2 16 Try.underlying31 hi hz0 hz1 hz2 rfl (by decide) v xs.length (dcells xs) hown a ys.length c (dcells ys) (dcells_length _) (digs_src hy) (dcells_one _) (by unfold maxLen; omega) (by omega) hbase
  exact ⟨v', W', h1, by rw [dcells_append, List.length_append]; exact h2, h3, h4⟩
theorem below_own {w x y : World} {base : Nat} {e : TypeId} {z : Nat} {v : Value} {n : Nat} {xs : List Value} (hb : Below w.heap.size w x) (ho : x.ownsRow base e z v n xs) (hg : x.grownBy y v.ownBlock) (hbase : w.heap.size ≤ base) : Below w.heap.size w y :=
  hb.grown hg hb.size (fun k hk => by have := (ho.lt k hk).1; omega)

set_option maxRecDepth 100000 in
set_option maxHeartbeats 1000000 in
theorem growI_any (n : Nat) (w : World) (h1 : 1 ≤ n) (hn : (n : Int) ≤ 1000000000) :
    Calls Try.prog 40 #[.slice none 0 0, .int .i64 n] w fun e w' => ∃ g cap, e = .returned (.slice (some ⟨g, 0, none⟩) 0 cap) ∧ w'.ownsRow w.heap.size 52 3 (.slice (some ⟨g, 0, none⟩) 0 cap) 0 [] ∧ Below w.heap.size w w' := by
  obtain ⟨i0, hi, hz0, hz1, hz2⟩ := info_parts infoItm
  obtain ⟨G, cur, hr, hG0, hG1, hcs⟩ : ∃ (G : Nat) (cur : Array Value), (∀ ty, (Builtin.append_ #[25, 3] ty #[.slice none 0 0, .int .i64 n]).run Try.prog w = .ok (.slice (some ⟨w.heap.size, 0, none⟩) n G) (w.drew.alloc (.cells cur 52))) ∧ n ≤ G ∧ G ≤ maxLen ∧ cur.size = G * 3 := by
    refine ⟨grownCap w (0 + n) 0 52, ([] : List Value).toArray ++ Builtin.zeroCells (Value.agg #[.int .u64 0, .int .u64 0, .string ⟨#[]⟩]).cells n ++ Builtin.zeroCells (Value.agg #[.int .u64 0, .int .u64 0, .string ⟨#[]⟩]).cells (grownCap w (0 + n) 0 52 - (0 + n)), fun ty => ?_, ?_, ?_, ?_⟩
    · have := Lib.run_append_grow_zeros (P := Try.prog) w 25 3 ty 52 i0 _ .i64 .i64 Try.underlying25 Try.underlying3 hi hz0 none 0 0 [] (run_firstCells_none w.drew i0.size 0 0 0) n (by omega) (by omega) (by omega) (by omega) (by rw [hz2]; omega) (growslice_fits (by omega) (by rw [hz2]; omega))
      rw [Nat.zero_add] at this ⊢
      exact this
    · have := grownCap_ge w (0 + n) 0 52; omega
    · exact grownCap_le_maxLen w (0 + n) 0 52 (by unfold maxLen; omega)
    · have := grownCap_ge w (0 + n) 0 52
      generalize grownCap w (0 + n) 0 52 = G at this ⊢
      rw [Nat.zero_add] at this ⊢
      simp only [Array.size_append, size_zeroCells]
      simp [Value.cells]
      omega
  have HCS := Lib.hid hcs
  have HG1 := Lib.hid hG1
  unfold maxLen at hG1
  clear hz0 hz1 hz2 hi hcs
  go_enter Try.func40, Try.ntmps40
  go_wp2_with (at_builtin; refine Lib.wpList_append_run _ rfl _ _ _ _ rfl _ _ rfl rfl _ _ (hr _) ?_)
  go_ret
  exact ⟨_, _, rfl, World.ownsRow_made (w := w.drew) (base := w.heap.size) (size := 3) cur G (Nat.le_refl _) HG1.out HCS.out, (Below.refl _ w).drew.alloc (Nat.le_refl _) _⟩

end Go.Proofs.Ytlfodnehgedpmaa
