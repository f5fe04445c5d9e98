/- Joined texts: PoMp, PoLk, PoEq, PoSo, PoRs, PoRe, PoAw, PoO, PoSm, PoGr, PoKe, PoRf. -/
import Derived.Test.YtdedfkljaeloiaaGreatDoorK4
import Derived.DeepKeys4
import Derived.Maps.OwnSet
import Derived.Maps.Views
import Derived.ProofKit
import Derived.OpenShut
import Derived.ShutString
import Derived.Deep.Slices
import Derived.Deep.Fields
import Derived.Deep.RegionWith

/- A map from digests to bools, as a set. -/
namespace Go.Proofs.YtdedfkljaeloiaaGreatDoor
open Go.RowKit Go.Shelf
set_option linter.unusedVariables false
set_option maxRecDepth 100000

theorem laidOutD : laidOutB Tryz.prog = true := by kernel_rfl
theorem rowD : (35 : TypeId) < Tryz.prog.types.size := of_decide_eq_true (by kernel_rfl)
theorem wideD : (match Tryz.prog.underlying 35 with | some (.array _ _) | some (.struct _) => true | _ => false) = true := by rw [Tryz.underlying35]
theorem lawD : Maps.Keyed Tryz.prog 35 := Maps.Keyed.of_law (deep_law_laid laidOutD (m := 2) (by omega) rowD (by kernel_rfl) wideD)
theorem keyTD : Tryz.prog.keyType 35 = true := by kernel_rfl
theorem cellsD : Tryz.prog.cellsOf 35 = 2 := by kernel_rfl
theorem typesD : ∃ m, Tryz.prog.types.size + 1 = m + 2 := ⟨Tryz.prog.types.size - 1, by have := of_decide_eq_true (p := 1 ≤ Tryz.prog.types.size) (by kernel_rfl); omega⟩
abbrev dval (d : Int × Int) : Value := .agg #[.int .u64 d.1, .int .u64 d.2]
noncomputable def keyL (d : Int × Int) : Lit := (keyOf Tryz.prog 35 (dval d)).getD .nil
theorem wf_u64 {x : Int} (h : u64B x) : (Lit.int .u64 x).wf = true := by
  unfold u64B at h
  simp [Lit.wf, IntKind.min, IntKind.max, IntKind.signed, IntKind.bits]
  omega
theorem keyL_some {d : Int × Int} (h : OkD d) : keyOf Tryz.prog 35 (dval d) = some (keyL d) := by
  have : ∃ l, keyOf Tryz.prog 35 (dval d) = some l := by
    obtain ⟨m, hm⟩ := typesD
    unfold keyOf
    rw [Tryz.underlying35]
    simp only [keyTD, Value.formed, Tryz.underlying35, cellsD, hm]
    simp [Program.keyLits, Tryz.underlying35, Tryz.underlying33, cellsD, cellsU64, wf_u64 h.1, wf_u64 h.2, Value.cells, List.range_succ]
  obtain ⟨l, hl⟩ := this
  unfold keyL
  rw [hl]; rfl
theorem keyL_inj {d d' : Int × Int} (h : OkD d) (h' : OkD d') (e : keyL d = keyL d') : d = d' := by
  have h1 := keyL_some h
  have h2 := keyL_some h'
  rw [← e] at h2
  have := lawD.inj h1 h2
  injection this with this
  injection this with this
  simp at this
  exact Prod.ext this.1 this.2
/-- Block b is a map that holds true at the digests of a set. -/
def MapD (b n : Nat) (M : Int × Int → Bool) (W : World) : Prop :=
  ∃ D : DataW Unit, W.ownsMap Tryz.prog 35 (plainElem Tryz.prog 4) b n D ∧ ∀ d, OkD d → D.atKey (keyL d) (.lit (.bool false)) = .lit (.bool (M d))
theorem MapD.made (W : World) : MapD W.heap.size 0 (fun _ => false) (W.alloc (.map #[] 0)) := ⟨.map [], World.ownsMap_made _ _ _ _, fun d _ => WideAt.atKey_none _ (fun p hp => by simp at hp)⟩
theorem MapD.lt {b n : Nat} {M : Int × Int → Bool} {W : World} (h : MapD b n M W) : b < W.heap.size := by obtain ⟨D, h1, _⟩ := h; exact h1.lt
theorem MapD.kept {b n : Nat} {M : Int × Int → Bool} {W W' : World} {row : Option Nat} (h : MapD b n M W) (hg : W.grownBy W' row) (hne : some b ≠ row) : MapD b n M W' := by obtain ⟨D, h1, h2⟩ := h; exact ⟨D, h1.kept hg hne, h2⟩
theorem MapD.alloc {b n : Nat} {M : Int × Int → Bool} {W : World} (h : MapD b n M W) (o : Obj) : MapD b n M (W.alloc o) := by obtain ⟨D, h1, h2⟩ := h; exact ⟨D, h1.alloc o, h2⟩
theorem MapD.below {b n : Nat} {M : Int × Int → Bool} {W W' : World} (h : MapD b n M W) (hb : Below W.heap.size W W') : MapD b n M W' := h.kept (row := none) ⟨hb.os, hb.tape, hb.output, hb.size, fun k hk _ => hb.block k hk⟩ (by simp)
theorem zeroBool (W : World) : (zeroValue 4).run Tryz.prog W = .ok (.bool false) W := by kernel_rfl
theorem plainElem_bool_inv {v : Value} {z : DataW Unit × List MemPlace} (h : plainElem Tryz.prog 4 v = some z) : ∃ a, v = .bool a ∧ z = (.lit (.bool a), []) := by
  unfold plainElem at h
  rw [Tryz.underlying4] at h
  cases v <;> simp at h
  exact ⟨_, rfl, h.symm⟩
theorem OkD_zero : OkD (0, 0) := ⟨⟨by decide, by decide⟩, by decide, by decide⟩

end Go.Proofs.YtdedfkljaeloiaaGreatDoor

/- object.Links, slices.Clone and slices.Equal at digests. -/
namespace Go.Proofs.YtdedfkljaeloiaaGreatDoor
open Go.RowKit Go.Shelf
set_option linter.unusedVariables false

/-- The digests that an object refers to. -/
def linksS (o : Ob) : List (Int × Int) := if (encodeS o).2 ≠ 0 then [] else o.ents.map (·.d) ++ (if o.kind = 3 then o.tree :: o.pars else [])
def GotDs (w : World) (ds : List (Int × Int)) (e : Ending) (w' : World) : Prop := ∃ a c, e = .returned (.slice a ds.length c) ∧ w'.ownsRow w.heap.size 35 2 (.slice a ds.length c) ds.length (dcells ds) ∧ Below w.heap.size w w'
theorem map_take_succ (es : List Ent) (k : Nat) (h : k < es.length) : (es.take (k + 1)).map (·.d) = (es.take k).map (·.d) ++ [es[k].d] := by
  rw [List.take_succ_eq_append_getElem h, List.map_append]; rfl
/-- One digest behind a row. -/
theorem append_one {W : World} {base : Nat} {v : Value} {xs : List (Int × Int)} (hown : W.ownsRow base 35 2 v xs.length (dcells xs)) (d1 d2 : Int) (hlen : (xs.length : Int) ≤ 1000000) (hbase : base ≤ W.heap.size) :
    ∃ v' W', (Builtin.append_ #[98, 98] 98 #[v, .slice (some ⟨W.heap.size, 0, none⟩) 1 1]).run Tryz.prog (W.alloc (.cells #[.int .u64 d1, .int .u64 d2] 35)) = .ok v' W' ∧ W'.ownsRow base 35 2 v' (xs ++ [(d1, d2)]).length (dcells (xs ++ [(d1, d2)])) ∧ (W.alloc (.cells #[.int .u64 d1, .int .u64 d2] 35)).grownBy W' v.ownBlock ∧ (v'.ownBlock = v.ownBlock ∨ v'.ownBlock = some (W.heap.size + 1)) := by
  have h := append_digs (W.alloc (.cells #[.int .u64 d1, .int .u64 d2] 35)) base 98 v xs (hown.alloc _) (some ⟨W.heap.size, 0, none⟩) [(d1, d2)] 1 (fun i hi => by
    obtain rfl : i = 0 := by simp at hi; omega
    have hk := BK.new W #[.int .u64 d1, .int .u64 d2] 35
    exact ⟨_, 0, rfl, hk.lt, by rw [Nat.zero_mul, hk.cell]; rfl, by rw [Nat.zero_mul, hk.cell]; rfl⟩) (by simp; omega) (by simp; omega)
  simpa using h

end Go.Proofs.YtdedfkljaeloiaaGreatDoor

/- slices.Clone and slices.Equal at digests. -/
namespace Go.Proofs.YtdedfkljaeloiaaGreatDoor
open Go.RowKit Go.Shelf
set_option linter.unusedVariables false

theorem eq_take_full {α : Type} {l m : List α} (hl : l.length = m.length) (k : Nat) (h : l.take k = m.take k) (hk : l.length ≤ k) : l = m := by
  rwa [List.take_of_length_le hk, List.take_of_length_le (by omega)] at h
end Go.Proofs.YtdedfkljaeloiaaGreatDoor

/- slices.SortFunc at digests, by the shelf's contract. -/
namespace Go.Proofs.YtdedfkljaeloiaaGreatDoor
open Go.RowKit Go.Shelf Go.Sort
set_option linter.unusedVariables false

def encD (d : Int × Int) : List Value := [.int .u64 d.1, .int .u64 d.2]
theorem heap_sortedD {w : World} {g n : Nat} {os : Array Obj} {cur : Array Value} {e : TypeId} {fr : Nat × Nat} (F : Array Value) (hb : w.heap[g]? = some (.cells cur e fr)) :
    (grow (putRow id (Go.Sort.ahead w n) g 0 F) os).heap[g]? = some (.cells (putCells id 0 F cur) e fr) := by
  have hg : g < w.heap.size := (Array.getElem?_eq_some_iff.1 hb).1
  rw [heap_grow_old _ _ (by simpa using hg)]
  simp [putRow, mapBlock, Go.Sort.ahead, Array.getElem?_modify, hb, onCells]
theorem grownBy_sortedD {w : World} {g n : Nat} {os : Array Obj} (F : Array Value) : w.grownBy (grow (putRow id (Go.Sort.ahead w n) g 0 F) os) (some g) := by
  refine ⟨rfl, rfl, rfl, by simp, fun k hk hne => ?_⟩
  rw [heap_grow_old _ _ (by simpa using hk)]
  have : g ≠ k := fun e => hne (by rw [e])
  simp [putRow, mapBlock, Go.Sort.ahead, Array.getElem?_modify, this]
theorem take_putCellsD (cur : Array Value) (F : List Value) (h : F.length ≤ cur.size) : (putCells id 0 F.toArray cur).toList.take F.length = F := by
  apply List.ext_getElem?
  intro j
  by_cases hj : j < F.length
  · rw [List.getElem?_take_of_lt hj, Array.getElem?_toList]
    simp [putCells, hj, show j < cur.size by omega]
  · rw [List.getElem?_take_eq_none (by omega), List.getElem?_eq_none (by omega)]

end Go.Proofs.YtdedfkljaeloiaaGreatDoor

/- pool.Reach: the plain search, and its state in memory. -/
namespace Go.Proofs.YtdedfkljaeloiaaGreatDoor
open Go.RowKit Go.Shelf
set_option linter.unusedVariables false

/-- The search: what is open, met, reached and missing. -/
def reachF (xs : List Itm) : Nat → List (Int × Int) → List (Int × Int) → List (Int × Int) → List (Int × Int) → List (Int × Int) × List (Int × Int)
  | 0, _, _, R, M => (R, M)
  | f + 1, op, met, R, M =>
    match op.getLast? with
    | none => (R, M)
    | some d =>
      if d ∈ met then reachF xs f op.dropLast met R M
      else if (getS xs d).2 ≠ 0 then reachF xs f op.dropLast (d :: met) R (M ++ [d])
      else reachF xs f (op.dropLast ++ (linksS (getS xs d).1).filter fun l => !decide (l ∈ d :: met)) (d :: met) (R ++ [d]) M
def fuelR (xs : List Itm) (roots : List (Int × Int)) : Nat := 1000 * xs.length + roots.length
theorem reachF_nil (xs : List Itm) (f : Nat) (met R M : List (Int × Int)) : reachF xs f [] met R M = (R, M) := by
  cases f <;> rfl
theorem reachF_met {xs : List Itm} {f : Nat} {op met R M : List (Int × Int)} {d : Int × Int} (h : d ∈ met) : reachF xs (f + 1) (op ++ [d]) met R M = reachF xs f op met R M := by
  rw [reachF]; simp [h]
theorem reachF_miss {xs : List Itm} {f : Nat} {op met R M : List (Int × Int)} {d : Int × Int} (h : d ∉ met) (he : (getS xs d).2 ≠ 0) : reachF xs (f + 1) (op ++ [d]) met R M = reachF xs f op (d :: met) R (M ++ [d]) := by
  rw [reachF]; simp [h, he]
theorem reachF_hit {xs : List Itm} {f : Nat} {op met R M : List (Int × Int)} {d : Int × Int} (h : d ∉ met) (he : (getS xs d).2 = 0) : reachF xs (f + 1) (op ++ [d]) met R M = reachF xs f (op ++ (linksS (getS xs d).1).filter fun l => !decide (l ∈ d :: met)) (d :: met) (R ++ [d]) M := by
  rw [reachF]; simp [h, he]
/-- At most so many rounds are to come. -/
def mea (xs : List Itm) (op met : List (Int × Int)) : Nat := 1000 * xs.countP (fun x => !decide (x.d ∈ met)) + op.length
theorem countP_le (xs : List Itm) (met : List (Int × Int)) (d : Int × Int) : xs.countP (fun x => !decide (x.d ∈ d :: met)) ≤ xs.countP (fun x => !decide (x.d ∈ met)) := by
  refine List.countP_mono_left (fun x _ h => ?_)
  simp at h ⊢
  exact h.2
theorem countP_lt {xs : List Itm} {met : List (Int × Int)} {x : Itm} (hx : x ∈ xs) (hm : x.d ∉ met) : xs.countP (fun y => !decide (y.d ∈ x.d :: met)) + 1 ≤ xs.countP (fun y => !decide (y.d ∈ met)) := by
  induction xs with
  | nil => simp at hx
  | cons y ys ih =>
    rw [List.countP_cons, List.countP_cons]
    rcases List.mem_cons.1 hx with rfl | hx
    · have := countP_le ys met x.d
      simp [hm] at this ⊢
      omega
    · have h1 := ih hx
      have : (if (!decide (y.d ∈ x.d :: met)) = true then 1 else 0) ≤ (if (!decide (y.d ∈ met)) = true then 1 else 0) := by
        by_cases h2 : y.d ∈ met
        · simp [h2]
        · simp [h2]; split <;> omega
      omega
theorem getS_good {xs : List Itm} {d : Int × Int} (h : (getS xs d).2 = 0) : ∃ x ∈ xs, x.d = d ∧ decodeS x.data = getS xs d := by
  unfold getS at h ⊢
  split at h
  · rename_i y hy
    split at h
    · rename_i hd
      exact ⟨y, List.mem_of_getElem? hy, hd, by simp [hd]⟩
    · simp at h
  · simp at h
theorem links_le (o : Ob) : (linksS o).length ≤ 200 := by
  unfold linksS
  split
  · simp
  · rename_i he
    have h := encodeS_parts (encodeS_err (by simpa using he))
    have hc := h.1
    have hk := checkS_kind hc
    by_cases h1 : o.kind = 1 ∨ o.kind = 4
    · rw [checkS_one hc h1]; simp [obZ]; split <;> simp <;> omega
    · by_cases h2 : o.kind = 2
      · have := (entsE_parts (checkS_two hc h2).2).1
        rw [if_neg (by omega)]; simp; exact this
      · have h3 : o.kind = 3 := by omega
        have hp := (commitE_parts (checkS_three hc h3).2).1
        rw [(checkS_three hc h3).1]; simp; omega
theorem links_ok {xs : List Itm} {d : Int × Int} (h : (getS xs d).2 = 0) : ∀ l ∈ linksS (getS xs d).1, OkD l := by
  obtain ⟨x, _, _, hd⟩ := getS_good h
  have hg : decodeS x.data = ((getS xs d).1, 0) := by rw [hd, ← h]
  have ho := (decode_good hg).2
  intro l hl
  unfold linksS at hl
  split at hl
  · simp at hl
  · rcases List.mem_append.1 hl with h1 | h1
    · obtain ⟨e, he, rfl⟩ := List.mem_map.1 h1
      exact ho.2.2 e he
    · split at h1
      · rcases List.mem_cons.1 h1 with rfl | h2
        · exact ho.1
        · exact ho.2.1 l h2
      · simp at h1
theorem mea_pop (xs : List Itm) (op met : List (Int × Int)) (d : Int × Int) : mea xs op met + 1 = mea xs (op ++ [d]) met := by
  unfold mea; simp; omega
theorem mea_miss (xs : List Itm) (op met : List (Int × Int)) (d : Int × Int) : mea xs op (d :: met) + 1 ≤ mea xs (op ++ [d]) met := by
  have := countP_le xs met d
  unfold mea; rw [List.length_append]; simp only [List.length_cons, List.length_nil]; omega
theorem mea_hit {xs : List Itm} {op met ls : List (Int × Int)} {d : Int × Int} (hm : d ∉ met) (h : (getS xs d).2 = 0) (hl : ls.length ≤ 200) : mea xs (op ++ ls) (d :: met) + 1 ≤ mea xs (op ++ [d]) met := by
  obtain ⟨x, hx, rfl, _⟩ := getS_good h
  have := countP_lt hx hm
  unfold mea; rw [List.length_append, List.length_append]; simp only [List.length_cons, List.length_nil]; omega
theorem mea_start (xs : List Itm) (roots : List (Int × Int)) : mea xs roots [(0, 0)] ≤ fuelR xs roots := by
  have : xs.countP (fun x => !decide (x.d ∈ [((0 : Int), (0 : Int))])) ≤ xs.length := List.countP_le_length
  unfold mea fuelR
  omega

/-- Two slices whose blocks are not one. -/
def Apart (u v : Value) : Prop := ∀ k, u.ownBlock = some k → v.ownBlock ≠ some k
theorem Apart.symm {u v : Value} (h : Apart u v) : Apart v u := fun k h1 h2 => h k h2 h1
theorem Apart.nil (v : Value) : Apart (.slice none 0 0) v := fun k h => by simp [Value.ownBlock] at h
theorem own_apart {W W' : World} {base : Nat} {e : TypeId} {z : Nat} {u v : Value} {n : Nat} {xs : List Value} (h : W.ownsRow base e z u n xs) (ha : Apart u v) (hg : W.grownBy W' v.ownBlock) : W'.ownsRow base e z u n xs :=
  h.kept hg (by
    cases hu : u.ownBlock with
    | none => exact .inl rfl
    | some k => exact .inr (fun e => ha k hu e.symm))
theorem apart_step {W : World} {base : Nat} {e : TypeId} {z : Nat} {u v v' : Value} {n N : Nat} {xs : List Value} (h : W.ownsRow base e z u n xs) (ha : Apart u v) (hat : v'.ownBlock = v.ownBlock ∨ v'.ownBlock = some N) (hN : W.heap.size ≤ N) : Apart u v' := by
  intro k hk
  rcases hat with e | e
  · rw [e]; exact ha k hk
  · rw [e]
    intro e2
    have := (h.lt k hk).2
    have := Option.some.inj e2
    omega
/-- The state of the search in memory. -/
structure RchSt (w W : World) (M : Int × Int → Bool) (nm : Nat) (vo vr vm : Value) (op R Ms : List (Int × Int)) : Prop where
  mp : MapD w.heap.size nm M W
  oo : W.ownsRow (w.heap.size + 1) 35 2 vo op.length (dcells op)
  orr : W.ownsRow (w.heap.size + 1) 35 2 vr R.length (dcells R)
  om : W.ownsRow (w.heap.size + 1) 35 2 vm Ms.length (dcells Ms)
  a1 : Apart vo vr
  a2 : Apart vo vm
  a3 : Apart vr vm
  bel : Below w.heap.size w W
section
variable {w W W' : World} {M : Int × Int → Bool} {nm : Nat} {vo vr vm v' : Value} {op R Ms : List (Int × Int)}
theorem RchSt.lt (h : RchSt w W M nm vo vr vm op R Ms) : w.heap.size + 1 ≤ W.heap.size := h.mp.lt
theorem RchSt.below (h : RchSt w W M nm vo vr vm op R Ms) (hb : Below W.heap.size W W') : RchSt w W' M nm vo vr vm op R Ms :=
  ⟨h.mp.below hb, own_below h.oo hb, own_below h.orr hb, own_below h.om hb, h.a1, h.a2, h.a3, h.bel.trans (hb.mono (by have := h.lt; omega))⟩
theorem RchSt.alloc (h : RchSt w W M nm vo vr vm op R Ms) (o : Obj) : RchSt w (W.alloc o) M nm vo vr vm op R Ms := h.below ((Below.refl _ _).alloc (Nat.le_refl _) _)
theorem RchSt.put {M' : Int × Int → Bool} (h : RchSt w W M nm vo vr vm op R Ms) (hm : MapD w.heap.size (nm + 1) M' W') (hg : W.grownBy W' (some w.heap.size)) : RchSt w W' M' (nm + 1) vo vr vm op R Ms :=
  ⟨hm, own_kept h.oo hg (by omega), own_kept h.orr hg (by omega), own_kept h.om hg (by omega), h.a1, h.a2, h.a3, below_of_grown h.bel hg (Nat.le_refl _)⟩
theorem own_map_ne {W : World} {base : Nat} {e : TypeId} {z : Nat} {v : Value} {n b : Nat} {xs : List Value} (h : W.ownsRow base e z v n xs) (hb : b < base) : some b ≠ v.ownBlock := fun e1 => by have := (h.lt b e1.symm).1; omega
theorem RchSt.bel' {base : Nat} {e : TypeId} {z : Nat} {n : Nat} {xs : List Value} (h : Below w.heap.size w W) (ho : W.ownsRow base e z vo n xs) (hb : w.heap.size ≤ base) (hg : W.grownBy W' vo.ownBlock) : Below w.heap.size w W' := h.grown hg h.size (fun k hk => by have := (ho.lt k hk).1; omega)
theorem RchSt.pushO (h : RchSt w W M nm vo vr vm op R Ms) {op' : List (Int × Int)} (hown : W'.ownsRow (w.heap.size + 1) 35 2 v' op'.length (dcells op')) (hg : W.grownBy W' vo.ownBlock) (hat : v'.ownBlock = vo.ownBlock ∨ v'.ownBlock = some W.heap.size) : RchSt w W' M nm v' vr vm op' R Ms :=
  ⟨h.mp.kept hg (own_map_ne h.oo (by omega)), hown, own_apart h.orr h.a1.symm hg, own_apart h.om h.a2.symm hg, (apart_step h.orr h.a1.symm hat (Nat.le_refl _)).symm, (apart_step h.om h.a2.symm hat (Nat.le_refl _)).symm, h.a3, RchSt.bel' h.bel h.oo (by omega) hg⟩
theorem RchSt.pushR (h : RchSt w W M nm vo vr vm op R Ms) {R' : List (Int × Int)} (hown : W'.ownsRow (w.heap.size + 1) 35 2 v' R'.length (dcells R')) (hg : W.grownBy W' vr.ownBlock) (hat : v'.ownBlock = vr.ownBlock ∨ v'.ownBlock = some W.heap.size) : RchSt w W' M nm vo v' vm op R' Ms :=
  ⟨h.mp.kept hg (own_map_ne h.orr (by omega)), own_apart h.oo h.a1 hg, hown, own_apart h.om h.a3.symm hg, apart_step h.oo h.a1 hat (Nat.le_refl _), h.a2, (apart_step h.om h.a3.symm hat (Nat.le_refl _)).symm, RchSt.bel' h.bel h.orr (by omega) hg⟩
theorem RchSt.pushM (h : RchSt w W M nm vo vr vm op R Ms) {M' : List (Int × Int)} (hown : W'.ownsRow (w.heap.size + 1) 35 2 v' M'.length (dcells M')) (hg : W.grownBy W' vm.ownBlock) (hat : v'.ownBlock = vm.ownBlock ∨ v'.ownBlock = some W.heap.size) : RchSt w W' M nm vo vr v' op R M' :=
  ⟨h.mp.kept hg (own_map_ne h.om (by omega)), own_apart h.oo h.a2 hg, own_apart h.orr h.a3 hg, hown, h.a1, apart_step h.oo h.a2 hat (Nat.le_refl _), apart_step h.orr h.a3 hat (Nat.le_refl _), RchSt.bel' h.bel h.om (by omega) hg⟩
/-- The last digest of a row: its cells, and the row without it. -/
theorem RchSt.pop {d1 d2 : Int} (h : RchSt w W M nm vo vr vm (op ++ [(d1, d2)]) R Ms) : ∃ g c, vo = .slice (some ⟨g, 0, none⟩) (op.length + 1) c ∧ op.length + 1 ≤ c ∧ W.cell? ⟨g, op.length * 2, none⟩ = some (.int .u64 d1) ∧ W.cell? ⟨g, op.length * 2 + 1, none⟩ = some (.int .u64 d2) ∧
    RchSt w W M nm (.slice (some ⟨g, 0, none⟩) op.length c) vr vm op R Ms := by
  have ho := h.oo
  rcases ho.2 with ⟨h1, h2⟩ | ⟨g, c, cur, h1, hbase, hg, hcap, hmax, hcs, htake⟩
  · simp at h2
  · rw [List.length_append, List.length_singleton] at h1 hcap htake
    subst h1
    have hat := dcells_at (op ++ [(d1, d2)]) op.length (by simp)
    simp only [List.getElem_append_right (Nat.le_refl _), Nat.sub_self, List.getElem_cons_zero] at hat
    refine ⟨g, c, rfl, hcap, ?_, ?_, ⟨h.mp, ?_, h.orr, h.om, h.a1, h.a2, h.a3, h.bel⟩⟩
    · have := ho.cells (g := g) rfl _ _ hat.1; rwa [Go.WideShapes.add_plain, Nat.zero_add] at this
    · have := ho.cells (g := g) rfl _ _ hat.2; rwa [Go.WideShapes.add_plain, Nat.zero_add] at this
    · refine ⟨dcells_length op, .inr ⟨g, c, cur, rfl, hbase, hg, by omega, hmax, hcs, ?_⟩⟩
      have h3 : (cur.toList.take ((op.length + 1) * 2)).take (op.length * 2) = dcells op := by
        rw [htake, dcells_append, ← dcells_length op, List.take_left]
      rw [List.take_take, Nat.min_eq_left (by omega)] at h3
      exact h3
end
theorem dpop_run (g n c f : Nat) (h : f ≤ c) (hc : 0 < c) (W : World) : (Instr.slice 98 (.slice (some ⟨g, 0, none⟩) n c) none (some (.int .i64 f)) none).run Tryz.prog W = .ok (.slice (some ⟨g, 0, none⟩) f c) W := by
  rw [run_slice_h (P := Tryz.prog) W 98 (some ⟨g, 0, none⟩) n c (by kernel_rfl) .i64 f (by omega) (by omega), size_dig]
  simp [sliced, Result.andThen, Go.WideShapes.add_plain]

end Go.Proofs.YtdedfkljaeloiaaGreatDoor

/- pool.Reach. -/
namespace Go.Proofs.YtdedfkljaeloiaaGreatDoor
open Go.RowKit Go.Shelf
set_option linter.unusedVariables false

def GotRM (w : World) (r : List (Int × Int) × List (Int × Int)) (e : Ending) (w' : World) : Prop :=
  ∃ a c a' c', e = .returned (.tuple #[.slice a r.1.length c, .slice a' r.2.length c']) ∧ w'.ownsRow w.heap.size 35 2 (.slice a r.1.length c) r.1.length (dcells r.1) ∧ w'.ownsRow w.heap.size 35 2 (.slice a' r.2.length c') r.2.length (dcells r.2) ∧ Below w.heap.size w w'
theorem MapD.eq {b n : Nat} {M M' : Int × Int → Bool} {W : World} (h : MapD b n M W) (e : ∀ d, M d = M' d) : MapD b n M' W := by
  have : M = M' := funext e
  rw [← this]; exact h
theorem met_or (met : List (Int × Int)) (e d : Int × Int) : (decide (d ∈ met) || decide (d = e)) = decide (d ∈ e :: met) := by
  by_cases h1 : d = e <;> by_cases h2 : d ∈ met <;> simp [h1, h2]
theorem ObOwn.keptR {base : Nat} {W W' : World} {o : Ob} {ea : Option Addr} {ec : Nat} {pa : Option Addr} {pc : Nat} {row : Option Nat} (h : ObOwn base W o ea ec pa pc) (hg : W.grownBy W' row) (hb : ∀ k, row = some k → k < base) : ObOwn base W' o ea ec pa pc := by
  cases row with
  | none => exact h.below ⟨hg.os, hg.tape, hg.output, hg.size, fun k hk => hg.block k hk (by simp)⟩
  | some b => exact h.kept hg (hb b rfl)
/-- What holds when at most k rounds are to come. -/
structure RL (xs : List Itm) (roots : List (Int × Int)) (w wr : World) (k : Nat) (vo vr vm : Value) (op R Ms met : List (Int × Int)) (nm : Nat) : Prop where
  st : RchSt w wr (fun d => decide (d ∈ met)) nm vo vr vm op R Ms
  eq : reachF xs (fuelR xs roots) roots [(0, 0)] [] [] = reachF xs k op met R Ms
  me : mea xs op met ≤ k
  nk : nm + k ≤ fuelR xs roots + 1
  rk : R.length + Ms.length + k ≤ fuelR xs roots
  ok : ∀ d ∈ op, OkD d
theorem filter_take_succ {α : Type} (F : α → Bool) (ls : List α) (j : Nat) (h : j < ls.length) : (ls.take (j + 1)).filter F = (ls.take j).filter F ++ (if F ls[j] then [ls[j]] else []) := by
  rw [List.take_succ_eq_append_getElem h, List.filter_append]
  congr 1
  by_cases hf : F ls[j] = true <;> simp [hf]
def RX (xs : List Itm) (roots : List (Int × Int)) (w : World) (k : Nat) (vr vm vo : Value) (wr : World) : Prop := ∃ op R Ms met nm, RL xs roots w wr k vo vr vm op R Ms met nm

end Go.Proofs.YtdedfkljaeloiaaGreatDoor

/- The example of the chapter: plain values, and awake. -/
namespace Go.Proofs.YtdedfkljaeloiaaGreatDoor
open Go.RowKit Go.Shelf
set_option linter.unusedVariables false

theorem wrapU_ok (x : Int) : u64B (IntKind.u64.wrap x) := by
  rw [wrap_u64]
  unfold u64B
  omega
theorem bits_ok (op : BinOp) (x y : Int) : u64B (bits op .u64 x y) := by
  unfold bits
  exact wrapU_ok _
theorem fold_ok {f : Int → UInt8 → Int} (hf : ∀ x c, u64B (f x c)) : ∀ (l : List UInt8) (x : Int), u64B x → u64B (l.foldl f x)
  | [], _, h => h
  | c :: l, x, _ => by rw [List.foldl_cons]; exact fold_ok hf l _ (hf x c)
theorem digS_ok (l : List UInt8) : OkD (digS l) := by
  unfold digS
  split
  · exact ⟨⟨by decide, by decide⟩, by decide, by decide⟩
  · exact ⟨fold_ok (fun x c => wrapU_ok _) l _ ⟨by decide, by decide⟩, fold_ok (fun x c => bits_ok _ _ _) l _ ⟨by decide, by decide⟩⟩
theorem digS_ne (l : List UInt8) : digS l ≠ (0, 0) := by
  unfold digS
  split
  · intro h; cases h
  · rename_i h1
    intro h
    simp only [Prod.mk.injEq] at h
    exact h1 h
def ob1 : Ob := ⟨1, [120], [], (0, 0), [], [], 0, []⟩
def blobD : Int × Int := digS [1, 1, 120]
def ob2 : Ob := ⟨2, [], [⟨[97], false, blobD⟩], (0, 0), [], [], 0, []⟩
def tx2 : List UInt8 := bodyO ob2
theorem enc_small (n : Nat) (h : n < 128) : Cw.enc n = [UInt8.ofNat n] := by unfold Cw.enc; exact if_pos h
theorem ob1_enc : encodeS ob1 = ([1, 1, 120], 0) := by decide +kernel
theorem ob1_name : nameS ob1 = (blobD, 0) := by unfold nameS; rw [ob1_enc]; simp [blobD]
theorem ob2_enc : encodeS ob2 = (tx2, 0) := by decide +kernel
theorem blob_ne : blobD ≠ digS tx2 := by decide +kernel
theorem blob_ok : OkD blobD := digS_ok [1, 1, 120]
theorem ent_ok (b : Int × Int) (h : OkD b) : OkD (Ent.mk [97] false b).d := h
theorem ent_nn (b : Int × Int) (h : OkD b) : 0 ≤ (Ent.mk [97] false b).d.1 ∧ 0 ≤ (Ent.mk [97] false b).d.2 := ⟨h.1.1, h.2.1⟩
theorem ent_nm (b : Int × Int) : ((Ent.mk [97] false b).name.length : Int) ≤ 65536 := by simp
theorem ob2_ok : OkO ob2 := ⟨OkD_zero, by simp [ob2], by
  intro e he
  have he2 : e = ⟨[97], false, blobD⟩ := List.mem_singleton.1 he
  rw [he2]
  exact ent_ok blobD blob_ok⟩
theorem ins2 (x : Itm) : insS [] x = ([x], 0) := rfl
theorem put2 : putS [] ob2 = ([⟨digS tx2, tx2⟩], digS tx2, 0) := by
  unfold putS
  rw [ob2_enc]
  simp only [ins2]
  rfl
theorem get2 : getS [⟨digS tx2, tx2⟩] (digS tx2) = (ob2, 0) := by
  have h : posI [⟨digS tx2, tx2⟩] (digS tx2) = 0 := by unfold posI; rw [List.takeWhile_cons_of_neg (by simp [cmpD_self])]; rfl
  unfold getS
  rw [h]
  simp [decode_put ob2_enc ob2_ok]
theorem get1 : getS [⟨digS tx2, tx2⟩] blobD = (obZ, 8) := by
  unfold getS
  split
  · rename_i y hy
    have : y ∈ [(⟨digS tx2, tx2⟩ : Itm)] := List.mem_of_getElem? hy
    rw [List.mem_singleton] at this
    subst this
    rw [if_neg (fun e => blob_ne e.symm)]
  · rfl
theorem links2 : linksS ob2 = [blobD] := by
  unfold linksS
  rw [ob2_enc]
  simp [ob2]
theorem ob1_b : ObB ob1 := ⟨by decide, by simp [ob1], by simp [ob1], by decide, by simp [ob1], by decide, by decide, by decide, by decide⟩
theorem ob2_b : ObB ob2 := ⟨by decide, by
  intro e he
  have he2 : e = ⟨[97], false, blobD⟩ := List.mem_singleton.1 he
  rw [he2]
  exact ent_nm blobD, by
  intro e he
  have he2 : e = ⟨[97], false, blobD⟩ := List.mem_singleton.1 he
  rw [he2]
  exact ent_nn blobD blob_ok, by decide, by simp [ob2], by decide, by decide, by decide, by decide⟩

theorem ents2 {W : World} {b : Nat} (h : BK b #[.string ⟨#[97]⟩, .bool false, .int .u64 blobD.1, .int .u64 blobD.2] 111 W) : Ents W.heap.size W (some ⟨b, 0, none⟩) ob2.ents := by
  intro i hi
  obtain rfl : i = 0 := by simp [ob2] at hi; omega
  exact ⟨b, 0, rfl, h.lt, by rw [h.cell]; rfl, by rw [h.cell]; rfl, by rw [h.cell]; rfl, by rw [h.cell]; rfl⟩
theorem digs1 {W : World} {b : Nat} {d1 d2 : Int} (h : BK b #[.int .u64 d1, .int .u64 d2] 35 W) : Digs W.heap.size W (some ⟨b, 0, none⟩) [(d1, d2)] := by
  intro i hi
  obtain rfl : i = 0 := by simp at hi; omega
  exact ⟨b, 0, rfl, h.lt, by rw [h.cell]; rfl, by rw [h.cell]; rfl⟩

end Go.Proofs.YtdedfkljaeloiaaGreatDoor

/- What a row's reading tells of digests, entries, objects and items that came in. -/
namespace Go.Proofs.YtdedfkljaeloiaaGreatDoor
open Go.ChangeShapes Go.WideShapes Go.ChangeAt Go.RowKit Go.Deep

theorem list_of {α : Type} (Q : Nat → α → Prop) : ∀ (n : Nat), (∀ i, i < n → ∃ x, Q i x) → ∃ l : List α, l.length = n ∧ ∀ i (h : i < l.length), Q i l[i]
  | 0, _ => ⟨[], rfl, fun i h => by simp at h⟩
  | n + 1, h => by
    obtain ⟨l, hl, hq⟩ := list_of Q n (fun i hi => h i (by omega))
    obtain ⟨x, hx⟩ := h n (by omega)
    refine ⟨l ++ [x], by simp [hl], fun i hi => ?_⟩
    by_cases he : i < l.length
    · rw [List.getElem_append_left he]; exact hq i he
    · obtain rfl : i = l.length := by simp at hi; omega
      simpa [hl] using hx


section
variable {H : Type} {enc : TypeId × Value → H} {W : World}

theorem open_rows {t e : TypeId} {C : Nat} {a : Option Addr} {len cap fuel : Nat} {x : DataW H × List MemPlace} (ht : Tryz.prog.underlying t = some (.slice e)) (hC : Tryz.prog.cellsOf e = C) (h0 : 0 < C)
    (h : DataW.trod enc Tryz.prog W 0 (fun _ => true) true fuel t [.slice a len cap] = some x) :
    (len ≤ cap ∧ cap ≤ maxLen) ∧ ∀ i, i < len → ∃ b off cs n y, a = some ⟨b, off, none⟩ ∧ b < W.heap.size ∧ cs.length = C ∧ (∀ (j : Nat) (v : Value), cs[j]? = some v → W.cell? ⟨b, off + i * C + j, none⟩ = some v) ∧ DataW.trod enc Tryz.prog W 0 (fun _ => true) true n e cs = some y := by
  rcases open_slice ht h with ⟨hcs, _⟩ | ⟨ad, l, c, m, n, D, Pl, hcs, _, hl, hm, hmm, _, hi⟩
  · simp at hcs
    obtain ⟨rfl, rfl, rfl⟩ := hcs
    exact ⟨⟨Nat.le_refl _, Nat.zero_le _⟩, fun i hi => by omega⟩
  · simp at hcs
    obtain ⟨rfl, rfl, rfl⟩ := hcs
    refine ⟨⟨hl, hm⟩, fun i hlt => ?_⟩
    simp only [if_true] at hmm
    obtain ⟨cs0, hc0, _⟩ := hi 0 (by omega)
    obtain ⟨_, hcl0, hat0⟩ := World.cells?_some hc0
    rw [hC] at hcl0 hat0
    obtain ⟨b, off, spot⟩ := ad
    have e0 : W.cell? ((⟨b, off, spot⟩ : Addr).add 0) = some (cs0[0]'(by omega)) := by
      have := hat0 0 h0
      rw [List.getElem?_eq_getElem (by omega)] at this
      simpa [Addr.add] using this
    have hspot : spot = none := by simpa [Addr.add] using World.cell?_spot e0
    subst hspot
    obtain ⟨cs', hc, ht'⟩ := hi i (by omega)
    obtain ⟨_, hcl, hat⟩ := World.cells?_some hc
    rw [hC] at hcl hat
    have hlt0 : b < W.heap.size := by
      unfold World.cell? at e0
      simp only [Addr.add, if_true] at e0
      cases ho : W.heap[b]? with
      | none => simp [ho] at e0
      | some o => exact (Array.getElem?_eq_some_iff.1 ho).1
    refine ⟨b, off, cs', n, _, rfl, hlt0, hcl, fun j v hj => ?_, ht'⟩
    have hjl : j < C := by rw [← hcl]; exact (List.getElem?_eq_some_iff.1 hj).1
    have := hat j hjl
    rw [hj, Go.WideShapes.add_plain, Go.WideShapes.add_plain] at this
    exact this
set_option maxRecDepth 100000 in
theorem trod_digest {fuel : Nat} {cs : List Value} {x : DataW H × List MemPlace} (h : DataW.trod enc Tryz.prog W 0 (fun _ => true) true fuel 35 cs = some x) : ∃ p : Int × Int, cs = [.int .u64 p.1, .int .u64 p.2] ∧ (Lit.int .u64 p.1).wf = true ∧ (Lit.int .u64 p.2).wf = true := by
  obtain ⟨xs, n, _, _, hl, hxl, hf⟩ := DataW.trod_array Tryz.underlying35 h
  rw [show Tryz.prog.cellsOf 35 = 2 by kernel_rfl] at hl
  match cs, hl with
  | [c0, c1], _ =>
    match xs, hxl with
    | [x0, x1], _ =>
      obtain ⟨o, e0, _, w0⟩ := DataW.trod_int Tryz.underlying33 (show DataW.trod enc Tryz.prog W 0 (fun _ => true) true n 33 [c0] = some x0 from hf 0 (by decide))
      obtain ⟨s, e1, _, w1⟩ := DataW.trod_int Tryz.underlying33 (show DataW.trod enc Tryz.prog W 0 (fun _ => true) true n 33 [c1] = some x1 from hf 1 (by decide))
      cases e0
      cases e1
      exact ⟨(o, s), rfl, w0, w1⟩
/-- The digests of a list are digests. -/
def DigsOk (ds : List (Int × Int)) : Prop := ∀ d ∈ ds, (Lit.int .u64 d.1).wf = true ∧ (Lit.int .u64 d.2).wf = true
theorem open_digs {a : Option Addr} {len cap fuel : Nat} {x : DataW H × List MemPlace} (h : DataW.trod enc Tryz.prog W 0 (fun _ => true) true fuel 98 [.slice a len cap] = some x) : (len ≤ cap ∧ cap ≤ maxLen) ∧ ∃ ds : List (Int × Int), len = ds.length ∧ Digs W.heap.size W a ds ∧ DigsOk ds := by
  obtain ⟨hl, hr⟩ := open_rows Tryz.underlying98 (C := 2) (by kernel_rfl) (by decide) h
  obtain ⟨ds, hds, hq⟩ := list_of (fun i (p : Int × Int) => (∃ b off, a = some ⟨b, off, none⟩ ∧ b < W.heap.size ∧ W.cell? ⟨b, off + i * 2, none⟩ = some (.int .u64 p.1) ∧ W.cell? ⟨b, off + i * 2 + 1, none⟩ = some (.int .u64 p.2)) ∧ (Lit.int .u64 p.1).wf = true ∧ (Lit.int .u64 p.2).wf = true) len (fun i hi => by
    obtain ⟨b, off, cs, n, y, ha, hb, _, hcell, ht⟩ := hr i hi
    obtain ⟨p, rfl, w0, w1⟩ := trod_digest ht
    exact ⟨p, ⟨b, off, ha, hb, hcell 0 _ rfl, hcell 1 _ rfl⟩, w0, w1⟩)
  refine ⟨hl, ds, hds.symm, fun i hi => (hq i hi).1, fun d hd => ?_⟩
  obtain ⟨i, hi, rfl⟩ := List.getElem_of_mem hd
  exact (hq i hi).2
theorem trod_slice_val {t e : TypeId} {fuel : Nat} {c : Value} {x : DataW H × List MemPlace} (ht : Tryz.prog.underlying t = some (.slice e)) (h : DataW.trod enc Tryz.prog W 0 (fun _ => true) true fuel t [c] = some x) : ∃ a len cap, c = .slice a len cap := by
  rcases open_slice ht h with ⟨hcs, _⟩ | ⟨ad, l, c, m, n, D, Pl, hcs, _⟩
  · simp at hcs; exact ⟨_, _, _, hcs⟩
  · simp at hcs; exact ⟨_, _, _, hcs⟩

theorem okD_wf {d : Int × Int} (h0 : (Lit.int .u64 d.1).wf = true) (h1 : (Lit.int .u64 d.2).wf = true) : OkD d := by
  simp [Lit.wf, IntKind.min, IntKind.max, IntKind.signed, IntKind.bits] at h0 h1
  exact ⟨⟨by omega, by omega⟩, by omega, by omega⟩
set_option maxRecDepth 100000 in
theorem trod_ent {fuel : Nat} {cs : List Value} {x : DataW H × List MemPlace} (h : DataW.trod enc Tryz.prog W 0 (fun _ => true) true fuel 111 cs = some x) : ∃ e : Ent, cs = [.string ⟨e.name.toArray⟩, .bool e.dir, .int .u64 e.d.1, .int .u64 e.d.2] ∧ OkD e.d ∧ e.name.length ≤ maxLen := by
  obtain ⟨xs, n, _, _, hl, hxl, hf⟩ := DataW.trod_struct Tryz.underlying111 h
  rw [show Tryz.prog.cellsOf 111 = 4 by kernel_rfl] at hl
  match cs, hl with
  | [c0, c1, c2, c3], _ =>
    match xs, hxl with
    | [x0, x1, x2], _ =>
      obtain ⟨s, e0, _, ws⟩ := DataW.trod_string Tryz.underlying9 (show DataW.trod enc Tryz.prog W 0 (fun _ => true) true n 9 [c0] = some x0 from hf 0 _ rfl)
      obtain ⟨b, e1, _⟩ := DataW.trod_bool Tryz.underlying4 (show DataW.trod enc Tryz.prog W 0 (fun _ => true) true n 4 [c1] = some x1 from hf 1 _ rfl)
      obtain ⟨d, e2, w0, w1⟩ := trod_digest (show DataW.trod enc Tryz.prog W 0 (fun _ => true) true n 35 [c2, c3] = some x2 from hf 2 _ rfl)
      cases e0
      cases e1
      cases e2
      exact ⟨⟨s.data.toList, b, d⟩, by rw [← ba_eq (t := s) rfl], okD_wf w0 w1, ws⟩
theorem open_ents {a : Option Addr} {len cap fuel : Nat} {x : DataW H × List MemPlace} (h : DataW.trod enc Tryz.prog W 0 (fun _ => true) true fuel 97 [.slice a len cap] = some x) : (len ≤ cap ∧ cap ≤ maxLen) ∧ ∃ es : List Ent, len = es.length ∧ Ents W.heap.size W a es ∧ ∀ e ∈ es, OkD e.d ∧ e.name.length ≤ maxLen := by
  obtain ⟨hl, hr⟩ := open_rows Tryz.underlying97 (C := 4) (by kernel_rfl) (by decide) h
  obtain ⟨es, hes, hq⟩ := list_of (fun i (e : Ent) => (∃ b off, a = some ⟨b, off, none⟩ ∧ b < W.heap.size ∧ W.cell? ⟨b, off + i * 4, none⟩ = some (.string ⟨e.name.toArray⟩) ∧ W.cell? ⟨b, off + i * 4 + 1, none⟩ = some (.bool e.dir) ∧ W.cell? ⟨b, off + i * 4 + 2, none⟩ = some (.int .u64 e.d.1) ∧ W.cell? ⟨b, off + i * 4 + 3, none⟩ = some (.int .u64 e.d.2)) ∧ OkD e.d ∧ e.name.length ≤ maxLen) len (fun i hi => by
    obtain ⟨b, off, cs, n, y, ha, hb, _, hcell, ht⟩ := hr i hi
    obtain ⟨e, rfl, w0, w1⟩ := trod_ent ht
    exact ⟨e, ⟨b, off, ha, hb, hcell 0 _ rfl, hcell 1 _ rfl, hcell 2 _ rfl, hcell 3 _ rfl⟩, w0, w1⟩)
  refine ⟨hl, es, hes.symm, fun i hi => (hq i hi).1, fun e he => ?_⟩
  obtain ⟨i, hi, rfl⟩ := List.getElem_of_mem he
  exact (hq i hi).2
/-- An object that came in. -/
structure ObCame (W : World) (o : Ob) (ea : Option Addr) (ec : Nat) (pa : Option Addr) (pc : Nat) : Prop where
  ents : Ents W.heap.size W ea o.ents
  pars : Digs W.heap.size W pa o.pars
  ecap : o.ents.length ≤ ec ∧ ec ≤ maxLen
  pcap : o.pars.length ≤ pc ∧ pc ≤ maxLen
  ok : OkO o
  enam : ∀ e ∈ o.ents, e.name.length ≤ maxLen
  dlen : o.data.length ≤ maxLen
  alen : o.author.length ≤ maxLen
  mlen : o.msg.length ≤ maxLen
set_option maxRecDepth 100000 in
theorem trod_ob {fuel : Nat} {cs : List Value} {x : DataW H × List MemPlace} (h : DataW.trod enc Tryz.prog W 0 (fun _ => true) true fuel 100 cs = some x) :
    ∃ (o : Ob) (ea : Option Addr) (ec : Nat) (pa : Option Addr) (pc : Nat), cs = (o.arr ea ec pa pc).toList ∧ ObCame W o ea ec pa pc := by
  obtain ⟨xs, n, _, _, hl, hxl, hf⟩ := DataW.trod_struct Tryz.underlying100 h
  rw [show Tryz.prog.cellsOf 100 = 9 by kernel_rfl] at hl
  match cs, hl with
  | [c0, c1, c2, c3, c4, c5, c6, c7, c8], _ =>
    match xs, hxl with
    | [x0, x1, x2, x3, x4, x5, x6, x7], _ =>
      obtain ⟨kind, e0, _, _⟩ := DataW.trod_int Tryz.underlying3 (show DataW.trod enc Tryz.prog W 0 (fun _ => true) true n 3 [c0] = some x0 from hf 0 _ rfl)
      obtain ⟨s1, e1, _, w1⟩ := DataW.trod_string Tryz.underlying9 (show DataW.trod enc Tryz.prog W 0 (fun _ => true) true n 9 [c1] = some x1 from hf 1 _ rfl)
      have h2 : DataW.trod enc Tryz.prog W 0 (fun _ => true) true n 97 [c2] = some x2 := hf 2 _ rfl
      obtain ⟨d, e3, w30, w31⟩ := trod_digest (show DataW.trod enc Tryz.prog W 0 (fun _ => true) true n 35 [c3, c4] = some x3 from hf 3 _ rfl)
      have h4 : DataW.trod enc Tryz.prog W 0 (fun _ => true) true n 98 [c5] = some x4 := hf 4 _ rfl
      obtain ⟨s5, e5, _, w5⟩ := DataW.trod_string Tryz.underlying9 (show DataW.trod enc Tryz.prog W 0 (fun _ => true) true n 9 [c6] = some x5 from hf 5 _ rfl)
      obtain ⟨time, e6, _, _⟩ := DataW.trod_int Tryz.underlying3 (show DataW.trod enc Tryz.prog W 0 (fun _ => true) true n 3 [c7] = some x6 from hf 6 _ rfl)
      obtain ⟨s7, e7, _, w7⟩ := DataW.trod_string Tryz.underlying9 (show DataW.trod enc Tryz.prog W 0 (fun _ => true) true n 9 [c8] = some x7 from hf 7 _ rfl)
      obtain ⟨ea, el, ec, rfl⟩ := trod_slice_val Tryz.underlying97 h2
      obtain ⟨pa, pl, pc, rfl⟩ := trod_slice_val Tryz.underlying98 h4
      obtain ⟨hec, es, rfl, hes, hok⟩ := open_ents h2
      obtain ⟨hpc, ps, rfl, hps, hpok⟩ := open_digs h4
      cases e0
      cases e1
      cases e3
      cases e5
      cases e6
      cases e7
      refine ⟨⟨kind, s1.data.toList, es, d, ps, s5.data.toList, time, s7.data.toList⟩, ea, ec, pa, pc, ?_, hes, hps, hec, hpc, ⟨okD_wf w30 w31, fun p hp => okD_wf (hpok p hp).1 (hpok p hp).2, fun e he => (hok e he).1⟩, fun e he => (hok e he).2, w1, w5, w7⟩
      simp only
/-- A slice of objects that came in. -/
def ObsIn (B : Nat) (W : World) (a : Option Addr) (os : List Ob) : Prop :=
  ∀ i (h : i < os.length), ∃ b off ea ec pa pc, a = some ⟨b, off, none⟩ ∧ b < B ∧ (∀ j v, (os[i].arr ea ec pa pc)[j]? = some v → W.cell? ⟨b, off + i * 9 + j, none⟩ = some v) ∧ ObCame W os[i] ea ec pa pc
theorem ObCame.inn {o : Ob} {ea : Option Addr} {ec : Nat} {pa : Option Addr} {pc : Nat} (h : ObCame W o ea ec pa pc) : ObIn W o ea ec pa pc := by
  have h1 := h.ecap
  have h2 := h.pcap
  have h3 := h.dlen
  have h4 := h.alen
  have h5 := h.mlen
  unfold maxLen at h1 h2 h3 h4 h5
  exact ⟨h.ents, h.pars, h2.1, by omega, fun e he => by have := h.enam e he; unfold maxLen at this; omega, fun e he => ⟨(h.ok.2.2 e he).1.1, (h.ok.2.2 e he).2.1⟩, by omega, fun d hd => ⟨(h.ok.2.1 d hd).1.1, (h.ok.2.1 d hd).2.1⟩, ⟨h.ok.1.1.1, h.ok.1.2.1⟩, by omega, by omega, by omega⟩
end

end Go.Proofs.YtdedfkljaeloiaaGreatDoor

/- cordwoodref08.Same. -/
namespace Go.Proofs.YtdedfkljaeloiaaGreatDoor
open Go.RowKit Go.Shelf
set_option linter.unusedVariables false

theorem eqD_run (d : Nat) (x y x' y' : Int) (W : World) : (Op.equalIn (d + 2) 35 (.agg #[.int .u64 x, .int .u64 y]) (.agg #[.int .u64 x', .int .u64 y'])).run Tryz.prog W = .ok (x == x' && y == y') W := by
  obtain ⟨i0, hi0, _, hs, _⟩ := info_parts infoU64
  have h := run_equalIn_array W (d + 1) #[.int .u64 x, .int .u64 y] #[.int .u64 x', .int .u64 y'] Tryz.underlying35 hi0
  rw [cellsU64, show List.range 2 = [0, 1] from rfl] at h
  rw [h]
  have p0 : ∀ (a b : Int) (V : World), (Go.part 33 #[.int .u64 a, .int .u64 b] (0 * 1)).run Tryz.prog V = .ok (.int .u64 a) V := fun a b V => run_part_plain V plainU64 rfl
  have p1 : ∀ (a b : Int) (V : World), (Go.part 33 #[.int .u64 a, .int .u64 b] (1 * 1)).run Tryz.prog V = .ok (.int .u64 b) V := fun a b V => run_part_plain V plainU64 rfl
  have q : ∀ (a b : Int) (V : World), (Op.equalIn (d + 1) 33 (.int .u64 a) (.int .u64 b)).run Tryz.prog V = .ok (a == b) V := fun a b V => run_equalIn_int V d _ _ _ a b Tryz.underlying33
  simp only [Op.eqItems, Sem.run_bind, p0, q, Result.andThen_ok]
  have p1' : ∀ (a b : Int) (V : World), (Go.part 33 #[.int .u64 a, .int .u64 b] 1).run Tryz.prog V = .ok (.int .u64 b) V := p1
  by_cases h1 : x = x' <;> by_cases h3 : y = y' <;> simp [h1, h3, p1', q]

theorem neq_itm (x1 x2 y1 y2 : Int) (s t : ByteArray) (W : World) : (binOp .neq 158 (.agg #[.int .u64 x1, .int .u64 x2, .string s]) (.agg #[.int .u64 y1, .int .u64 y2, .string t])).run Tryz.prog W = .ok (.bool (!((x1 == y1 && x2 == y2) && s.toList == t.toList))) W := by
  rw [run_neq_struct, run_equalIn_struct W 9999 158 _ _ (by kernel_rfl) (by kernel_rfl)]
  have hf : (Tryz.prog.fieldsOf 158).toList = [{ name := "Digest", type := 35, offset := 0, embedded := false, tag := "", pkgPath := "", byteOffset := 0 }, { name := "Data", type := 9, offset := 2, embedded := false, tag := "", pkgPath := "", byteOffset := 16 }] := by kernel_rfl
  rw [hf]
  have p0 : ∀ (a b : Int) (r : ByteArray) (V : World), (Go.part 35 #[.int .u64 a, .int .u64 b, .string r] 0).run Tryz.prog V = .ok (.agg #[.int .u64 a, .int .u64 b]) V := fun a b r V => by kernel_rfl
  have p2 : ∀ (a b : Int) (r : ByteArray) (V : World), (Go.part 9 #[.int .u64 a, .int .u64 b, .string r] 2).run Tryz.prog V = .ok (.string r) V := fun a b r V => by kernel_rfl
  have q0 := fun V => eqD_run 9997 x1 x2 y1 y2 V
  have q1 := fun V => run_equalIn_string (P := Tryz.prog) V 9998 9 s t Tryz.underlying9
  simp only [Op.eqFields, Sem.run_bind, Sem.run_ite, p0, p2, q0, q1, Result.andThen_ok]
  cases h1 : (x1 == y1 && x2 == y2) <;> cases h2 : (s.toList == t.toList) <;> simp

end Go.Proofs.YtdedfkljaeloiaaGreatDoor

/- cordwoodref07.Great. -/
namespace Go.Proofs.YtdedfkljaeloiaaGreatDoor
open Go.RowKit Go.Shelf
set_option linter.unusedVariables false

/-- Whether an object is too large for the statements. -/
def greatS (o : Ob) : Bool := decide (200 < o.data.length) || decide (12 < o.ents.length) || decide (12 < o.pars.length) || decide (50 < o.author.length) || decide (250 < o.msg.length) || o.ents.any fun e => decide (50 < e.name.length)
theorem greatS_false {o : Ob} (h : greatS o = false) : o.data.length ≤ 200 ∧ o.ents.length ≤ 12 ∧ o.pars.length ≤ 12 ∧ o.author.length ≤ 50 ∧ o.msg.length ≤ 250 ∧ ∀ e ∈ o.ents, e.name.length ≤ 50 := by
  simp only [greatS, Bool.or_eq_false_iff, decide_eq_false_iff_not, List.any_eq_false] at h
  obtain ⟨⟨⟨⟨⟨h1, h2⟩, h3⟩, h4⟩, h5⟩, h6⟩ := h
  exact ⟨by omega, by omega, by omega, by omega, by omega, fun e he => by have := h6 e he; simp at this; omega⟩
theorem any_take_step {α : Type} {p : α → Bool} {l : List α} {k : Nat} (h : k < l.length) (h1 : (l.take k).any p = false) (h2 : p l[k] = false) : (l.take (k + 1)).any p = false := by
  rw [List.take_succ_eq_append_getElem h, List.any_append, h1]
  simp [h2]

end Go.Proofs.YtdedfkljaeloiaaGreatDoor

/- pool.Keep. -/
namespace Go.Proofs.YtdedfkljaeloiaaGreatDoor
open Go.RowKit Go.Shelf
set_option linter.unusedVariables false

/-- One item behind a row. -/
theorem append_oneI {W : World} {base : Nat} {v : Value} {xs : List Itm} (hown : W.ownsRow base 158 3 v xs.length (icells xs)) (x1 x2 : Int) (dt : List UInt8) (hlen : (xs.length : Int) ≤ 100000000) (hbase : base ≤ W.heap.size) :
    ∃ v' W', (Builtin.append_ #[32, 32] 32 #[v, .slice (some ⟨W.heap.size, 0, none⟩) 1 1]).run Tryz.prog (W.alloc (.cells #[.int .u64 x1, .int .u64 x2, .string ⟨dt.toArray⟩] 158)) = .ok v' W' ∧ W'.ownsRow base 158 3 v' (xs ++ [(⟨(x1, x2), dt⟩ : Itm)]).length (icells (xs ++ [(⟨(x1, x2), dt⟩ : Itm)])) ∧ (W.alloc (.cells #[.int .u64 x1, .int .u64 x2, .string ⟨dt.toArray⟩] 158)).grownBy W' v.ownBlock ∧ (v'.ownBlock = v.ownBlock ∨ v'.ownBlock = some (W.heap.size + 1)) := by
  have h := append_its (W.alloc (.cells #[.int .u64 x1, .int .u64 x2, .string ⟨dt.toArray⟩] 158)) base 32 v xs (hown.alloc _) (some ⟨W.heap.size, 0, none⟩) [⟨(x1, x2), dt⟩] 1 (fun i hi => by
    obtain rfl : i = 0 := by simp at hi; omega
    have hk := BK.new W #[.int .u64 x1, .int .u64 x2, .string ⟨dt.toArray⟩] 158
    exact ⟨_, 0, rfl, hk.lt, by rw [Nat.zero_mul, hk.cell]; rfl, by rw [Nat.zero_mul, hk.cell]; rfl, by rw [Nat.zero_mul, hk.cell]; rfl⟩) (by simp; omega) (by simp; omega)
  simpa using h
/-- The items with some digests. -/
def keepS (xs : List Itm) (l : List (Int × Int)) : List Itm := xs.filter fun x => decide (x.d ∈ l)
theorem mem_take_or (l : List (Int × Int)) (k : Nat) (h : k < l.length) (d : Int × Int) : (decide (d ∈ l.take k) || decide (d = l[k])) = decide (d ∈ l.take (k + 1)) := by
  rw [List.take_succ_eq_append_getElem h, ← Bool.decide_or]
  congr 1
  rw [List.mem_append, List.mem_singleton]

end Go.Proofs.YtdedfkljaeloiaaGreatDoor

/- The reference's Of, Compare, and Great of pools. -/
namespace Go.Proofs.YtdedfkljaeloiaaGreatDoor
open Go.RowKit
set_option linter.unusedVariables false

/-- Whether a pool is larger than the statements examine. -/
def pgreatS (xs : List Itm) : Bool := decide (40 < xs.length) || xs.any fun x => decide (500 < x.data.length)
theorem pgreatS_false {xs : List Itm} (h : pgreatS xs = false) : xs.length ≤ 40 ∧ ∀ x ∈ xs, x.data.length ≤ 500 := by
  simp only [pgreatS, Bool.or_eq_false_iff, decide_eq_false_iff_not, List.any_eq_false] at h
  exact ⟨by omega, fun x hx => by have := h.2 x hx; simp at this; omega⟩
theorem cmpD_lt {x y x' y' : Int} (h : x < x') : cmpD (x, y) (x', y') = -1 := by
  have := cmpD_range (x, y) (x', y')
  simp only at this
  omega
theorem cmpD_gt {x y x' y' : Int} (h : x' < x) : cmpD (x, y) (x', y') = 1 := by
  have := cmpD_range (x, y) (x', y')
  simp only at this
  omega
end Go.Proofs.YtdedfkljaeloiaaGreatDoor
