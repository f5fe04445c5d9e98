/- A map from digests to bools, as a set. -/
import Derived.Test.YtlfodnehgedpmaaPoCk
import Derived.DeepKeys4
import Derived.Maps.OwnSet
import Derived.Maps.Views
namespace Go.Proofs.Ytlfodnehgedpmaa
open Go.RowKit Go.Shelf
set_option linter.unusedVariables false
set_option maxRecDepth 100000

theorem laidOutD : laidOutB Try.prog = true := by kernel_rfl
theorem rowD : (30 : TypeId) < Try.prog.types.size := of_decide_eq_true (by kernel_rfl)
theorem wideD : (match Try.prog.underlying 30 with | some (.array _ _) | some (.struct _) => true | _ => false) = true := by rw [Try.underlying30]
theorem lawD : Maps.Keyed Try.prog 30 := Maps.Keyed.of_law (deep_law_laid laidOutD (m := 2) (by omega) rowD (by kernel_rfl) wideD)
theorem keyTD : Try.prog.keyType 30 = true := by kernel_rfl
theorem cellsD : Try.prog.cellsOf 30 = 2 := by kernel_rfl
theorem typesD : ∃ m, Try.prog.types.size + 1 = m + 2 := ⟨Try.prog.types.size - 1, by have := of_decide_eq_true (p := 1 ≤ Try.prog.types.size) (by kernel_rfl); omega⟩
abbrev dval (d : Int × Int) : Value := .agg #[.int .u64 d.1, .int .u64 d.2]
noncomputable def keyL (d : Int × Int) : Lit := (keyOf Try.prog 30 (dval d)).getD .nil
theorem wf_u64 {x : Int} (h : u64B x) : (Lit.int .u64 x).wf = true := by
  unfold u64B at h
  simp [Lit.wf, IntKind.min, IntKind.max, IntKind.signed, IntKind.bits]
  omega
theorem keyL_some {d : Int × Int} (h : OkD d) : keyOf Try.prog 30 (dval d) = some (keyL d) := by
  have : ∃ l, keyOf Try.prog 30 (dval d) = some l := by
    obtain ⟨m, hm⟩ := typesD
    unfold keyOf
    rw [Try.underlying30]
    simp only [keyTD, Value.formed, Try.underlying30, cellsD, hm]
    simp [Program.keyLits, Try.underlying30, Try.underlying28, cellsD, cellsU64, wf_u64 h.1, wf_u64 h.2, Value.cells, List.range_succ]
  obtain ⟨l, hl⟩ := this
  unfold keyL
  rw [hl]; rfl
theorem keyL_inj {d d' : Int × Int} (h : OkD d) (h' : OkD d') (e : keyL d = keyL d') : d = d' := by
  have h1 := keyL_some h
  have h2 := keyL_some h'
  rw [← e] at h2
  have := lawD.inj h1 h2
  injection this with this
  injection this with this
  simp at this
  exact Prod.ext this.1 this.2
/-- Block b is a map that holds true at the digests of a set. -/
def MapD (b n : Nat) (M : Int × Int → Bool) (W : World) : Prop :=
  ∃ D : DataW Unit, W.ownsMap Try.prog 30 (plainElem Try.prog 4) b n D ∧ ∀ d, OkD d → D.atKey (keyL d) (.lit (.bool false)) = .lit (.bool (M d))
theorem MapD.made (W : World) : MapD W.heap.size 0 (fun _ => false) (W.alloc (.map #[] 0)) := ⟨.map [], World.ownsMap_made _ _ _ _, fun d _ => WideAt.atKey_none _ (fun p hp => by simp at hp)⟩
theorem MapD.lt {b n : Nat} {M : Int × Int → Bool} {W : World} (h : MapD b n M W) : b < W.heap.size := by obtain ⟨D, h1, _⟩ := h; exact h1.lt
theorem MapD.kept {b n : Nat} {M : Int × Int → Bool} {W W' : World} {row : Option Nat} (h : MapD b n M W) (hg : W.grownBy W' row) (hne : some b ≠ row) : MapD b n M W' := by obtain ⟨D, h1, h2⟩ := h; exact ⟨D, h1.kept hg hne, h2⟩
theorem MapD.alloc {b n : Nat} {M : Int × Int → Bool} {W : World} (h : MapD b n M W) (o : Obj) : MapD b n M (W.alloc o) := by obtain ⟨D, h1, h2⟩ := h; exact ⟨D, h1.alloc o, h2⟩
theorem MapD.below {b n : Nat} {M : Int × Int → Bool} {W W' : World} (h : MapD b n M W) (hb : Below W.heap.size W W') : MapD b n M W' := h.kept (row := none) ⟨hb.os, hb.tape, hb.output, hb.size, fun k hk _ => hb.block k hk⟩ (by simp)
theorem zeroBool (W : World) : (zeroValue 4).run Try.prog W = .ok (.bool false) W := by kernel_rfl
theorem plainElem_bool_inv {v : Value} {z : DataW Unit × List MemPlace} (h : plainElem Try.prog 4 v = some z) : ∃ a, v = .bool a ∧ z = (.lit (.bool a), []) := by
  unfold plainElem at h
  rw [Try.underlying4] at h
  cases v <;> simp at h
  exact ⟨_, rfl, h.symm⟩
theorem MapD.look {b n : Nat} {M : Int × Int → Bool} {W : World} (h : MapD b n M W) {x y : Int} (hd : OkD (x, y)) : (Instr.lookup 53 (.map (some b)) (.agg #[.int .u64 x, .int .u64 y]) false).run Try.prog W = .ok (.bool (M (x, y))) W := by
  obtain ⟨D, h1, h2⟩ := h
  obtain ⟨v, ps, hrun, hv⟩ := h1.lookup lawD Try.underlying53 (zeroBool W) (plainElem_bool (H := Unit) Try.underlying4 false) (keyL_some hd)
  obtain ⟨a, rfl, hz⟩ := plainElem_bool_inv hv
  rw [h2 _ hd] at hz
  simp only [Prod.mk.injEq] at hz
  injection hz.1 with hz
  injection hz with hz
  rw [hrun, hz]
theorem MapD.put {b n : Nat} {M : Int × Int → Bool} {W : World} (h : MapD b n M W) {x y : Int} (hd : OkD (x, y)) (hn : (n : Int) ≤ 1000000000) :
    ∃ W', (Instr.mapUpdate 53 (.map (some b)) (.agg #[.int .u64 x, .int .u64 y]) (.bool true)).run Try.prog W = .ok () W' ∧ MapD b (n + 1) (fun d => M d || decide (d = (x, y))) W' ∧ W.grownBy W' (some b) := by
  obtain ⟨D, h1, h2⟩ := h
  obtain ⟨W', hrun, ho, hg⟩ := h1.update lawD Try.underlying53 (by unfold maxLen; omega) (keyL_some hd) (plainElem_bool (H := Unit) Try.underlying4 true)
  refine ⟨W', hrun, ⟨_, ho, fun d hd' => ?_⟩, hg⟩
  by_cases e : d = (x, y)
  · subst e
    rw [Maps.atKey_put_same h1.isMap (lawD.key (keyL_some hd))]
    simp
  · rw [Maps.atKey_put_other (fun h => e (keyL_inj hd' hd h)), h2 _ hd']
    simp [e]
theorem OkD_zero : OkD (0, 0) := ⟨⟨by decide, by decide⟩, by decide, by decide⟩

end Go.Proofs.Ytlfodnehgedpmaa
