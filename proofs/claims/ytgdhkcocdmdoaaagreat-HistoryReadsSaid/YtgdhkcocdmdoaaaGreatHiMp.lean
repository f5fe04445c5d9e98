/- A map from digests to values of whatever kind, as a function; ranges over it. -/
import Derived.Test.YtgdhkcocdmdoaaaGreatK5
import Derived.Maps.Range
namespace Go.Proofs.YtgdhkcocdmdoaaaGreat
open Go.RowKit Go.Shelf
set_option linter.unusedVariables false
set_option maxRecDepth 100000

theorem keyLits_u64 {m : Nat} {v : Value} {ls : List Lit} (h : Tryz.prog.keyLits (m + 1) 30 [v] = some ls) : ∃ x, u64B x ∧ v = .int .u64 x := by
  unfold Program.keyLits at h
  rw [Tryz.underlying30] at h
  cases v <;> simp at h
  obtain ⟨⟨rfl, hw⟩, _⟩ := h
  refine ⟨_, ?_, rfl⟩
  simp [Lit.wf, IntKind.min, IntKind.max, IntKind.signed, IntKind.bits] at hw
  unfold u64B
  omega
/-- What reads as a key is a digest. -/
theorem keyD_inv {key : Value} {kl : Lit} (h : keyOf Tryz.prog 32 key = some kl) : ∃ d, OkD d ∧ key = dval d ∧ kl = keyL d := by
  have key' : ∃ d, OkD d ∧ key = dval d := by
    obtain ⟨m, hm⟩ := typesD
    unfold keyOf at h
    rw [Tryz.underlying32] at h
    simp only [hm] at h
    split at h
    · rename_i hc
      simp only [Bool.and_eq_true] at hc
      obtain ⟨_, hf⟩ := hc
      cases key <;> simp [Value.formed, Tryz.underlying32, cellsD] at hf
      rename_i cs
      obtain ⟨l⟩ := cs
      match l, hf with
      | [a, b], _ =>
        unfold Program.keyLits at h
        simp only [Tryz.underlying32, cellsD, cellsU64, Value.cells, List.range_succ, List.range_zero, List.nil_append, List.cons_append, List.mapM_cons, List.mapM_nil] at h
        cases hA : Tryz.prog.keyLits (m + 1) 30 [a] with
        | none => simp [hA] at h
        | some la =>
          cases hB : Tryz.prog.keyLits (m + 1) 30 [b] with
          | none => simp [hA, hB] at h
          | some lb =>
            obtain ⟨x, hx, rfl⟩ := keyLits_u64 hA
            obtain ⟨y, hy, rfl⟩ := keyLits_u64 hB
            exact ⟨(x, y), ⟨hx, hy⟩, rfl⟩
    · cases h
  obtain ⟨d, h1, rfl⟩ := key'
  refine ⟨d, h1, rfl, ?_⟩
  have := keyL_some h1
  rw [h] at this
  injection this
theorem keyL_isKey {d : Int × Int} (h : OkD d) : WideAt.IsKeyLit (keyL d) := lawD.key (keyL_some h)
/-- An element reads as itself. -/
def selfE (v : Value) : Option (DataW Value × List MemPlace) := some (.held v, [])
def optV : Option Value → DataW Value → DataW Value
  | some v, _ => .held v
  | none, z => z
/-- Block b is a map from digests that holds F. -/
def MapV (b n : Nat) (F : Int × Int → Option Value) (W : World) : Prop :=
  ∃ D : DataW Value, W.ownsMap Tryz.prog 32 selfE b n D ∧ ∀ d, OkD d → ∀ z, D.atKey (keyL d) z = optV (F d) z
section
variable {b n : Nat} {F : Int × Int → Option Value} {W : World}
theorem MapV.made (W : World) : MapV W.heap.size 0 (fun _ => none) (W.alloc (.map #[] 0)) := ⟨.map [], World.ownsMap_made _ _ _ _, fun d _ z => WideAt.atKey_none _ (fun p hp => by simp at hp)⟩
theorem MapV.lt (h : MapV b n F W) : b < W.heap.size := by obtain ⟨D, h1, _⟩ := h; exact h1.lt
theorem MapV.kept {W' : World} {row : Option Nat} (h : MapV b n F W) (hg : W.grownBy W' row) (hne : some b ≠ row) : MapV b n F W' := by obtain ⟨D, h1, h2⟩ := h; exact ⟨D, h1.kept hg hne, h2⟩
theorem MapV.alloc (h : MapV b n F W) (o : Obj) : MapV b n F (W.alloc o) := by obtain ⟨D, h1, h2⟩ := h; exact ⟨D, h1.alloc o, h2⟩
theorem MapV.below {W' : World} (h : MapV b n F W) (hb : Below W.heap.size W W') : MapV b n F W' := h.kept (row := none) ⟨hb.os, hb.tape, hb.output, hb.size, fun k hk _ => hb.block k hk⟩ (by simp)
theorem MapV.setCell (h : MapV b n F W) {a : Addr} (ha : b ≠ a.block) (u : Value) : MapV b n F (W.setCell a u) := by obtain ⟨D, h1, h2⟩ := h; exact ⟨D, h1.setCell ha u, h2⟩
theorem MapV.eq {F' : Int × Int → Option Value} (h : MapV b n F W) (e : ∀ d, F d = F' d) : MapV b n F' W := by
  have : F = F' := funext e
  rw [← this]; exact h
theorem MapV.mono {n' : Nat} (h : MapV b n F W) (hn : n ≤ n') : MapV b n' F W := by obtain ⟨D, h1, h2⟩ := h; exact ⟨D, h1.mono hn, h2⟩
theorem has_optV {D : DataW Value} {k : Lit} {o : Option Value} (h : ∀ z, D.atKey k z = optV o z) : Maps.has D k = o.isSome := by
  cases o with
  | none => exact Maps.has_false_of_atKey h
  | some v => exact Maps.has_true_of_atKey h
theorem selfE_inv {v : Value} {y : DataW Value × List MemPlace} (h : selfE v = some y) : y = (.held v, []) := by unfold selfE at h; injection h with h; exact h.symm
theorem optV_held {o : Option Value} {z v : Value} {ps : List MemPlace} (h : selfE v = some (optV o (.held z), ps)) : v = o.getD z := by
  have := selfE_inv h
  cases o <;> simp [optV] at this ⊢ <;> exact this.1.symm
/-- 'm[k]'. -/
theorem MapV.look {t e : TypeId} {z : Value} (h : MapV b n F W) (ht : Tryz.prog.underlying t = some (.map 32 e)) (hz : (zeroValue e).run Tryz.prog W = .ok z W) {x y : Int} (hd : OkD (x, y)) : (Instr.lookup t (.map (some b)) (.agg #[.int .u64 x, .int .u64 y]) false).run Tryz.prog W = .ok ((F (x, y)).getD z) W := by
  obtain ⟨D, h1, h2⟩ := h
  obtain ⟨v, ps, hrun, hv⟩ := h1.lookup lawD ht hz (zd := .held z) (zp := []) rfl (keyL_some hd)
  rw [h2 _ hd] at hv
  rw [hrun, optV_held hv]
/-- 'm[k]' with 'ok'. -/
theorem MapV.lookOk {t e : TypeId} {z : Value} (h : MapV b n F W) (ht : Tryz.prog.underlying t = some (.map 32 e)) (hz : (zeroValue e).run Tryz.prog W = .ok z W) {x y : Int} (hd : OkD (x, y)) : (Instr.lookup t (.map (some b)) (.agg #[.int .u64 x, .int .u64 y]) true).run Tryz.prog W = .ok (.tuple #[(F (x, y)).getD z, .bool (F (x, y)).isSome]) W := by
  obtain ⟨D, h1, h2⟩ := h
  obtain ⟨v, ps, hrun, hv⟩ := h1.look_ok lawD ht hz (zd := .held z) (zp := []) rfl (keyL_some hd)
  rw [h2 _ hd] at hv
  rw [hrun, optV_held hv, has_optV (h2 _ hd)]
/-- 'm[k] = v'. -/
theorem MapV.put {t e : TypeId} (h : MapV b n F W) (ht : Tryz.prog.underlying t = some (.map 32 e)) {x y : Int} (hd : OkD (x, y)) (hn : (n : Int) ≤ 1000000000) (v : Value) :
    ∃ W', (Instr.mapUpdate t (.map (some b)) (.agg #[.int .u64 x, .int .u64 y]) v).run Tryz.prog W = .ok () W' ∧ MapV b (n + 1) (fun d => if d = (x, y) then some v else F d) W' ∧ W.grownBy W' (some b) ∧ W'.heap.size = W.heap.size := by
  obtain ⟨D, h1, h2⟩ := h
  obtain ⟨W', hrun, ho, ht'⟩ := h1.store lawD ht (by unfold maxLen; omega) (keyL_some hd) (d := .held v) (ps := []) rfl
  refine ⟨W', hrun, ⟨_, ho, fun d hd' z => ?_⟩, ht'.grown, ?_⟩
  · by_cases e : d = (x, y)
    · subst e
      rw [Maps.atKey_put_same h1.isMap (keyL_isKey hd)]
      simp [optV]
    · rw [Maps.atKey_put_other (fun h => e (keyL_inj hd' hd h)), h2 _ hd']
      simp only [if_neg e]
  · obtain ⟨es, clock, es', clock', hb, rfl⟩ := ht'
    simp [ChangeMaps.setBlock]
/-- A range over such a map: block r is the iterator; left says which are still to come, cnt how many. -/
def RangeV (b r n : Nat) (F : Int × Int → Option Value) (left : Int × Int → Bool) (cnt : Nat) (W : World) : Prop :=
  ∃ (D : DataW Value) (lf : Lit → Bool), W.ranges Tryz.prog 32 selfE b r n D lf cnt ∧ (∀ d, OkD d → ∀ z, D.atKey (keyL d) z = optV (F d) z) ∧ ∀ d, OkD d → lf (keyL d) = left d
variable {r cnt : Nat} {left : Int × Int → Bool}
theorem RangeV.owns (h : RangeV b r n F left cnt W) : MapV b n F W := by obtain ⟨D, lf, h1, h2, _⟩ := h; exact ⟨D, h1.owns, h2⟩
theorem RangeV.lt (h : RangeV b r n F left cnt W) : r < W.heap.size := by obtain ⟨D, lf, h1, _⟩ := h; exact h1.lt
theorem RangeV.ne (h : RangeV b r n F left cnt W) : r ≠ b := by obtain ⟨D, lf, h1, _⟩ := h; exact h1.ne
theorem RangeV.kept {W' : World} {row : Option Nat} (h : RangeV b r n F left cnt W) (hg : W.grownBy W' row) (hb : some b ≠ row) (hr : some r ≠ row) : RangeV b r n F left cnt W' := by obtain ⟨D, lf, h1, h2⟩ := h; exact ⟨D, lf, h1.kept hg hb hr, h2⟩
theorem RangeV.alloc (h : RangeV b r n F left cnt W) (o : Obj) : RangeV b r n F left cnt (W.alloc o) := by obtain ⟨D, lf, h1, h2⟩ := h; exact ⟨D, lf, h1.alloc o, h2⟩
theorem RangeV.below {W' : World} (h : RangeV b r n F left cnt W) (hb : Below W.heap.size W W') : RangeV b r n F left cnt W' := h.kept (row := none) ⟨hb.os, hb.tape, hb.output, hb.size, fun k hk _ => hb.block k hk⟩ (by simp) (by simp)
theorem RangeV.left_eq (h : RangeV b r n F left cnt W) : W.rangeLeft b r = cnt := by obtain ⟨D, lf, h1, _⟩ := h; exact h1.left_eq
theorem RangeV.eq {left' : Int × Int → Bool} (h : RangeV b r n F left cnt W) (e : ∀ d, OkD d → left d = left' d) : RangeV b r n F left' cnt W := by obtain ⟨D, lf, h1, h2, h3⟩ := h; exact ⟨D, lf, h1, h2, fun d hd => by rw [h3 d hd, e d hd]⟩
/-- 'range m'. -/
theorem MapV.range {t e : TypeId} (h : MapV b n F W) (ht : Tryz.prog.underlying t = some (.map 32 e)) :
    ∃ W', (Instr.range t (.map (some b))).run Tryz.prog W = .ok (.pointer (some ⟨W.heap.size, 0, none⟩)) W' ∧ (∃ cnt, cnt ≤ n ∧ RangeV b W.heap.size n F (fun d => (F d).isSome) cnt W') ∧ W.grownBy W' none ∧ W'.heap.size = W.heap.size + 1 := by
  obtain ⟨D, h1, h2⟩ := h
  obtain ⟨W', hrun, h3, h4, h5⟩ := h1.range lawD ht
  exact ⟨W', hrun, ⟨_, h1.size_le, ⟨D, _, h3, h2, fun d hd => has_optV (h2 d hd)⟩⟩, h4, h5⟩
/-- The next one. -/
theorem RangeV.next (h : RangeV b r n F left cnt W) (ty : TypeId) :
    ((∀ d, OkD d → left d = false) ∧ (Instr.next (.pointer (some ⟨r, 0, none⟩)) false ty).run Tryz.prog W = .ok (.tuple #[.bool false]) W) ∨
    ∃ (x y : Int) (v : Value) (W' : World) (cnt' : Nat), OkD (x, y) ∧ left (x, y) = true ∧ F (x, y) = some v ∧ (Instr.next (.pointer (some ⟨r, 0, none⟩)) false ty).run Tryz.prog W = .ok (.tuple #[.bool true, .agg #[.int .u64 x, .int .u64 y], v]) W' ∧
      RangeV b r n F (fun d => left d && !decide (d = (x, y))) cnt' W' ∧ cnt' < cnt ∧ W.grownBy W' (some r) ∧ W'.heap.size = W.heap.size ∧ (Instr.entry (.pointer (some ⟨r, 0, none⟩))).run Tryz.prog W' = .ok (.tuple #[.agg #[.int .u64 x, .int .u64 y], v]) W' := by
  obtain ⟨D, lf, h1, h2, h3⟩ := h
  rcases h1.next lawD ty with ⟨h0, hl, hrun⟩ | ⟨key, v, kl, y, W', cnt', hkey, hlk, hv, hat, hrun, hrg, hlt, hgr, hsz, hen⟩
  · exact .inl ⟨fun d hd => by rw [← h3 d hd]; exact hl _, hrun⟩
  · obtain ⟨⟨p, q⟩, hok, rfl, rfl⟩ := keyD_inv hkey
    refine .inr ⟨p, q, v, W', cnt', hok, by rw [← h3 _ hok]; exact hlk, ?_, hrun, ⟨D, _, hrg, h2, fun d hd => ?_⟩, hlt, hgr, hsz, hen⟩
    · have e1 := selfE_inv hv
      have e2 := hat .nil
      rw [h2 _ hok, e1] at e2
      cases hF : F (p, q) with
      | none => rw [hF] at e2; simp [optV] at e2
      | some u => rw [hF] at e2; simp only [optV, DataW.held.injEq] at e2; rw [e2]
    · simp only
      rw [h3 d hd]
      congr 2
      by_cases e : d = (p, q)
      · subst e; rw [WideAt.sameKey_self (keyL_isKey hok)]; simp
      · rw [Maps.sameKey_ne (fun h => e (keyL_inj hd hok h))]; simp [e]
end
end Go.Proofs.YtgdhkcocdmdoaaaGreat
