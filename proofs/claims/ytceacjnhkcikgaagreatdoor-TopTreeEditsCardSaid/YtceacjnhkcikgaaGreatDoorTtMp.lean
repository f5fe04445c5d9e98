/- A map from texts to values of whatever kind, as a function. -/
import Derived.Test.YtceacjnhkcikgaaGreatDoorTtIp
import Derived.Maps.OwnSet
import Derived.Sort.KeysCollected
namespace Go.Proofs.YtceacjnhkcikgaaGreatDoor
open Go.RowKit Go.Shelf
set_option linter.unusedVariables false
set_option maxRecDepth 100000

theorem lawS : Maps.Keyed Tryz.prog 9 := Maps.string_keyed Tryz.underlying9
theorem keyS_some {s : List UInt8} (h : s.length ≤ 1000000) : keyOf Tryz.prog 9 (.string ⟨s.toArray⟩) = some (.string s) := by
  have hl := ba_len s
  simp [keyOf, Tryz.underlying9, mapKey]
  unfold maxLen; omega
/-- An element reads as itself. -/
def selfT (v : Value) : Option (DataW Value × List MemPlace) := some (.held v, [])
def optT : Option Value → DataW Value → DataW Value
  | some v, _ => .held v
  | none, z => z
/-- Block b is a map from texts that holds F. -/
def MapS (b n : Nat) (F : List UInt8 → Option Value) (W : World) : Prop :=
  ∃ D : DataW Value, W.ownsMap Tryz.prog 9 selfT b n D ∧ ∀ s z, D.atKey (.string s) z = optT (F s) z
section
variable {b n : Nat} {F : List UInt8 → Option Value} {W : World}
theorem MapS.made (W : World) : MapS W.heap.size 0 (fun _ => none) (W.alloc (.map #[] 0)) := ⟨.map [], World.ownsMap_made _ _ _ _, fun d z => WideAt.atKey_none _ (fun p hp => by simp at hp)⟩
theorem MapS.lt (h : MapS b n F W) : b < W.heap.size := by obtain ⟨D, h1, _⟩ := h; exact h1.lt
theorem MapS.kept {W' : World} {row : Option Nat} (h : MapS b n F W) (hg : W.grownBy W' row) (hne : some b ≠ row) : MapS b n F W' := by obtain ⟨D, h1, h2⟩ := h; exact ⟨D, h1.kept hg hne, h2⟩
theorem MapS.alloc (h : MapS b n F W) (o : Obj) : MapS b n F (W.alloc o) := by obtain ⟨D, h1, h2⟩ := h; exact ⟨D, h1.alloc o, h2⟩
theorem MapS.below {W' : World} (h : MapS b n F W) (hb : Below W.heap.size W W') : MapS b n F W' := h.kept (row := none) ⟨hb.os, hb.tape, hb.output, hb.size, fun k hk _ => hb.block k hk⟩ (by simp)
theorem MapS.setCell (h : MapS b n F W) {a : Addr} (ha : b ≠ a.block) (u : Value) : MapS b n F (W.setCell a u) := by obtain ⟨D, h1, h2⟩ := h; exact ⟨D, h1.setCell ha u, h2⟩
theorem MapS.eq {F' : List UInt8 → Option Value} (h : MapS b n F W) (e : ∀ d, F d = F' d) : MapS b n F' W := by
  have : F = F' := funext e
  rw [← this]; exact h
theorem MapS.mono {n' : Nat} (h : MapS b n F W) (hn : n ≤ n') : MapS b n' F W := by obtain ⟨D, h1, h2⟩ := h; exact ⟨D, h1.mono hn, h2⟩
theorem has_optT {D : DataW Value} {k : Lit} {o : Option Value} (h : ∀ z, D.atKey k z = optT o z) : Maps.has D k = o.isSome := by
  cases o with
  | none => exact Maps.has_false_of_atKey h
  | some v => exact Maps.has_true_of_atKey h
theorem selfT_inv {v : Value} {y : DataW Value × List MemPlace} (h : selfT v = some y) : y = (.held v, []) := by unfold selfT at h; injection h with h; exact h.symm
theorem optT_held {o : Option Value} {z v : Value} {ps : List MemPlace} (h : selfT v = some (optT o (.held z), ps)) : v = o.getD z := by
  have := selfT_inv h
  cases o <;> simp [optT] at this ⊢ <;> exact this.1.symm
/-- 'm[k]'. -/
theorem MapS.look {t e : TypeId} {z : Value} (h : MapS b n F W) (ht : Tryz.prog.underlying t = some (.map 9 e)) (hz : (zeroValue e).run Tryz.prog W = .ok z W) {s : List UInt8} (hd : s.length ≤ 1000000) : (Instr.lookup t (.map (some b)) (.string ⟨s.toArray⟩) false).run Tryz.prog W = .ok ((F s).getD z) W := by
  obtain ⟨D, h1, h2⟩ := h
  obtain ⟨v, ps, hrun, hv⟩ := h1.lookup lawS ht hz (zd := .held z) (zp := []) rfl (keyS_some hd)
  rw [h2 _] at hv
  rw [hrun, optT_held hv]
/-- 'm[k]' with 'ok'. -/
theorem MapS.lookOk {t e : TypeId} {z : Value} (h : MapS b n F W) (ht : Tryz.prog.underlying t = some (.map 9 e)) (hz : (zeroValue e).run Tryz.prog W = .ok z W) {s : List UInt8} (hd : s.length ≤ 1000000) : (Instr.lookup t (.map (some b)) (.string ⟨s.toArray⟩) true).run Tryz.prog W = .ok (.tuple #[(F s).getD z, .bool (F s).isSome]) W := by
  obtain ⟨D, h1, h2⟩ := h
  obtain ⟨v, ps, hrun, hv⟩ := h1.look_ok lawS ht hz (zd := .held z) (zp := []) rfl (keyS_some hd)
  rw [h2 _] at hv
  rw [hrun, optT_held hv, has_optT (h2 _)]
/-- 'm[k] = v'. -/
theorem MapS.put {t e : TypeId} (h : MapS b n F W) (ht : Tryz.prog.underlying t = some (.map 9 e)) {s : List UInt8} (hd : s.length ≤ 1000000) (hn : (n : Int) ≤ 1000000000) (v : Value) :
    ∃ W', (Instr.mapUpdate t (.map (some b)) (.string ⟨s.toArray⟩) v).run Tryz.prog W = .ok () W' ∧ MapS b (n + 1) (fun d => if d = s then some v else F d) W' ∧ W.grownBy W' (some b) ∧ W'.heap.size = W.heap.size := by
  obtain ⟨D, h1, h2⟩ := h
  obtain ⟨W', hrun, ho, ht'⟩ := h1.store lawS ht (by unfold maxLen; omega) (keyS_some hd) (d := .held v) (ps := []) rfl
  refine ⟨W', hrun, ⟨_, ho, fun d z => ?_⟩, ht'.grown, ?_⟩
  · by_cases e : d = s
    · subst e
      rw [Maps.atKey_put_same h1.isMap (lawS.key (keyS_some hd))]
      simp [optT]
    · rw [Maps.atKey_put_other (fun h => e (by injection h)), h2 _]
      simp only [if_neg e]
  · obtain ⟨es, clock, es', clock', hb, rfl⟩ := ht'
    simp [ChangeMaps.setBlock]
end
theorem strKeys_nodup {b n : Nat} {W : World} {D : DataW Value} (h : W.ownsMap Tryz.prog 9 selfT b n D) : (strKeys D).Nodup := by
  obtain ⟨es, hD, hpw, _⟩ := h.entries lawS
  obtain ⟨es', hD', hko⟩ := h.keysOf
  obtain rfl : es = es' := by rw [hD] at hD'; simpa using hD'
  subst hD
  show (es.map fun p => strOf p.1).Nodup
  refine List.pairwise_map.2 (hpw.imp_of_mem fun {p q} hp' hq' hne e => hne ?_)
  obtain ⟨v, hv⟩ := hko p hp'
  obtain ⟨u, hu⟩ := hko q hq'
  obtain ⟨a, _, ha, _⟩ := Maps.keyOf_str Tryz.underlying9 hv
  obtain ⟨b, _, hb, _⟩ := Maps.keyOf_str Tryz.underlying9 hu
  rw [ha, hb] at e ⊢
  exact congrArg _ e
end Go.Proofs.YtceacjnhkcikgaaGreatDoor
