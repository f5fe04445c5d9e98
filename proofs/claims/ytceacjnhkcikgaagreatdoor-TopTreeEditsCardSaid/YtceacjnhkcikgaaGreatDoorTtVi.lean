/- Trees of files on paper: what storing leaves, and what a visit finds. -/
import Derived.Test.YtceacjnhkcikgaaGreatDoorTtSt
import Derived.Test.YtceacjnhkcikgaaGreatDoorK9
import Derived.Test.YtceacjnhkcikgaaGreatDoorK5
namespace Go.Proofs.YtceacjnhkcikgaaGreatDoor
open Go.RowKit
set_option linter.unusedVariables false

def digO (o : Ob) : Int × Int := digS (encodeS o).1
def itO (o : Ob) : Itm := ⟨digO o, (encodeS o).1⟩
/-- The entry of a name, and the items of it. -/
def entE (f : List Fl → List Itm × (Int × Int)) (l : List Fl) (nm : Pa) : Ent := match findF l nm with
  | some D => ⟨nm, false, digO (blobO D)⟩
  | none => ⟨nm, true, (f (insideS l nm)).2⟩
def itmE (f : List Fl → List Itm × (Int × Int)) (l : List Fl) (nm : Pa) : List Itm := match findF l nm with
  | some D => [itO (blobO D)]
  | none => (f (insideS l nm)).1
def pureF : Nat → List Fl → List Itm × (Int × Int)
  | 0, _ => ([], (0, 0))
  | n + 1, l => ((namesS l).flatMap (itmE (pureF n) l) ++ [itO (treeO ((namesS l).map (entE (pureF n) l)))], digO (treeO ((namesS l).map (entE (pureF n) l))))
theorem put_ok {p q : List Itm} {o : Ob} {d : Int × Int} (ha : Asc p) (h : putS p o = (q, d, 0)) : Asc q ∧ d = digO o ∧ (∀ y, y ∈ q ↔ y ∈ p ∨ y = itO o) ∧ (encodeS o).2 = 0 := by
  unfold putS at h
  by_cases he : (encodeS o).2 = 0
  · rw [if_neg (by simpa using he)] at h
    by_cases hi : (insS p ⟨digS (encodeS o).1, (encodeS o).1⟩).2 = 0
    · rw [if_neg (by simpa using hi)] at h
      obtain ⟨g1, g2, _⟩ := ins_law ha (show insS p ⟨digS (encodeS o).1, (encodeS o).1⟩ = ((insS p ⟨digS (encodeS o).1, (encodeS o).1⟩).1, 0) from Prod.ext rfl hi)
      cases h
      exact ⟨g1, rfl, g2, he⟩
    · rw [if_pos hi] at h
      exact absurd (congrArg (fun z => z.2.2) h) hi
  · rw [if_pos he] at h
    exact absurd (congrArg (fun z => z.2.2) h) he
/-- Storing leaves the items of the files, whatever the pool. -/
theorem store_pure : ∀ (n : Nat) {l : List Fl} {p q : List Itm} {d : Int × Int}, Asc p → storeF n p l = (q, d, 0) → Asc q ∧ d = (pureF n l).2 ∧ ∀ y, y ∈ q ↔ y ∈ p ∨ y ∈ (pureF n l).1
  | 0, l, p, q, d, _, h => by
    rw [storeF] at h
    exact absurd (congrArg (fun z => z.2.2) h) (show (99 : Int) ≠ 0 by decide)
  | n + 1, l, p, q, d, ha, h => by
    rw [storeF] at h
    have key : ∀ (names : List Pa) (es : List Ent) {p q : List Itm} {d : Int × Int}, Asc p → storeGo (storeF n) l names p es = (q, d, 0) → Asc q ∧ d = digO (treeO (es ++ names.map (entE (pureF n) l))) ∧ ∀ y, y ∈ q ↔ y ∈ p ∨ y ∈ names.flatMap (itmE (pureF n) l) ++ [itO (treeO (es ++ names.map (entE (pureF n) l)))] := by
      intro names
      induction names with
      | nil =>
        intro es p q d ha h
        rw [storeGo] at h
        obtain ⟨g1, g2, g3, _⟩ := put_ok ha h
        exact ⟨g1, by simpa using g2, fun y => by rw [g3]; simp⟩
      | cons nm r ih =>
        intro es p q d ha h
        rw [storeGo] at h
        rw [List.map_cons, List.flatMap_cons]
        cases hf : findF l nm with
        | some D =>
          rw [hf] at h
          simp only at h
          have hE : entE (pureF n) l nm = ⟨nm, false, digO (blobO D)⟩ := by unfold entE; rw [hf]
          have hI : itmE (pureF n) l nm = [itO (blobO D)] := by unfold itmE; rw [hf]
          by_cases h1 : (putS p (blobO D)).2.2 = 0
          · rw [if_neg (by simpa using h1)] at h
            obtain ⟨g1, g2, g3, _⟩ := put_ok ha (show putS p (blobO D) = ((putS p (blobO D)).1, (putS p (blobO D)).2.1, 0) from Prod.ext rfl (Prod.ext rfl h1))
            rw [g2] at h
            obtain ⟨k1, k2, k3⟩ := ih _ g1 h
            rw [hE, hI]
            refine ⟨k1, by rw [k2, List.append_assoc]; rfl, fun y => ?_⟩
            rw [k3, g3, List.append_assoc, List.append_assoc]
            simp only [List.mem_append, List.mem_cons, List.not_mem_nil, or_false, List.cons_append, List.nil_append, or_assoc]
          · rw [if_pos h1] at h
            exact absurd (congrArg (fun z => z.2.2) h) h1
        | none =>
          rw [hf] at h
          simp only at h
          have hE : entE (pureF n) l nm = ⟨nm, true, (pureF n (insideS l nm)).2⟩ := by unfold entE; rw [hf]
          have hI : itmE (pureF n) l nm = (pureF n (insideS l nm)).1 := by unfold itmE; rw [hf]
          by_cases h1 : (storeF n p (insideS l nm)).2.2 = 0
          · rw [if_neg (by simpa using h1)] at h
            obtain ⟨g1, g2, g3⟩ := store_pure n ha (show storeF n p (insideS l nm) = ((storeF n p (insideS l nm)).1, (storeF n p (insideS l nm)).2.1, 0) from Prod.ext rfl (Prod.ext rfl h1))
            rw [g2] at h
            obtain ⟨k1, k2, k3⟩ := ih _ g1 h
            rw [hE, hI]
            refine ⟨k1, by rw [k2, List.append_assoc]; rfl, fun y => ?_⟩
            rw [k3, g3, List.append_assoc, List.append_assoc]
            simp only [List.mem_append, List.mem_cons, List.not_mem_nil, or_false, List.cons_append, List.nil_append, or_assoc]
          · rw [if_pos h1] at h
            exact absurd (congrArg (fun z => z.2.2) h) h1
    obtain ⟨g1, g2, g3⟩ := key (namesS l) [] ha h
    rw [pureF]
    exact ⟨g1, g2, g3⟩
/-- An object that a pool has. -/
theorem get_item' {xs : List Itm} (ha : Asc xs) {o : Ob} (hx : itO o ∈ xs) (he : (encodeS o).2 = 0) (ho : OkO o) : getS xs (digO o) = (o, 0) := by
  obtain ⟨k, hk, hkx⟩ := List.getElem_of_mem hx
  have hd : xs[k].d = digO o := by rw [hkx]; rfl
  have hh : hitB xs xs[k].d k = true := by unfold hitB; rw [List.getElem?_eq_getElem hk]; simp
  obtain ⟨_, _, h⟩ := getS_hit (at_uniq ha hk rfl) hh
  rw [hd] at h
  rw [h, hkx]
  exact decode_put (s := (encodeS o).1) (Prod.ext rfl he) ho
/-- What a visit finds. -/
def VisL (f : (Int × Int) → Pa → List Fl → Prop) (Q : List Itm) : List Ent → Pa → List Fl → Prop
  | [], _, V => V = []
  | e :: es, pre, V => ∃ V1 V2, V = V1 ++ V2 ∧ (pre ++ e.name).length ≤ 100 ∧ (if e.dir = true then f e.d (pre ++ e.name ++ [47]) V1 else ∃ D, getS Q e.d = (blobO D, 0) ∧ V1 = [⟨pre ++ e.name, D⟩]) ∧ VisL f Q es pre V2
def Vis (Q : List Itm) : Nat → (Int × Int) → Pa → List Fl → Prop
  | 0, _, _, _ => False
  | n + 1, d, pre, V => ∃ es, getS Q d = (treeO es, 0) ∧ (es = [] → pre = []) ∧ VisL (Vis Q n) Q es pre V
end Go.Proofs.YtceacjnhkcikgaaGreatDoor
