/- slices.SortFunc at digests, by the shelf's contract. -/
import Derived.Test.YtlfodnehgedpmaaPoEq
import Derived.Test.YtlfodnehgedpmaaPoSl
namespace Go.Proofs.Ytlfodnehgedpmaa
open Go.RowKit Go.Shelf Go.Sort
set_option linter.unusedVariables false

def encD (d : Int × Int) : List Value := [.int .u64 d.1, .int .u64 d.2]
/-- The digests in ascending order. -/
def sortS (ds : List (Int × Int)) : List (Int × Int) := ds.mergeSort fun x y => !(ltOf cmpD) y x
theorem sortS_perm (ds : List (Int × Int)) : (sortS ds).Perm ds := List.mergeSort_perm _ _
theorem swoD : SWO (ltOf cmpD) where
  irrefl x := by unfold ltOf; rw [cmpD_self]; rfl
  trans x y z h1 h2 := by unfold ltOf at *; simp only [decide_eq_true_eq] at *; exact cmpD_trans h1 h2
  ntrans x y z h1 h2 := by
    unfold ltOf at *
    simp only [decide_eq_false_iff_not] at *
    have g1 := cmpD_range x y
    have g2 := cmpD_range y z
    have g3 := cmpD_range x z
    omega
theorem totD : ∀ x y, ltOf cmpD x y = false → ltOf cmpD y x = false → x = y := by
  intro x y h1 h2
  unfold ltOf at *
  simp only [decide_eq_false_iff_not] at *
  have g1 := cmpD_range x y
  have g2 := cmpD_range y x
  exact Prod.ext (by omega) (by omega)
theorem cmpLaysD (blk off size : Nat) (w : World) : CmpLays Try.prog 18 #[] encD 2 cmpD blk off size w :=
  fun _ _ _ _ x y => cmpD_any x.1 x.2 y.1 y.2 _
theorem flat_dcells (ds : List (Int × Int)) : flatK encD 2 ds.toArray = (dcells ds).toArray := by
  apply Array.ext
  · simp [dcells_length]
  · intro t h1 h2
    have ht : t < ds.length * 2 := by simpa using h1
    have hg := get_flatK encD 2 ds.toArray t (by simpa using ht)
    rw [getElem!_pos _ t h1] at hg
    rw [hg]
    have hi : t / 2 < ds.length := by omega
    have e : (ds.toArray)[t / 2]! = ds[t / 2] := by rw [getElem!_pos _ _ (by simpa using hi)]; simp
    rw [e]
    obtain ⟨d0, d1⟩ := dcells_at ds (t / 2) hi
    have hx : (dcells ds)[t]? = some ((dcells ds).toArray[t]) := by
      have : t < (dcells ds).length := by simpa using h2
      rw [List.getElem?_eq_getElem this]; simp
    generalize (dcells ds).toArray[t] = z at hx ⊢
    rcases (by omega : t % 2 = 0 ∨ t % 2 = 1) with h | h
    · rw [h]
      rw [show t = t / 2 * 2 by omega, d0] at hx
      rw [← Option.some.inj hx]
      rfl
    · rw [h]
      rw [show t = t / 2 * 2 + 1 by omega, d1] at hx
      rw [← Option.some.inj hx]
      rfl
theorem sortS_length (ds : List (Int × Int)) : (sortS ds).length = ds.length := (sortS_perm ds).length_eq
theorem heap_sortedD {w : World} {g n : Nat} {os : Array Obj} {cur : Array Value} {e : TypeId} {fr : Nat × Nat} (F : Array Value) (hb : w.heap[g]? = some (.cells cur e fr)) :
    (grow (putRow id (Go.Sort.ahead w n) g 0 F) os).heap[g]? = some (.cells (putCells id 0 F cur) e fr) := by
  have hg : g < w.heap.size := (Array.getElem?_eq_some_iff.1 hb).1
  rw [heap_grow_old _ _ (by simpa using hg)]
  simp [putRow, mapBlock, Go.Sort.ahead, Array.getElem?_modify, hb, onCells]
theorem grownBy_sortedD {w : World} {g n : Nat} {os : Array Obj} (F : Array Value) : w.grownBy (grow (putRow id (Go.Sort.ahead w n) g 0 F) os) (some g) := by
  refine ⟨rfl, rfl, rfl, by simp, fun k hk hne => ?_⟩
  rw [heap_grow_old _ _ (by simpa using hk)]
  have : g ≠ k := fun e => hne (by rw [e])
  simp [putRow, mapBlock, Go.Sort.ahead, Array.getElem?_modify, this]
theorem take_putCellsD (cur : Array Value) (F : List Value) (h : F.length ≤ cur.size) : (putCells id 0 F.toArray cur).toList.take F.length = F := by
  apply List.ext_getElem?
  intro j
  by_cases hj : j < F.length
  · rw [List.getElem?_take_of_lt hj, Array.getElem?_toList]
    simp [putCells, hj, show j < cur.size by omega]
  · rw [List.getElem?_take_eq_none (by omega), List.getElem?_eq_none (by omega)]

theorem sortD_any {base : Nat} (a : Option Addr) (ds : List (Int × Int)) (c : Nat) (w : World) (ho : w.ownsRow base 30 2 (.slice a ds.length c) ds.length (dcells ds)) (hn : (ds.length : Int) ≤ 1000000000) :
    Calls Try.prog 17 #[.slice a ds.length c, .func (.func 18) #[] #[]] w fun e w' => e = .returned (.tuple #[]) ∧ w'.ownsRow base 30 2 (.slice a ds.length c) ds.length (dcells (sortS ds)) ∧ w.grownBy w' (Value.slice a ds.length c).ownBlock := by
  rcases ho.2 with ⟨h1, h2⟩ | ⟨g, cap, cur, h1, hbase, hg, hcap, hmax, hcs, htake⟩
  · have hd : ds = [] := List.eq_nil_of_length_eq_zero h2
    subst hd
    have := AnyF.slices_SortFunc_none Try.sortD a c (.func (.func 18) #[] #[]) w
    refine Calls.mono this fun e w' ⟨he, hw⟩ => ⟨he, ?_, ?_⟩
    · rw [hw, show sortS [] = [] by simp [sortS]]; exact ho
    · rw [hw]; exact ⟨rfl, rfl, rfl, Nat.le_refl _, fun _ _ _ => rfl⟩
  · cases h1
    have eg : ∀ args w, (callFunc 18 args).run Try.prog w = .ok (.enter 18 args) w := enters_of Try.func18 (by kernel_rfl) rfl
    have hH : HoldsK encD 2 w g 0 ds.toArray := by
      unfold HoldsK
      rw [flat_dcells]
      intro j hj
      have hj' : j < (dcells ds).length := by simpa using hj
      refine ⟨?_, Lib.frozen_of_heap hg _⟩
      rw [Lib.cell_of_heap hg, Nat.zero_add]
      have h3 : (cur.toList.take (ds.length * 2))[j]? = (dcells ds)[j]? := by rw [htake]
      rw [List.getElem?_take_of_lt (by rw [dcells_length] at hj'; exact hj'), Array.getElem?_toList] at h3
      rw [h3, List.getElem?_eq_getElem hj', getElem!_pos _ j hj]
      simp
    have hcon := AnyQ.slices_SortFunc_total Try.sortD 2 Try.isAgg30 Try.sizeOf30 encD (fun _ => rfl) (fun x v hv => by simp [encD] at hv; rcases hv with rfl | rfl <;> rfl) cmpD swoD 18 #[] g 0 c ds.toArray w eg (cmpLaysD g 0 _ w) hH (Array.getElem?_eq_some_iff.1 hg).1 (by simp; omega) totD
    have hcon2 : Calls Try.prog 17 #[.slice (some ⟨g, 0, none⟩) ds.length c, .func (.func 18) #[] #[]] w _ := hcon
    refine hcon2.mono fun e w' ⟨he, n, os, hw⟩ => ⟨he, ?_, ?_⟩
    · rw [hw]
      unfold sortWorldK putRowK
      have hl := sortS_length ds
      change (grow (putRow id (Go.Sort.ahead w n) g 0 (flatK encD 2 (sortS ds).toArray)) os).ownsRow _ _ _ _ _ _
      rw [flat_dcells]
      have hl2 : (dcells (sortS ds)).length = ds.length * 2 := by rw [dcells_length, hl]
      exact ⟨hl2, .inr ⟨g, c, _, rfl, hbase, heap_sortedD _ hg, hcap, hmax, by simp [putCells, hcs], by rw [← hl2]; exact take_putCellsD cur _ (by rw [hl2, hcs]; exact Nat.mul_le_mul_right _ hcap)⟩⟩
    · rw [hw]
      unfold sortWorldK putRowK
      exact grownBy_sortedD _

end Go.Proofs.Ytlfodnehgedpmaa
