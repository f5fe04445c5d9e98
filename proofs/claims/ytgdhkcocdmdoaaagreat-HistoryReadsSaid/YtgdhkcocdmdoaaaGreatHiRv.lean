/- slices.Reverse and slices.Backward at digests. -/
import Derived.Test.YtgdhkcocdmdoaaaGreatK5
import Derived.Test.YtgdhkcocdmdoaaaGreatPoRv
import Derived.Test.YtgdhkcocdmdoaaaGreatK1
import Derived.Shelf.Abstract
import Derived.WalkKit
import Derived.OwnWalkIn
import Derived.TacticsInMore
import Derived.LoopNIn
import Derived.LoopIn
namespace Go.Proofs.YtgdhkcocdmdoaaaGreat
open Go.RowKit Go.Shelf Go.Sort
set_option linter.unusedVariables false

theorem revD_any {base : Nat} (a : Option Addr) (ds : List (Int × Int)) (c : Nat) (w : World) (ho : w.ownsRow base 32 2 (.slice a ds.length c) ds.length (dcells ds)) (hn : (ds.length : Int) ≤ 1000000000) :
    Calls Tryz.prog 58 #[.slice a ds.length c] w fun e w' => e = .returned (.tuple #[]) ∧ w'.ownsRow base 32 2 (.slice a ds.length c) ds.length (dcells ds.reverse) ∧ w.grownBy w' (Value.slice a ds.length c).ownBlock := by
  rcases ho.2 with ⟨h1, h2⟩ | ⟨g, cap, cur, h1, hbase, hg, hcap, hmax, hcs, htake⟩
  · have hd : ds = [] := List.eq_nil_of_length_eq_zero h2
    subst hd
    have := AnyQ.slices_Reverse_empty Tryz.revD a c w
    refine Calls.mono this fun e w' ⟨he, hw⟩ => ⟨he, ?_, ?_⟩
    · rw [hw]; exact ho
    · rw [hw]; exact ⟨rfl, rfl, rfl, Nat.le_refl _, fun _ _ _ => rfl⟩
  · cases h1
    have hH : HoldsK encD 2 w g 0 ds.toArray := by
      unfold HoldsK
      rw [flat_dcells]
      intro j hj
      have hj' : j < (dcells ds).length := by simpa using hj
      refine ⟨?_, Lib.frozen_of_heap hg _⟩
      rw [Lib.cell_of_heap hg, Nat.zero_add]
      have h3 : (cur.toList.take (ds.length * 2))[j]? = (dcells ds)[j]? := by rw [htake]
      rw [List.getElem?_take_of_lt (by rw [dcells_length] at hj'; exact hj'), Array.getElem?_toList] at h3
      rw [h3, List.getElem?_eq_getElem hj', getElem!_pos _ j hj]
      simp
    have hcon := AnyQ.slices_Reverse Tryz.revD 2 Tryz.isAgg32 Tryz.sizeOf32 encD (fun _ => rfl) (fun x v hv => by simp [encD] at hv; rcases hv with rfl | rfl <;> rfl) g 0 c ds.toArray w hH (by simp; omega)
    have hcon2 : Calls Tryz.prog 58 #[.slice (some ⟨g, 0, none⟩) ds.length c] w _ := hcon
    refine hcon2.mono fun e w' ⟨he, n, hw⟩ => ⟨he, ?_, ?_⟩
    · rw [hw, ← Go.Sort.grow_empty (putRowK _ _ _ _ _ _)]
      unfold putRowK
      have hl : ds.reverse.length = ds.length := List.length_reverse
      rw [show ds.toArray.reverse = ds.reverse.toArray by simp, flat_dcells]
      have hl2 : (dcells ds.reverse).length = ds.length * 2 := by rw [dcells_length, hl]
      exact ⟨hl2, .inr ⟨g, c, _, rfl, hbase, heap_sortedD _ hg, hcap, hmax, by simp [putCells, hcs], by rw [← hl2]; exact take_putCellsD cur _ (by rw [hl2, hcs]; exact Nat.mul_le_mul_right _ hcap)⟩⟩
    · rw [hw, ← Go.Sort.grow_empty (putRowK _ _ _ _ _ _)]
      unfold putRowK
      exact grownBy_sortedD _

theorem back_any (a : Option Addr) (n c : Nat) (w : World) :
    Calls Tryz.prog 59 #[.slice a n c] w fun e w' => e = .returned (.func (.func 83) #[] #[.pointer (some ⟨w.heap.size, 0, none⟩)]) ∧ w.alloc (.cells #[.slice a n c] 24) = w' := by
  go_enter Tryz.func59, Tryz.ntmps59
  go_wp2
  go_ret
  exact ⟨rfl, rfl⟩

attribute [local go_sem] Oper.semAt_some
/-- What a round leaves alone: the box of the slice, its row. -/
def Kp (Bs : Nat) (pa : Option Addr) (W W' : World) : Prop := W.heap.size ≤ W'.heap.size ∧ W'.heap[Bs]? = W.heap[Bs]? ∧ ∀ ad, pa = some ad → W'.heap[ad.block]? = W.heap[ad.block]?
theorem Kp.trans {Bs : Nat} {pa : Option Addr} {A B C : World} (h : Kp Bs pa A B) (k : Kp Bs pa B C) : Kp Bs pa A C := ⟨Nat.le_trans h.1 k.1, k.2.1.trans h.2.1, fun ad e => (k.2.2 ad e).trans (h.2.2 ad e)⟩
theorem Kp.digs {Bs : Nat} {pa : Option Addr} {A B : World} {L : List (Int × Int)} (h : Kp Bs pa A B) (hd : Digs A.heap.size A pa L) : Digs B.heap.size B pa L := by
  intro i hi
  obtain ⟨b, off, rfl, hlt, h1, h2⟩ := hd i hi
  have hb := h.2.2 _ rfl
  simp only at hb
  refine ⟨b, off, rfl, Nat.lt_of_lt_of_le hlt h.1, ?_, ?_⟩
  · rw [← h1]; unfold World.cell?; simp only [hb]
  · rw [← h2]; unfold World.cell?; simp only [hb]
theorem rev_take {L : List (Int × Int)} {k : Nat} (hk : k < L.length) : L.reverse.take (L.length - k) = L.reverse.take (L.length - (k + 1)) ++ [L[k]] := by
  have h1 : L.length - (k + 1) < L.reverse.length := by rw [List.length_reverse]; omega
  rw [show L.length - k = L.length - (k + 1) + 1 by omega, List.take_succ_eq_append_getElem h1]
  congr 1
  rw [List.getElem_reverse]
  congr 2
  omega

set_option maxRecDepth 100000 in
set_option maxHeartbeats 2000000 in
theorem back1_in (F : Fence) (nn : Nat) (hF : F.fn 83) (hro : F.round = none) (hn : 1 ≤ nn) (l Bs : Nat) (pa : Option Addr) (c : Nat) (L : List (Int × Int)) (hL : (L.length : Int) ≤ 1000000) (J Jx : List (Int × Int × Int) → World → Prop)
    (hY : ∀ pre x W, J pre W → pre.length < L.length → YieldAt F (nn - 1) Tryz.prog l #[.int .i64 x.1, .agg #[.int .u64 x.2.1, .int .u64 x.2.2]] W fun e W' =>
      (e = .returned (.bool true) ∧ J (pre ++ [x]) W' ∧ Kp Bs pa W W') ∨ (e = .returned (.bool false) ∧ Jx (pre ++ [x]) W'))
    (W : World) (hb : BK Bs #[.slice pa L.length c] 24 W) (hd : Digs W.heap.size W pa L) (h0 : J [] W) :
    CallsIn F nn Tryz.prog 83 #[.func (.yield l) #[] #[], .pointer (some ⟨Bs, 0, none⟩)] W fun e W' => (∃ v, e = .returned v) ∧ ((∃ xs, xs.map (fun x => x.2) = L.reverse ∧ J xs W') ∨ (∃ pre, True ∧ Jx pre W')) := by
  refine callsIn_of_wp Tryz.func83 rfl hF ?_ hro
  simp only [Tryz.ntmps83, List.size_toArray, List.length_cons, List.length_nil, Nat.reduceAdd, Nat.reduceSub, Array.replicate_succ, Array.replicate_zero, List.push_toArray, List.append_toArray, List.nil_append, List.cons_append]
  obtain ⟨n, hnn⟩ : ∃ n, n = L.length := ⟨_, rfl⟩
  rw [← hnn] at hb hL
  have HN := Lib.hid hnn
  have HY := Lib.hid hY
  have hc0 : W.cell? ⟨Bs, 0, none⟩ = some (.slice pa n c) := by rw [hb.cell]; rfl
  have HB := Lib.hid hb
  have HD := Lib.hid hd
  clear hY hb hd hnn
  gi_wp2
  gi_loopw [3] (fun i wr => ∃ (j : Nat) (m : Int) (pre : List (Int × Int × Int)), i = .int .i64 m ∧ m = (j : Int) - 1 ∧ j ≤ n ∧ Hid (pre.map (fun x => x.2) = L.reverse.take (n - j)) ∧ J pre wr ∧ Hid (BK Bs #[.slice pa n c] 24 wr) ∧ Hid (Digs wr.heap.size wr pa L)) (fun i _ => (intOf i + 1).toNat)
  case atStart => exact ⟨n, (n : Int) - 1, [], by go_num, rfl, Nat.le_refl _, Lib.hid (by simp), h0, HB, HD⟩
  case round =>
    obtain ⟨j, m, pre, rfl, hm, hjn, HP, hJ', HBX, HDX⟩ := hrel
    have hc : wr.cell? ⟨Bs, 0, none⟩ = some (.slice pa n c) := by rw [HBX.out.cell]; rfl
    clear hc0 HB HD h0
    rcases Nat.eq_zero_or_pos j with hz | hz
    · obtain rfl : m = -1 := by omega
      have HE : Hid (pre.map (fun x => x.2) = L.reverse) := Lib.hid (by rw [HP.out, hz, List.take_of_length_le]; rw [List.length_reverse]; have := HN.out; omega)
      clear hm HP
      gi_wp2
      go_end0
      exact ⟨⟨_, rfl⟩, .inl ⟨pre, HE.out, hJ'⟩⟩
    · obtain ⟨k, hk⟩ : ∃ k, j = k + 1 := ⟨j - 1, by omega⟩
      obtain rfl : m = (k : Int) := by omega
      have hkL : k < L.length := by have := HN.out; omega
      obtain ⟨b, off, rfl, hbl, q0, q1⟩ := HDX.out k hkL
      have HX : Hid (L.reverse.take (n - k) = L.reverse.take (n - j) ++ [L[k]]) := Lib.hid (by rw [HN.out, hk]; exact rev_take hkL)
      generalize L[k] = dd at q0 q1 HX
      obtain ⟨d1, d2⟩ := dd
      simp only at q0 q1
      have hlen : pre.length < L.length := by
        have h1 := congrArg List.length HP.out
        rw [List.length_map, List.length_take, List.length_reverse] at h1
        have := HN.out
        omega
      have hkn : (k : Int) < (n : Int) := by omega
      obtain ⟨fn, tmps, assign, body, hy, hR⟩ := HY.out pre ((k : Int), (d1, d2)) wr hJ' hlen
      dsimp only at hy
      clear hm hlen
      gi_wp2
      refine hR.mono ?_
      rintro e W3 (⟨rfl, hJ3, hk3⟩ | ⟨rfl, hJx3⟩)
      · gi_wp2
        go_roundw
        case rel => exact ⟨k, (k : Int) - 1, pre ++ [((k : Int), (d1, d2))], by go_num, rfl, by omega, Lib.hid (by rw [HX.out, List.map_append, HP.out]; rfl), hJ3, Lib.hid (hk3.2.1.trans HBX.out), Lib.hid (hk3.digs HDX.out)⟩
        case measure => simp [intOf]
      · gi_wp2
        refine bodyPost_ret (results_none rfl _ _ _) rfl ?_
        exact ⟨⟨_, rfl⟩, .inr ⟨_, trivial, hJx3⟩⟩

theorem back_stops (F : Fence) (nn : Nat) (hF : F.fn 83) (hro : F.round = none) (hn : 1 ≤ nn) (Bs : Nat) (pa : Option Addr) (c : Nat) (L : List (Int × Int)) (hL : (L.length : Int) ≤ 1000000) (w : World) (hb : BK Bs #[.slice pa L.length c] 24 w) (hd : Digs w.heap.size w pa L) :
    SeqStopsK F nn Tryz.prog 83 #[.pointer (some ⟨Bs, 0, none⟩)] (fun x : Int × Int × Int => #[.int .i64 x.1, .agg #[.int .u64 x.2.1, .int .u64 x.2.2]]) (Kp Bs pa) (fun xs => xs.map (fun x => x.2) = L.reverse) (fun _ => True) L.length w := fun l J Jx W hW _ _ hY h0 =>
  back1_in F nn hF hro hn l Bs pa c L hL J Jx hY W (hb.below hW) ((hd.below hW (Nat.le_refl _)).mono hW.size) h0

end Go.Proofs.YtgdhkcocdmdoaaaGreat
