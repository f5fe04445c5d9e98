/- codec.digits: the iterator over the digits of a number; Size and writeInt, which range over it. -/
import Derived.Test.YtlfodnehgedpmaaRange
import Derived.Test.YtlfodnehgedpmaaBuilder
import Derived.Test.YtlfodnehgedpmaaRefPut
import Derived.Shelf.Abstract
import Derived.Shelf.RegionOpen
import Derived.WalkKit
import Derived.OwnWalkIn
import Derived.TacticsInMore
import Derived.LoopNIn
import Derived.LoopIn
namespace Go.Proofs.Ytlfodnehgedpmaa
open Go.RowKit Go.Shelf

theorem EncFits.down {f : Nat} {n : Int} (h : EncFits (f + 1) n) : EncFits f (n / 128) := by
  unfold EncFits at h ⊢
  rw [Int.pow_succ] at h
  exact Int.ediv_lt_of_lt_mul (by omega) h

theorem EncFits.ten {n : Int} (h1 : n ≤ 140737488355328) : EncFits 10 n := by
  unfold EncFits
  have : (128 : Int) ^ 10 = 1180591620717411303424 := by decide
  rw [this]; omega

attribute [local go_sem] Oper.semAt_some

/-- The digits as numbers. -/
def encZ : Nat → Int → List Int
  | 0, _ => []
  | f + 1, m => if m < 128 then [m] else (m % 128 + 128) :: encZ f (m / 128)

/-- The iterator's own cell. -/
def NBox (bn : Nat) (m : Int) (W : World) : Prop := W.heap[bn]? = some (.cells #[.int .i64 m] 3 (0, 0))

theorem NBox.cell {bn : Nat} {m : Int} {W : World} (h : NBox bn m W) : W.cell? ⟨bn, 0, none⟩ = some (.int .i64 m) := by rw [Lib.cell_of_heap h]; rfl
theorem NBox.frozen {bn : Nat} {m : Int} {W : World} (h : NBox bn m W) : W.frozen? ⟨bn, 0, none⟩ = false := Lib.frozen_of_heap h 0
theorem NBox.set {bn : Nat} {m : Int} {W : World} (h : NBox bn m W) (k : Int) : NBox bn k (W.setCell ⟨bn, 0, none⟩ (.int .i64 k)) := by
  unfold NBox at h ⊢
  simp [World.setCell, Array.getElem?_modify, h]

def okD (pre : List Int) (x : Int) : Prop := 0 ≤ x ∧ x ≤ 255 ∧ pre.length < 10

def cellN (bn : Nat) (W : World) : Int := intOf ((W.cell? ⟨bn, 0, none⟩).getD undef)
theorem NBox.cellN {bn : Nat} {m : Int} {W : World} (h : NBox bn m W) : cellN bn W = m := by unfold Go.Proofs.Ytlfodnehgedpmaa.cellN; rw [h.cell]; rfl

def DigRel (f : Nat) (m : Int) (pre : List Int) (f' : Nat) (m' : Int) : Prop :=
  pre ++ encZ (f' + 1) m' = encZ (f + 1) m ∧ EncFits (f' + 1) m'

theorem DigRel.stop {f f' : Nat} {m m' : Int} {pre : List Int} (h : DigRel f m pre f' m') (hm : m' < 128) : pre ++ [m'] = encZ (f + 1) m := by
  rw [← h.1, encZ, if_pos hm]

theorem DigRel.go {f f' : Nat} {m m' : Int} {pre : List Int} (h : DigRel f m pre f' m') (hm : 128 ≤ m') : ∃ g, f' = g + 1 ∧ DigRel f m (pre ++ [m' % 128 + 128]) g (m' / 128) := by
  cases f' with
  | zero => have := h.2; unfold EncFits at this; simp at this; omega
  | succ g =>
    refine ⟨g, rfl, ?_, h.2.down⟩
    have e : encZ (g + 1 + 1) m' = (m' % 128 + 128) :: encZ (g + 1) (m' / 128) := if_neg (by omega)
    rw [← h.1, e]; simp

set_option maxRecDepth 100000 in
set_option maxHeartbeats 1000000 in
theorem digits1_in (F : Fence) (n : Nat) (h37 : F.fn 77) (hro : F.round = none) (hn : 1 ≤ n) (l bn : Nat) (J : List Int → World → Prop)
    (hJs : ∀ s W v, J s W → J s (W.setCell ⟨bn, 0, none⟩ v))
    (hY : ∀ pre x W, okD pre x → J pre W → YieldAt F (n - 1) Try.prog l #[.int .u8 x] W fun e W' => e = .returned (.bool true) ∧ J (pre ++ [x]) W' ∧ W'.heap[bn]? = W.heap[bn]?)
    (m : Int) (f : Nat) (hf : f ≤ 9) (hm0 : 0 ≤ m) (hm1 : m ≤ 140737488355328) (hfit : EncFits (f + 1) m) (W : World) (hb : NBox bn m W) (h0 : J [] W) :
    CallsIn F n Try.prog 77 (#[.func (.yield l) #[] #[]] ++ #[.pointer (some ⟨bn, 0, none⟩)]) W fun e W' => (∃ v, e = .returned v) ∧ J (encZ (f + 1) m) W' := by
  refine callsIn_of_wp Try.func77 rfl h37 ?_ hro
  simp only [Try.ntmps77, List.size_toArray, List.length_cons, List.length_nil, Nat.reduceAdd, Nat.reduceSub, Array.replicate_succ, Array.replicate_zero, List.push_toArray, List.append_toArray, List.nil_append, List.cons_append]
  have HY := Lib.hid hY
  have HJ := Lib.hid hJs
  clear hY hJs
  gi_wp2
  gi_loopw [3] (fun _ wr => ∃ (pre : List Int) (f' : Nat) (m' : Int), NBox bn m' wr ∧ J pre wr ∧ 0 ≤ m' ∧ m' ≤ 140737488355328 ∧ pre.length + f' ≤ 9 ∧ DigRel f m pre f' m') (fun _ wr => (cellN bn wr).toNat)
  case atStart => exact ⟨[], f, m, hb, h0, hm0, hm1, by simpa using hf, by simp, hfit⟩
  case round =>
    obtain ⟨pre, f', m', hbx, hJ', hm0', hm1', hlen, hr⟩ := hrel
    have hc := hbx.cell
    have hfz := hbx.frozen
    have HB := Lib.hid hbx
    clear hb hbx
    by_cases hm : m' < 128
    · have HR := Lib.hid (hr.stop hm)
      clear hr
      obtain ⟨fn, tmps, assign, body, hy, hR⟩ := HY.out pre m' wr ⟨hm0', by omega, by omega⟩ hJ'
      gi_wp2
      refine hR.mono ?_
      rintro e W3 ⟨rfl, hJ3, _⟩
      gi_wp2
      go_end0
      exact ⟨⟨_, rfl⟩, by rw [← HR.out]; exact hJ3⟩
    · obtain ⟨g, hfg, hr'⟩ := hr.go (by omega)
      have HR := Lib.hid hr'
      have hlen2 : pre.length + 1 + g ≤ 9 := by omega
      have HG := Lib.hid hfg
      clear hr hr' hfg
      obtain ⟨fn, tmps, assign, body, hy, hR⟩ := HY.out pre (m' % 128 + 128) wr ⟨by omega, by omega, by omega⟩ hJ'
      gi_wp2
      refine hR.mono ?_
      rintro e W3 ⟨rfl, hJ3, hb3⟩
      have hbx3 : NBox bn m' W3 := hb3.trans HB.out
      have hc3 := hbx3.cell
      have hfz3 := hbx3.frozen
      have HB3 := Lib.hid hbx3
      clear hb3 hbx3
      gi_wp2
      go_roundw
      case rel => exact ⟨pre ++ [m' % 128 + 128], g, m' / 128, HB3.out.set _, HJ.out _ _ _ hJ3, by omega, by omega, by simp; omega, HR.out⟩
      case measure => rw [(HB3.out.set (m' / 128)).cellN, HB.out.cellN]; omega

theorem digits_any (n : Int) (w : World) :
    Calls Try.prog 73 #[.int .i64 n] w fun e w' => e = .returned (.func (.func 77) #[] #[.pointer (some ⟨w.heap.size, 0, none⟩)]) ∧ w.alloc (.cells #[.int .i64 n] 3) = w' := by
  go_enter Try.func73, Try.ntmps73
  go_wp2
  go_ret
  exact ⟨rfl, rfl⟩

theorem encZ_length : ∀ (f : Nat) (m : Int), 0 ≤ m → (encZ f m).length = (Cw.encF f m.toNat).length
  | 0, _, _ => rfl
  | f + 1, m, h => by
    rw [encZ, Cw.encF]
    by_cases hm : m < 128
    · rw [if_pos hm, if_pos (by omega)]; rfl
    · rw [if_neg hm, if_neg (by omega), List.length_cons, List.length_cons, encZ_length f (m / 128) (by omega), show (m / 128).toNat = m.toNat / 128 from by omega]

theorem encZ_bytes : ∀ (f : Nat) (m : Int), 0 ≤ m → (encZ f m).map (Value.int .u8) = Lib.byteCells (Cw.encF f m.toNat)
  | 0, _, _ => rfl
  | f + 1, m, h => by
    rw [encZ, Cw.encF]
    by_cases hm : m < 128
    · rw [if_pos hm, if_pos (by omega)]
      simp [Lib.byteCells]; omega
    · rw [if_neg hm, if_neg (by omega), List.map_cons, encZ_bytes f (m / 128) (by omega), show (m / 128).toNat = m.toNat / 128 from by omega]
      simp [Lib.byteCells]; omega

theorem inRange_any (n : Int) (w : World) :
    Calls Try.prog 60 #[.int .i64 n] w fun e w' => e = .returned (.bool (Cw.inR n)) ∧ w = w' := by
  by_cases h0 : 0 ≤ n
  · have HR : Hid (Cw.inR n = decide (n ≤ 1099511627776)) := Lib.hid (by simp [Cw.inR, h0])
    go_enter Try.func60, Try.ntmps60
    go_wp2
    go_ret
    exact ⟨by rw [HR.out]; rfl, rfl⟩
  · have HR : Hid (Cw.inR n = false) := Lib.hid (by simp [Cw.inR, h0])
    go_enter Try.func60, Try.ntmps60
    go_wp2
    go_ret
    exact ⟨by rw [HR.out]; rfl, rfl⟩

end Go.Proofs.Ytlfodnehgedpmaa
