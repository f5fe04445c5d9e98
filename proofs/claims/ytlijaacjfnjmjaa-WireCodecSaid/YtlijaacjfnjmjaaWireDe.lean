/- What decode computes, in plain terms. -/
import Derived.Test.YtlijaacjfnjmjaaWireF
import Derived.Test.YtlijaacjfnjmjaaWireM
import Derived.Test.YtlijaacjfnjmjaaWText
namespace Go.Proofs.Ytlijaacjfnjmjaa
open Go.RowKit

/-- So many numbers at the beginning of a text, and the rest. -/
def getN : Nat → List UInt8 → Option (List Int × List UInt8)
  | 0, l => some ([], l)
  | k + 1, l => if (Cw.getI l).2.2 ≠ 0 then none else (getN k (l.drop (Cw.getI l).2.1.toNat)).map fun r => ((Cw.getI l).1 :: r.1, r.2)
/-- So many digests at the beginning of a text. -/
def getDs : Nat → List UInt8 → List (Int × Int)
  | 0, _ => []
  | c + 1, l => (fixS (l.take 8), fixS ((l.drop 8).take 8)) :: getDs c (l.drop 16)
/-- The end of a body. -/
def decT (kind id off tot : Int) (ds : List (Int × Int)) (l : List UInt8) : Option Msg :=
  if (Cw.getT l).2.2 ≠ 0 ∨ (Cw.getT l).2.1 ≠ l.length then none
  else if vM kind off tot ds.length (Cw.getT l).1.length = true then some ⟨kind, id, off, tot, ds, (Cw.getT l).1⟩ else none
/-- The message of a body. -/
def decS (l : List UInt8) : Option Msg :=
  match getN 5 l with
  | some ([kind, id, off, tot, c], r) => if 1000 < c ∨ (r.length : Int) < 16 * c then none else decT kind id off tot (getDs c.toNat r) (r.drop (16 * c.toNat))
  | _ => none

theorem getN_length : ∀ {k : Nat} {l : List UInt8} {ns : List Int} {r : List UInt8}, getN k l = some (ns, r) → ns.length = k
  | 0, _, _, _, h => by simp only [getN, Option.some.injEq, Prod.mk.injEq] at h; rw [← h.1]; rfl
  | k + 1, l, ns, r, h => by
    rw [getN] at h
    split at h
    · simp at h
    · cases hg : getN k (l.drop (Cw.getI l).2.1.toNat) with
      | none => simp [hg] at h
      | some x =>
        rw [hg] at h
        simp only [Option.map_some, Option.some.injEq, Prod.mk.injEq] at h
        rw [← h.1, List.length_cons, getN_length hg]

/-- The relation of the first loop. -/
def G5 (L : List UInt8) (k : Nat) (ns : List Int) (l : List UInt8) : Prop := getN 5 L = (getN (5 - k) l).map fun r => (ns ++ r.1, r.2)
theorem G5.start (L : List UInt8) : G5 L 0 [] L := by unfold G5; cases getN 5 L <;> rfl
theorem G5.bad {L : List UInt8} {k : Nat} {ns : List Int} {l : List UInt8} (h : G5 L k ns l) (hk : k < 5) {n u er : Int} (hg : Cw.getI l = (n, u, er)) (he : er ≠ 0) : decS L = none := by
  have : getN 5 L = none := by
    rw [h, show 5 - k = (4 - k) + 1 by omega, getN, hg]
    simp [he]
  unfold decS
  rw [this]
theorem G5.next {L : List UInt8} {k : Nat} {ns : List Int} {l : List UInt8} (h : G5 L k ns l) (hk : k < 5) {n u : Int} (hg : Cw.getI l = (n, u, 0)) : G5 L (k + 1) (ns ++ [n]) (l.drop u.toNat) := by
  unfold G5 at h ⊢
  rw [h, show 5 - k = (5 - (k + 1)) + 1 by omega]
  conv => lhs; rw [getN, hg]
  simp only [ne_eq, not_true_eq_false, if_false, Option.map_map]
  congr 1
  funext r
  simp
theorem G5.fin {L : List UInt8} {kind id off tot c : Int} {l : List UInt8} (h : G5 L 5 [kind, id, off, tot, c] l) : decS L = if 1000 < c ∨ (l.length : Int) < 16 * c then none else decT kind id off tot (getDs c.toNat l) (l.drop (16 * c.toNat)) := by
  have h' : getN 5 L = some ([kind, id, off, tot, c], l) := h
  unfold decS
  rw [h']

/-- The relation of the second loop. -/
def GD (c : Nat) (r : List UInt8) (j : Nat) (ds : List (Int × Int)) (l : List UInt8) : Prop := getDs c r = ds ++ getDs (c - j) l ∧ l = r.drop (16 * j) ∧ ds.length = j
theorem GD.start (c : Nat) (r : List UInt8) : GD c r 0 [] r := ⟨rfl, by simp, rfl⟩
theorem GD.next {c : Nat} {r : List UInt8} {j : Nat} {ds : List (Int × Int)} {l : List UInt8} (h : GD c r j ds l) (hj : j < c) : GD c r (j + 1) (ds ++ [(fixS (l.take 8), fixS ((l.drop 8).take 8))]) (l.drop 16) := by
  obtain ⟨h1, h2, h3⟩ := h
  refine ⟨?_, by rw [h2, List.drop_drop, Nat.mul_succ], by simp [h3]⟩
  rw [h1, show c - j = (c - (j + 1)) + 1 by omega, getDs]
  simp
theorem GD.fin {c : Nat} {r : List UInt8} {ds : List (Int × Int)} {l : List UInt8} (h : GD c r c ds l) : getDs c r = ds ∧ r.drop (16 * c) = l := by
  obtain ⟨h1, h2, _⟩ := h
  rw [Nat.sub_self] at h1
  exact ⟨by rw [h1]; simp [getDs], h2.symm⟩

set_option maxRecDepth 100000 in
set_option maxHeartbeats 1000000 in
/-- valid, at a kind that is not known. -/
theorem wvalid_other (kind id off tot : Int) (a : Option Addr) (nd cd : Nat) (T : List UInt8) (w : World) (hid0 : 0 ≤ id) (hid1 : id ≤ 1099511627776) (h : kind < 1 ∨ 4 < kind) :
    Calls Try.prog 32 #[.agg #[.int .i64 kind, .int .i64 id, .int .i64 off, .int .i64 tot, .slice a nd cd, .string ⟨T.toArray⟩]] w fun e w' => e = .returned (.bool (vM kind off tot nd T.length)) ∧ Below w.heap.size w w' := by
  have hv : vM kind off tot nd T.length = false := by
    unfold vM
    rw [if_neg (by omega), if_neg (by omega), if_neg (by omega), if_neg (by omega)]
  rw [hv]
  have k1 : (kind == 1) = false := by simp; omega
  have k2 : (kind == 2) = false := by simp; omega
  have k3 : (kind == 3) = false := by simp; omega
  have k4 : (kind == 4) = false := by simp; omega
  clear h hv
  go_enter Try.func32, Try.ntmps32
  go_wp2_with fail
  go_ret
  exact ⟨rfl, (Below.refl _ w).alloc (Nat.le_refl _) _⟩

theorem wvalidM (kind id off tot : Int) (a : Option Addr) (nd cd : Nat) (T : List UInt8) (w : World) (hs : (T.length : Int) ≤ 140737488355328) (hnd : (nd : Int) ≤ 140737488355328) (hid0 : 0 ≤ id) (hid1 : id ≤ 1099511627776) :
    Calls Try.prog 32 #[.agg #[.int .i64 kind, .int .i64 id, .int .i64 off, .int .i64 tot, .slice a nd cd, .string ⟨T.toArray⟩]] w fun e w' => e = .returned (.bool (vM kind off tot nd T.length)) ∧ Below w.heap.size w w' := by
  by_cases h : kind < 1 ∨ 4 < kind
  · exact wvalid_other kind id off tot a nd cd T w hid0 hid1 h
  · exact wvalid_any kind id off tot a nd cd T w hs hnd hid0 hid1 (by omega) (by omega)

end Go.Proofs.Ytlijaacjfnjmjaa
