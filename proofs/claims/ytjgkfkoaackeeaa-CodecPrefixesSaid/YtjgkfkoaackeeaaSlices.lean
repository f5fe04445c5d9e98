/- Slices of integers and of strings that came in or that the call owns: what a walk is told of them. -/
import Derived.Test.YtjgkfkoaackeeaaPutTexts
import Derived.ProofKit
import Derived.OpenShut
import Derived.ShutString
namespace Go.Proofs.Ytjgkfkoaackeeaa
open Go.ChangeShapes Go.WideShapes Go.ChangeAt Go.RowKit
open Go.ChangeMaps (open_string shut_string)

/-- A slice of integers that lies below block B. -/
def Ints (B : Nat) (W : World) (a : Option Addr) (zs : List Int) : Prop :=
  ∀ i (h : i < zs.length), ∃ b off, a = some ⟨b, off, none⟩ ∧ b < B ∧ W.cell? ⟨b, off + i, none⟩ = some (.int .i64 zs[i])

theorem lt_of_cell {W : World} {p : Addr} {v : Value} (h : W.cell? p = some v) : p.block < W.heap.size := by
  unfold World.cell? at h
  cases ho : W.heap[p.block]? with
  | none => simp [ho] at h
  | some o => exact (Array.getElem?_eq_some_iff.1 ho).1

theorem open_ints_row {H : Type} {enc : TypeId × Value → H} {W : World} {a : Option Addr} {len cap : Nat} {d : DataW H} {ps : List MemPlace}
    (h : DataW.Trod enc Try.prog W 0 (fun _ => true) true 22 (.slice a len cap) d ps) : ∃ zs : List Int, len = zs.length ∧ Ints W.heap.size W a zs := by
  obtain ⟨fuel, hf⟩ := h
  rcases open_ints Try.underlying22 Try.underlying3 (by kernel_rfl) hf with ⟨hcs, _⟩ | ⟨x, l, c, zs, hcs, _, hl, hm, hz, _, hcell, hwz⟩
  · simp [Value.cells] at hcs
    obtain ⟨rfl, rfl, rfl⟩ := hcs
    exact ⟨[], rfl, fun i hi => by simp at hi⟩
  · simp [Value.cells] at hcs
    obtain ⟨rfl, rfl, rfl⟩ := hcs
    simp at hz
    refine ⟨zs.take len, by rw [List.length_take]; omega, fun i hi => ?_⟩
    have hi' : i < zs.length := by rw [List.length_take] at hi; omega
    obtain ⟨b, off, rfl, hc⟩ := ints_at hcell (by omega)
    have := hc i hi'
    refine ⟨b, off, rfl, lt_of_cell this, ?_⟩
    rw [this]
    simp [List.getD, hi']

theorem infoInt : (Try.prog.info? 3).map (fun i => (i.zero, i.size, i.bytes)) = some (some (.int .i64 0), 1, 8) := by kernel_rfl

theorem ownsRow_slice {w : World} {base : Nat} {e : TypeId} {v : Value} {n : Nat} {xs : List Value} (h : w.ownsRow base e 1 v n xs) : ∃ a cap, v = .slice a n cap := by
  rcases h.2 with ⟨rfl, rfl⟩ | ⟨g, cap, cur, rfl, _⟩
  · exact ⟨_, _, rfl⟩
  · exact ⟨_, _, rfl⟩

theorem ownsRow_ints {w : World} {base : Nat} {a : Option Addr} {cap : Nat} {zs : List Int} (h : w.ownsRow base 3 1 (.slice a zs.length cap) zs.length (zs.map (Value.int .i64))) : Ints w.heap.size w a zs := by
  intro i hi
  rcases h.2 with ⟨h1, h2⟩ | ⟨g, cap', cur, h1, _, hg, _⟩
  · omega
  · cases h1
    refine ⟨g, 0, rfl, (Array.getElem?_eq_some_iff.1 hg).1, ?_⟩
    have := h.cells (g := g) rfl i (.int .i64 zs[i]) (by simp [hi])
    rw [← Go.WideShapes.add_plain]; exact this

theorem ownsRow_empty (w : World) : (w.alloc (.cells #[] 3)).ownsRow w.heap.size 3 1 (.slice (some ⟨w.heap.size, 0, none⟩) 0 0) 0 [] :=
  ⟨rfl, .inr ⟨w.heap.size, 0, #[], rfl, Nat.le_refl _, World.alloc_heap_new w _, Nat.le_refl _, by unfold maxLen; omega, rfl, rfl⟩⟩


theorem grownBy_below {w w' : World} (hb : Below w.heap.size w w') : w.grownBy w' none := ⟨hb.os, hb.tape, hb.output, hb.size, fun k hk _ => hb.block k hk⟩

theorem ownsRow_below {w w' : World} {base : Nat} {e : TypeId} {size : Nat} {v : Value} {n : Nat} {xs : List Value} (h : w.ownsRow base e size v n xs) (hb : Below w.heap.size w w') : w'.ownsRow base e size v n xs := by
  refine h.kept (grownBy_below hb) ?_
  cases h1 : v.ownBlock with
  | none => exact .inl rfl
  | some k => exact .inr (by simp)

theorem Ints.below {B : Nat} {W W' : World} {a : Option Addr} {zs : List Int} (h : Ints B W a zs) (hb : Below B W W') : Ints B W' a zs := by
  intro i hi
  obtain ⟨b, off, ha, hlt, hc⟩ := h i hi
  exact ⟨b, off, ha, hlt, (hb.cell (p := ⟨b, off + i, none⟩) hlt).trans hc⟩

end Go.Proofs.Ytjgkfkoaackeeaa
