/- Rows of files in memory. -/
import Derived.Test.YtceacjnhkcikgaaGreatDoorTtPl
import Derived.Test.YtceacjnhkcikgaaGreatDoorPkRw
namespace Go.Proofs.YtceacjnhkcikgaaGreatDoor
open Go.RowKit Go.Shelf
set_option linter.unusedVariables false

def flCs (x : Fl) : List Value := [.string ⟨x.path.toArray⟩, .string ⟨x.data.toArray⟩]
theorem layFl : Lay flCs 2 := ⟨by decide, fun o => rfl, fun o v hv => by
  simp only [flCs, List.mem_cons, List.not_mem_nil, or_false] at hv
  rcases hv with rfl | rfl <;> rfl⟩
/-- Files in memory below block B. -/
abbrev Fls (B : Nat) (W : World) (a : Option Addr) (l : List Fl) : Prop := GIn flCs 2 B W a l
theorem fl_cells {B : Nat} {W : World} {a : Option Addr} {l : List Fl} (h : Fls B W a l) {k : Nat} (hk : k < l.length) : ∃ b off, a = some ⟨b, off, none⟩ ∧ b < B ∧ W.cell? ⟨b, off + k * 2, none⟩ = some (.string ⟨l[k].path.toArray⟩) ∧ W.cell? ⟨b, off + k * 2 + 1, none⟩ = some (.string ⟨l[k].data.toArray⟩) := by
  obtain ⟨b, off, h1, h2, h3⟩ := h k hk
  exact ⟨b, off, h1, h2, h3 0 _ rfl, h3 1 _ rfl⟩
theorem infoFl : (Tryz.prog.info? 43).map (fun i => (i.zero, i.size, i.bytes)) = some (some (.agg #[.string ⟨#[]⟩, .string ⟨#[]⟩]), 2, 32) := by kernel_rfl
theorem append_fl {base : Nat} {W : World} {v : Value} {n : Nat} {l : List Fl} (hn : n = l.length) (hown : W.ownsRow base 43 2 v n (gcs flCs l)) (x : Fl) (hlen : (n : Int) ≤ 1000000) (hbase : base ≤ W.heap.size) :
    ∃ v' W', Hid ((Builtin.append_ #[22, 22] 22 #[v, .slice (some ⟨W.heap.size, 0, none⟩) 1 1]).run Tryz.prog (W.alloc (.cells (flCs x).toArray 43)) = .ok v' W') ∧ W'.ownsRow base 43 2 v' (n + 1) (gcs flCs (l ++ [x])) ∧ (W.alloc (.cells (flCs x).toArray 43)).grownBy W' v.ownBlock ∧ (v'.ownBlock = v.ownBlock ∨ v'.ownBlock = some (W.heap.size + 1)) := by
  obtain ⟨i0, hi, hz0, hz1, hz2⟩ := info_parts infoFl
  exact append_oneG layFl Tryz.underlying22 hi hz0 hz1 hz2 rfl hn hown x hlen (by decide) hbase
/-- Files that were handed back. -/
def GotFs (w : World) (l : List Fl) (e : Ending) (w' : World) : Prop := ∃ a c, e = .returned (.slice a l.length c) ∧ Fls w'.heap.size w' a l ∧ l.length ≤ c ∧ Below w.heap.size w w' ∧ ∀ ad, a = some ad → w.heap.size ≤ ad.block
theorem own_newF {W : World} {base : Nat} {e : TypeId} {z : Nat} {a : Option Addr} {n m c : Nat} {xs : List Value} (h : W.ownsRow base e z (.slice a n c) m xs) : ∀ ad, a = some ad → base ≤ ad.block := by
  intro ad ha
  subst ha
  exact (h.lt ad.block rfl).1
end Go.Proofs.YtceacjnhkcikgaaGreatDoor
