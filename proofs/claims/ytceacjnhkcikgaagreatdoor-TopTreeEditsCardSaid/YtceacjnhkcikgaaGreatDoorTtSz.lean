/- The second loop of tree.store: its state. -/
import Derived.Test.YtceacjnhkcikgaaGreatDoorTtSx
import Derived.Test.YtceacjnhkcikgaaGreatDoorTtDa
import Derived.Test.YtceacjnhkcikgaaGreatDoorTtCu
namespace Go.Proofs.YtceacjnhkcikgaaGreatDoor
open Go.RowKit Go.Shelf
set_option linter.unusedVariables false

/-- What store hands back. -/
def GotSt (w : World) (pa : Option Addr) (ps : List Itm) (r : StR) (e : Ending) (w' : World) : Prop := ∃ ra rc, e = .returned (.tuple #[.slice ra r.1.length rc, .agg #[.int .u64 r.2.1.1, .int .u64 r.2.1.2], .int .i64 r.2.2]) ∧ PoolAt w pa ps r.1 ra rc w' ∧ PoolIn w' ra r.1 rc ∧ Asc r.1
def obC (v : Value) : Array Value := #[.int .i64 2, .string ⟨#[]⟩, v, .int .u64 0, .int .u64 0, .slice none 0 0, .string ⟨#[]⟩, .int .i64 0, .string ⟨#[]⟩]
/-- The state between two rounds of the second loop. -/
structure St2 (w X : World) (n : Nat) (a : Option Addr) (xs : List Itm) (l : List Fl) (k : Nat) (P : List Itm) (pa : Option Addr) (pc : Nat) (es : List Ent) (v : Value) (W : World) : Prop where
  be : Below X.heap.size X W
  sz : X.heap.size < W.heap.size
  pin : PoolIn W pa P pc
  asc : Asc P
  pat : (pa = a ∧ P = xs) ∨ ∀ ad, pa = some ad → X.heap.size + 1 ≤ ad.block
  pne : ∀ ad, pa = some ad → 0 < P.length → ad.block ≠ X.heap.size ∧ v.ownBlock ≠ some ad.block
  bo : BK X.heap.size (obC v) 64 W
  ow : W.ownsRow (X.heap.size + 1) 88 4 v es.length (ecells es)
  el : es.length = k
  en : ∀ e ∈ es, e.name.length ≤ 1000 ∧ 0 ≤ e.d.1 ∧ 0 ≤ e.d.2
  eq : storeF (n + 1) xs l = storeGo (storeF n) l ((namesS l).drop k) P es
  co : P.length + costF (n + 1) l ((namesS l).drop k) ≤ xs.length + l.length * (n + 1)
theorem name_cell {W : World} {base : Nat} {a : Option Addr} {c k : Nat} {ns : List Pa} (ho : W.ownsRow base 9 1 (.slice a ns.length c) ns.length (ns.map encStr)) (hk : k < ns.length) : ∃ g off, a = some ⟨g, off, none⟩ ∧ W.cell? ⟨g, off + k, none⟩ = some (.string ⟨ns[k].toArray⟩) := by
  rcases ho.2 with ⟨_, h2⟩ | ⟨g, cap, cur, h1, _⟩
  · omega
  · cases h1
    refine ⟨g, 0, rfl, ?_⟩
    have h := ho.cells (g := g) rfl k (.string ⟨ns[k].toArray⟩) (by rw [List.getElem?_map, List.getElem?_eq_getElem hk]; rfl)
    rwa [Go.WideShapes.add_plain] at h
section
variable {w X : World} {n : Nat} {a : Option Addr} {xs : List Itm} {l : List Fl} {k : Nat} {P : List Itm} {pa : Option Addr} {pc : Nat} {es : List Ent} {v : Value} {W : World}
theorem its_lt {B : Nat} {W : World} {a : Option Addr} {xs : List Itm} (h : Its B W a xs) : ∀ ad, a = some ad → 0 < xs.length → ad.block < B := fun ad ha hn => by
  obtain ⟨b, off, h1, h2, _⟩ := h 0 hn
  rw [ha] at h1
  cases h1
  exact h2
theorem grownBy_setCellX (W : World) (b j : Nat) (v : Value) : W.grownBy (W.setCell ⟨b, j, none⟩ v) (some b) := ⟨rfl, rfl, rfl, by simp [World.setCell], fun k _ hk => Below.heap_setCell _ _ _ k (fun e => hk (by rw [e]))⟩
theorem Its.grown {B : Nat} {W W' : World} {a : Option Addr} {xs : List Itm} {r : Option Nat} (h : Its B W a xs) (hB : B ≤ W.heap.size) (hg : W.grownBy W' r) (hne : ∀ ad, a = some ad → 0 < xs.length → r ≠ some ad.block) : Its B W' a xs := by
  intro i hi
  obtain ⟨b, off, rfl, hlt, h0, h1, h2⟩ := h i hi
  have hk := hg.block b (by omega) (fun e => hne _ rfl (by omega) e.symm)
  exact ⟨b, off, rfl, hlt, (World.cell?_of_block (a := ⟨b, off + i * 3, none⟩) hk).trans h0, (World.cell?_of_block (a := ⟨b, off + i * 3 + 1, none⟩) hk).trans h1, (World.cell?_of_block (a := ⟨b, off + i * 3 + 2, none⟩) hk).trans h2⟩
theorem PoolIn.grown {W W' : World} {a : Option Addr} {xs : List Itm} {c : Nat} {r : Option Nat} (h : PoolIn W a xs c) (hg : W.grownBy W' r) (hne : ∀ ad, a = some ad → 0 < xs.length → r ≠ some ad.block) : PoolIn W' a xs c := ⟨(h.its.grown (Nat.le_refl _) hg hne).mono hg.size, h.cap, h.len, h.dat⟩
/-- One entry more: the row in the object grows. -/
theorem St2.step (h : St2 w X n a xs l k P pa pc es v W) {Uc : World} (hb : Below W.heap.size W Uc) {nm : Pa} {dir : Bool} (he : BK W.heap.size #[.string ⟨nm.toArray⟩, .bool dir, .int .u64 0, .int .u64 0] 88 Uc) {g1 g2 : Int} {Q : List Itm} {ra : Option Addr} {rc : Nat} {W0 : World} (hW0 : W.heap.size < W0.heap.size) (hin : PoolIn Uc ra Q rc) (hasc : Asc Q) (hat : (ra = pa ∧ Q = P) ∨ ∀ ad, ra = some ad → W0.heap.size ≤ ad.block)
    (hn : nm.length ≤ 1000) (hg1 : 0 ≤ g1) (hg2 : 0 ≤ g2) (hk : k ≤ 1000) (heq : storeF (n + 1) xs l = storeGo (storeF n) l ((namesS l).drop (k + 1)) Q (es ++ [⟨nm, dir, (g1, g2)⟩])) (hco : Q.length + costF (n + 1) l ((namesS l).drop (k + 1)) ≤ xs.length + l.length * (n + 1)) :
    ∃ v' W2, Hid ((Builtin.append_ #[62, 62] 62 #[v, .slice (some ⟨((Uc.setCell ⟨W.heap.size, 2, none⟩ (.int .u64 g1)).setCell ⟨W.heap.size, 3, none⟩ (.int .u64 g2)).heap.size, 0, none⟩) 1 1]).run Tryz.prog (((Uc.setCell ⟨W.heap.size, 2, none⟩ (.int .u64 g1)).setCell ⟨W.heap.size, 3, none⟩ (.int .u64 g2)).alloc (.cells #[.string ⟨nm.toArray⟩, .bool dir, .int .u64 g1, .int .u64 g2] 88)) = .ok v' W2) ∧
      BK W.heap.size #[.string ⟨nm.toArray⟩, .bool dir, .int .u64 g1, .int .u64 g2] 88 ((Uc.setCell ⟨W.heap.size, 2, none⟩ (.int .u64 g1)).setCell ⟨W.heap.size, 3, none⟩ (.int .u64 g2)) ∧
      BK X.heap.size (obC v) 64 ((Uc.setCell ⟨W.heap.size, 2, none⟩ (.int .u64 g1)).setCell ⟨W.heap.size, 3, none⟩ (.int .u64 g2)) ∧ BK X.heap.size (obC v) 64 W2 ∧
      St2 w X n a xs l (k + 1) Q ra rc (es ++ [⟨nm, dir, (g1, g2)⟩]) v' (W2.setCell ⟨X.heap.size, 2, none⟩ v') := by
  have hsz := h.sz
  have hbs := hb.size
  obtain ⟨U1, hU1⟩ : ∃ U1, U1 = Uc.setCell ⟨W.heap.size, 2, none⟩ (.int .u64 g1) := ⟨_, rfl⟩
  obtain ⟨W1, hW1⟩ : ∃ W1, W1 = U1.setCell ⟨W.heap.size, 3, none⟩ (.int .u64 g2) := ⟨_, rfl⟩
  have he1 : BK W.heap.size #[.string ⟨nm.toArray⟩, .bool dir, .int .u64 g1, .int .u64 0] 88 U1 := by rw [hU1]; exact he.set 2 _
  have he2 : BK W.heap.size #[.string ⟨nm.toArray⟩, .bool dir, .int .u64 g1, .int .u64 g2] 88 W1 := by rw [hW1]; exact he1.set 3 _
  have hb1 : Below W.heap.size W W1 := by rw [hW1, hU1]; exact (hb.setCell (Nat.le_refl _) _).setCell (Nat.le_refl _) _
  have hz1 : W1.heap.size = Uc.heap.size := by rw [hW1, hU1]; simp [World.setCell]
  have hlow : ∀ j, v.ownBlock = some j → X.heap.size + 1 ≤ j ∧ j < W.heap.size := fun j hj => h.ow.lt j hj
  have hpa : ∀ ad, ra = some ad → 0 < Q.length → ad.block ≠ W.heap.size ∧ ad.block ≠ X.heap.size ∧ v.ownBlock ≠ some ad.block := by
    intro ad e hq
    rcases hat with ⟨h1, h2⟩ | h1
    · rw [h1] at e
      rw [h2] at hq
      have h3 := its_lt h.pin.its ad e hq
      rcases h.pat with ⟨h4, h5⟩ | h4
      · obtain ⟨g5, g6⟩ := h.pne ad e hq
        exact ⟨by omega, g5, g6⟩
      · obtain ⟨g5, g6⟩ := h.pne ad e hq
        exact ⟨by omega, g5, g6⟩
    · have h3 := h1 ad e
      exact ⟨by omega, by omega, fun e2 => by have := (hlow _ e2).2; omega⟩
  have hin1 : PoolIn W1 ra Q rc := by
    rw [hW1, hU1]
    exact (hin.grown (grownBy_setCellX _ _ _ _) (fun ad e hq e2 => (hpa ad e hq).1 (Option.some.inj e2).symm)).grown (grownBy_setCellX _ _ _ _) (fun ad e hq e2 => (hpa ad e hq).1 (Option.some.inj e2).symm)
  obtain ⟨v', W2, hrun, hown, hg, hv'⟩ := append_ents (W1.alloc (.cells #[.string ⟨nm.toArray⟩, .bool dir, .int .u64 g1, .int .u64 g2] 88)) (X.heap.size + 1) 62 v es ((own_below h.ow hb1).alloc _) (some ⟨W1.heap.size, 0, none⟩) [⟨nm, dir, (g1, g2)⟩] 1 (fun i hi => by
    obtain rfl : i = 0 := by simp at hi; omega
    have hk := BK.new W1 #[.string ⟨nm.toArray⟩, .bool dir, .int .u64 g1, .int .u64 g2] 88
    exact ⟨_, 0, rfl, hk.lt, by rw [Nat.zero_mul, hk.cell]; rfl, by rw [Nat.zero_mul, hk.cell]; rfl, by rw [Nat.zero_mul, hk.cell]; rfl, by rw [Nat.zero_mul, hk.cell]; rfl⟩) (by have := h.el; simp; omega) (by simp; omega)
  have hbo1 : BK X.heap.size (obC v) 64 W1 := h.bo.below hb1
  have hbo : BK X.heap.size (obC v) 64 W2 := (hbo1.alloc _).grow hg (fun j e hj => by have := (hlow j e).1; omega)
  have hset : (W2.setCell ⟨X.heap.size, 2, none⟩ v').heap.size = W2.heap.size := by simp [World.setCell]
  have hs2 : W1.heap.size + 1 ≤ W2.heap.size := by have := hg.size; simpa using this
  rw [← hU1, ← hW1]
  have hbX : Below X.heap.size X (W2.setCell ⟨X.heap.size, 2, none⟩ v') := (((h.be.trans (hb1.mono (by omega))).alloc (by have := h.be.size; have := hb1.size; omega) _).grown hg (by have := h.be.size; have := hb1.size; simp; omega) (fun j e => by have := (hlow j e).1; omega)).setCell (Nat.le_refl _) _
  refine ⟨v', W2, Lib.hid hrun, he2, hbo1, hbo, hbX, by omega, ?_, hasc, ?_, fun ad e hq => ⟨(hpa ad e hq).2.1, fun e2 => ?_⟩, hbo.set 2 v', own_kept hown (grownBy_setCellX W2 X.heap.size 2 v') (Nat.lt_succ_self _), by rw [List.length_append, h.el]; rfl, fun e he => ?_, heq, hco⟩
  · have h5 : PoolIn (W1.alloc (.cells #[.string ⟨nm.toArray⟩, .bool dir, .int .u64 g1, .int .u64 g2] 88)) ra Q rc := hin1.below ((Below.refl _ _).alloc (Nat.le_refl _) _)
    exact (h5.grown hg (fun ad e hq => (hpa ad e hq).2.2)).grown (grownBy_setCellX _ _ _ _) (fun ad e hq e2 => (hpa ad e hq).2.1 (Option.some.inj e2).symm)
  · rcases hat with ⟨h1, h2⟩ | h1
    · rw [h1, h2]; exact h.pat
    · exact .inr (fun ad e => by have := h1 ad e; omega)
  · rcases hv' with h6 | h6
    · exact (hpa ad e hq).2.2 (h6.symm.trans e2)
    · rw [h6] at e2
      have := its_lt hin1.its ad e hq
      have := Option.some.inj e2
      simp at this
      omega
  · rcases List.mem_append.1 he with he | he
    · exact h.en e he
    · simp at he; subst he; exact ⟨hn, hg1, hg2⟩
end
end Go.Proofs.YtceacjnhkcikgaaGreatDoor
