/- TopTreeEdits: the state of its first loop. -/
import Derived.Test.YtceacjnhkcikgaaGreatDoorTtEx
import Derived.Test.YtceacjnhkcikgaaGreatDoorTtRe
namespace Go.Proofs.YtceacjnhkcikgaaGreatDoor
open Go.RowKit Go.Shelf
set_option linter.unusedVariables false

/-- A list, with where it lies. -/
abbrev LsT := List Fl × Option Addr × Nat
def encL (t : LsT) : Value := .slice t.2.1 t.1.length t.2.2
def rootF (t : LsT) : Int × Int := (pureF 101 t.1).2
theorem infoRow : (Tryz.prog.info? 22).map (fun i => (i.zero, i.size, i.bytes)) = some (some (.slice none 0 0), 1, 24) := by kernel_rfl
/-- The state between two edits. -/
structure LSt (W0 : World) (base db k : Nat) (P : List Itm) (pa : Option Addr) (pc : Nat) (L : List LsT) (t : LsT) (v8 v9 : Value) (W : World) : Prop where
  be : Below db W0 W
  bb : db < base ∧ base ≤ W.heap.size
  pin : PoolIn W pa P pc
  asc : Asc P
  pav : ∀ ad, pa = some ad → 0 < P.length → ad.block ≠ db ∧ v8.ownBlock ≠ some ad.block ∧ v9.ownBlock ≠ some ad.block
  pl : P.length ≤ 20201 * (k + 1)
  bd : BK db #[.int .u64 (rootF t).1, .int .u64 (rootF t).2] 31 W
  r8 : W.ownsRow base 31 2 v8 (L ++ [t]).length (dcells ((L ++ [t]).map rootF))
  r9 : W.ownsRow base 22 1 v9 (L ++ [t]).length ((L ++ [t]).map encL)
  fls : ∀ s ∈ L ++ [t], Fls W.heap.size W s.2.1 s.1 ∧ (∀ ad, s.2.1 = some ad → 0 < s.1.length → ad.block ≠ db ∧ v8.ownBlock ≠ some ad.block ∧ v9.ownBlock ≠ some ad.block)
  inp : ∀ s ∈ L ++ [t], InP P s.1
  sz : ∀ s ∈ L ++ [t], s.1.length ≤ 10 + k ∧ ∀ x ∈ s.1, x.data.length ≤ 200
  ln : (L ++ [t]).length ≤ k + 1
section
variable {W0 W W' : World} {base db k : Nat} {P : List Itm} {pa : Option Addr} {pc : Nat} {L : List LsT} {t : LsT} {v8 v9 : Value}
theorem LSt.below (h : LSt W0 base db k P pa pc L t v8 v9 W) (hb : Below W.heap.size W W') : LSt W0 base db k P pa pc L t v8 v9 W' :=
  ⟨h.be.trans (hb.mono (by have := h.bb; omega)), ⟨h.bb.1, Nat.le_trans h.bb.2 hb.size⟩, h.pin.below hb, h.asc, h.pav, h.pl, h.bd.below hb, own_below h.r8 hb, own_below h.r9 hb, fun s hs => ⟨(h.fls s hs).1.ahead hb, (h.fls s hs).2⟩, h.inp, h.sz, h.ln⟩
theorem LSt.next (h : LSt W0 base db k P pa pc L t v8 v9 W) : LSt W0 base db (k + 1) P pa pc L t v8 v9 W :=
  ⟨h.be, h.bb, h.pin, h.asc, h.pav, by have := h.pl; omega, h.bd, h.r8, h.r9, h.fls, h.inp, fun s hs => ⟨by have := (h.sz s hs).1; omega, (h.sz s hs).2⟩, by have := h.ln; omega⟩
theorem gin_lt {B : Nat} {W : World} {a : Option Addr} {l : List Fl} (h : GIn flCs 2 B W a l) : ∀ ad, a = some ad → 0 < l.length → ad.block < B := fun ad ha hn => by
  obtain ⟨b, off, h1, h2, _⟩ := fl_cells h hn
  rw [ha] at h1
  cases h1
  exact h2
theorem gin_grown {W W' : World} {a : Option Addr} {l : List Fl} {r : Option Nat} (h : Fls W.heap.size W a l) (hg : W.grownBy W' r) (hne : ∀ ad, a = some ad → 0 < l.length → r ≠ some ad.block) : Fls W'.heap.size W' a l := by
  intro k hk
  obtain ⟨b, off, h1, h2, h3⟩ := h k hk
  have hb := hg.block b h2 (fun e => hne _ h1 (by omega) e.symm)
  exact ⟨b, off, h1, Nat.lt_of_lt_of_le h2 hg.size, fun j v hj => (World.cell?_of_block (a := ⟨b, off + k * 2 + j, none⟩) hb).trans (h3 j v hj)⟩
/-- Two own rows of different types lie in different blocks. -/
theorem rows_apart {b1 b2 z1 z2 m1 m2 : Nat} {e1 e2 : TypeId} {u1 u2 : Value} {c1 c2 : List Value} (h1 : W.ownsRow b1 e1 z1 u1 m1 c1) (h2 : W.ownsRow b2 e2 z2 u2 m2 c2) (hne : e1 ≠ e2) : ∀ j, u1.ownBlock = some j → u2.ownBlock ≠ some j := by
  intro j hj hj2
  have hl := (h1.lt j hj).2
  obtain ⟨o, ho⟩ : ∃ o, W.heap[j]? = some o := ⟨_, Array.getElem?_eq_getElem hl⟩
  obtain ⟨hc, ht⟩ := own_cellsT h1 hj ho
  obtain ⟨_, ht2⟩ := own_cellsT h2 hj2 ho
  cases o with
  | cells cs t fr => exact hne ((ht cs t fr rfl).symm.trans (ht2 cs t fr rfl))
  | _ => cases hc
/-- One edit more: the box, the row of roots, the row of lists. -/
theorem LSt.push (h : LSt W0 base db k P pa pc L t v8 v9 W) {Q : List Itm} {ra : Option Addr} {rc : Nat} {B : Nat} {s : LsT} (hin : PoolIn W ra Q rc) (hasc : Asc Q) (hB : base ≤ B) (h8 : ∀ j, v8.ownBlock = some j → j < B) (h9 : ∀ j, v9.ownBlock = some j → j < B)
    (hat : (ra = pa ∧ Q = P) ∨ ∀ ad, ra = some ad → B ≤ ad.block) (hql : Q.length ≤ P.length + 20201) (hsub : ∀ y ∈ P, y ∈ Q) (hs : InP Q s.1) (hsf : Fls W.heap.size W s.2.1 s.1) (hsn : ∀ ad, s.2.1 = some ad → 0 < s.1.length → B ≤ ad.block) (hsl : s.1.length ≤ 10 + (k + 1)) (hsd : ∀ x ∈ s.1, x.data.length ≤ 200) (hk : k ≤ 1000) :
    ∃ v8' v9' W1 W2,
      Hid ((Builtin.append_ #[35, 35] 35 #[v8, .slice (some ⟨W.heap.size, 0, none⟩) 1 1]).run Tryz.prog (((W.setCell ⟨db, 0, none⟩ (.int .u64 (rootF s).1)).setCell ⟨db, 1, none⟩ (.int .u64 (rootF s).2)).alloc (.cells #[.int .u64 (rootF s).1, .int .u64 (rootF s).2] 31)).drew = .ok v8' W1) ∧
      Hid ((Builtin.append_ #[36, 36] 36 #[v9, .slice (some ⟨W1.heap.size, 0, none⟩) 1 1]).run Tryz.prog (W1.alloc (.cells #[encL s] 22)) = .ok v9' W2) ∧
      LSt W0 base db (k + 1) Q ra rc (L ++ [t]) s v8' v9' W2 := by
  have hbb := h.bb
  obtain ⟨U1, hU1⟩ : ∃ U1, U1 = W.setCell ⟨db, 0, none⟩ (.int .u64 (rootF s).1) := ⟨_, rfl⟩
  obtain ⟨U, hU⟩ : ∃ U, U = (U1.setCell ⟨db, 1, none⟩ (.int .u64 (rootF s).2)).drew := ⟨_, rfl⟩
  have hg1 : W.grownBy U1 (some db) := by rw [hU1]; exact grownBy_setCellX _ _ _ _
  have hg2 : U1.grownBy U (some db) := by
    have h := grownBy_setCellX U1 db 1 (.int .u64 (rootF s).2)
    rw [hU]
    exact ⟨h.os, (show (U1.setCell ⟨db, 1, none⟩ (.int .u64 (rootF s).2)).drew.tape = (U1.setCell ⟨db, 1, none⟩ (.int .u64 (rootF s).2)).tape by rfl).trans h.tape, h.output, h.size, h.block⟩
  have hz : U.heap.size = W.heap.size := by
    rw [hU, hU1]
    show ((W.setCell ⟨db, 0, none⟩ (.int .u64 (rootF s).1)).setCell ⟨db, 1, none⟩ (.int .u64 (rootF s).2)).heap.size = _
    simp [World.setCell]
  have hbd : BK db #[.int .u64 (rootF s).1, .int .u64 (rootF s).2] 31 U := by
    rw [hU, hU1]; exact (show BK db _ _ ((W.setCell ⟨db, 0, none⟩ (.int .u64 (rootF s).1)).setCell ⟨db, 1, none⟩ (.int .u64 (rootF s).2)) from (h.bd.set 0 _).set 1 _)
  have r8 : U.ownsRow base 31 2 v8 (L ++ [t]).length (dcells ((L ++ [t]).map rootF)) := own_kept (own_kept h.r8 hg1 hbb.1) hg2 hbb.1
  have r9 : U.ownsRow base 22 1 v9 (L ++ [t]).length ((L ++ [t]).map encL) := own_kept (own_kept h.r9 hg1 hbb.1) hg2 hbb.1
  have hln := h.ln
  -- the roots
  have hr8l : ((L ++ [t]).map rootF).length = (L ++ [t]).length := List.length_map _
  obtain ⟨v8', W1, hrun8, ho8, hg8, hv8⟩ := append_digs (U.alloc (.cells #[.int .u64 (rootF s).1, .int .u64 (rootF s).2] 31)) base 35 v8 ((L ++ [t]).map rootF) (by rw [hr8l]; exact r8.alloc _) (some ⟨U.heap.size, 0, none⟩) [rootF s] 1 (fun i hi => by
    obtain rfl : i = 0 := by simp at hi; omega
    have hk := BK.new U #[.int .u64 (rootF s).1, .int .u64 (rootF s).2] 31
    exact ⟨_, 0, rfl, hk.lt, by rw [Nat.zero_mul, hk.cell]; rfl, by rw [Nat.zero_mul, hk.cell]; rfl⟩) (by rw [hr8l]; simp at hln ⊢; omega) (by simp; omega)
  rw [← List.map_singleton (f := rootF), ← List.map_append, List.length_map] at ho8
  have hap8 := rows_apart (r8.alloc (.cells #[.int .u64 (rootF s).1, .int .u64 (rootF s).2] 31)) (r9.alloc (.cells #[.int .u64 (rootF s).1, .int .u64 (rootF s).2] 31)) (by decide)
  have r91 : W1.ownsRow base 22 1 v9 (L ++ [t]).length ((L ++ [t]).map encL) := (r9.alloc _).kept hg8 (by
    cases hv : v9.ownBlock with
    | none => exact .inl rfl
    | some j => exact .inr (fun e => hap8 j e.symm hv))
  -- the lists
  obtain ⟨i0, hi0, hz0, hz1, hz2⟩ := info_parts infoRow
  obtain ⟨v9', W2, hrun9, ho9, hg9, hv9⟩ := append_src (P := Tryz.prog) (W1.alloc (.cells #[encL s] 22)) base 36 36 22 i0 _ 1 24 Tryz.underlying36 hi0 hz0 hz1 hz2 rfl (by decide) v9 (L ++ [t]).length ((L ++ [t]).map encL) (r91.alloc _) (some ⟨W1.heap.size, 0, none⟩) 1 1 [encL s] rfl (.inr ⟨_, rfl, fun j u hj => by
    have hk := BK.new W1 #[encL s] 22
    rw [Addr.add_lit, Nat.zero_add, hk.cell]
    simpa using hj⟩) (fun u hu => by simp at hu; subst hu; rfl) (by unfold maxLen; omega) (by omega) (by have := hg8.size; simp at this ⊢; omega)
  have e9 : (L ++ [t]).map encL ++ [encL s] = ((L ++ [t]) ++ [s]).map encL := by simp
  rw [e9] at ho9
  have hap9 := rows_apart (ho8.alloc (.cells #[encL s] 22)) (r91.alloc (.cells #[encL s] 22)) (by decide)
  have r82 : W2.ownsRow base 31 2 v8' ((L ++ [t]) ++ [s]).length (dcells (((L ++ [t]) ++ [s]).map rootF)) := (ho8.alloc _).kept hg9 (by
    cases hv : v8'.ownBlock with
    | none => exact .inl rfl
    | some j => exact .inr (fun e => hap9 j hv e.symm))
  have hlow8 : ∀ j, v8.ownBlock = some j → base ≤ j := fun j hj => (r8.lt j hj).1
  have hlow9 : ∀ j, v9.ownBlock = some j → base ≤ j := fun j hj => (r9.lt j hj).1
  have hs1 : W.heap.size + 1 ≤ W1.heap.size := by have := hg8.size; rw [World.size_alloc] at this; omega
  have hs2 : W1.heap.size + 1 ≤ W2.heap.size := by have := hg9.size; rw [World.size_alloc] at this; omega
  -- what is kept
  have keepP : ∀ {ad : Addr}, ad.block < W.heap.size → (ad.block ≠ db ∧ v8.ownBlock ≠ some ad.block ∧ v9.ownBlock ≠ some ad.block) → (ad.block ≠ db ∧ v8'.ownBlock ≠ some ad.block ∧ v9'.ownBlock ≠ some ad.block) := by
    rintro ad hlt ⟨a1, a2, a3⟩
    refine ⟨a1, ?_, ?_⟩
    · rcases hv8 with e | e
      · rw [e]; exact a2
      · rw [e]; intro e2; have := Option.some.inj e2; rw [World.size_alloc] at this; omega
    · rcases hv9 with e | e
      · rw [e]; exact a3
      · rw [e]; intro e2; have := Option.some.inj e2; rw [World.size_alloc] at this; omega
  have pv : ∀ ad, ra = some ad → 0 < Q.length → ad.block ≠ db ∧ v8.ownBlock ≠ some ad.block ∧ v9.ownBlock ≠ some ad.block := by
    intro ad e hq
    rcases hat with ⟨h1, h2⟩ | h1
    · rw [h1] at e; rw [h2] at hq; exact h.pav ad e hq
    · have h3 := h1 ad e
      exact ⟨by omega, fun e2 => by have := h8 _ e2; omega, fun e2 => by have := h9 _ e2; omega⟩
  have hin2 : PoolIn W2 ra Q rc := by
    have q1 : PoolIn U ra Q rc := (hin.grown hg1 (fun ad e hq e2 => (pv ad e hq).1 (Option.some.inj e2).symm)).grown hg2 (fun ad e hq e2 => (pv ad e hq).1 (Option.some.inj e2).symm)
    have q2 : PoolIn W1 ra Q rc := (q1.below ((Below.refl _ _).alloc (Nat.le_refl _) _)).grown hg8 (fun ad e hq => (pv ad e hq).2.1)
    exact (q2.below ((Below.refl _ _).alloc (Nat.le_refl _) _)).grown hg9 (fun ad e hq => (pv ad e hq).2.2)
  have fl2 : ∀ u : LsT, Fls W.heap.size W u.2.1 u.1 → (∀ ad, u.2.1 = some ad → 0 < u.1.length → ad.block ≠ db ∧ v8.ownBlock ≠ some ad.block ∧ v9.ownBlock ≠ some ad.block) → Fls W2.heap.size W2 u.2.1 u.1 ∧ (∀ ad, u.2.1 = some ad → 0 < u.1.length → ad.block ≠ db ∧ v8'.ownBlock ≠ some ad.block ∧ v9'.ownBlock ≠ some ad.block) := by
    intro u hu ha
    have q1 : Fls U.heap.size U u.2.1 u.1 := gin_grown (gin_grown hu hg1 (fun ad e hq e2 => (ha ad e hq).1 (Option.some.inj e2).symm)) hg2 (fun ad e hq e2 => (ha ad e hq).1 (Option.some.inj e2).symm)
    have q2 : Fls W1.heap.size W1 u.2.1 u.1 := gin_grown (q1.ahead ((Below.refl _ _).alloc (Nat.le_refl _) _)) hg8 (fun ad e hq => (ha ad e hq).2.1)
    exact ⟨gin_grown (q2.ahead ((Below.refl _ _).alloc (Nat.le_refl _) _)) hg9 (fun ad e hq => (ha ad e hq).2.2), fun ad e hq => keepP (gin_lt hu ad e hq) (ha ad e hq)⟩
  have hbe : Below db W0 W2 := by
    have q1 : Below db W0 U := (h.be.grown hg1 (by omega) (fun j e => by cases e; exact Nat.le_refl _)).grown hg2 (by have := hg1.size; omega) (fun j e => by cases e; exact Nat.le_refl _)
    have q2 : Below db W0 W1 := (q1.alloc (by omega) _).grown hg8 (by simp; omega) (fun j e => by have := hlow8 j e; omega)
    exact (q2.alloc (by omega) _).grown hg9 (by simp; omega) (fun j e => by have := hlow9 j e; omega)
  have hbd2 : BK db #[.int .u64 (rootF s).1, .int .u64 (rootF s).2] 31 W2 := (((hbd.alloc _).grow hg8 (fun j e hj => by have := hlow8 j e; omega)).alloc _).grow hg9 (fun j e hj => by have := hlow9 j e; omega)
  have el : ((L ++ [t]) ++ [s]).length = (L ++ [t]).length + 1 := by simp
  have hrun8' : (Builtin.append_ #[35, 35] 35 #[v8, .slice (some ⟨W.heap.size, 0, none⟩) 1 1]).run Tryz.prog ((U1.setCell ⟨db, 1, none⟩ (.int .u64 (rootF s).2)).alloc (.cells #[.int .u64 (rootF s).1, .int .u64 (rootF s).2] 31)).drew = .ok v8' W1 := by
    have h := hrun8
    simp only [List.length_singleton] at h
    rw [hz, hU] at h
    exact h
  rw [← hU1]
  refine ⟨v8', v9', W1, W2, Lib.hid hrun8', Lib.hid hrun9, hbe, ⟨hbb.1, by omega⟩, hin2, hasc, fun ad e hq => keepP (its_lt hin.its ad e hq) (pv ad e hq), by have := h.pl; omega, hbd2, r82, by rw [el]; exact ho9, fun u hu => ?_, fun u hu => ?_, fun u hu => ?_, by rw [el]; omega⟩
  · rcases List.mem_append.1 hu with hu | hu
    · exact fl2 u (h.fls u hu).1 (h.fls u hu).2
    · obtain rfl := List.mem_singleton.1 hu
      exact fl2 u hsf (fun ad e hq => by
        have h3 := hsn ad e hq
        exact ⟨by omega, fun e2 => by have := h8 _ e2; omega, fun e2 => by have := h9 _ e2; omega⟩)
  · rcases List.mem_append.1 hu with hu | hu
    · exact (h.inp u hu).mono hsub
    · obtain rfl := List.mem_singleton.1 hu; exact hs
  · rcases List.mem_append.1 hu with hu | hu
    · exact ⟨by have := (h.sz u hu).1; omega, (h.sz u hu).2⟩
    · obtain rfl := List.mem_singleton.1 hu; exact ⟨hsl, hsd⟩
end
/-- The state ahead of the first edit. -/
theorem LSt.start {w u : World} {Q : List Itm} {ra : Option Addr} {rc : Nat} {l : List Fl} {la : Option Addr} {lc : Nat} {d1 d2 : Int} (hw : Below w.heap.size w u) (hin : PoolIn u ra Q rc) (hasc : Asc Q) (hql : Q.length ≤ 20201) (hd : (d1, d2) = (pureF 101 l).2) (hi : InP Q l) (hl : Fls w.heap.size w la l) (hll : l.length ≤ 10) (hld : ∀ x ∈ l, x.data.length ≤ 200) :
    LSt u (u.heap.size + 1) u.heap.size 0 Q ra rc [] (l, la, lc) (.slice (some ⟨u.heap.size + 1, 0, none⟩) 1 1) (.slice (some ⟨u.heap.size + 1 + 1, 0, none⟩) 1 1) (((u.alloc (.cells #[.int .u64 d1, .int .u64 d2] 31)).alloc (.cells #[.int .u64 d1, .int .u64 d2] 31)).alloc (.cells #[.slice la l.length lc] 22)) := by
  have e1 : (rootF (l, la, lc)).1 = d1 := by unfold rootF; rw [← hd]
  have e2 : (rootF (l, la, lc)).2 = d2 := by unfold rootF; rw [← hd]
  obtain ⟨W, hW⟩ : ∃ W, W = ((u.alloc (.cells #[.int .u64 d1, .int .u64 d2] 31)).alloc (.cells #[.int .u64 d1, .int .u64 d2] 31)).alloc (.cells #[.slice la l.length lc] 22) := ⟨_, rfl⟩
  have hz : W.heap.size = u.heap.size + 3 := by rw [hW]; simp
  have hb : Below u.heap.size u W := by rw [hW]; exact (((Below.refl _ u).alloc (Nat.le_refl _) _).alloc (by simp) _).alloc (by simp; omega) _
  have k1 : BK u.heap.size #[.int .u64 d1, .int .u64 d2] 31 W := by rw [hW]; exact ((BK.new _ _ _).alloc _).alloc _
  have k2 : BK (u.heap.size + 1) #[.int .u64 d1, .int .u64 d2] 31 W := by rw [hW]; exact (BK.new2 _ _ _ _).alloc _
  have k3 : BK (u.heap.size + 1 + 1) #[.slice la l.length lc] 22 W := by
    have h := BK.new ((u.alloc (.cells #[.int .u64 d1, .int .u64 d2] 31)).alloc (.cells #[.int .u64 d1, .int .u64 d2] 31)) #[.slice la l.length lc] 22
    simp only [World.size_alloc] at h
    rw [hW]; exact h
  rw [← hW]
  have hws := hw.size
  refine ⟨hb, ⟨Nat.lt_succ_self _, by omega⟩, hin.below hb, hasc, fun ad e hq => ?_, by omega, by rw [e1, e2]; exact k1, ⟨rfl, .inr ⟨_, 1, _, rfl, Nat.le_refl _, k2, Nat.le_refl _, by unfold maxLen; omega, rfl, ?_⟩⟩, ⟨rfl, .inr ⟨_, 1, _, rfl, by omega, k3, Nat.le_refl _, by unfold maxLen; omega, rfl, rfl⟩⟩, fun s hs => ?_, fun s hs => ?_, fun s hs => ?_, by simp⟩
  · have := its_lt hin.its ad e hq
    exact ⟨by omega, fun e3 => by have := Option.some.inj e3; simp at this; omega, fun e3 => by have := Option.some.inj e3; simp at this; omega⟩
  · simp [dcells, e1, e2]
  · obtain rfl := List.mem_singleton.1 (by simpa using hs)
    refine ⟨(hl.ahead hw).ahead hb, fun ad e hq => ?_⟩
    have := gin_lt hl ad e hq
    exact ⟨by omega, fun e3 => by have := Option.some.inj e3; simp at this; omega, fun e3 => by have := Option.some.inj e3; simp at this; omega⟩
  · obtain rfl := List.mem_singleton.1 (by simpa using hs)
    exact hi
  · obtain rfl := List.mem_singleton.1 (by simpa using hs)
    exact ⟨by omega, hld⟩
/-- A cell of a row of one-cell elements. -/
theorem one_cell {W : World} {base : Nat} {e : TypeId} {a : Option Addr} {n c k : Nat} {cs : List Value} {u : Value} (ho : W.ownsRow base e 1 (.slice a n c) n cs) (hk : cs[k]? = some u) : ∃ g off, a = some ⟨g, off, none⟩ ∧ W.cell? ⟨g, off + k, none⟩ = some u := by
  rcases ho.2 with ⟨_, h2⟩ | ⟨g, cap, cur, h1, _⟩
  · have := ho.1
    have h3 := (List.getElem?_eq_some_iff.1 hk).1
    rw [this, h2] at h3
    omega
  · cases h1
    refine ⟨g, 0, rfl, ?_⟩
    have h := ho.cells (g := g) rfl k u hk
    rwa [Go.WideShapes.add_plain] at h
end Go.Proofs.YtceacjnhkcikgaaGreatDoor
