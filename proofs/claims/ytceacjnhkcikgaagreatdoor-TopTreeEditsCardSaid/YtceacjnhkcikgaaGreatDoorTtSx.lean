/- The two maps of tree.store in memory. -/
import Derived.Test.YtceacjnhkcikgaaGreatDoorTtSw
import Derived.Test.YtceacjnhkcikgaaGreatDoorTtRb
namespace Go.Proofs.YtceacjnhkcikgaaGreatDoor
open Go.RowKit Go.Shelf
set_option linter.unusedVariables false

def flV (x : Fl) : Value := .agg #[.string ⟨x.path.toArray⟩, .string ⟨x.data.toArray⟩]
/-- The maps of the files that came so far. -/
structure Bel (base mb fb nb nf : Nat) (pre : List Fl) (R : Pa → Value) (W : World) : Prop where
  mB : MapS mb nb (fun s => if insideS pre s = [] then none else some (R s)) W
  mF : MapS fb nf (fun s => (filesM pre s).map flV) W
  row : ∀ s, W.ownsRow base 43 2 (R s) (insideS pre s).length (gcs flCs (insideS pre s))
  nil : ∀ s, insideS pre s = [] → R s = .slice none 0 0
  sep : ∀ s s' k, s ≠ s' → (R s).ownBlock = some k → (R s').ownBlock ≠ some k
  lb : mb < base
  lf : fb < base
  ne : mb ≠ fb
  bb : base ≤ W.heap.size
section
variable {base mb fb nb nf : Nat} {pre : List Fl} {R : Pa → Value} {W W' : World}
theorem Bel.below (h : Bel base mb fb nb nf pre R W) (hb : Below W.heap.size W W') : Bel base mb fb nb nf pre R W' :=
  ⟨h.mB.below hb, h.mF.below hb, fun s => own_below (h.row s) hb, h.nil, h.sep, h.lb, h.lf, h.ne, Nat.le_trans h.bb hb.size⟩
theorem Bel.start (W : World) : Bel (W.heap.size + 2) W.heap.size (W.heap.size + 1) 0 0 [] (fun _ => .slice none 0 0) ((W.alloc (.map #[] 0)).alloc (.map #[] 0)) := by
  refine ⟨((MapS.made W).alloc _).eq (fun d => by simp [insideS]), ?_, fun s => World.ownsRow_nil _ _ _ _, fun _ _ => rfl, fun _ _ k _ h => (by cases h), (by omega), (by omega), (by omega), (by simp)⟩
  have h := MapS.made (W.alloc (.map #[] 0))
  rw [World.size_alloc] at h
  exact h.eq (fun d => rfl)
theorem zeroRowF (W : World) : (zeroValue 22).run Tryz.prog W = .ok (.slice none 0 0) W := by kernel_rfl
theorem zeroFl (W : World) : (zeroValue 43).run Tryz.prog W = .ok (flV ⟨[], []⟩) W := by kernel_rfl
theorem Bel.look (h : Bel base mb fb nb nf pre R W) {s : Pa} (hs : s.length ≤ 1000000) : (Instr.lookup 75 (.map (some mb)) (.string ⟨s.toArray⟩) false).run Tryz.prog W = .ok (R s) W := by
  have h1 := h.mB.look Tryz.underlying75 (zeroRowF W) hs
  rw [h1]
  by_cases e : insideS pre s = []
  · rw [if_pos e, h.nil s e]; rfl
  · rw [if_neg e]; rfl
theorem Bel.lookF (h : Bel base mb fb nb nf pre R W) {s : Pa} (hs : s.length ≤ 1000000) : (Instr.lookup 76 (.map (some fb)) (.string ⟨s.toArray⟩) true).run Tryz.prog W = .ok (.tuple #[flV ((filesM pre s).getD ⟨[], []⟩), .bool (filesM pre s).isSome]) W := by
  have h1 := h.mF.lookOk Tryz.underlying76 (zeroFl W) hs
  rw [h1]
  cases filesM pre s <;> rfl
theorem Bel.flat (h : Bel base mb fb nb nf pre R W) {x : Fl} (hd : deepS x = false) (hs : (firstS x).length ≤ 1000000) (hn : (nf : Int) ≤ 1000000000) :
    ∃ W', (Instr.mapUpdate 76 (.map (some fb)) (.string ⟨(firstS x).toArray⟩) (flV x)).run Tryz.prog W = .ok () W' ∧ Bel base mb fb nb (nf + 1) (pre ++ [x]) R W' ∧ W.grownBy W' (some fb) := by
  obtain ⟨W', h1, h2, h3, h4⟩ := h.mF.put Tryz.underlying76 hs hn (flV x)
  have hin : ∀ s, insideS (pre ++ [x]) s = insideS pre s := fun s => by rw [inside_app, inside_one, if_neg (by rw [hd]; simp), List.append_nil]
  refine ⟨W', h1, ⟨(h.mB.kept h3 (fun e => h.ne (Option.some.inj e))).eq (fun s => by rw [hin]), h2.eq (fun s => ?_), fun s => ?_, fun s e => h.nil s (by rw [← hin]; exact e), h.sep, h.lb, h.lf, h.ne, by rw [h4]; exact h.bb⟩, h3⟩
  · rw [files_app]
    by_cases e : s = firstS x
    · rw [if_pos e, if_pos ⟨hd, e.symm⟩]; rfl
    · rw [if_neg e, if_neg (fun h5 => e h5.2.symm)]
  · rw [hin]; exact own_kept (h.row s) h3 h.lf
theorem Bel.deep (h : Bel base mb fb nb nf pre R W) {x : Fl} (hd : deepS x = true) (hs : (firstS x).length ≤ 1000000) (hn : (nb : Int) ≤ 1000000000) (hl : (pre.length : Int) ≤ 1000000) :
    ∃ v' W2 W', (Builtin.append_ #[22, 22] 22 #[R (firstS x), .slice (some ⟨W.heap.size, 0, none⟩) 1 1]).run Tryz.prog (W.alloc (.cells #[.string ⟨(cutS x.path).2.1.toArray⟩, .string ⟨x.data.toArray⟩] 43)) = .ok v' W2 ∧
      (Instr.mapUpdate 75 (.map (some mb)) (.string ⟨(firstS x).toArray⟩) v').run Tryz.prog W2 = .ok () W' ∧ Bel base mb fb (nb + 1) nf (pre ++ [x]) (fun s => if s = firstS x then v' else R s) W' ∧ Below mb W W' := by
  have hil : (((insideS pre (firstS x)).length : Nat) : Int) ≤ 1000000 := by
    have : (insideS pre (firstS x)).length ≤ pre.length := by unfold insideS; rw [List.length_map]; exact List.length_filter_le _ _
    omega
  obtain ⟨v', W2, hr, ho, hg, hb⟩ := append_fl rfl (h.row (firstS x)) (restS' x) hil h.bb
  have hg1 : W.grownBy (W.alloc (.cells (flCs (restS' x)).toArray 43)) (R (firstS x)).ownBlock := World.grownBy_alloc _ _ _
  have hlow : ∀ k, (R (firstS x)).ownBlock = some k → base ≤ k := fun k hk => ((h.row (firstS x)).lt k hk).1
  have hm2 : MapS mb nb (fun s => if insideS pre s = [] then none else some (R s)) W2 := (h.mB.alloc _).kept hg (fun e => by have := hlow mb e.symm; have := h.lb; omega)
  have hf2 : MapS fb nf (fun s => (filesM pre s).map flV) W2 := (h.mF.alloc _).kept hg (fun e => by have := hlow fb e.symm; have := h.lf; omega)
  obtain ⟨W', h1, h2, h3, h4⟩ := hm2.put Tryz.underlying75 hs hn v'
  have hsz : W.heap.size + 1 ≤ W2.heap.size := by have := hg.size; simpa using this
  have hin : ∀ s, insideS (pre ++ [x]) s = insideS pre s ++ if s = firstS x then [restS' x] else [] := fun s => by
    rw [inside_app, inside_one]
    by_cases e : s = firstS x
    · rw [if_pos e, if_pos ⟨hd, e.symm⟩]
    · rw [if_neg e, if_neg (fun h5 => e h5.2.symm)]
  refine ⟨v', W2, W', hr.out, h1, ⟨h2.eq (fun s => ?_), (hf2.kept h3 (fun e => h.ne (Option.some.inj e).symm)).eq (fun s => ?_), fun s => ?_, fun s e => ?_, fun s s' k hne hk => ?_, h.lb, h.lf, h.ne, by have := h.bb; omega⟩, ?_⟩
  · rw [hin]
    by_cases e : s = firstS x
    · rw [if_pos e, if_pos e, if_neg (by simp), if_pos e]
    · rw [if_neg e, if_neg e, List.append_nil]
      simp only [if_neg e]
  · rw [files_app, if_neg (by rw [hd]; simp)]
  · rw [hin]
    by_cases e : s = firstS x
    · subst e
      rw [if_pos rfl, if_pos rfl, List.length_append, List.length_singleton]
      exact own_kept ho h3 h.lb
    · rw [if_neg e, if_neg e, List.append_nil]
      refine own_kept (((h.row s).alloc _).kept hg ?_) h3 h.lb
      cases hv : (R s).ownBlock with
      | none => exact .inl rfl
      | some k => exact .inr (fun e2 => h.sep s (firstS x) k e hv e2.symm)
  · rw [hin] at e
    by_cases e2 : s = firstS x
    · rw [if_pos e2] at e; simp at e
    · rw [if_neg e2, List.append_nil] at e
      rw [if_neg e2]; exact h.nil s e
  · have hlt : ∀ s k, (R s).ownBlock = some k → k < W.heap.size := fun s k hk => ((h.row s).lt k hk).2
    by_cases e : s = firstS x
    · rw [if_pos e] at hk
      rw [if_neg (fun e2 => hne (by rw [e, e2]))]
      rcases hb with hb | hb
      · rw [hb] at hk
        exact h.sep _ _ k (fun e2 => hne (by rw [e, e2])) hk
      · rw [hb] at hk
        cases hk
        intro e2
        have := hlt s' _ e2
        omega
    · rw [if_neg e] at hk
      by_cases e2 : s' = firstS x
      · rw [if_pos e2]
        rcases hb with hb | hb
        · rw [hb]; exact h.sep _ _ k (by rw [← e2]; exact hne) hk
        · rw [hb]; intro e3; cases e3; have := hlt s _ hk; omega
      · rw [if_neg e2]; exact h.sep _ _ k hne hk
  · have hb1 : Below mb W (W.alloc (.cells (flCs (restS' x)).toArray 43)) := (Below.refl _ W).alloc (by have := h.lb; have := h.bb; omega) _
    exact (hb1.grown hg (by have := h.lb; have := h.bb; simp; omega) (fun k e => by have := hlow k e; have := h.lb; omega)).grown h3 (by have := h.lb; have := h.bb; omega) (fun k e => by cases e; omega)
end
end Go.Proofs.YtceacjnhkcikgaaGreatDoor
