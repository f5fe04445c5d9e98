/- Histories: the plain law of visiting. -/
import Derived.Test.YtgdhkcocdmdoaaaGreatRpM
namespace Go.Proofs.YtgdhkcocdmdoaaaGreat
open Go.RowKit Go.Shelf
set_option linter.unusedVariables false

/-- A commit, or why there is none. -/
def commitS (xs : List Itm) (d : Int × Int) : Ob × Int := if (getS xs d).2 ≠ 0 then (obZ, 8) else if (getS xs d).1.kind ≠ 3 then (obZ, 9) else ((getS xs d).1, 0)
theorem commit_ok {xs : List Itm} {d : Int × Int} (h : (commitS xs d).2 = 0) : (getS xs d).2 = 0 ∧ (getS xs d).1.kind = 3 ∧ commitS xs d = ((getS xs d).1, 0) := by
  unfold commitS at h ⊢
  by_cases h1 : (getS xs d).2 = 0
  · by_cases h2 : (getS xs d).1.kind = 3
    · exact ⟨h1, h2, by simp [h1, h2]⟩
    · simp [h1, h2] at h
  · simp [h1] at h
theorem pars_le {xs : List Itm} {d : Int × Int} (h : (commitS xs d).2 = 0) : (commitS xs d).1.pars.length ≤ 200 := by
  obtain ⟨h1, h2, h3⟩ := commit_ok h
  rw [h3]
  obtain ⟨x, _, _, hd⟩ := getS_good h1
  have hg : decodeS x.data = ((getS xs d).1, 0) := by rw [hd, ← h1]
  have he : (encodeS (getS xs d).1).2 = 0 := by rw [(decode_good hg).1]
  have hl := links_le (getS xs d).1
  rw [links_form he, List.length_append] at hl
  simp only
  omega
/-- Visiting: what is open (the next one first), what was visited, in order. -/
def visF (xs : List Itm) : Nat → List (Int × Int) → List (Int × Int) → List (Int × Int) × Int
  | 0, _, met => (met, 0)
  | f + 1, [], met => (met, 0)
  | f + 1, d :: st, met => if d ∈ met then visF xs f st met else if (commitS xs d).2 ≠ 0 then ([], (commitS xs d).2) else visF xs f ((commitS xs d).1.pars ++ st) (met ++ [d])
theorem mea_perm (xs : List Itm) {st st' met met' : List (Int × Int)} (h1 : st.length = st'.length) (h2 : ∀ d, d ∈ met ↔ d ∈ met') : mea xs st met = mea xs st' met' := by
  unfold mea
  rw [h1]
  congr 3
  funext x
  congr 1
  rw [decide_eq_decide]
  exact h2 x.d
theorem mea_pop' (xs : List Itm) (st met : List (Int × Int)) (d : Int × Int) : mea xs st met + 1 = mea xs (d :: st) met := by
  rw [mea_pop xs st met d]
  exact mea_perm xs (by simp) (fun _ => Iff.rfl)
theorem mea_hit' {xs : List Itm} {st met : List (Int × Int)} {d : Int × Int} (hm : d ∉ met) (h : (commitS xs d).2 = 0) : mea xs ((commitS xs d).1.pars ++ st) (met ++ [d]) + 1 ≤ mea xs (d :: st) met := by
  have := mea_hit (op := st) hm (commit_ok h).1 (pars_le h)
  rw [mea_perm xs (st := (commitS xs d).1.pars ++ st) (st' := st ++ (commitS xs d).1.pars) (met := met ++ [d]) (met' := d :: met) (by simp; omega) (fun x => by simp [or_comm])]
  rw [mea_perm xs (st := d :: st) (st' := st ++ [d]) (met := met) (met' := met) (by simp) (fun _ => Iff.rfl)]
  exact this
theorem visF_nil (xs : List Itm) (f : Nat) (met : List (Int × Int)) : visF xs f [] met = (met, 0) := by cases f <;> rfl
/-- More fuel than enough is the same. -/
theorem visF_fuel (xs : List Itm) : ∀ (f g : Nat) (st met : List (Int × Int)), mea xs st met ≤ f → mea xs st met ≤ g → visF xs f st met = visF xs g st met
  | f, g, [], met, _, _ => by rw [visF_nil, visF_nil]
  | 0, g, d :: st, met, h, _ => by unfold mea at h; simp at h
  | f + 1, 0, d :: st, met, _, h => by unfold mea at h; simp at h
  | f + 1, g + 1, d :: st, met, hf, hg => by
    rw [visF, visF]
    have h1 := mea_pop' xs st met d
    by_cases hd : d ∈ met
    · rw [if_pos hd, if_pos hd]
      exact visF_fuel xs f g st met (by omega) (by omega)
    · rw [if_neg hd, if_neg hd]
      by_cases he : (commitS xs d).2 = 0
      · have h2 := mea_hit' (st := st) hd he
        rw [if_neg (by simpa using he), if_neg (by simpa using he)]
        exact visF_fuel xs f g _ _ (by omega) (by omega)
      · rw [if_pos he, if_pos he]
/-- Visiting with enough fuel. -/
def visS (xs : List Itm) (st met : List (Int × Int)) : List (Int × Int) × Int := visF xs (mea xs st met) st met
theorem visS_of {xs : List Itm} {f : Nat} {st met : List (Int × Int)} (h : mea xs st met ≤ f) : visF xs f st met = visS xs st met := visF_fuel xs _ _ _ _ h (Nat.le_refl _)
theorem visS_nil (xs : List Itm) (met : List (Int × Int)) : visS xs [] met = (met, 0) := visF_nil _ _ _
theorem visS_cons (xs : List Itm) (d : Int × Int) (st met : List (Int × Int)) : visS xs (d :: st) met = if d ∈ met then visS xs st met else if (commitS xs d).2 ≠ 0 then ([], (commitS xs d).2) else visS xs ((commitS xs d).1.pars ++ st) (met ++ [d]) := by
  have h1 := mea_pop' xs st met d
  rw [show visS xs (d :: st) met = visF xs (mea xs st met + 1) (d :: st) met by unfold visS; rw [h1], visF]
  by_cases hd : d ∈ met
  · rw [if_pos hd, if_pos hd]; rfl
  · rw [if_neg hd, if_neg hd]
    by_cases he : (commitS xs d).2 = 0
    · have h2 := mea_hit' (st := st) hd he
      rw [if_neg (by simpa using he), if_neg (by simpa using he)]
      exact visS_of (by omega)
    · rw [if_pos he, if_pos he]
/-- Visiting one list behind another: first the one, then, if it went well, the other. -/
theorem visS_append (xs : List Itm) : ∀ (f : Nat) (ds st met : List (Int × Int)), mea xs ds met ≤ f → visS xs (ds ++ st) met = if (visS xs ds met).2 ≠ 0 then ([], (visS xs ds met).2) else visS xs st (visS xs ds met).1
  | f, [], st, met, _ => by rw [visS_nil]; simp
  | 0, d :: ds, st, met, h => by unfold mea at h; simp at h
  | f + 1, d :: ds, st, met, h => by
    have h1 := mea_pop' xs ds met d
    rw [List.cons_append, visS_cons, visS_cons xs d ds met]
    by_cases hd : d ∈ met
    · rw [if_pos hd, if_pos hd]
      exact visS_append xs f ds st met (by omega)
    · rw [if_neg hd, if_neg hd]
      by_cases he : (commitS xs d).2 = 0
      · have h2 := mea_hit' (st := ds) hd he
        have he' : ¬ ((commitS xs d).2 ≠ 0) := by simpa using he
        rw [if_neg he', if_neg he', ← List.append_assoc]
        exact visS_append xs f _ st _ (by omega)
      · rw [if_pos he, if_pos he]
        simp only
        rw [if_pos he]
/-- A commit and its parents, their parents, and so on. -/
inductive Anc (xs : List Itm) : Int × Int → Int × Int → Prop
  | refl (d : Int × Int) : Anc xs d d
  | step {a p b : Int × Int} : (commitS xs a).2 = 0 → p ∈ (commitS xs a).1.pars → Anc xs p b → Anc xs a b
theorem Anc.trans {xs : List Itm} {a b c : Int × Int} (h : Anc xs a b) (g : Anc xs b c) : Anc xs a c := by
  induction h with
  | refl => exact g
  | step h1 h2 _ ih => exact .step h1 h2 (ih g)
/-- What a visit that went well has found. -/
structure Vis (xs : List Itm) (st met r : List (Int × Int)) : Prop where
  pre : ∃ new, r = met ++ new
  nd : met.Nodup → r.Nodup
  got : ∀ d ∈ st, d ∈ r
  ok : ∀ d ∈ r, d ∈ met ∨ (commitS xs d).2 = 0
  par : ∀ d ∈ r, d ∈ met ∨ ∀ p ∈ (commitS xs d).1.pars, p ∈ r
  snd : ∀ d ∈ r, d ∈ met ∨ ∃ s ∈ st, Anc xs s d
theorem visS_law (xs : List Itm) : ∀ (f : Nat) (st met : List (Int × Int)), mea xs st met ≤ f → (visS xs st met).2 = 0 → Vis xs st met (visS xs st met).1
  | f, [], met, _, _ => by
    rw [visS_nil]
    exact ⟨⟨[], by simp⟩, id, by simp, fun d h => .inl h, fun d h => .inl h, fun d h => .inl h⟩
  | 0, d :: st, met, h, _ => by unfold mea at h; simp at h
  | f + 1, d :: st, met, h, h0 => by
    have h1 := mea_pop' xs st met d
    rw [visS_cons] at h0 ⊢
    by_cases hd : d ∈ met
    · rw [if_pos hd] at h0 ⊢
      have g := visS_law xs f st met (by omega) h0
      obtain ⟨new, hn⟩ := g.pre
      refine ⟨g.pre, g.nd, fun x hx => ?_, g.ok, g.par, fun x hx => ?_⟩
      · rcases List.mem_cons.1 hx with rfl | hx
        · rw [hn]; simp [hd]
        · exact g.got x hx
      · rcases g.snd x hx with h2 | ⟨s, h2, h3⟩
        · exact .inl h2
        · exact .inr ⟨s, by simp [h2], h3⟩
    · rw [if_neg hd] at h0 ⊢
      by_cases he : (commitS xs d).2 = 0
      · have he' : ¬ ((commitS xs d).2 ≠ 0) := by simpa using he
        have h2 := mea_hit' (st := st) hd he
        rw [if_neg he'] at h0 ⊢
        have g := visS_law xs f _ _ (by omega) h0
        generalize (visS xs ((commitS xs d).1.pars ++ st) (met ++ [d])).1 = r at g
        obtain ⟨new, hn⟩ := g.pre
        have hdr : d ∈ r := by rw [hn]; simp
        refine ⟨⟨[d] ++ new, by rw [hn]; simp⟩, fun hm => g.nd (nodup_snoc hm hd), fun x hx => ?_, fun x hx => ?_, fun x hx => ?_, fun x hx => ?_⟩
        · rcases List.mem_cons.1 hx with rfl | hx
          · exact hdr
          · exact g.got x (List.mem_append.2 (.inr hx))
        · rcases g.ok x hx with h3 | h3
          · rcases List.mem_append.1 h3 with h3 | h3
            · exact .inl h3
            · simp at h3; subst h3; exact .inr he
          · exact .inr h3
        · rcases g.par x hx with h3 | h3
          · rcases List.mem_append.1 h3 with h3 | h3
            · exact .inl h3
            · simp at h3; subst h3; exact .inr (fun p hp => g.got p (List.mem_append.2 (.inl hp)))
          · exact .inr h3
        · rcases g.snd x hx with h3 | ⟨s, h3, h4⟩
          · rcases List.mem_append.1 h3 with h3 | h3
            · exact .inl h3
            · simp at h3; subst h3; exact .inr ⟨x, by simp, .refl x⟩
          · rcases List.mem_append.1 h3 with h3 | h3
            · exact .inr ⟨d, by simp, .step he h3 h4⟩
            · exact .inr ⟨s, by simp [h3], h4⟩
      · rw [if_pos he] at h0
        exact absurd h0 he
/-- A visit that fails has met something that is no commit. -/
theorem visS_bad (xs : List Itm) : ∀ (f : Nat) (st met : List (Int × Int)), mea xs st met ≤ f → (visS xs st met).2 ≠ 0 → (visS xs st met).1 = [] ∧ ∃ s ∈ st, ∃ d, Anc xs s d ∧ d ∉ met ∧ (commitS xs d).2 = (visS xs st met).2
  | f, [], met, _, h => by rw [visS_nil] at h; exact absurd rfl h
  | 0, d :: st, met, h, _ => by unfold mea at h; simp at h
  | f + 1, d :: st, met, h, h0 => by
    have h1 := mea_pop' xs st met d
    rw [visS_cons] at h0 ⊢
    by_cases hd : d ∈ met
    · rw [if_pos hd] at h0 ⊢
      obtain ⟨g1, s, g2, g3⟩ := visS_bad xs f st met (by omega) h0
      exact ⟨g1, s, by simp [g2], g3⟩
    · rw [if_neg hd] at h0 ⊢
      by_cases he : (commitS xs d).2 = 0
      · have he' : ¬ ((commitS xs d).2 ≠ 0) := by simpa using he
        have h2 := mea_hit' (st := st) hd he
        rw [if_neg he'] at h0 ⊢
        obtain ⟨g1, s, g2, b, g3, g4, g5⟩ := visS_bad xs f _ _ (by omega) h0
        refine ⟨g1, ?_⟩
        have g4' : b ∉ met := fun h => g4 (by simp [h])
        rcases List.mem_append.1 g2 with g2 | g2
        · exact ⟨d, by simp, b, .step he g2 g3, g4', g5⟩
        · exact ⟨s, by simp [g2], b, g3, g4', g5⟩
      · rw [if_pos he] at h0 ⊢
        exact ⟨rfl, d, by simp, d, .refl d, hd, rfl⟩
/-- From nothing: the ancestors, or an error. -/
theorem visS_anc {xs : List Itm} {st : List (Int × Int)} (h : (visS xs st []).2 = 0) : (visS xs st []).1.Nodup ∧ ∀ d, d ∈ (visS xs st []).1 ↔ ∃ s ∈ st, Anc xs s d := by
  have g := visS_law xs _ st [] (Nat.le_refl _) h
  refine ⟨g.nd (by simp), fun d => ⟨fun hd => ?_, ?_⟩⟩
  · rcases g.snd d hd with h1 | h1
    · simp at h1
    · exact h1
  · rintro ⟨s, hs, ha⟩
    have := g.got s hs
    clear hs
    induction ha with
    | refl => exact this
    | step h1 h2 _ ih =>
      rcases g.par _ this with h3 | h3
      · simp at h3
      · exact ih (h3 _ h2)
end Go.Proofs.YtgdhkcocdmdoaaaGreat
