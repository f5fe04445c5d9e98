/- Trees of files on paper: paths, lists of files, storing and visiting. -/
import Derived.Test.YtceacjnhkcikgaaGreatDoorK4
namespace Go.Proofs.YtceacjnhkcikgaaGreatDoor
open Go.RowKit
set_option linter.unusedVariables false

structure Fl where
  path : List UInt8
  data : List UInt8
deriving DecidableEq
/-- The first name of a path, what follows the slash, whether there is a slash. -/
def cutS : List UInt8 → List UInt8 × List UInt8 × Bool
  | [] => ([], [], false)
  | c :: r => if c = 47 then ([], r, true) else (c :: (cutS r).1, (cutS r).2.1, (cutS r).2.2)
theorem cutS_law : ∀ s : List UInt8, ((cutS s).2.2 = true ∧ s = (cutS s).1 ++ 47 :: (cutS s).2.1 ∧ (47 : UInt8) ∉ (cutS s).1) ∨ ((cutS s).2.2 = false ∧ s = (cutS s).1 ∧ (cutS s).2.1 = [] ∧ (47 : UInt8) ∉ s)
  | [] => .inr ⟨rfl, rfl, rfl, by simp⟩
  | c :: r => by
    rw [cutS]
    by_cases h : c = 47
    · rw [if_pos h]; exact .inl ⟨rfl, by simp [h], by simp⟩
    · rw [if_neg h]
      rcases cutS_law r with ⟨h1, h2, h3⟩ | ⟨h1, h2, h3, h4⟩
      · exact .inl ⟨h1, by simp only [List.cons_append]; rw [← h2], by simp [h3, Ne.symm h]⟩
      · exact .inr ⟨h1, by simp only; rw [← h2], h3, by simp [h4, Ne.symm h]⟩
theorem cutS_len {s : List UInt8} (h : (cutS s).2.2 = true) : (cutS s).2.1.length < s.length := by
  rcases cutS_law s with ⟨_, h2, _⟩ | ⟨h1, _⟩
  · have := congrArg List.length h2
    rw [List.length_append, List.length_cons] at this
    omega
  · rw [h] at h1; cases h1
/-- Whether all names of a path are names. -/
def pathF : Nat → List UInt8 → Bool
  | 0, _ => false
  | n + 1, s => nameB (cutS s).1 && (!(cutS s).2.2 || pathF n (cutS s).2.1)
def pathB (s : List UInt8) : Bool := decide (s.length ≤ 100) && pathF (s.length + 1) s
theorem pathF_eq : ∀ (n m : Nat) (s : List UInt8), s.length < n → s.length < m → pathF n s = pathF m s
  | 0, _, s, h, _ => by omega
  | _, 0, s, _, h => by omega
  | n + 1, m + 1, s, h1, h2 => by
    rw [pathF, pathF]
    cases hc : (cutS s).2.2 with
    | false => rfl
    | true =>
      have := cutS_len hc
      rw [pathF_eq n m _ (by omega) (by omega)]
/-- The order of texts. -/
abbrev ltS (a b : List UInt8) : Prop := Op.bytesLess a b = true
theorem less_lex : ∀ (x y : List UInt8), Op.bytesLess x y = decide (x < y)
  | [], [] => by simp [Op.bytesLess]
  | _ :: _, [] => by simp [Op.bytesLess]
  | [], _ :: _ => by simp [Op.bytesLess]
  | a :: x, b :: y => by
    rw [Op.bytesLess, less_lex x y]
    simp only [List.cons_lt_cons_iff]
    by_cases h1 : a < b <;> by_cases h2 : a = b <;> by_cases h3 : x < y <;> simp [h1, h2, h3]
theorem ltS_iff {a b : List UInt8} : ltS a b ↔ a < b := by unfold ltS; rw [less_lex]; simp
theorem ltS_trans {a b c : List UInt8} (h1 : ltS a b) (h2 : ltS b c) : ltS a c := ltS_iff.2 (List.lt_trans (ltS_iff.1 h1) (ltS_iff.1 h2))
theorem ltS_irrefl (a : List UInt8) : ¬ ltS a a := fun h => List.lt_irrefl a (ltS_iff.1 h)
theorem ltS_total (a b : List UInt8) : ltS a b ∨ a = b ∨ ltS b a := by
  rcases Classical.em (a < b) with h | h
  · exact .inl (ltS_iff.2 h)
  · rcases Classical.em (b < a) with h' | h'
    · exact .inr (.inr (ltS_iff.2 h'))
    · exact .inr (.inl (List.le_antisymm (List.not_lt.1 h') (List.not_lt.1 h)))
/-- Files in ascending order of paths. -/
def AscF (l : List Fl) : Prop := l.Pairwise fun a b => ltS a.path b.path
theorem ascF_ext : ∀ {l m : List Fl}, AscF l → AscF m → (∀ x, x ∈ l ↔ x ∈ m) → l = m
  | [], [], _, _, _ => rfl
  | [], y :: m, _, _, h => absurd ((h y).2 (by simp)) (by simp)
  | x :: l, [], _, _, h => absurd ((h x).1 (by simp)) (by simp)
  | x :: l, y :: m, h1, h2, h => by
    have g1 := List.pairwise_cons.1 h1
    have g2 := List.pairwise_cons.1 h2
    have hxy : x = y := by
      rcases List.mem_cons.1 ((h x).1 (by simp)) with e | hx
      · exact e
      · rcases List.mem_cons.1 ((h y).2 (by simp)) with e | hy
        · exact e.symm
        · exact absurd (ltS_trans (g1.1 y hy) (g2.1 x hx)) (ltS_irrefl _)
    subst hxy
    have key : ∀ {l m : List Fl}, (∀ b ∈ l, ltS x.path b.path) → (∀ z, z ∈ x :: l ↔ z ∈ x :: m) → ∀ z, z ∈ l → z ∈ m := fun {l m} hl hh z hz => by
      rcases List.mem_cons.1 ((hh z).1 (List.mem_cons_of_mem _ hz)) with rfl | h
      · exact absurd (hl _ hz) (ltS_irrefl _)
      · exact h
    rw [ascF_ext g1.2 g2.2 (fun z => ⟨key g1.1 h z, key g2.1 (fun z => (h z).symm) z⟩)]
theorem ascF_same {l : List Fl} (h : AscF l) {x y : Fl} (hx : x ∈ l) (hy : y ∈ l) (he : x.path = y.path) : x = y := by
  induction l with
  | nil => cases hx
  | cons z l ih =>
    have g := List.pairwise_cons.1 h
    rcases List.mem_cons.1 hx with e1 | h1
    · rcases List.mem_cons.1 hy with e2 | h2
      · rw [e1, e2]
      · have := g.1 y h2; rw [← he, e1] at this; exact absurd this (ltS_irrefl _)
    · rcases List.mem_cons.1 hy with e2 | h2
      · have := g.1 x h1; rw [he, e2] at this; exact absurd this (ltS_irrefl _)
      · exact ih g.2 h1 h2
/-- A list with a file, which may replace one; a list without a file; the file with a path. -/
def withF : List Fl → Fl → List Fl
  | [], f => [f]
  | x :: l, f => if ltS x.path f.path then x :: withF l f else if x.path = f.path then f :: l else f :: x :: l
def lessF (l : List Fl) (s : List UInt8) : List Fl := l.filter fun x => !decide (x.path = s)
def findF (l : List Fl) (s : List UInt8) : Option (List UInt8) := (l.find? fun x => decide (x.path = s)).map (·.data)
theorem withF_mem {l : List Fl} (h : AscF l) (f x : Fl) : x ∈ withF l f ↔ x = f ∨ (x ∈ l ∧ x.path ≠ f.path) := by
  induction l with
  | nil => simp [withF]
  | cons y l ih =>
    have g := List.pairwise_cons.1 h
    rw [withF]
    by_cases h1 : ltS y.path f.path
    · rw [if_pos h1, List.mem_cons, List.mem_cons, ih g.2]
      constructor
      · rintro (rfl | rfl | ⟨h2, h3⟩)
        · exact .inr ⟨.inl rfl, fun e => ltS_irrefl _ (e ▸ h1)⟩
        · exact .inl rfl
        · exact .inr ⟨.inr h2, h3⟩
      · rintro (rfl | ⟨rfl | h2, h3⟩)
        · exact .inr (.inl rfl)
        · exact .inl rfl
        · exact .inr (.inr ⟨h2, h3⟩)
    · rw [if_neg h1]
      by_cases h2 : y.path = f.path
      · rw [if_pos h2, List.mem_cons, List.mem_cons]
        constructor
        · rintro (rfl | hx)
          · exact .inl rfl
          · exact .inr ⟨.inr hx, fun e => ltS_irrefl _ (show ltS x.path x.path by have := g.1 x hx; rw [h2, ← e] at this; exact this)⟩
        · rintro (rfl | ⟨rfl | hx, hne⟩)
          · exact .inl rfl
          · exact absurd h2 hne
          · exact .inr hx
      · rw [if_neg h2]
        simp only [List.mem_cons]
        have h3 : ltS f.path y.path := by
          rcases ltS_total f.path y.path with h | h | h
          · exact h
          · exact absurd h.symm h2
          · exact absurd h h1
        constructor
        · rintro (rfl | rfl | hx)
          · exact .inl rfl
          · exact .inr ⟨.inl rfl, h2⟩
          · exact .inr ⟨.inr hx, fun e => ltS_irrefl _ (show ltS x.path x.path by have := ltS_trans h3 (g.1 x hx); rw [← e] at this; exact this)⟩
        · rintro (rfl | ⟨rfl | hx, _⟩)
          · exact .inl rfl
          · exact .inr (.inl rfl)
          · exact .inr (.inr hx)
theorem withF_asc {l : List Fl} (h : AscF l) (f : Fl) : AscF (withF l f) := by
  induction l with
  | nil => simp [withF, AscF]
  | cons y l ih =>
    have g := List.pairwise_cons.1 h
    rw [withF]
    by_cases h1 : ltS y.path f.path
    · rw [if_pos h1]
      refine List.pairwise_cons.2 ⟨fun x hx => ?_, ih g.2⟩
      rcases (withF_mem g.2 f x).1 hx with rfl | ⟨h2, _⟩
      · exact h1
      · exact g.1 x h2
    · rw [if_neg h1]
      by_cases h2 : y.path = f.path
      · rw [if_pos h2]
        exact List.pairwise_cons.2 ⟨fun x hx => by have := g.1 x hx; rwa [h2] at this, g.2⟩
      · rw [if_neg h2]
        have h3 : ltS f.path y.path := by
          rcases ltS_total f.path y.path with h | h | h
          · exact h
          · exact absurd h.symm h2
          · exact absurd h h1
        refine List.pairwise_cons.2 ⟨fun x hx => ?_, h⟩
        rcases List.mem_cons.1 hx with rfl | hx
        · exact h3
        · exact ltS_trans h3 (g.1 x hx)
theorem lessF_asc {l : List Fl} (h : AscF l) (s : List UInt8) : AscF (lessF l s) := List.Pairwise.filter _ h
theorem findF_some {l : List Fl} {s d : List UInt8} (h : findF l s = some d) : (⟨s, d⟩ : Fl) ∈ l := by
  unfold findF at h
  cases hf : l.find? (fun x => decide (x.path = s)) with
  | none => rw [hf] at h; cases h
  | some x =>
    rw [hf] at h
    cases h
    have h1 := List.mem_of_find?_eq_some hf
    have h2 := List.find?_some hf
    simp only [decide_eq_true_eq] at h2
    rw [← h2]
    exact h1
theorem findF_none {l : List Fl} {s : List UInt8} (h : findF l s = none) : ∀ x ∈ l, x.path ≠ s := by
  unfold findF at h
  cases hf : l.find? (fun x => decide (x.path = s)) with
  | none => intro x hx; simpa using List.find?_eq_none.1 hf x hx
  | some x => rw [hf] at h; cases h
end Go.Proofs.YtceacjnhkcikgaaGreatDoor
