/- Trees of files on paper: directories, storing. -/
import Derived.Test.YtceacjnhkcikgaaGreatDoorTtPl
import Derived.Test.YtceacjnhkcikgaaGreatDoorK8
namespace Go.Proofs.YtceacjnhkcikgaaGreatDoor
open Go.RowKit
set_option linter.unusedVariables false

abbrev Pa := List UInt8
def firstS (x : Fl) : Pa := (cutS x.path).1
def deepS (x : Fl) : Bool := (cutS x.path).2.2
def restS' (x : Fl) : Fl := ⟨(cutS x.path).2.1, x.data⟩
theorem deep_path {x : Fl} (h : deepS x = true) : x.path = firstS x ++ 47 :: (restS' x).path ∧ (47 : UInt8) ∉ firstS x := by
  rcases cutS_law x.path with ⟨_, h2, h3⟩ | ⟨h1, _⟩
  · exact ⟨h2, h3⟩
  · unfold deepS at h; rw [h] at h1; cases h1
theorem flat_path {x : Fl} (h : deepS x = false) : x.path = firstS x ∧ (47 : UInt8) ∉ x.path := by
  rcases cutS_law x.path with ⟨h1, _⟩ | ⟨_, h2, _, h4⟩
  · unfold deepS at h; rw [h] at h1; cases h1
  · exact ⟨h2, h4⟩
/-- The files in a directory, with their paths within it. -/
def insideS (l : List Fl) (nm : Pa) : List Fl := (l.filter fun x => deepS x && decide (firstS x = nm)).map restS'
theorem inside_mem {l : List Fl} {nm : Pa} {y : Fl} : y ∈ insideS l nm ↔ ∃ x ∈ l, deepS x = true ∧ firstS x = nm ∧ restS' x = y := by
  unfold insideS
  simp only [List.mem_map, List.mem_filter, Bool.and_eq_true, decide_eq_true_eq]
  constructor
  · rintro ⟨x, ⟨h1, h2, h3⟩, h4⟩; exact ⟨x, h1, h2, h3, h4⟩
  · rintro ⟨x, h1, h2, h3, h4⟩; exact ⟨x, ⟨h1, h2, h3⟩, h4⟩
theorem less_app : ∀ (p a b : Pa), Op.bytesLess (p ++ a) (p ++ b) = Op.bytesLess a b
  | [], a, b => rfl
  | c :: p, a, b => by
    rw [List.cons_append, List.cons_append, Op.bytesLess, less_app p a b]
    simp
/-- Files that can be stored: each path has at most n names. -/
structure OkF (n : Nat) (l : List Fl) : Prop where
  asc : AscF l
  path : ∀ x ∈ l, pathF n x.path = true
  free : ∀ x ∈ l, ∀ y ∈ l, ∀ r, y.path ≠ x.path ++ 47 :: r
theorem inside_asc {l : List Fl} (h : AscF l) (nm : Pa) : AscF (insideS l nm) := by
  unfold insideS AscF
  rw [List.pairwise_map]
  refine (List.Pairwise.filter _ h).imp_of_mem (fun {a b} ha hb hab => ?_)
  simp only [List.mem_filter, Bool.and_eq_true, decide_eq_true_eq] at ha hb
  obtain ⟨_, a1, a2⟩ := ha
  obtain ⟨_, b1, b2⟩ := hb
  have e1 := (deep_path a1).1
  have e2 := (deep_path b1).1
  unfold ltS at hab ⊢
  rw [e1, e2, a2, b2, show nm ++ 47 :: (restS' a).path = (nm ++ [47]) ++ (restS' a).path by simp, show nm ++ 47 :: (restS' b).path = (nm ++ [47]) ++ (restS' b).path by simp, less_app] at hab
  exact hab
theorem OkF.inside {n : Nat} {l : List Fl} (h : OkF (n + 1) l) (nm : Pa) : OkF n (insideS l nm) := by
  refine ⟨inside_asc h.asc nm, fun y hy => ?_, fun y hy z hz r e => ?_⟩
  · obtain ⟨x, hx, h1, h2, rfl⟩ := inside_mem.1 hy
    have hp := h.path x hx
    rw [pathF] at hp
    unfold deepS at h1
    rw [h1] at hp
    simp only [Bool.and_eq_true, Bool.not_true, Bool.false_or] at hp
    exact hp.2
  · obtain ⟨x, hx, h1, h2, rfl⟩ := inside_mem.1 hy
    obtain ⟨w, hw, g1, g2, rfl⟩ := inside_mem.1 hz
    refine h.free x hx w hw r ?_
    rw [(deep_path h1).1, (deep_path g1).1, h2, g2, e]
    simp
theorem OkF.name {n : Nat} {l : List Fl} (h : OkF (n + 1) l) {x : Fl} (hx : x ∈ l) : nameB (firstS x) = true := by
  have hp := h.path x hx
  rw [pathF, Bool.and_eq_true] at hp
  exact hp.1
/-- The first names of files, in ascending order. -/
def nameL (l : List Fl) : List Fl := l.foldl (fun acc x => withF acc ⟨firstS x, []⟩) []
def namesS (l : List Fl) : List Pa := (nameL l).map (·.path)
theorem nameGo_law : ∀ (l acc : List Fl), AscF acc → (∀ x ∈ acc, x.data = []) → AscF (l.foldl (fun acc x => withF acc ⟨firstS x, []⟩) acc) ∧ (∀ x ∈ l.foldl (fun acc x => withF acc ⟨firstS x, []⟩) acc, x.data = []) ∧ ∀ nm : Pa, (⟨nm, []⟩ : Fl) ∈ l.foldl (fun acc x => withF acc ⟨firstS x, []⟩) acc ↔ (⟨nm, []⟩ : Fl) ∈ acc ∨ ∃ x ∈ l, firstS x = nm
  | [], acc, h1, h2 => ⟨h1, h2, fun nm => by simp⟩
  | y :: l, acc, h1, h2 => by
    rw [List.foldl_cons]
    have hm := withF_mem h1 ⟨firstS y, []⟩
    obtain ⟨g1, g2, g3⟩ := nameGo_law l (withF acc ⟨firstS y, []⟩) (withF_asc h1 _) (fun x hx => by
      rcases (hm x).1 hx with rfl | ⟨h, _⟩
      · rfl
      · exact h2 x h)
    refine ⟨g1, g2, fun nm => ?_⟩
    rw [g3 nm, hm]
    constructor
    · rintro ((e | ⟨h, _⟩) | ⟨x, hx, e⟩)
      · exact .inr ⟨y, by simp, by injection e with e1 _; exact e1.symm⟩
      · exact .inl h
      · exact .inr ⟨x, List.mem_cons_of_mem _ hx, e⟩
    · rintro (h | ⟨x, hx, e⟩)
      · by_cases e : nm = firstS y
        · exact .inl (.inl (by rw [e]))
        · exact .inl (.inr ⟨h, e⟩)
      · rcases List.mem_cons.1 hx with rfl | hx
        · exact .inl (.inl (by rw [e]))
        · exact .inr ⟨x, hx, e⟩
theorem names_mem {l : List Fl} {nm : Pa} : nm ∈ namesS l ↔ ∃ x ∈ l, firstS x = nm := by
  obtain ⟨g1, g2, g3⟩ := nameGo_law l [] List.Pairwise.nil (fun x hx => by simp at hx)
  have h := g3 nm
  simp only [List.not_mem_nil, false_or] at h
  rw [← h]
  unfold namesS nameL
  rw [List.mem_map]
  constructor
  · rintro ⟨x, hx, rfl⟩
    have := g2 x hx
    obtain ⟨p, d⟩ := x
    simp only at this
    subst this
    exact hx
  · intro hx; exact ⟨_, hx, rfl⟩
theorem names_asc (l : List Fl) : (namesS l).Pairwise ltS := by
  obtain ⟨g1, _, _⟩ := nameGo_law l [] List.Pairwise.nil (fun x hx => by simp at hx)
  unfold namesS
  rw [List.pairwise_map]
  exact g1
/-- The object of a file, and of a directory. -/
def blobO (d : Pa) : Ob := ⟨1, d, [], (0, 0), [], [], 0, []⟩
def treeO (es : List Ent) : Ob := ⟨2, [], es, (0, 0), [], [], 0, []⟩
abbrev StR := List Itm × (Int × Int) × Int
def badR (e : Int) : StR := ([], (0, 0), e)
/-- Storing the names of a directory. -/
def storeGo (f : List Itm → List Fl → StR) (l : List Fl) : List Pa → List Itm → List Ent → StR
  | [], p, es => putS p (treeO es)
  | nm :: r, p, es => match findF l nm with
    | some d => if (putS p (blobO d)).2.2 ≠ 0 then badR (putS p (blobO d)).2.2 else storeGo f l r (putS p (blobO d)).1 (es ++ [⟨nm, false, (putS p (blobO d)).2.1⟩])
    | none => if (f p (insideS l nm)).2.2 ≠ 0 then badR (f p (insideS l nm)).2.2 else storeGo f l r (f p (insideS l nm)).1 (es ++ [⟨nm, true, (f p (insideS l nm)).2.1⟩])
def storeF : Nat → List Itm → List Fl → StR
  | 0, _, _ => badR 99
  | n + 1, p, l => storeGo (storeF n) l (namesS l) p []
end Go.Proofs.YtceacjnhkcikgaaGreatDoor
