/- Storing on paper: the two maps of a directory, its names, how far a pool grows. -/
import Derived.Test.YtceacjnhkcikgaaGreatDoorTtKs
import Derived.Test.YtceacjnhkcikgaaGreatDoorTtVk
namespace Go.Proofs.YtceacjnhkcikgaaGreatDoor
open Go.RowKit
set_option linter.unusedVariables false

theorem inside_app (l m : List Fl) (nm : Pa) : insideS (l ++ m) nm = insideS l nm ++ insideS m nm := by unfold insideS; rw [List.filter_append, List.map_append]
theorem inside_one (x : Fl) (nm : Pa) : insideS [x] nm = if deepS x = true ∧ firstS x = nm then [restS' x] else [] := by
  unfold insideS
  by_cases h : deepS x = true ∧ firstS x = nm
  · rw [if_pos h, List.filter_cons_of_pos (by simp [h.1, h.2])]; rfl
  · rw [if_neg h, List.filter_cons_of_neg (by simpa using h)]; rfl
/-- The map of a directory's own files. -/
def filesM (l : List Fl) (nm : Pa) : Option Fl := (l.filter fun x => !deepS x && decide (firstS x = nm)).getLast?
theorem files_app (l : List Fl) (x : Fl) (nm : Pa) : filesM (l ++ [x]) nm = if deepS x = false ∧ firstS x = nm then some x else filesM l nm := by
  unfold filesM
  by_cases h : deepS x = false ∧ firstS x = nm
  · rw [if_pos h, List.filter_append, List.filter_cons_of_pos (by simp [h.1, h.2])]; simp
  · rw [if_neg h, List.filter_append, List.filter_cons_of_neg (by simpa using h)]; simp
theorem files_some {l : List Fl} {nm : Pa} {x : Fl} (h : filesM l nm = some x) : x ∈ l ∧ deepS x = false ∧ firstS x = nm := by
  unfold filesM at h
  have := List.mem_of_getLast? h
  simpa using this
theorem files_none {l : List Fl} {nm : Pa} (h : filesM l nm = none) : ∀ x ∈ l, deepS x = false → firstS x ≠ nm := by
  unfold filesM at h
  rw [List.getLast?_eq_none_iff, List.filter_eq_nil_iff] at h
  intro x hx h1 h2
  have := h x hx
  simp [h1, h2] at this
theorem files_find {l : List Fl} (ha : AscF l) {nm : Pa} (hs : (47 : UInt8) ∉ nm) : filesM l nm = (findF l nm).map (fun d => ⟨nm, d⟩) := by
  cases hf : filesM l nm with
  | some x =>
    obtain ⟨h1, h2, h3⟩ := files_some hf
    have hp : x.path = nm := by rw [(flat_path h2).1, h3]
    cases hg : findF l nm with
    | some d =>
      have := ascF_same ha h1 (findF_some hg) hp
      rw [this]; rfl
    | none => exact absurd hp (findF_none hg x h1)
  | none =>
    cases hg : findF l nm with
    | none => rfl
    | some d =>
      have hm := findF_some hg
      have hd : deepS (⟨nm, d⟩ : Fl) = false := by
        cases hd : deepS (⟨nm, d⟩ : Fl) with
        | false => rfl
        | true =>
          have := (deep_path hd).1
          exact absurd (by rw [show nm = _ from this]; simp) hs
      have h1 := files_none hf _ hm hd
      exact absurd (flat_path hd).1.symm h1
theorem name_slash {l : List Fl} {nm : Pa} (h : nm ∈ namesS l) : (47 : UInt8) ∉ nm := by
  obtain ⟨x, _, e⟩ := names_mem.1 h
  rw [← e]; exact first_no
/-- The names of the two maps are the names of the directory. -/
theorem names_perm {n : Nat} {l : List Fl} (h : OkF n l) {sf sb : List Pa} (h1 : sf.Nodup) (h2 : ∀ x, x ∈ sf ↔ (filesM l x).isSome = true) (h3 : sb.Nodup) (h4 : ∀ x, x ∈ sb ↔ insideS l x ≠ []) : (sf ++ sb).Perm (namesS l) := by
  refine (List.perm_ext_iff_of_nodup ?_ (names_nodup l)).2 ?_
  · rw [List.nodup_append]
    refine ⟨h1, h3, ?_⟩
    intro a ha b hb e
    subst e
    obtain ⟨x, hx⟩ := Option.isSome_iff_exists.1 ((h2 a).1 ha)
    obtain ⟨x1, x2, x3⟩ := files_some hx
    obtain ⟨y', hy'⟩ := List.exists_mem_of_ne_nil _ ((h4 a).1 hb)
    obtain ⟨y, y1, y2, y3, _⟩ := inside_mem.1 hy'
    refine h.free x x1 y y1 (restS' y).path ?_
    rw [(deep_path y2).1, (flat_path x2).1, y3, x3]
  · intro a
    rw [List.mem_append, h2, h4, names_mem]
    constructor
    · rintro (h5 | h5)
      · obtain ⟨x, hx⟩ := Option.isSome_iff_exists.1 h5
        obtain ⟨x1, _, x3⟩ := files_some hx
        exact ⟨x, x1, x3⟩
      · obtain ⟨y', hy'⟩ := List.exists_mem_of_ne_nil _ h5
        obtain ⟨y, y1, _, y3, _⟩ := inside_mem.1 hy'
        exact ⟨y, y1, y3⟩
    · rintro ⟨x, hx, e⟩
      cases hd : deepS x with
      | true => exact .inr (fun h5 => by have := inside_mem.2 ⟨x, hx, hd, e, rfl⟩; rw [h5] at this; cases this)
      | false =>
        refine .inl ?_
        cases hf : filesM l a with
        | some _ => rfl
        | none => exact absurd e (files_none hf x hx hd)
/-- What names may cost. -/
def cntF (l : List Fl) (nm : Pa) : Nat := (l.filter fun x => decide (firstS x = nm)).length
def costF (n : Nat) (l : List Fl) (ns : List Pa) : Nat := (ns.map fun nm => cntF l nm * n).sum
theorem cnt_pos {l : List Fl} {nm : Pa} (h : nm ∈ namesS l) : 1 ≤ cntF l nm := by
  obtain ⟨x, hx, e⟩ := names_mem.1 h
  unfold cntF
  exact List.length_pos_of_mem (a := x) (by simp [hx, e])
theorem inside_cnt (l : List Fl) (nm : Pa) : (insideS l nm).length ≤ cntF l nm := by
  unfold insideS cntF
  rw [List.length_map, ← List.countP_eq_length_filter, ← List.countP_eq_length_filter]
  exact List.countP_mono_left (fun x _ h => by simp only [Bool.and_eq_true] at h; exact h.2)
theorem cost_names (n : Nat) (l : List Fl) : costF n l (namesS l) = l.length * n := by
  have hp := (perm_parts firstS (namesS l) l (names_nodup l) (fun x hx => names_mem.2 ⟨x, hx, rfl⟩)).length_eq
  rw [List.length_flatMap] at hp
  unfold costF cntF
  rw [hp]
  generalize namesS l = ns
  induction ns with
  | nil => simp
  | cons a ns ih => simp only [List.map_cons, List.sum_cons, ih, Nat.add_mul]
theorem cost_drop {n : Nat} {l : List Fl} {ns : List Pa} {k : Nat} (hk : k < ns.length) : costF n l (ns.drop k) = cntF l ns[k] * n + costF n l (ns.drop (k + 1)) := by
  unfold costF
  rw [List.drop_eq_getElem_cons hk, List.map_cons, List.sum_cons]
theorem put_casesT {xs : List Itm} (ha : Asc xs) (o : Ob) : (putS xs o).1 = [] ∨ ∃ S, encodeS o = (S, 0) ∧ Asc (putS xs o).1 ∧ (∀ y, y ∈ (putS xs o).1 ↔ y ∈ xs ∨ y = ⟨digS S, S⟩) ∧ (putS xs o).1.length ≤ xs.length + 1 := by
  by_cases he : (encodeS o).2 = 0
  · by_cases hi : (insS xs ⟨digS (encodeS o).1, (encodeS o).1⟩).2 = 0
    · obtain ⟨a, b, c⟩ := ins_law ha (show insS xs ⟨digS (encodeS o).1, (encodeS o).1⟩ = ((insS xs ⟨digS (encodeS o).1, (encodeS o).1⟩).1, 0) by rw [← hi])
      right
      refine ⟨(encodeS o).1, Prod.ext rfl he, ?_⟩
      unfold putS
      rw [if_neg (by simpa using he), if_neg (by simpa using hi)]
      exact ⟨a, b, c⟩
    · left; unfold putS; rw [if_neg (by simpa using he), if_pos hi]
  · left; unfold putS; rw [if_pos he]
theorem put_inn {w w' : World} {a ra : Option Addr} {xs : List Itm} {c rc : Nat} {o : Ob} (ha : Asc xs) (hp : PoolIn w a xs c) (hn : (xs.length : Int) + 1 ≤ 100000000) (h : PoolAt w a xs (putS xs o).1 ra rc w') : PoolIn w' ra (putS xs o).1 rc ∧ Asc (putS xs o).1 ∧ (putS xs o).1.length ≤ xs.length + 1 := by
  rcases put_casesT ha o with h1 | ⟨S, h1, h4, h2, h3⟩
  · rw [h1]
    exact ⟨⟨Its.nil _ _ _, Nat.zero_le _, by simp, by simp⟩, asc_nil, Nat.zero_le _⟩
  · refine ⟨⟨h.1, h.2.1, by omega, fun x hx => ?_⟩, h4, h3⟩
    rcases (h2 x).1 hx with h5 | rfl
    · exact hp.dat x h5
    · have := encodeS_len o
      rw [h1] at this
      simp only at this ⊢
      omega
end Go.Proofs.YtceacjnhkcikgaaGreatDoor
