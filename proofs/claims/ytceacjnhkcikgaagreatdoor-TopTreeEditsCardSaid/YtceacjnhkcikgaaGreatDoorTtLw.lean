/- Edits of lists on paper. -/
import Derived.Test.YtceacjnhkcikgaaGreatDoorTtCh
import Derived.Test.YtceacjnhkcikgaaGreatDoorTtFi
namespace Go.Proofs.YtceacjnhkcikgaaGreatDoor
open Go.RowKit
set_option linter.unusedVariables false

theorem good_less {l : List Fl} (h : GoodF l) (s : Pa) : GoodF (lessF l s) := by
  have hm : ∀ x ∈ lessF l s, x ∈ l := fun x hx => (List.mem_filter.1 hx).1
  exact ⟨lessF_asc h.asc s, fun x hx => h.path x (hm x hx), fun x hx y hy r => h.free x (hm x hx) y (hm y hy) r⟩
theorem sz_less {l : List Fl} (h : SzF l) (s : Pa) : SzF (lessF l s) :=
  ⟨Nat.le_trans (List.length_filter_le _ _) h.len, fun x hx => h.dat x ((List.mem_filter.1 hx).1)⟩
theorem withF_length (l : List Fl) (f : Fl) : (withF l f).length ≤ l.length + 1 := by
  induction l with
  | nil => simp [withF]
  | cons x l ih =>
    rw [withF]
    split
    · simp; omega
    · split <;> simp
/-- A list with a file whose path is none is not valid. -/
theorem with_bad {l : List Fl} (h : AscF l) {f : Fl} (hf : pathB f.path = false) : checkF (withF l f) ≠ 0 := fun e => by
  have := (check_ok e).path f ((withF_mem h f f).2 (.inl rfl))
  rw [hf] at this; cases this
theorem find_bad {l : List Fl} (h : GoodF l) {s : Pa} (hs : pathB s = false) : findF l s = none := by
  cases hf : findF l s with
  | none => rfl
  | some d =>
    have := h.path _ (findF_some hf)
    simp only at this
    rw [hs] at this; cases this
/-- A file that is replaced, or is put in, where find says. -/
theorem withF_at : ∀ {l : List Fl} {f : Fl} {k : Nat}, AscF l → AtF l f.path k → withF l f = l.take k ++ f :: l.drop (if hitF l f.path k = true then k + 1 else k)
  | [], f, k, _, ha => by
    have hk := ha.le
    simp only [List.length_nil, Nat.le_zero] at hk
    subst hk
    rfl
  | x :: l, f, k, h, ha => by
    have g := List.pairwise_cons.1 h
    cases k with
    | zero =>
      have h1 := ha.hi 0 (by simp) (Nat.le_refl _)
      simp only [List.getElem_cons_zero] at h1
      rw [withF, if_neg h1]
      by_cases h2 : x.path = f.path
      · rw [if_pos h2, if_pos (by simp [hitF, h2])]; rfl
      · rw [if_neg h2, if_neg (by simp [hitF, h2])]; rfl
    | succ k =>
      have h1 := ha.lo 0 (by simp) (by omega)
      simp only [List.getElem_cons_zero] at h1
      have ha2 : AtF l f.path k := ⟨by have := ha.le; simp at this; omega, fun j hj hjk => by
        have := ha.lo (j + 1) (by simp; omega) (by omega)
        simpa using this, fun j hj hkj => by
        have := ha.hi (j + 1) (by simp; omega) (by omega)
        simpa using this⟩
      have hh : hitF (x :: l) f.path (k + 1) = hitF l f.path k := by unfold hitF; simp
      rw [withF, if_pos h1, withF_at g.2 ha2, hh]
      by_cases h2 : hitF l f.path k = true
      · rw [if_pos h2, if_pos h2]; rfl
      · rw [if_neg h2, if_neg h2]; rfl
theorem hit_find {l : List Fl} {s : Pa} {k : Nat} (h : AscF l) (ha : AtF l s k) : hitF l s k = (findF l s).isSome := by
  cases hf : findF l s with
  | none =>
    unfold hitF
    cases hk : l[k]? with
    | none => rfl
    | some x =>
      have := findF_none hf x (List.mem_of_getElem? hk)
      simp [this]
  | some d =>
    have hm := findF_some hf
    obtain ⟨j, hj, hjx⟩ := List.getElem_of_mem hm
    have hjk : j = k := by
      rcases Nat.lt_trichotomy j k with h1 | h1 | h1
      · have := ha.lo j hj h1; rw [hjx] at this; exact absurd this (ltS_irrefl _)
      · exact h1
      · exfalso
        have hk : k < l.length := by omega
        have h2 := ascF_at h hk hj h1
        rw [hjx] at h2
        exact ha.hi k hk (Nat.le_refl _) h2
    subst hjk
    unfold hitF
    rw [List.getElem?_eq_getElem hj, hjx]
    simp
theorem lessF_at {l : List Fl} {s : Pa} {k : Nat} (h : AscF l) (hk : k < l.length) (he : l[k].path = s) : lessF l s = l.take k ++ l.drop (k + 1) := by
  have hsplit : l = l.take k ++ l[k] :: l.drop (k + 1) := by rw [← List.drop_eq_getElem_cons hk, List.take_append_drop]
  have hne : ∀ j (hj : j < l.length), j ≠ k → l[j].path ≠ s := fun j hj hne e => by
    have := ascF_same h (List.getElem_mem hj) (List.getElem_mem hk) (by rw [e, he])
    rcases Nat.lt_or_gt_of_ne hne with h1 | h1
    · have h2 := ascF_at h hj hk h1; rw [e, he] at h2; exact ltS_irrefl _ h2
    · have h2 := ascF_at h hk hj h1; rw [e, he] at h2; exact ltS_irrefl _ h2
  unfold lessF
  conv => lhs; rw [hsplit]
  rw [List.filter_append, List.filter_cons_of_neg (by simpa using he)]
  congr 1
  · rw [List.filter_eq_self]
    intro x hx
    obtain ⟨j, hj, rfl⟩ := List.getElem_of_mem hx
    rw [List.length_take] at hj
    rw [List.getElem_take]
    simpa using hne j (by omega) (by omega)
  · rw [List.filter_eq_self]
    intro x hx
    obtain ⟨j, hj, rfl⟩ := List.getElem_of_mem hx
    rw [List.length_drop] at hj
    rw [List.getElem_drop]
    simpa using hne (k + 1 + j) (by omega) (by omega)
end Go.Proofs.YtceacjnhkcikgaaGreatDoor
