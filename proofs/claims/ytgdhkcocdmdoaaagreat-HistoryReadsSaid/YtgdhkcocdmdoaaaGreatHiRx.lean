/- Histories: the reference's depths, round by round. -/
import Derived.Test.YtgdhkcocdmdoaaaGreatHiBa
namespace Go.Proofs.YtgdhkcocdmdoaaaGreat
open Go.RowKit Go.Shelf
set_option linter.unusedVariables false

def atL (l : List (Int × Int)) (i : Nat) : Int × Int := l.getD i (0, 0)
def rStep (xs : List Itm) (l : List (Int × Int)) (i : Nat) (out : List Nat) (k : Nat) : List Nat := if atL l k ∈ (commitS xs (atL l i)).1.pars then out.set i (max (out.getD i 0) (out.getD k 0 + 1)) else out
def rRow (xs : List Itm) (l : List (Int × Int)) (out : List Nat) (i : Nat) : List Nat := (List.range l.length).foldl (rStep xs l i) out
def rRound (xs : List Itm) (l : List (Int × Int)) (out : List Nat) : List Nat := (List.range l.length).foldl (rRow xs l) out
def relN (xs : List Itm) (l : List (Int × Int)) : Nat → List Nat
  | 0 => List.replicate l.length 0
  | r + 1 => rRound xs l (relN xs l r)
/-- No entry is above its depth. -/
def Und (xs : List Itm) (l : List (Int × Int)) (out : List Nat) : Prop := out.length = l.length ∧ ∀ i, i < l.length → out.getD i 0 ≤ depS xs (atL l i)
def Up (a b : List Nat) : Prop := ∀ j, a.getD j 0 ≤ b.getD j 0
theorem Up.trans {a b c : List Nat} (h : Up a b) (g : Up b c) : Up a c := fun j => Nat.le_trans (h j) (g j)
theorem getD_set (out : List Nat) (i v j : Nat) (hi : i < out.length) : (out.set i v).getD j 0 = if j = i then v else out.getD j 0 := by
  rw [List.getD_eq_getElem?_getD, List.getD_eq_getElem?_getD, List.getElem?_set]
  by_cases h : i = j
  · subst h; simp [hi]
  · have : ¬ j = i := fun e => h e.symm
    simp [h, this]
theorem rStep_law {xs : List Itm} (ha : AcyS xs) {l : List (Int × Int)} {i k : Nat} {out : List Nat} (hi : i < l.length) (hk : k < l.length) (h : Und xs l out) : Und xs l (rStep xs l i out k) ∧ Up out (rStep xs l i out k) ∧ (atL l k ∈ (commitS xs (atL l i)).1.pars → out.getD k 0 + 1 ≤ (rStep xs l i out k).getD i 0) := by
  unfold rStep
  by_cases hc : atL l k ∈ (commitS xs (atL l i)).1.pars
  · rw [if_pos hc]
    have hio : i < out.length := by rw [h.1]; exact hi
    refine ⟨⟨by simp [h.1], fun j hj => ?_⟩, fun j => ?_, fun _ => ?_⟩
    · rw [getD_set _ _ _ _ hio]
      by_cases e : j = i
      · subst e
        rw [if_pos rfl]
        have h1 := h.2 j hj
        have h2 := h.2 k hk
        have h3 := dep_par ha hc
        omega
      · rw [if_neg e]; exact h.2 j hj
    · rw [getD_set _ _ _ _ hio]
      by_cases e : j = i
      · subst e; rw [if_pos rfl]; omega
      · rw [if_neg e]; omega
    · rw [getD_set _ _ _ _ hio, if_pos rfl]; omega
  · rw [if_neg hc]
    exact ⟨h, fun j => Nat.le_refl _, fun e => absurd e hc⟩
theorem rRow_law {xs : List Itm} (ha : AcyS xs) {l : List (Int × Int)} {i : Nat} (hi : i < l.length) : ∀ (ks : List Nat) (out : List Nat), (∀ k ∈ ks, k < l.length) → Und xs l out → Und xs l (ks.foldl (rStep xs l i) out) ∧ Up out (ks.foldl (rStep xs l i) out) ∧ ∀ k ∈ ks, atL l k ∈ (commitS xs (atL l i)).1.pars → out.getD k 0 + 1 ≤ (ks.foldl (rStep xs l i) out).getD i 0
  | [], out, _, h => ⟨h, fun j => Nat.le_refl _, by simp⟩
  | k :: ks, out, hk, h => by
    obtain ⟨g1, g2, g3⟩ := rStep_law ha hi (hk k (by simp)) h
    obtain ⟨f1, f2, f3⟩ := rRow_law ha hi ks (rStep xs l i out k) (fun z hz => hk z (by simp [hz])) g1
    refine ⟨f1, g2.trans f2, fun z hz hc => ?_⟩
    rcases List.mem_cons.1 hz with rfl | hz
    · exact Nat.le_trans (g3 hc) (f2 i)
    · have := f3 z hz hc
      have := g2 z
      rw [List.foldl_cons]
      omega
theorem rRound_law {xs : List Itm} (ha : AcyS xs) {l : List (Int × Int)} : ∀ (is : List Nat) (out : List Nat), (∀ k ∈ is, k < l.length) → Und xs l out → Und xs l (is.foldl (rRow xs l) out) ∧ Up out (is.foldl (rRow xs l) out) ∧ ∀ i ∈ is, ∀ k, k < l.length → atL l k ∈ (commitS xs (atL l i)).1.pars → out.getD k 0 + 1 ≤ (is.foldl (rRow xs l) out).getD i 0
  | [], out, _, h => ⟨h, fun j => Nat.le_refl _, by simp⟩
  | i :: is, out, hk, h => by
    obtain ⟨g1, g2, g3⟩ := rRow_law ha (hk i (by simp)) (List.range l.length) out (fun z hz => by simpa using hz) h
    obtain ⟨f1, f2, f3⟩ := rRound_law ha is (rRow xs l out i) (fun z hz => hk z (by simp [hz])) g1
    refine ⟨f1, Up.trans g2 f2, fun z hz k hkl hc => ?_⟩
    rcases List.mem_cons.1 hz with rfl | hz
    · exact Nat.le_trans (g3 k (by simpa using hkl) hc) (f2 z)
    · have h1 := f3 z hz k hkl hc
      have h2 : out.getD k 0 ≤ (rRow xs l out i).getD k 0 := g2 k
      rw [List.foldl_cons]
      omega
theorem dep_some {xs : List Itm} (ha : AcyS xs) {d : Int × Int} (h : 0 < depS xs d) : ∃ p ∈ (commitS xs d).1.pars, depS xs d = depS xs p + 1 := by
  rw [depS_eq ha d] at h ⊢
  have key : ∀ (ls : List Nat) (a : Nat), ls.foldl max a = a ∨ ls.foldl max a ∈ ls := by
    intro ls
    induction ls with
    | nil => intro a; exact .inl rfl
    | cons y ls ih =>
      intro a
      rw [List.foldl_cons]
      rcases ih (max a y) with e | e
      · rw [e]
        rcases Nat.le_total a y with g | g
        · right; rw [Nat.max_eq_right g]; simp
        · left; rw [Nat.max_eq_left g]
      · right; simp [e]
  rcases key ((commitS xs d).1.pars.map fun p => depS xs p + 1) 0 with e | e
  · omega
  · obtain ⟨p, hp, he⟩ := List.mem_map.1 e
    exact ⟨p, hp, he.symm⟩
theorem relN_law {xs : List Itm} (ha : AcyS xs) {l : List (Int × Int)} (hl : ∀ d ∈ l, ∀ p ∈ (commitS xs d).1.pars, p ∈ l) : ∀ r, Und xs l (relN xs l r) ∧ ∀ i, i < l.length → min (depS xs (atL l i)) r ≤ (relN xs l r).getD i 0
  | 0 => ⟨⟨by simp [relN], fun i hi => by simp [relN, List.getD_eq_getElem?_getD, hi]⟩, fun i hi => by omega⟩
  | r + 1 => by
    obtain ⟨h1, h2⟩ := relN_law ha hl r
    obtain ⟨g1, g2, g3⟩ := rRound_law ha (List.range l.length) (relN xs l r) (fun z hz => by simpa using hz) h1
    refine ⟨g1, fun i hi => ?_⟩
    by_cases h0 : depS xs (atL l i) = 0
    · omega
    · obtain ⟨p, hp, he⟩ := dep_some ha (Nat.pos_of_ne_zero h0)
      have hd : atL l i = l[i] := by unfold atL; rw [List.getD_eq_getElem?_getD, List.getElem?_eq_getElem hi]; rfl
      obtain ⟨k, hk, hkp⟩ := List.getElem_of_mem (hl (atL l i) (by rw [hd]; exact List.getElem_mem hi) p hp)
      have hka : atL l k = p := by unfold atL; rw [List.getD_eq_getElem?_getD, List.getElem?_eq_getElem hk]; exact hkp
      have e1 := g3 i (by simpa using hi) k hk (by rw [hka]; exact hp)
      have e2 := h2 k hk
      rw [hka] at e2
      have e3 : (relN xs l (r + 1)).getD i 0 = ((List.range l.length).foldl (rRow xs l) (relN xs l r)).getD i 0 := rfl
      rw [e3]
      omega
open Classical in
/-- How many of a list are among the ancestors. -/
noncomputable def rkL (xs : List Itm) (l : List (Int × Int)) (d : Int × Int) : Nat := l.countP (fun x => decide (Anc xs d x))
theorem rkL_lt {xs : List Itm} (ha : AcyS xs) {l : List (Int × Int)} {d p : Int × Int} (hd : d ∈ l) (hc : (commitS xs d).2 = 0) (hp : p ∈ (commitS xs d).1.pars) : rkL xs l p + 1 ≤ rkL xs l d := by
  unfold rkL
  refine countP_strict (x := d) (fun y _ hy => ?_) hd ?_ ?_
  · simp only [decide_eq_true_eq] at hy ⊢
    exact .step hc hp hy
  · simpa using ha d p hc hp
  · simpa using Anc.refl (xs := xs) d
theorem dep_rkL {xs : List Itm} (ha : AcyS xs) {l : List (Int × Int)} (hl : ∀ d ∈ l, ∀ p ∈ (commitS xs d).1.pars, p ∈ l) : ∀ (f : Nat) (d : Int × Int), rkL xs l d ≤ f → d ∈ l → depS xs d + 1 ≤ rkL xs l d
  | f, d, hf, hd => by
    have h1 : 1 ≤ rkL xs l d := by
      unfold rkL
      exact List.countP_pos_iff.2 ⟨d, hd, by simpa using Anc.refl (xs := xs) d⟩
    by_cases h0 : depS xs d = 0
    · omega
    · obtain ⟨p, hp, he⟩ := dep_some ha (Nat.pos_of_ne_zero h0)
      have hc : (commitS xs d).2 = 0 := by
        by_cases hc : (commitS xs d).2 = 0
        · exact hc
        · rw [no_pars hc] at hp; simp at hp
      have h2 := rkL_lt ha hd hc hp
      cases f with
      | zero => omega
      | succ f =>
        have := dep_rkL ha hl f p (by omega) (hl d hd p hp)
        omega
theorem dep_len {xs : List Itm} (ha : AcyS xs) {l : List (Int × Int)} (hl : ∀ d ∈ l, ∀ p ∈ (commitS xs d).1.pars, p ∈ l) {d : Int × Int} (hd : d ∈ l) : depS xs d + 1 ≤ l.length := by
  have h1 := dep_rkL ha hl _ d (Nat.le_refl _) hd
  have h2 : rkL xs l d ≤ l.length := List.countP_le_length
  omega
/-- The reference's depths are the depths. -/
theorem relN_dep {xs : List Itm} (ha : AcyS xs) {l : List (Int × Int)} (hl : ∀ d ∈ l, ∀ p ∈ (commitS xs d).1.pars, p ∈ l) {i : Nat} (hi : i < l.length) : (relN xs l l.length).getD i 0 = depS xs (atL l i) := by
  obtain ⟨h1, h2⟩ := relN_law ha hl l.length
  have h3 := h1.2 i hi
  have h4 := h2 i hi
  have hd : atL l i = l[i] := by unfold atL; rw [List.getD_eq_getElem?_getD, List.getElem?_eq_getElem hi]; rfl
  have h5 := dep_len ha hl (d := atL l i) (by rw [hd]; exact List.getElem_mem hi)
  omega
end Go.Proofs.YtgdhkcocdmdoaaaGreat
