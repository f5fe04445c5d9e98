/- What is reached is closed: the plain law. -/
import Derived.Test.YtlfodnehgedpmaaGreatRpN
namespace Go.Proofs.YtlfodnehgedpmaaGreat
open Go.RowKit Go.Shelf
set_option linter.unusedVariables false

theorem get_mem {xs : List Itm} (ha : Asc xs) {x : Itm} (hx : x ∈ xs) : getS xs x.d = decodeS x.data := by
  obtain ⟨k, hk, rfl⟩ := List.getElem_of_mem hx
  have hh : hitB xs xs[k].d k = true := by unfold hitB; rw [List.getElem?_eq_getElem hk]; simp
  obtain ⟨_, _, h⟩ := getS_hit (at_uniq ha hk rfl) hh
  exact h
theorem get_none {xs : List Itm} (ha : Asc xs) {d : Int × Int} (hd : ∀ x ∈ xs, x.d ≠ d) : getS xs d = (obZ, 8) := by
  refine getS_miss (asc_at ha d) ?_
  unfold hitB
  cases h : xs[posI xs d]? with
  | none => rfl
  | some x => exact decide_eq_false (hd x (List.mem_of_getElem? h))
theorem has_get {xs : List Itm} (ha : Asc xs) (hc : ∀ x ∈ xs, chkI x = 0) {d : Int × Int} (h : (getS xs d).2 ≠ 0) : hasS xs d = false := by
  cases hs : hasS xs d with
  | false => rfl
  | true =>
    obtain ⟨hk, _, hg⟩ := getS_hit (asc_at ha d) hs
    have := hc _ (List.getElem_mem hk)
    unfold chkI at this
    rw [← hg, if_pos h] at this
    omega
theorem get_keep {xs : List Itm} (ha : Asc xs) (T : List (Int × Int)) (d : Int × Int) : (d ∈ T → getS (keepS xs T) d = getS xs d) ∧ (d ∉ T → (getS (keepS xs T) d).2 ≠ 0) := by
  have hk : Asc (keepS xs T) := asc_filter ha _
  have hm : ∀ x, x ∈ keepS xs T ↔ x ∈ xs ∧ x.d ∈ T := fun x => by unfold keepS; rw [List.mem_filter]; simp
  refine ⟨fun hd => ?_, fun hd => ?_⟩
  · by_cases he : ∃ x ∈ xs, x.d = d
    · obtain ⟨x, hx, rfl⟩ := he
      rw [get_mem ha hx, get_mem hk ((hm x).2 ⟨hx, hd⟩)]
    · rw [get_none ha (fun x hx e => he ⟨x, hx, e⟩), get_none hk (fun x hx e => he ⟨x, ((hm x).1 hx).1, e⟩)]
  · rw [get_none hk (fun x hx e => hd (by rw [← e]; exact ((hm x).1 hx).2))]
    simp
/-- The roots, and what the first k objects refer to. -/
def knownS (xs : List Itm) (roots T : List (Int × Int)) (k : Nat) : List (Int × Int) := roots ++ (T.take k).flatMap fun d => linksS (getS xs d).1
theorem known_step (xs : List Itm) (roots T : List (Int × Int)) (k : Nat) (h : k < T.length) : knownS xs roots T (k + 1) = knownS xs roots T k ++ linksS (getS xs T[k]).1 := by
  unfold knownS
  rw [List.take_succ_eq_append_getElem h, List.flatMap_append, List.append_assoc]
  simp
theorem known_len (xs : List Itm) (roots T : List (Int × Int)) : ∀ k, (knownS xs roots T k).length ≤ roots.length + 200 * k
  | 0 => by unfold knownS; simp
  | k + 1 => by
    have ih := known_len xs roots T k
    by_cases h : k < T.length
    · rw [known_step xs roots T k h, List.length_append]
      have := links_le (getS xs T[k]).1
      omega
    · unfold knownS at ih ⊢
      rw [List.take_of_length_le (by omega)] at ih ⊢
      omega
theorem known_mem (xs : List Itm) (roots T : List (Int × Int)) (d : Int × Int) : d ∈ knownS xs roots T T.length ↔ d ∈ roots ∨ ∃ t ∈ T, d ∈ linksS (getS xs t).1 := by
  unfold knownS
  rw [List.take_length, List.mem_append, List.mem_flatMap]
/-- What PoolClosed asks. -/
structure CLaw (xs : List Itm) (roots T M : List (Int × Int)) : Prop where
  ok : ∀ d ∈ T, (getS xs d).2 = 0
  aT : AscD T
  aM : AscD M
  has : ∀ d ∈ M, hasS xs d = false
  kT : ∀ d ∈ T, d ∈ knownS xs roots T T.length
  kM : ∀ d ∈ M, d ∈ knownS xs roots T T.length
  kn : ∀ d ∈ knownS xs roots T T.length, d = (0, 0) ∨ d ∈ T ∨ d ∈ M
  again : reachS (keepS xs T) roots = (T, M)
theorem closed_law {xs : List Itm} (roots : List (Int × Int)) (ha : Asc xs) (hc : ∀ x ∈ xs, chkI x = 0) : CLaw xs roots (reachS xs roots).1 (reachS xs roots).2 := by
  obtain ⟨h1, h2, h3⟩ := reachS_law xs roots
  generalize reachS xs roots = RS at h1 h2 h3
  obtain ⟨T, M⟩ := RS
  simp only at h1 h2 h3 ⊢
  have hk : ∀ d, Rch xs roots d → d ∈ knownS xs roots T T.length := fun d hd => by
    rw [known_mem]
    cases hd with
    | root g1 _ => exact .inl g1
    | link g1 g2 g3 _ => exact .inr ⟨_, ((h3 _).1).2 ⟨g1, g2⟩, g3⟩
  have hTM : ∀ d, Rch xs roots d → d ∈ T ∨ d ∈ M := fun d hd => by
    by_cases he : (getS xs d).2 = 0
    · exact .inl ((h3 d).1.2 ⟨hd, he⟩)
    · exact .inr ((h3 d).2.2 ⟨hd, he⟩)
  have e1 : ∀ d, (getS (keepS xs T) d).2 = 0 → d ∈ T := fun d h => by
    by_cases hd : d ∈ T
    · exact hd
    · exact absurd h ((get_keep ha T d).2 hd)
  have e2 : ∀ d ∈ T, getS (keepS xs T) d = getS xs d := fun d hd => (get_keep ha T d).1 hd
  have r1 : ∀ d, Rch (keepS xs T) roots d → Rch xs roots d := fun d hd => by
    induction hd with
    | root g1 g2 => exact .root g1 g2
    | link g1 g2 g3 g4 ih =>
      have hT := e1 _ g2
      rw [e2 _ hT] at g2 g3
      exact .link ih g2 g3 g4
  have r2 : ∀ d, Rch xs roots d → Rch (keepS xs T) roots d := fun d hd => by
    induction hd with
    | root g1 g2 => exact .root g1 g2
    | link g1 g2 g3 g4 ih =>
      have hT := ((h3 _).1).2 ⟨g1, g2⟩
      rw [← e2 _ hT] at g2 g3
      exact .link ih g2 g3 g4
  have hag : reachS (keepS xs T) roots = (T, M) := by
    obtain ⟨g1, g2, g3⟩ := reachS_law (keepS xs T) roots
    refine Prod.ext (ascD_ext g1 h1 fun d => ?_) (ascD_ext g2 h2 fun d => ?_)
    · rw [(g3 d).1]
      refine ⟨fun h => e1 d h.2, fun h => ?_⟩
      have := (h3 d).1.1 h
      exact ⟨r2 d this.1, by rw [e2 d h]; exact this.2⟩
    · rw [(g3 d).2]
      refine ⟨fun h => ?_, fun h => ?_⟩
      · rcases hTM d (r1 d h.1) with g | g
        · exact absurd (by rw [e2 d g]; exact ((h3 d).1.1 g).2) h.2
        · exact g
      · have := (h3 d).2.1 h
        refine ⟨r2 d this.1, fun h0 => ?_⟩
        exact this.2 ((h3 d).1.1 (e1 d h0)).2
  refine ⟨fun d hd => ((h3 d).1.1 hd).2, h1, h2, fun d hd => has_get ha hc ((h3 d).2.1 hd).2, fun d hd => hk d ((h3 d).1.1 hd).1, fun d hd => hk d ((h3 d).2.1 hd).1, fun d hd => ?_, hag⟩
  by_cases hz : d = (0, 0)
  · exact .inl hz
  · right
    rcases (known_mem xs roots T d).1 hd with g | ⟨t, g1, g2⟩
    · exact hTM d (.root g hz)
    · have := (h3 t).1.1 g1
      exact hTM d (.link this.1 this.2 g2 hz)
theorem ascD_get {l : List (Int × Int)} (h : AscD l) {i j : Nat} (hi : i < l.length) (hj : j < l.length) (hij : i < j) : cmpD l[i] l[j] < 0 := List.pairwise_iff_getElem.1 h i j hi hj hij
end Go.Proofs.YtlfodnehgedpmaaGreat
