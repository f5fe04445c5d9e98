/- Plain law: a pool with one more commit. -/
import Derived.Test.YtgdhkcocdmdoaaaGreatHistoryBasesW
import Derived.Test.YtgdhkcocdmdoaaaGreatHiLx
namespace Go.Proofs.YtgdhkcocdmdoaaaGreat
open Go.RowKit Go.Shelf
set_option linter.unusedVariables false

theorem get_none {xs : List Itm} {d : Int × Int} (h : ∀ y ∈ xs, y.d ≠ d) : getS xs d = (obZ, 8) := by
  unfold getS
  split
  · rename_i y hy
    obtain ⟨hk, rfl⟩ := List.getElem?_eq_some_iff.1 hy
    rw [if_neg (h _ (List.getElem_mem hk))]
  · rfl
theorem com_same {xs ys : List Itm} (ha : Asc xs) (hb : Asc ys) {d z : Int × Int} {T : List UInt8} (hm : ∀ y, y ∈ ys ↔ y ∈ xs ∨ y = ⟨d, T⟩) (hz : z ≠ d) : commitS ys z = commitS xs z := by
  have hg : getS ys z = getS xs z := by
    by_cases h : ∃ y ∈ xs, y.d = z
    · obtain ⟨y, hy, rfl⟩ := h
      rw [get_mem' ha hy, get_mem' hb ((hm y).2 (.inl hy))]
    · rw [get_none (fun y hy e => h ⟨y, hy, e⟩), get_none (fun y hy e => by
        rcases (hm y).1 hy with h1 | rfl
        · exact h ⟨y, h1, e⟩
        · exact hz e.symm)]
  unfold commitS
  rw [hg]
theorem put_ok {xs ys : List Itm} (ha : Asc xs) {o : Ob} {d : Int × Int} (h : putS xs o = (ys, d, 0)) : ∃ T, encodeS o = (T, 0) ∧ d = digS T ∧ Asc ys ∧ (∀ y, y ∈ ys ↔ y ∈ xs ∨ y = ⟨d, T⟩) ∧ ys.length ≤ xs.length + 1 := by
  unfold putS at h
  by_cases he : (encodeS o).2 = 0
  · rw [if_neg (by simpa using he)] at h
    by_cases hi : (insS xs ⟨digS (encodeS o).1, (encodeS o).1⟩).2 = 0
    · rw [if_neg (by simpa using hi)] at h
      simp only [Prod.mk.injEq, and_true] at h
      obtain ⟨h1, h2⟩ := h
      obtain ⟨a, b, c⟩ := ins_law ha (show insS xs ⟨digS (encodeS o).1, (encodeS o).1⟩ = (ys, 0) from Prod.ext h1 hi)
      exact ⟨(encodeS o).1, Prod.ext rfl he, h2.symm, a, by rw [← h2]; exact b, c⟩
    · rw [if_pos hi] at h
      simp only [Prod.mk.injEq] at h
      exact absurd h.2.2 hi
  · rw [if_pos he] at h
    simp only [Prod.mk.injEq] at h
    exact absurd h.2.2 he

/-- What the law asks of the greater pool. -/
structure GF (ys : List Itm) (ps : List (Int × Int)) (d : Int × Int) (l : List (Int × Int)) : Prop where
  anc : ancS ys [d] = (d :: l, 0)
  dep : depthS ys d = (((depS ys d : Nat) : Int), (0 : Int))
  eq : depS ys d = (ps.map fun p => depS ys p + 1).foldl max 0
  dle : depS ys d ≤ 40
  par : ∀ p ∈ ps, depthS ys p = (((depS ys p : Nat) : Int), (0 : Int)) ∧ basesS ys p d = ([p], 0) ∧ depS ys p ≤ 40
  rch : ∀ o, reachesS ys d o = (decide (o = d ∨ o ∈ l), 0)
  le : l.length ≤ 40

theorem growth {xs ys : List Itm} (hx : HV xs) (hy : HV ys) {o : Ob} (hoo : OkO o) (hk : o.kind = 3) {ps : List (Int × Int)} (hps : o.pars = ps) (hpo : ∀ p ∈ ps, OkD p) {d : Int × Int} (hput : putS xs o = (ys, d, 0)) (he : (visS xs ps []).2 = 0) (hd : d ∉ (ancS xs ps).1) : GF ys ps d (ancS xs ps).1 := by
  obtain ⟨T, hT, rfl, hAy, hm, _⟩ := put_ok hx.asc hput
  have hcd : commitS ys (digS T) = (o, 0) := com_of hAy ((hm _).2 (.inr rfl)) hT hoo hk
  have hcs : ∀ {z}, z ≠ digS T → commitS ys z = commitS xs z := fun hz => com_same hx.asc hAy hm hz
  have hlm : ∀ {z}, z ∈ (ancS xs ps).1 ↔ ∃ p ∈ ps, Anc xs p z := anc_mem he
  have hln : ∀ {z}, z ∈ (ancS xs ps).1 → z ≠ digS T := fun hz e => hd (by rw [← e]; exact hz)
  have hlc : ∀ {z}, z ∈ (ancS xs ps).1 → (commitS xs z).2 = 0 := fun hz => vis_ok he ((vis_anc he).2 (hlm.1 hz))
  have hlp : ∀ {z p}, z ∈ (ancS xs ps).1 → p ∈ (commitS xs z).1.pars → p ∈ (ancS xs ps).1 := fun {z p} hz hp => by
    obtain ⟨s, hs, h⟩ := hlm.1 hz
    exact hlm.2 ⟨s, hs, h.trans (.step (hlc hz) hp (.refl p))⟩
  have hpl : ∀ {p}, p ∈ ps → p ∈ (ancS xs ps).1 := fun {p} hp => hlm.2 ⟨p, hp, .refl p⟩
  have hanc : ∀ {z e}, Anc ys z e → z ∈ (ancS xs ps).1 → e ∈ (ancS xs ps).1 := by
    intro z e h
    induction h with
    | refl => exact id
    | step hc hp h ih =>
      intro hz
      rw [hcs (hln hz)] at hp
      exact ih (hlp hz hp)
  have hanc2 : ∀ {z e}, Anc xs z e → z ∈ (ancS xs ps).1 → Anc ys z e := by
    intro z e h
    induction h with
    | refl => exact fun _ => .refl _
    | step hc hp h ih =>
      intro hz
      refine .step (by rw [hcs (hln hz)]; exact hc) (by rw [hcs (hln hz)]; exact hp) (ih (hlp hz hp))
  have hancD : ∀ {e}, Anc ys (digS T) e ↔ e = digS T ∨ e ∈ (ancS xs ps).1 := by
    intro e
    constructor
    · intro h
      cases h with
      | refl => exact .inl rfl
      | step hc hp h =>
        rw [hcd, hps] at hp
        exact .inr (hanc h (hpl hp))
    · rintro (rfl | h)
      · exact .refl _
      · obtain ⟨p, hp, h2⟩ := hlm.1 h
        exact .step (by rw [hcd]) (by rw [hcd, hps]; exact hp) (hanc2 h2 (hpl hp))
  have hvD : (visS ys [digS T] []).2 = 0 := by
    by_cases h : (visS ys [digS T] []).2 = 0
    · exact h
    · obtain ⟨_, s, hs, e, h1, _, h2⟩ := visS_bad ys _ [digS T] [] (Nat.le_refl _) h
      rw [List.mem_singleton] at hs
      subst hs
      rcases hancD.1 h1 with rfl | h3
      · rw [hcd] at h2; exact absurd h2.symm h
      · rw [hcs (hln h3), hlc h3] at h2; exact absurd h2.symm h
  have okd : OkD (digS T) := digS_ok' _
  have fD := vis_facts hvD (fun g hg => by rw [List.mem_singleton.1 hg]; exact okd)
  have fP := vis_facts he hpo
  have hdep : ∀ g, depS ys g ≤ 40 := fun g => by
    have := dep_rk hy.acy _ g (Nat.le_refl _); have := rk_le ys g; have := hy.le; omega
  have hds : ∀ (n : Nat) (z : Int × Int), rkS xs z ≤ n → z ∈ (ancS xs ps).1 → depS ys z = depS xs z := by
    intro n
    induction n with
    | zero =>
      intro z hn hz
      rw [depS_eq hx.acy z, depS_eq hy.acy z, hcs (hln hz)]
      cases hp : (commitS xs z).1.pars with
      | nil => rfl
      | cons p t => have := rk_lt hx.acy (hlc hz) (p := p) (by rw [hp]; simp); omega
    | succ n ih =>
      intro z hn hz
      rw [depS_eq hx.acy z, depS_eq hy.acy z, hcs (hln hz)]
      congr 1
      refine List.map_congr_left (fun p hp => ?_)
      have := rk_lt hx.acy (hlc hz) hp
      rw [ih p (by omega) (hlp hz hp)]
  have hal : (ancS xs ps).1 = sortH (depS xs) (visS xs ps []).1 := by
    unfold ancS; rw [if_neg (by simpa using he)]
  have hascl : AscH (depS xs) (ancS xs ps).1 := by rw [hal]; exact sortH_asc fP.nd
  have hvp : ∀ p ∈ ps, (visS ys [p] []).2 = 0 := fun p hp => vis_sub hvD (fun g hg => by
    rw [List.mem_singleton.1 hg]; exact (vis_anc1 hvD).2 (hancD.2 (.inr (hpl hp))))
  refine ⟨?_, ?_, ?_, hdep _, fun p hp => ⟨?_, ?_, hdep _⟩, fun e => ?_, ?_⟩
  · refine Prod.ext ?_ (ancS_ok hvD)
    have h1 : (ancS ys [digS T]).1 = sortH (depS ys) (visS ys [digS T] []).1 := by
      unfold ancS; rw [if_neg (by simpa using hvD)]
    rw [h1]
    refine ascH_ext (sortH_asc fD.nd) ?_ (fun z => ?_)
    · refine List.Pairwise.cons (fun z hz => ?_) (List.Pairwise.imp_of_mem (fun {a b} ha hb h => ?_) hascl)
      · rw [cmpH_lt]
        rcases anc_rk hy.acy (hancD.2 (.inr hz)) with h | h
        · exact absurd h.symm (hln hz)
        · exact .inl h
      · rw [cmpH_lt] at h ⊢
        rw [hds _ a (Nat.le_refl _) ha, hds _ b (Nat.le_refl _) hb]
        exact h
    · rw [(sortH_perm _ _).mem_iff, vis_anc1 hvD, hancD, List.mem_cons]
  · unfold depthS; rw [if_neg (by simpa using hvD)]
  · rw [depS_eq hy.acy, hcd, hps]
  · unfold depthS; rw [if_neg (by simpa using hvp p hp)]
  · have h1 := (historyBases.facts hy okd (hpo p hp) hvD (hvp p hp)).one ((anc_mem hvD).2 ⟨_, by simp, hancD.2 (.inr (hpl hp))⟩)
    unfold basesS
    rw [if_neg (by simpa using hvp p hp), if_neg (by simpa using hvD), historyBases.basesL_sym ys (vis_facts (hvp p hp) (fun g hg => by rw [List.mem_singleton.1 hg]; exact hpo p hp)).nd fD.nd, h1]
  · rw [reachesS_ok hvD]
    congr 1
    exact decide_eq_decide.2 (by rw [vis_anc1 hvD, hancD])
  · rw [hal, (sortH_perm _ _).length_eq]
    have := fP.le
    have := hx.le
    omega

end Go.Proofs.YtgdhkcocdmdoaaaGreat
