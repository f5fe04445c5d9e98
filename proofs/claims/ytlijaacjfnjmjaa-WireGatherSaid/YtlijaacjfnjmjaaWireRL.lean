/- The reference's Gather, in plain terms: it answers as wire.Gather does. -/
import Derived.Test.YtlijaacjfnjmjaaWireRJ
import Derived.Test.YtlijaacjfnjmjaaWireLaw
namespace Go.Proofs.Ytlijaacjfnjmjaa

theorem agr_comm (a b : P) : agr a b = agr b a := by
  unfold agr
  rw [Int.min_comm (pend a), Int.max_comm a.1]
  congr 1
  rw [decide_eq_decide]
  exact eq_comm

theorem agr_ord {a b : P} (h1 : a.1 ≤ b.1) (h2 : b.1 ≤ pend a) : joinO a b = if agr a b = true then some (rjo a b) else none := by
  obtain ⟨oa, A⟩ := a
  obtain ⟨ob, B⟩ := b
  simp only [pend] at h1 h2
  obtain ⟨st, hst⟩ : ∃ st : Nat, (st : Int) = ob - oa := ⟨(ob - oa).toNat, by omega⟩
  obtain ⟨cn, hcn⟩ : ∃ cn : Nat, min (oa + (A.length : Int)) (ob + (B.length : Int)) - ob = (cn : Int) := ⟨(min (oa + (A.length : Int)) (ob + (B.length : Int)) - ob).toNat, by omega⟩
  rw [joinO_eq oa ob A B st cn hst hcn]
  have hag : agr (oa, A) (ob, B) = decide ((A.drop st).take cn = B.take cn) := by
    unfold agr
    simp only [pend]
    rw [show max oa ob = ob by omega, hcn, show (ob - oa).toNat = st by omega, show (ob - ob).toNat = 0 by omega, List.drop_zero, Int.toNat_natCast]
    by_cases h : min (oa + (A.length : Int)) (ob + (B.length : Int)) ≤ ob
    · obtain rfl : cn = 0 := by omega
      simp
    · rw [decide_eq_false h, Bool.false_or]
  rw [hag]
  by_cases hc : (A.drop st).take cn = B.take cn
  · rw [if_neg (show ¬ ((A.drop st).take cn ≠ B.take cn) by simpa using hc), decide_eq_true hc]
    show (if cn = B.length then some (oa, A) else if st = 0 then some (ob, B) else some (oa, A ++ B.drop cn)) = some (rjo (oa, A) (ob, B))
    unfold rjo
    simp only [pend]
    by_cases he : cn = B.length
    · have hle : ob + (B.length : Int) ≤ oa + (A.length : Int) := by omega
      rw [if_pos he, if_pos hle]
    · have hne : ¬ (ob + (B.length : Int) ≤ oa + (A.length : Int)) := by omega
      rw [if_neg he, if_neg hne]
      by_cases hs : st = 0
      · rw [if_pos hs, show (ob - oa).toNat = 0 by omega, List.take_zero, List.nil_append, show oa = ob by omega]
      · rw [if_neg hs, show (ob - oa).toNat = st by omega]
        have hA : (A.drop st).take cn = A.drop st := List.take_of_length_le (by rw [List.length_drop]; omega)
        have hB : B = A.drop st ++ B.drop cn := by rw [← hA, hc, List.take_append_drop]
        congr 2
        conv => rhs; rw [hB]
        rw [← List.append_assoc, List.take_append_drop]
  · rw [if_pos (show (A.drop st).take cn ≠ B.take cn from hc), decide_eq_false hc]
    rfl

theorem agr_join {a b : P} (h2 : b.1 ≤ pend a) (h3 : a.1 ≤ pend b) : joinS a b = if agr a b = true then some (rjoin a b) else none := by
  unfold joinS rjoin
  by_cases h : b.1 < a.1
  · rw [if_pos h, if_pos h, agr_ord (by omega) h3, agr_comm]
  · rw [if_neg h, if_neg h, agr_ord (by omega) h2]

theorem agr_apart {a b : P} (h : pend b < a.1 ∨ pend a < b.1) : agr a b = true := by
  unfold agr
  rw [decide_eq_true (by omega), Bool.true_or]

/-- What the reference's loop does. -/
def rgo : P → List P → Option (List P × P × List P)
  | p, [] => some ([], p, [])
  | p, y :: ys =>
    if agr p y = false then none
    else if pend y < p.1 then (rgo p ys).map fun r => (y :: r.1, r.2.1, r.2.2)
    else if pend p < y.1 then (rgo p ys).map fun r => (r.1, r.2.1, y :: r.2.2)
    else rgo (rjoin p y) ys

theorem rgo_after : ∀ {qs : List P} {p : P}, (∀ q ∈ qs, pend p < q.1) → rgo p qs = some ([], p, qs)
  | [], _, _ => rfl
  | q :: qs, p, h => by
    have hq := h q (by simp)
    have hp : p.1 ≤ pend p := by simp only [pend]; omega
    have hq' : q.1 ≤ pend q := by simp only [pend]; omega
    rw [rgo, agr_apart (.inr hq), if_neg (by decide), if_neg (by omega), if_pos hq, rgo_after (fun x hx => h x (by simp [hx]))]
    rfl

theorem rgo_before {p : P} : ∀ {ps : List P}, rgo p ps = (rgo p (ps.drop (gfrom p.1 ps))).map fun r => (ps.take (gfrom p.1 ps) ++ r.1, r.2.1, r.2.2)
  | [] => rfl
  | y :: ys => by
    by_cases h : pend y < p.1
    · rw [gfrom, if_pos h, List.drop_succ_cons, List.take_succ_cons]
      conv => lhs; rw [rgo, agr_apart (.inl h), if_neg (by decide), if_pos h, rgo_before (ps := ys)]
      rw [Option.map_map]
      rfl
    · rw [gfrom, if_neg h]
      simp only [List.drop_zero, List.take_zero, List.nil_append]
      cases rgo p (y :: ys) <;> rfl

theorem rgo_join {lim tot : Int} : ∀ {qs : List P} {p : P} {e : Int}, vgo tot e qs = true → p.1 ≤ lim → lim ≤ pend p → (∀ q ∈ qs, p.1 ≤ pend q) → (pend p ≤ lim ∨ pend p ≤ e) → rgo p qs = (gjoin lim p qs).map fun x => ([], x.1, qs.drop x.2)
  | [], p, _, _, _, _, _, _ => rfl
  | q :: qs, p, e, hv, h1, h2, h3, hle => by
    rw [vgo] at hv
    simp only [Bool.and_eq_true, decide_eq_true_eq] at hv
    obtain ⟨⟨⟨⟨hq0, hqe⟩, hqt⟩, heq⟩, hv⟩ := hv
    have hpq : p.1 ≤ pend q := h3 q (by simp)
    have ha := vgo_all hv
    rw [gjoin]
    by_cases hl : q.1 ≤ lim
    · rw [if_pos hl, rgo, agr_join (by omega) hpq]
      by_cases hg : agr p q = true
      · have hj : joinS p q = some (rjoin p q) := by rw [agr_join (by omega) hpq, if_pos hg]
        have he := joinS_ends hj (by omega) hpq
        rw [if_pos hg, if_neg (by rw [hg]; decide), if_neg (by omega), if_neg (by omega)]
        simp only [Option.bind_some, Option.map_map]
        rw [rgo_join (lim := lim) hv (by omega) (by omega) (fun x hx => by
          have := (ha x hx).2.2.2
          simp only [pend] at he ⊢; omega) (by
          simp only [pend] at he hle ⊢
          by_cases hm : p.1 + (p.2.length : Int) ≤ q.1 + q.2.length
          · exact .inr (by omega)
          · exact .inl (by omega))]
        cases gjoin lim (rjoin p q) qs <;> rfl
      · have hg' : agr p q = false := by simpa using hg
        rw [if_neg hg, if_pos hg']
        rfl
    · rw [if_neg hl]
      have hpq2 : pend p < q.1 := by omega
      have := rgo_after (p := p) (qs := q :: qs) (fun x hx => by
        rcases List.mem_cons.1 hx with rfl | hx
        · exact hpq2
        · have := (ha x hx).2.2.2
          have : q.1 ≤ q.1 + (q.2.length : Int) := by omega
          omega)
      rw [this]
      rfl

/-- The pieces that the reference hands back. -/
def rRest (off mid mtot : Int) (data : List UInt8) (ps : List P) : Int × Int × Int × List P :=
  match rgo (off, data) ps with
  | none => (11, 0, 0, [])
  | some (b, p, a) => (0, mid, mtot, b ++ p :: a)

theorem rRest_eq {tot off mid mtot : Int} {data : List UInt8} {ps : List P} (hv : vgo tot (-1) ps = true) :
    rRest off mid mtot data ps = match gjoin (off + data.length) (off, data) (ps.drop (gfrom off ps)) with
    | none => (11, 0, 0, [])
    | some (p, k) => (0, mid, mtot, ps.take (gfrom off ps) ++ p :: ps.drop (gfrom off ps + k)) := by
  obtain ⟨gf1, gf2, gf3⟩ := gfrom_facts (off := off) ps
  obtain ⟨ga, gp⟩ := vgo_iff.1 hv
  have hdm : ∀ q ∈ ps.drop (gfrom off ps), off ≤ pend q ∧ q ∈ ps := fun q hq => by
    obtain ⟨j, hj, rfl⟩ := List.getElem_of_mem hq
    simp only [List.length_drop] at hj
    rw [List.getElem_drop]
    refine ⟨?_, List.getElem_mem _⟩
    cases j with
    | zero => exact gf3 (by omega)
    | succ j =>
      have g3 := gf3 (by omega)
      have := pairwise_get gp (show gfrom off ps < gfrom off ps + (j + 1) by omega) (by omega)
      simp only [pend] at *; omega
  have hvd : vgo tot (-1) (ps.drop (gfrom off ps)) = true := vgo_iff.2 ⟨fun q hq => ga q (hdm q hq).2, gp.sublist (List.drop_sublist _ _)⟩
  unfold rRest
  rw [rgo_before, rgo_join (lim := off + data.length) (p := (off, data)) hvd (by simp only; omega) (by simp [pend]) (fun q hq => (hdm q hq).1) (.inl (by simp [pend]))]
  cases gjoin (off + data.length) (off, data) (ps.drop (gfrom off ps)) with
  | none => rfl
  | some x => simp [List.drop_drop]

end Go.Proofs.Ytlijaacjfnjmjaa
