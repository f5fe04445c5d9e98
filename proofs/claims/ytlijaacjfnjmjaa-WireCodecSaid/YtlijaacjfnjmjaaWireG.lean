/- What wire.Gather computes, in plain terms; and copy for elements of two cells. -/
import Derived.Test.YtlijaacjfnjmjaaWireJoin
import Derived.Laws.CopyOwn
import Derived.OwnWalk
import Derived.ProofKit
namespace Go.Proofs.Ytlijaacjfnjmjaa
open Go.RowKit

/-- Where a piece ends. -/
abbrev pend (p : P) : Int := p.1 + p.2.length

theorem joinO_ends {a b r : P} (h : joinO a b = some r) (h1 : a.1 ≤ b.1) (h2 : b.1 ≤ pend a) : r.1 = a.1 ∧ pend r = max (pend a) (pend b) := by
  obtain ⟨oa, A⟩ := a
  obtain ⟨ob, B⟩ := b
  simp only [pend] at h1 h2 ⊢
  obtain ⟨st, hst⟩ : ∃ st : Nat, (st : Int) = ob - oa := ⟨(ob - oa).toNat, by omega⟩
  obtain ⟨cn, hcn⟩ : ∃ cn : Nat, min (oa + (A.length : Int)) (ob + (B.length : Int)) - ob = (cn : Int) := ⟨(min (oa + (A.length : Int)) (ob + (B.length : Int)) - ob).toNat, by omega⟩
  rw [joinO_eq oa ob A B st cn hst hcn] at h
  split at h
  · simp at h
  · split at h
    · rename_i hc
      simp only [Option.some.injEq] at h
      subst h
      simp only
      refine ⟨trivial, by omega⟩
    · split at h
      · simp only [Option.some.injEq] at h
        subst h
        simp only
        refine ⟨by omega, by omega⟩
      · simp only [Option.some.injEq] at h
        subst h
        simp only [List.length_append, List.length_drop]
        refine ⟨trivial, by omega⟩

theorem joinS_ends {a b r : P} (h : joinS a b = some r) (h2 : b.1 ≤ pend a) (h3 : a.1 ≤ pend b) : r.1 = min a.1 b.1 ∧ pend r = max (pend a) (pend b) := by
  unfold joinS at h
  split at h
  · have := joinO_ends h (by omega) h3
    omega
  · have := joinO_ends h (by omega) h2
    omega

/-- How many pieces end before an offset. -/
def gfrom (off : Int) : List P → Nat
  | [] => 0
  | p :: ps => if pend p < off then gfrom off ps + 1 else 0
/-- The piece, joined with the pieces that begin not behind a limit; and how many they are. -/
def gjoin (lim : Int) : P → List P → Option (P × Nat)
  | p, [] => some (p, 0)
  | p, q :: qs => if q.1 ≤ lim then (joinS p q).bind fun r => (gjoin lim r qs).map fun x => (x.1, x.2 + 1) else some (p, 0)

theorem gfrom_drop (off : Int) : ∀ (ps : List P) (k : Nat), (∀ i (h : i < ps.length), i < k → pend ps[i] < off) → k ≤ ps.length → gfrom off ps = k + gfrom off (ps.drop k)
  | ps, 0, _, _ => by simp
  | [], k + 1, _, h => by simp at h
  | p :: ps, k + 1, h, hk => by
    have h0 := h 0 (by simp) (by omega)
    simp only [List.getElem_cons_zero] at h0
    rw [gfrom, if_pos h0, List.drop_succ_cons, gfrom_drop off ps k (fun i hi hik => by have := h (i + 1) (by simp; omega) (by omega); simpa using this) (by simpa using hk)]
    omega
theorem gfrom_is {off : Int} {ps : List P} {k : Nat} (hk : k ≤ ps.length) (h : ∀ i (h : i < ps.length), i < k → pend ps[i] < off) (h' : ∀ (h : k < ps.length), ¬ pend ps[k] < off) : gfrom off ps = k := by
  rw [gfrom_drop off ps k h hk]
  by_cases hl : k < ps.length
  · rw [List.drop_eq_getElem_cons hl, gfrom, if_neg (h' hl)]; rfl
  · rw [List.drop_eq_nil_of_le (by omega)]; rfl

/-- Facts about valid pieces. -/
theorem vgo_all {tot : Int} : ∀ {ps : List P} {e : Int}, vgo tot e ps = true → ∀ p ∈ ps, 0 ≤ p.1 ∧ p.2 ≠ [] ∧ pend p ≤ tot ∧ e < p.1
  | [], _, _, p, hp => by simp at hp
  | q :: qs, e, h, p, hp => by
    simp only [vgo, Bool.and_eq_true, decide_eq_true_eq, Bool.not_eq_true'] at h
    obtain ⟨⟨⟨⟨h0, h1⟩, h2⟩, h3⟩, h4⟩ := h
    rcases List.mem_cons.1 hp with rfl | hp
    · exact ⟨h0, by intro hc; simp [hc] at h1, by simp only [pend]; omega, h3⟩
    · obtain ⟨a, b, c, d⟩ := vgo_all h4 p hp
      exact ⟨a, b, c, by omega⟩
theorem vgo_sorted {tot : Int} : ∀ {ps : List P} {e : Int}, vgo tot e ps = true → ∀ (i j : Nat) (hj : j < ps.length) (hij : i < j), pend ps[i] < (ps[j]'hj).1
  | [], _, _, i, j, hj, _ => by simp at hj
  | q :: qs, e, h, i, j, hj, hij => by
    simp only [vgo, Bool.and_eq_true, decide_eq_true_eq, Bool.not_eq_true'] at h
    obtain ⟨_, h4⟩ := h
    cases j with
    | zero => omega
    | succ j =>
      have hj' : j < qs.length := by simpa using hj
      cases i with
      | zero => simpa using (vgo_all h4 qs[j] (List.getElem_mem hj')).2.2.2
      | succ i => simpa using vgo_sorted h4 i j hj' (by omega)

/-- What Gather answers: the error, and the parts. -/
def gatherS (id tot : Int) (ps : List P) (kind mid off mtot : Int) (nd : Nat) (data : List UInt8) : Int × Int × Int × List P :=
  if !vParts id tot ps then (1, 0, 0, [])
  else if kind ≠ 2 then (9, 0, 0, [])
  else if !(decide (0 ≤ mid ∧ mid ≤ 1099511627776) && v2 off mtot nd data.length) then (1, 0, 0, [])
  else if 0 < ps.length ∧ (id ≠ mid ∨ tot ≠ mtot) then (11, 0, 0, [])
  else match gjoin (off + data.length) (off, data) (ps.drop (gfrom off ps)) with
    | none => (11, 0, 0, [])
    | some (p, k) => (0, mid, mtot, ps.take (gfrom off ps) ++ p :: ps.drop (gfrom off ps + k))

/-- The relation of the second loop. -/
def GRel (lim off tot : Int) (data : List UInt8) (ps : List P) (f t : Nat) (p : P) : Prop :=
  f ≤ t ∧ t ≤ ps.length ∧ gjoin lim (off, data) (ps.drop f) = (gjoin lim p (ps.drop t)).map (fun x => (x.1, x.2 + (t - f))) ∧ 0 ≤ p.1 ∧ p.1 ≤ off ∧ lim ≤ pend p ∧ pend p ≤ tot

theorem GRel.start {lim off tot : Int} {data : List UInt8} {ps : List P} {f : Nat} (hf : f ≤ ps.length) (h0 : 0 ≤ off) (h1 : lim ≤ off + data.length) (h2 : off + data.length ≤ tot) : GRel lim off tot data ps f f (off, data) :=
  ⟨Nat.le_refl _, hf, by cases gjoin lim (off, data) (ps.drop f) <;> simp, h0, by simp, h1, h2⟩
theorem GRel.done {lim off tot : Int} {data : List UInt8} {ps : List P} {f t : Nat} {p : P} (h : GRel lim off tot data ps f t p) (ht : ∀ h : t < ps.length, ¬ (ps[t].1 ≤ lim)) : gjoin lim (off, data) (ps.drop f) = some (p, t - f) := by
  obtain ⟨_, htl, h3, _⟩ := h
  rw [h3]
  by_cases hl : t < ps.length
  · rw [List.drop_eq_getElem_cons hl, gjoin, if_neg (ht hl)]; simp
  · rw [List.drop_eq_nil_of_le (by omega), gjoin]; simp
theorem GRel.fails {lim off tot : Int} {data : List UInt8} {ps : List P} {f t : Nat} {p : P} (h : GRel lim off tot data ps f t p) (hl : t < ps.length) (ht : ps[t].1 ≤ lim) (hj : joinS p ps[t] = none) : gjoin lim (off, data) (ps.drop f) = none := by
  obtain ⟨_, htl, h3, _⟩ := h
  rw [h3, List.drop_eq_getElem_cons hl, gjoin, if_pos ht, hj]; rfl
theorem GRel.next {lim off tot : Int} {data : List UInt8} {ps : List P} {f t : Nat} {p r : P} (h : GRel lim off tot data ps f t p) (hl : t < ps.length) (ht : ps[t].1 ≤ lim) (hj : joinS p ps[t] = some r) (h0 : 0 ≤ ps[t].1) (h1 : off ≤ pend ps[t]) (h2 : pend ps[t] ≤ tot) : GRel lim off tot data ps f (t + 1) r := by
  obtain ⟨hft, htl, h3, h4, h5, h6, h7⟩ := h
  have he := joinS_ends hj (by omega) (by omega)
  refine ⟨by omega, by omega, ?_, by omega, by omega, by omega, by omega⟩
  rw [h3, List.drop_eq_getElem_cons hl, gjoin, if_pos ht, hj]
  simp only [Option.bind_some, Option.map_map]
  congr 1
  funext x
  simp only [Function.comp]
  congr 1
  omega

/-- copy, for elements of so many cells. -/
theorem run_copy_rowN {P : Program} (w : World) (dT sT ty elem : TypeId) (g o dLen dCap : Nat) (a : Addr) (sLen sCap : Nat) (cur : Array Value) (t : TypeId) (cs : List Value) (z : Nat)
    (hu : P.underlying dT = some (.slice elem)) (hs : (P.info? elem).map (·.size) = some z)
    (hg : w.heap[g]? = some (.cells cur t (0, 0))) (n : Nat) (hn : n = Nat.min sLen dLen) (hcs : cs.length = n * z)
    (hsrc : ∀ j v, cs[j]? = some v → w.cell? (a.add j) = some v) (hfit : o + cs.length ≤ cur.size) (h1 : ∀ v ∈ cs, v.oneCell' = true) :
    (Builtin.copy_ #[dT, sT] ty #[.slice (some ⟨g, o, none⟩) dLen dCap, .slice (some a) sLen sCap]).run P w =
      .ok (goInt n) (w.setRow g (cur.toList.take o ++ cs ++ cur.toList.drop (o + cs.length)).toArray) := by
  have hl := run_loadCells_list (P := P) w a cs hsrc
  have hst := run_storeCells_at P g o t cs 0 cur w hg (by simpa using hfit) h1
  cases hq : P.info? elem with
  | none => simp [hq] at hs
  | some i =>
    have hi : i.size = z := by simpa [hq] using hs
    simp [Builtin.copy_, run_underlying hu, Builtin.lenOf, Builtin.firstCells, sizeOf, typeInfo, hq, hi, ← hn, ← hcs, hl, hst]
theorem run_copy_noneN {P : Program} (w : World) (dT sT ty elem : TypeId) (d a : Option Addr) (dLen dCap sLen sCap : Nat) (z : Nat) (hu : P.underlying dT = some (.slice elem)) (hs : (P.info? elem).map (·.size) = some z) (hn : Nat.min sLen dLen = 0) :
    (Builtin.copy_ #[dT, sT] ty #[.slice d dLen dCap, .slice a sLen sCap]).run P w = .ok (goInt 0) w := by
  cases hq : P.info? elem with
  | none => simp [hq] at hs
  | some i =>
    have hl : ∀ (x : Addr), (loadCells x 0).run P w = .ok #[] w := fun x => by simpa using run_loadCells_list (P := P) w x [] (by simp)
    cases d <;> cases a <;> simp [Builtin.copy_, run_underlying hu, Builtin.lenOf, Builtin.firstCells, sizeOf, typeInfo, hq, hn, storeCells, hl]

theorem wpList_copy_spliceN {P : Program} {w : World} {ops : Array Oper} {rest : List Oper} {o : Oper} {a : Act} {Q : Exit → Act → World → Prop} (hgd : o.guard = none) (d s : Operand) (dT sT : TypeId)
    (ho : o.op = .call { callee := .builtin .copy, args := #[d, s], argTypes := #[dT, sT] }) (elem : TypeId) (z : Nat) (hu : P.underlying dT = some (.slice elem)) (hsz : (P.info? elem).map (·.size) = some z)
    (dp sp : Option Addr) (dLen dCap sLen sCap : Nat) (hd : a.eval d = .slice dp dLen dCap) (hs : a.eval s = .slice sp sLen sCap)
    (g off : Nat) (cur : List Value) (t : TypeId) (hg : w.heap[g]? = some (.cells cur.toArray t (0, 0))) (cs : List Value) (n : Nat) (hn : n = Nat.min sLen dLen) (hcs : cs.length = n * z)
    (hpos : 0 < n → dp = some ⟨g, off, none⟩ ∧ ∃ ad, sp = some ad ∧ ∀ j v, cs[j]? = some v → w.cell? (ad.add j) = some v)
    (hfit : off + cs.length ≤ cur.length) (h1 : ∀ v ∈ cs, v.oneCell' = true) (B : Nat) (w0 : World) (hb : Below B w0 w) (hBg : B ≤ g)
    (h : ∀ w', Hid (w'.heap[g]? = some (.cells (splice cur off cs).toArray t (0, 0))) → Below B w0 w' → wpList P ops Q rest (a.put o.dst (goInt n)) w') :
    wpList P ops Q (o :: rest) a w := by
  by_cases h0 : n = 0
  · obtain rfl : cs = [] := List.eq_nil_of_length_eq_zero (by rw [hcs, h0]; simp)
    subst h0
    refine wpList_plain hgd fun K hK => ?_
    have hrun := run_copy_noneN (P := P) w dT sT o.type elem dp sp dLen dCap sLen sCap z hu hsz (by simpa using hn.symm)
    unfold Oper.wp
    simp [execOp, ho, resolve, invoke, builtin, hd, hs, hrun, Result.andThen]
    exact hK _ _ (h w (show _ = _ by simpa [splice] using hg) hb)
  · obtain ⟨rfl, ad, rfl, hsrc⟩ := hpos (by omega)
    refine wpList_plain hgd fun K hK => ?_
    have hrun := run_copy_rowN (P := P) w dT sT o.type elem g off dLen dCap ad sLen sCap cur.toArray t cs z hu hsz hg n hn hcs hsrc (by simpa using hfit) h1
    unfold Oper.wp
    simp [execOp, ho, resolve, invoke, builtin, hd, hs, hrun, Result.andThen]
    exact hK _ _ (h _ (show _ = _ by simpa [splice] using setRow_heap w g _ _ t _ hg) (below_setRow hb hBg _))

theorem step_copy_spliceN {P : Program} {ops : Array Oper} {o : Oper} {a : Act} {w : World} {K : Act → World → Prop} {Q : Exit → Act → World → Prop} {E : Prop} (hgd : o.guard = none) (d s : Operand) (dT sT : TypeId)
    (ho : o.op = .call { callee := .builtin .copy, args := #[d, s], argTypes := #[dT, sT] }) (elem : TypeId) (z : Nat) (hu : P.underlying dT = some (.slice elem)) (hsz : (P.info? elem).map (·.size) = some z)
    (dp sp : Option Addr) (dLen dCap sLen sCap : Nat) (hd : a.eval d = .slice dp dLen dCap) (hs : a.eval s = .slice sp sLen sCap)
    (g off : Nat) (cur : List Value) (t : TypeId) (hg : w.heap[g]? = some (.cells cur.toArray t (0, 0))) (cs : List Value) (n : Nat) (hn : n = Nat.min sLen dLen) (hcs : cs.length = n * z)
    (hpos : 0 < n → dp = some ⟨g, off, none⟩ ∧ ∃ ad, sp = some ad ∧ ∀ j v, cs[j]? = some v → w.cell? (ad.add j) = some v)
    (hfit : off + cs.length ≤ cur.length) (h1 : ∀ v ∈ cs, v.oneCell' = true) (B : Nat) (w0 : World) (hb : Below B w0 w) (hBg : B ≤ g)
    (h : ∀ w', Hid (w'.heap[g]? = some (.cells (splice cur off cs).toArray t (0, 0))) → Below B w0 w' → K (a.put o.dst (goInt n)) w') :
    if Region.wanted o (yielded ops a.tmps) = true then Oper.wp P o a w K Q else E := by
  have hw : Region.wanted o (yielded ops a.tmps) = true := by simp [Region.wanted, hgd]
  rw [if_pos hw]
  by_cases h0 : n = 0
  · obtain rfl : cs = [] := List.eq_nil_of_length_eq_zero (by rw [hcs, h0]; simp)
    subst h0
    have hrun := run_copy_noneN (P := P) w dT sT o.type elem dp sp dLen dCap sLen sCap z hu hsz (by simpa using hn.symm)
    unfold Oper.wp
    simp [execOp, ho, resolve, invoke, builtin, hd, hs, hrun, Result.andThen]
    exact h w (show _ = _ by simpa [splice] using hg) hb
  · obtain ⟨rfl, ad, rfl, hsrc⟩ := hpos (by omega)
    have hrun := run_copy_rowN (P := P) w dT sT o.type elem g off dLen dCap ad sLen sCap cur.toArray t cs z hu hsz hg n hn hcs hsrc (by simpa using hfit) h1
    unfold Oper.wp
    simp [execOp, ho, resolve, invoke, builtin, hd, hs, hrun, Result.andThen]
    exact h _ (show _ = _ by simpa [splice] using setRow_heap w g _ _ t _ hg) (below_setRow hb hBg _)

theorem infoPiece : (Try.prog.info? 40).map (fun i => (i.zero, i.size, i.bytes)) = some (some (.agg #[.int .i64 0, .string ⟨#[]⟩]), 2, 24) := by kernel_rfl

/-- The cells of pieces. -/
def pcells (ps : List P) : List Value := ps.flatMap fun p => [.int .i64 p.1, .string ⟨p.2.toArray⟩]
theorem pcells_cons (p : P) (ps : List P) : pcells (p :: ps) = .int .i64 p.1 :: .string ⟨p.2.toArray⟩ :: pcells ps := by simp [pcells]
theorem length_pcells (ps : List P) : (pcells ps).length = ps.length * 2 := by
  induction ps with
  | nil => rfl
  | cons p ps ih => rw [pcells_cons]; simp [ih]; omega
theorem pcells_append (ps qs : List P) : pcells (ps ++ qs) = pcells ps ++ pcells qs := by simp [pcells]
theorem pcells_one {ps : List P} {v : Value} (h : v ∈ pcells ps) : v.oneCell' = true := by
  unfold pcells at h
  rw [List.mem_flatMap] at h
  obtain ⟨p, _, hv⟩ := h
  rcases List.mem_cons.1 hv with rfl | hv
  · rfl
  · rcases List.mem_cons.1 hv with rfl | hv
    · rfl
    · simp at hv
theorem pcells_at : ∀ {ps : List P} {j : Nat} {v : Value}, (pcells ps)[j]? = some v → ∃ (i : Nat) (h : i < ps.length), (j = i * 2 ∧ v = .int .i64 ps[i].1) ∨ (j = i * 2 + 1 ∧ v = .string ⟨ps[i].2.toArray⟩)
  | [], j, v, h => by simp [pcells] at h
  | p :: ps, 0, v, h => by rw [pcells_cons] at h; exact ⟨0, by simp, .inl ⟨rfl, by simpa using h.symm⟩⟩
  | p :: ps, 1, v, h => by rw [pcells_cons] at h; exact ⟨0, by simp, .inr ⟨rfl, by simpa using h.symm⟩⟩
  | p :: ps, j + 2, v, h => by
    rw [pcells_cons] at h
    simp only [List.getElem?_cons_succ] at h
    obtain ⟨i, hi, hc⟩ := pcells_at h
    refine ⟨i + 1, by simp; omega, ?_⟩
    rcases hc with ⟨h1, h2⟩ | ⟨h1, h2⟩
    · exact .inl ⟨by omega, by simpa using h2⟩
    · exact .inr ⟨by omega, by simpa using h2⟩
theorem pcells_even : ∀ (ps : List P) (i : Nat) (h : i < ps.length), (pcells ps)[i * 2]? = some (.int .i64 ps[i].1) ∧ (pcells ps)[i * 2 + 1]? = some (.string ⟨ps[i].2.toArray⟩)
  | [], i, h => by simp at h
  | p :: ps, 0, _ => by rw [pcells_cons]; simp
  | p :: ps, i + 1, h => by
    rw [pcells_cons, show (i + 1) * 2 = i * 2 + 1 + 1 from by omega]
    simpa using pcells_even ps i (by simpa using h)

theorem Pcs.src {B : Nat} {W : World} {a : Option Addr} {ps : List P} (h : Pcs B W a ps) (h0 : 0 < ps.length) : ∃ ad, a = some ad ∧ ∀ j v, (pcells ps)[j]? = some v → W.cell? (ad.add j) = some v := by
  obtain ⟨b, off, rfl, _⟩ := h 0 h0
  refine ⟨_, rfl, fun j v hj => ?_⟩
  obtain ⟨i, hi, hc⟩ := pcells_at hj
  obtain ⟨b', off', he, _, h1, h2⟩ := h i hi
  cases he
  rw [Go.WideShapes.add_plain]
  rcases hc with ⟨rfl, rfl⟩ | ⟨rfl, rfl⟩
  · exact h1
  · rw [← Nat.add_assoc]; exact h2
theorem Pcs.take {B : Nat} {W : World} {a : Option Addr} {ps : List P} (h : Pcs B W a ps) (k : Nat) : Pcs B W a (ps.take k) := by
  intro i hi
  have hi' : i < ps.length := by rw [List.length_take] at hi; omega
  obtain ⟨b, off, ha, hb, h1, h2⟩ := h i hi'
  exact ⟨b, off, ha, hb, by simpa using h1, by simpa using h2⟩
theorem Pcs.drop {B : Nat} {W : World} {a : Option Addr} {ps : List P} (h : Pcs B W a ps) (k : Nat) : Pcs B W (a.map (·.add (k * 2))) (ps.drop k) := by
  intro i hi
  have hi' : k + i < ps.length := by rw [List.length_drop] at hi; omega
  obtain ⟨b, off, rfl, hb, h1, h2⟩ := h (k + i) hi'
  refine ⟨b, off + k * 2, by rw [Option.map_some, Go.WideShapes.add_plain], hb, ?_, ?_⟩
  · rw [show off + k * 2 + i * 2 = off + (k + i) * 2 from by omega]; simpa using h1
  · rw [show off + k * 2 + i * 2 + 1 = off + (k + i) * 2 + 1 from by omega]; simpa using h2
theorem Pcs.row {W : World} {g : Nat} {t : TypeId} {ps : List P} (h : W.heap[g]? = some (.cells (pcells ps).toArray t (0, 0))) : Pcs W.heap.size W (some ⟨g, 0, none⟩) ps := by
  intro i hi
  refine ⟨g, 0, rfl, (Array.getElem?_eq_some_iff.1 h).1, ?_, ?_⟩
  · have := (pcells_even ps i hi).1
    simp only [World.cell?, h, Nat.zero_add]
    simpa using this
  · have := (pcells_even ps i hi).2
    simp only [World.cell?, h, Nat.zero_add]
    simpa using this

theorem row_final (cur X1 X2 : List Value) (u v : Value) (hl : cur.length = X1.length + 2 + X2.length) :
    splice (((splice cur 0 X1).set X1.length u).set (X1.length + 1) v) (X1.length + 2) X2 = X1 ++ u :: v :: X2 := by
  have e1 : splice cur 0 X1 = X1 ++ cur.drop X1.length := by simp [splice]
  obtain ⟨c1, c2, r, hr⟩ : ∃ c1 c2 r, cur.drop X1.length = c1 :: c2 :: r := by
    match h : cur.drop X1.length with
    | [] => have := congrArg List.length h; simp at this; omega
    | [_] => have := congrArg List.length h; simp at this; omega
    | c1 :: c2 :: r => exact ⟨c1, c2, r, rfl⟩
  have hrl : r.length = X2.length := by have := congrArg List.length hr; simp at this; omega
  rw [e1, hr]
  have e2 : ((X1 ++ c1 :: c2 :: r).set X1.length u).set (X1.length + 1) v = X1 ++ u :: v :: r := by
    rw [List.set_append_right _ _ (Nat.le_refl _), List.set_append_right _ _ (by omega)]
    simp
  rw [e2]
  have e3 : (X1 ++ u :: v :: r).take (X1.length + 2) = X1 ++ [u, v] := by rw [List.take_append]; simp [List.take_of_length_le]
  have e4 : (X1 ++ u :: v :: r).drop (X1.length + 2 + X2.length) = [] := List.drop_eq_nil_of_le (by simp; omega)
  unfold splice
  rw [e3, e4]
  simp

theorem size_piece (W : World) : (sizeOf (Try.prog.elem 29)).run Try.prog W = .ok 2 W := by
  obtain ⟨i, h1, _, h3, _⟩ := info_parts infoPiece
  rw [show Try.prog.elem 29 = 40 by kernel_rfl]
  simp [sizeOf, typeInfo, h1, h3]
theorem slice_hi (a : Option Addr) (n c f : Nat) (h : f ≤ c) : ∃ (A1 : Option Addr) (c1 : Nat), (∀ B W ps, Pcs B W a ps → Pcs B W A1 (ps.take f)) ∧ ∀ W, (Instr.slice 29 (.slice a n c) none (some (.int .i64 f)) none).run Try.prog W = .ok (.slice A1 f c1) W := by
  refine ⟨if c = 0 then a else a.map (·.add (0 * 2)), c, fun B W ps hp => ?_, fun W => ?_⟩
  · split
    · exact hp.take f
    · have := (hp.take f).drop 0
      simpa using this
  · rw [run_slice_h (P := Try.prog) W 29 a n c (by kernel_rfl) .i64 f (by omega) (by omega), size_piece]
    simp [sliced, Result.andThen]
theorem slice_lo (a : Option Addr) (n c t : Nat) (h : t ≤ n) (hc : n ≤ c) : ∃ (A1 : Option Addr) (c1 : Nat), (∀ B W ps, ps.length = n → Pcs B W a ps → Pcs B W A1 (ps.drop t)) ∧ (∀ ad, a = some ad → t < n → A1 = some (ad.add (t * 2))) ∧ ∀ W, (Instr.slice 29 (.slice a n c) (some (.int .i64 t)) none none).run Try.prog W = .ok (.slice A1 (n - t) c1) W := by
  refine ⟨if c = t then a else a.map (·.add (t * 2)), c - t, fun B W ps hl hp => ?_, fun ad ha ht => ?_, fun W => ?_⟩
  · split
    · rw [List.drop_eq_nil_of_le (by omega)]; intro i hi; simp at hi
    · exact hp.drop t
  · rw [if_neg (by omega), ha]; rfl
  · rw [run_slice_l (P := Try.prog) W 29 a n c (by kernel_rfl) .i64 t (by omega) (by omega), size_piece]
    simp [sliced, Result.andThen]

/-- A row that make has made. -/
theorem made_row {w' : World} {base e size g n : Nat} {xs : List Value} (h : w'.ownsRow base e size (.slice (some ⟨g, 0, none⟩) n n) n xs) : ∃ cur : List Value, cur.length = n * size ∧ w'.heap[g]? = some (.cells cur.toArray e (0, 0)) := by
  rcases h.2 with ⟨h1, _⟩ | ⟨g', cap, cur, h1, _, hg, _, _, hs, _⟩
  · cases h1
  · cases h1
    exact ⟨cur.toList, by simpa using hs, by simpa using hg⟩
theorem grown_below {w w' : World} (h : w.grownBy w' none) : Below w.heap.size w w' := ⟨h.os, h.tape, h.output, h.size, fun k hk => h.block k hk (by simp)⟩

/-- Two cells of a row are written. -/
theorem row_set {w : World} {g k : Nat} {L : List Value} {t : TypeId} (u v : Value) (h : w.heap[g]? = some (.cells L.toArray t (0, 0))) :
    ((w.setCell ⟨g, k, none⟩ u).setCell ⟨g, k + 1, none⟩ v).heap[g]? = some (.cells ((L.set k u).set (k + 1) v).toArray t (0, 0)) := by
  rw [setCell_eq_setRow w g k L.toArray t (0, 0) u h]
  have h1 := setRow_heap w g L.toArray (L.toArray.setIfInBounds k u) t (0, 0) h
  rw [setCell_eq_setRow _ g (k + 1) _ t (0, 0) v h1, setRow_heap _ g _ _ t (0, 0) h1]
  simp
theorem row_cell {w : World} {g k : Nat} {L : List Value} {t : TypeId} (h : w.heap[g]? = some (.cells L.toArray t (0, 0))) (hk : k < L.length) : ∃ x, w.cell? ⟨g, k, none⟩ = some x := by
  refine ⟨L[k], ?_⟩
  simp [World.cell?, h, hk]
theorem row_free {w : World} {g k : Nat} {L : List Value} {t : TypeId} (h : w.heap[g]? = some (.cells L.toArray t (0, 0))) : w.frozen? ⟨g, k, none⟩ = false := by
  simp [World.frozen?, h]

end Go.Proofs.Ytlijaacjfnjmjaa
