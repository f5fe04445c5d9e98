/- The example of the chapter: a commit, two behind it, one behind both. Plain. -/
import Derived.Test.YtgdhkcocdmdoaaaGreatHiBs
namespace Go.Proofs.YtgdhkcocdmdoaaaGreat
open Go.RowKit Go.Shelf Go.Sort
set_option linter.unusedVariables false

theorem get_mem' {xs : List Itm} (ha : Asc xs) {x : Itm} (hx : x ∈ xs) : getS xs x.d = decodeS x.data := by
  obtain ⟨k, hk, rfl⟩ := List.getElem_of_mem hx
  have hh : hitB xs xs[k].d k = true := by unfold hitB; rw [List.getElem?_eq_getElem hk]; simp
  obtain ⟨_, _, h⟩ := getS_hit (at_uniq ha hk rfl) hh
  exact h
theorem ins_ok {xs : List Itm} {x : Itm} (h : ∀ y ∈ xs, y.d ≠ x.d) : (insS xs x).2 = 0 := by
  unfold insS
  split
  · rename_i y hy
    rw [if_neg (h y (List.mem_of_getElem? hy))]
  · rfl
theorem put_new {xs : List Itm} (ha : Asc xs) {o : Ob} {T : List UInt8} (he : encodeS o = (T, 0)) (hn : ∀ y ∈ xs, y.d ≠ digS T) : ∃ ys, putS xs o = (ys, digS T, 0) ∧ Asc ys ∧ (∀ y, y ∈ ys ↔ y ∈ xs ∨ y = ⟨digS T, T⟩) ∧ ys.length ≤ xs.length + 1 := by
  have h1 := ins_ok (x := ⟨digS T, T⟩) hn
  refine ⟨(insS xs ⟨digS T, T⟩).1, ?_, ins_law ha (by rw [← h1])⟩
  unfold putS
  rw [he]
  simp [h1]
def exO (t : Int) (ps : List (Int × Int)) : Ob := ⟨3, [], [], (1, 1), ps, [97, 110, 110], t, []⟩
def exA : Int × Int := digS (bodyO (exO 1 []))
def exB : Int × Int := digS (bodyO (exO 2 [exA]))
def exC : Int × Int := digS (bodyO (exO 3 [exA]))
def exD : Int × Int := digS (bodyO (exO 4 [exB, exC]))
theorem encA : encodeS (exO 1 []) = (bodyO (exO 1 []), 0) := by decide +kernel
theorem encB : encodeS (exO 2 [exA]) = (bodyO (exO 2 [exA]), 0) := by decide +kernel
theorem encC : encodeS (exO 3 [exA]) = (bodyO (exO 3 [exA]), 0) := by decide +kernel
theorem encD' : encodeS (exO 4 [exB, exC]) = (bodyO (exO 4 [exB, exC]), 0) := by decide +kernel
theorem neAB : exA ≠ exB := by decide +kernel
theorem neAC : exA ≠ exC := by decide +kernel
theorem neAD : exA ≠ exD := by decide +kernel
theorem neBC : exB ≠ exC := by decide +kernel
theorem neBD : exB ≠ exD := by decide +kernel
theorem neCD : exC ≠ exD := by decide +kernel
theorem ok_ex (t : Int) {ps : List (Int × Int)} (h : ∀ d ∈ ps, OkD d) : OkO (exO t ps) := ⟨(⟨⟨by decide, by decide⟩, by decide, by decide⟩ : OkD (1, 1)), h, fun e he => by simp [exO] at he⟩
theorem wrapU_ok' (x : Int) : u64B (IntKind.u64.wrap x) := by
  rw [wrap_u64]
  unfold u64B
  omega
theorem bits_ok' (op : BinOp) (x y : Int) : u64B (bits op .u64 x y) := by
  unfold bits
  exact wrapU_ok' _
theorem fold_ok' {f : Int → UInt8 → Int} (hf : ∀ x c, u64B (f x c)) : ∀ (l : List UInt8) (x : Int), u64B x → u64B (l.foldl f x)
  | [], _, h => h
  | c :: l, x, _ => by rw [List.foldl_cons]; exact fold_ok' hf l _ (hf x c)
theorem digS_ok' (l : List UInt8) : OkD (digS l) := by
  unfold digS
  split
  · exact ⟨⟨by decide, by decide⟩, by decide, by decide⟩
  · exact ⟨fold_ok' (fun x c => wrapU_ok' _) l _ ⟨by decide, by decide⟩, fold_ok' (fun x c => bits_ok' _ _ _) l _ ⟨by decide, by decide⟩⟩
theorem digS_ne' (l : List UInt8) : digS l ≠ (0, 0) := by
  unfold digS
  split
  · intro h; cases h
  · rename_i h1
    intro h
    simp only [Prod.mk.injEq] at h
    exact h1 h
theorem okA : OkD exA := digS_ok' _
theorem okB : OkD exB := digS_ok' _
theorem okC : OkD exC := digS_ok' _
theorem okE : OkD exD := digS_ok' _
/-- Four commits: A, two behind it, D behind both. -/
structure ExV (A B C D : Int × Int) (TA TB TC TD : List UInt8) : Prop where
  eA : encodeS (exO 1 []) = (TA, 0)
  eB : encodeS (exO 2 [A]) = (TB, 0)
  eC : encodeS (exO 3 [A]) = (TC, 0)
  eD : encodeS (exO 4 [B, C]) = (TD, 0)
  dA : A = digS TA
  dB : B = digS TB
  dC : C = digS TC
  dD : D = digS TD
  oA : OkD A
  oB : OkD B
  oC : OkD C
  oD : OkD D
  ab : A ≠ B
  ac : A ≠ C
  ad : A ≠ D
  bc : B ≠ C
  bd : B ≠ D
  cd : C ≠ D
  nz : A ≠ (0, 0)
theorem exV : ExV exA exB exC exD (bodyO (exO 1 [])) (bodyO (exO 2 [exA])) (bodyO (exO 3 [exA])) (bodyO (exO 4 [exB, exC])) :=
  ⟨encA, encB, encC, encD', rfl, rfl, rfl, rfl, okA, okB, okC, okE, neAB, neAC, neAD, neBC, neBD, neCD, digS_ne' _⟩
/-- A pool with the four commits. -/
structure ExP (A B C D : Int × Int) (TA TB TC TD : List UInt8) (P : List Itm) : Prop where
  v : ExV A B C D TA TB TC TD
  asc : Asc P
  mem : ∀ y, y ∈ P ↔ y = ⟨A, TA⟩ ∨ y = ⟨B, TB⟩ ∨ y = ⟨C, TC⟩ ∨ y = ⟨D, TD⟩
section
variable {P : List Itm} {A B C D : Int × Int} {TA TB TC TD : List UInt8}
theorem com_of {o : Ob} {T : List UInt8} (ha : Asc P) (hm : (⟨digS T, T⟩ : Itm) ∈ P) (he : encodeS o = (T, 0)) (ho : OkO o) (hk : o.kind = 3) : commitS P (digS T) = (o, 0) := by
  have h1 : getS P (digS T) = decodeS T := get_mem' (x := ⟨digS T, T⟩) ha hm
  unfold commitS
  rw [h1, decode_put he ho]
  simp [hk]
theorem ExP.cA (h : ExP A B C D TA TB TC TD P) : commitS P A = (exO 1 [], 0) := by
  have := com_of h.asc (by rw [← h.v.dA]; exact (h.mem _).2 (.inl rfl)) h.v.eA (ok_ex _ (by simp)) rfl
  rwa [← h.v.dA] at this
theorem ExP.cB (h : ExP A B C D TA TB TC TD P) : commitS P B = (exO 2 [A], 0) := by
  have := com_of h.asc (by rw [← h.v.dB]; exact (h.mem _).2 (.inr (.inl rfl))) h.v.eB (ok_ex _ (by simp; exact h.v.oA)) rfl
  rwa [← h.v.dB] at this
theorem ExP.cC (h : ExP A B C D TA TB TC TD P) : commitS P C = (exO 3 [A], 0) := by
  have := com_of h.asc (by rw [← h.v.dC]; exact (h.mem _).2 (.inr (.inr (.inl rfl)))) h.v.eC (ok_ex _ (by simp; exact h.v.oA)) rfl
  rwa [← h.v.dC] at this
theorem ExP.cD (h : ExP A B C D TA TB TC TD P) : commitS P D = (exO 4 [B, C], 0) := by
  have := com_of h.asc (by rw [← h.v.dD]; exact (h.mem _).2 (.inr (.inr (.inr rfl)))) h.v.eD (ok_ex _ (by simp; exact ⟨h.v.oB, h.v.oC⟩)) rfl
  rwa [← h.v.dD] at this
theorem ExP.dig (h : ExP A B C D TA TB TC TD P) {d : Int × Int} (hd : (commitS P d).2 = 0) : d = A ∨ d = B ∨ d = C ∨ d = D := by
  obtain ⟨x, hx, rfl, _⟩ := getS_good (commit_ok hd).1
  rcases (h.mem x).1 hx with rfl | rfl | rfl | rfl
  · exact .inl rfl
  · exact .inr (.inl rfl)
  · exact .inr (.inr (.inl rfl))
  · exact .inr (.inr (.inr rfl))
def exR (A B C d : Int × Int) : Nat := if d = A then 0 else if d = B ∨ d = C then 1 else 2
theorem exR_A (v : ExV A B C D TA TB TC TD) : exR A B C A = 0 := by simp [exR]
theorem exR_B (v : ExV A B C D TA TB TC TD) : exR A B C B = 1 := by simp [exR, v.ab.symm]
theorem exR_C (v : ExV A B C D TA TB TC TD) : exR A B C C = 1 := by simp [exR, v.ac.symm]
theorem exR_D (v : ExV A B C D TA TB TC TD) : exR A B C D = 2 := by simp [exR, v.ad.symm, v.bd.symm, v.cd.symm]
theorem ExP.rk (h : ExP A B C D TA TB TC TD P) {d p : Int × Int} (hd : (commitS P d).2 = 0) (hp : p ∈ (commitS P d).1.pars) : exR A B C p < exR A B C d := by
  rcases h.dig hd with rfl | rfl | rfl | rfl
  · rw [h.cA] at hp; simp [exO] at hp
  · rw [h.cB] at hp; simp [exO] at hp; subst hp; rw [exR_A h.v, exR_B h.v]; omega
  · rw [h.cC] at hp; simp [exO] at hp; subst hp; rw [exR_A h.v, exR_C h.v]; omega
  · rw [h.cD] at hp; simp [exO] at hp
    rcases hp with rfl | rfl
    · rw [exR_B h.v, exR_D h.v]; omega
    · rw [exR_C h.v, exR_D h.v]; omega
theorem ExP.anc (h : ExP A B C D TA TB TC TD P) {a b : Int × Int} (ha : Anc P a b) : exR A B C b ≤ exR A B C a := by
  induction ha with
  | refl => exact Nat.le_refl _
  | step h1 h2 _ ih => have := h.rk h1 h2; omega
theorem ExP.acy (h : ExP A B C D TA TB TC TD P) : AcyS P := fun d p hd hp ha => by
  have h1 := h.rk hd hp
  have h2 := h.anc ha
  omega
theorem vis_step {d : Int × Int} {o : Ob} {st met : List (Int × Int)} (h : commitS P d = (o, 0)) (hm : d ∉ met) : visS P (d :: st) met = visS P (o.pars ++ st) (met ++ [d]) := by
  rw [visS_cons, if_neg hm, if_neg (by rw [h]; simp), h]
theorem vis_skip {d : Int × Int} {st met : List (Int × Int)} (hm : d ∈ met) : visS P (d :: st) met = visS P st met := by rw [visS_cons, if_pos hm]
theorem ExP.visD (h : ExP A B C D TA TB TC TD P) : visS P [D] [] = ([D, B, A, C], 0) := by
  rw [vis_step h.cD (by simp)]
  show visS P [B, C] [D] = _
  rw [vis_step h.cB (by simp; exact h.v.bd)]
  show visS P [A, C] [D, B] = _
  rw [vis_step h.cA (by simp; exact ⟨h.v.ad, h.v.ab⟩)]
  show visS P [C] [D, B, A] = _
  rw [vis_step h.cC (by simp; exact ⟨h.v.cd, fun e => h.v.bc e.symm, fun e => h.v.ac e.symm⟩)]
  show visS P [A] [D, B, A, C] = _
  rw [vis_skip (by simp), visS_nil]
theorem ExP.visB (h : ExP A B C D TA TB TC TD P) : visS P [B] [] = ([B, A], 0) := by
  rw [vis_step h.cB (by simp)]
  show visS P [A] [B] = _
  rw [vis_step h.cA (by simp; exact h.v.ab)]
  show visS P [] [B, A] = _
  rw [visS_nil]
theorem ExP.visC (h : ExP A B C D TA TB TC TD P) : visS P [C] [] = ([C, A], 0) := by
  rw [vis_step h.cC (by simp)]
  show visS P [A] [C] = _
  rw [vis_step h.cA (by simp; exact h.v.ac)]
  show visS P [] [C, A] = _
  rw [visS_nil]
theorem ExP.depA (h : ExP A B C D TA TB TC TD P) : depS P A = 0 := by rw [depS_eq h.acy, h.cA]; rfl
theorem ExP.depB (h : ExP A B C D TA TB TC TD P) : depS P B = 1 := by rw [depS_eq h.acy, h.cB]; simp [exO, h.depA]
theorem ExP.depC (h : ExP A B C D TA TB TC TD P) : depS P C = 1 := by rw [depS_eq h.acy, h.cC]; simp [exO, h.depA]
theorem ExP.depD (h : ExP A B C D TA TB TC TD P) : depS P D = 2 := by rw [depS_eq h.acy, h.cD]; simp [exO, h.depB, h.depC]
theorem ExP.sort (h : ExP A B C D TA TB TC TD P) : sortH (depS P) [D, B, A, C] = [D, B, C, A] ∨ sortH (depS P) [D, B, A, C] = [D, C, B, A] := by
  have hnd : [D, B, A, C].Nodup := by
    simp [h.v.ab.symm, h.v.bc, h.v.ac, h.v.bd.symm, h.v.ad.symm, h.v.cd.symm]
  have key : ∀ x y, ([x, y] = [B, C] ∨ [x, y] = [C, B]) → cmpD x y < 0 → sortH (depS P) [D, B, A, C] = [D, x, y, A] := fun x y hxy hc => by
    have hx : depS P x = 1 ∧ depS P y = 1 ∧ (∀ z, z = x ∨ z = y ↔ z = B ∨ z = C) := by
      rcases hxy with e | e <;> simp at e <;> obtain ⟨rfl, rfl⟩ := e
      · exact ⟨h.depB, h.depC, fun z => Iff.rfl⟩
      · exact ⟨h.depC, h.depB, fun z => or_comm⟩
    refine ascH_ext (sortH_asc hnd) ?_ (fun z => ?_)
    · unfold AscH
      simp only [List.pairwise_cons, List.mem_cons, List.not_mem_nil, or_false, forall_eq_or_imp, forall_eq, cmpH_lt, h.depD, h.depA, hx.1, hx.2.1]
      simp [hc]
    · rw [(sortH_perm _ _).mem_iff]
      have := hx.2.2 z
      simp only [List.mem_cons, List.not_mem_nil, or_false]
      constructor
      · rintro (h1 | h1 | h1 | h1)
        · exact .inl h1
        · rcases this.2 (.inl h1) with h2 | h2
          · exact .inr (.inl h2)
          · exact .inr (.inr (.inl h2))
        · exact .inr (.inr (.inr h1))
        · rcases this.2 (.inr h1) with h2 | h2
          · exact .inr (.inl h2)
          · exact .inr (.inr (.inl h2))
      · rintro (h1 | h1 | h1 | h1)
        · exact .inl h1
        · rcases this.1 (.inl h1) with h2 | h2
          · exact .inr (.inl h2)
          · exact .inr (.inr (.inr h2))
        · rcases this.1 (.inr h1) with h2 | h2
          · exact .inr (.inl h2)
          · exact .inr (.inr (.inr h2))
        · exact .inr (.inr (.inl h1))
  have h1 := cmpD_anti (a := B) (b := C)
  have h2 : cmpD B C ≠ 0 := fun e => h.v.bc (cmpD_zero.1 e)
  by_cases h3 : cmpD B C < 0
  · exact .inl (key _ _ (.inl rfl) h3)
  · exact .inr (key _ _ (.inr rfl) (by omega))
theorem ExP.ancD (h : ExP A B C D TA TB TC TD P) : ancS P [D] = ([D, B, C, A], 0) ∨ ancS P [D] = ([D, C, B, A], 0) := by
  unfold ancS
  rw [h.visD]
  rcases h.sort with e | e
  · exact .inl (by simp [e])
  · exact .inr (by simp [e])
theorem ExP.depthD (h : ExP A B C D TA TB TC TD P) : depthS P D = (2, 0) := by
  unfold depthS
  rw [h.visD, h.depD]
  simp
theorem ExP.bases (h : ExP A B C D TA TB TC TD P) : basesS P B C = ([A], 0) := by
  unfold basesS
  rw [h.visB, h.visC]
  simp only [ne_eq, not_true_eq_false, if_false, Prod.mk.injEq, and_true]
  unfold basesL
  have w1 : worseS P [B, A] [C, A] A = false := by
    unfold worseS
    rw [decide_eq_false_iff_not]
    rintro ⟨c, h1, h2, h3⟩
    simp only [List.mem_cons, List.not_mem_nil, or_false] at h1 h2
    rcases h1 with rfl | rfl
    · rcases h2 with h2 | h2
      · exact h.v.bc h2
      · exact h.v.ab h2.symm
    · rw [h.cA] at h3; simp [exO] at h3
  have e : [B, A].filter (fun d => decide (d ∈ [C, A]) && !worseS P [B, A] [C, A] d) = [A] := by
    simp [h.v.bc, h.v.ab.symm, w1]
  rw [e]
  simp [sortS]
end
end Go.Proofs.YtgdhkcocdmdoaaaGreat
