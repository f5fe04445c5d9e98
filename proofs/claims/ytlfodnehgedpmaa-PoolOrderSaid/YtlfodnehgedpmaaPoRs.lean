/- pool.Reach: the plain search, and its state in memory. -/
import Derived.Test.YtlfodnehgedpmaaPoSo
namespace Go.Proofs.Ytlfodnehgedpmaa
open Go.RowKit Go.Shelf
set_option linter.unusedVariables false

/-- The search: what is open, met, reached and missing. -/
def reachF (xs : List Itm) : Nat → List (Int × Int) → List (Int × Int) → List (Int × Int) → List (Int × Int) → List (Int × Int) × List (Int × Int)
  | 0, _, _, R, M => (R, M)
  | f + 1, op, met, R, M =>
    match op.getLast? with
    | none => (R, M)
    | some d =>
      if d ∈ met then reachF xs f op.dropLast met R M
      else if (getS xs d).2 ≠ 0 then reachF xs f op.dropLast (d :: met) R (M ++ [d])
      else reachF xs f (op.dropLast ++ (linksS (getS xs d).1).filter fun l => !decide (l ∈ d :: met)) (d :: met) (R ++ [d]) M
def fuelR (xs : List Itm) (roots : List (Int × Int)) : Nat := 1000 * xs.length + roots.length
def reachS (xs : List Itm) (roots : List (Int × Int)) : List (Int × Int) × List (Int × Int) :=
  (sortS (reachF xs (fuelR xs roots) roots [(0, 0)] [] []).1, sortS (reachF xs (fuelR xs roots) roots [(0, 0)] [] []).2)
theorem reachF_nil (xs : List Itm) (f : Nat) (met R M : List (Int × Int)) : reachF xs f [] met R M = (R, M) := by
  cases f <;> rfl
theorem reachF_met {xs : List Itm} {f : Nat} {op met R M : List (Int × Int)} {d : Int × Int} (h : d ∈ met) : reachF xs (f + 1) (op ++ [d]) met R M = reachF xs f op met R M := by
  rw [reachF]; simp [h]
theorem reachF_miss {xs : List Itm} {f : Nat} {op met R M : List (Int × Int)} {d : Int × Int} (h : d ∉ met) (he : (getS xs d).2 ≠ 0) : reachF xs (f + 1) (op ++ [d]) met R M = reachF xs f op (d :: met) R (M ++ [d]) := by
  rw [reachF]; simp [h, he]
theorem reachF_hit {xs : List Itm} {f : Nat} {op met R M : List (Int × Int)} {d : Int × Int} (h : d ∉ met) (he : (getS xs d).2 = 0) : reachF xs (f + 1) (op ++ [d]) met R M = reachF xs f (op ++ (linksS (getS xs d).1).filter fun l => !decide (l ∈ d :: met)) (d :: met) (R ++ [d]) M := by
  rw [reachF]; simp [h, he]
/-- At most so many rounds are to come. -/
def mea (xs : List Itm) (op met : List (Int × Int)) : Nat := 1000 * xs.countP (fun x => !decide (x.d ∈ met)) + op.length
theorem countP_le (xs : List Itm) (met : List (Int × Int)) (d : Int × Int) : xs.countP (fun x => !decide (x.d ∈ d :: met)) ≤ xs.countP (fun x => !decide (x.d ∈ met)) := by
  refine List.countP_mono_left (fun x _ h => ?_)
  simp at h ⊢
  exact h.2
theorem countP_lt {xs : List Itm} {met : List (Int × Int)} {x : Itm} (hx : x ∈ xs) (hm : x.d ∉ met) : xs.countP (fun y => !decide (y.d ∈ x.d :: met)) + 1 ≤ xs.countP (fun y => !decide (y.d ∈ met)) := by
  induction xs with
  | nil => simp at hx
  | cons y ys ih =>
    rw [List.countP_cons, List.countP_cons]
    rcases List.mem_cons.1 hx with rfl | hx
    · have := countP_le ys met x.d
      simp [hm] at this ⊢
      omega
    · have h1 := ih hx
      have : (if (!decide (y.d ∈ x.d :: met)) = true then 1 else 0) ≤ (if (!decide (y.d ∈ met)) = true then 1 else 0) := by
        by_cases h2 : y.d ∈ met
        · simp [h2]
        · simp [h2]; split <;> omega
      omega
theorem getS_good {xs : List Itm} {d : Int × Int} (h : (getS xs d).2 = 0) : ∃ x ∈ xs, x.d = d ∧ decodeS x.data = getS xs d := by
  unfold getS at h ⊢
  split at h
  · rename_i y hy
    split at h
    · rename_i hd
      exact ⟨y, List.mem_of_getElem? hy, hd, by simp [hd]⟩
    · simp at h
  · simp at h
theorem links_le (o : Ob) : (linksS o).length ≤ 200 := by
  unfold linksS
  split
  · simp
  · rename_i he
    have h := encodeS_parts (encodeS_err (by simpa using he))
    have hc := h.1
    have hk := checkS_kind hc
    by_cases h1 : o.kind = 1 ∨ o.kind = 4
    · rw [checkS_one hc h1]; simp [obZ]; split <;> simp <;> omega
    · by_cases h2 : o.kind = 2
      · have := (entsE_parts (checkS_two hc h2).2).1
        rw [if_neg (by omega)]; simp; exact this
      · have h3 : o.kind = 3 := by omega
        have hp := (commitE_parts (checkS_three hc h3).2).1
        rw [(checkS_three hc h3).1]; simp; omega
theorem links_ok {xs : List Itm} {d : Int × Int} (h : (getS xs d).2 = 0) : ∀ l ∈ linksS (getS xs d).1, OkD l := by
  obtain ⟨x, _, _, hd⟩ := getS_good h
  have hg : decodeS x.data = ((getS xs d).1, 0) := by rw [hd, ← h]
  have ho := (decode_good hg).2
  intro l hl
  unfold linksS at hl
  split at hl
  · simp at hl
  · rcases List.mem_append.1 hl with h1 | h1
    · obtain ⟨e, he, rfl⟩ := List.mem_map.1 h1
      exact ho.2.2 e he
    · split at h1
      · rcases List.mem_cons.1 h1 with rfl | h2
        · exact ho.1
        · exact ho.2.1 l h2
      · simp at h1
theorem mea_pop (xs : List Itm) (op met : List (Int × Int)) (d : Int × Int) : mea xs op met + 1 = mea xs (op ++ [d]) met := by
  unfold mea; simp; omega
theorem mea_miss (xs : List Itm) (op met : List (Int × Int)) (d : Int × Int) : mea xs op (d :: met) + 1 ≤ mea xs (op ++ [d]) met := by
  have := countP_le xs met d
  unfold mea; rw [List.length_append]; simp only [List.length_cons, List.length_nil]; omega
theorem mea_hit {xs : List Itm} {op met ls : List (Int × Int)} {d : Int × Int} (hm : d ∉ met) (h : (getS xs d).2 = 0) (hl : ls.length ≤ 200) : mea xs (op ++ ls) (d :: met) + 1 ≤ mea xs (op ++ [d]) met := by
  obtain ⟨x, hx, rfl, _⟩ := getS_good h
  have := countP_lt hx hm
  unfold mea; rw [List.length_append, List.length_append]; simp only [List.length_cons, List.length_nil]; omega
theorem mea_start (xs : List Itm) (roots : List (Int × Int)) : mea xs roots [(0, 0)] ≤ fuelR xs roots := by
  have : xs.countP (fun x => !decide (x.d ∈ [((0 : Int), (0 : Int))])) ≤ xs.length := List.countP_le_length
  unfold mea fuelR
  omega

/-- Two slices whose blocks are not one. -/
def Apart (u v : Value) : Prop := ∀ k, u.ownBlock = some k → v.ownBlock ≠ some k
theorem Apart.symm {u v : Value} (h : Apart u v) : Apart v u := fun k h1 h2 => h k h2 h1
theorem Apart.nil (v : Value) : Apart (.slice none 0 0) v := fun k h => by simp [Value.ownBlock] at h
theorem own_apart {W W' : World} {base : Nat} {e : TypeId} {z : Nat} {u v : Value} {n : Nat} {xs : List Value} (h : W.ownsRow base e z u n xs) (ha : Apart u v) (hg : W.grownBy W' v.ownBlock) : W'.ownsRow base e z u n xs :=
  h.kept hg (by
    cases hu : u.ownBlock with
    | none => exact .inl rfl
    | some k => exact .inr (fun e => ha k hu e.symm))
theorem apart_step {W : World} {base : Nat} {e : TypeId} {z : Nat} {u v v' : Value} {n N : Nat} {xs : List Value} (h : W.ownsRow base e z u n xs) (ha : Apart u v) (hat : v'.ownBlock = v.ownBlock ∨ v'.ownBlock = some N) (hN : W.heap.size ≤ N) : Apart u v' := by
  intro k hk
  rcases hat with e | e
  · rw [e]; exact ha k hk
  · rw [e]
    intro e2
    have := (h.lt k hk).2
    have := Option.some.inj e2
    omega
/-- The state of the search in memory. -/
structure RchSt (w W : World) (M : Int × Int → Bool) (nm : Nat) (vo vr vm : Value) (op R Ms : List (Int × Int)) : Prop where
  mp : MapD w.heap.size nm M W
  oo : W.ownsRow (w.heap.size + 1) 30 2 vo op.length (dcells op)
  orr : W.ownsRow (w.heap.size + 1) 30 2 vr R.length (dcells R)
  om : W.ownsRow (w.heap.size + 1) 30 2 vm Ms.length (dcells Ms)
  a1 : Apart vo vr
  a2 : Apart vo vm
  a3 : Apart vr vm
  bel : Below w.heap.size w W
section
variable {w W W' : World} {M : Int × Int → Bool} {nm : Nat} {vo vr vm v' : Value} {op R Ms : List (Int × Int)}
theorem RchSt.lt (h : RchSt w W M nm vo vr vm op R Ms) : w.heap.size + 1 ≤ W.heap.size := h.mp.lt
theorem RchSt.below (h : RchSt w W M nm vo vr vm op R Ms) (hb : Below W.heap.size W W') : RchSt w W' M nm vo vr vm op R Ms :=
  ⟨h.mp.below hb, own_below h.oo hb, own_below h.orr hb, own_below h.om hb, h.a1, h.a2, h.a3, h.bel.trans (hb.mono (by have := h.lt; omega))⟩
theorem RchSt.alloc (h : RchSt w W M nm vo vr vm op R Ms) (o : Obj) : RchSt w (W.alloc o) M nm vo vr vm op R Ms := h.below ((Below.refl _ _).alloc (Nat.le_refl _) _)
theorem RchSt.put {M' : Int × Int → Bool} (h : RchSt w W M nm vo vr vm op R Ms) (hm : MapD w.heap.size (nm + 1) M' W') (hg : W.grownBy W' (some w.heap.size)) : RchSt w W' M' (nm + 1) vo vr vm op R Ms :=
  ⟨hm, own_kept h.oo hg (by omega), own_kept h.orr hg (by omega), own_kept h.om hg (by omega), h.a1, h.a2, h.a3, below_of_grown h.bel hg (Nat.le_refl _)⟩
theorem own_map_ne {W : World} {base : Nat} {e : TypeId} {z : Nat} {v : Value} {n b : Nat} {xs : List Value} (h : W.ownsRow base e z v n xs) (hb : b < base) : some b ≠ v.ownBlock := fun e1 => by have := (h.lt b e1.symm).1; omega
theorem RchSt.bel' {base : Nat} {e : TypeId} {z : Nat} {n : Nat} {xs : List Value} (h : Below w.heap.size w W) (ho : W.ownsRow base e z vo n xs) (hb : w.heap.size ≤ base) (hg : W.grownBy W' vo.ownBlock) : Below w.heap.size w W' := h.grown hg h.size (fun k hk => by have := (ho.lt k hk).1; omega)
theorem RchSt.pushO (h : RchSt w W M nm vo vr vm op R Ms) {op' : List (Int × Int)} (hown : W'.ownsRow (w.heap.size + 1) 30 2 v' op'.length (dcells op')) (hg : W.grownBy W' vo.ownBlock) (hat : v'.ownBlock = vo.ownBlock ∨ v'.ownBlock = some W.heap.size) : RchSt w W' M nm v' vr vm op' R Ms :=
  ⟨h.mp.kept hg (own_map_ne h.oo (by omega)), hown, own_apart h.orr h.a1.symm hg, own_apart h.om h.a2.symm hg, (apart_step h.orr h.a1.symm hat (Nat.le_refl _)).symm, (apart_step h.om h.a2.symm hat (Nat.le_refl _)).symm, h.a3, RchSt.bel' h.bel h.oo (by omega) hg⟩
theorem RchSt.pushR (h : RchSt w W M nm vo vr vm op R Ms) {R' : List (Int × Int)} (hown : W'.ownsRow (w.heap.size + 1) 30 2 v' R'.length (dcells R')) (hg : W.grownBy W' vr.ownBlock) (hat : v'.ownBlock = vr.ownBlock ∨ v'.ownBlock = some W.heap.size) : RchSt w W' M nm vo v' vm op R' Ms :=
  ⟨h.mp.kept hg (own_map_ne h.orr (by omega)), own_apart h.oo h.a1 hg, hown, own_apart h.om h.a3.symm hg, apart_step h.oo h.a1 hat (Nat.le_refl _), h.a2, (apart_step h.om h.a3.symm hat (Nat.le_refl _)).symm, RchSt.bel' h.bel h.orr (by omega) hg⟩
theorem RchSt.pushM (h : RchSt w W M nm vo vr vm op R Ms) {M' : List (Int × Int)} (hown : W'.ownsRow (w.heap.size + 1) 30 2 v' M'.length (dcells M')) (hg : W.grownBy W' vm.ownBlock) (hat : v'.ownBlock = vm.ownBlock ∨ v'.ownBlock = some W.heap.size) : RchSt w W' M nm vo vr v' op R M' :=
  ⟨h.mp.kept hg (own_map_ne h.om (by omega)), own_apart h.oo h.a2 hg, own_apart h.orr h.a3 hg, hown, h.a1, apart_step h.oo h.a2 hat (Nat.le_refl _), apart_step h.orr h.a3 hat (Nat.le_refl _), RchSt.bel' h.bel h.om (by omega) hg⟩
/-- The last digest of a row: its cells, and the row without it. -/
theorem RchSt.pop {d1 d2 : Int} (h : RchSt w W M nm vo vr vm (op ++ [(d1, d2)]) R Ms) : ∃ g c, vo = .slice (some ⟨g, 0, none⟩) (op.length + 1) c ∧ op.length + 1 ≤ c ∧ W.cell? ⟨g, op.length * 2, none⟩ = some (.int .u64 d1) ∧ W.cell? ⟨g, op.length * 2 + 1, none⟩ = some (.int .u64 d2) ∧
    RchSt w W M nm (.slice (some ⟨g, 0, none⟩) op.length c) vr vm op R Ms := by
  have ho := h.oo
  rcases ho.2 with ⟨h1, h2⟩ | ⟨g, c, cur, h1, hbase, hg, hcap, hmax, hcs, htake⟩
  · simp at h2
  · rw [List.length_append, List.length_singleton] at h1 hcap htake
    subst h1
    have hat := dcells_at (op ++ [(d1, d2)]) op.length (by simp)
    simp only [List.getElem_append_right (Nat.le_refl _), Nat.sub_self, List.getElem_cons_zero] at hat
    refine ⟨g, c, rfl, hcap, ?_, ?_, ⟨h.mp, ?_, h.orr, h.om, h.a1, h.a2, h.a3, h.bel⟩⟩
    · have := ho.cells (g := g) rfl _ _ hat.1; rwa [Go.WideShapes.add_plain, Nat.zero_add] at this
    · have := ho.cells (g := g) rfl _ _ hat.2; rwa [Go.WideShapes.add_plain, Nat.zero_add] at this
    · refine ⟨dcells_length op, .inr ⟨g, c, cur, rfl, hbase, hg, by omega, hmax, hcs, ?_⟩⟩
      have h3 : (cur.toList.take ((op.length + 1) * 2)).take (op.length * 2) = dcells op := by
        rw [htake, dcells_append, ← dcells_length op, List.take_left]
      rw [List.take_take, Nat.min_eq_left (by omega)] at h3
      exact h3
end
theorem dpop_run (g n c f : Nat) (h : f ≤ c) (hc : 0 < c) (W : World) : (Instr.slice 31 (.slice (some ⟨g, 0, none⟩) n c) none (some (.int .i64 f)) none).run Try.prog W = .ok (.slice (some ⟨g, 0, none⟩) f c) W := by
  rw [run_slice_h (P := Try.prog) W 31 (some ⟨g, 0, none⟩) n c (by kernel_rfl) .i64 f (by omega) (by omega), size_dig]
  simp [sliced, Result.andThen, Go.WideShapes.add_plain]

end Go.Proofs.Ytlfodnehgedpmaa
