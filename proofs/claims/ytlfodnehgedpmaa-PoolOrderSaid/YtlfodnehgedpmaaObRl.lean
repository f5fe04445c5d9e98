/- object.list at entries and at digests. -/
import Derived.Test.YtlfodnehgedpmaaObRp
namespace Go.Proofs.Ytlfodnehgedpmaa
open Go.RowKit Go.Shelf
set_option linter.unusedVariables false

theorem rDig_len (r : RS) : (rDig r).2.1.length ≤ r.1.length := by unfold rDig; split <;> simp
theorem rEnt_len (r : RS) : (rEnt r).2.1.length ≤ r.1.length := by
  unfold rEnt
  exact Nat.le_trans (rDig_len _) (Nat.le_trans (rNum_len _) (rStr_len _))
theorem rMost_len (m : Int) (r : RS) : (rMost m r).2.1.length ≤ r.1.length := rNum_len r
theorem rNum_range (r : RS) : 0 ≤ (rNum r).1 ∧ (rNum r).1 ≤ 1099511627776 := by
  obtain ⟨n, u, er, hg⟩ : ∃ n u er, Cw.getI r.1 = (n, u, er) := ⟨_, _, _, rfl⟩
  have := getI_all hg
  unfold rNum
  rw [hg]
  exact ⟨this.1, this.2.1⟩
def ecells (es : List Ent) : List Value := es.flatMap fun e => [.string ⟨e.name.toArray⟩, .bool e.dir, .int .u64 e.d.1, .int .u64 e.d.2]
theorem ecells_append (a b : List Ent) : ecells (a ++ b) = ecells a ++ ecells b := by simp [ecells]
theorem ecells_length (a : List Ent) : (ecells a).length = a.length * 4 := by
  induction a with
  | nil => rfl
  | cons x a ih => simp [ecells] at ih ⊢; omega
theorem ecells_at : ∀ (es : List Ent) (i : Nat) (h : i < es.length), (ecells es)[i * 4]? = some (.string ⟨es[i].name.toArray⟩) ∧ (ecells es)[i * 4 + 1]? = some (.bool es[i].dir) ∧ (ecells es)[i * 4 + 2]? = some (.int .u64 es[i].d.1) ∧ (ecells es)[i * 4 + 3]? = some (.int .u64 es[i].d.2)
  | [], i, h => by simp at h
  | d :: ds, 0, h => by simp [ecells]
  | d :: ds, i + 1, h => by
    have h' : i < ds.length := by simpa using h
    have e : ecells (d :: ds) = [.string ⟨d.name.toArray⟩, .bool d.dir, .int .u64 d.d.1, .int .u64 d.d.2] ++ ecells ds := by simp [ecells]
    have g : ∀ j, (ecells (d :: ds))[(i + 1) * 4 + j]? = (ecells ds)[i * 4 + j]? := fun j => by
      rw [e, List.getElem?_append_right (by simp; omega)]
      congr 1
      simp
      omega
    have := ecells_at ds i h'
    simp only [List.getElem_cons_succ]
    exact ⟨(g 0).trans this.1, (g 1).trans this.2.1, (g 2).trans this.2.2.1, (g 3).trans this.2.2.2⟩
theorem ownsRow_ents {w : World} {base : Nat} {a : Option Addr} {cap : Nat} {es : List Ent} (h : w.ownsRow base 42 4 (.slice a es.length cap) es.length (ecells es)) : Ents w.heap.size w a es := by
  intro i hi
  rcases h.2 with ⟨h1, h2⟩ | ⟨g, cap', cur, h1, _, hg, _⟩
  · omega
  · cases h1
    obtain ⟨c0, c1, c2, c3⟩ := ecells_at es i hi
    refine ⟨g, 0, rfl, (Array.getElem?_eq_some_iff.1 hg).1, ?_, ?_, ?_, ?_⟩
    · have := h.cells (g := g) rfl _ _ c0; rwa [Go.WideShapes.add_plain] at this
    · have := h.cells (g := g) rfl _ _ c1; rwa [Go.WideShapes.add_plain, ← Nat.add_assoc] at this
    · have := h.cells (g := g) rfl _ _ c2; rwa [Go.WideShapes.add_plain, ← Nat.add_assoc] at this
    · have := h.cells (g := g) rfl _ _ c3; rwa [Go.WideShapes.add_plain, ← Nat.add_assoc] at this
theorem infoEnt : (Try.prog.info? 42).map (fun i => (i.zero, i.size, i.bytes)) = some (some (.agg #[.string ⟨#[]⟩, .bool false, .int .u64 0, .int .u64 0]), 4, 40) := by kernel_rfl

/-- A list that was read. -/
def GotL (w : World) (b : Nat) (T : TypeId) (k n : Nat) (cells : List Value) (r : RS) (e : Ending) (w' : World) : Prop :=
  ∃ a c, e = .returned (.slice a n c) ∧ n ≤ c ∧ Hid (RD b r w') ∧ Hid (w'.ownsRow w.heap.size T k (.slice a n c) n cells) ∧ Hid (w.grownBy w' (some b))
theorem GotL.fin {α : Type} {w wr : World} {b : Nat} {T : TypeId} {k c : Nat} {a : Option Addr} {cells : List α → List Value} {R : List α × RS} {xs : List α} {q : RS} (hF : R = (xs, q)) (hc : xs.length ≤ c) (h1 : Hid (RD b q wr)) (h2 : Hid (wr.ownsRow w.heap.size T k (.slice a xs.length c) xs.length (cells xs))) (h3 : Hid (w.grownBy wr (some b))) : GotL w b T k R.1.length (cells R.1) R.2 (.returned (.slice a xs.length c)) wr := by
  subst hF; exact ⟨a, c, rfl, hc, h1, h2, h3⟩
def NM (q : Bool) (n most : Int) : Prop := q = true ∨ n ≤ most
/-- What is left to be read. -/
def LR {α : Type} (get : RS → α × RS) (R : List α × RS) (m : Nat) (xs : List α) (r : RS) : Prop := R = (xs ++ (rList get m r).1, (rList get m r).2)
theorem LR.start {α : Type} (get : RS → α × RS) (m : Nat) (r : RS) : LR get (rList get m r) m [] r := rfl
theorem LR.next {α : Type} {get : RS → α × RS} {R : List α × RS} {m : Nat} {xs : List α} {r : RS} (h : LR get R (m + 1) xs r) (hb : r.2 = false) : LR get R m (xs ++ [(get r).1]) (get r).2 := by
  unfold LR at h ⊢
  rw [h, rList, if_neg (by simp [hb])]
  simp
theorem LR.stop {α : Type} {get : RS → α × RS} {R : List α × RS} {m : Nat} {xs : List α} {r : RS} (h : LR get R m xs r) (hb : m = 0 ∨ r.2 = true) : R = (xs, r) := by
  unfold LR at h
  rcases hb with rfl | hb
  · simpa [rList] using h
  · cases m with
    | zero => simpa [rList] using h
    | succ m => rw [rList, if_pos hb] at h; simpa using h

set_option maxRecDepth 100000 in
set_option maxHeartbeats 2000000 in
theorem rlistE_any (b : Nat) (most : Int) (r : RS) (w : World) (h : RD b r w) (hl : (r.1.length : Int) ≤ 140737488355328) (hm0 : 0 ≤ most) (hm1 : most ≤ 1000) :
    Calls Try.prog 43 #[.pointer (some ⟨b, 0, none⟩), .int .i64 most, .func (.func 44) #[.pointer (some ⟨b, 0, none⟩)] #[]] w (GotL w b 42 4 (rMany rEnt most r).1.length (ecells (rMany rEnt most r).1) (rMany rEnt most r).2) := by
  have hl1 := rMost_len most r
  have hbw := h.lt
  obtain ⟨i0, hi, hz0, hz1, hz2⟩ := info_parts infoEnt
  have HZ0 := Lib.hid hz0
  have HZ1 := Lib.hid hz1
  have HZ2 := Lib.hid hz2
  clear hz0 hz1 hz2
  have HN := Lib.hid (rnumber_any b r w h hl)
  have hr := rNum_range r
  have HLR : Hid (LR rEnt (rMany rEnt most r) (rNum r).1.toNat [] ((rNum r).2.1, (rNum r).2.2 || decide (most < (rNum r).1))) := Lib.hid (LR.start _ _ _)
  have HG := Lib.hid (fun q W hW hq => rentry_any b q W hW hq)
  generalize rMany rEnt most r = R at HLR ⊢
  unfold rMost at hl1
  simp only at hl1
  generalize rNum r = s1 at HN HLR hl1 hr
  obtain ⟨n, l1, bad⟩ := s1
  simp only at HN HLR hl1 hr
  obtain ⟨hn0, hn1⟩ := hr
  obtain ⟨n, rfl⟩ : ∃ m : Nat, n = (m : Int) := ⟨n.toNat, by omega⟩
  rw [Int.toNat_natCast] at HLR
  clear h
  obtain ⟨q0, hq0⟩ : ∃ q, q = (bad || decide (most < (n : Int))) := ⟨_, rfl⟩
  have HNM : Hid (NM q0 n most) := Lib.hid (by
    rw [hq0]
    by_cases h : most < (n : Int)
    · left; simp [h]
    · right; omega)
  rw [← hq0] at HLR
  go_enter Try.func43, Try.ntmps43
  go_wp2_with fail
  have hx := HN.out
  (with_reducible refine hx.mono ?_)
  clear hx
  rintro e x1 ⟨rfl, HR1, HG1⟩
  have hb1 := HR1.out
  have c1 : x1.cell? ⟨b, 1, none⟩ = some (.bool bad) := by rw [Lib.cell_of_heap hb1]; rfl
  have f1 : x1.frozen? ⟨b, 1, none⟩ = false := Lib.frozen_of_heap hb1 1
  clear hb1
  have HR2 : Hid (RD b (l1, q0) (x1.setCell ⟨b, 1, none⟩ (.bool q0))) := Lib.hid (set_cells HR1.out 1 _)
  have HG2 : Hid (w.grownBy (x1.setCell ⟨b, 1, none⟩ (.bool q0)) (some b)) := Lib.hid (gown HG1.out _ _)
  have HQ := Lib.hid hq0
  clear hq0
  cases bad with
  | true =>
    obtain rfl : q0 = true := HQ.out
    clear HQ
    go_wp2_with fail
    go_loopw [8, 9] (fun v i wr => ∃ (m : Nat) (xs : List Ent) (q : RS) (k : Nat), i = .int .i64 k ∧ k + m = n ∧ k = xs.length ∧ (k : Int) ≤ 1000 ∧ (q.1.length : Int) ≤ 140737488355328 ∧ Hid (RD b q wr) ∧ Hid (wr.ownsRow w.heap.size 42 4 v xs.length (ecells xs)) ∧ Hid (w.grownBy wr (some b)) ∧ Hid (LR rEnt R m xs q) ∧ Hid (NM q.2 n most)) (fun _ i _ => n - (intOf i).toNat)
    case atStart => exact ⟨n, [], _, 0, rfl, by omega, rfl, by omega, by simp only; omega, HR2, Lib.hid (World.ownsRow_nil _ _ _ _), HG2, HLR, HNM⟩
    case round =>
      clear HR1 HR2 HG1 HG2 HLR HNM HN c1 f1
      obtain ⟨m, xs, ⟨l, bd⟩, k, rfl, hkm, hkx, hk1, hql, HR, HO, HGR, HL, HM⟩ := hrel
      simp only at hql HM
      have HKX := Lib.hid hkx
      have HKM := Lib.hid hkm
      have hkn : k ≤ n := by omega
      obtain ⟨hbl, hsz⟩ : b < wr.heap.size ∧ w.heap.size ≤ wr.heap.size := ⟨HR.out.lt, HGR.out.size⟩
      have hbb := HR.out
      have c1 : wr.cell? ⟨b, 1, none⟩ = some (.bool bd) := by rw [Lib.cell_of_heap hbb]; rfl
      obtain ⟨av, cv, rfl, hcap⟩ := ownsRow_sliceN HO.out
      clear hbb hkx hkm
      by_cases hlt : k < n
      · have d1 : decide ((k : Int) < (n : Int)) = true := by simp; omega
        have d2 : decide (k < n) = true := by simp; omega
        cases bd with
        | true =>
          have HF : Hid (R = (xs, (l, true))) := Lib.hid (HL.out.stop (.inr rfl))
          go_wp2_with fail
          go_ret
          exact GotL.fin HF.out hcap HR HO HGR
        | false =>
          have hnm : (n : Int) ≤ most := by
            rcases HM.out with h | h
            · cases h
            · exact h
          obtain ⟨m', rfl⟩ : ∃ m', m = m' + 1 := ⟨m - 1, by have := HKM.out; omega⟩
          have HL2 := Lib.hid (HL.out.next rfl)
          have HC := Lib.hid (HG.out (l, false) wr HR.out hql)
          have hql2 := rEnt_len (l, false)
          simp only at hql2
          generalize rEnt (l, false) = g1 at HL2 HC hql2
          obtain ⟨⟨nm, dir, d1', d2'⟩, q2⟩ := g1
          simp only at HL2 HC hql2
          clear HL
          go_wp2_with fail
          have hx := HC.out
          (with_reducible refine hx.mono ?_)
          clear hx HC
          rintro e x2 ⟨rfl, HR2, HG2⟩
          have HO2 := Lib.hid (HO.out.kept HG2.out (by
            by_cases hv : (Value.slice av xs.length cv).ownBlock = none
            · exact .inl hv
            · right
              intro hh
              have := HO.out.lt b hh
              omega))
          have hsz2 := HG2.out.size
          go_wp2_with (at_builtin; refine wpList_append_own _ rfl _ _ 27 rfl w.heap.size 42 i0 (.agg #[.string ⟨#[]⟩, .bool false, .int .u64 0, .int .u64 0]) 4 40 Try.underlying27 hi HZ0.out HZ1.out HZ2.out rfl (by decide) _ _ _ rfl (HO2.out.alloc _) ⟨x2.heap.size, 0, none⟩ 1 1 [.string ⟨nm.toArray⟩, .bool dir, .int .u64 d1', .int .u64 d2'] rfl rfl ?_ ?_ ?_ ?_ ?_ ?_)
          · exact World.news_of_block (heap_alloc_new x2 _)
          · intro u hu; simp at hu; rcases hu with rfl | rfl | rfl | rfl <;> rfl
          · unfold maxLen; have := HKX.out; omega
          · have := HKX.out; omega
          · simp; omega
          · intro v' x3 hown' hgrow' _
            have HO3 : Hid (x3.ownsRow w.heap.size 42 4 v' (xs ++ [(⟨nm, dir, (d1', d2')⟩ : Ent)]).length (ecells (xs ++ [(⟨nm, dir, (d1', d2')⟩ : Ent)]))) := Lib.hid (by rw [ecells_append, List.length_append]; exact hown')
            have hne : (Value.slice av xs.length cv).ownBlock ≠ some b := fun hh => by
              have := HO.out.lt b hh
              omega
            have HR3 : Hid (RD b q2 x3) := Lib.hid (((hgrow'.block b (by simp; omega) (fun e => hne e.symm)).trans (Below.heap_alloc _ _ _ (by omega))).trans HR2.out)
            have HG3 : Hid (w.grownBy x3 (some b)) := Lib.hid (by
              have a1 := gtrans HGR.out HG2.out
              have a2 := galloc a1 (.cells #[.string ⟨nm.toArray⟩, .bool dir, .int .u64 d1', .int .u64 d2'] 42)
              exact ⟨hgrow'.os.trans a2.os, hgrow'.tape.trans a2.tape, hgrow'.output.trans a2.output, Nat.le_trans a2.size hgrow'.size, fun j hj hr => (hgrow'.block j (by simp; omega) (fun e => by have := HO.out.lt j e.symm; omega)).trans (a2.block j hj hr)⟩)
            clear hown' hgrow' HO2 HR2 HG2 HGR HO HR
            go_wp2_with fail
            go_roundw
            case rel => exact ⟨m', xs ++ [(⟨nm, dir, (d1', d2')⟩ : Ent)], q2, k + 1, by go_num, by have := HKM.out; omega, by have := HKX.out; simp; omega, by omega, by omega, HR3, HO3, HG3, HL2, Lib.hid (.inr hnm)⟩
            case measure => simp [intOf]; omega
      · have d1 : decide ((k : Int) < (n : Int)) = false := by simp; omega
        have d2 : decide (k < n) = false := by simp; omega
        have HF : Hid (R = (xs, (l, bd))) := Lib.hid (HL.out.stop (.inl (by have := HKM.out; omega)))
        go_wp2_with fail
        go_ret
        exact GotL.fin HF.out hcap HR HO HGR
  | false =>
    obtain rfl : q0 = decide (most < (n : Int)) := by rw [HQ.out]; rfl
    clear HQ
    go_wp2_with fail
    go_loopw [8, 9] (fun v i wr => ∃ (m : Nat) (xs : List Ent) (q : RS) (k : Nat), i = .int .i64 k ∧ k + m = n ∧ k = xs.length ∧ (k : Int) ≤ 1000 ∧ (q.1.length : Int) ≤ 140737488355328 ∧ Hid (RD b q wr) ∧ Hid (wr.ownsRow w.heap.size 42 4 v xs.length (ecells xs)) ∧ Hid (w.grownBy wr (some b)) ∧ Hid (LR rEnt R m xs q) ∧ Hid (NM q.2 n most)) (fun _ i _ => n - (intOf i).toNat)
    case atStart => exact ⟨n, [], _, 0, rfl, by omega, rfl, by omega, by simp only; omega, HR2, Lib.hid (World.ownsRow_nil _ _ _ _), HG2, HLR, HNM⟩
    case round =>
      clear HR1 HR2 HG1 HG2 HLR HNM HN c1 f1
      obtain ⟨m, xs, ⟨l, bd⟩, k, rfl, hkm, hkx, hk1, hql, HR, HO, HGR, HL, HM⟩ := hrel
      simp only at hql HM
      have HKX := Lib.hid hkx
      have HKM := Lib.hid hkm
      have hkn : k ≤ n := by omega
      obtain ⟨hbl, hsz⟩ : b < wr.heap.size ∧ w.heap.size ≤ wr.heap.size := ⟨HR.out.lt, HGR.out.size⟩
      have hbb := HR.out
      have c1 : wr.cell? ⟨b, 1, none⟩ = some (.bool bd) := by rw [Lib.cell_of_heap hbb]; rfl
      obtain ⟨av, cv, rfl, hcap⟩ := ownsRow_sliceN HO.out
      clear hbb hkx hkm
      by_cases hlt : k < n
      · have d1 : decide ((k : Int) < (n : Int)) = true := by simp; omega
        have d2 : decide (k < n) = true := by simp; omega
        cases bd with
        | true =>
          have HF : Hid (R = (xs, (l, true))) := Lib.hid (HL.out.stop (.inr rfl))
          go_wp2_with fail
          go_ret
          exact GotL.fin HF.out hcap HR HO HGR
        | false =>
          have hnm : (n : Int) ≤ most := by
            rcases HM.out with h | h
            · cases h
            · exact h
          obtain ⟨m', rfl⟩ : ∃ m', m = m' + 1 := ⟨m - 1, by have := HKM.out; omega⟩
          have HL2 := Lib.hid (HL.out.next rfl)
          have HC := Lib.hid (HG.out (l, false) wr HR.out hql)
          have hql2 := rEnt_len (l, false)
          simp only at hql2
          generalize rEnt (l, false) = g1 at HL2 HC hql2
          obtain ⟨⟨nm, dir, d1', d2'⟩, q2⟩ := g1
          simp only at HL2 HC hql2
          clear HL
          go_wp2_with fail
          have hx := HC.out
          (with_reducible refine hx.mono ?_)
          clear hx HC
          rintro e x2 ⟨rfl, HR2, HG2⟩
          have HO2 := Lib.hid (HO.out.kept HG2.out (by
            by_cases hv : (Value.slice av xs.length cv).ownBlock = none
            · exact .inl hv
            · right
              intro hh
              have := HO.out.lt b hh
              omega))
          have hsz2 := HG2.out.size
          go_wp2_with (at_builtin; refine wpList_append_own _ rfl _ _ 27 rfl w.heap.size 42 i0 (.agg #[.string ⟨#[]⟩, .bool false, .int .u64 0, .int .u64 0]) 4 40 Try.underlying27 hi HZ0.out HZ1.out HZ2.out rfl (by decide) _ _ _ rfl (HO2.out.alloc _) ⟨x2.heap.size, 0, none⟩ 1 1 [.string ⟨nm.toArray⟩, .bool dir, .int .u64 d1', .int .u64 d2'] rfl rfl ?_ ?_ ?_ ?_ ?_ ?_)
          · exact World.news_of_block (heap_alloc_new x2 _)
          · intro u hu; simp at hu; rcases hu with rfl | rfl | rfl | rfl <;> rfl
          · unfold maxLen; have := HKX.out; omega
          · have := HKX.out; omega
          · simp; omega
          · intro v' x3 hown' hgrow' _
            have HO3 : Hid (x3.ownsRow w.heap.size 42 4 v' (xs ++ [(⟨nm, dir, (d1', d2')⟩ : Ent)]).length (ecells (xs ++ [(⟨nm, dir, (d1', d2')⟩ : Ent)]))) := Lib.hid (by rw [ecells_append, List.length_append]; exact hown')
            have hne : (Value.slice av xs.length cv).ownBlock ≠ some b := fun hh => by
              have := HO.out.lt b hh
              omega
            have HR3 : Hid (RD b q2 x3) := Lib.hid (((hgrow'.block b (by simp; omega) (fun e => hne e.symm)).trans (Below.heap_alloc _ _ _ (by omega))).trans HR2.out)
            have HG3 : Hid (w.grownBy x3 (some b)) := Lib.hid (by
              have a1 := gtrans HGR.out HG2.out
              have a2 := galloc a1 (.cells #[.string ⟨nm.toArray⟩, .bool dir, .int .u64 d1', .int .u64 d2'] 42)
              exact ⟨hgrow'.os.trans a2.os, hgrow'.tape.trans a2.tape, hgrow'.output.trans a2.output, Nat.le_trans a2.size hgrow'.size, fun j hj hr => (hgrow'.block j (by simp; omega) (fun e => by have := HO.out.lt j e.symm; omega)).trans (a2.block j hj hr)⟩)
            clear hown' hgrow' HO2 HR2 HG2 HGR HO HR
            go_wp2_with fail
            go_roundw
            case rel => exact ⟨m', xs ++ [(⟨nm, dir, (d1', d2')⟩ : Ent)], q2, k + 1, by go_num, by have := HKM.out; omega, by have := HKX.out; simp; omega, by omega, by omega, HR3, HO3, HG3, HL2, Lib.hid (.inr hnm)⟩
            case measure => simp [intOf]; omega
      · have d1 : decide ((k : Int) < (n : Int)) = false := by simp; omega
        have d2 : decide (k < n) = false := by simp; omega
        have HF : Hid (R = (xs, (l, bd))) := Lib.hid (HL.out.stop (.inl (by have := HKM.out; omega)))
        go_wp2_with fail
        go_ret
        exact GotL.fin HF.out hcap HR HO HGR

set_option maxRecDepth 100000 in
set_option maxHeartbeats 2000000 in
theorem rlistD_any (b : Nat) (most : Int) (r : RS) (w : World) (h : RD b r w) (hl : (r.1.length : Int) ≤ 140737488355328) (hm0 : 0 ≤ most) (hm1 : most ≤ 1000) :
    Calls Try.prog 46 #[.pointer (some ⟨b, 0, none⟩), .int .i64 most, .func (.func 45) #[.pointer (some ⟨b, 0, none⟩)] #[]] w (GotL w b 30 2 (rMany rDig most r).1.length (dcells (rMany rDig most r).1) (rMany rDig most r).2) := by
  have hl1 := rMost_len most r
  have hbw := h.lt
  obtain ⟨i0, hi, hz0, hz1, hz2⟩ := info_parts infoDig
  have HZ0 := Lib.hid hz0
  have HZ1 := Lib.hid hz1
  have HZ2 := Lib.hid hz2
  clear hz0 hz1 hz2
  have HN := Lib.hid (rnumber_any b r w h hl)
  have hr := rNum_range r
  have HLR : Hid (LR rDig (rMany rDig most r) (rNum r).1.toNat [] ((rNum r).2.1, (rNum r).2.2 || decide (most < (rNum r).1))) := Lib.hid (LR.start _ _ _)
  have HG := Lib.hid (fun q W hW hq => rdigest_any b q W hW hq)
  generalize rMany rDig most r = R at HLR ⊢
  unfold rMost at hl1
  simp only at hl1
  generalize rNum r = s1 at HN HLR hl1 hr
  obtain ⟨n, l1, bad⟩ := s1
  simp only at HN HLR hl1 hr
  obtain ⟨hn0, hn1⟩ := hr
  obtain ⟨n, rfl⟩ : ∃ m : Nat, n = (m : Int) := ⟨n.toNat, by omega⟩
  rw [Int.toNat_natCast] at HLR
  clear h
  obtain ⟨q0, hq0⟩ : ∃ q, q = (bad || decide (most < (n : Int))) := ⟨_, rfl⟩
  have HNM : Hid (NM q0 n most) := Lib.hid (by
    rw [hq0]
    by_cases h : most < (n : Int)
    · left; simp [h]
    · right; omega)
  rw [← hq0] at HLR
  go_enter Try.func46, Try.ntmps46
  go_wp2_with fail
  have hx := HN.out
  (with_reducible refine hx.mono ?_)
  clear hx
  rintro e x1 ⟨rfl, HR1, HG1⟩
  have hb1 := HR1.out
  have c1 : x1.cell? ⟨b, 1, none⟩ = some (.bool bad) := by rw [Lib.cell_of_heap hb1]; rfl
  have f1 : x1.frozen? ⟨b, 1, none⟩ = false := Lib.frozen_of_heap hb1 1
  clear hb1
  have HR2 : Hid (RD b (l1, q0) (x1.setCell ⟨b, 1, none⟩ (.bool q0))) := Lib.hid (set_cells HR1.out 1 _)
  have HG2 : Hid (w.grownBy (x1.setCell ⟨b, 1, none⟩ (.bool q0)) (some b)) := Lib.hid (gown HG1.out _ _)
  have HQ := Lib.hid hq0
  clear hq0
  cases bad with
  | true =>
    obtain rfl : q0 = true := HQ.out
    clear HQ
    go_wp2_with fail
    go_loopw [8, 9] (fun v i wr => ∃ (m : Nat) (xs : List (Int × Int)) (q : RS) (k : Nat), i = .int .i64 k ∧ k + m = n ∧ k = xs.length ∧ (k : Int) ≤ 1000 ∧ (q.1.length : Int) ≤ 140737488355328 ∧ Hid (RD b q wr) ∧ Hid (wr.ownsRow w.heap.size 30 2 v xs.length (dcells xs)) ∧ Hid (w.grownBy wr (some b)) ∧ Hid (LR rDig R m xs q) ∧ Hid (NM q.2 n most)) (fun _ i _ => n - (intOf i).toNat)
    case atStart => exact ⟨n, [], _, 0, rfl, by omega, rfl, by omega, by simp only; omega, HR2, Lib.hid (World.ownsRow_nil _ _ _ _), HG2, HLR, HNM⟩
    case round =>
      clear HR1 HR2 HG1 HG2 HLR HNM HN c1 f1
      obtain ⟨m, xs, ⟨l, bd⟩, k, rfl, hkm, hkx, hk1, hql, HR, HO, HGR, HL, HM⟩ := hrel
      simp only at hql HM
      have HKX := Lib.hid hkx
      have HKM := Lib.hid hkm
      have hkn : k ≤ n := by omega
      obtain ⟨hbl, hsz⟩ : b < wr.heap.size ∧ w.heap.size ≤ wr.heap.size := ⟨HR.out.lt, HGR.out.size⟩
      have hbb := HR.out
      have c1 : wr.cell? ⟨b, 1, none⟩ = some (.bool bd) := by rw [Lib.cell_of_heap hbb]; rfl
      obtain ⟨av, cv, rfl, hcap⟩ := ownsRow_sliceN HO.out
      clear hbb hkx hkm
      by_cases hlt : k < n
      · have d1 : decide ((k : Int) < (n : Int)) = true := by simp; omega
        have d2 : decide (k < n) = true := by simp; omega
        cases bd with
        | true =>
          have HF : Hid (R = (xs, (l, true))) := Lib.hid (HL.out.stop (.inr rfl))
          go_wp2_with fail
          go_ret
          exact GotL.fin HF.out hcap HR HO HGR
        | false =>
          have hnm : (n : Int) ≤ most := by
            rcases HM.out with h | h
            · cases h
            · exact h
          obtain ⟨m', rfl⟩ : ∃ m', m = m' + 1 := ⟨m - 1, by have := HKM.out; omega⟩
          have HL2 := Lib.hid (HL.out.next rfl)
          have HC := Lib.hid (HG.out (l, false) wr HR.out hql)
          have hql2 := rDig_len (l, false)
          simp only at hql2
          generalize rDig (l, false) = g1 at HL2 HC hql2
          obtain ⟨⟨d1', d2'⟩, q2⟩ := g1
          simp only at HL2 HC hql2
          clear HL
          go_wp2_with fail
          have hx := HC.out
          (with_reducible refine hx.mono ?_)
          clear hx HC
          rintro e x2 ⟨rfl, HR2, HG2⟩
          have HO2 := Lib.hid (HO.out.kept HG2.out (by
            by_cases hv : (Value.slice av xs.length cv).ownBlock = none
            · exact .inl hv
            · right
              intro hh
              have := HO.out.lt b hh
              omega))
          have hsz2 := HG2.out.size
          go_wp2_with (at_builtin; refine wpList_append_own _ rfl _ _ 31 rfl w.heap.size 30 i0 (.agg #[.int .u64 0, .int .u64 0]) 2 16 Try.underlying31 hi HZ0.out HZ1.out HZ2.out rfl (by decide) _ _ _ rfl (HO2.out.alloc _) ⟨x2.heap.size, 0, none⟩ 1 1 [.int .u64 d1', .int .u64 d2'] rfl rfl ?_ ?_ ?_ ?_ ?_ ?_)
          · exact World.news_of_block (heap_alloc_new x2 _)
          · intro u hu; simp at hu; rcases hu with rfl | rfl <;> rfl
          · unfold maxLen; have := HKX.out; omega
          · have := HKX.out; omega
          · simp; omega
          · intro v' x3 hown' hgrow' _
            have HO3 : Hid (x3.ownsRow w.heap.size 30 2 v' (xs ++ [(d1', d2')]).length (dcells (xs ++ [(d1', d2')]))) := Lib.hid (by rw [dcells_append, List.length_append]; exact hown')
            have hne : (Value.slice av xs.length cv).ownBlock ≠ some b := fun hh => by
              have := HO.out.lt b hh
              omega
            have HR3 : Hid (RD b q2 x3) := Lib.hid (((hgrow'.block b (by simp; omega) (fun e => hne e.symm)).trans (Below.heap_alloc _ _ _ (by omega))).trans HR2.out)
            have HG3 : Hid (w.grownBy x3 (some b)) := Lib.hid (by
              have a1 := gtrans HGR.out HG2.out
              have a2 := galloc a1 (.cells #[.int .u64 d1', .int .u64 d2'] 30)
              exact ⟨hgrow'.os.trans a2.os, hgrow'.tape.trans a2.tape, hgrow'.output.trans a2.output, Nat.le_trans a2.size hgrow'.size, fun j hj hr => (hgrow'.block j (by simp; omega) (fun e => by have := HO.out.lt j e.symm; omega)).trans (a2.block j hj hr)⟩)
            clear hown' hgrow' HO2 HR2 HG2 HGR HO HR
            go_wp2_with fail
            go_roundw
            case rel => exact ⟨m', xs ++ [(d1', d2')], q2, k + 1, by go_num, by have := HKM.out; omega, by have := HKX.out; simp; omega, by omega, by omega, HR3, HO3, HG3, HL2, Lib.hid (.inr hnm)⟩
            case measure => simp [intOf]; omega
      · have d1 : decide ((k : Int) < (n : Int)) = false := by simp; omega
        have d2 : decide (k < n) = false := by simp; omega
        have HF : Hid (R = (xs, (l, bd))) := Lib.hid (HL.out.stop (.inl (by have := HKM.out; omega)))
        go_wp2_with fail
        go_ret
        exact GotL.fin HF.out hcap HR HO HGR
  | false =>
    obtain rfl : q0 = decide (most < (n : Int)) := by rw [HQ.out]; rfl
    clear HQ
    go_wp2_with fail
    go_loopw [8, 9] (fun v i wr => ∃ (m : Nat) (xs : List (Int × Int)) (q : RS) (k : Nat), i = .int .i64 k ∧ k + m = n ∧ k = xs.length ∧ (k : Int) ≤ 1000 ∧ (q.1.length : Int) ≤ 140737488355328 ∧ Hid (RD b q wr) ∧ Hid (wr.ownsRow w.heap.size 30 2 v xs.length (dcells xs)) ∧ Hid (w.grownBy wr (some b)) ∧ Hid (LR rDig R m xs q) ∧ Hid (NM q.2 n most)) (fun _ i _ => n - (intOf i).toNat)
    case atStart => exact ⟨n, [], _, 0, rfl, by omega, rfl, by omega, by simp only; omega, HR2, Lib.hid (World.ownsRow_nil _ _ _ _), HG2, HLR, HNM⟩
    case round =>
      clear HR1 HR2 HG1 HG2 HLR HNM HN c1 f1
      obtain ⟨m, xs, ⟨l, bd⟩, k, rfl, hkm, hkx, hk1, hql, HR, HO, HGR, HL, HM⟩ := hrel
      simp only at hql HM
      have HKX := Lib.hid hkx
      have HKM := Lib.hid hkm
      have hkn : k ≤ n := by omega
      obtain ⟨hbl, hsz⟩ : b < wr.heap.size ∧ w.heap.size ≤ wr.heap.size := ⟨HR.out.lt, HGR.out.size⟩
      have hbb := HR.out
      have c1 : wr.cell? ⟨b, 1, none⟩ = some (.bool bd) := by rw [Lib.cell_of_heap hbb]; rfl
      obtain ⟨av, cv, rfl, hcap⟩ := ownsRow_sliceN HO.out
      clear hbb hkx hkm
      by_cases hlt : k < n
      · have d1 : decide ((k : Int) < (n : Int)) = true := by simp; omega
        have d2 : decide (k < n) = true := by simp; omega
        cases bd with
        | true =>
          have HF : Hid (R = (xs, (l, true))) := Lib.hid (HL.out.stop (.inr rfl))
          go_wp2_with fail
          go_ret
          exact GotL.fin HF.out hcap HR HO HGR
        | false =>
          have hnm : (n : Int) ≤ most := by
            rcases HM.out with h | h
            · cases h
            · exact h
          obtain ⟨m', rfl⟩ : ∃ m', m = m' + 1 := ⟨m - 1, by have := HKM.out; omega⟩
          have HL2 := Lib.hid (HL.out.next rfl)
          have HC := Lib.hid (HG.out (l, false) wr HR.out hql)
          have hql2 := rDig_len (l, false)
          simp only at hql2
          generalize rDig (l, false) = g1 at HL2 HC hql2
          obtain ⟨⟨d1', d2'⟩, q2⟩ := g1
          simp only at HL2 HC hql2
          clear HL
          go_wp2_with fail
          have hx := HC.out
          (with_reducible refine hx.mono ?_)
          clear hx HC
          rintro e x2 ⟨rfl, HR2, HG2⟩
          have HO2 := Lib.hid (HO.out.kept HG2.out (by
            by_cases hv : (Value.slice av xs.length cv).ownBlock = none
            · exact .inl hv
            · right
              intro hh
              have := HO.out.lt b hh
              omega))
          have hsz2 := HG2.out.size
          go_wp2_with (at_builtin; refine wpList_append_own _ rfl _ _ 31 rfl w.heap.size 30 i0 (.agg #[.int .u64 0, .int .u64 0]) 2 16 Try.underlying31 hi HZ0.out HZ1.out HZ2.out rfl (by decide) _ _ _ rfl (HO2.out.alloc _) ⟨x2.heap.size, 0, none⟩ 1 1 [.int .u64 d1', .int .u64 d2'] rfl rfl ?_ ?_ ?_ ?_ ?_ ?_)
          · exact World.news_of_block (heap_alloc_new x2 _)
          · intro u hu; simp at hu; rcases hu with rfl | rfl <;> rfl
          · unfold maxLen; have := HKX.out; omega
          · have := HKX.out; omega
          · simp; omega
          · intro v' x3 hown' hgrow' _
            have HO3 : Hid (x3.ownsRow w.heap.size 30 2 v' (xs ++ [(d1', d2')]).length (dcells (xs ++ [(d1', d2')]))) := Lib.hid (by rw [dcells_append, List.length_append]; exact hown')
            have hne : (Value.slice av xs.length cv).ownBlock ≠ some b := fun hh => by
              have := HO.out.lt b hh
              omega
            have HR3 : Hid (RD b q2 x3) := Lib.hid (((hgrow'.block b (by simp; omega) (fun e => hne e.symm)).trans (Below.heap_alloc _ _ _ (by omega))).trans HR2.out)
            have HG3 : Hid (w.grownBy x3 (some b)) := Lib.hid (by
              have a1 := gtrans HGR.out HG2.out
              have a2 := galloc a1 (.cells #[.int .u64 d1', .int .u64 d2'] 30)
              exact ⟨hgrow'.os.trans a2.os, hgrow'.tape.trans a2.tape, hgrow'.output.trans a2.output, Nat.le_trans a2.size hgrow'.size, fun j hj hr => (hgrow'.block j (by simp; omega) (fun e => by have := HO.out.lt j e.symm; omega)).trans (a2.block j hj hr)⟩)
            clear hown' hgrow' HO2 HR2 HG2 HGR HO HR
            go_wp2_with fail
            go_roundw
            case rel => exact ⟨m', xs ++ [(d1', d2')], q2, k + 1, by go_num, by have := HKM.out; omega, by have := HKX.out; simp; omega, by omega, by omega, HR3, HO3, HG3, HL2, Lib.hid (.inr hnm)⟩
            case measure => simp [intOf]; omega
      · have d1 : decide ((k : Int) < (n : Int)) = false := by simp; omega
        have d2 : decide (k < n) = false := by simp; omega
        have HF : Hid (R = (xs, (l, bd))) := Lib.hid (HL.out.stop (.inl (by have := HKM.out; omega)))
        go_wp2_with fail
        go_ret
        exact GotL.fin HF.out hcap HR HO HGR

end Go.Proofs.Ytlfodnehgedpmaa
