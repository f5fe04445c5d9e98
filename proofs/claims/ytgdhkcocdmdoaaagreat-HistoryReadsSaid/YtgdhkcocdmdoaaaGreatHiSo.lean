/- history.sorted: the comparison, the sorting. -/
import Derived.Test.YtgdhkcocdmdoaaaGreatHiDx
import Derived.Test.YtgdhkcocdmdoaaaGreatHiOr
namespace Go.Proofs.YtgdhkcocdmdoaaaGreat
open Go.RowKit Go.Shelf Go.Sort
set_option linter.unusedVariables false

theorem isNaNi_any (x : Int) (w : World) : Calls Tryz.prog 84 #[.int .i64 x] w fun e w' => e = .returned (.bool false) ∧ w = w' := by
  have h : (x != x) = false := by simp
  go_enter Tryz.func84, Tryz.ntmps84
  go_wp2_with fail
  go_ret
  exact ⟨rfl, rfl⟩
set_option maxHeartbeats 1000000 in
theorem cmpN_any (x y : Int) (w : World) : Calls Tryz.prog 62 #[.int .i64 x, .int .i64 y] w fun e w' => e = .returned (.int .i64 (cmpI x y)) ∧ w = w' := by
  have HN := Lib.hid isNaNi_any
  obtain ⟨R, hR⟩ : ∃ R, R = cmpI x y := ⟨_, rfl⟩
  rw [← hR]
  have HR : Hid (R = if x < y then -1 else if y < x then 1 else 0) := Lib.hid hR
  clear hR
  by_cases h1 : x < y
  · have HF : Hid (R = -1) := Lib.hid (by rw [HR.out, if_pos h1])
    have d1 : decide (x < y) = true := by simpa using h1
    clear HR h1
    go_enter Tryz.func62, Tryz.ntmps62
    go_wp2_with fail
    (with_reducible refine (HN.out _ _).mono ?_)
    rintro e w' ⟨rfl, rfl⟩
    go_wp2_with fail
    (with_reducible refine (HN.out _ _).mono ?_)
    rintro e w' ⟨rfl, rfl⟩
    go_wp2_with fail
    go_ret
    exact ⟨by rw [HF.out]; rfl, rfl⟩
  · have d1 : decide (x < y) = false := by simpa using h1
    by_cases h2 : y < x
    · have HF : Hid (R = 1) := Lib.hid (by rw [HR.out, if_neg h1, if_pos h2])
      have d2 : decide (y < x) = true := by simpa using h2
      clear HR h1 h2
      go_enter Tryz.func62, Tryz.ntmps62
      go_wp2_with fail
      (with_reducible refine (HN.out _ _).mono ?_)
      rintro e w' ⟨rfl, rfl⟩
      go_wp2_with fail
      (with_reducible refine (HN.out _ _).mono ?_)
      rintro e w' ⟨rfl, rfl⟩
      go_wp2_with fail
      go_ret
      exact ⟨by rw [HF.out]; rfl, rfl⟩
    · have HF : Hid (R = 0) := Lib.hid (by rw [HR.out, if_neg h1, if_neg h2])
      have d2 : decide (y < x) = false := by simpa using h2
      clear HR h1 h2
      go_enter Tryz.func62, Tryz.ntmps62
      go_wp2_with fail
      (with_reducible refine (HN.out _ _).mono ?_)
      rintro e w' ⟨rfl, rfl⟩
      go_wp2_with fail
      (with_reducible refine (HN.out _ _).mono ?_)
      rintro e w' ⟨rfl, rfl⟩
      go_wp2_with fail
      go_ret
      exact ⟨by rw [HF.out]; rfl, rfl⟩
theorem Laid.trans {a b c : World} (h : Laid a b) (k : Laid b c) : Laid a c := by
  obtain ⟨q, os, rfl⟩ := h
  obtain ⟨q', os', rfl⟩ := k
  exact ⟨q + q', os ++ os', by unfold grow World.drewN; simp [Array.append_assoc, Nat.add_assoc]⟩
theorem Laid.trans' {a b c : World} (k : Laid b c) (h : Laid a b) : Laid a c := h.trans k
theorem cmpH_eq (dep : Int × Int → Nat) (a b : Int × Int) : (if cmpI (dep b : Int) (dep a : Int) ≠ 0 then cmpI (dep b : Int) (dep a : Int) else cmpD a b) = cmpH dep a b := by
  have e : cmpI (dep b : Int) (dep a : Int) = if dep b < dep a then -1 else if dep a < dep b then 1 else 0 := by
    unfold cmpI
    by_cases h1 : dep b < dep a
    · rw [if_pos (by omega), if_pos h1]
    · rw [if_neg (by omega), if_neg h1]
      by_cases h2 : dep a < dep b
      · rw [if_pos (by omega), if_pos h2]
      · rw [if_neg (by omega), if_neg h2]
  rw [e]
  unfold cmpH
  by_cases h1 : dep b < dep a
  · rw [if_pos h1, if_pos h1]; rfl
  · rw [if_neg h1, if_neg h1]
    by_cases h2 : dep a < dep b
    · rw [if_pos h2, if_pos h2]; rfl
    · rw [if_neg h2, if_neg h2]; rfl

set_option maxRecDepth 100000 in
set_option maxHeartbeats 8000000 in
theorem sorted1_any (F : Int × Int → Option Value) (dep : Int × Int → Nat) (pb kd n : Nat) (x y x' y' : Int) (w : World) (hk : BK pb #[.map (some kd)] 67 w) (hm : MapV kd n F w) (h1 : OkD (x, y)) (h2 : OkD (x', y')) (hF1 : (F (x, y)).getD (.int .i64 0) = .int .i64 (dep (x, y) : Int)) (hF2 : (F (x', y')).getD (.int .i64 0) = .int .i64 (dep (x', y') : Int)) :
    Calls Tryz.prog 60 #[.agg #[.int .u64 x, .int .u64 y], .agg #[.int .u64 x', .int .u64 y'], .pointer (some ⟨pb, 0, none⟩)] w fun e w' => e = .returned (.int .i64 (cmpH dep (x, y) (x', y'))) ∧ Laid w w' := by
  obtain ⟨R, hR⟩ : ∃ R, R = cmpH dep (x, y) (x', y') := ⟨_, rfl⟩
  rw [← hR]
  rw [← cmpH_eq] at hR
  generalize hda : dep (x, y) = da at hF1 hR
  generalize hdb : dep (x', y') = db at hF2 hR
  clear hda hdb
  have H1 := Lib.hid (fun W => cmpN_any (db : Int) (da : Int) W)
  have H2 := Lib.hid (fun W => cmpD_any x y x' y' W)
  generalize cmpI (db : Int) (da : Int) = c1 at hR H1
  generalize cmpD (x, y) (x', y') = c2 at hR H2
  have HO := Lib.hid (fun b W h0 h1 => or_any b 2 c1 c2 W h0 h1)
  rw [← hR] at HO
  clear hR
  obtain ⟨w0, hw0⟩ : ∃ w0, w0 = (w.alloc (.cells #[.int .u64 x, .int .u64 y] 32)).alloc (.cells #[.int .u64 x', .int .u64 y'] 32) := ⟨_, rfl⟩
  have HL0 : Hid (Laid w w0) := Lib.hid (by rw [hw0]; exact ((Laid.refl w).alloc _).alloc _)
  have HALL : Hid (∀ w', Laid w0 w' → Laid w0 w' ∧ w'.cell? ⟨w.heap.size, 0, none⟩ = some (.int .u64 x) ∧ w'.cell? ⟨w.heap.size, 1, none⟩ = some (.int .u64 y) ∧ w'.cell? ⟨w.heap.size + 1, 0, none⟩ = some (.int .u64 x') ∧ w'.cell? ⟨w.heap.size + 1, 1, none⟩ = some (.int .u64 y') ∧ w'.cell? ⟨pb, 0, none⟩ = some (.map (some kd)) ∧
      (Instr.lookup 67 (.map (some kd)) (.agg #[.int .u64 x, .int .u64 y]) false).run Tryz.prog w' = .ok (.int .i64 (da : Int)) w' ∧ (Instr.lookup 67 (.map (some kd)) (.agg #[.int .u64 x', .int .u64 y']) false).run Tryz.prog w' = .ok (.int .i64 (db : Int)) w') := Lib.hid (fun w' hl => by
    have hb := hl.below
    have k1 : BK w.heap.size #[.int .u64 x, .int .u64 y] 32 w' := (show BK w.heap.size #[.int .u64 x, .int .u64 y] 32 w0 by rw [hw0]; exact (BK.new _ _ _).alloc _).below hb
    have k2 : BK (w.heap.size + 1) #[.int .u64 x', .int .u64 y'] 32 w' := (show BK (w.heap.size + 1) #[.int .u64 x', .int .u64 y'] 32 w0 by rw [hw0]; exact BK.new2 _ _ _ _).below hb
    have k3 : BK pb #[.map (some kd)] 67 w' := (show BK pb #[.map (some kd)] 67 w0 by rw [hw0]; exact (hk.alloc _).alloc _).below hb
    have k4 : MapV kd n F w' := (show MapV kd n F w0 by rw [hw0]; exact (hm.alloc _).alloc _).below hb
    refine ⟨hl, by rw [k1.cell]; rfl, by rw [k1.cell]; rfl, by rw [k2.cell]; rfl, by rw [k2.cell]; rfl, by rw [k3.cell]; rfl, ?_, ?_⟩
    · rw [← hF1]; exact k4.look Tryz.underlying67 (zeroI w') h1
    · rw [← hF2]; exact k4.look Tryz.underlying67 (zeroI w') h2)
  have HS0 := Lib.hid (HALL.out w0.drew ((Laid.refl w0).drew))
  have HW0 := Lib.hid hw0
  clear hw0 hk hm h1 h2 hF1 hF2
  go_enter Tryz.func60, Tryz.ntmps60
  go_wp2_with fail
  rw [← HW0.out]
  have hs0 := HS0.out
  go_region_held3 (fun w' => Laid w0 w' ∧ w'.cell? ⟨w.heap.size, 0, none⟩ = some (.int .u64 x) ∧ w'.cell? ⟨w.heap.size, 1, none⟩ = some (.int .u64 y) ∧ w'.cell? ⟨w.heap.size + 1, 0, none⟩ = some (.int .u64 x') ∧ w'.cell? ⟨w.heap.size + 1, 1, none⟩ = some (.int .u64 y') ∧ w'.cell? ⟨pb, 0, none⟩ = some (.map (some kd)) ∧
      (Instr.lookup 67 (.map (some kd)) (.agg #[.int .u64 x, .int .u64 y]) false).run Tryz.prog w' = .ok (.int .i64 (da : Int)) w' ∧ (Instr.lookup 67 (.map (some kd)) (.agg #[.int .u64 x', .int .u64 y']) false).run Tryz.prog w' = .ok (.int .i64 (db : Int)) w')
    (first | exact HS0.out | assumption | (refine HALL.out _ (Laid.alloc ?_ _); first | assumption | exact (‹Laid _ _ ∧ _›).1 | exact HS0.out.1) | (refine HALL.out _ (Laid.trans' (by assumption) ?_); first | assumption | exact (‹Laid _ _ ∧ _›).1 | exact HS0.out.1))
    (first | ((with_reducible refine (H1.out _).mono ?_); rintro e w' ⟨rfl, rfl⟩) | ((with_reducible refine (H2.out _).mono ?_); rintro e w' ⟨rfl, hla⟩) | ((with_reducible refine (HO.out _ _ ?_ ?_).mono ?_); (simp [go_sem]); (simp [go_sem]); rintro e w' ⟨rfl, rfl⟩) | fail)
  all_goals (go_wp2_with fail; go_ret; exact ⟨rfl, HL0.out.trans (‹Laid w0 (World.alloc _ _) ∧ _›).1⟩)

/-- Well formed digests. -/
abbrev DOk := { d : Int × Int // OkD d }
instance : Inhabited DOk := ⟨⟨(0, 0), OkD_zero⟩⟩
def encS (d : DOk) : List Value := encD d.1
theorem flat_encS (L : List DOk) : flatK encS 2 L.toArray = (dcells (L.map (fun d => d.1))).toArray := by
  rw [← flat_dcells]
  apply Array.ext
  · simp
  · intro t h1 h2
    have ht : t < L.length * 2 := by simpa using h1
    have e1 := get_flatK encS 2 L.toArray t (by simpa using ht)
    have e2 := get_flatK encD 2 (L.map (fun d => d.1)).toArray t (by simpa using ht)
    rw [getElem!_pos _ t h1] at e1
    rw [getElem!_pos _ t h2] at e2
    rw [e1, e2]
    have hi : t / 2 < L.length := by omega
    rw [getElem!_pos (L.toArray) _ (by simpa using hi), getElem!_pos ((L.map (fun d => d.1)).toArray) _ (by simpa using hi)]
    simp [encS]
theorem cmpH_tot (dep : Int × Int → Nat) : ∀ x y : DOk, ltOf (fun x y : DOk => cmpH dep x.1 y.1) x y = false → ltOf (fun x y : DOk => cmpH dep x.1 y.1) y x = false → x = y := by
  intro x y h1 h2
  unfold ltOf at *
  simp only [decide_eq_false_iff_not, cmpH_lt] at *
  refine Subtype.ext (totD _ _ ?_ ?_)
  · unfold ltOf; rw [decide_eq_false_iff_not]; omega
  · unfold ltOf; rw [decide_eq_false_iff_not]; omega
theorem swoS (dep : Int × Int → Nat) : SWO (ltOf (fun x y : DOk => cmpH dep x.1 y.1)) where
  irrefl x := (swoH dep).irrefl x.1
  trans x y z := (swoH dep).trans x.1 y.1 z.1
  ntrans x y z := (swoH dep).ntrans x.1 y.1 z.1

theorem sortH_any {base : Nat} (a : Option Addr) (ds : List (Int × Int)) (c : Nat) (w : World) (ho : w.ownsRow base 32 2 (.slice a ds.length c) ds.length (dcells ds)) (hn : (ds.length : Int) ≤ 1000000000) (hok : ∀ d ∈ ds, OkD d)
    (F : Int × Int → Option Value) (dep : Int × Int → Nat) (pb kd n : Nat) (hk : BK pb #[.map (some kd)] 67 w) (hm : MapV kd n F w) (hF : ∀ d, OkD d → (F d).getD (.int .i64 0) = .int .i64 (dep d : Int)) (hpb : (Value.slice a ds.length c).ownBlock ≠ some pb) :
    Calls Tryz.prog 42 #[.slice a ds.length c, .func (.func 60) #[] #[.pointer (some ⟨pb, 0, none⟩)]] w fun e w' => e = .returned (.tuple #[]) ∧ w'.ownsRow base 32 2 (.slice a ds.length c) ds.length (dcells (sortH dep ds)) ∧ w.grownBy w' (Value.slice a ds.length c).ownBlock := by
  rcases ho.2 with ⟨h1, h2⟩ | ⟨g, cap, cur, h1, hbase, hg, hcap, hmax, hcs, htake⟩
  · have hd : ds = [] := List.eq_nil_of_length_eq_zero h2
    subst hd
    have := AnyF.slices_SortFunc_none Tryz.sortD a c (.func (.func 60) #[] #[.pointer (some ⟨pb, 0, none⟩)]) w
    refine Calls.mono this fun e w' ⟨he, hw⟩ => ⟨he, ?_, ?_⟩
    · rw [hw, show sortH dep [] = [] by simp [sortH]]; exact ho
    · rw [hw]; exact ⟨rfl, rfl, rfl, Nat.le_refl _, fun _ _ _ => rfl⟩
  · cases h1
    obtain ⟨L, hL⟩ : ∃ L : List DOk, L.map (fun d => d.1) = ds := ⟨ds.pmap Subtype.mk hok, by rw [List.map_pmap]; simp⟩
    have hLl : L.length = ds.length := by rw [← hL]; simp
    have eg : ∀ args w, (callFunc 60 args).run Tryz.prog w = .ok (.enter 60 args) w := enters_of Tryz.func60 (by kernel_rfl) rfl
    have hH : HoldsK encS 2 w g 0 L.toArray := by
      unfold HoldsK
      rw [flat_encS, hL]
      intro j hj
      have hj' : j < (dcells ds).length := by simpa using hj
      refine ⟨?_, Lib.frozen_of_heap hg _⟩
      rw [Lib.cell_of_heap hg, Nat.zero_add]
      have h3 : (cur.toList.take (ds.length * 2))[j]? = (dcells ds)[j]? := by rw [htake]
      rw [List.getElem?_take_of_lt (by rw [dcells_length] at hj'; exact hj'), Array.getElem?_toList] at h3
      rw [h3, List.getElem?_eq_getElem hj', getElem!_pos _ j hj]
      simp
    have hcl : CmpLays Tryz.prog 60 #[.pointer (some ⟨pb, 0, none⟩)] encS 2 (fun x y : DOk => cmpH dep x.1 y.1) g 0 L.toArray.size w := by
      intro m os dk _ x y
      have hgr : w.grownBy (sortWorldK encS 2 w g 0 m dk os) (some g) := by
        unfold sortWorldK putRowK
        exact grownBy_sortedD _
      obtain ⟨es, cl, hob⟩ := hm.obj
      have h1 : MapV kd n F (sortWorldK encS 2 w g 0 m dk os) := hm.kept hgr (fun e => by
        have := Option.some.inj e
        subst this
        rw [hg] at hob
        cases hob)
      have h2 : BK pb #[.map (some kd)] 67 (sortWorldK encS 2 w g 0 m dk os) := hk.grow1 hgr (fun e => hpb (by rw [e]; rfl))
      exact sorted1_any F dep pb kd n x.1.1 x.1.2 y.1.1 y.1.2 _ h2 h1 x.2 y.2 (hF _ x.2) (hF _ y.2)
    have hcon := AnyQ.slices_SortFunc_total Tryz.sortD 2 Tryz.isAgg32 Tryz.sizeOf32 encS (fun _ => rfl) (fun x v hv => by simp [encS, encD] at hv; rcases hv with rfl | rfl <;> rfl) (fun x y : DOk => cmpH dep x.1 y.1) (swoS dep) 60 #[.pointer (some ⟨pb, 0, none⟩)] g 0 c L.toArray w eg hcl hH (Array.getElem?_eq_some_iff.1 hg).1 (by simp; omega) (cmpH_tot dep)
    have hcon2 : Calls Tryz.prog 42 #[.slice (some ⟨g, 0, none⟩) L.toArray.size c, .func (.func 60) #[] #[.pointer (some ⟨pb, 0, none⟩)]] w _ := hcon
    rw [show L.toArray.size = ds.length by simp [hLl]] at hcon2
    refine hcon2.mono fun e w' ⟨he, n, os, hw⟩ => ⟨he, ?_, ?_⟩
    · rw [hw]
      unfold sortWorldK putRowK
      have hl : (sortH dep ds).length = ds.length := (sortH_perm dep ds).length_eq
      rw [flat_encS]
      have hmm : (L.toArray.toList.mergeSort fun x y => !(ltOf (fun x y : DOk => cmpH dep x.1 y.1)) y x).map (fun d => d.1) = sortH dep ds := by
        unfold sortH
        rw [← hL]
        exact List.map_mergeSort (fun a _ b _ => rfl)
      rw [hmm]
      have hl2 : (dcells (sortH dep ds)).length = ds.length * 2 := by rw [dcells_length, hl]
      exact ⟨hl2, .inr ⟨g, c, _, rfl, hbase, heap_sortedD _ hg, hcap, hmax, by simp [putCells, hcs], by rw [← hl2]; exact take_putCellsD cur _ (by rw [hl2, hcs]; exact Nat.mul_le_mul_right _ hcap)⟩⟩
    · rw [hw]
      unfold sortWorldK putRowK
      exact grownBy_sortedD _

end Go.Proofs.YtgdhkcocdmdoaaaGreat
