/- slices.AppendSeq and slices.Collect at texts, against an iterator. -/
import Derived.Test.YtceacjnhkcikgaaGreatDoorTtFi
import Derived.Test.YtceacjnhkcikgaaGreatDoorTtLk
import Derived.RangeFuncBox
import Derived.RangeFuncWrites
import Derived.Maps.AppendAt
namespace Go.Proofs.YtceacjnhkcikgaaGreatDoor
open Go.RowKit Go.Shelf Go.Sort
set_option linter.unusedVariables false
attribute [local go_sem] Oper.semAt_some

theorem infoStr : (Tryz.prog.info? 9).map (fun i => (i.zero, i.size, i.bytes)) = some (some (.string ⟨#[]⟩), 1, 16) := by kernel_rfl
set_option maxRecDepth 100000 in
set_option maxHeartbeats 4000000 in
theorem appSeq_any {base gf N : Nat} {lb : Array Value} {S Sp : List (List UInt8) → Prop} {v0 : Value} {xs : List (List UInt8)} (w : World) (eg : ∀ args w, (callFunc gf args).run Tryz.prog w = .ok (.enter gf args) w)
    (hseq : SeqStops Fence.wide (5 - 1) Tryz.prog gf lb encStr S Sp N w) (hrow0 : w.ownsRow base 9 1 v0 xs.length (xs.map encStr)) (hbase : base ≤ w.heap.size) (hN : (xs.length : Int) + N ≤ 1000000) :
    Calls Tryz.prog 33 #[v0, .func (.func gf) #[] lb] w fun e w' => ∃ v ss, e = .returned v ∧ S ss ∧ w'.ownsRow base 9 1 v (xs ++ ss).length ((xs ++ ss).map encStr) ∧ Below base w w' := by
  obtain ⟨i0, hi, hz0, hz1, hz2⟩ := info_parts infoStr
  obtain ⟨a0, c0, hv0, _⟩ := ownsRow_sliceN hrow0
  obtain ⟨n0, hn0⟩ : ∃ n0, n0 = xs.length := ⟨_, rfl⟩
  rw [← hn0] at hv0
  subst hv0
  have HN0 := Lib.hid hn0
  have hN0 : (n0 : Int) + N ≤ 1000000 := by omega
  rw [← hn0] at hrow0
  clear hn0 hN
  refine (callsIn_wide (n := 5)).1 ?_
  refine callsIn_of_wp_marks Tryz.func33 rfl trivial ?_ rfl
  simp only [Tryz.ntmps33, List.size_toArray, List.length_cons, List.length_nil, Nat.reduceAdd, Nat.reduceSub, Array.replicate_succ, Array.replicate_zero, List.push_toArray, List.append_toArray, List.nil_append, List.cons_append]
  have bO := Boxed.new w 79 (.slice a0 n0 c0)
  have hB0 : Below base w (w.alloc (.cells #[(.slice a0 n0 c0)] 79)) := (Below.refl _ w).alloc hbase _
  have hBw : Below w.heap.size w (w.alloc (.cells #[(.slice a0 n0 c0)] 79)) := (Below.refl _ w).alloc (Nat.le_refl _) _
  gi_wp2
  refine wpIn_rangeFunc_ownF (F := Fence.wide) (n := 5) (w0 := w) rfl (by omega) (gf := gf) (lb := lb) rfl trivial eg
    (show SeqStopsK Fence.wide (5 - 1) Tryz.prog gf lb (fun x => #[encStr x]) KeepsWalks S Sp N w from hseq) walksK_t walksK_b hBw (fun _ => rfl)
    (fun pre W => (∃ v, Boxed W w.heap.size 79 v ∧ W.ownsRow base 9 1 v (xs ++ pre).length ((xs ++ pre).map encStr) ∧ True) ∧ Below base w W)
    (fun _ _ _ => False)
    (OwnFrom.and (Own.from (holdsRow_own base w.heap.size 79 9 1 (fun pre => (xs ++ pre).length) (fun pre => (xs ++ pre).map encStr) (fun pre v => True)) _) (ownFrom_below hbase (by simp; omega)))
    (fun _ _ _ _ _ hs _ _ => hs)
    ⟨⟨_, bO, by rw [List.append_nil, ← HN0.out]; exact hrow0.alloc _, trivial⟩, hB0⟩
    (fun x => { tmps := #[.slice a0 n0 c0, .func (.func gf) #[] lb, .pointer (some ⟨w.heap.size, 0, none⟩), undef, .slice none 0 0, encStr x, .func (.func gf) #[] lb, encStr x, undef, undef, undef, undef, undef], defers := [] }) ?assign ?body ?done ?stop
  case assign =>
    intro l x W K hK
    gi_wp2
    exact hK
  case body =>
    rintro l pre x W ⟨⟨v, hv, hrow, _⟩, hB⟩ hlt
    have hc := hv.cell
    have hbW : base ≤ W.heap.size := Nat.le_trans hbase hB.size
    obtain ⟨q, hq⟩ : ∃ q, q = (xs ++ pre).length := ⟨_, rfl⟩
    rw [← hq] at hrow
    have HQ := Lib.hid hq
    have hln : q + 1 ≤ 1000001 := by rw [hq, List.length_append, ← HN0.out]; omega
    clear hq
    gi_wp2_with (gi_at_builtin; refine wpListIn_append_own _ rfl _ _ 79 rfl base 9 i0 (.string ⟨#[]⟩) 1 16 Tryz.underlying79 hi hz0 hz1 hz2 rfl (by decide) _ _ _ rfl (hrow.alloc _) ⟨W.heap.size, 0, none⟩ 1 1 [encStr x] rfl rfl (cell_one_new _ _ _) (by simp [encStr, Value.oneCell']) (by unfold maxLen; omega) (by omega) (by simp; omega) ?_; intro v' w1 hown' hgrow _; obtain ⟨g', cap', rfl⟩ := ownsRow_succ hown'; obtain ⟨hv1, hv2, hr2, hk2, hb2⟩ := hv.appended (by decide) hrow hbW hbase hown' hgrow; have hc1 := hv1.cell; have hf1 := hv1.frozen)
    have e : (xs ++ (pre ++ [x])).length = q + 1 := by rw [HQ.out, ← List.append_assoc, List.length_append]; rfl
    have hr3 : (w1.setCell ⟨w.heap.size, 0, none⟩ (.slice (some ⟨g', 0, none⟩) (q + 1) cap')).ownsRow base 9 1 (.slice (some ⟨g', 0, none⟩) (q + 1) cap') (xs ++ (pre ++ [x])).length ((xs ++ (pre ++ [x])).map encStr) := by
      rw [e, ← List.append_assoc, List.map_append]; exact hr2
    exact ⟨hk2, hk2.walks, ⟨⟨_, hv2, hr3, trivial⟩, hB.trans hb2⟩⟩
  case done =>
    rintro D ys W hD hS ⟨⟨v, hv, hrow, _⟩, hB⟩ hK
    have hbW : base ≤ W.heap.size := Nat.le_trans hbase hB.size
    have hc := hv.cell
    gi_wp2
    refine ⟨by simp, .inl ⟨_, _, rfl, run_takeDeferred hK, ?_⟩⟩
    exact ⟨_, results_tmp rfl _ _ _, v, ys, rfl, hS, ownsRow_putObj hrow _ hK rfl, hB.trans ((Below.refl _ W).grown (grownBy_putObj' _ D _) hbW (fun k hk => by cases hk; have := hD; simp at this; omega))⟩
  case stop =>
    rintro D c pre W _ _ h _
    exact h.elim
end Go.Proofs.YtceacjnhkcikgaaGreatDoor
