/- slices.Delete at files: the walk by hand. -/
import Derived.Test.YtceacjnhkcikgaaGreatDoorTtSr
import Derived.Test.YtceacjnhkcikgaaGreatDoorTtRb
import Derived.Deep.RegionLaw
import Derived.Lib.SliceRun
import Derived.Lib.AppendZerosOnto
namespace Go.Proofs.YtceacjnhkcikgaaGreatDoor
open Go.RowKit Go.Shelf Go.Lib
set_option linter.unusedVariables false

/-- Cells written from o on. -/
def putL (cs : Array Value) : Nat → List Value → Array Value
  | _, [] => cs
  | o, v :: r => putL (cs.setIfInBounds o v) (o + 1) r
theorem putL_size : ∀ (vs : List Value) (cs : Array Value) (o : Nat), (putL cs o vs).size = cs.size
  | [], cs, o => rfl
  | v :: r, cs, o => by rw [putL, putL_size r]; simp
theorem BK.setCells {b : Nat} {t : TypeId} : ∀ (vs : List Value) {cs : Array Value} {W : World} (o : Nat), BK b cs t W → BK b (putL cs o vs) t (W.setCells b o vs)
  | [], cs, W, o, h => h
  | v :: r, cs, W, o, h => BK.setCells r (o + 1) (h.set o v)
theorem putL_list : ∀ (vs : List Value) (cs : Array Value) (o : Nat), o + vs.length ≤ cs.size → (putL cs o vs).toList = cs.toList.take o ++ vs ++ cs.toList.drop (o + vs.length)
  | [], cs, o, h => by simp [putL]
  | v :: r, cs, o, h => by
    rw [List.length_cons] at h
    rw [putL, putL_list r _ _ (by simp; omega)]
    have ho : o < cs.toList.length := by simp; omega
    have e : (cs.setIfInBounds o v).toList = cs.toList.take o ++ v :: cs.toList.drop (o + 1) := by
      rw [Array.toList_setIfInBounds, List.set_eq_take_append_cons_drop, if_pos ho]
    have l1 : (cs.toList.take o).length = o := by rw [List.length_take]; omega
    rw [e, List.length_cons]
    have e1 : (cs.toList.take o ++ v :: cs.toList.drop (o + 1)).take (o + 1) = cs.toList.take o ++ [v] := by
      rw [List.take_append, l1, List.take_of_length_le (by omega), show o + 1 - o = 1 by omega]; rfl
    have e2 : (cs.toList.take o ++ v :: cs.toList.drop (o + 1)).drop (o + 1 + r.length) = cs.toList.drop (o + (r.length + 1)) := by
      rw [List.drop_append, l1, List.drop_of_length_le (by omega), List.nil_append, show o + 1 + r.length - o = r.length + 1 by omega, List.drop_succ_cons, List.drop_drop]
      congr 1; omega
    rw [e1, e2]; simp
theorem grownBy_setCells (b : Nat) : ∀ (vs : List Value) (o : Nat) (W : World), W.grownBy (W.setCells b o vs) (some b)
  | [], o, W => ⟨rfl, rfl, rfl, Nat.le_refl _, fun _ _ _ => rfl⟩
  | v :: r, o, W => by
    have h := grownBy_setCells b r (o + 1) (W.setCell ⟨b, o, none⟩ v)
    have g : W.grownBy (W.setCell ⟨b, o, none⟩ v) (some b) := ⟨rfl, rfl, rfl, by simp [World.setCell], fun k _ hk => Below.heap_setCell _ _ _ k (fun e => hk (by rw [e]))⟩
    exact ⟨h.os.trans g.os, h.tape.trans g.tape, h.output.trans g.output, Nat.le_trans g.size h.size, fun k hk hne => (h.block k (Nat.lt_of_lt_of_le hk g.size) hne).trans (g.block k hk hne)⟩
theorem gcs_drop (l : List Fl) (k : Nat) : gcs flCs (l.drop k) = (gcs flCs l).drop (k * 2) := by
  induction k generalizing l with
  | zero => simp
  | succ k ih =>
    cases l with
    | nil => simp [gcs]
    | cons x l => rw [List.drop_succ_cons, ih, show (k + 1) * 2 = k * 2 + 2 by omega]; simp [gcs, flCs]
theorem gcs_take (l : List Fl) (k : Nat) : gcs flCs (l.take k) = (gcs flCs l).take (k * 2) := by
  induction k generalizing l with
  | zero => simp [gcs]
  | succ k ih =>
    cases l with
    | nil => simp [gcs]
    | cons x l => rw [List.take_succ_cons, show (k + 1) * 2 = k * 2 + 2 by omega]; simp [gcs, flCs] at ih ⊢; exact ih l
theorem gcs_len (l : List Fl) : (gcs flCs l).length = l.length * 2 := gcs_length layFl l
theorem gcs_oneF {l : List Fl} {v : Value} (h : v ∈ gcs flCs l) : v.oneCell' = true := by
  unfold gcs at h
  obtain ⟨x, _, hx⟩ := List.mem_flatMap.1 h
  exact layFl.one x v hx
/-- Two cells of a file are cleared. -/
theorem run_clear_fl (w : World) (ty : TypeId) (b o c : Nat) (hc : ∀ j, j < 2 → (w.cell? ⟨b, o + j, none⟩).isSome = true) (hf : ∀ j, j < 2 → w.frozen? ⟨b, o + j, none⟩ = false) :
    (Builtin.clear_ #[22] ty #[.slice (some ⟨b, o, none⟩) 1 c]).run Tryz.prog w = .ok (.tuple #[]) (w.setCells b o [.string ⟨#[]⟩, .string ⟨#[]⟩]) := by
  have hv : (zeroValue 43).run Tryz.prog w = .ok (.agg #[.string ⟨#[]⟩, .string ⟨#[]⟩]) w := by kernel_rfl
  have hst := run_storeCells_cells (P := Tryz.prog) b o [.string ⟨#[]⟩, .string ⟨#[]⟩] 0 w (by simpa using hc) (by simpa using hf) (by intro v hv'; simp at hv'; subst hv'; rfl)
  simp only [Nat.add_zero] at hst
  simp [Builtin.clear_, run_underlying Tryz.underlying22, hv, Builtin.zeroCells, Value.cells]
  rw [show List.map (fun i => [Value.string { data := #[] }, Value.string { data := #[] }][i % 2]?.getD default) (List.range 2) = [Value.string ⟨#[]⟩, Value.string ⟨#[]⟩] from rfl, hst]
  rfl
set_option maxRecDepth 100000 in
set_option maxHeartbeats 4000000 in
theorem delete_any {base : Nat} (g c : Nat) (l : List Fl) (i j : Nat) (w : World) (hj : j = i + 1) (hk : i < l.length) (ho : w.ownsRow base 43 2 (.slice (some ⟨g, 0, none⟩) l.length c) l.length (gcs flCs l)) (hn : l.length ≤ 1000) :
    Calls Tryz.prog 21 #[.slice (some ⟨g, 0, none⟩) l.length c, .int .i64 i, .int .i64 j] w fun e w' => e = .returned (.slice (some ⟨g, 0, none⟩) (l.length - 1) c) ∧ w'.ownsRow base 43 2 (.slice (some ⟨g, 0, none⟩) (l.length - 1) c) (l.length - 1) (gcs flCs (l.take i ++ l.drop j)) ∧ w.grownBy w' (some g) := by
  rcases ho.2 with ⟨h1, _⟩ | ⟨g', cap, cur, h1, hbase, hg, hcap, hmax, hcs, htake⟩
  · cases h1
  · cases h1
    obtain ⟨i0, hi0, hz0, hz1, hz2⟩ := info_parts infoFl
    obtain ⟨n, hnn⟩ : ∃ n, n = l.length := ⟨_, rfl⟩
    have hgl := gcs_len l
    rw [← hnn] at hk hn hcap htake hgl ⊢
    unfold maxLen at hmax
    have hcur : ∀ t, t < n * 2 → cur[t]? = (gcs flCs l)[t]? := fun t ht => by rw [← htake, List.getElem?_take_of_lt ht, Array.getElem?_toList]
    obtain ⟨news, hnews⟩ : ∃ news, news = gcs flCs (l.drop j) := ⟨_, rfl⟩
    have hlen : news.length = (n - j) * 2 := by rw [hnews, gcs_len, List.length_drop, hnn]
    have hget : ∀ t, t < (n - j) * 2 → news[t]? = cur[j * 2 + t]? := fun t ht => by rw [hnews, gcs_drop, List.getElem?_drop, hcur _ (by omega)]
    have hcell : ∀ t, w.drew.cell? ⟨g, t, none⟩ = cur[t]? := fun t => (Lib.cell_of_heap hg t : w.cell? ⟨g, t, none⟩ = _)
    have hfrz : ∀ t, w.drew.frozen? ⟨g, t, none⟩ = false := fun t => (Lib.frozen_of_heap hg t : w.frozen? ⟨g, t, none⟩ = _)
    obtain ⟨A, hA, hsrc⟩ : ∃ A : Addr, (if c = j then some (⟨g, 0, none⟩ : Addr) else some ⟨g, j * 2, none⟩) = some A ∧ Hid (∀ t u, news[t]? = some u → w.drew.cell? (A.add t) = some u) := by
      by_cases h : c = j
      · refine ⟨⟨g, 0, none⟩, by simp [h], Lib.hid fun t u hu => ?_⟩
        have h0 : news.length = 0 := by rw [hlen]; omega
        rw [List.length_eq_zero_iff.1 h0] at hu
        simp at hu
      · refine ⟨⟨g, j * 2, none⟩, by simp [h], Lib.hid fun t u hu => ?_⟩
        have ht : t < (n - j) * 2 := by
          have := (List.getElem?_eq_some_iff.1 hu).1
          rwa [hlen] at this
        rw [hget t ht] at hu
        rw [Addr.add_lit, hcell]
        exact hu
    have s1 : Hid (news.length = (n - j) * 2) := Lib.hid hlen
    have s2 : Hid (∀ u ∈ news, u.oneCell' = true) := Lib.hid (fun u hu => by rw [hnews] at hu; exact gcs_oneF hu)
    have s3 : Hid (∀ t, t < news.length → (w.drew.cell? ⟨g, 0 + i * 2 + t, none⟩).isSome = true ∧ w.drew.frozen? ⟨g, 0 + i * 2 + t, none⟩ = false) := Lib.hid (fun t ht => by
      rw [hlen] at ht
      refine ⟨?_, hfrz _⟩
      rw [hcell, Array.getElem?_eq_getElem (by rw [hcs]; omega)]; rfl)
    obtain ⟨W1, hW1⟩ : ∃ W1, W1 = w.drew.setCells g (0 + i * 2) news := ⟨_, rfl⟩
    have hb1 : BK g (putL cur (0 + i * 2) news) 43 W1 := by rw [hW1]; exact BK.setCells _ _ (show BK g cur 43 w.drew from hg)
    have hs1 : (putL cur (0 + i * 2) news).size = c * 2 := by rw [putL_size, hcs]
    have e1 : n - (i + (n - j)) = 1 := by omega
    obtain ⟨W2, hW2⟩ : ∃ W2, W2 = W1.setCells g ((i + (n - j)) * 2) [.string ⟨#[]⟩, .string ⟨#[]⟩] := ⟨_, rfl⟩
    have hcl : ∀ ty cc, (Builtin.clear_ #[22] ty #[.slice (some ⟨g, (i + (n - j)) * 2, none⟩) (n - (i + (n - j))) cc]).run Tryz.prog W1 = .ok (.tuple #[]) W2 := fun ty cc => by
      rw [e1, hW2]
      exact run_clear_fl W1 ty g _ cc (fun t ht => by rw [hb1.cell, Array.getElem?_eq_getElem (by rw [hs1]; omega)]; rfl) (fun t ht => hb1.frozen _)
    have hb2 : BK g (putL (putL cur (0 + i * 2) news) ((i + (n - j)) * 2) [.string ⟨#[]⟩, .string ⟨#[]⟩]) 43 W2 := by rw [hW2]; exact BK.setCells _ _ hb1
    have hfin : W2.ownsRow base 43 2 (.slice (some ⟨g, 0, none⟩) (n - 1) c) (n - 1) (gcs flCs (l.take i ++ l.drop j)) := by
      have hl2 : (gcs flCs (l.take i ++ l.drop j)).length = (n - 1) * 2 := by rw [gcs_len, List.length_append, List.length_take, List.length_drop, ← hnn]; omega
      refine ⟨hl2, .inr ⟨g, c, _, rfl, hbase, hb2, by omega, by unfold maxLen; omega, by rw [putL_size, hs1], ?_⟩⟩
      rw [putL_list _ _ _ (by rw [hs1]; simp; omega), List.append_assoc, List.take_append_of_le_length (by rw [List.length_take, Array.length_toList, hs1]; omega), List.take_take, Nat.min_eq_left (by omega), putL_list _ _ _ (by rw [hcs, hlen]; omega)]
      rw [Nat.zero_add, List.take_append_of_le_length (by rw [List.length_append, List.length_take, Array.length_toList, hcs, hlen]; omega), List.take_of_length_le (by rw [List.length_append, List.length_take, Array.length_toList, hcs, hlen]; omega)]
      rw [gcs_append, gcs_take, ← hnews, ← htake, List.take_take, Nat.min_eq_left (by omega)]
    have hgr : w.grownBy W2 (some g) := by
      have h1 : w.grownBy W1 (some g) := by
        have h := grownBy_setCells g news (0 + i * 2) w.drew
        rw [← hW1] at h
        exact ⟨h.os, h.tape.trans (by rfl), h.output, h.size, h.block⟩
      have h2 : W1.grownBy W2 (some g) := by rw [hW2]; exact grownBy_setCells g _ _ W1
      exact ⟨h2.os.trans h1.os, h2.tape.trans h1.tape, h2.output.trans h1.output, Nat.le_trans h1.size h2.size, fun k hk hne => (h2.block k (Nat.lt_of_lt_of_le hk h1.size) hne).trans (h1.block k hk hne)⟩
    have HFN : Hid (W2.ownsRow base 43 2 (.slice (some ⟨g, 0, none⟩) (n - 1) c) (n - 1) (gcs flCs (l.take i ++ l.drop j)) ∧ w.grownBy W2 (some g)) := Lib.hid ⟨hfin, hgr⟩
    have hW : Hid (W1 = w.drew.setCells g (0 + i * 2) news) := Lib.hid hW1
    have hlt : i < j := by omega
    have hjn : j ≤ n := by omega
    have hic : i ≤ c := by omega
    have hjc : j ≤ c := by omega
    have HJ := Lib.hid hj
    clear hfin hgr hW1 hW2 hb1 hb2 hs1 hget hcur hcell hfrz hnews hlen htake hg hcs ho hgl hnn hj e1
    go_enter Tryz.func21, Tryz.ntmps21
    go_wp2_with fail
    go_region_law (refine step_append_room rfl (.tmp 22) (.tmp 25) 22 rfl 43 i0 2 Tryz.underlying22 hi0 hz1 g 0 i c (by simp [Act.eval, Act.put]) A (n - j) (c - j) news (by simp [Act.eval, Act.put]) s1.out hsrc.out s2.out (by omega) s3.out ?_; rw [← hW.out])
    go_wp2_with fail
    go_ret
    exact ⟨by rw [← show i + (n - j) = n - 1 by have := HJ.out; omega]; rfl, HFN.out⟩
end Go.Proofs.YtceacjnhkcikgaaGreatDoor
