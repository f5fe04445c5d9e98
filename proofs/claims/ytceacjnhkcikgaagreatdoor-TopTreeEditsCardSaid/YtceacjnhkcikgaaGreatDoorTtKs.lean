/- The names of a directory: maps.Keys, slices.Collect, slices.AppendSeq, slices.Sort. -/
import Derived.Test.YtceacjnhkcikgaaGreatDoorTtAs
import Derived.Shelf.Slices.In.SortNone
namespace Go.Proofs.YtceacjnhkcikgaaGreatDoor
open Go.RowKit Go.Shelf Go.Sort
set_option linter.unusedVariables false

theorem MapS.kept' {b n : Nat} {F : Pa → Option Value} {W W' : World} (h : MapS b n F W) (hb : Below W.heap.size W W') : MapS b n F W' := h.below hb
theorem has_F {b n : Nat} {F : Pa → Option Value} {W : World} {D : DataW Value} (h : ∀ s z, D.atKey (.string s) z = optT (F s) z) (x : Pa) : Maps.has D (.string x) = (F x).isSome := has_optT (h x)
theorem keysF_any {b n : Nat} {F : Pa → Option Value} {w : World} (h : MapS b n F w) : Calls Tryz.prog 32 #[.map (some b)] w fun e w' => e = .returned (.func (.func 53) #[] #[.pointer (some ⟨w.heap.size, 0, none⟩)]) ∧ w' = w.alloc (.cells #[.map (some b)] 76) :=
  (callsIn_wide (n := 5)).1 (AnyZ.keys_in Tryz.keysF Fence.wide 5 trivial rfl (some b) w)
theorem keysB_any {b n : Nat} {F : Pa → Option Value} {w : World} (h : MapS b n F w) : Calls Tryz.prog 34 #[.map (some b)] w fun e w' => e = .returned (.func (.func 54) #[] #[.pointer (some ⟨w.heap.size, 0, none⟩)]) ∧ w' = w.alloc (.cells #[.map (some b)] 75) :=
  (callsIn_wide (n := 5)).1 (AnyZ.keys_in Tryz.keysB Fence.wide 5 trivial rfl (some b) w)
/-- What an iterator over a map's keys hands over. -/
def KeysOf' (F : Pa → Option Value) (ss : List Pa) : Prop := ss.Nodup ∧ ∀ x, x ∈ ss ↔ (F x).isSome = true
theorem keysF_stops {b n : Nat} {F : Pa → Option Value} {w : World} (h : MapS b n F w) {B : Nat} (hB : B < w.heap.size) (hm : w.cell? ⟨B, 0, none⟩ = some (.map (some b))) :
    ∃ Sp, SeqStops Fence.wide (5 - 1) Tryz.prog 53 #[.pointer (some ⟨B, 0, none⟩)] encStr (KeysOf' F) Sp n w := by
  obtain ⟨D, h1, h2⟩ := h
  have hn := strKeys_nodup h1
  have hs := h1.size_le
  have hst := AnyZ.keys_stops (ρ := Tryz.keysF_ren) { Tryz.keysF with } Fence.wide (5 - 1) trivial rfl (by omega) B b n D w hB hm h1
  refine ⟨fun pre => pre.Nodup ∧ ∀ x, x ∈ pre → Maps.has D (.string x) = true, fun l J Jx W hW hJ hJx hY h0 => ?_⟩
  refine (hst l J Jx W hW hJ hJx (fun pre x W1 hj hl => hY pre x W1 hj (by omega)) h0).mono ?_
  rintro e W' ⟨hv, (⟨ss, ⟨hp, hm⟩, hj⟩ | hx)⟩
  · exact ⟨hv, .inl ⟨ss, ⟨hp.nodup_iff.2 hn, fun x => by rw [hm x, has_F (b := b) (n := n) (W := w) h2]⟩, hj⟩⟩
  · exact ⟨hv, .inr hx⟩
theorem keysB_stops {b n : Nat} {F : Pa → Option Value} {w : World} (h : MapS b n F w) {B : Nat} (hB : B < w.heap.size) (hm : w.cell? ⟨B, 0, none⟩ = some (.map (some b))) :
    ∃ Sp, SeqStops Fence.wide (5 - 1) Tryz.prog 54 #[.pointer (some ⟨B, 0, none⟩)] encStr (KeysOf' F) Sp n w := by
  obtain ⟨D, h1, h2⟩ := h
  have hn := strKeys_nodup h1
  have hs := h1.size_le
  have hst := AnyZ.keys_stops (ρ := Tryz.keysB_ren) { Tryz.keysB with } Fence.wide (5 - 1) trivial rfl (by omega) B b n D w hB hm h1
  refine ⟨fun pre => pre.Nodup ∧ ∀ x, x ∈ pre → Maps.has D (.string x) = true, fun l J Jx W hW hJ hJx hY h0 => ?_⟩
  refine (hst l J Jx W hW hJ hJx (fun pre x W1 hj hl => hY pre x W1 hj (by omega)) h0).mono ?_
  rintro e W' ⟨hv, (⟨ss, ⟨hp, hm⟩, hj⟩ | hx)⟩
  · exact ⟨hv, .inl ⟨ss, ⟨hp.nodup_iff.2 hn, fun x => by rw [hm x, has_F (b := b) (n := n) (W := w) h2]⟩, hj⟩⟩
  · exact ⟨hv, .inr hx⟩
theorem collect_any {base gf N : Nat} {lb : Array Value} {S Sp : List (List UInt8) → Prop} (w : World) (eg : ∀ args w, (callFunc gf args).run Tryz.prog w = .ok (.enter gf args) w)
    (hseq : SeqStops Fence.wide (5 - 1) Tryz.prog gf lb encStr S Sp N w) (hbase : base ≤ w.heap.size) (hN : (N : Int) ≤ 1000000) :
    Calls Tryz.prog 31 #[.func (.func gf) #[] lb] w fun e w' => ∃ v ss, e = .returned v ∧ S ss ∧ w'.ownsRow base 9 1 v ss.length (ss.map encStr) ∧ Below base w w' := by
  have H := Lib.hid (appSeq_any (base := base) (v0 := .slice none 0 0) (xs := []) w eg hseq (World.ownsRow_nil _ _ _ _) hbase (by simpa using hN))
  go_enter Tryz.func31, Tryz.ntmps31
  go_wp2_with fail
  (with_reducible refine H.out.mono ?_)
  rintro e w' ⟨v, ss, rfl, hS, hrow, hb⟩
  go_wp2_with fail
  go_ret
  exact ⟨v, ss, rfl, hS, hrow, hb⟩
theorem le_iff (a b : Pa) : a ≤ b ↔ ¬ ltS b a := by rw [ltS_iff]; exact List.not_lt.symm
theorem sorted_names {ss ns : List Pa} (hp : ss.Perm ns) (hn : ns.Pairwise ltS) : (ss.mergeSort fun x y => decide (x ≤ y)) = ns := by
  refine List.Perm.eq_of_pairwise (le := fun a b : Pa => decide (a ≤ b) = true) (fun a b _ _ h1 h2 => ?_) (List.pairwise_mergeSort (fun a b c h1 h2 => ?_) (fun a b => ?_) _) (hn.imp (fun {a b} h => ?_)) ((List.mergeSort_perm _ _).trans hp)
  · simp only [decide_eq_true_eq] at h1 h2
    exact List.le_antisymm h1 h2
  · simp only [decide_eq_true_eq] at *
    exact List.le_trans h1 h2
  · simp only [Bool.or_eq_true, decide_eq_true_eq]
    exact List.le_total a b
  · rw [decide_eq_true_eq, le_iff]
    exact fun h2 => ltS_irrefl _ (ltS_trans h h2)
theorem putRow_enc (W : World) (g : Nat) (ns : List Pa) : putRow encStr W g 0 ns.toArray = putRow id W g 0 (ns.map encStr).toArray := by
  unfold putRow
  have e : putCells encStr 0 ns.toArray = putCells id 0 (ns.map encStr).toArray := by
    funext cs
    unfold putCells
    congr 1
    funext k x
    by_cases hk : k < ns.length
    · rw [if_pos ⟨Nat.zero_le _, by simpa using hk⟩, if_pos ⟨Nat.zero_le _, by simpa using hk⟩, getElem!_pos ns.toArray _ (by simpa using hk), getElem!_pos (ns.map encStr).toArray _ (by simpa using hk)]
      simp
    · rw [if_neg (by rintro ⟨_, h⟩; exact hk (by simpa using h)), if_neg (by rintro ⟨_, h⟩; exact hk (by simpa using h))]
  rw [e]
/-- slices.Sort at texts. -/
theorem sortStr_any {base : Nat} (a : Option Addr) (c : Nat) (ss ns : List Pa) (w : World) (ho : w.ownsRow base 9 1 (.slice a ss.length c) ss.length (ss.map encStr)) (hp : ss.Perm ns) (hn : ns.Pairwise ltS) (hl : ss.length ≤ 1000000) :
    Calls Tryz.prog 35 #[.slice a ss.length c] w fun e w' => e = .returned (.tuple #[]) ∧ w'.ownsRow base 9 1 (.slice a ss.length c) ns.length (ns.map encStr) ∧ w.grownBy w' (Value.slice a ss.length c).ownBlock := by
  rcases ho.2 with ⟨h1, h2⟩ | ⟨g, cap, cur, h1, hbase, hg, hcap, hmax, hcs, htake⟩
  · have hd : ss = [] := List.eq_nil_of_length_eq_zero h2
    subst hd
    have hl0 : ns = [] := List.Perm.eq_nil (hp.symm)
    subst hl0
    have := Any.slices_Sort_string_none Tryz.sortStr a c w
    refine Calls.mono this fun e w' ⟨he, hw⟩ => ⟨he, ?_, ?_⟩
    · rw [hw]; exact ho
    · rw [hw]; exact ⟨rfl, rfl, rfl, Nat.le_refl _, fun _ _ _ => rfl⟩
  · cases h1
    have hH : Holds encStr w g 0 ss.toArray := by
      intro j hj
      have hj' : j < ss.length := by simpa using hj
      refine ⟨?_, Lib.frozen_of_heap hg _⟩
      rw [Lib.cell_of_heap hg, Nat.zero_add]
      have h3 : (cur.toList.take (ss.length * 1))[j]? = (ss.map encStr)[j]? := by rw [htake]
      rw [List.getElem?_take_of_lt (by omega), Array.getElem?_toList] at h3
      rw [h3, List.getElem?_map, List.getElem?_eq_getElem hj', getElem!_pos _ j hj]
      simp
    have hcon := Any.slices_Sort_string Tryz.sortStr g 0 c ss w hH (Array.getElem?_eq_some_iff.1 hg).1 (by omega)
    rw [sorted_names hp hn] at hcon
    have hcon2 : Calls Tryz.prog 35 #[.slice (some ⟨g, 0, none⟩) ss.length c] w _ := hcon
    refine hcon2.mono fun e w' ⟨he, n, os, hw⟩ => ⟨he, ?_, ?_⟩
    · rw [hw]
      rw [putRow_enc]
      have hl2 : (ns.map encStr).length = ss.length * 1 := by rw [List.length_map, hp.length_eq, Nat.mul_one]
      have hln : ns.length = ss.length := hp.length_eq.symm
      rw [hln]
      exact ⟨hl2, .inr ⟨g, c, _, rfl, hbase, heap_sortedD _ hg, hcap, hmax, by simp [putCells, hcs], by rw [← hl2]; exact take_putCellsD cur _ (by rw [hl2, hcs]; exact Nat.mul_le_mul_right _ hcap)⟩⟩
    · rw [hw]
      rw [putRow_enc]
      exact grownBy_sortedD _
end Go.Proofs.YtceacjnhkcikgaaGreatDoor
