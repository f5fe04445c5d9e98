/- slices.Insert at one file: the walk by hand. -/
import Derived.Test.YtceacjnhkcikgaaGreatDoorTtDe
import Derived.Lib.Overlaps
namespace Go.Proofs.YtceacjnhkcikgaaGreatDoor
open Go.RowKit Go.Shelf Go.Lib
set_option linter.unusedVariables false

section
variable {P : Program}
theorem wp_copy_runT (w : World) {o : Oper} {a : Act} {K : Act → World → Prop} {Q : Exit → Act → World → Prop} (d s : Operand) (t t' : TypeId)
    (ho : o.op = .call { callee := .builtin .copy, args := #[d, s], argTypes := #[t, t'] }) (v u : Value) (hd : a.eval d = v) (hs : a.eval s = u) {v' : Value} {w' : World}
    (hr : (Builtin.copy_ #[t, t'] o.type #[v, u]).run P w = .ok v' w') (h : K (a.put o.dst v') w') : o.wp P a w K Q := by
  unfold Oper.wp execOp
  simp only [ho, resolve, invoke, builtin, Sem.run_bind, Sem.run_pure, Result.andThen_ok, List.map_toArray, List.map_cons, List.map_nil, hd, hs, hr]
  exact h
theorem wpList_copy_runT (w : World) {ops : Array Oper} {rest : List Oper} {o : Oper} {a : Act} {Q : Exit → Act → World → Prop} (hgd : o.guard = none) (d s : Operand) (t t' : TypeId)
    (ho : o.op = .call { callee := .builtin .copy, args := #[d, s], argTypes := #[t, t'] }) (v u : Value) (hd : a.eval d = v) (hs : a.eval s = u) {v' : Value} {w' : World}
    (hr : (Builtin.copy_ #[t, t'] o.type #[v, u]).run P w = .ok v' w') (h : wpList P ops Q rest (a.put o.dst v') w') : wpList P ops Q (o :: rest) a w :=
  wpList_plain hgd fun _ hK => wp_copy_runT w d s t t' ho v u hd hs hr (hK _ _ h)
theorem step_copy_runT {ops : Array Oper} {o : Oper} {a : Act} {w : World} {K : Act → World → Prop} {Q : Exit → Act → World → Prop} {E : Prop}
    (hg : o.guard = none) (d x : Operand) (dT sT : TypeId) (hop : o.op = Op.call { callee := Callee.builtin Builtin.copy, args := #[d, x], argTypes := #[dT, sT] })
    (v u : Value) (hd : a.eval d = v) (hx : a.eval x = u) {v' : Value} {w' : World} (hr : (Builtin.copy_ #[dT, sT] o.type #[v, u]).run P w = .ok v' w') (hK : K (a.put o.dst v') w') :
    if Region.wanted o (yielded ops a.tmps) = true then Oper.wp P o a w K Q else E := by
  have hw : Region.wanted o (yielded ops a.tmps) = true := by simp [Region.wanted, hg]
  rw [if_pos hw]
  unfold Oper.wp
  simp [execOp, hop, resolve, invoke, builtin, hd, hx, hr, Result.andThen]
  exact hK
end
/-- Files are copied. -/
theorem run_copy_fl (w : World) (ty : TypeId) (b o dLen dCap : Nat) (a : Addr) (sLen sCap : Nat) (cs : List Value) (hn : cs.length = Nat.min sLen dLen * 2)
    (hsrc : ∀ j v, cs[j]? = some v → w.cell? (a.add j) = some v) (hc : ∀ j, j < cs.length → (w.cell? ⟨b, o + j, none⟩).isSome = true) (hf : ∀ j, j < cs.length → w.frozen? ⟨b, o + j, none⟩ = false) (h1 : ∀ v ∈ cs, v.oneCell' = true) :
    (Builtin.copy_ #[22, 22] ty #[.slice (some ⟨b, o, none⟩) dLen dCap, .slice (some a) sLen sCap]).run Tryz.prog w = .ok (goInt (Nat.min sLen dLen)) (w.setCells b o cs) := by
  have hl := run_loadCells_list (P := Tryz.prog) w a cs hsrc
  have hst := run_storeCells_cells (P := Tryz.prog) b o cs 0 w (by simpa using hc) (by simpa using hf) h1
  obtain ⟨i0, hi0, hz0, hz1, hz2⟩ := info_parts infoFl
  simp [Builtin.copy_, run_underlying Tryz.underlying22, Builtin.lenOf, Builtin.firstCells, sizeOf, typeInfo, hi0, hz1, ← hn, hl, hst]
/-- A row of files with one more. -/
def GotIn (base : Nat) (w : World) (r : Option Nat) (l : List Fl) (e : Ending) (w' : World) : Prop := ∃ a' c', e = .returned (.slice a' l.length c') ∧ w'.ownsRow base 43 2 (.slice a' l.length c') l.length (gcs flCs l) ∧ w.grownBy w' r
theorem ins_len (l : List Fl) (k : Nat) (x : Fl) (hk : k ≤ l.length) : (l.take k ++ x :: l.drop k).length = l.length + 1 := by rw [List.length_append, List.length_cons, List.length_take, List.length_drop]; omega

set_option maxRecDepth 100000 in
set_option maxHeartbeats 4000000 in
theorem insert_end {base : Nat} (a : Option Addr) (c : Nat) (l : List Fl) (x : Fl) (vb : Nat) (w : World) (ho : w.ownsRow base 43 2 (.slice a l.length c) l.length (gcs flCs l)) (hv : BK vb (flCs x).toArray 43 w) (hb : base ≤ w.heap.size) (hn : l.length ≤ 1000) :
    Calls Tryz.prog 22 #[.slice a l.length c, .int .i64 (l.length : Int), .slice (some ⟨vb, 0, none⟩) 1 1] w (GotIn base w (Value.slice a l.length c).ownBlock (l ++ [x])) := by
  obtain ⟨i0, hi0, hz0, hz1, hz2⟩ := info_parts infoFl
  obtain ⟨v', w', hr, h2, h3, _⟩ := append_src (P := Tryz.prog) w base 22 22 43 i0 _ 2 32 Tryz.underlying22 hi0 hz0 hz1 hz2 rfl (by decide) (.slice a l.length c) l.length (gcs flCs l) ho (some ⟨vb, 0, none⟩) 1 1 (flCs x) rfl (.inr ⟨_, rfl, fun j u hj => by
    rw [Addr.add_lit, Nat.zero_add, hv.cell]
    simpa using hj⟩) (fun u hu => layFl.one x u hu) (by unfold maxLen; omega) (by omega) hb
  obtain ⟨a', c', rfl, _⟩ := ownsRow_sliceN h2
  have HFN : Hid (GotIn base w (Value.slice a l.length c).ownBlock (l ++ [x]) (.returned (.slice a' (l.length + 1) c')) w') := Lib.hid ⟨a', c', by simp, by rw [List.length_append, gcs_append, gcs_one]; exact h2, h3⟩
  have HRUN := Lib.hid hr
  have hca : a = none → l.length = 0 ∧ c = 0 := by
    intro e
    rcases ho.2 with ⟨h1, h2⟩ | ⟨g, cap, cur, h1, _⟩
    · injection h1 with _ e2 e3; exact ⟨h2, e3⟩
    · injection h1 with e1; rw [e] at e1; cases e1
  have hcap : l.length ≤ c := own_cap ho
  clear hr h2 h3 ho hv
  obtain ⟨n, hnn⟩ : ∃ n, n = l.length := ⟨_, rfl⟩
  rw [← hnn] at HRUN HFN hca hcap hn ⊢
  clear hnn
  cases a with
  | none =>
    obtain ⟨rfl, rfl⟩ := hca rfl
    clear hca
    go_enter Tryz.func22, Tryz.ntmps22
    go_wp2_with (at_builtin; refine Lib.wpList_append_run _ rfl _ _ _ _ rfl _ _ rfl rfl _ _ HRUN.out ?_)
    go_ret
    exact HFN.out
  | some ad =>
    clear hca
    go_enter Tryz.func22, Tryz.ntmps22
    go_wp2_with (at_builtin; refine Lib.wpList_append_run _ rfl _ _ _ _ rfl _ _ rfl rfl _ _ HRUN.out ?_)
    all_goals (go_ret; exact HFN.out)
set_option maxRecDepth 100000 in
set_option maxHeartbeats 4000000 in
theorem insert_shift {base : Nat} (g c : Nat) (l : List Fl) (i : Nat) (x : Fl) (vb : Nat) (w : World) (hi : i < l.length) (hroom : l.length + 1 ≤ c) (ho : w.ownsRow base 43 2 (.slice (some ⟨g, 0, none⟩) l.length c) l.length (gcs flCs l)) (hv : BK vb (flCs x).toArray 43 w) (hvb : vb ≠ g) (hn : l.length ≤ 1000) :
    Calls Tryz.prog 22 #[.slice (some ⟨g, 0, none⟩) l.length c, .int .i64 (i : Int), .slice (some ⟨vb, 0, none⟩) 1 1] w (GotIn base w (some g) (l.take i ++ x :: l.drop i)) := by
  rcases ho.2 with ⟨h1, _⟩ | ⟨g', cap, cur, h1, hbase, hg, hcap, hmax, hcs, htake⟩
  · cases h1
  · cases h1
    obtain ⟨n, hnn⟩ : ∃ n, n = l.length := ⟨_, rfl⟩
    have hgl := gcs_len l
    rw [← hnn] at hi hn hcap htake hgl hroom ⊢
    unfold maxLen at hmax
    have hcur : ∀ t, t < n * 2 → cur[t]? = (gcs flCs l)[t]? := fun t ht => by rw [← htake, List.getElem?_take_of_lt ht, Array.getElem?_toList]
    obtain ⟨news, hnews⟩ : ∃ news, news = gcs flCs (l.drop i) := ⟨_, rfl⟩
    have hlen : news.length = (n - i) * 2 := by rw [hnews, gcs_len, List.length_drop, hnn]
    have hget : ∀ t, t < (n - i) * 2 → news[t]? = cur[i * 2 + t]? := fun t ht => by rw [hnews, gcs_drop, List.getElem?_drop, hcur _ (by omega)]
    have hbg : BK g cur 43 w.drew := hg
    have hbv : BK vb (flCs x).toArray 43 w.drew := hv
    obtain ⟨W1, hW1⟩ : ∃ W1, W1 = w.drew.setCells g ((i + 1) * 2) news := ⟨_, rfl⟩
    have hb1 : BK g (putL cur ((i + 1) * 2) news) 43 W1 := by rw [hW1]; exact BK.setCells _ _ hbg
    have hv1 : BK vb (flCs x).toArray 43 W1 := hbv.grow1 (by rw [hW1]; exact grownBy_setCells g news _ w.drew) (fun e => hvb e.symm)
    have hs1 : (putL cur ((i + 1) * 2) news).size = c * 2 := by rw [putL_size, hcs]
    obtain ⟨W2, hW2⟩ : ∃ W2, W2 = W1.setCells g (i * 2) (flCs x) := ⟨_, rfl⟩
    have hb2 : BK g (putL (putL cur ((i + 1) * 2) news) (i * 2) (flCs x)) 43 W2 := by rw [hW2]; exact BK.setCells _ _ hb1
    have hcp1 : ∀ ty dc sc, (Builtin.copy_ #[22, 22] ty #[.slice (some ⟨g, (i + 1) * 2, none⟩) (n + 1 - (i + 1)) dc, .slice (some ⟨g, i * 2, none⟩) (n + 1 - i) sc]).run Tryz.prog w.drew = .ok (goInt (Nat.min (n + 1 - i) (n + 1 - (i + 1)))) W1 := fun ty dc sc => by
      rw [hW1]
      exact run_copy_fl w.drew ty g ((i + 1) * 2) (n + 1 - (i + 1)) dc ⟨g, i * 2, none⟩ (n + 1 - i) sc news (by rw [hlen]; simp only [Nat.min_def]; split <;> omega) (fun t u hu => by
        have ht : t < (n - i) * 2 := by have := (List.getElem?_eq_some_iff.1 hu).1; rwa [hlen] at this
        rw [Addr.add_lit, hbg.cell, ← hget t ht]; exact hu) (fun t ht => by rw [hlen] at ht; rw [hbg.cell, Array.getElem?_eq_getElem (by rw [hcs]; omega)]; rfl) (fun t _ => hbg.frozen _) (fun u hu => by rw [hnews] at hu; exact gcs_oneF hu)
    have hcp2 : ∀ ty dc, (Builtin.copy_ #[22, 22] ty #[.slice (some ⟨g, i * 2, none⟩) (n + 1 - i) dc, .slice (some ⟨vb, 0, none⟩) 1 1]).run Tryz.prog W1 = .ok (goInt (Nat.min 1 (n + 1 - i))) W2 := fun ty dc => by
      rw [hW2]
      exact run_copy_fl W1 ty g (i * 2) (n + 1 - i) dc ⟨vb, 0, none⟩ 1 1 (flCs x) (by simp only [Nat.min_def, flCs]; split <;> simp <;> omega) (fun t u hu => by rw [Addr.add_lit, Nat.zero_add, hv1.cell]; simpa using hu) (fun t ht => by
        have ht2 : t < 2 := ht
        rw [hb1.cell, Array.getElem?_eq_getElem (by rw [hs1]; omega)]; rfl) (fun t _ => hb1.frozen _) (fun u hu => layFl.one x u hu)
    have hl2 : (l.take i ++ x :: l.drop i).length = n + 1 := by rw [ins_len l i x (by omega), hnn]
    have hfin : W2.ownsRow base 43 2 (.slice (some ⟨g, 0, none⟩) (n + 1) c) (n + 1) (gcs flCs (l.take i ++ x :: l.drop i)) := by
      refine ⟨by rw [gcs_len, hl2], .inr ⟨g, c, _, rfl, hbase, hb2, hroom, by unfold maxLen; omega, by rw [putL_size, hs1], ?_⟩⟩
      have hx2 : (flCs x).length = 2 := rfl
      have p1 : (putL cur ((i + 1) * 2) news).toList = cur.toList.take ((i + 1) * 2) ++ news ++ cur.toList.drop ((i + 1) * 2 + news.length) := putL_list _ _ _ (by rw [hcs, hlen]; omega)
      have e1 : (putL cur ((i + 1) * 2) news).toList.take (i * 2) = gcs flCs (l.take i) := by
        rw [p1, List.append_assoc, List.take_append_of_le_length (by rw [List.length_take, Array.length_toList, hcs]; omega), List.take_take, Nat.min_eq_left (by omega), gcs_take, ← htake, List.take_take, Nat.min_eq_left (by omega)]
      have e2 : (putL cur ((i + 1) * 2) news).toList.drop (i * 2 + 2) = news ++ cur.toList.drop ((i + 1) * 2 + news.length) := by
        rw [p1, List.append_assoc, show i * 2 + 2 = (i + 1) * 2 by omega]
        exact List.drop_left' (by rw [List.length_take, Array.length_toList, hcs]; omega)
      rw [putL_list _ _ _ (by rw [hs1, hx2]; omega), hx2, e1, e2, ← List.append_assoc]
      have e3 : gcs flCs (l.take i) ++ flCs x ++ news = gcs flCs (l.take i ++ x :: l.drop i) := by
        rw [gcs_append, show x :: l.drop i = [x] ++ l.drop i from rfl, gcs_append, gcs_one, hnews, List.append_assoc]
      rw [e3]
      exact List.take_left' (by rw [gcs_len, hl2])
    have hgr : w.grownBy W2 (some g) := by
      have h1 : w.drew.grownBy W1 (some g) := by rw [hW1]; exact grownBy_setCells g news _ w.drew
      have h2 : W1.grownBy W2 (some g) := by rw [hW2]; exact grownBy_setCells g _ _ W1
      exact ⟨h2.os.trans h1.os, h2.tape.trans (h1.tape.trans (by rfl)), h2.output.trans h1.output, Nat.le_trans h1.size h2.size, fun k hk hne => (h2.block k (Nat.lt_of_lt_of_le hk h1.size) hne).trans (h1.block k hk hne)⟩
    have HFN : Hid (GotIn base w (some g) (l.take i ++ x :: l.drop i) (.returned (.slice (some ⟨g, 0, none⟩) (n + 1) c)) W2) := Lib.hid ⟨_, c, by rw [hl2], by rw [hl2]; exact hfin, hgr⟩
    have hov : ∀ lb cb, (callFunc 41 #[.slice (some ⟨vb, 0, none⟩) 1 1, .slice (some ⟨g, (i + 1) * 2, none⟩) lb cb]).run Tryz.prog w = .ok (.value (.bool false)) w := fun lb cb => by
      rw [run_callFunc_extern Tryz.func41 (by kernel_rfl) (by kernel_rfl) (by kernel_rfl) (e := Extern.SlicesOverlaps.overlaps #[22, 22] #[4]) (by kernel_rfl),
        Lib.run_overlaps_apart w 22 4 43 Tryz.underlying22 2 (fun w => by kernel_rfl) ⟨vb, 0, none⟩ ⟨g, (i + 1) * 2, none⟩ 1 1 lb cb hvb 43 43 2 (c * 2) (by unfold World.shape?; rw [show w.heap[vb]? = _ from hv]; rfl) (by unfold World.shape?; rw [show w.heap[g]? = _ from hg]; simp only [hcs]) (by omega) (hv.frozen 0) (hv.frozen 2)]
      rfl
    have hw1 : IntKind.i64.wrap ((i : Int) + 1) = (i : Int) + 1 := by rw [IntKind.wrap_i64]; omega
    have hw2 : IntKind.i64.wrap ((n : Int) + 1) = (n : Int) + 1 := by rw [IntKind.wrap_i64]; omega
    have hz2 : ¬ ((i : Int) = (n : Int)) := by omega
    have hin : i ≤ n := by omega
    have hi1 : ((i : Int) + 1).toNat = i + 1 := by omega
    have hn1 : ((n : Int) + 1).toNat = n + 1 := by omega
    have hb3 : (i : Int) ≤ (n : Int) + 1 := by omega
    have hb4 : ¬ (c = i) := by omega
    have hb5 : ¬ (c = i + 1) := by omega
    have hb6 : (0 : Int) ≤ (i : Int) + 1 := by omega
    have hb7 : (0 : Int) ≤ (n : Int) + 1 := by omega
    clear hfin hgr hl2 hb2 hW2 hv1 hb1 hs1 hbv hbg hget hlen hnews hcur htake hg hcs ho hv hgl hnn hW1
    go_enter Tryz.func22, Tryz.ntmps22
    go_wp2_with (simp only [hov])
    go_region_law (refine step_copy_runT rfl (.tmp 73) (.tmp 76) 22 22 rfl (.slice (some ⟨g, (i + 1) * 2, none⟩) (n + 1 - (i + 1)) (c - (i + 1))) (.slice (some ⟨g, i * 2, none⟩) (n + 1 - i) (c - i)) (by simp [Act.eval, Act.put]) (by simp [Act.eval, Act.put]) (hcp1 _ _ _) ?_)
    go_wp2_with (at_builtin; refine wpList_copy_runT _ rfl _ _ 22 22 rfl _ _ rfl rfl (hcp2 _ _) ?_)
    go_ret
    exact HFN.out
set_option maxRecDepth 100000 in
set_option maxHeartbeats 4000000 in
theorem insert_grow {base : Nat} (g c : Nat) (l : List Fl) (i : Nat) (x : Fl) (vb : Nat) (w : World) (hi : i < l.length) (hroom : c < l.length + 1) (ho : w.ownsRow base 43 2 (.slice (some ⟨g, 0, none⟩) l.length c) l.length (gcs flCs l)) (hv : BK vb (flCs x).toArray 43 w) (hb : base ≤ w.heap.size) (hn : l.length ≤ 1000) :
    Calls Tryz.prog 22 #[.slice (some ⟨g, 0, none⟩) l.length c, .int .i64 (i : Int), .slice (some ⟨vb, 0, none⟩) 1 1] w (GotIn base w (some g) (l.take i ++ x :: l.drop i)) := by
  rcases ho.2 with ⟨h1, _⟩ | ⟨g', cap, cur, h1, hbase, hg, hcap, hmax, hcs, htake⟩
  · cases h1
  · cases h1
    obtain ⟨i0, hi0, hz0, hz1, hz2⟩ := info_parts infoFl
    obtain ⟨n, hnn⟩ : ∃ n, n = l.length := ⟨_, rfl⟩
    have hgl := gcs_len l
    rw [← hnn] at hi hn hcap htake hgl hroom ⊢
    unfold maxLen at hmax
    have hcur : ∀ t, t < n * 2 → cur[t]? = (gcs flCs l)[t]? := fun t ht => by rw [← htake, List.getElem?_take_of_lt ht, Array.getElem?_toList]
    obtain ⟨news, hnews⟩ : ∃ news, news = gcs flCs (l.drop i) := ⟨_, rfl⟩
    have hlen : news.length = (n - i) * 2 := by rw [hnews, gcs_len, List.length_drop, hnn]
    have hget : ∀ t, t < (n - i) * 2 → news[t]? = cur[i * 2 + t]? := fun t ht => by rw [hnews, gcs_drop, List.getElem?_drop, hcur _ (by omega)]
    have hbg : BK g cur 43 w.drew := hg
    have hbv : BK vb (flCs x).toArray 43 w.drew := hv
    have htl : (gcs flCs (l.take i)).length = i * 2 := by rw [gcs_len, List.length_take]; omega
    have hold : (Builtin.firstCells i0.size i (.slice (some ⟨g, 0, none⟩) i c)).run Tryz.prog w.drew = .ok (gcs flCs (l.take i)).toArray w.drew := by
      rw [hz1]
      exact run_firstCells_some w.drew 2 i ⟨g, 0, none⟩ i c (gcs flCs (l.take i)) htl (fun t u hu => by
        have ht : t < i * 2 := by have := (List.getElem?_eq_some_iff.1 hu).1; omega
        rw [Addr.add_lit, Nat.zero_add, hbg.cell, hcur _ (by omega)]
        rw [gcs_take, List.getElem?_take_of_lt ht] at hu
        exact hu)
    obtain ⟨G, hG⟩ : ∃ G, G = grownCap w (n + 1) c 43 := ⟨_, rfl⟩
    have hGn : n + 1 ≤ G := by rw [hG]; exact grownCap_ge w _ _ _
    have hG63 : G ≤ maxLen := by rw [hG]; exact grownCap_le_maxLen w (n + 1) c _ (by unfold maxLen; omega)
    unfold maxLen at hG63
    obtain ⟨ROW, hROW⟩ : ∃ ROW : Array Value, ROW = (gcs flCs (l.take i)).toArray ++ Builtin.zeroCells (Value.agg #[.string ⟨#[]⟩, .string ⟨#[]⟩]).cells (n + 1 - i) ++ Builtin.zeroCells (Value.agg #[.string ⟨#[]⟩, .string ⟨#[]⟩]).cells (G - (n + 1)) := ⟨_, rfl⟩
    have hRs : ROW.size = G * 2 := by
      rw [hROW]
      simp only [Array.size_append, List.size_toArray, size_zeroCells, htl, show (Value.agg #[.string ⟨#[]⟩, .string ⟨#[]⟩]).cells.size = 2 from rfl]
      omega
    have hRt : ROW.toList.take (i * 2) = gcs flCs (l.take i) := by
      rw [hROW]
      simp only [Array.toList_append, List.append_assoc]
      rw [← htl]
      exact List.take_left
    obtain ⟨W1, hW1⟩ : ∃ W1, W1 = w.drew.alloc (.cells ROW 43) := ⟨_, rfl⟩
    have hrz : ∀ ty, (Builtin.append_ #[22, 3] ty #[.slice (some ⟨g, 0, none⟩) i c, .int .i64 ((n : Int) + 1 - (i : Int))]).run Tryz.prog w = .ok (.slice (some ⟨w.heap.size, 0, none⟩) (n + 1) G) W1 := fun ty => by
      have h := Lib.run_append_grow_zeros w 22 3 ty 43 i0 _ .i64 .i64 Tryz.underlying22 Tryz.underlying3 hi0 hz0 (some ⟨g, 0, none⟩) i c (gcs flCs (l.take i)) hold (n + 1 - i) (by omega) (by omega) (by omega) (by omega) (by rw [hz2]; omega) (by rw [hz2, show i + (n + 1 - i) = n + 1 by omega]; exact growslice_fits hroom (by omega))
      rw [show i + (n + 1 - i) = n + 1 by omega, ← hG, ← hROW, ← hW1] at h
      rw [show (n : Int) + 1 - (i : Int) = ((n + 1 - i : Nat) : Int) by omega]
      exact h
    have hbN : BK w.heap.size ROW 43 W1 := by rw [hW1]; exact BK.new w.drew _ _
    have hg1 : BK g cur 43 W1 := by rw [hW1]; exact hbg.alloc _
    have hv1 : BK vb (flCs x).toArray 43 W1 := by rw [hW1]; exact hbv.alloc _
    have hgN : w.heap.size ≠ g := fun e => by have := hbg.lt; rw [← e] at this; exact Nat.lt_irrefl _ this
    have hx2 : (flCs x).length = 2 := rfl
    obtain ⟨W2, hW2⟩ : ∃ W2, W2 = W1.setCells w.heap.size (i * 2) (flCs x) := ⟨_, rfl⟩
    have hb2 : BK w.heap.size (putL ROW (i * 2) (flCs x)) 43 W2 := by rw [hW2]; exact BK.setCells _ _ hbN
    have hs2 : (putL ROW (i * 2) (flCs x)).size = G * 2 := by rw [putL_size, hRs]
    have hg2 : BK g cur 43 W2 := hg1.grow1 (by rw [hW2]; exact grownBy_setCells _ _ _ W1) hgN
    obtain ⟨W3, hW3⟩ : ∃ W3, W3 = W2.drew.setCells w.heap.size ((i + 1) * 2) news := ⟨_, rfl⟩
    have hb3 : BK w.heap.size (putL (putL ROW (i * 2) (flCs x)) ((i + 1) * 2) news) 43 W3 := by rw [hW3]; exact BK.setCells _ _ (show BK _ _ _ W2.drew from hb2)
    have hcp1 : ∀ ty dc, (Builtin.copy_ #[22, 22] ty #[.slice (some ⟨w.heap.size, i * 2, none⟩) (n + 1 - i) dc, .slice (some ⟨vb, 0, none⟩) 1 1]).run Tryz.prog W1 = .ok (goInt (Nat.min 1 (n + 1 - i))) W2 := fun ty dc => by
      rw [hW2]
      exact run_copy_fl W1 ty w.heap.size (i * 2) (n + 1 - i) dc ⟨vb, 0, none⟩ 1 1 (flCs x) (by simp only [Nat.min_def, flCs]; split <;> simp <;> omega) (fun t u hu => by rw [Addr.add_lit, Nat.zero_add, hv1.cell]; simpa using hu) (fun t ht => by
        have ht2 : t < 2 := ht
        rw [hbN.cell, Array.getElem?_eq_getElem (by rw [hRs]; omega)]; rfl) (fun t _ => hbN.frozen _) (fun u hu => layFl.one x u hu)
    have hcp2 : ∀ ty dc sc, (Builtin.copy_ #[22, 22] ty #[.slice (some ⟨w.heap.size, (i + 1) * 2, none⟩) (n + 1 - (i + 1)) dc, .slice (some ⟨g, i * 2, none⟩) (n - i) sc]).run Tryz.prog W2.drew = .ok (goInt (Nat.min (n - i) (n + 1 - (i + 1)))) W3 := fun ty dc sc => by
      rw [hW3]
      exact run_copy_fl W2.drew ty w.heap.size ((i + 1) * 2) (n + 1 - (i + 1)) dc ⟨g, i * 2, none⟩ (n - i) sc news (by rw [hlen]; simp only [Nat.min_def]; split <;> omega) (fun t u hu => by
        have ht : t < (n - i) * 2 := by have := (List.getElem?_eq_some_iff.1 hu).1; rwa [hlen] at this
        rw [Addr.add_lit, (show BK g cur _ W2.drew from hg2).cell, ← hget t ht]; exact hu) (fun t ht => by rw [hlen] at ht; rw [(show BK _ _ _ W2.drew from hb2).cell, Array.getElem?_eq_getElem (by rw [hs2]; omega)]; rfl) (fun t _ => (show BK _ _ _ W2.drew from hb2).frozen _) (fun u hu => by rw [hnews] at hu; exact gcs_oneF hu)
    have hl2 : (l.take i ++ x :: l.drop i).length = n + 1 := by rw [ins_len l i x (by omega), hnn]
    have hfin : W3.ownsRow base 43 2 (.slice (some ⟨w.heap.size, 0, none⟩) (n + 1) G) (n + 1) (gcs flCs (l.take i ++ x :: l.drop i)) := by
      refine ⟨by rw [gcs_len, hl2], .inr ⟨w.heap.size, G, _, rfl, hb, hb3, hGn, by unfold maxLen; omega, by rw [putL_size, hs2], ?_⟩⟩
      have e1 : (putL ROW (i * 2) (flCs x)).toList.take ((i + 1) * 2) = gcs flCs (l.take i) ++ flCs x := by
        rw [putL_list _ _ _ (by rw [hRs, hx2]; omega), hRt]
        exact List.take_left' (by rw [List.length_append, htl, hx2]; omega)
      rw [putL_list _ _ _ (by rw [hs2, hlen]; omega), e1]
      have e3 : gcs flCs (l.take i) ++ flCs x ++ news = gcs flCs (l.take i ++ x :: l.drop i) := by
        rw [gcs_append, show x :: l.drop i = [x] ++ l.drop i from rfl, gcs_append, gcs_one, hnews, List.append_assoc]
      rw [e3]
      exact List.take_left' (by rw [gcs_len, hl2])
    have hgr : w.grownBy W3 (some g) := by
      have h2 : W1.grownBy W2 (some w.heap.size) := by rw [hW2]; exact grownBy_setCells _ _ _ W1
      have h3 : W2.drew.grownBy W3 (some w.heap.size) := by rw [hW3]; exact grownBy_setCells _ _ _ W2.drew
      have hz : w.heap.size ≤ W1.heap.size := by rw [hW1, World.size_alloc]; exact Nat.le_succ _
      refine ⟨h3.os.trans (h2.os.trans (by rw [hW1]; rfl)), h3.tape.trans (h2.tape.trans (by rw [hW1]; rfl)), h3.output.trans (h2.output.trans (by rw [hW1]; rfl)), Nat.le_trans hz (Nat.le_trans h2.size h3.size), fun k hk hne => ?_⟩
      have h4 : W1.heap[k]? = w.heap[k]? := by rw [hW1]; exact Below.heap_alloc w.drew _ _ hk
      exact ((h3.block k (show k < W2.heap.size from Nat.lt_of_lt_of_le hk (Nat.le_trans hz h2.size)) (by intro e; have := Option.some.inj e; omega)).trans (h2.block k (by omega) (by intro e; have := Option.some.inj e; omega))).trans h4
    have HFN : Hid (GotIn base w (some g) (l.take i ++ x :: l.drop i) (.returned (.slice (some ⟨w.heap.size, 0, none⟩) (n + 1) G)) W3) := Lib.hid ⟨_, G, by rw [hl2], by rw [hl2]; exact hfin, hgr⟩
    have hw1 : IntKind.i64.wrap ((i : Int) + 1) = (i : Int) + 1 := by rw [IntKind.wrap_i64]; omega
    have hw2 : IntKind.i64.wrap ((n : Int) + 1) = (n : Int) + 1 := by rw [IntKind.wrap_i64]; omega
    have hw3 : IntKind.i64.wrap ((n : Int) + 1 - (i : Int)) = (n : Int) + 1 - (i : Int) := by rw [IntKind.wrap_i64]; omega
    have hz2 : ¬ ((i : Int) = (n : Int)) := by omega
    have hz3 : (c : Int) < (n : Int) + 1 := by omega
    have hin : i ≤ n := by omega
    have hi1 : ((i : Int) + 1).toNat = i + 1 := by omega
    have hb3' : (i : Int) ≤ (n : Int) := by omega
    have hb4 : ¬ (c = i) := by omega
    have hb5 : ¬ (G = i) := by omega
    have hb8 : ¬ (G = i + 1) := by omega
    have hb6 : (0 : Int) ≤ (i : Int) + 1 := by omega
    have HR := Lib.hid hrz
    clear hrz
    clear hfin hgr hl2 hb3 hW3 hg2 hs2 hb2 hW2 hx2 hv1 hg1 hbN hW1 hRt hRs hROW hG hold htl hbv hbg hget hlen hnews hcur htake hg hcs ho hv hgl hnn
    go_enter Tryz.func22, Tryz.ntmps22
    go_wp2_with (first | (at_builtin; refine Lib.wpList_append_run _ rfl _ _ _ _ rfl _ _ rfl rfl _ _ (HR.out _) ?_) | (at_builtin; refine wpList_copy_runT _ rfl _ _ 22 22 rfl _ _ rfl rfl (hcp1 _ _) ?_))
    go_region_law (refine step_copy_runT rfl (.tmp 50) (.tmp 53) 22 22 rfl (.slice (some ⟨w.heap.size, (i + 1) * 2, none⟩) (n + 1 - (i + 1)) (G - (i + 1))) (.slice (some ⟨g, i * 2, none⟩) (n - i) (c - i)) (by simp [Act.eval, Act.put]) (by simp [Act.eval, Act.put]) (hcp2 _ _ _) ?_)
    go_wp2_with fail
    go_ret
    exact HFN.out
theorem finsert_any {base : Nat} (a : Option Addr) (c : Nat) (l : List Fl) (i : Nat) (x : Fl) (vb : Nat) (w : World) (hi : i ≤ l.length) (ho : w.ownsRow base 43 2 (.slice a l.length c) l.length (gcs flCs l)) (hv : BK vb (flCs x).toArray 43 w) (hvb : (Value.slice a l.length c).ownBlock ≠ some vb) (hb : base ≤ w.heap.size) (hn : l.length ≤ 1000) :
    Calls Tryz.prog 22 #[.slice a l.length c, .int .i64 (i : Int), .slice (some ⟨vb, 0, none⟩) 1 1] w (GotIn base w (Value.slice a l.length c).ownBlock (l.take i ++ x :: l.drop i)) := by
  by_cases h : i = l.length
  · subst h
    rw [List.take_length, List.drop_length]
    exact insert_end a c l x vb w ho hv hb hn
  · have ho2 := ho
    rcases ho.2 with ⟨_, h2⟩ | ⟨g, cap, cur, h1, _, _, hcap, _⟩
    · omega
    · injection h1 with e1 e2 e3
      subst e1
      by_cases hr : l.length + 1 ≤ c
      · exact insert_shift g c l i x vb w (by omega) hr ho hv (fun e => hvb (by rw [e]; rfl)) hn
      · exact insert_grow g c l i x vb w (by omega) (by omega) ho hv hb hn
/-- A file of an own row is replaced. -/
theorem own_setF {base g c : Nat} {l : List Fl} {k : Nat} {W : World} (ho : W.ownsRow base 43 2 (.slice (some ⟨g, 0, none⟩) l.length c) l.length (gcs flCs l)) (hk : k < l.length) (x : Fl) :
    ((W.setCell ⟨g, k * 2, none⟩ (.string ⟨x.path.toArray⟩)).setCell ⟨g, k * 2 + 1, none⟩ (.string ⟨x.data.toArray⟩)).ownsRow base 43 2 (.slice (some ⟨g, 0, none⟩) l.length c) l.length (gcs flCs (l.take k ++ x :: l.drop (k + 1))) := by
  have hl2 : (l.take k ++ x :: l.drop (k + 1)).length = l.length := by rw [List.length_append, List.length_cons, List.length_take, List.length_drop]; omega
  rcases ho.2 with ⟨h1, _⟩ | ⟨g', cap, cur, h1, hbase, hg, hcap, hmax, hcs, htake⟩
  · cases h1
  · cases h1
    have hb := BK.setCells (flCs x) (k * 2) (show BK g cur 43 W from hg)
    refine ⟨by rw [gcs_len, hl2], .inr ⟨g, c, _, rfl, hbase, hb, hcap, hmax, by rw [putL_size, hcs], ?_⟩⟩
    have hx2 : (flCs x).length = 2 := rfl
    rw [putL_list _ _ _ (by rw [hcs, hx2]; omega), hx2]
    have e1 : cur.toList.take (k * 2) = gcs flCs (l.take k) := by rw [gcs_take, ← htake, List.take_take, Nat.min_eq_left (by omega)]
    rw [e1, List.append_assoc, gcs_append, show x :: l.drop (k + 1) = [x] ++ l.drop (k + 1) from rfl, gcs_append, gcs_one, List.take_append, show l.length * 2 - (gcs flCs (l.take k)).length = 2 + (l.length - (k + 1)) * 2 by rw [gcs_len, List.length_take]; omega, List.take_of_length_le (by rw [gcs_len, List.length_take]; omega)]
    congr 1
    rw [List.take_append, hx2, List.take_of_length_le (by rw [hx2]; omega)]
    congr 1
    rw [gcs_drop, ← htake, List.drop_take, show (k + 1) * 2 = k * 2 + 2 by omega, show l.length * 2 - (k * 2 + 2) = (l.length - (k + 1)) * 2 by omega, Nat.add_sub_cancel_left]
theorem set_grown {base g c : Nat} {l : List Fl} {k : Nat} {W : World} (x : Fl) : W.grownBy ((W.setCell ⟨g, k * 2, none⟩ (.string ⟨x.path.toArray⟩)).setCell ⟨g, k * 2 + 1, none⟩ (.string ⟨x.data.toArray⟩)) (some g) := grownBy_setCells g (flCs x) (k * 2) W
end Go.Proofs.YtceacjnhkcikgaaGreatDoor
