/- pool.insert. -/
import Derived.Test.YtlfodnehgedpmaaPoCc
namespace Go.Proofs.Ytlfodnehgedpmaa
open Go.RowKit Go.Shelf
set_option linter.unusedVariables false

theorem size_itm (W : World) : (sizeOf (Try.prog.elem 25)).run Try.prog W = .ok 3 W := by
  obtain ⟨i, h1, _, h3, _⟩ := info_parts infoItm
  rw [show Try.prog.elem 25 = 52 by kernel_rfl]
  simp [sizeOf, typeInfo, h1, h3]
theorem Its.add0 {B : Nat} {W : World} {a : Option Addr} {ds : List Itm} (h : Its B W a ds) : Its B W (a.map (·.add (0 * 3))) ds := by
  intro i hi
  obtain ⟨b, off, rfl, hlt, h0⟩ := h i hi
  exact ⟨b, off, by simp [Go.WideShapes.add_plain], hlt, h0⟩
theorem Its.drop {B : Nat} {W : World} {a : Option Addr} {ds : List Itm} (h : Its B W a ds) (k : Nat) : Its B W (a.map (·.add (k * 3))) (ds.drop k) := by
  intro i hi
  have hi' : k + i < ds.length := by simp at hi; omega
  obtain ⟨b, off, rfl, hlt, h0, h1, h2⟩ := h (k + i) hi'
  refine ⟨b, off + k * 3, by simp [Go.WideShapes.add_plain], hlt, ?_⟩
  rw [List.getElem_drop]
  rw [show off + k * 3 + i * 3 = off + (k + i) * 3 by omega]
  exact ⟨h0, h1, h2⟩
theorem islice_hi (a : Option Addr) (n c f : Nat) (h : f ≤ c) : ∃ (A1 : Option Addr) (c1 : Nat), (∀ B W ds, Its B W a ds → Its B W A1 (ds.take f)) ∧ ∀ W, (Instr.slice 25 (.slice a n c) none (some (.int .i64 f)) none).run Try.prog W = .ok (.slice A1 f c1) W := by
  refine ⟨if c = 0 then a else a.map (·.add (0 * 3)), c, fun B W ps hp => ?_, fun W => ?_⟩
  · split
    · exact hp.take f
    · exact (hp.take f).add0
  · rw [run_slice_h (P := Try.prog) W 25 a n c (by kernel_rfl) .i64 f (by omega) (by omega), size_itm]
    simp [sliced, Result.andThen]
theorem islice_lo (a : Option Addr) (n c f m : Nat) (h : f ≤ n) (hc : n ≤ c) (hm : m = n - f) : ∃ (A1 : Option Addr) (c1 : Nat), (∀ B W (ds : List Itm), ds.length = n → Its B W a ds → Its B W A1 (ds.drop f)) ∧ ∀ W, (Instr.slice 25 (.slice a n c) (some (.int .i64 f)) none none).run Try.prog W = .ok (.slice A1 m c1) W := by
  refine ⟨if c = f then a else a.map (·.add (f * 3)), c - f, fun B W ps hl hp => ?_, fun W => ?_⟩
  · split
    · rw [List.drop_of_length_le (by omega)]; exact Its.nil _ _ _
    · exact hp.drop f
  · rw [run_slice_l (P := Try.prog) W 25 a n c (by kernel_rfl) .i64 f (by omega) (by omega), size_itm]
    subst hm
    simp [sliced, Result.andThen]

/-- Where a digest is, or would be. -/
def posI (xs : List Itm) (d : Int × Int) : Nat := (xs.takeWhile fun y => decide (cmpD y.d d < 0)).length
theorem At.eq : ∀ {xs : List Itm} {d : Int × Int} {k : Nat}, At xs d k → k = posI xs d
  | [], d, k, h => by have := h.le; simp at this; subst this; rfl
  | x :: xs, d, k, h => by
    unfold posI
    cases k with
    | zero =>
      have := h.hi 0 (by simp) (by omega)
      simp only [List.getElem_cons_zero] at this
      rw [List.takeWhile_cons_of_neg (by simp; omega)]
      rfl
    | succ k =>
      have h0 := h.lo 0 (by simp) (by omega)
      simp only [List.getElem_cons_zero] at h0
      rw [List.takeWhile_cons_of_pos (by simpa using h0), List.length_cons]
      have : At xs d k := ⟨by have := h.le; simp at this; omega, fun j hj hlt => by
        have := h.lo (j + 1) (by simp; omega) (by omega)
        simpa using this, fun j hj hle => by
        have := h.hi (j + 1) (by simp; omega) (by omega)
        simpa using this⟩
      rw [this.eq]
      rfl
/-- A pool with an item. -/
def insS (xs : List Itm) (x : Itm) : List Itm × Int :=
  match xs[posI xs x.d]? with
  | some y => if y.d = x.d then (if y.data = x.data then (xs, 0) else ([], 16)) else (xs.take (posI xs x.d) ++ (x :: xs.drop (posI xs x.d)), 0)
  | none => (xs.take (posI xs x.d) ++ (x :: xs.drop (posI xs x.d)), 0)
theorem insS_miss {xs : List Itm} {x : Itm} {k : Nat} (h : At xs x.d k) (hh : hitB xs x.d k = false) : insS xs x = (xs.take k ++ (x :: xs.drop k), 0) := by
  unfold insS
  rw [← h.eq]
  unfold hitB at hh
  split
  · rename_i y hy
    rw [hy] at hh
    simp only at hh
    rw [if_neg (by simpa using hh)]
  · rfl
theorem insS_hit {xs : List Itm} {x : Itm} {k : Nat} (h : At xs x.d k) (hh : hitB xs x.d k = true) : ∃ hk : k < xs.length, xs[k].d = x.d ∧ insS xs x = if xs[k].data = x.data then (xs, 0) else ([], 16) := by
  unfold hitB at hh
  cases hy : xs[k]? with
  | none => rw [hy] at hh; cases hh
  | some y =>
    rw [hy] at hh
    simp only [decide_eq_true_eq] at hh
    obtain ⟨hk, rfl⟩ := List.getElem?_eq_some_iff.1 hy
    refine ⟨hk, hh, ?_⟩
    unfold insS
    rw [← h.eq, hy]
    simp only
    rw [if_pos hh]
def GotPE (w : World) (pa : Option Addr) (ps : List Itm) (r : List Itm × Int) (e : Ending) (w' : World) : Prop := ∃ a c, e = .returned (.tuple #[.slice a r.1.length c, .int .i64 r.2]) ∧ PoolAt w pa ps r.1 a c w'

set_option maxRecDepth 100000 in
set_option maxHeartbeats 2000000 in
theorem insert_any (a : Option Addr) (xs : List Itm) (c : Nat) (x : Itm) (w : World) (hx : Its w.heap.size w a xs) (ha : Asc xs) (hc : xs.length ≤ c) (hn : (xs.length : Int) ≤ 100000000) :
    Calls Try.prog 13 #[.slice a xs.length c, x.val] w (GotPE w a xs (insS xs x)) := by
  obtain ⟨⟨x1, x2⟩, dt⟩ := x
  simp only [Itm.val]
  have HF := Lib.hid (fun W (hW : Below w.heap.size w W) => find_any a xs c x1 x2 W (hx.ahead hW) ha (by omega))
  obtain ⟨n, hnn⟩ : ∃ n, n = xs.length := ⟨_, rfl⟩
  have HN := Lib.hid hnn
  rw [← hnn] at HF hn hc ⊢
  have HX := Lib.hid hx
  clear hnn hx ha
  go_enter Try.func13, Try.ntmps13
  go_wp2_with fail
  have hx := HF.out (w.alloc (.cells #[.int .u64 x1, .int .u64 x2, .string ⟨dt.toArray⟩] 52)) ((Below.refl _ w).alloc (Nat.le_refl _) _)
  (with_reducible refine hx.mono ?_)
  clear hx HF
  rintro e u ⟨k, rfl, hat, hb⟩
  have HAT := Lib.hid hat
  have hkn : k ≤ n := by have := hat.le; have := HN.out; omega
  have HBX : Hid (BK w.heap.size #[.int .u64 x1, .int .u64 x2, .string ⟨dt.toArray⟩] 52 u) := Lib.hid ((BK.new _ _ _).below hb)
  have HB : Hid (Below w.heap.size w u) := Lib.hid (((Below.refl _ w).alloc (Nat.le_refl _) _).trans (hb.mono (by simp)))
  have hus : w.heap.size + 1 ≤ u.heap.size := by have := hb.size; simpa using this
  have b0 : u.cell? ⟨w.heap.size, 0, none⟩ = some (.int .u64 x1) := by rw [HBX.out.cell]; rfl
  have b1 : u.cell? ⟨w.heap.size, 1, none⟩ = some (.int .u64 x2) := by rw [HBX.out.cell]; rfl
  have b2 : u.cell? ⟨w.heap.size, 2, none⟩ = some (.string ⟨dt.toArray⟩) := by rw [HBX.out.cell]; rfl
  clear hat hb
  cases hh : hitB xs (x1, x2) k with
  | false =>
    have HR := Lib.hid (insS_miss (x := ⟨(x1, x2), dt⟩) HAT.out hh)
    clear hh
    obtain ⟨A1, c1, hA1, hs1⟩ := islice_hi a n c k (by omega)
    obtain ⟨m, hm⟩ : ∃ m, m = n - k := ⟨_, rfl⟩
    obtain ⟨A2, c2, hA2, hs2⟩ := islice_lo a n c k m hkn hc hm
    have HA1 := Lib.hid hA1
    have HA2 := Lib.hid hA2
    have HM := Lib.hid hm
    clear hA1 hA2 hm
    have HCC : Hid (∀ (W : World) (bb cc nb : Nat), Below u.heap.size u W → bb < W.heap.size → nb < W.heap.size → W.cell? ⟨nb, 0, none⟩ = some (.int .u64 x1) → W.cell? ⟨nb, 1, none⟩ = some (.int .u64 x2) → W.cell? ⟨nb, 2, none⟩ = some (.string ⟨dt.toArray⟩) →
        W.cell? ⟨bb, 0, none⟩ = some (.slice A1 k c1) → W.cell? ⟨bb, 1, none⟩ = some (.slice (some ⟨nb, 0, none⟩) 1 1) → W.cell? ⟨bb, 2, none⟩ = some (.slice A2 m c2) →
        Calls Try.prog 27 #[.slice (some ⟨bb, 0, none⟩) 3 cc] W (GotP W none (xs.take k ++ (⟨(x1, x2), dt⟩ :: xs.drop k)))) := Lib.hid (by
      intro W bb cc nb hW hbb hnb n0 n1 n2 p0 p1 p2
      have hXW : Its W.heap.size W a xs := (HX.out.ahead HB.out).ahead hW
      have hl1 : (xs.take k).length = k := by rw [List.length_take]; have := HN.out; omega
      have hl2 : (xs.drop k).length = m := by rw [List.length_drop]; have := HN.out; have := HM.out; omega
      have := concatI_any bb cc [⟨A1, xs.take k, c1⟩, ⟨some ⟨nb, 0, none⟩, [⟨(x1, x2), dt⟩], 1⟩, ⟨A2, xs.drop k, c2⟩] W ⟨hbb, fun i hi => ?_, fun i hi => ?_⟩ (by simp [allI]; omega) (by
        simp only [allI, List.flatMap_cons, List.flatMap_nil, List.append_nil, List.length_append, List.length_cons, List.length_nil, hl1, hl2]
        have := HM.out
        omega) (by simp)
      · simpa [allI] using this
      · rcases (by simp at hi; omega : i = 0 ∨ i = 1 ∨ i = 2) with rfl | rfl | rfl
        · simp only [List.getElem_cons_zero, hl1]; exact p0
        · exact p1
        · simp only [List.getElem_cons_succ, List.getElem_cons_zero, hl2]; exact p2
      · rcases (by simp at hi; omega : i = 0 ∨ i = 1 ∨ i = 2) with rfl | rfl | rfl
        · exact HA1.out _ _ _ hXW
        · intro j hj
          simp only [List.getElem_cons_succ, List.getElem_cons_zero, List.length_cons, List.length_nil] at hj ⊢
          obtain rfl : j = 0 := by omega
          refine ⟨nb, 0, rfl, hnb, ?_, ?_, ?_⟩ <;> simp
          · exact n0
          · exact n1
          · exact n2
        · exact HA2.out _ _ _ HN.out.symm hXW)
    have hk0 : (0 : Int) ≤ (k : Int) := by omega
    have hk1 : (k : Int) ≤ (n : Int) := by omega
    have hk2 : (k : Int) ≤ (c : Int) := by omega
    obtain ⟨W0, hW0⟩ : ∃ W0, W0 = ((u.alloc (.cells #[.int .u64 x1, .int .u64 x2, .string ⟨dt.toArray⟩] 52)).alloc (.cells #[.slice A1 k c1, .slice (some ⟨u.heap.size, 0, none⟩) 1 1, .slice A2 m c2] 25)).drew := ⟨_, rfl⟩
    have HBW : Hid (Below u.heap.size u W0) := Lib.hid (by rw [hW0]; exact (((Below.refl _ u).alloc (Nat.le_refl _) _).alloc (by simp) _).drew)
    have HN1 : Hid (BK u.heap.size #[.int .u64 x1, .int .u64 x2, .string ⟨dt.toArray⟩] 52 W0) := Lib.hid (by rw [hW0]; exact (BK.new u _ _).alloc _)
    have HN2 : Hid (BK (u.heap.size + 1) #[.slice A1 k c1, .slice (some ⟨u.heap.size, 0, none⟩) 1 1, .slice A2 m c2] 25 W0) := Lib.hid (by rw [hW0]; exact BK.new2 u _ _ _)
    have HC2 := Lib.hid (HCC.out W0 (u.heap.size + 1) 3 u.heap.size HBW.out HN2.out.lt HN1.out.lt (by rw [HN1.out.cell]; rfl) (by rw [HN1.out.cell]; rfl) (by rw [HN1.out.cell]; rfl) (by rw [HN2.out.cell]; rfl) (by rw [HN2.out.cell]; rfl) (by rw [HN2.out.cell]; rfl))
    have HKP : Hid (∀ w4, Below W0.heap.size W0 w4 → w4.cell? ⟨w.heap.size, 0, none⟩ = some (.int .u64 x1) ∧ w4.cell? ⟨w.heap.size, 1, none⟩ = some (.int .u64 x2) ∧ w4.cell? ⟨w.heap.size, 2, none⟩ = some (.string ⟨dt.toArray⟩)) := Lib.hid (fun w4 h4 => by
      have h5 := (HBX.out.below HBW.out).below h4
      exact ⟨by rw [h5.cell]; rfl, by rw [h5.cell]; rfl, by rw [h5.cell]; rfl⟩)
    have HPB : Hid (∀ (a' : Option Addr) (c' : Nat) w4, PoolAt W0 none [] (xs.take k ++ (⟨(x1, x2), dt⟩ :: xs.drop k)) a' c' w4 → PoolAt w a xs (xs.take k ++ (⟨(x1, x2), dt⟩ :: xs.drop k)) a' c' w4) := Lib.hid (fun a' c' w4 h => by
      have hs := HBW.out.size
      refine ⟨h.1, h.2.1, .inr ?_, HB.out.trans ((HBW.out.trans (h.2.2.2.mono hs)).mono (by omega))⟩
      rcases h.2.2.1 with h1 | h1
      · rw [h1.1]; intro ad had; cases had
      · intro ad had; have := h1 ad had; omega)
    rw [hW0] at HC2 HKP
    generalize xs.take k ++ (⟨(x1, x2), dt⟩ :: xs.drop k) = R at HC2 HPB HR
    have HW0 := Lib.hid hW0
    clear HCC hW0 HN1 HN2 HBW HA1 HA2
    go_wp2_with fail
    go_region_held3 (fun w' => w'.cell? ⟨w.heap.size, 0, none⟩ = some (.int .u64 x1) ∧ w'.cell? ⟨w.heap.size, 1, none⟩ = some (.int .u64 x2) ∧ w'.cell? ⟨w.heap.size, 2, none⟩ = some (.string ⟨dt.toArray⟩)) (go_keep)
      (((with_reducible refine HC2.out.mono ?_); rintro e w4 ⟨ra, rc, rfl, hpo⟩; obtain ⟨k0, k1, k2⟩ := HKP.out _ hpo.2.2.2; have HPO := Lib.hid hpo; clear hpo))
    all_goals
      have HPO2 := Lib.hid (HPB.out ra rc w4 (by rw [HW0.out]; exact HPO.out))
      clear HPO HPB HKP HC2
      go_wp2_with fail
      go_ret2
      rw [HR.out]
      exact ⟨ra, rc, rfl, HPO2.out⟩
  | true =>
    obtain ⟨hk, hxd, hR⟩ := insS_hit (x := ⟨(x1, x2), dt⟩) HAT.out hh
    obtain ⟨p0, o0, rfl, hp0, q0, q1, q2⟩ := (HX.out.ahead HB.out) k hk
    clear hh hxd
    have hkn' : (k : Int) < (n : Int) := by have := HN.out; omega
    generalize xs[k] = y at hR q0 q1 q2
    obtain ⟨⟨y1, y2⟩, yd⟩ := y
    simp only at hR q0 q1 q2
    cases he : (yd == dt) with
    | true =>
      have HR : Hid (insS xs ⟨(x1, x2), dt⟩ = (xs, 0)) := Lib.hid (by rw [hR, if_pos (by simpa using he)])
      clear hR
      go_wp2_with fail
      go_quiet (fail)
      go_wp2_with fail
      go_ret2
      rw [HR.out]
      refine ⟨_, c, by rw [← HN.out]; rfl, HX.out.ahead ?_, by rw [← HN.out]; exact hc, .inl ⟨rfl, rfl⟩, ?_⟩
      · exact below_drewN HB.out _
      · exact below_drewN HB.out _
    | false =>
      have HR : Hid (insS xs ⟨(x1, x2), dt⟩ = ([], 16)) := Lib.hid (by rw [hR, if_neg (by simpa using he)])
      clear hR
      go_wp2_with fail
      go_quiet (fail)
      go_wp2_with fail
      go_ret2
      rw [HR.out]
      exact ⟨none, 0, rfl, Its.nil _ _ _, Nat.le_refl _, .inr (fun ad h => by cases h), below_drewN HB.out _⟩

end Go.Proofs.Ytlfodnehgedpmaa
