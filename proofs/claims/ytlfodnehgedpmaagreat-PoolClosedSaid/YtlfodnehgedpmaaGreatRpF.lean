/- The reference's insert, With. -/
import Derived.Test.YtlfodnehgedpmaaGreatRpE
namespace Go.Proofs.YtlfodnehgedpmaaGreat
open Go.RowKit Go.Shelf
set_option linter.unusedVariables false

theorem takeWhile_len {α : Type} {p : α → Bool} : ∀ {l : List α} {k : Nat}, k ≤ l.length → (∀ j (h : j < l.length), j < k → p l[j] = true) → (∀ h : k < l.length, p l[k] = false) → (l.takeWhile p).length = k
  | [], k, hk, _, _ => by simp at hk; subst hk; rfl
  | x :: l, 0, _, _, hi => by
    have := hi (by simp)
    simp only [List.getElem_cons_zero] at this
    rw [List.takeWhile_cons_of_neg (by simp [this])]; rfl
  | x :: l, k + 1, hk, lo, hi => by
    have h0 := lo 0 (by simp) (by omega)
    simp only [List.getElem_cons_zero] at h0
    rw [List.takeWhile_cons_of_pos h0, List.length_cons, takeWhile_len (k := k) (by simpa using hk) (fun j hj hlt => by
      have := lo (j + 1) (by simp; omega) (by omega)
      simpa using this) (fun h => by
      have := hi (by simp; omega)
      simpa using this)]
theorem at_of {xs : List Itm} (ha : Asc xs) {d : Int × Int} {k : Nat} (hk : k ≤ xs.length) (lo : ∀ j (h : j < xs.length), j < k → cmpD xs[j].d d < 0) (hi : ∀ h : k < xs.length, 0 ≤ cmpD xs[k].d d) : At xs d k := by
  refine ⟨hk, lo, fun j hj hle => ?_⟩
  have hkl : k < xs.length := by omega
  rcases Nat.lt_or_ge k j with h1 | h1
  · exact cmpD_trans2 (by
      have := ha k j hkl hj h1
      have h2 := hi hkl
      have g1 := cmpD_range xs[k].d xs[j].d
      have g2 := cmpD_range xs[k].d d
      exact this) (hi hkl)
  · obtain rfl : j = k := by omega
    exact hi hj

set_option maxRecDepth 100000 in
set_option maxHeartbeats 8000000 in
theorem rinsert_any (a : Option Addr) (xs : List Itm) (c : Nat) (x : Itm) (w : World) (hx : Its w.heap.size w a xs) (ha : Asc xs) (hc : xs.length ≤ c) (hn : (xs.length : Int) ≤ 100000) :
    Calls Tryz.prog 58 #[.slice a xs.length c, x.val] w (GotPE w a xs (insS xs x)) := by
  obtain ⟨⟨x1, x2⟩, dt⟩ := x
  simp only [Itm.val]
  have HF := Lib.hid (fun W (hW : Below w.heap.size w W) => rfind_any a xs c x1 x2 W (hx.ahead hW) (by omega))
  obtain ⟨n, hnn⟩ : ∃ n, n = xs.length := ⟨_, rfl⟩
  have HN := Lib.hid hnn
  rw [← hnn] at HF hn hc ⊢
  have HXW := Lib.hid hx
  have HA := Lib.hid ha
  clear hnn hx ha
  obtain ⟨w0, hw0⟩ : ∃ w0, w0 = w.alloc (.cells #[.int .u64 x1, .int .u64 x2, .string ⟨dt.toArray⟩] 59) := ⟨_, rfl⟩
  have HK0 : Hid (BK w.heap.size #[.int .u64 x1, .int .u64 x2, .string ⟨dt.toArray⟩] 59 w0) := Lib.hid (by rw [hw0]; exact BK.new _ _ _)
  have HB0 : Hid (Below w.heap.size w w0) := Lib.hid (by rw [hw0]; exact (Below.refl _ w).alloc (Nat.le_refl _) _)
  have HF0 := Lib.hid (HF.out w0 HB0.out)
  rw [hw0] at HF0
  have HW0 := Lib.hid hw0
  clear hw0 HF
  go_enter Tryz.func58, Tryz.ntmps58
  go_wp2_with fail
  (with_reducible refine (HF0.out).mono ?_)
  rintro e u ⟨m0, rfl, hf, hb⟩
  rw [← HW0.out] at hb
  have HB1 := Lib.hid (HB0.out.trans (hb.mono HB0.out.size))
  have HK1 := Lib.hid (HK0.out.below hb)
  have hus := HK1.out.lt
  have HH := Lib.hid (hf.asc HA.out)
  clear hf hb HF0 HW0 HB0 HK0
  rcases HH.out with ⟨k, hk, hm, hat, hh, hkd⟩ | ⟨hm, hh⟩
  · subst hm
    obtain ⟨hk', hdx, hR⟩ := insS_hit (x := ⟨(x1, x2), dt⟩) hat hh
    obtain ⟨p0, o0, rfl, hp0, q0, q1, q2⟩ := (HXW.out.ahead HB1.out) k hk
    have hkn : (k : Int) < (n : Int) := by have := HN.out; omega
    clear hat hh hkd HH
    clear hdx
    generalize xs[k] = it at hR q0 q1 q2
    obtain ⟨⟨y1, y2⟩, yd⟩ := it
    simp only at hR q0 q1 q2
    have e0 : u.cell? ⟨w.heap.size, 0, none⟩ = some (.int .u64 x1) := by rw [HK1.out.cell]; rfl
    have e1 : u.cell? ⟨w.heap.size, 1, none⟩ = some (.int .u64 x2) := by rw [HK1.out.cell]; rfl
    have e2 : u.cell? ⟨w.heap.size, 2, none⟩ = some (.string ⟨dt.toArray⟩) := by rw [HK1.out.cell]; rfl
    cases he : (yd == dt) with
    | true =>
      have HR : Hid (insS xs ⟨(x1, x2), dt⟩ = (xs, 0)) := Lib.hid (by rw [hR, if_pos (by simpa using he)])
      clear hR
      go_wp2_with fail
      go_quiet (fail)
      go_wp2_with fail
      go_ret2
      rw [HR.out]
      refine ⟨_, c, by rw [← HN.out]; rfl, HXW.out.ahead ?_, by rw [← HN.out]; exact hc, .inl ⟨rfl, rfl⟩, ?_⟩
      · exact below_drewN HB1.out _
      · exact below_drewN HB1.out _
    | false =>
      have HR : Hid (insS xs ⟨(x1, x2), dt⟩ = ([], 16)) := Lib.hid (by rw [hR, if_neg (by simpa using he)])
      clear hR
      go_wp2_with fail
      go_quiet (fail)
      go_wp2_with fail
      go_ret2
      rw [HR.out]
      exact ⟨none, 0, rfl, Its.nil _ _ _, Nat.le_refl _, .inr (fun ad h => by cases h), below_drewN HB1.out _⟩
  · subst hm
    have HHIT := Lib.hid hh
    clear hh HH
    go_wp2_with fail
    go_loopw [7] (fun iv wr => ∃ k : Nat, k ≤ n ∧ iv = .int .i64 k ∧ Hid (Below w.heap.size w wr) ∧ Hid (BK w.heap.size #[.int .u64 x1, .int .u64 x2, .string ⟨dt.toArray⟩] 59 wr) ∧ Hid (∀ j (h : j < xs.length), j < k → cmpD xs[j].d (x1, x2) < 0)) (fun iv _ => n - (intOf iv).toNat)
    case atStart => exact ⟨0, by omega, rfl, HB1, HK1, Lib.hid (fun j h hj => by omega)⟩
    case round =>
      clear HB1 HK1 hus
      obtain ⟨k, hk, rfl, HB, HK, HLO⟩ := hrel
      have hwr := HK.out.lt
      by_cases hlt : k < n
      · have h1 : k < xs.length := by rw [← HN.out]; exact hlt
        obtain ⟨b0, o0, rfl, hb0, q0, q1, q2⟩ := (HXW.out.ahead HB.out) k h1
        have HAT := Lib.hid (fun (h : 0 ≤ cmpD xs[k].d (x1, x2)) => at_of HA.out (by omega) HLO.out (fun _ => h))
        have HLO2 : Hid (cmpD xs[k].d (x1, x2) < 0 → ∀ j (h : j < xs.length), j < k + 1 → cmpD xs[j].d (x1, x2) < 0) := Lib.hid (fun hc j h hj => by
          rcases Nat.lt_or_ge j k with h2 | h2
          · exact HLO.out j h h2
          · obtain rfl : j = k := by omega
            exact hc)
        generalize xs[k] = it at q0 q1 q2 HAT HLO2
        obtain ⟨⟨y1, y2⟩, yd⟩ := it
        simp only at q0 q1 q2 HAT HLO2
        have HCM := Lib.hid (fun W => refCmp_any y1 y2 x1 x2 W)
        generalize cmpD (y1, y2) (x1, x2) = cv at HCM HAT HLO2
        have HCA := Lib.hid (fun d os => Calls.regrown_of (w := wr) (d := d) (os := os) (HCM.out _))
        have e0 : wr.cell? ⟨w.heap.size, 0, none⟩ = some (.int .u64 x1) := by rw [HK.out.cell]; rfl
        have e1 : wr.cell? ⟨w.heap.size, 1, none⟩ = some (.int .u64 x2) := by rw [HK.out.cell]; rfl
        have e2 : wr.cell? ⟨w.heap.size, 2, none⟩ = some (.string ⟨dt.toArray⟩) := by rw [HK.out.cell]; rfl
        have f0 := cell_regrown q0
        have f1 := cell_regrown q1
        have g0 := cell_regrown e0
        have g1 := cell_regrown e1
        have dk1 : decide ((k : Int) < (n : Int)) = true := by simp; omega
        have dk2 : decide (k < n) = true := by simp; omega
        have hkn : (k : Int) < (n : Int) := by omega
        clear HCM
        by_cases hc0 : cv < 0
        · have dc : decide (cv < 0) = true := by simpa using hc0
          have HLO3 := Lib.hid (HLO2.out hc0)
          clear HLO HLO2 HAT
          go_wp2_with fail
          refine wp_region_quiet_below (by kernel_rfl) (by kernel_rfl) ?_
          repeat (any_goals (first | go_big_quiet_step (first | (with_reducible exact HCA.out _ _)) | quiet_step (first | (with_reducible exact HCA.out _ _))))
          refine wpQuiet_nil ?_
          intro w2 hw2
          have hb2 := below_rg hw2
          have HB2 := Lib.hid (HB.out.trans (hb2.mono HB.out.size))
          have HK2 := Lib.hid (HK.out.below hb2)
          clear hw2 hb2 HCA f0 f1 g0 g1
          go_wp2_with fail
          go_roundw
          case rel => exact ⟨k + 1, by omega, by go_num, HB2, HK2, HLO3⟩
          case measure => simp [intOf] <;> omega
        · have dc : decide (cv < 0) = false := by simpa using hc0
          have HAT2 := Lib.hid (HAT.out (by omega))
          have HR := Lib.hid (insS_miss (x := ⟨(x1, x2), dt⟩) HAT2.out (HHIT.out k))
          clear HLO HLO2 HAT
          go_wp2_with fail
          refine wp_region_quiet_below (by kernel_rfl) (by kernel_rfl) ?_
          repeat (any_goals (first | go_big_quiet_step (first | (with_reducible exact HCA.out _ _)) | quiet_step (first | (with_reducible exact HCA.out _ _))))
          refine wpQuiet_nil ?_
          intro w2 hw2
          have hb2 := below_rg hw2
          have HB2 := Lib.hid (HB.out.trans (hb2.mono HB.out.size))
          have HK2 := Lib.hid (HK.out.below hb2)
          clear hw2 hb2 HCA f0 f1 g0 g1 q0 q1 q2 e0 e1 e2
          obtain ⟨a, haa⟩ : ∃ a, a = some (⟨b0, o0, none⟩ : Addr) := ⟨_, rfl⟩
          rw [← haa] at HXW ⊢
          clear haa
          have HX := HXW
          obtain ⟨A1, c1, hA1, hs1⟩ := islice_hi a n c k (by omega)
          obtain ⟨m, hm⟩ : ∃ m, m = n - k := ⟨_, rfl⟩
          obtain ⟨A2, c2, hA2, hs2⟩ := islice_lo a n c k m hk hc hm
          have hits := (HX.out).ahead HB2.out
          have hl1 : (xs.take k).length = k := by rw [List.length_take]; have := HN.out; omega
          have hl2 : (xs.drop k).length = m := by rw [List.length_drop]; have := HN.out; omega
          have hbd : (((xs.take k).length + (xs.drop k).length : Nat) : Int) ≤ 900000 := by rw [hl1, hl2]; omega
          obtain ⟨zv1, z1, zv2, z2, za, zc, z3, H11, H12, H13, hb1, HF1⟩ := insI1 (c1 := c1) (c2 := c2) (hA1 _ _ _ hits) (hA2 _ _ _ HN.out.symm hits) x1 x2 dt hbd hl1 hl2
          obtain ⟨yv1, y1, yv2, y2, ya, yc, y3, H21, H22, H23, hb2, HF2⟩ := insI2 (c1 := c1) (c2 := c2) (hA1 _ _ _ hits) (hA2 _ _ _ HN.out.symm hits) x1 x2 dt hbd hl1 hl2
          obtain ⟨tv1, t1, tv2, t2, ta, tc, t3, H31, H32, H33, hb3, HF3⟩ := insI3 (c1 := c1) (c2 := c2) (hA1 _ _ _ hits) (hA2 _ _ _ HN.out.symm hits) x1 x2 dt hbd hl1 hl2
          have HKZ := Lib.hid (HK2.out.below hb1)
          have p0 : z1.cell? ⟨w.heap.size, 0, none⟩ = some (.int .u64 x1) := by rw [HKZ.out.cell]; rfl
          have p1 : z1.cell? ⟨w.heap.size, 1, none⟩ = some (.int .u64 x2) := by rw [HKZ.out.cell]; rfl
          have p2 : z1.cell? ⟨w.heap.size, 2, none⟩ = some (.string ⟨dt.toArray⟩) := by rw [HKZ.out.cell]; rfl
          have e0 : w2.cell? ⟨w.heap.size, 0, none⟩ = some (.int .u64 x1) := by rw [HK2.out.cell]; rfl
          have e1 : w2.cell? ⟨w.heap.size, 1, none⟩ = some (.int .u64 x2) := by rw [HK2.out.cell]; rfl
          have e2 : w2.cell? ⟨w.heap.size, 2, none⟩ = some (.string ⟨dt.toArray⟩) := by rw [HK2.out.cell]; rfl
          have e0a := fun o => cell_a1 e0 o
          have e1a := fun o => cell_a1 e1 o
          have e2a := fun o => cell_a1 e2 o
          obtain ⟨len, hlen⟩ : ∃ len, len = (xs.take k ++ ((⟨(x1, x2), dt⟩ : Itm) :: xs.drop k)).length := ⟨_, rfl⟩
          rw [← hlen] at H13 H23 H33
          have HLEN := Lib.hid hlen
          have hk1 : (k : Int) ≤ (c : Int) := by omega
          have hk2 : (k : Int) ≤ (n : Int) := by omega
          clear hlen hl1 hl2 hbd hits hA1 hA2 hb1 hb2 hb3 hm
          go_wp2_with fail
          go_region_law
            (first
            | ((with_reducible refine step_at ((w2.alloc (.cells #[] 59)).drew) ?_); refine step_append_run (by rfl) (.tmp 41) (.tmp 44) _ _ (by rfl) _ _ (by rfl) (by rfl) _ _ H11.out ?_)
            | ((with_reducible refine step_at (((w2.alloc (.cells #[] 59)).alloc (.cells #[.int .u64 x1, .int .u64 x2, .string ⟨dt.toArray⟩] 59)).drew) ?_); refine step_append_run (by rfl) (.tmp 41) (.tmp 44) _ _ (by rfl) _ _ (by rfl) (by rfl) _ _ H21.out ?_)
            | ((with_reducible refine step_at (((w2.alloc (.cells #[.int .u64 x1, .int .u64 x2, .string ⟨dt.toArray⟩] 59)).alloc (.cells #[] 59)).drew) ?_); refine step_append_run (by rfl) (.tmp 41) (.tmp 44) _ _ (by rfl) _ _ (by rfl) (by rfl) _ _ H31.out ?_)
            | ((with_reducible refine step_at (z1.alloc (.cells #[.int .u64 x1, .int .u64 x2, .string ⟨dt.toArray⟩] 59)) ?_); refine step_append_run (by rfl) (.tmp 45) (.tmp 47) _ _ (by rfl) _ _ (by rfl) (by rfl) _ _ H12.out ?_)
            | ((with_reducible refine step_at y1 ?_); refine step_append_run (by rfl) (.tmp 45) (.tmp 47) _ _ (by rfl) _ _ (by rfl) (by rfl) _ _ H22.out ?_)
            | ((with_reducible refine step_at t1 ?_); refine step_append_run (by rfl) (.tmp 45) (.tmp 47) _ _ (by rfl) _ _ (by rfl) (by rfl) _ _ H32.out ?_)
            | fail)
          all_goals
            go_wp2_with (at_builtin; first | (refine Lib.wpList_append_run _ rfl _ _ _ _ rfl _ _ rfl rfl _ _ H13.out ?_) | (refine Lib.wpList_append_run _ rfl _ _ _ _ rfl _ _ rfl rfl _ _ H23.out ?_) | (refine Lib.wpList_append_run _ rfl _ _ _ _ rfl _ _ rfl rfl _ _ H33.out ?_))
            go_ret2
            rw [HR.out]
            first
            | exact ⟨za, zc, by first | (rw [HLEN.out]; done) | (rw [HLEN.out]; rfl), ownsRow_its HF1.out.1, HF1.out.2.1, .inr (fun ad h => by have := own_new HF1.out.1 ad h; have := HB2.out.size; omega), HB2.out.trans (HF1.out.2.2.mono HB2.out.size)⟩
            | exact ⟨ya, yc, by first | (rw [HLEN.out]; done) | (rw [HLEN.out]; rfl), ownsRow_its HF2.out.1, HF2.out.2.1, .inr (fun ad h => by have := own_new HF2.out.1 ad h; have := HB2.out.size; omega), HB2.out.trans (HF2.out.2.2.mono HB2.out.size)⟩
            | exact ⟨ta, tc, by first | (rw [HLEN.out]; done) | (rw [HLEN.out]; rfl), ownsRow_its HF3.out.1, HF3.out.2.1, .inr (fun ad h => by have := own_new HF3.out.1 ad h; have := HB2.out.size; omega), HB2.out.trans (HF3.out.2.2.mono HB2.out.size)⟩
      · obtain rfl : k = n := by omega
        have HAT2 := Lib.hid (at_of HA.out (by rw [← HN.out]; exact hk) HLO.out (fun h => by have := HN.out; omega))
        have HR := Lib.hid (insS_miss (x := ⟨(x1, x2), dt⟩) HAT2.out (HHIT.out k))
        have dk1 : decide ((k : Int) < (k : Int)) = false := by simp
        clear HLO
        go_wp2_with fail
        refine wp_region_quiet_below (by kernel_rfl) (by kernel_rfl) ?_
        repeat (any_goals (first | go_big_quiet_step (fail) | quiet_step (fail)))
        refine wpQuiet_nil ?_
        intro w2 hw2
        have hb2 := below_rg hw2
        have HB2 := Lib.hid (HB.out.trans (hb2.mono HB.out.size))
        have HK2 := Lib.hid (HK.out.below hb2)
        clear hw2 hb2
        have HX := HXW
        obtain ⟨A1, c1, hA1, hs1⟩ := islice_hi a k c k (by omega)
        obtain ⟨m, hm⟩ : ∃ m, m = k - k := ⟨_, rfl⟩
        obtain ⟨A2, c2, hA2, hs2⟩ := islice_lo a k c k m hk hc hm
        have hits := (HX.out).ahead HB2.out
        have hl1 : (xs.take k).length = k := by rw [List.length_take]; have := HN.out; omega
        have hl2 : (xs.drop k).length = m := by rw [List.length_drop]; have := HN.out; omega
        have hbd : (((xs.take k).length + (xs.drop k).length : Nat) : Int) ≤ 900000 := by rw [hl1, hl2]; omega
        obtain ⟨zv1, z1, zv2, z2, za, zc, z3, H11, H12, H13, hb1, HF1⟩ := insI1 (c1 := c1) (c2 := c2) (hA1 _ _ _ hits) (hA2 _ _ _ HN.out.symm hits) x1 x2 dt hbd hl1 hl2
        obtain ⟨yv1, y1, yv2, y2, ya, yc, y3, H21, H22, H23, hb2, HF2⟩ := insI2 (c1 := c1) (c2 := c2) (hA1 _ _ _ hits) (hA2 _ _ _ HN.out.symm hits) x1 x2 dt hbd hl1 hl2
        obtain ⟨tv1, t1, tv2, t2, ta, tc, t3, H31, H32, H33, hb3, HF3⟩ := insI3 (c1 := c1) (c2 := c2) (hA1 _ _ _ hits) (hA2 _ _ _ HN.out.symm hits) x1 x2 dt hbd hl1 hl2
        have HKZ := Lib.hid (HK2.out.below hb1)
        have p0 : z1.cell? ⟨w.heap.size, 0, none⟩ = some (.int .u64 x1) := by rw [HKZ.out.cell]; rfl
        have p1 : z1.cell? ⟨w.heap.size, 1, none⟩ = some (.int .u64 x2) := by rw [HKZ.out.cell]; rfl
        have p2 : z1.cell? ⟨w.heap.size, 2, none⟩ = some (.string ⟨dt.toArray⟩) := by rw [HKZ.out.cell]; rfl
        have e0 : w2.cell? ⟨w.heap.size, 0, none⟩ = some (.int .u64 x1) := by rw [HK2.out.cell]; rfl
        have e1 : w2.cell? ⟨w.heap.size, 1, none⟩ = some (.int .u64 x2) := by rw [HK2.out.cell]; rfl
        have e2 : w2.cell? ⟨w.heap.size, 2, none⟩ = some (.string ⟨dt.toArray⟩) := by rw [HK2.out.cell]; rfl
        have e0a := fun o => cell_a1 e0 o
        have e1a := fun o => cell_a1 e1 o
        have e2a := fun o => cell_a1 e2 o
        obtain ⟨len, hlen⟩ : ∃ len, len = (xs.take k ++ ((⟨(x1, x2), dt⟩ : Itm) :: xs.drop k)).length := ⟨_, rfl⟩
        rw [← hlen] at H13 H23 H33
        have HLEN := Lib.hid hlen
        have hk1 : (k : Int) ≤ (c : Int) := by omega
        have hk2 : (k : Int) ≤ (k : Int) := by omega
        clear hlen hl1 hl2 hbd hits hA1 hA2 hb1 hb2 hb3 hm
        go_wp2_with fail
        go_region_law
          (first
          | ((with_reducible refine step_at ((w2.alloc (.cells #[] 59)).drew) ?_); refine step_append_run (by rfl) (.tmp 41) (.tmp 44) _ _ (by rfl) _ _ (by rfl) (by rfl) _ _ H11.out ?_)
          | ((with_reducible refine step_at (((w2.alloc (.cells #[] 59)).alloc (.cells #[.int .u64 x1, .int .u64 x2, .string ⟨dt.toArray⟩] 59)).drew) ?_); refine step_append_run (by rfl) (.tmp 41) (.tmp 44) _ _ (by rfl) _ _ (by rfl) (by rfl) _ _ H21.out ?_)
          | ((with_reducible refine step_at (((w2.alloc (.cells #[.int .u64 x1, .int .u64 x2, .string ⟨dt.toArray⟩] 59)).alloc (.cells #[] 59)).drew) ?_); refine step_append_run (by rfl) (.tmp 41) (.tmp 44) _ _ (by rfl) _ _ (by rfl) (by rfl) _ _ H31.out ?_)
          | ((with_reducible refine step_at (z1.alloc (.cells #[.int .u64 x1, .int .u64 x2, .string ⟨dt.toArray⟩] 59)) ?_); refine step_append_run (by rfl) (.tmp 45) (.tmp 47) _ _ (by rfl) _ _ (by rfl) (by rfl) _ _ H12.out ?_)
          | ((with_reducible refine step_at y1 ?_); refine step_append_run (by rfl) (.tmp 45) (.tmp 47) _ _ (by rfl) _ _ (by rfl) (by rfl) _ _ H22.out ?_)
          | ((with_reducible refine step_at t1 ?_); refine step_append_run (by rfl) (.tmp 45) (.tmp 47) _ _ (by rfl) _ _ (by rfl) (by rfl) _ _ H32.out ?_)
          | fail)
        all_goals
          go_wp2_with (at_builtin; first | (refine Lib.wpList_append_run _ rfl _ _ _ _ rfl _ _ rfl rfl _ _ H13.out ?_) | (refine Lib.wpList_append_run _ rfl _ _ _ _ rfl _ _ rfl rfl _ _ H23.out ?_) | (refine Lib.wpList_append_run _ rfl _ _ _ _ rfl _ _ rfl rfl _ _ H33.out ?_))
          go_ret2
          rw [HR.out]
          first
          | exact ⟨za, zc, by first | (rw [HLEN.out]; done) | (rw [HLEN.out]; rfl), ownsRow_its HF1.out.1, HF1.out.2.1, .inr (fun ad h => by have := own_new HF1.out.1 ad h; have := HB2.out.size; omega), HB2.out.trans (HF1.out.2.2.mono HB2.out.size)⟩
          | exact ⟨ya, yc, by first | (rw [HLEN.out]; done) | (rw [HLEN.out]; rfl), ownsRow_its HF2.out.1, HF2.out.2.1, .inr (fun ad h => by have := own_new HF2.out.1 ad h; have := HB2.out.size; omega), HB2.out.trans (HF2.out.2.2.mono HB2.out.size)⟩
          | exact ⟨ta, tc, by first | (rw [HLEN.out]; done) | (rw [HLEN.out]; rfl), ownsRow_its HF3.out.1, HF3.out.2.1, .inr (fun ad h => by have := own_new HF3.out.1 ad h; have := HB2.out.size; omega), HB2.out.trans (HF3.out.2.2.mono HB2.out.size)⟩

end Go.Proofs.YtlfodnehgedpmaaGreat
