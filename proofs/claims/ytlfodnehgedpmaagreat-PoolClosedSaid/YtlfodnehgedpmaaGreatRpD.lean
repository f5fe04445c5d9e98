/- pool.Union. -/
import Derived.Test.YtlfodnehgedpmaaGreatRpC
namespace Go.Proofs.YtlfodnehgedpmaaGreat
open Go.RowKit Go.Shelf
set_option linter.unusedVariables false

/-- Two pools in order, merged. -/
def uniF : Nat → List Itm → List Itm → Option (List Itm)
  | 0, _, _ => some []
  | _ + 1, [], [] => some []
  | f + 1, [], y :: ys => (uniF f [] ys).map (y :: ·)
  | f + 1, x :: xs, [] => (uniF f xs []).map (x :: ·)
  | f + 1, x :: xs, y :: ys =>
    if cmpD x.d y.d = 0 then (if x.data = y.data then (uniF f xs ys).map (x :: ·) else none)
    else if cmpD x.d y.d < 0 then (uniF f xs (y :: ys)).map (x :: ·) else (uniF f (x :: xs) ys).map (y :: ·)
def uniO : Option (List Itm) → List Itm × Int
  | some zs => (zs, 0)
  | none => ([], 16)
def uniS (xs ys : List Itm) : List Itm × Int := uniO (uniF (xs.length + ys.length) xs ys)
theorem uniF_nil (f : Nat) : uniF f [] [] = some [] := by cases f <;> rfl
def UR (R : Option (List Itm)) (f : Nat) (l xs ys : List Itm) : Prop := R = (uniF f xs ys).map (l ++ ·)
theorem UR.start (xs ys : List Itm) (f : Nat) : UR (uniF f xs ys) f [] xs ys := by unfold UR; simp
theorem map_app (o : Option (List Itm)) (l : List Itm) (x : Itm) : (o.map (x :: ·)).map (l ++ ·) = o.map ((l ++ [x]) ++ ·) := by
  cases o <;> simp
theorem UR.a {R : Option (List Itm)} {f : Nat} {l xs ys : List Itm} {x : Itm} (h : UR R (f + 1) l (x :: xs) ys) (hy : ∀ y ∈ ys.head?, cmpD x.d y.d < 0) : UR R f (l ++ [x]) xs ys := by
  unfold UR at h ⊢
  rw [h, ← map_app]
  cases ys with
  | nil => rfl
  | cons y ys =>
    have := hy y rfl
    rw [uniF, if_neg (by omega), if_pos this]
theorem UR.b {R : Option (List Itm)} {f : Nat} {l xs ys : List Itm} {y : Itm} (h : UR R (f + 1) l xs (y :: ys)) (hx : ∀ x ∈ xs.head?, 0 < cmpD x.d y.d) : UR R f (l ++ [y]) xs ys := by
  unfold UR at h ⊢
  rw [h, ← map_app]
  cases xs with
  | nil => rfl
  | cons x xs =>
    have := hx x rfl
    rw [uniF, if_neg (by omega), if_neg (by omega)]
theorem UR.c {R : Option (List Itm)} {f : Nat} {l xs ys : List Itm} {x y : Itm} (h : UR R (f + 1) l (x :: xs) (y :: ys)) (hc : cmpD x.d y.d = 0) (hd : x.data = y.data) : UR R f (l ++ [x]) xs ys := by
  unfold UR at h ⊢
  rw [h, ← map_app, uniF, if_pos hc, if_pos hd]
theorem UR.d {R : Option (List Itm)} {f : Nat} {l xs ys : List Itm} {x y : Itm} (h : UR R (f + 1) l (x :: xs) (y :: ys)) (hc : cmpD x.d y.d = 0) (hd : x.data ≠ y.data) : R = none := by
  unfold UR at h
  rw [h, uniF, if_pos hc, if_neg hd]; rfl
theorem UR.fin {R : Option (List Itm)} {f : Nat} {l : List Itm} (h : UR R f l [] []) : R = some l := by
  unfold UR at h
  rw [h, uniF_nil]; simp
theorem its_one {W : World} {b : Nat} {x1 x2 : Int} {dt : List UInt8} (hk : BK b #[.int .u64 x1, .int .u64 x2, .string ⟨dt.toArray⟩] 59 W) : Its W.heap.size W (some ⟨b, 0, none⟩) [(⟨(x1, x2), dt⟩ : Itm)] := fun i hi => by
  obtain rfl : i = 0 := by simp at hi; omega
  exact ⟨_, 0, rfl, hk.lt, by rw [Nat.zero_mul, hk.cell]; rfl, by rw [Nat.zero_mul, hk.cell]; rfl, by rw [Nat.zero_mul, hk.cell]; rfl⟩
/-- One item behind a row. -/
theorem append_itm {W : World} {base : Nat} {v : Value} {xs : List Itm} (hown : W.ownsRow base 59 3 v xs.length (icells xs)) (d : Int × Int) (dt : List UInt8) (hlen : (xs.length : Int) ≤ 100000000) (hbase : base ≤ W.heap.size) :
    ∃ v' W', (Builtin.append_ #[23, 23] 23 #[v, .slice (some ⟨W.heap.size, 0, none⟩) 1 1]).run Tryz.prog (W.alloc (.cells #[.int .u64 d.1, .int .u64 d.2, .string ⟨dt.toArray⟩] 59)) = .ok v' W' ∧ W'.ownsRow base 59 3 v' (xs ++ [(⟨d, dt⟩ : Itm)]).length (icells (xs ++ [(⟨d, dt⟩ : Itm)])) ∧ (W.alloc (.cells #[.int .u64 d.1, .int .u64 d.2, .string ⟨dt.toArray⟩] 59)).grownBy W' v.ownBlock := by
  obtain ⟨d1, d2⟩ := d
  obtain ⟨v', W', h1, h2, h3, _⟩ := append_its (W.alloc (.cells #[.int .u64 d1, .int .u64 d2, .string ⟨dt.toArray⟩] 59)) base 23 v xs (hown.alloc _) (some ⟨W.heap.size, 0, none⟩) [(⟨(d1, d2), dt⟩ : Itm)] 1 (its_one (BK.new W #[.int .u64 d1, .int .u64 d2, .string ⟨dt.toArray⟩] 59)) (by simp; omega) (by simp; omega)
  exact ⟨v', W', h1, h2, h3⟩

set_option maxRecDepth 100000 in
set_option maxHeartbeats 8000000 in
theorem union_any (a b : Option Addr) (xs ys : List Itm) (c c' : Nat) (w : World) (hp : Its w.heap.size w a xs) (hq : Its w.heap.size w b ys) (hn : (xs.length : Int) ≤ 10000000) (hm : (ys.length : Int) ≤ 10000000) :
    Calls Tryz.prog 37 #[.slice a xs.length c, .slice b ys.length c'] w (GotPE w none [] (uniS xs ys)) := by
  obtain ⟨R, hR⟩ : ∃ R, R = uniF (xs.length + ys.length) xs ys := ⟨_, rfl⟩
  have HU : Hid (uniS xs ys = uniO R) := Lib.hid (by rw [hR]; rfl)
  generalize uniS xs ys = U at HU ⊢
  have HUR : Hid (UR R (xs.length + ys.length) [] (xs.drop 0) (ys.drop 0)) := Lib.hid (by rw [hR]; exact UR.start _ _ _)
  have HX := Lib.hid hp
  have HY := Lib.hid hq
  obtain ⟨n, hnn⟩ : ∃ n, n = xs.length := ⟨_, rfl⟩
  obtain ⟨m, hmm⟩ : ∃ m, m = ys.length := ⟨_, rfl⟩
  rw [← hnn] at hn HUR ⊢
  rw [← hmm] at hm HUR ⊢
  have HN := Lib.hid hnn
  have HM := Lib.hid hmm
  clear hp hq hR hnn hmm
  have HNOK : Hid (R = none → U = ([], 16)) := Lib.hid (fun h => by rw [HU.out, h]; rfl)
  have HOK : Hid (∀ l, R = some l → U = (l, 0)) := Lib.hid (fun l h => by rw [HU.out, h]; rfl)
  clear HU
  go_enter Tryz.func37, Tryz.ntmps37
  go_wp2_with fail
  go_loopw [6, 7, 8] (fun v iv jv wr => ∃ (i j f : Nat) (l : List Itm) (u : Value), i ≤ n ∧ j ≤ m ∧ iv = .int .i64 i ∧ jv = .int .i64 j ∧ v = u ∧ l.length ≤ i + j ∧ (n - i) + (m - j) ≤ f ∧ Hid (wr.ownsRow w.heap.size 59 3 u l.length (icells l)) ∧ Hid (Below w.heap.size w wr) ∧ Hid (UR R f l (xs.drop i) (ys.drop j))) (fun _ iv jv _ => (n - (intOf iv).toNat) + (m - (intOf jv).toNat))
  case atStart => exact ⟨0, 0, n + m, [], _, by omega, by omega, rfl, rfl, rfl, by simp, by omega, Lib.hid (World.ownsRow_nil _ _ _ _), Lib.hid (Below.refl _ _), HUR⟩
  case round =>
    clear HUR
    obtain ⟨i, j, f, l, v, hi, hj, rfl, rfl, rfl, hl, hf, HO, HB, HT0⟩ := hrel
    obtain ⟨av, cv, rfl, hcap⟩ := ownsRow_sliceN HO.out
    by_cases hin : i < n
    · have h1 : i < xs.length := by rw [← HN.out]; exact hin
      obtain ⟨f', rfl⟩ : ∃ f', f = f' + 1 := ⟨f - 1, by omega⟩
      have hd1 : xs.drop i = xs[i] :: xs.drop (i + 1) := List.drop_eq_getElem_cons h1
      rw [hd1] at HT0
      clear hd1
      have di1 : decide ((i : Int) < (n : Int)) = true := by simp; omega
      have di2 : decide (i < n) = true := by simp; omega
      have ei1 : ((i : Int) == (n : Int)) = false := by rw [beq_eq_false_iff_ne]; omega
      have ei2 : (i == n) = false := by rw [beq_eq_false_iff_ne]; omega
      have hin2 : (i : Int) < (n : Int) := by omega
      by_cases hjm : j < m
      · have h2 : j < ys.length := by rw [← HM.out]; exact hjm
        have hd2 : ys.drop j = ys[j] :: ys.drop (j + 1) := List.drop_eq_getElem_cons h2
        rw [hd2] at HT0
        have ej1 : ((j : Int) == (m : Int)) = false := by rw [beq_eq_false_iff_ne]; omega
        have ej2 : (j == m) = false := by rw [beq_eq_false_iff_ne]; omega
        have hjm2 : (j : Int) < (m : Int) := by omega
        obtain ⟨b0, o0, rfl, hb0, q0, q1, q2⟩ := (HX.out.ahead HB.out) i h1
        obtain ⟨b1, o1, rfl, hb1, r0, r1, r2⟩ := (HY.out.ahead HB.out) j h2
        have HTA := Lib.hid (fun h : cmpD xs[i].d ys[j].d < 0 => HT0.out.a (fun y hy => by cases hy; exact h))
        have HTB := Lib.hid (fun h : 0 < cmpD xs[i].d ys[j].d => HT0.out.b (fun x hx => by cases hx; exact h))
        have HTC := Lib.hid (fun (h : cmpD xs[i].d ys[j].d = 0) h2 => HT0.out.c h h2)
        have HTD := Lib.hid (fun (h : cmpD xs[i].d ys[j].d = 0) h2 => HT0.out.d h h2)
        have HD2 : Hid (ys[j] :: ys.drop (j + 1) = ys.drop j) := Lib.hid hd2.symm
        have HD1 : Hid (xs[i] :: xs.drop (i + 1) = xs.drop i) := Lib.hid (List.drop_eq_getElem_cons h1).symm
        rw [HD2.out] at HTA
        rw [HD1.out] at HTB
        clear hd2 HT0 HD1 HD2
        generalize hit : xs[i] = it at q0 q1 q2 HTA HTB HTC HTD
        generalize hjt : ys[j] = jt at r0 r1 r2 HTA HTB HTC HTD
        have HIT := Lib.hid hit
        have HJT := Lib.hid hjt
        clear hit hjt
        obtain ⟨⟨x1, x2⟩, dt⟩ := it
        obtain ⟨⟨y1, y2⟩, et⟩ := jt
        simp only at q0 q1 q2 r0 r1 r2 HTA HTB HTC HTD
        have HCM := Lib.hid (fun W => cmpD_any x1 x2 y1 y2 W)
        have HRG := Lib.hid (cmpD_range (x1, x2) (y1, y2))
        generalize cmpD (x1, x2) (y1, y2) = cm at HCM HTA HTB HTC HTD HRG
        have HCA := Lib.hid (fun d os => Calls.regrown_of (w := wr) (d := d) (os := os) ((HCM.out _).mono (fun e w' h => ⟨h.1, h.2.below⟩)))
        have f0 := cell_regrown q0
        have f1 := cell_regrown q1
        have g0 := cell_regrown r0
        have g1 := cell_regrown r1
        clear HCM
        have hcm : cm = -1 ∨ cm = 0 ∨ cm = 1 := by have := HRG.out; omega
        go_wp2_with fail
        refine wp_region_quiet_below (by kernel_rfl) (by kernel_rfl) ?_
        repeat (any_goals (first | go_big_quiet_step (first | (with_reducible exact HCA.out _ _)) | quiet_step (first | (with_reducible exact HCA.out _ _))))
        refine wpQuiet_nil ?_
        intro w2 hw2
        have hb2 := below_rg hw2
        have HB2 := Lib.hid (HB.out.trans (hb2.mono HB.out.size))
        have HO2 := Lib.hid (own_below HO.out hb2)
        clear hw2 hb2 HCA f0 f1 g0 g1 q0 q1 q2 r0 r1 r2
        obtain ⟨_, _, hpe, _, q0, q1, q2⟩ := (HX.out.ahead HB2.out) i h1
        cases hpe
        obtain ⟨_, _, hpe, _, r0, r1, r2⟩ := (HY.out.ahead HB2.out) j h2
        cases hpe
        rw [HIT.out] at q0 q1 q2
        rw [HJT.out] at r0 r1 r2
        simp only at q0 q1 q2 r0 r1 r2
        clear HRG
        rcases hcm with rfl | rfl | rfl
        · have HT := Lib.hid (HTA.out (by omega))
          clear HTA HTB HTC HTD
          go_wp2_with fail
          go_quiet (fail)
          have HB3 := Lib.hid (below_drewN HB2.out nq)
          have HO3 := Lib.hid (own_below HO2.out (below_drewN (Below.refl _ w2) nq))
          generalize w2.drewN nq = w3 at HB3 HO3 ⊢
          obtain ⟨_, _, hpe, _, q0, q1, q2⟩ := (HX.out.ahead HB3.out) i h1
          cases hpe
          rw [HIT.out] at q0 q1 q2
          simp only at q0 q1 q2
          obtain ⟨v', z, hrun, hown, hgr⟩ := append_itm HO3.out (x1, x2) dt (by omega) HB3.out.size
          have HBZ : Hid (Below w.heap.size w z) := Lib.hid (below_own (HB3.out.alloc HB3.out.size _) (HO3.out.alloc _) hgr (Nat.le_refl _))
          have HK2 : Hid ((l ++ [(⟨(x1, x2), dt⟩ : Itm)]).length = l.length + 1) := Lib.hid (by rw [List.length_append]; rfl)
          have HOZ := Lib.hid hown
          have HRUN := Lib.hid hrun
          have hl2 : (l ++ [(⟨(x1, x2), dt⟩ : Itm)]).length ≤ (i + 1) + (j) := by rw [HK2.out]; omega
          clear hrun hown hgr HK2 HO3 HB3
          go_wp2_with (at_builtin; refine Lib.wpList_append_run _ rfl _ _ _ _ rfl _ _ rfl rfl _ _ HRUN.out ?_)
          go_roundw
          case rel => exact ⟨i + 1, j, f', _, v', by omega, by omega, by go_num, by rfl, rfl, hl2, by omega, HOZ, HBZ, HT⟩
          case measure => simp [intOf] <;> omega
        · cases hde : (dt == et) with
          | true =>
            have HT := Lib.hid (HTC.out rfl (by simpa using hde))
            clear HTA HTB HTC HTD
            go_wp2_with fail
            go_quiet (fail)
            have HB3 := Lib.hid (below_drewN HB2.out nq)
            have HO3 := Lib.hid (own_below HO2.out (below_drewN (Below.refl _ w2) nq))
            generalize w2.drewN nq = w3 at HB3 HO3 ⊢
            obtain ⟨_, _, hpe, _, q0, q1, q2⟩ := (HX.out.ahead HB3.out) i h1
            cases hpe
            rw [HIT.out] at q0 q1 q2
            simp only at q0 q1 q2
            obtain ⟨v', z, hrun, hown, hgr⟩ := append_itm HO3.out (x1, x2) dt (by omega) HB3.out.size
            have HBZ : Hid (Below w.heap.size w z) := Lib.hid (below_own (HB3.out.alloc HB3.out.size _) (HO3.out.alloc _) hgr (Nat.le_refl _))
            have HK2 : Hid ((l ++ [(⟨(x1, x2), dt⟩ : Itm)]).length = l.length + 1) := Lib.hid (by rw [List.length_append]; rfl)
            have HOZ := Lib.hid hown
            have HRUN := Lib.hid hrun
            have hl2 : (l ++ [(⟨(x1, x2), dt⟩ : Itm)]).length ≤ (i + 1) + (j + 1) := by rw [HK2.out]; omega
            clear hrun hown hgr HK2 HO3 HB3
            go_wp2_with (at_builtin; refine Lib.wpList_append_run _ rfl _ _ _ _ rfl _ _ rfl rfl _ _ HRUN.out ?_)
            go_roundw
            case rel => exact ⟨i + 1, j + 1, f', _, v', by omega, by omega, by go_num, by go_num, rfl, hl2, by omega, HOZ, HBZ, HT⟩
            case measure => simp [intOf] <;> omega
          | false =>
            have HR := Lib.hid (HNOK.out (HTD.out rfl (by simpa using hde)))
            clear HTA HTB HTC HTD
            go_wp2_with fail
            go_quiet (fail)
            go_wp2_with fail
            go_ret2
            rw [HR.out]
            exact ⟨none, 0, rfl, PoolAt.none _ _ (below_drewN HB2.out _)⟩
        · have HT := Lib.hid (HTB.out (by omega))
          clear HTA HTB HTC HTD
          go_wp2_with fail
          go_quiet (fail)
          have HB3 := Lib.hid (below_drewN HB2.out nq)
          have HO3 := Lib.hid (own_below HO2.out (below_drewN (Below.refl _ w2) nq))
          generalize w2.drewN nq = w3 at HB3 HO3 ⊢
          obtain ⟨_, _, hpe, _, r0, r1, r2⟩ := (HY.out.ahead HB3.out) j h2
          cases hpe
          rw [HJT.out] at r0 r1 r2
          simp only at r0 r1 r2
          obtain ⟨v', z, hrun, hown, hgr⟩ := append_itm HO3.out (y1, y2) et (by omega) HB3.out.size
          have HBZ : Hid (Below w.heap.size w z) := Lib.hid (below_own (HB3.out.alloc HB3.out.size _) (HO3.out.alloc _) hgr (Nat.le_refl _))
          have HK2 : Hid ((l ++ [(⟨(y1, y2), et⟩ : Itm)]).length = l.length + 1) := Lib.hid (by rw [List.length_append]; rfl)
          have HOZ := Lib.hid hown
          have HRUN := Lib.hid hrun
          have hl2 : (l ++ [(⟨(y1, y2), et⟩ : Itm)]).length ≤ (i) + (j + 1) := by rw [HK2.out]; omega
          clear hrun hown hgr HK2 HO3 HB3
          go_wp2_with (at_builtin; refine Lib.wpList_append_run _ rfl _ _ _ _ rfl _ _ rfl rfl _ _ HRUN.out ?_)
          go_roundw
          case rel => exact ⟨i, j + 1, f', _, v', by omega, by omega, by rfl, by go_num, rfl, hl2, by omega, HOZ, HBZ, HT⟩
          case measure => simp [intOf] <;> omega
      · obtain rfl : j = m := by omega
        have hd2 : ys.drop j = [] := List.drop_of_length_le (by rw [← HM.out]; omega)
        have dj1 : decide ((j : Int) < (j : Int)) = false := by simp
        have HT : Hid (UR R f' (l ++ [xs[i]]) (xs.drop (i + 1)) (ys.drop j)) := Lib.hid (HT0.out.a (fun y hy => by rw [hd2] at hy; cases hy))
        obtain ⟨b0, o0, rfl, hb0, _, _, _⟩ := (HX.out.ahead HB.out) i h1
        clear HT0 hd2
        generalize hit : xs[i] = it at HT
        have HIT := Lib.hid hit
        clear hit
        obtain ⟨⟨x1, x2⟩, dt⟩ := it
        go_wp2_with fail
        go_quiet (fail)
        have HB3 := Lib.hid (below_drewN HB.out nq)
        have HO3 := Lib.hid (own_below HO.out (below_drewN (Below.refl _ wr) nq))
        generalize wr.drewN nq = w3 at HB3 HO3 ⊢
        obtain ⟨_, _, hpe, _, q0, q1, q2⟩ := (HX.out.ahead HB3.out) i h1
        cases hpe
        rw [HIT.out] at q0 q1 q2
        simp only at q0 q1 q2
        obtain ⟨v', z, hrun, hown, hgr⟩ := append_itm HO3.out (x1, x2) dt (by omega) HB3.out.size
        have HBZ : Hid (Below w.heap.size w z) := Lib.hid (below_own (HB3.out.alloc HB3.out.size _) (HO3.out.alloc _) hgr (Nat.le_refl _))
        have HK2 : Hid ((l ++ [(⟨(x1, x2), dt⟩ : Itm)]).length = l.length + 1) := Lib.hid (by rw [List.length_append]; rfl)
        have HOZ := Lib.hid hown
        have HRUN := Lib.hid hrun
        have hl2 : (l ++ [(⟨(x1, x2), dt⟩ : Itm)]).length ≤ (i + 1) + (j) := by rw [HK2.out]; omega
        clear hrun hown hgr HK2 HO3 HB3
        go_wp2_with (at_builtin; refine Lib.wpList_append_run _ rfl _ _ _ _ rfl _ _ rfl rfl _ _ HRUN.out ?_)
        go_roundw
        case rel => exact ⟨i + 1, j, f', _, v', by omega, by omega, by go_num, by rfl, rfl, hl2, by omega, HOZ, HBZ, HT⟩
        case measure => simp [intOf] <;> omega
    · obtain rfl : i = n := by omega
      have hd1 : xs.drop i = [] := List.drop_of_length_le (by rw [← HN.out]; omega)
      have di1 : decide ((i : Int) < (i : Int)) = false := by simp
      by_cases hjm : j < m
      · have h2 : j < ys.length := by rw [← HM.out]; exact hjm
        obtain ⟨f', rfl⟩ : ∃ f', f = f' + 1 := ⟨f - 1, by omega⟩
        have hd2 : ys.drop j = ys[j] :: ys.drop (j + 1) := List.drop_eq_getElem_cons h2
        rw [hd2] at HT0
        have HT : Hid (UR R f' (l ++ [ys[j]]) (xs.drop i) (ys.drop (j + 1))) := Lib.hid (HT0.out.b (fun y hy => by rw [hd1] at hy; cases hy))
        have dj1 : decide ((j : Int) < (m : Int)) = true := by simp; omega
        have dj2 : decide (j < m) = true := by simp; omega
        have hjm2 : (j : Int) < (m : Int) := by omega
        obtain ⟨b1, o1, rfl, hb1, _, _, _⟩ := (HY.out.ahead HB.out) j h2
        clear HT0 hd2 hd1
        generalize hjt : ys[j] = jt at HT
        have HJT := Lib.hid hjt
        clear hjt
        obtain ⟨⟨y1, y2⟩, et⟩ := jt
        go_wp2_with fail
        go_quiet (fail)
        have HB3 := Lib.hid (below_drewN HB.out nq)
        have HO3 := Lib.hid (own_below HO.out (below_drewN (Below.refl _ wr) nq))
        generalize wr.drewN nq = w3 at HB3 HO3 ⊢
        obtain ⟨_, _, hpe, _, r0, r1, r2⟩ := (HY.out.ahead HB3.out) j h2
        cases hpe
        rw [HJT.out] at r0 r1 r2
        simp only at r0 r1 r2
        obtain ⟨v', z, hrun, hown, hgr⟩ := append_itm HO3.out (y1, y2) et (by omega) HB3.out.size
        have HBZ : Hid (Below w.heap.size w z) := Lib.hid (below_own (HB3.out.alloc HB3.out.size _) (HO3.out.alloc _) hgr (Nat.le_refl _))
        have HK2 : Hid ((l ++ [(⟨(y1, y2), et⟩ : Itm)]).length = l.length + 1) := Lib.hid (by rw [List.length_append]; rfl)
        have HOZ := Lib.hid hown
        have HRUN := Lib.hid hrun
        have hl2 : (l ++ [(⟨(y1, y2), et⟩ : Itm)]).length ≤ (i) + (j + 1) := by rw [HK2.out]; omega
        clear hrun hown hgr HK2 HO3 HB3
        go_wp2_with (at_builtin; refine Lib.wpList_append_run _ rfl _ _ _ _ rfl _ _ rfl rfl _ _ HRUN.out ?_)
        go_roundw
        case rel => exact ⟨i, j + 1, f', _, v', by omega, by omega, by rfl, by go_num, rfl, hl2, by omega, HOZ, HBZ, HT⟩
        case measure => simp [intOf] <;> omega
      · obtain rfl : j = m := by omega
        have dj1 : decide ((j : Int) < (j : Int)) = false := by simp
        have hd2 : ys.drop j = [] := List.drop_of_length_le (by rw [← HM.out]; omega)
        rw [hd1, hd2] at HT0
        have HF := Lib.hid (HOK.out l HT0.out.fin)
        clear hd1 hd2 HT0
        go_wp2_with fail
        go_ret2
        rw [HF.out]
        exact ⟨av, cv, rfl, ownsRow_its HO.out, hcap, .inr (own_new HO.out), HB.out⟩

end Go.Proofs.YtlfodnehgedpmaaGreat
