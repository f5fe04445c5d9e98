/- The walk of the statement PoolClosed. -/
import Derived.Test.YtlfodnehgedpmaaGreatRpO
namespace Go.Proofs.YtlfodnehgedpmaaGreat.poolClosed
open Go.RowKit Go.Shelf
set_option linter.unusedVariables false

theorem bt {a b c : World} (h1 : Below a.heap.size a b) (h2 : Below b.heap.size b c) : Below a.heap.size a c := h1.trans (h2.mono h1.size)
theorem refF_len (xs : List Itm) : ∀ (f : Nat) (ws T M : List (Int × Int)), (refF xs f ws T M).1.length ≤ T.length + f ∧ (refF xs f ws T M).2.length ≤ M.length + f
  | 0, ws, T, M => by rw [refF]; simp
  | f + 1, [], T, M => by rw [refF]; simp
  | f + 1, d :: ws, T, M => by
    rw [refF]
    split
    · have := refF_len xs f ws T M; omega
    · split
      · have := refF_len xs f ws T (withS M d); have := withS_len M d; omega
      · have := refF_len xs f (ws ++ linksS (getS xs d).1) (withS T d) M; have := withS_len T d; omega
theorem reachS_len (xs : List Itm) (l : List (Int × Int)) : (reachS xs l).1.length ≤ fuelR xs l ∧ (reachS xs l).2.length ≤ fuelR xs l := by
  have := refF_len xs (fuelR xs l) l [] []
  rw [refF_eq] at this
  simpa using this
set_option maxRecDepth 100000 in
set_option maxHeartbeats 8000000 in
theorem walk (a : Option Addr) (xs : List Itm) (c : Nat) (la : Option Addr) (l : List (Int × Int)) (lc : Nat) (w : World) (hp : PoolCame w a xs c) (hl : Digs w.heap.size w la l) (hlc : l.length ≤ lc ∧ lc ≤ maxLen) (hlo : ∀ d ∈ l, OkD d) :
    Calls Tryz.prog 4 #[.slice a xs.length c, .slice la l.length lc] w fun e w' => e = .returned (.bool true) ∧ Below w.heap.size w w' := by
  have hml := hp.cap
  unfold maxLen at hml hlc
  have HFN := Lib.hid (fun W (hW : Below w.heap.size w W) => fine_any a xs c W (hp.its.ahead hW) (by omega) (fun x hx => by have := (hp.dat x hx).2; unfold maxLen at this; omega))
  have HA := Lib.hid (fun W => awake_any W)
  have HX := Lib.hid hp.its
  have HLD := Lib.hid hl
  have HLO := Lib.hid hlo
  have HXO := Lib.hid (fun x hx => (hp.dat x hx).1)
  have HCA := Lib.hid hp.cap.1
  clear hp hl hlo
  have HF0 := Lib.hid (HFN.out w (Below.refl _ _))
  clear HFN
  obtain ⟨n, hn⟩ : ∃ n, n = xs.length := ⟨_, rfl⟩
  obtain ⟨ll, hll⟩ : ∃ ll, ll = l.length := ⟨_, rfl⟩
  have HN := Lib.hid hn
  have HLL := Lib.hid hll
  cases hg : fineB xs with
  | false =>
    rw [hg] at HF0
    rw [← hn] at HF0
    rw [← hn, ← hll]
    clear hg hn hll
    go_enter Tryz.func4, Tryz.ntmps4
    go_wp2_with fail
    (with_reducible refine (HF0.out).mono ?_)
    rintro e u ⟨rfl, hb⟩
    have HB1 := Lib.hid hb
    clear hb
    go_wp2_with fail
    (with_reducible refine (HA.out _).mono ?_)
    rintro e u2 ⟨rfl, hb⟩
    have HB2 := Lib.hid (bt HB1.out hb)
    clear hb
    go_wp2_with fail
    go_ret
    exact ⟨rfl, HB2.out⟩
  | true =>
    rw [hg] at HF0
    by_cases h40 : (20 : Int) < ll
    · have d40 : decide ((20 : Int) < (ll : Int)) = true := by simpa using h40
      rw [← hn] at HF0
      rw [← hn, ← hll]
      clear hg hn hll
      go_enter Tryz.func4, Tryz.ntmps4
      go_wp2_with fail
      (with_reducible refine (HF0.out).mono ?_)
      rintro e u ⟨rfl, hb⟩
      have HB1 := Lib.hid hb
      clear hb
      go_wp2_with fail
      (with_reducible refine (HA.out _).mono ?_)
      rintro e u2 ⟨rfl, hb⟩
      have HB2 := Lib.hid (bt HB1.out hb)
      clear hb
      go_wp2_with fail
      go_ret
      exact ⟨rfl, HB2.out⟩
    · have d40 : decide ((20 : Int) < (ll : Int)) = false := by simpa using h40
      obtain ⟨x1, x2, x3, x4, x5⟩ := fineB_true hg
      have hll20 : ll ≤ 20 := by omega
      have hlln : (l.length : Int) ≤ 10000 := by omega
      have hfu : ((fuelR xs l : Nat) : Int) ≤ 100000 := by unfold fuelR; omega
      have HPI := Lib.hid (fun W (hW : Below w.heap.size w W) => (⟨HX.out.ahead hW, HCA.out, by omega, fun x hx => by have := x2 x hx; omega⟩ : PoolIn W a xs c))
      have HLW := Lib.hid (fun W (hW : Below w.heap.size w W) => (HLD.out.below hW (Nat.le_refl _)).mono hW.size)
      have HR1 := Lib.hid (fun W (hW : Below w.heap.size w W) => reach_any a xs c la l lc W (HPI.out W hW) x4 (HLW.out W hW) HLO.out (by omega) hlln)
      have HCN := Lib.hid (fun W (hW : Below w.heap.size w W) => cloneD_any la l lc W (HLW.out W hW) (by omega))
      have HG := Lib.hid (fun d1 d2 W (hW : Below w.heap.size w W) => get_any a xs c d1 d2 W (HPI.out W hW) x4)
      have HH := Lib.hid (fun d1 d2 W (hW : Below w.heap.size w W) => has_any a xs c d1 d2 W (HPI.out W hW) x4)
      have HKP := Lib.hid (fun sa rs sc W (hW : Below w.heap.size w W) (h1 : Digs W.heap.size W sa rs) (h2 : ∀ d ∈ rs, OkD d) (h3 : (rs.length : Int) ≤ 1000000) => keep_any a xs c sa rs sc W (HPI.out W hW) h1 h2 HXO.out h3)
      have HR2 := Lib.hid (fun qa T qc W (hW : Below w.heap.size w W) (hi : Its W.heap.size W qa (keepS xs T)) (hc : (keepS xs T).length ≤ qc) => reach_any qa (keepS xs T) qc la l lc W ⟨hi, hc, by have : (keepS xs T).length ≤ xs.length := List.length_filter_le _ _; omega, fun x hx => by have := x2 x (List.mem_filter.1 hx).1; omega⟩ (asc_filter x4 _) (HLW.out W hW) HLO.out (by have : (keepS xs T).length ≤ xs.length := List.length_filter_le _ _; omega) hlln)
      have HKL := Lib.hid (fun T => (Nat.le_trans (List.length_filter_le _ _) x1 : (keepS xs T).length ≤ 40))
      have HCL := Lib.hid (closed_law l x4 x5)
      have HRL := Lib.hid (reachS_len xs l)
      generalize fuelR xs l = F at hfu HRL
      generalize reachS xs l = RS at HR1 HCL HRL
      obtain ⟨T, M⟩ := RS
      simp only at HCL HRL
      have HOKT : Hid (∀ d ∈ T, OkD d) := Lib.hid (fun d hd => by
        obtain ⟨x, hx, rfl, _⟩ := getS_good (HCL.out.ok d hd)
        exact HXO.out x hx)
      have hT5 : (T.length : Int) ≤ 100000 := by have := HRL.out; omega
      have hM5 : (M.length : Int) ≤ 100000 := by have := HRL.out; omega
      obtain ⟨n1, hn1⟩ : ∃ n1, n1 = T.length := ⟨_, rfl⟩
      obtain ⟨n2, hn2⟩ : ∃ n2, n2 = M.length := ⟨_, rfl⟩
      have HN1 := Lib.hid hn1
      have HN2 := Lib.hid hn2
      rw [← hn1] at hT5
      rw [← hn2] at hM5
      rw [← hn] at HF0 HR1 HG HH HKP
      rw [← hll] at HR1 HCN HR2
      rw [← hn, ← hll]
      clear hg hn hll x1 x2 x3 x4 x5 hn1 hn2 hlln hfu HRL HPI HLW
      go_enter Tryz.func4, Tryz.ntmps4
      go_wp2_with fail
      (with_reducible refine (HF0.out).mono ?_)
      rintro e u ⟨rfl, hb⟩
      have HB1 := Lib.hid hb
      clear hb
      have HC1 := Lib.hid (HR1.out u HB1.out)
      go_wp2_with fail
      (with_reducible refine (HC1.out).mono ?_)
      rintro e u1 ⟨ra, rc, sa, sc, rfl, ho1, ho2, hb⟩
      have HT := Lib.hid (ownsRow_digs ho1)
      have HM := Lib.hid (ownsRow_digs ho2)
      have HB2 := Lib.hid (bt HB1.out hb)
      have HC2 := Lib.hid (HCN.out u1 HB2.out)
      simp only
      rw [← HN1.out, ← HN2.out]
      clear ho1 ho2 hb HC1 HR1 HB1
      go_wp2_with fail
      (with_reducible refine (HC2.out).mono ?_)
      rintro e u2 ⟨ka, kc, rfl, hown, hb⟩
      have HO2 : Hid (u2.ownsRow u1.heap.size 26 2 (.slice ka ll kc) (knownS xs l T 0).length (dcells (knownS xs l T 0))) := Lib.hid (by
        have e : knownS xs l T 0 = l := by unfold knownS; simp
        rw [e]; rw [← HLL.out] at hown ⊢; exact hown)
      have HB3 := Lib.hid hb
      clear hown hb HC2 HCN
      try rw [← HLL.out]
      go_wp2_with fail
      go_loopw [7, 39] (fun v iv wr => ∃ k : Nat, k ≤ n1 ∧ iv = .int .i64 k ∧ Hid (wr.ownsRow u1.heap.size 26 2 v (knownS xs l T k).length (dcells (knownS xs l T k))) ∧ Hid (Below u1.heap.size u1 wr)) (fun _ iv _ => n1 - (intOf iv).toNat)
      case atStart => exact ⟨0, by omega, rfl, HO2, HB3⟩
      case round =>
        clear HO2 HB3
        obtain ⟨k, hk, rfl, HO, HB⟩ := hrel
        have HBW := Lib.hid (bt HB2.out HB.out)
        obtain ⟨va, vc, rfl, hvc⟩ := ownsRow_sliceN HO.out
        have hkl := known_len xs l T k
        rw [← HLL.out] at hkl
        by_cases hlt : k < n1
        · have h1 : k < T.length := by rw [← HN1.out]; exact hlt
          obtain ⟨b0, o0, haa, hb0, q0, q1⟩ := (HT.out.ahead HB.out) k h1
          subst haa
          have HEG := Lib.hid (HCL.out.ok _ (List.getElem_mem h1))
          have HST := Lib.hid (known_step xs l T k h1)
          generalize hit : T[k] = it at q0 q1 HEG HST
          have HIT := Lib.hid hit
          clear hit
          obtain ⟨d1, d2⟩ := it
          simp only at q0 q1
          obtain ⟨u0, hu0⟩ : ∃ u0, u0 = wr.alloc (.cells #[.int .u64 d1, .int .u64 d2] 26) := ⟨_, rfl⟩
          have HB0 : Hid (Below u1.heap.size u1 u0) := Lib.hid (by rw [hu0]; exact HB.out.alloc HB.out.size _)
          have HO0 : Hid (u0.ownsRow u1.heap.size 26 2 _ _ _) := Lib.hid (by rw [hu0]; exact HO.out.alloc _)
          have HK0 : Hid (BK wr.heap.size #[.int .u64 d1, .int .u64 d2] 26 u0) := Lib.hid (by rw [hu0]; exact BK.new _ _ _)
          have HC1 := Lib.hid (HG.out d1 d2 u0 (bt HB2.out HB0.out))
          rw [hu0] at HC1
          have HU0 := Lib.hid hu0
          have HLB := links_le (getS xs (d1, d2)).1
          clear hu0 hb0
          generalize getS xs (d1, d2) = OE at HC1 HEG HST HLB
          obtain ⟨o, er⟩ := OE
          have hee := HEG.out
          simp only at hee HC1 HST HLB
          subst hee
          clear HEG
          have hkn : (k : Int) < (n1 : Int) := by omega
          go_wp2_with fail
          (with_reducible refine (HC1.out).mono ?_)
          rintro e u3 ⟨ea, ec, pa, pc, rfl, hob, hb⟩
          rw [← HU0.out] at hb hob
          have HB1 := Lib.hid (bt HB0.out hb)
          have HO1 := Lib.hid (own_below HO0.out hb)
          have HK1 := Lib.hid (HK0.out.below hb)
          have HOB := Lib.hid hob
          clear hb hob HC1 HB0 HO0 HK0 HU0 q0 q1
          obtain ⟨kind, data, ents, ⟨t1, t2⟩, pars, author, time, msg⟩ := o
          simp only [Ob.val]
          obtain ⟨ne, hne⟩ : ∃ ne, ne = ents.length := ⟨_, rfl⟩
          obtain ⟨n, hnp⟩ : ∃ n, n = pars.length := ⟨_, rfl⟩
          rw [← hne, ← hnp]
          have HNE := Lib.hid hne
          have HNP := Lib.hid hnp
          clear hne hnp
          obtain ⟨u4, hu4⟩ : ∃ u4, u4 = u3.alloc (.cells #[.int .i64 kind, .string ⟨data.toArray⟩, .slice ea ne ec, .int .u64 t1, .int .u64 t2, .slice pa n pc, .string ⟨author.toArray⟩, .int .i64 time, .string ⟨msg.toArray⟩] 35) := ⟨_, rfl⟩
          have HB4 : Hid (Below u1.heap.size u1 u4) := Lib.hid (by rw [hu4]; exact HB1.out.alloc HB1.out.size _)
          have HO4 : Hid (u4.ownsRow u1.heap.size 26 2 _ _ _) := Lib.hid (by rw [hu4]; exact HO1.out.alloc _)
          have HK4 : Hid (BK wr.heap.size #[.int .u64 d1, .int .u64 d2] 26 u4) := Lib.hid (by rw [hu4]; exact HK1.out.alloc _)
          have HKO : Hid (BK u3.heap.size #[.int .i64 kind, .string ⟨data.toArray⟩, .slice ea ne ec, .int .u64 t1, .int .u64 t2, .slice pa n pc, .string ⟨author.toArray⟩, .int .i64 time, .string ⟨msg.toArray⟩] 35 u4) := Lib.hid (by rw [hu4]; exact BK.new _ _ _)
          have HOB4 : Hid (ObOwn u0.heap.size u4 _ _ _ _ _) := Lib.hid (by rw [hu4]; exact HOB.out.below ((Below.refl _ _).alloc (Nat.le_refl _) _))
          have HU4 := Lib.hid hu4
          clear hu4 HB1 HO1 HK1 HOB
          by_cases hk0 : k = 0
          · have g0 : decide ((0 : Int) < (k : Int)) = false := by simp; omega
            have g1 : decide (0 < k) = false := by simp; omega
            clear hk0
            go_wp2_with fail
            rw [← HU4.out]
            go_quiet (fail)
            have hbq := below_drewN (Below.refl u4.heap.size u4) nq
            have HB5 := Lib.hid (bt HB4.out hbq)
            have HO5 := Lib.hid (own_below HO4.out hbq)
            have HKO5 := Lib.hid (HKO.out.below hbq)
            have HOB5 := Lib.hid (HOB4.out.below hbq)
            clear hbq HB4 HO4 HK4 HKO HOB4 HU4
            generalize u4.drewN nq = w3 at HB5 HO5 HKO5 HOB5 ⊢
            have e0 : w3.cell? ⟨u3.heap.size, 0, none⟩ = some (.int .i64 kind) := by rw [HKO5.out.cell]; rfl
            have e1 : w3.cell? ⟨u3.heap.size, 1, none⟩ = some (.string ⟨data.toArray⟩) := by rw [HKO5.out.cell]; rfl
            have e2 : w3.cell? ⟨u3.heap.size, 2, none⟩ = some (.slice ea ne ec) := by rw [HKO5.out.cell]; rfl
            have e3 : w3.cell? ⟨u3.heap.size, 3, none⟩ = some (.int .u64 t1) := by rw [HKO5.out.cell]; rfl
            have e4 : w3.cell? ⟨u3.heap.size, 4, none⟩ = some (.int .u64 t2) := by rw [HKO5.out.cell]; rfl
            have e5 : w3.cell? ⟨u3.heap.size, 5, none⟩ = some (.slice pa n pc) := by rw [HKO5.out.cell]; rfl
            have e6 : w3.cell? ⟨u3.heap.size, 6, none⟩ = some (.string ⟨author.toArray⟩) := by rw [HKO5.out.cell]; rfl
            have e7 : w3.cell? ⟨u3.heap.size, 7, none⟩ = some (.int .i64 time) := by rw [HKO5.out.cell]; rfl
            have e8 : w3.cell? ⟨u3.heap.size, 8, none⟩ = some (.string ⟨msg.toArray⟩) := by rw [HKO5.out.cell]; rfl
            have HLK := Lib.hid (links_any _ ea ec pa pc w3 HOB5.out.inn HOB5.out.bb)
            simp only [Ob.val] at HLK
            rw [← HNE.out, ← HNP.out] at HLK
            clear HKO5 HOB5
            generalize linksS ⟨kind, data, ents, (t1, t2), pars, author, time, msg⟩ = ls at HLK HLB HST
            go_wp2_with fail
            (with_reducible refine (HLK.out).mono ?_)
            rintro e w4 ⟨xa, xc, rfl, hols, hb⟩
            have HB6 := Lib.hid (bt HB5.out hb)
            have HO6 := Lib.hid (own_below HO5.out hb)
            obtain ⟨v2, w5, hrun, hown, hg, hat⟩ := append_digs w4 u1.heap.size 33 _ (knownS xs l T k) HO6.out xa ls xc (ownsRow_digs hols) (by push_cast; omega) HB6.out.size
            have HBZ := Lib.hid (below_own HB6.out HO6.out hg (Nat.le_refl _))
            rw [← HST.out] at hown
            have HOZ := Lib.hid hown
            have HRUN := Lib.hid hrun
            clear hols hb hown hg hat HB6 HO6 HB5 HO5 HLK hrun HST e0 e1 e2 e3 e4 e5 e6 e7 e8
            generalize (knownS xs l T k).length = m at HRUN hvc hkl ⊢
            generalize ls.length = m3 at HRUN HLB ⊢
            go_wp2_with (at_builtin; refine Lib.wpList_append_run _ rfl _ _ _ _ rfl _ _ rfl rfl _ _ HRUN.out ?_)
            go_roundw
            case rel => exact ⟨k + 1, by omega, by go_num, HOZ, HBZ⟩
            case measure => simp [intOf] <;> omega
          · have g0 : decide ((0 : Int) < (k : Int)) = true := by simp; omega
            have g1 : decide (0 < k) = true := by simp; omega
            obtain ⟨j, hj⟩ : ∃ j, k = j + 1 := ⟨k - 1, by omega⟩
            have hj1 : j < T.length := by omega
            obtain ⟨_, _, hbe, _, j0, j1⟩ := (HT.out.ahead HB4.out) j hj1
            cases hbe
            have hjk : (k : Int) - 1 = (j : Int) := by omega
            have hjw : IntKind.i64.wrap ((k : Int) - 1) = (j : Int) := by rw [hjk]; exact wrap_i64 (by omega) (by omega)
            have hjb : (j : Int) < (n1 : Int) := by omega
            have hcm := ascD_get HCL.out.aT hj1 h1 (by omega)
            rw [HIT.out] at hcm
            generalize T[j] = ij at j0 j1 hcm
            obtain ⟨i1, i2⟩ := ij
            simp only at j0 j1
            have HCM := Lib.hid (fun W => refCmp_any i1 i2 d1 d2 W)
            generalize cmpD (i1, i2) (d1, d2) = cv at HCM hcm
            have dc : decide (0 ≤ cv) = false := by simpa using hcm
            have HAR := Lib.hid (fun d os => Calls.regrown_of (w := u4) (d := d) (os := os) (HCM.out _))
            have e0 : u4.cell? ⟨wr.heap.size, 0, none⟩ = some (.int .u64 d1) := by rw [HK4.out.cell]; rfl
            have e1 : u4.cell? ⟨wr.heap.size, 1, none⟩ = some (.int .u64 d2) := by rw [HK4.out.cell]; rfl
            have f0 := cell_regrown e0
            have f1 := cell_regrown e1
            have f2 := cell_regrown j0
            have f3 := cell_regrown j1
            clear HCM hj hjk hk0 hcm
            go_wp2_with fail
            rw [← HU4.out]
            refine wp_region_quiet_below (by kernel_rfl) (by kernel_rfl) ?_
            repeat (any_goals (first | go_big_quiet_step (first | (with_reducible exact HAR.out _ _)) | quiet_step (first | (with_reducible exact HAR.out _ _))))
            refine wpQuiet_nil ?_
            intro w3 hw3
            have hbq := below_rg hw3
            have HB5 := Lib.hid (bt HB4.out hbq)
            have HO5 := Lib.hid (own_below HO4.out hbq)
            have HKO5 := Lib.hid (HKO.out.below hbq)
            have HOB5 := Lib.hid (HOB4.out.below hbq)
            clear hbq hw3 HB4 HO4 HK4 HKO HOB4 HU4 HAR f0 f1 f2 f3 e0 e1 j0 j1
            have e0 : w3.cell? ⟨u3.heap.size, 0, none⟩ = some (.int .i64 kind) := by rw [HKO5.out.cell]; rfl
            have e1 : w3.cell? ⟨u3.heap.size, 1, none⟩ = some (.string ⟨data.toArray⟩) := by rw [HKO5.out.cell]; rfl
            have e2 : w3.cell? ⟨u3.heap.size, 2, none⟩ = some (.slice ea ne ec) := by rw [HKO5.out.cell]; rfl
            have e3 : w3.cell? ⟨u3.heap.size, 3, none⟩ = some (.int .u64 t1) := by rw [HKO5.out.cell]; rfl
            have e4 : w3.cell? ⟨u3.heap.size, 4, none⟩ = some (.int .u64 t2) := by rw [HKO5.out.cell]; rfl
            have e5 : w3.cell? ⟨u3.heap.size, 5, none⟩ = some (.slice pa n pc) := by rw [HKO5.out.cell]; rfl
            have e6 : w3.cell? ⟨u3.heap.size, 6, none⟩ = some (.string ⟨author.toArray⟩) := by rw [HKO5.out.cell]; rfl
            have e7 : w3.cell? ⟨u3.heap.size, 7, none⟩ = some (.int .i64 time) := by rw [HKO5.out.cell]; rfl
            have e8 : w3.cell? ⟨u3.heap.size, 8, none⟩ = some (.string ⟨msg.toArray⟩) := by rw [HKO5.out.cell]; rfl
            have HLK := Lib.hid (links_any _ ea ec pa pc w3 HOB5.out.inn HOB5.out.bb)
            simp only [Ob.val] at HLK
            rw [← HNE.out, ← HNP.out] at HLK
            clear HKO5 HOB5
            generalize linksS ⟨kind, data, ents, (t1, t2), pars, author, time, msg⟩ = ls at HLK HLB HST
            go_wp2_with fail
            (with_reducible refine (HLK.out).mono ?_)
            rintro e w4 ⟨xa, xc, rfl, hols, hb⟩
            have HB6 := Lib.hid (bt HB5.out hb)
            have HO6 := Lib.hid (own_below HO5.out hb)
            obtain ⟨v2, w5, hrun, hown, hg, hat⟩ := append_digs w4 u1.heap.size 33 _ (knownS xs l T k) HO6.out xa ls xc (ownsRow_digs hols) (by push_cast; omega) HB6.out.size
            have HBZ := Lib.hid (below_own HB6.out HO6.out hg (Nat.le_refl _))
            rw [← HST.out] at hown
            have HOZ := Lib.hid hown
            have HRUN := Lib.hid hrun
            clear hols hb hown hg hat HB6 HO6 HB5 HO5 HLK hrun HST e0 e1 e2 e3 e4 e5 e6 e7 e8
            generalize (knownS xs l T k).length = m at HRUN hvc hkl ⊢
            generalize ls.length = m3 at HRUN HLB ⊢
            go_wp2_with (at_builtin; refine Lib.wpList_append_run _ rfl _ _ _ _ rfl _ _ rfl rfl _ _ HRUN.out ?_)
            go_roundw
            case rel => exact ⟨k + 1, by omega, by go_num, HOZ, HBZ⟩
            case measure => simp [intOf] <;> omega
        · have hkt : knownS xs l T k = knownS xs l T T.length := by
            have : k = T.length := by rw [← HN1.out]; omega
            rw [this]
          rw [hkt] at HO hvc hkl ⊢
          have HKT := Lib.hid HCL.out.kT
          have HKM := Lib.hid HCL.out.kM
          have HKK := Lib.hid HCL.out.kn
          have HAM := Lib.hid HCL.out.aM
          have HHS := Lib.hid HCL.out.has
          have HAG := Lib.hid HCL.out.again
          have HK := Lib.hid (ownsRow_digs HO.out)
          have HTX := Lib.hid (HT.out.ahead HB.out)
          have HMX := Lib.hid (HM.out.ahead HB.out)
          clear HCL HO hkt HG HT HM
          generalize knownS xs l T T.length = KN at HKT HKM HKK HK hkl hvc ⊢
          obtain ⟨m, hm⟩ : ∃ m, m = KN.length := ⟨_, rfl⟩
          have HMM := Lib.hid hm
          have hk5 : (KN.length : Int) ≤ 1000000000 := by omega
          have HCT := Lib.hid (fun x y W hW => containsD_any va KN vc x y W (HK.out.ahead hW) (by omega))
          have HCTT := Lib.hid (fun x y W hW => containsD_any ra T rc x y W (HTX.out.ahead hW) (by have := HN1.out; omega))
          have HCTM := Lib.hid (fun x y W hW => containsD_any sa M sc x y W (HMX.out.ahead hW) (by have := HN2.out; omega))
          rw [← HN1.out] at HCTT
          rw [← HN2.out] at HCTM
          rw [← hm] at HCT ⊢
          have hkl2 : m ≤ ll + 200 * k := by omega
          have hm5 : (m : Int) ≤ 1000000000 := by omega
          have hnk : ¬ ((k : Int) < (n1 : Int)) := by omega
          obtain ⟨x0, hx0⟩ : ∃ x0, x0 = wr := ⟨_, rfl⟩
          rw [← hx0] at HK HTX HMX HBW HB HCT HCTT HCTM ⊢
          clear hm hk5 hkl hkl2 hx0
          go_wp2_with fail
          go_loopw [73] (fun iv wr => ∃ k : Nat, k ≤ n2 ∧ iv = .int .i64 k ∧ Hid (Below x0.heap.size x0 wr)) (fun iv _ => n2 - (intOf iv).toNat)
          case atStart => exact ⟨0, by omega, rfl, Lib.hid (Below.refl _ _)⟩
          case round =>
            clear hnk hlt
            obtain ⟨k, hk, rfl, HBX⟩ := hrel
            by_cases hlt : k < n2
            · have h1 : k < M.length := by rw [← HN2.out]; exact hlt
              obtain ⟨b0, o0, haa, hb0, q0, q1⟩ := (HMX.out.ahead HBX.out) k h1
              subst haa
              have hmem := List.getElem_mem h1
              generalize hit : M[k] = it at q0 q1 hmem
              have HIT := Lib.hid hit
              clear hit
              obtain ⟨d1, d2⟩ := it
              simp only at q0 q1
              obtain ⟨u0, hu0⟩ : ∃ u0, u0 = wr.alloc (.cells #[.int .u64 d1, .int .u64 d2] 26) := ⟨_, rfl⟩
              have HB0 : Hid (Below x0.heap.size x0 u0) := Lib.hid (by rw [hu0]; exact HBX.out.alloc HBX.out.size _)
              have HK0 : Hid (BK wr.heap.size #[.int .u64 d1, .int .u64 d2] 26 u0) := Lib.hid (by rw [hu0]; exact BK.new _ _ _)
              have HC1 := Lib.hid (fun W hW => HH.out d1 d2 W (bt HBW.out hW))
              have HC2 := Lib.hid (fun W hW => HCT.out d1 d2 W hW)
              rw [HHS.out _ hmem] at HC1
              rw [decide_eq_true (HKM.out _ hmem)] at HC2
              have HA1 := Lib.hid (fun d os => Calls.regrown_of (w := u0) (d := d) (os := os) (HC1.out _ (bt HB0.out (below_regrown u0 d os))))
              have HA2 := Lib.hid (fun d os => Calls.regrown_of (w := u0) (d := d) (os := os) (HC2.out _ (bt HB0.out (below_regrown u0 d os))))
              have e0 : u0.cell? ⟨wr.heap.size, 0, none⟩ = some (.int .u64 d1) := by rw [HK0.out.cell]; rfl
              have e1 : u0.cell? ⟨wr.heap.size, 1, none⟩ = some (.int .u64 d2) := by rw [HK0.out.cell]; rfl
              have f0 := cell_regrown e0
              have f1 := cell_regrown e1
              have HU0 := Lib.hid hu0
              have hkn : (k : Int) < (n2 : Int) := by omega
              clear hu0 hb0 HC1 HC2 hmem
              by_cases hk0 : k = 0
              · have g0 : decide ((0 : Int) < (k : Int)) = false := by simp; omega
                have g1 : decide (0 < k) = false := by simp; omega
                clear hk0
                go_wp2_with fail
                rw [← HU0.out]
                refine wp_region_quiet_below (by kernel_rfl) (by kernel_rfl) ?_
                repeat (any_goals (first | go_big_quiet_step (first | (with_reducible exact HA1.out _ _) | (with_reducible exact HA2.out _ _)) | quiet_step (first | (with_reducible exact HA1.out _ _) | (with_reducible exact HA2.out _ _))))
                refine wpQuiet_nil ?_
                intro w3 hw3
                have HB5 := Lib.hid (bt HB0.out (below_rg hw3))
                clear hw3 HA1 HA2 f0 f1 e0 e1 q0 q1
                go_wp2_with fail
                go_roundw
                case rel => exact ⟨k + 1, by omega, by go_num, HB5⟩
                case measure => simp [intOf] <;> omega
              · have g0 : decide ((0 : Int) < (k : Int)) = true := by simp; omega
                have g1 : decide (0 < k) = true := by simp; omega
                obtain ⟨j, hj⟩ : ∃ j, k = j + 1 := ⟨k - 1, by omega⟩
                have hj1 : j < M.length := by omega
                obtain ⟨_, _, hbe, _, j0, j1⟩ := (HMX.out.ahead HB0.out) j hj1
                cases hbe
                have hjk : (k : Int) - 1 = (j : Int) := by omega
                have hjw : IntKind.i64.wrap ((k : Int) - 1) = (j : Int) := by rw [hjk]; exact wrap_i64 (by omega) (by omega)
                have hjb : (j : Int) < (n2 : Int) := by omega
                have hcm := ascD_get HAM.out hj1 h1 (by omega)
                rw [HIT.out] at hcm
                generalize M[j] = ij at j0 j1 hcm
                obtain ⟨i1, i2⟩ := ij
                simp only at j0 j1
                have HCM := Lib.hid (fun W => refCmp_any i1 i2 d1 d2 W)
                generalize cmpD (i1, i2) (d1, d2) = cv at HCM hcm
                have dc : decide (0 ≤ cv) = false := by simpa using hcm
                have HA3 := Lib.hid (fun d os => Calls.regrown_of (w := u0) (d := d) (os := os) (HCM.out _))
                have f2 := cell_regrown j0
                have f3 := cell_regrown j1
                clear HCM hj hjk hk0 hcm
                go_wp2_with fail
                rw [← HU0.out]
                refine wp_region_quiet_below (by kernel_rfl) (by kernel_rfl) ?_
                repeat (any_goals (first | go_big_quiet_step (first | (with_reducible exact HA1.out _ _) | (with_reducible exact HA2.out _ _) | (with_reducible exact HA3.out _ _)) | quiet_step (first | (with_reducible exact HA1.out _ _) | (with_reducible exact HA2.out _ _) | (with_reducible exact HA3.out _ _))))
                refine wpQuiet_nil ?_
                intro w3 hw3
                have HB5 := Lib.hid (bt HB0.out (below_rg hw3))
                clear hw3 HA1 HA2 HA3 f0 f1 f2 f3 e0 e1 q0 q1 j0 j1
                go_wp2_with fail
                go_roundw
                case rel => exact ⟨k + 1, by omega, by go_num, HB5⟩
                case measure => simp [intOf] <;> omega
            · have hnk : ¬ ((k : Int) < (n2 : Int)) := by omega
              obtain ⟨y0, hy0⟩ : ∃ y0, y0 = wr := ⟨_, rfl⟩
              rw [← hy0] at HBX ⊢
              clear hy0 HHS HAM HKM HH
              go_wp2_with fail
              go_loopw [104] (fun iv wr => ∃ k : Nat, k ≤ n1 ∧ iv = .int .i64 k ∧ Hid (Below x0.heap.size x0 wr)) (fun iv _ => n1 - (intOf iv).toNat)
              case atStart => exact ⟨0, by omega, rfl, HBX⟩
              case round =>
                clear hnk hlt HBX
                obtain ⟨k, hk, rfl, HBX⟩ := hrel
                by_cases hlt : k < n1
                · have h1 : k < T.length := by rw [← HN1.out]; exact hlt
                  obtain ⟨b0, o0, haa, hb0, q0, q1⟩ := (HTX.out.ahead HBX.out) k h1
                  subst haa
                  have hmem := HKT.out _ (List.getElem_mem h1)
                  generalize T[k] = it at q0 q1 hmem
                  obtain ⟨d1, d2⟩ := it
                  simp only at q0 q1
                  obtain ⟨u0, hu0⟩ : ∃ u0, u0 = wr.alloc (.cells #[.int .u64 d1, .int .u64 d2] 26) := ⟨_, rfl⟩
                  have HB0 : Hid (Below x0.heap.size x0 u0) := Lib.hid (by rw [hu0]; exact HBX.out.alloc HBX.out.size _)
                  have HC2 := Lib.hid (HCT.out d1 d2 u0 HB0.out)
                  rw [decide_eq_true hmem, hu0] at HC2
                  have HU0 := Lib.hid hu0
                  have hkn : (k : Int) < (n1 : Int) := by omega
                  clear hu0 hb0 hmem
                  go_wp2_with fail
                  (with_reducible refine (HC2.out).mono ?_)
                  rintro e u2 ⟨rfl, hb⟩
                  rw [← HU0.out] at hb
                  have HB5 := Lib.hid (bt HB0.out hb)
                  clear hb HC2 q0 q1
                  go_wp2_with fail
                  go_roundw
                  case rel => exact ⟨k + 1, by omega, by go_num, HB5⟩
                  case measure => simp [intOf] <;> omega
                · have hnk : ¬ ((k : Int) < (n1 : Int)) := by omega
                  obtain ⟨z0, hz0⟩ : ∃ z0, z0 = wr := ⟨_, rfl⟩
                  rw [← hz0] at HBX ⊢
                  clear hz0 HKT
                  go_wp2_with fail
                  go_loopw [115] (fun iv wr => ∃ k : Nat, k ≤ m ∧ iv = .int .i64 k ∧ Hid (Below x0.heap.size x0 wr)) (fun iv _ => m - (intOf iv).toNat)
                  case atStart => exact ⟨0, by omega, rfl, HBX⟩
                  case round =>
                    clear hnk hlt HBX
                    obtain ⟨k, hk, rfl, HBX⟩ := hrel
                    by_cases hlt : k < m
                    · have h1 : k < KN.length := by rw [← HMM.out]; exact hlt
                      obtain ⟨b0, o0, haa, hb0, q0, q1⟩ := (HK.out.ahead HBX.out) k h1
                      subst haa
                      have hmem := HKK.out _ (List.getElem_mem h1)
                      generalize KN[k] = it at q0 q1 hmem
                      obtain ⟨d1, d2⟩ := it
                      simp only at q0 q1
                      obtain ⟨u0, hu0⟩ : ∃ u0, u0 = wr.alloc (.cells #[.int .u64 d1, .int .u64 d2] 26) := ⟨_, rfl⟩
                      have HB0 : Hid (Below x0.heap.size x0 u0) := Lib.hid (by rw [hu0]; exact HBX.out.alloc HBX.out.size _)
                      have HK0 : Hid (BK wr.heap.size #[.int .u64 d1, .int .u64 d2] 26 u0) := Lib.hid (by rw [hu0]; exact BK.new _ _ _)
                      have hq := fun W => neq_dig d1 d2 0 0 W
                      have hkn : (k : Int) < (m : Int) := by omega
                      have HC2 := Lib.hid (HCTT.out d1 d2 u0 HB0.out)
                      rw [hu0] at HC2
                      have HU0 := Lib.hid hu0
                      clear hu0 hb0
                      cases hz : (d1 == 0 && d2 == 0) with
                      | true =>
                        rw [hz] at hq
                        clear hmem hz HC2
                        go_wp2_with fail
                        go_roundw
                        case rel => exact ⟨k + 1, by omega, by go_num, by rw [← HU0.out]; exact HB0⟩
                        case measure => simp [intOf] <;> omega
                      | false =>
                        rw [hz] at hq
                        have hmem2 : (d1, d2) ∈ T ∨ (d1, d2) ∈ M := by
                          rcases hmem with h | h
                          · simp only [Prod.mk.injEq] at h
                            simp [h.1, h.2] at hz
                          · exact h
                        clear hmem hz
                        cases hin : decide ((d1, d2) ∈ T) with
                        | true =>
                          rw [hin] at HC2
                          clear hmem2 hin
                          go_wp2_with fail
                          (with_reducible refine (HC2.out).mono ?_)
                          rintro e u2 ⟨rfl, hb⟩
                          rw [← HU0.out] at hb
                          have HB5 := Lib.hid (bt HB0.out hb)
                          clear hb HC2 q0 q1
                          go_wp2_with fail
                          go_roundw
                          case rel => exact ⟨k + 1, by omega, by go_num, HB5⟩
                          case measure => simp [intOf] <;> omega
                        | false =>
                          rw [hin] at HC2
                          have hmem3 : decide ((d1, d2) ∈ M) = true := by
                            rcases hmem2 with h | h
                            · simp [h] at hin
                            · simpa using h
                          clear hmem2 hin
                          go_wp2_with fail
                          (with_reducible refine (HC2.out).mono ?_)
                          rintro e u2 ⟨rfl, hb⟩
                          rw [← HU0.out] at hb
                          have HB5 := Lib.hid (bt HB0.out hb)
                          have HK5 := Lib.hid (HK0.out.below hb)
                          have e0 : u2.cell? ⟨wr.heap.size, 0, none⟩ = some (.int .u64 d1) := by rw [HK5.out.cell]; rfl
                          have e1 : u2.cell? ⟨wr.heap.size, 1, none⟩ = some (.int .u64 d2) := by rw [HK5.out.cell]; rfl
                          have HC3 := Lib.hid (HCTM.out d1 d2 u2 HB5.out)
                          rw [hmem3] at HC3
                          clear hb HC2 q0 q1 hmem3
                          go_wp2_with fail
                          (with_reducible refine (HC3.out).mono ?_)
                          rintro e u3 ⟨rfl, hb⟩
                          have HB6 := Lib.hid (bt HB5.out hb)
                          clear hb HC3 e0 e1
                          go_wp2_with fail
                          go_roundw
                          case rel => exact ⟨k + 1, by omega, by go_num, HB6⟩
                          case measure => simp [intOf] <;> omega
                    · have hnk : ¬ ((k : Int) < (m : Int)) := by omega
                      have HC1 := Lib.hid (HKP.out ra T rc wr (bt HBW.out HBX.out) (HTX.out.ahead HBX.out) HOKT.out (by have := HN1.out; omega))
                      rw [← HN1.out] at HC1
                      obtain ⟨kl, hkl⟩ : ∃ kl, kl = (keepS xs T).length := ⟨_, rfl⟩
                      have HKN := Lib.hid hkl
                      clear hkl HKP HKK HCT HCTT HCTM
                      go_wp2_with fail
                      (with_reducible refine (HC1.out).mono ?_)
                      rintro e y1 ⟨qa, qc, rfl, hpo⟩
                      have HBY := Lib.hid (bt HBX.out hpo.2.2.2)
                      have HC2 := Lib.hid (HR2.out qa T qc y1 (bt HBW.out HBY.out) hpo.1 hpo.2.1)
                      rw [HAG.out, ← HKN.out] at HC2
                      rw [← HKN.out]
                      clear hpo HC1 HR2
                      go_wp2_with fail
                      (with_reducible refine (HC2.out).mono ?_)
                      rintro e y2 ⟨ra', rc', sa', sc', he, ho1, ho2, hb⟩
                      simp only at he ho1 ho2
                      rw [← HN1.out, ← HN2.out] at he
                      subst he
                      have HBZ := Lib.hid (bt HBY.out hb)
                      have ht1 := HN1.out
                      have ht2 := HN2.out
                      have HC3 := Lib.hid (equalD_any ra ra' T T rc rc' y2 (HTX.out.ahead HBZ.out) (ownsRow_digs ho1) (by omega) (by omega))
                      have HE2 := Lib.hid (fun W hW => equalD_any sa sa' M M sc sc' W (HMX.out.ahead (bt HBZ.out hW)) ((ownsRow_digs ho2).ahead hW) (by omega) (by omega))
                      have t1 : decide (T = T) = true := by simp
                      have t2 : decide (M = M) = true := by simp
                      rw [t1, ← HN1.out] at HC3
                      rw [t2, ← HN2.out] at HE2
                      clear ht1 ht2 t1 t2 ho1 ho2 hb HC2
                      go_wp2_with fail
                      (with_reducible refine (HC3.out).mono ?_)
                      rintro e y3 ⟨rfl, hb⟩
                      have HB4 := Lib.hid (bt HBW.out (bt HBZ.out hb))
                      have HC4 := Lib.hid (HE2.out y3 hb)
                      clear hb HC3 HE2
                      go_wp2_with fail
                      (with_reducible refine (HC4.out).mono ?_)
                      rintro e y4 ⟨rfl, hb⟩
                      have HB5 := Lib.hid (bt HB4.out hb)
                      clear hb HC4
                      go_wp2_with fail
                      (with_reducible refine (HA.out _).mono ?_)
                      rintro e y5 ⟨rfl, hb⟩
                      have HB6 := Lib.hid (bt HB5.out hb)
                      clear hb
                      go_wp2_with fail
                      go_ret
                      exact ⟨rfl, HB6.out⟩

end Go.Proofs.YtlfodnehgedpmaaGreat.poolClosed
