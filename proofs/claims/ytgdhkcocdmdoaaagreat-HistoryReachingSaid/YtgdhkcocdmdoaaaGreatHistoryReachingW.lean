/- The walk of the statement HistoryReaching. -/
import Derived.Test.YtgdhkcocdmdoaaaGreatHiLx
import Derived.Test.YtgdhkcocdmdoaaaGreatHiBa
namespace Go.Proofs.YtgdhkcocdmdoaaaGreat.historyReaching
open Go.RowKit Go.Shelf
set_option linter.unusedVariables false

/-- What the calls answer when the first commit has its ancestors. -/
theorem facts {xs : List Itm} (hv : HV xs) {a b c : Int × Int} (ha : OkD a) (h : (visS xs [a] []).2 = 0) : ∃ L, L.length ≤ 40 ∧ ancS xs [a] = (L, 0) ∧ reachesS xs a a = (true, 0) ∧ reachesS xs a b = (decide (b ∈ L), 0) ∧ (b ∈ L → reachesS xs b a = (decide (a = b), 0) ∧ ∃ z w, reachesS xs b c = (z, 0) ∧ reachesS xs a c = (w, 0) ∧ (z = true → w = true)) := by
  have hm : ∀ d, d ∈ (ancS xs [a]).1 ↔ d ∈ (visS xs [a] []).1 := fun d => by rw [anc_mem h, vis_anc h]
  refine ⟨(ancS xs [a]).1, ?_, Prod.ext rfl (ancS_ok h), ?_, ?_, fun hb => ?_⟩
  · have h1 := (vis_facts h (fun d hd => by rw [List.mem_singleton.1 hd]; exact ha)).le
    have h2 : (ancS xs [a]).1.length = (visS xs [a] []).1.length := by
      unfold ancS
      rw [if_neg (by simpa using h)]
      exact (sortH_perm _ _).length_eq
    have := hv.le
    omega
  · rw [reachesS_ok h, decide_eq_true (vis_anc1 h |>.2 (.refl a))]
  · rw [reachesS_ok h]
    congr 1
    exact decide_eq_decide.2 (hm b).symm
  · have hb1 : b ∈ (visS xs [a] []).1 := (hm b).1 hb
    have hab := (vis_anc1 h).1 hb1
    have h2 : (visS xs [b] []).2 = 0 := vis_sub h (fun g hg => by rw [List.mem_singleton.1 hg]; exact hb1)
    refine ⟨?_, decide (c ∈ (visS xs [b] []).1), decide (c ∈ (visS xs [a] []).1), reachesS_ok h2, reachesS_ok h, fun hz => ?_⟩
    · rw [reachesS_ok h2]
      congr 1
      refine decide_eq_decide.2 ⟨fun hh => ?_, fun e => ?_⟩
      · exact anc_anti hv.acy hab ((vis_anc1 h2).1 hh)
      · rw [e]; exact (vis_anc1 h2).2 (.refl b)
    · rw [decide_eq_true_eq] at hz ⊢
      exact (vis_anc1 h).2 (hab.trans ((vis_anc1 h2).1 hz))

set_option maxRecDepth 100000 in
set_option maxHeartbeats 8000000 in
theorem walk (a : Option Addr) (xs : List Itm) (c : Nat) (x y x' y' x2 y2 : Int) (w : World) (hp : PoolCame w a xs c) (h1 : OkD (x, y)) (h2 : OkD (x', y')) (h3 : OkD (x2, y2)) :
    Calls Tryz.prog 4 #[.slice a xs.length c, .agg #[.int .u64 x, .int .u64 y], .agg #[.int .u64 x', .int .u64 y'], .agg #[.int .u64 x2, .int .u64 y2]] w fun e w' => e = .returned (.bool true) ∧ Below w.heap.size w w' := by
  have hml := hp.cap
  unfold maxLen at hml
  have hcap : xs.length ≤ c := by omega
  obtain ⟨w0, hw0⟩ : ∃ w0, w0 = ((w.alloc (.cells #[.int .u64 x, .int .u64 y] 32)).alloc (.cells #[.int .u64 x', .int .u64 y'] 32)).alloc (.cells #[.int .u64 x2, .int .u64 y2] 32) := ⟨_, rfl⟩
  have hb0 : Below w.heap.size w w0 := by rw [hw0]; exact (((Below.refl _ w).alloc (Nat.le_refl _) _).alloc (by simp) _).alloc (by simp; omega) _
  have HVA := Lib.hid (valid13_any a xs c w0 (hp.its.ahead hb0) (by omega) (fun x hx => by have := (hp.dat x hx).2; unfold maxLen at this; omega))
  have HAW := Lib.hid awake13_any
  have HK1 : Hid (BK w.heap.size #[.int .u64 x, .int .u64 y] 32 w0) := Lib.hid (by rw [hw0]; exact ((BK.new _ _ _).alloc _).alloc _)
  have HK2 : Hid (BK (w.heap.size + 1) #[.int .u64 x', .int .u64 y'] 32 w0) := Lib.hid (by rw [hw0]; exact (BK.new2 _ _ _ _).alloc _)
  have HK3 : Hid (BK (w.heap.size + 2) #[.int .u64 x2, .int .u64 y2] 32 w0) := Lib.hid (by
    rw [hw0]
    have h5 := BK.new ((w.alloc (.cells #[.int .u64 x, .int .u64 y] 32)).alloc (.cells #[.int .u64 x', .int .u64 y'] 32)) #[.int .u64 x2, .int .u64 y2] 32
    rwa [World.size_alloc, World.size_alloc] at h5)
  have HB0 := Lib.hid hb0
  have HIT := Lib.hid hp.its
  rw [hw0] at HVA
  have HW0 := Lib.hid hw0
  clear hw0 hb0 hp hml
  cases hv : validS xs with
  | false =>
    rw [hv] at HVA
    clear hv hcap h1 h2 h3 HIT HK1 HK2 HK3
    generalize xs.length = n at HVA ⊢
    go_enter Tryz.func4, Tryz.ntmps4
    go_wp2_with fail
    (with_reducible refine (HVA.out).mono ?_)
    rintro e u ⟨rfl, hb⟩
    rw [← HW0.out] at hb
    have HB1 := Lib.hid (HB0.out.trans (hb.mono HB0.out.size))
    have HA1 := Lib.hid (HAW.out u)
    clear hb HVA HW0 HB0
    go_wp2_with fail
    (with_reducible refine (HA1.out).mono ?_)
    rintro e u2 ⟨rfl, hb⟩
    have HB2 := Lib.hid (HB1.out.trans (hb.mono HB1.out.size))
    clear hb
    go_wp2_with fail
    go_ret
    exact ⟨rfl, HB2.out⟩
  | true =>
    rw [hv] at HVA
    have hV := validS_true hv
    have HPI := Lib.hid (fun W (hW : Below w.heap.size w W) => hV.pin (W := W) (a := a) (c := c) (HIT.out.ahead hW) hcap)
    have hle := hV.le
    have HAN := Lib.hid (fun W (hW : Below w.heap.size w W) q (hk : BK q #[.int .u64 x, .int .u64 y] 32 W) => ancestors_any a xs c (some ⟨q, 0, none⟩) [(x, y)] 1 W (HPI.out W hW) hV.asc hV.acy (digs_one hk) (by simp; exact h1) (by omega) (by simp))
    have HRE := Lib.hid (fun p q r s W (hW : Below w.heap.size w W) (h5 : OkD (p, q)) (h6 : OkD (r, s)) => reaches_any a xs c p q r s W (HPI.out W hW) hV.asc h5 h6 (by omega))
    clear hcap HIT HPI
    by_cases her : (visS xs [(x, y)] []).2 = 0
    · obtain ⟨L, hLl, f1, f2, f3, f4⟩ := facts hV (b := (x', y')) (c := (x2, y2)) h1 her
      rw [f1] at HAN
      have HRaa := Lib.hid (fun W hW => HRE.out x y x y W hW h1 h1)
      have HRab := Lib.hid (fun W hW => HRE.out x y x' y' W hW h1 h2)
      have HRba := Lib.hid (fun W hW => HRE.out x' y' x y W hW h2 h1)
      have HRbc := Lib.hid (fun W hW => HRE.out x' y' x2 y2 W hW h2 h3)
      have HRac := Lib.hid (fun W hW => HRE.out x y x2 y2 W hW h1 h3)
      rw [f2] at HRaa
      rw [f3] at HRab
      have HF4 := Lib.hid f4
      clear f1 f2 f3 f4 HRE her h1 h2 h3 hv hle hV
      have HAS := Lib.hid (fun sa sc W (h : Digs W.heap.size W sa L) => has13_any sa L sc x' y' W h (by omega))
      simp only [List.length_cons, List.length_nil, Nat.zero_add] at HAN
      generalize xs.length = n at HVA HAN HRaa HRab HRba HRbc HRac ⊢
      go_enter Tryz.func4, Tryz.ntmps4
      go_wp2_with fail
      (with_reducible refine (HVA.out).mono ?_)
      rintro e u ⟨rfl, hb⟩
      rw [← HW0.out] at hb
      have HB1 := Lib.hid (HB0.out.trans (hb.mono HB0.out.size))
      have HKu := Lib.hid (HK1.out.below hb)
      have HKub := Lib.hid (HK2.out.below hb)
      have HKuc := Lib.hid (HK3.out.below hb)
      have e0 : u.cell? ⟨w.heap.size, 0, none⟩ = some (.int .u64 x) := by rw [HKu.out.cell]; rfl
      have e1 : u.cell? ⟨w.heap.size, 1, none⟩ = some (.int .u64 y) := by rw [HKu.out.cell]; rfl
      obtain ⟨v, hv⟩ : ∃ v, v = u.alloc (.cells #[.int .u64 x, .int .u64 y] 32) := ⟨_, rfl⟩
      have hbv : Below u.heap.size u v := by rw [hv]; exact (Below.refl _ _).alloc (Nat.le_refl _) _
      have HBv := Lib.hid (HB1.out.trans (hbv.mono HB1.out.size))
      have HA1 := Lib.hid (HAN.out v HBv.out u.heap.size (by rw [hv]; exact BK.new _ _ _))
      have HKv := Lib.hid (HKu.out.below hbv)
      have HKvb := Lib.hid (HKub.out.below hbv)
      have HKvc := Lib.hid (HKuc.out.below hbv)
      rw [hv] at HA1
      have HV := Lib.hid hv
      clear hb hbv hv HVA HW0 HB0 HAN HK1 HK2 HK3
      go_wp2_with fail
      (with_reducible refine (HA1.out).mono ?_)
      rintro e u2 ⟨sa, sc, rfl, hown, hb⟩
      rw [← HV.out] at hb
      simp only at hown ⊢
      have HB2 := Lib.hid (HBv.out.trans (hb.mono HBv.out.size))
      have HK2 := Lib.hid (HKv.out.below hb)
      have HK2b := Lib.hid (HKvb.out.below hb)
      have HK2c := Lib.hid (HKvc.out.below hb)
      have HD2 := Lib.hid (ownsRow_digs hown)
      have HR1 := Lib.hid (HRaa.out u2 HB2.out)
      clear hb hown HA1 HV HBv HKv HKvb HKvc HKu HKub HKuc HB1 e0 e1 HRaa
      obtain ⟨ll, hll⟩ : ∃ ll, ll = L.length := ⟨_, rfl⟩
      rw [← hll] at HAS ⊢
      clear hll hLl
      have e0 : u2.cell? ⟨w.heap.size, 0, none⟩ = some (.int .u64 x) := by rw [HK2.out.cell]; rfl
      have e1 : u2.cell? ⟨w.heap.size, 1, none⟩ = some (.int .u64 y) := by rw [HK2.out.cell]; rfl
      go_wp2_with fail
      (with_reducible refine (HR1.out).mono ?_)
      rintro e u3 ⟨rfl, hb⟩
      have HB3 := Lib.hid (HB2.out.trans (hb.mono HB2.out.size))
      have HK3 := Lib.hid (HK2.out.below hb)
      have HK3b := Lib.hid (HK2b.out.below hb)
      have HK3c := Lib.hid (HK2c.out.below hb)
      have HD3 := Lib.hid (HD2.out.ahead hb)
      have HR2 := Lib.hid (HRab.out u3 HB3.out)
      clear hb HR1 HB2 HK2 HK2b HK2c HD2 e0 e1 HRab
      have e0 : u3.cell? ⟨w.heap.size, 0, none⟩ = some (.int .u64 x) := by rw [HK3.out.cell]; rfl
      have e1 : u3.cell? ⟨w.heap.size, 1, none⟩ = some (.int .u64 y) := by rw [HK3.out.cell]; rfl
      have f0 : u3.cell? ⟨w.heap.size + 1, 0, none⟩ = some (.int .u64 x') := by rw [HK3b.out.cell]; rfl
      have f1 : u3.cell? ⟨w.heap.size + 1, 1, none⟩ = some (.int .u64 y') := by rw [HK3b.out.cell]; rfl
      go_wp2_with fail
      (with_reducible refine (HR2.out).mono ?_)
      rintro e u4 ⟨rfl, hb⟩
      have HB4 := Lib.hid (HB3.out.trans (hb.mono HB3.out.size))
      have HK4 := Lib.hid (HK3.out.below hb)
      have HK4b := Lib.hid (HK3b.out.below hb)
      have HK4c := Lib.hid (HK3c.out.below hb)
      have HS4 := Lib.hid (HAS.out sa sc u4 (HD3.out.ahead hb))
      clear hb HR2 HB3 HK3 HK3b HK3c HD3 e0 e1 f0 f1 HAS
      have f0 : u4.cell? ⟨w.heap.size + 1, 0, none⟩ = some (.int .u64 x') := by rw [HK4b.out.cell]; rfl
      have f1 : u4.cell? ⟨w.heap.size + 1, 1, none⟩ = some (.int .u64 y') := by rw [HK4b.out.cell]; rfl
      cases hX : decide ((x', y') ∈ L) with
      | false =>
        rw [hX] at HS4
        clear HF4 hX
        go_wp2_with fail
        (with_reducible refine (HS4.out).mono ?_)
        rintro e u5 ⟨rfl, hb⟩
        have HB5 := Lib.hid (HB4.out.trans (hb.mono HB4.out.size))
        have HA5 := Lib.hid (HAW.out u5)
        clear hb HS4 HB4 HK4 HK4b HK4c f0 f1
        go_wp2_with fail
        (with_reducible refine (HA5.out).mono ?_)
        rintro e u6 ⟨rfl, hb⟩
        have HB6 := Lib.hid (HB5.out.trans (hb.mono HB5.out.size))
        clear hb
        go_wp2_with fail
        go_ret
        exact ⟨rfl, HB6.out⟩
      | true =>
        rw [hX] at HS4
        obtain ⟨g1, z, zw, g2, g3, g4⟩ := HF4.out (by simpa using hX)
        rw [g1] at HRba
        rw [g2] at HRbc
        rw [g3] at HRac
        have hde : decide ((x, y) = (x', y')) = (x == x' && y == y') := by
          by_cases h5 : x = x' <;> by_cases h6 : y = y' <;> simp [h5, h6]
        rw [hde] at HRba
        have qd := fun W => eql_dig x y x' y' W
        clear HF4 hX g1 g2 g3 hde
        go_wp2_with fail
        (with_reducible refine (HS4.out).mono ?_)
        rintro e u5 ⟨rfl, hb⟩
        have HB5 := Lib.hid (HB4.out.trans (hb.mono HB4.out.size))
        have HK5 := Lib.hid (HK4.out.below hb)
        have HK5b := Lib.hid (HK4b.out.below hb)
        have HK5c := Lib.hid (HK4c.out.below hb)
        have HR5 := Lib.hid (HRba.out u5 HB5.out)
        clear hb HS4 HB4 HK4 HK4b HK4c f0 f1 HRba
        have e0 : u5.cell? ⟨w.heap.size, 0, none⟩ = some (.int .u64 x) := by rw [HK5.out.cell]; rfl
        have e1 : u5.cell? ⟨w.heap.size, 1, none⟩ = some (.int .u64 y) := by rw [HK5.out.cell]; rfl
        have f0 : u5.cell? ⟨w.heap.size + 1, 0, none⟩ = some (.int .u64 x') := by rw [HK5b.out.cell]; rfl
        have f1 : u5.cell? ⟨w.heap.size + 1, 1, none⟩ = some (.int .u64 y') := by rw [HK5b.out.cell]; rfl
        go_wp2_with fail
        (with_reducible refine (HR5.out).mono ?_)
        rintro e u6 ⟨rfl, hb⟩
        have HB6 := Lib.hid (HB5.out.trans (hb.mono HB5.out.size))
        have HK6 := Lib.hid (HK5.out.below hb)
        have HK6b := Lib.hid (HK5b.out.below hb)
        have HK6c := Lib.hid (HK5c.out.below hb)
        have HR6 := Lib.hid (HRbc.out u6 HB6.out)
        clear hb HR5 HB5 HK5 HK5b HK5c e0 e1 f0 f1 HRbc
        have f0 : u6.cell? ⟨w.heap.size + 1, 0, none⟩ = some (.int .u64 x') := by rw [HK6b.out.cell]; rfl
        have f1 : u6.cell? ⟨w.heap.size + 1, 1, none⟩ = some (.int .u64 y') := by rw [HK6b.out.cell]; rfl
        have g0 : u6.cell? ⟨w.heap.size + 2, 0, none⟩ = some (.int .u64 x2) := by rw [HK6c.out.cell]; rfl
        have g1 : u6.cell? ⟨w.heap.size + 2, 1, none⟩ = some (.int .u64 y2) := by rw [HK6c.out.cell]; rfl
        go_wp2_with fail
        (with_reducible refine (HR6.out).mono ?_)
        rintro e u7 ⟨rfl, hb⟩
        have HB7 := Lib.hid (HB6.out.trans (hb.mono HB6.out.size))
        have HK7 := Lib.hid (HK6.out.below hb)
        have HK7b := Lib.hid (HK6b.out.below hb)
        have HK7c := Lib.hid (HK6c.out.below hb)
        have HR7 := Lib.hid (HRac.out u7 HB7.out)
        clear hb HR6 HB6 HK6 HK6b HK6c f0 f1 g0 g1 HRac
        have e0 : u7.cell? ⟨w.heap.size, 0, none⟩ = some (.int .u64 x) := by rw [HK7.out.cell]; rfl
        have e1 : u7.cell? ⟨w.heap.size, 1, none⟩ = some (.int .u64 y) := by rw [HK7.out.cell]; rfl
        have g0 : u7.cell? ⟨w.heap.size + 2, 0, none⟩ = some (.int .u64 x2) := by rw [HK7c.out.cell]; rfl
        have g1 : u7.cell? ⟨w.heap.size + 2, 1, none⟩ = some (.int .u64 y2) := by rw [HK7c.out.cell]; rfl
        go_wp2_with fail
        (with_reducible refine (HR7.out).mono ?_)
        rintro e u8 ⟨rfl, hb⟩
        have HB8 := Lib.hid (HB7.out.trans (hb.mono HB7.out.size))
        have HK8 := Lib.hid (HK7.out.below hb)
        have HK8b := Lib.hid (HK7b.out.below hb)
        have HA8 := Lib.hid (HAW.out u8)
        clear hb HR7 HB7 HK7 HK7b HK7c e0 e1 g0 g1
        have e0 : u8.cell? ⟨w.heap.size, 0, none⟩ = some (.int .u64 x) := by rw [HK8.out.cell]; rfl
        have e1 : u8.cell? ⟨w.heap.size, 1, none⟩ = some (.int .u64 y) := by rw [HK8.out.cell]; rfl
        have f0 : u8.cell? ⟨w.heap.size + 1, 0, none⟩ = some (.int .u64 x') := by rw [HK8b.out.cell]; rfl
        have f1 : u8.cell? ⟨w.heap.size + 1, 1, none⟩ = some (.int .u64 y') := by rw [HK8b.out.cell]; rfl
        cases hq : (x == x' && y == y') <;> (
          rw [hq] at qd
          simp only [hq]
          cases hzb : z with
          | false =>
            go_wp2_with fail
            (with_reducible refine (HA8.out).mono ?_)
            rintro e u9 ⟨rfl, hb⟩
            have HB9 := Lib.hid (HB8.out.trans (hb.mono HB8.out.size))
            clear hb
            go_wp2_with fail
            go_ret
            exact ⟨rfl, HB9.out⟩
          | true =>
            have hw := g4 hzb
            subst hw
            go_wp2_with fail
            (with_reducible refine (HA8.out).mono ?_)
            rintro e u9 ⟨rfl, hb⟩
            have HB9 := Lib.hid (HB8.out.trans (hb.mono HB8.out.size))
            clear hb
            go_wp2_with fail
            go_ret
            exact ⟨rfl, HB9.out⟩)
    · have HRE1 := Lib.hid (fun W hW => HRE.out x y x y W hW h1 h1)
      rw [reachesS_err her] at HRE1
      rw [ancS_err her] at HAN
      clear HRE h1 h2 h3 hv hV
      generalize (visS xs [(x, y)] []).2 = er at HRE1 HAN her
      have hee : (er != 0) = true := by simpa using her
      have hez : (er == 0) = false := by simpa using her
      have hen : (er != er) = false := by simp
      simp only [List.length_nil, List.length_cons, Nat.zero_add] at HAN
      clear her
      generalize xs.length = n at HVA HAN HRE1 ⊢
      go_enter Tryz.func4, Tryz.ntmps4
      go_wp2_with fail
      (with_reducible refine (HVA.out).mono ?_)
      rintro e u ⟨rfl, hb⟩
      rw [← HW0.out] at hb
      have HB1 := Lib.hid (HB0.out.trans (hb.mono HB0.out.size))
      have HKu := Lib.hid (HK1.out.below hb)
      have e0 : u.cell? ⟨w.heap.size, 0, none⟩ = some (.int .u64 x) := by rw [HKu.out.cell]; rfl
      have e1 : u.cell? ⟨w.heap.size, 1, none⟩ = some (.int .u64 y) := by rw [HKu.out.cell]; rfl
      obtain ⟨v, hv⟩ : ∃ v, v = u.alloc (.cells #[.int .u64 x, .int .u64 y] 32) := ⟨_, rfl⟩
      have hbv : Below u.heap.size u v := by rw [hv]; exact (Below.refl _ _).alloc (Nat.le_refl _) _
      have HBv := Lib.hid (HB1.out.trans (hbv.mono HB1.out.size))
      have HA1 := Lib.hid (HAN.out v HBv.out u.heap.size (by rw [hv]; exact BK.new _ _ _))
      have HKv := Lib.hid (HKu.out.below hbv)
      rw [hv] at HA1
      have HV := Lib.hid hv
      clear hb hbv hv HVA HW0 HB0 HAN HK1 HK2 HK3
      go_wp2_with fail
      (with_reducible refine (HA1.out).mono ?_)
      rintro e u2 ⟨sa, sc, rfl, _, hb⟩
      rw [← HV.out] at hb
      simp only [List.length_nil]
      have HB2 := Lib.hid (HBv.out.trans (hb.mono HBv.out.size))
      have HK2 := Lib.hid (HKv.out.below hb)
      have HR1 := Lib.hid (HRE1.out u2 HB2.out)
      clear hb HA1 HV HBv HKv HKu HB1 e0 e1 HRE1
      have e0 : u2.cell? ⟨w.heap.size, 0, none⟩ = some (.int .u64 x) := by rw [HK2.out.cell]; rfl
      have e1 : u2.cell? ⟨w.heap.size, 1, none⟩ = some (.int .u64 y) := by rw [HK2.out.cell]; rfl
      go_wp2_with fail
      (with_reducible refine (HR1.out).mono ?_)
      rintro e u3 ⟨rfl, hb⟩
      have HB3 := Lib.hid (HB2.out.trans (hb.mono HB2.out.size))
      have HA3 := Lib.hid (HAW.out u3)
      clear hb HR1 HB2 HK2 e0 e1
      go_wp2_with fail
      (with_reducible refine (HA3.out).mono ?_)
      rintro e u4 ⟨rfl, hb⟩
      have HB4 := Lib.hid (HB3.out.trans (hb.mono HB3.out.size))
      clear hb
      go_wp2_with fail
      go_ret
      exact ⟨rfl, HB4.out⟩

end Go.Proofs.YtgdhkcocdmdoaaaGreat.historyReaching
