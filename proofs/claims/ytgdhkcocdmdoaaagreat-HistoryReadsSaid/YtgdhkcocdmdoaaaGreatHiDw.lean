/- history.depths: the closure that calls itself, and the range over the map. -/
import Derived.Test.YtgdhkcocdmdoaaaGreatHiVi
import Derived.Test.YtgdhkcocdmdoaaaGreatHiDp
namespace Go.Proofs.YtgdhkcocdmdoaaaGreat
open Go.RowKit Go.Shelf
set_option linter.unusedVariables false

theorem zeroI (W : World) : (zeroValue 3).run Tryz.prog W = .ok (.int .i64 0) W := by kernel_rfl
def FK (K : Int × Int → Option Nat) (d : Int × Int) : Option Value := (K d).map fun k => .int .i64 (k : Int)
theorem MapV.obj {b n : Nat} {F : Int × Int → Option Value} {W : World} (h : MapV b n F W) : ∃ es c, W.heap[b]? = some (.map es c) := by
  obtain ⟨D, ⟨es, c, hb, _⟩, _⟩ := h
  exact ⟨es, c, hb⟩
/-- The state of depths: the map of parents, the known depths, three boxes. -/
structure DV (xs : List Itm) (B b nb : Nat) (met : List (Int × Int)) (A : Int × Int → Option Addr × Nat) (kd n : Nat) (K : Int × Int → Option Nat) (kb mb db : Nat) (W : World) : Prop where
  vm : VM xs B b nb met A W
  km : MapV kd n (FK K) W
  k1 : BK kb #[.map (some kd)] 67 W
  k2 : BK mb #[.map (some b)] 63 W
  k3 : BK db #[.func (.func 65) #[] #[.pointer (some ⟨kb, 0, none⟩), .pointer (some ⟨mb, 0, none⟩), .pointer (some ⟨db, 0, none⟩)]] 94 W
  ne : kd ≠ b
section
variable {xs : List Itm} {B b nb kd n kb mb db : Nat} {met : List (Int × Int)} {A : Int × Int → Option Addr × Nat} {K : Int × Int → Option Nat} {W W' : World}
theorem DV.below (h : DV xs B b nb met A kd n K kb mb db W) (hb : Below W.heap.size W W') : DV xs B b nb met A kd n K kb mb db W' := ⟨h.vm.below hb, h.km.below hb, h.k1.below hb, h.k2.below hb, h.k3.below hb, h.ne⟩
theorem DV.alloc (h : DV xs B b nb met A kd n K kb mb db W) (o : Obj) : DV xs B b nb met A kd n K kb mb db (W.alloc o) := h.below ((Below.refl _ _).alloc (Nat.le_refl _) _)
theorem DV.put (h : DV xs B b nb met A kd n K kb mb db W) {x y : Int} (hd : OkD (x, y)) (hn : (n : Int) ≤ 1000000000) (k : Nat) :
    ∃ W', (Instr.mapUpdate 67 (.map (some kd)) (.agg #[.int .u64 x, .int .u64 y]) (.int .i64 (k : Int))).run Tryz.prog W = .ok () W' ∧ DV xs B b nb met A kd (n + 1) (fun d => if d = (x, y) then some k else K d) kb mb db W' ∧ W.grownBy W' (some kd) ∧ W'.heap.size = W.heap.size := by
  obtain ⟨W', hrun, hm, hg, hs⟩ := h.km.put Tryz.underlying67 hd hn (.int .i64 (k : Int))
  obtain ⟨es, c, ho⟩ := h.km.obj
  have hbk : ∀ {p : Nat} {cs : Array Value} {t : TypeId}, BK p cs t W → kd ≠ p := fun hp e => by
    rw [e, show W.heap[_]? = _ from hp] at ho
    cases ho
  refine ⟨W', hrun, ⟨h.vm.kept hg (fun e => h.ne (Option.some.inj e)) (fun j e d hd hp ad ha => ?_), hm.eq (fun d => ?_), h.k1.grow1 hg (hbk h.k1), h.k2.grow1 hg (hbk h.k2), h.k3.grow1 hg (hbk h.k3), h.ne⟩, hg, hs⟩
  · cases e
    exact digs_cells (h.vm.pr d hd).1 hp ha ho rfl
  · unfold FK
    by_cases e : d = (x, y) <;> simp [e]
end
def unk (met : List (Int × Int)) (K : Int × Int → Option Nat) : Nat := met.countP fun d => (K d).isNone
/-- What the closure leaves. -/
def GotD1 (xs : List Itm) (B b nb : Nat) (met : List (Int × Int)) (A : Int × Int → Option Addr × Nat) (kd n : Nat) (K : Int × Int → Option Nat) (kb mb db : Nat) (d : Int × Int) (W : World) (e : Ending) (W' : World) : Prop :=
  e = .returned (.int .i64 ((depS xs d : Nat) : Int)) ∧ W.grownBy W' (some kd) ∧ ∃ n' K', DV xs B b nb met A kd n' K' kb mb db W' ∧ (∀ e, K' e = K e ∨ (K' e = some (depS xs e) ∧ Anc xs d e)) ∧ K' d = some (depS xs d) ∧ n' + 2 * unk met K' ≤ n + 2 * unk met K
theorem foldl_snoc_max (l : List Nat) (a : Nat) : (l ++ [a]).foldl max 0 = max (l.foldl max 0) a := by rw [List.foldl_append]; rfl
theorem goI_max (a b : Nat) : (if (a : Int) < (b : Int) then (b : Int) else (a : Int)) = ((max a b : Nat) : Int) := by
  by_cases h : a < b
  · rw [if_pos (by omega)]; omega
  · rw [if_neg (by omega)]; omega

set_option maxRecDepth 100000 in
set_option maxHeartbeats 8000000 in
theorem depth1_any (xs : List Itm) (B b nb : Nat) (met : List (Int × Int)) (A : Int × Int → Option Addr × Nat) (kd kb mb db : Nat) (hA : AcyS xs) (hcl : ∀ d ∈ met, (commitS xs d).2 = 0 ∧ ∀ p ∈ (commitS xs d).1.pars, p ∈ met) (hok : ∀ d ∈ met, OkD d) (hxl : (xs.length : Int) ≤ 500) :
    ∀ (f : Nat) (x y : Int) (n : Nat) (K : Int × Int → Option Nat) (W : World), rkS xs (x, y) < f → (x, y) ∈ met → DV xs B b nb met A kd n K kb mb db W → ((n + 2 * unk met K : Nat) : Int) ≤ 1000000 → (∀ e, Anc xs (x, y) e → ∀ k, K e = some k → k = depS xs e) →
    Calls Tryz.prog 65 #[.agg #[.int .u64 x, .int .u64 y], .pointer (some ⟨kb, 0, none⟩), .pointer (some ⟨mb, 0, none⟩), .pointer (some ⟨db, 0, none⟩)] W (GotD1 xs B b nb met A kd n K kb mb db (x, y) W) := by
  intro f
  induction f with
  | zero => intro x y n K W h; omega
  | succ f ih =>
    intro x y n K W hrk hmem hdv hnb hK
    have HIH := Lib.hid ih
    clear ih
    have hokd := hok _ hmem
    have hdl : depS xs (x, y) ≤ xs.length := Nat.le_trans (dep_rk hA _ _ (Nat.le_refl _)) (rk_le xs _)
    obtain ⟨W1, hW1⟩ : ∃ W1, W1 = W.alloc (.cells #[.int .u64 x, .int .u64 y] 32) := ⟨_, rfl⟩
    have HD1 : Hid (DV xs B b nb met A kd n K kb mb db W1) := Lib.hid (by rw [hW1]; exact hdv.alloc _)
    have HB1 : Hid (BK W.heap.size #[.int .u64 x, .int .u64 y] 32 W1) := Lib.hid (by rw [hW1]; exact BK.new _ _ _)
    have hlk := HD1.out.km.lookOk Tryz.underlying67 (zeroI W1) hokd
    have a1 : W1.cell? ⟨kb, 0, none⟩ = some (.map (some kd)) := by rw [HD1.out.k1.cell]; rfl
    have HG1 : Hid (W.grownBy W1 (some kd)) := Lib.hid (by rw [hW1]; exact World.grownBy_alloc _ _ _)
    cases hk : K (x, y) with
    | some k =>
      obtain rfl : k = depS xs (x, y) := hK _ (.refl _) k hk
      simp [FK, hk] at hlk
      have HX : Hid (GotD1 xs B b nb met A kd n K kb mb db (x, y) W (.returned (.int .i64 ((depS xs (x, y) : Nat) : Int))) W1) := Lib.hid ⟨rfl, HG1.out, n, K, HD1.out, fun e => .inl rfl, hk, Nat.le_refl _⟩
      rw [hW1] at hlk a1 HX
      clear hW1 HD1 HB1 HG1 hdv hK hrk hnb hdl HIH hk hcl hok hA
      generalize depS xs (x, y) = R at HX hlk
      go_enter Tryz.func65, Tryz.ntmps65
      go_wp2_with fail
      go_ret
      exact HX.out
    | none =>
      simp [FK, hk] at hlk
      obtain ⟨W2, hrun, hdv2, hg2, hz2⟩ := HD1.out.put hokd (by omega) 0
      have HD2 := Lib.hid hdv2
      have HB2 : Hid (BK W.heap.size #[.int .u64 x, .int .u64 y] 32 W2) := Lib.hid (HB1.out.grow1 hg2 (by have := hdv.km.lt; omega))
      have HG2 : Hid (W.grownBy W2 (some kd)) := Lib.hid (HG1.out.andThen hg2 (fun j e => .inr e.symm.symm))
      have HUK : Hid (n + 1 + 2 * unk met (fun d => if d = (x, y) then some 0 else K d) + 1 ≤ n + 2 * unk met K) := Lib.hid (by
        have := countP_strict (p := fun d => ((fun d => if d = (x, y) then some 0 else K d) d : Option Nat).isNone) (q := fun d => (K d).isNone) (l := met) (x := (x, y)) (fun d _ h => by
          by_cases e : d = (x, y)
          · simp [e] at h
          · simpa [e] using h) hmem (by simp) (by simp [hk])
        unfold unk
        omega)
      have HK1 : Hid (∀ e, Anc xs (x, y) e → ∀ k, K e = some k → k = depS xs e) := Lib.hid hK
      have HC := Lib.hid (hcl _ hmem)
      have HMEM := Lib.hid hmem
      obtain ⟨K1, hK1⟩ : ∃ K1 : Int × Int → Option Nat, K1 = fun d => if d = (x, y) then some 0 else K d := ⟨_, rfl⟩
      rw [← hK1] at HD2 HUK
      have HKE : Hid (K1 (x, y) = some 0 ∧ ∀ e, e ≠ (x, y) → K1 e = K e) := Lib.hid (by rw [hK1]; exact ⟨by simp, fun e he => by simp [he]⟩)
      have b1 : W2.cell? ⟨kb, 0, none⟩ = some (.map (some kd)) := by rw [HD2.out.k1.cell]; rfl
      have b2 : W2.cell? ⟨mb, 0, none⟩ = some (.map (some b)) := by rw [HD2.out.k2.cell]; rfl
      have c0 : W2.cell? ⟨W.heap.size, 0, none⟩ = some (.int .u64 x) := by rw [HB2.out.cell]; rfl
      have c1 : W2.cell? ⟨W.heap.size, 1, none⟩ = some (.int .u64 y) := by rw [HB2.out.cell]; rfl
      have hpr := HD2.out.vm.pr _ hmem
      have hlm := HD2.out.vm.mp.look Tryz.underlying63 (zeroSl W2) hokd
      simp only [FA, if_pos hmem, Option.getD_some] at hlm
      have hpl := pars_le (HC.out.1)
      have HFIN : Hid (depS xs (x, y) = ((commitS xs (x, y)).1.pars.map fun p => depS xs p + 1).foldl max 0) := Lib.hid (depS_eq hA _)
      have HAC : Hid (∀ p ∈ (commitS xs (x, y)).1.pars, ¬ Anc xs p (x, y) ∧ rkS xs p < f ∧ p ∈ met ∧ (∀ e, Anc xs p e → Anc xs (x, y) e) ∧ depS xs p ≤ 500) := Lib.hid (fun p hp => ⟨hA _ _ HC.out.1 hp, by have := rk_lt hA HC.out.1 hp; omega, HC.out.2 p hp, fun e he => .step HC.out.1 hp he, by have := dep_rk hA _ p (Nat.le_refl _); have := rk_le xs p; omega⟩)
      obtain ⟨pars, hpars⟩ : ∃ pars, pars = (commitS xs (x, y)).1.pars := ⟨_, rfl⟩
      rw [← hpars] at hpr hlm hpl HFIN HAC
      generalize A (x, y) = AX at hpr hlm
      obtain ⟨pa, pc⟩ := AX
      simp only at hpr hlm
      obtain ⟨np, hnp⟩ : ∃ np, np = pars.length := ⟨_, rfl⟩
      rw [← hnp] at hlm hpl hpr
      have HNP := Lib.hid hnp
      have HPD := Lib.hid hpr.1
      have hnp2 := hpr.2
      rw [show (((0 : Nat) : Int)) = 0 from rfl] at hrun
      rw [hW1] at hlk a1 hrun
      clear hpars hpr hnp hK1 hdv2 hg2 hz2 hW1 HD1 HB1 HG1 hdv hK hrk hmem hcl hok hA hk hdl
      go_enter Tryz.func65, Tryz.ntmps65
      go_wp2_with fail
      go_loopw [8, 25] (fun v i wr => ∃ (k m : Nat) (n2 : Nat) (K2 : Int × Int → Option Nat), k ≤ np ∧ v = .int .i64 (m : Int) ∧ m ≤ 501 ∧ Hid (m = ((pars.take k).map fun p => depS xs p + 1).foldl max 0) ∧ i = .int .i64 k ∧ Hid (DV xs B b nb met A kd n2 K2 kb mb db wr) ∧ Hid (Digs wr.heap.size wr pa pars) ∧ Hid (BK W.heap.size #[.int .u64 x, .int .u64 y] 32 wr) ∧ Hid (W.grownBy wr (some kd)) ∧ Hid (n2 + 1 + 2 * unk met K2 ≤ n + 2 * unk met K) ∧ Hid (∀ e, K2 e = K1 e ∨ (K2 e = some (depS xs e) ∧ Anc xs (x, y) e ∧ e ≠ (x, y)))) (fun _ i _ => np - (intOf i).toNat)
      case atStart => exact ⟨0, 0, n + 1, K1, by omega, rfl, by omega, Lib.hid rfl, rfl, HD2, HPD, HB2, HG2, Lib.hid (by have := HUK.out; omega), Lib.hid (fun e => .inl rfl)⟩
      case round =>
        clear HD2 HPD HB2 HG2 HUK b1 b2 c0 c1 hlm hrun hlk a1
        obtain ⟨k, m, n2, K2, hk, rfl, hm5, HM, rfl, HDV, HPD, HB, HG, HU, HK2⟩ := hrel
        have b1 : wr.cell? ⟨kb, 0, none⟩ = some (.map (some kd)) := by rw [HDV.out.k1.cell]; rfl
        have b3 : wr.cell? ⟨db, 0, none⟩ = some (.func (.func 65) #[] #[.pointer (some ⟨kb, 0, none⟩), .pointer (some ⟨mb, 0, none⟩), .pointer (some ⟨db, 0, none⟩)]) := by rw [HDV.out.k3.cell]; rfl
        have c0 : wr.cell? ⟨W.heap.size, 0, none⟩ = some (.int .u64 x) := by rw [HB.out.cell]; rfl
        have c1 : wr.cell? ⟨W.heap.size, 1, none⟩ = some (.int .u64 y) := by rw [HB.out.cell]; rfl
        by_cases hlt : k < np
        · have h1 : k < pars.length := by have := HNP.out; omega
          obtain ⟨b0, of0, haa, hb0, q0, q1⟩ := HPD.out k h1
          subst haa
          have HTK : Hid (((pars.take (k + 1)).map fun p => depS xs p + 1).foldl max 0 = max m (depS xs pars[k] + 1)) := Lib.hid (by rw [List.take_succ_eq_append_getElem h1, List.map_append, HM.out]; exact foldl_snoc_max _ _)
          have HPK := Lib.hid (HAC.out _ (List.getElem_mem h1))
          generalize pars[k] = p at q0 q1 HTK HPK
          obtain ⟨p1, p2⟩ := p
          simp only at q0 q1
          have b3a := fun o => cell_a1 b3 o
          obtain ⟨u0, hu0⟩ : ∃ u0, u0 = wr.alloc (.cells #[.int .u64 p1, .int .u64 p2] 32) := ⟨_, rfl⟩
          have HDV0 : Hid (DV xs B b nb met A kd n2 K2 kb mb db u0) := Lib.hid (by rw [hu0]; exact HDV.out.alloc _)
          have HCALL := Lib.hid (HIH.out p1 p2 n2 K2 u0 HPK.out.2.1 HPK.out.2.2.1 HDV0.out (by have := HU.out; omega) (fun e he v hv => by
            have hne : e ≠ (x, y) := fun h => HPK.out.1 (by rw [← h]; exact he)
            rcases HK2.out e with h2 | h2
            · rw [h2, HKE.out.2 e hne] at hv
              exact HK1.out e (HPK.out.2.2.2.1 e he) v hv
            · rw [h2.1] at hv
              exact (Option.some.inj hv).symm))
          have hdp : depS xs (p1, p2) ≤ 500 := HPK.out.2.2.2.2
          rw [hu0] at HCALL
          have HU0 := Lib.hid hu0
          have hkn : (k : Int) < (np : Int) := by omega
          clear hu0
          go_wp2_with fail
          refine (HCALL.out).mono ?_
          rintro e u1 ⟨rfl, hg, n3, K3, hdv3, hk3, hkp, hn3⟩
          rw [← HU0.out] at hg
          have HDV3 := Lib.hid hdv3
          have hsz : u0.heap.size = wr.heap.size + 1 := by rw [HU0.out]; simp
          obtain ⟨es, c, ho⟩ := HDV0.out.km.obj
          have HPD3 : Hid (Digs u1.heap.size u1 (some ⟨b0, of0, none⟩) pars) := Lib.hid (by
            have h0 : Digs u0.heap.size u0 (some ⟨b0, of0, none⟩) pars := by rw [HU0.out]; exact HPD.out.ahead ((Below.refl _ _).alloc (Nat.le_refl _) _)
            exact h0.kept hg (fun hp ad e hk => digs_cells h0 hp e ho rfl (Option.some.inj hk)))
          have HB3 : Hid (BK W.heap.size #[.int .u64 x, .int .u64 y] 32 u1) := Lib.hid (by
            have h0 : BK W.heap.size #[.int .u64 x, .int .u64 y] 32 u0 := by rw [HU0.out]; exact HB.out.alloc _
            refine h0.grow1 hg (fun e => ?_)
            rw [e, show u0.heap[_]? = _ from h0] at ho
            cases ho)
          have HG3 : Hid (W.grownBy u1 (some kd)) := Lib.hid ((HG.out.andThen (by rw [HU0.out]; exact World.grownBy_alloc wr _ none) (fun j e => by cases e)).andThen hg (fun j e => .inr e.symm.symm))
          have HK3 : Hid (∀ e, K3 e = K1 e ∨ (K3 e = some (depS xs e) ∧ Anc xs (x, y) e ∧ e ≠ (x, y))) := Lib.hid (fun e => by
            rcases hk3 e with h | ⟨h, h'⟩
            · rw [h]; exact HK2.out e
            · exact .inr ⟨h, HPK.out.2.2.2.1 e h', fun e1 => HPK.out.1 (by rw [← e1]; exact h')⟩)
          have HU3 : Hid (n3 + 1 + 2 * unk met K3 ≤ n + 2 * unk met K) := Lib.hid (by have := HU.out; omega)
          have HM3 : Hid (max m (depS xs (p1, p2) + 1) = ((pars.take (k + 1)).map fun p => depS xs p + 1).foldl max 0) := Lib.hid HTK.out.symm
          clear hg hdv3 hk3 hkp hn3 HCALL HDV0 HDV HPD HB HG HK2 HU HM HTK b1 b3 c0 c1 q0 q1 b3a ho HPK HU0 hsz
          generalize depS xs (p1, p2) = dp at HM3 hdp
          have hmx : (m : Int) ≤ 501 := by omega
          have HMX : Hid (∀ z : Int, z = (max m (dp + 1) : Nat) → z = ((max m (dp + 1) : Nat) : Int)) := Lib.hid (fun z h => h)
          by_cases hlt2 : m < dp + 1
          · have e1 : max m (dp + 1) = dp + 1 := by omega
            rw [e1] at HM3
            have hi : (m : Int) < (dp : Int) + 1 := by omega
            go_wp2_with fail
            go_roundw
            case rel => exact ⟨k + 1, dp + 1, n3, K3, by omega, by go_num, by omega, HM3, by go_num, HDV3, HPD3, HB3, HG3, HU3, HK3⟩
            case measure => simp [intOf]; omega
          · have e1 : max m (dp + 1) = m := by omega
            rw [e1] at HM3
            have hi : ¬ (m : Int) < (dp : Int) + 1 := by omega
            go_wp2_with fail
            go_roundw
            case rel => exact ⟨k + 1, m, n3, K3, by omega, by go_num, by omega, HM3, by go_num, HDV3, HPD3, HB3, HG3, HU3, HK3⟩
            case measure => simp [intOf]; omega
        · have HR : Hid (m = depS xs (x, y)) := Lib.hid (by rw [HM.out, HFIN.out, List.take_of_length_le (by have := HNP.out; omega)])
          obtain ⟨W4, hrun, hdv4, hg4, hz4⟩ := HDV.out.put (x := x) (y := y) hokd (by have := HU.out; omega) m
          have HX : Hid (GotD1 xs B b nb met A kd n K kb mb db (x, y) W (.returned (.int .i64 (m : Int))) W4) := Lib.hid (by
            rw [HR.out] at hdv4 ⊢
            refine ⟨rfl, HG.out.andThen hg4 (fun j e => .inr e.symm.symm), n2 + 1, _, hdv4, fun e => ?_, by simp, ?_⟩
            · by_cases e1 : e = (x, y)
              · subst e1
                exact .inr ⟨by simp, .refl _⟩
              · simp only [if_neg e1]
                rcases HK2.out e with h2 | h2
                · exact .inl (by rw [h2, HKE.out.2 e e1])
                · exact .inr ⟨h2.1, h2.2.1⟩
            · have h5 : unk met (fun d => if d = (x, y) then some (depS xs (x, y)) else K2 d) ≤ unk met K2 := by
                unfold unk
                refine List.countP_mono_left (fun d _ h => ?_)
                by_cases e1 : d = (x, y)
                · simp [e1] at h
                · simpa [e1] using h
              have := HU.out
              omega)
          have hkn : ¬ (k : Int) < (np : Int) := by omega
          clear HDV HPD HB HG HU HK2 HM HR hdv4 hg4 hz4
          go_wp2_with fail
          go_ret
          exact HX.out

end Go.Proofs.YtgdhkcocdmdoaaaGreat
