/- history.Bases. -/
import Derived.Test.YtgdhkcocdmdoaaaGreatHiBt
namespace Go.Proofs.YtgdhkcocdmdoaaaGreat
open Go.RowKit Go.Shelf Go.Sort
set_option linter.unusedVariables false

theorem MapD.obj {b n : Nat} {M : Int × Int → Bool} {W : World} (h : MapD b n M W) : ∃ es c, W.heap[b]? = some (.map es c) := by
  obtain ⟨D, ⟨es, c, hb, _⟩, _⟩ := h
  exact ⟨es, c, hb⟩
open Classical in
/-- Parents of common ones. -/
noncomputable def worseS (xs : List Itm) (l r : List (Int × Int)) (d : Int × Int) : Bool := decide (∃ c ∈ l, c ∈ r ∧ d ∈ (commitS xs c).1.pars)
noncomputable def basesL (xs : List Itm) (l r : List (Int × Int)) : List (Int × Int) := sortS (l.filter fun d => decide (d ∈ r) && !worseS xs l r d)
noncomputable def basesS (xs : List Itm) (a b : Int × Int) : List (Int × Int) × Int := if (visS xs [a] []).2 ≠ 0 then ([], (visS xs [a] []).2) else if (visS xs [b] []).2 ≠ 0 then ([], (visS xs [b] []).2) else (basesL xs (visS xs [a] []).1 (visS xs [b] []).1, 0)
/-- The first loop. -/
structure B1 (xs : List Itm) (w : World) (b1 n1 : Nat) (l : List (Int × Int)) (A1 : Int × Int → Option Addr × Nat) (b2 n2 : Nat) (r : List (Int × Int)) (A2 : Int × Int → Option Addr × Nat) (wd ri N1 : Nat) (left : Int × Int → Bool) (cnt n : Nat) (M : Int × Int → Bool) (wr : World) : Prop where
  rg : RangeV b1 ri n1 (FA xs l A1) left cnt wr
  v1 : VM xs w.heap.size b1 n1 l A1 wr
  v2 : VM xs w.heap.size b2 n2 r A2 wr
  mp : MapD wd n M wr
  be : Below N1 w wr
  nn : n + 200 * cnt ≤ 400000000
section
variable {xs : List Itm} {w wr wr' : World} {b1 n1 b2 n2 wd ri N1 cnt n : Nat} {l r : List (Int × Int)} {A1 A2 : Int × Int → Option Addr × Nat} {left : Int × Int → Bool} {M : Int × Int → Bool}
theorem B1.below (h : B1 xs w b1 n1 l A1 b2 n2 r A2 wd ri N1 left cnt n M wr) (hN : N1 ≤ wr.heap.size) (hb : Below wr.heap.size wr wr') : B1 xs w b1 n1 l A1 b2 n2 r A2 wd ri N1 left cnt n M wr' := ⟨h.rg.below hb, h.v1.below hb, h.v2.below hb, h.mp.below hb, h.be.trans (hb.mono hN), h.nn⟩
theorem B1.put (h : B1 xs w b1 n1 l A1 b2 n2 r A2 wd ri N1 left cnt n M wr) {x y : Int} (hd : OkD (x, y)) (hN : N1 ≤ wd) (hw : N1 ≤ wr.heap.size) (h1 : wd ≠ b1) (h2 : wd ≠ b2) (h3 : wd ≠ ri) (hn : n + 1 + 200 * cnt ≤ 400000000) :
    ∃ W', (Instr.mapUpdate 70 (.map (some wd)) (.agg #[.int .u64 x, .int .u64 y]) (.bool true)).run Tryz.prog wr = .ok () W' ∧ B1 xs w b1 n1 l A1 b2 n2 r A2 wd ri N1 left cnt (n + 1) (fun d => M d || decide (d = (x, y))) W' ∧ wr.grownBy W' (some wd) := by
  obtain ⟨W', hrun, hm, hg⟩ := h.mp.put hd (by omega)
  obtain ⟨es, c, ho⟩ := h.mp.obj
  have hv : ∀ {b nb : Nat} {m : List (Int × Int)} {A : Int × Int → Option Addr × Nat}, wd ≠ b → VM xs w.heap.size b nb m A wr → VM xs w.heap.size b nb m A W' := fun hb hv =>
    hv.kept hg (fun e => hb (Option.some.inj e)) (fun j e d hd hp ad ha => by cases e; exact digs_cells (hv.pr d hd).1 hp ha ho rfl)
  exact ⟨W', hrun, ⟨h.rg.kept hg (fun e => h1 (Option.some.inj e).symm) (fun e => h3 (Option.some.inj e).symm), hv h1 h.v1, hv h2 h.v2, hm, h.be.grown hg hw (fun j e => by cases e; exact hN), hn⟩, hg⟩
end
/-- What worse holds when those not left have been gone through. -/
def WM (xs : List Itm) (l r : List (Int × Int)) (left : Int × Int → Bool) (M : Int × Int → Bool) : Prop := ∀ d, M d = true ↔ ∃ c ∈ l, left c = false ∧ c ∈ r ∧ d ∈ (commitS xs c).1.pars

/-- The second loop. -/
structure B2 (xs : List Itm) (w : World) (b1 n1 : Nat) (l : List (Int × Int)) (A1 : Int × Int → Option Addr × Nat) (b2 n2 : Nat) (r : List (Int × Int)) (A2 : Int × Int → Option Addr × Nat) (wd nw ri N1 S1 : Nat) (M : Int × Int → Bool) (v : Value) (wr : World) : Prop where
  ex : ∃ L left cnt, RangeV b1 ri n1 (FA xs l A1) left cnt wr ∧ wr.ownsRow S1 32 2 v L.length (dcells L) ∧ (∀ d, d ∈ L ↔ d ∈ l ∧ left d = false ∧ (decide (d ∈ r) && !M d) = true) ∧ L.Nodup ∧ L.length ≤ l.length
  v2 : VM xs w.heap.size b2 n2 r A2 wr
  mp : MapD wd nw M wr
  be : Below N1 w wr
  sz : S1 ≤ wr.heap.size
theorem sortS_ext {l l' : List (Int × Int)} (h : l.Nodup) (h' : l'.Nodup) (hm : ∀ d, d ∈ l ↔ d ∈ l') : sortS l = sortS l' := by
  refine ascD_ext (sortS_asc h) (sortS_asc h') (fun d => ?_)
  rw [(sortS_perm l).mem_iff, (sortS_perm l').mem_iff, hm]
theorem VM.weaken {xs : List Itm} {B B' b n : Nat} {met : List (Int × Int)} {A : Int × Int → Option Addr × Nat} {W : World} (h : VM xs B b n met A W) (hB : B' ≤ B) : VM xs B' b n met A W := ⟨h.mp, h.pr, fun d hd ad e => ⟨Nat.le_trans hB (h.pb d hd ad e).1, (h.pb d hd ad e).2⟩⟩

set_option maxRecDepth 100000 in
set_option maxHeartbeats 16000000 in
theorem bases_any (a : Option Addr) (xs : List Itm) (c : Nat) (x y x' y' : Int) (w : World) (hp : PoolIn w a xs c) (hA : Asc xs) (hok : OkD (x, y)) (hok' : OkD (x', y')) (hxl : (xs.length : Int) ≤ 500) :
    Calls Tryz.prog 19 #[.slice a xs.length c, .agg #[.int .u64 x, .int .u64 y], .agg #[.int .u64 x', .int .u64 y']] w (GotRo w (basesS xs (x, y) (x', y'))) := by
  obtain ⟨w4, hw4⟩ : ∃ w4, w4 = (((w.alloc (.cells #[.int .u64 x, .int .u64 y] 32)).alloc (.cells #[.int .u64 x', .int .u64 y'] 32)).alloc (.map #[] 0)).alloc (.map #[] 0) := ⟨_, rfl⟩
  have hz4 : w4.heap.size = w.heap.size + 4 := by rw [hw4]; simp
  have hb4 : Below w.heap.size w w4 := by
    rw [hw4]
    exact ((((Below.refl _ w).alloc (Nat.le_refl _) _).alloc (by simp) _).alloc (by simp; omega) _).alloc (by simp; omega) _
  have hm1 : MapV (w.heap.size + 2) 0 (fun _ => none) w4 := by
    rw [hw4]
    have h1 := (MapV.made ((w.alloc (.cells #[.int .u64 x, .int .u64 y] 32)).alloc (.cells #[.int .u64 x', .int .u64 y'] 32))).alloc (.map #[] 0)
    rwa [World.size_alloc, World.size_alloc] at h1
  have hm2 : MapV (w.heap.size + 3) 0 (fun _ => none) w4 := by
    rw [hw4]
    have h1 := MapV.made (((w.alloc (.cells #[.int .u64 x, .int .u64 y] 32)).alloc (.cells #[.int .u64 x', .int .u64 y'] 32)).alloc (.map #[] 0))
    rwa [World.size_alloc, World.size_alloc, World.size_alloc] at h1
  have hkb : BK (w.heap.size + 1) #[.int .u64 x', .int .u64 y'] 32 w4 := by rw [hw4]; exact ((BK.new2 _ _ _ _).alloc _).alloc _
  obtain ⟨w5, hw5⟩ : ∃ w5, w5 = w4.alloc (.cells #[.int .u64 x, .int .u64 y] 32) := ⟨_, rfl⟩
  have hk5 : BK (w.heap.size + 4) #[.int .u64 x, .int .u64 y] 32 w5 := by rw [hw5, ← hz4]; exact BK.new _ _ _
  have hb5 : Below w.heap.size w w5 := by rw [hw5]; exact hb4.alloc hb4.size _
  have HV := Lib.hid (visit_any w.heap.size a xs c (some ⟨w.heap.size + 4, 0, none⟩) [(x, y)] 1 (w.heap.size + 2) w5 (fun W hW => hp.below (hb5.trans hW)) hA (digs_one hk5) (fun d hd => by rw [List.mem_singleton.1 hd]; exact hok) (by rw [hw5]; exact hm1.alloc _) (by omega) hb5.size hxl (by simp))
  have HV2 := Lib.hid (fun W (hW : Below w.heap.size w W) (hm : MapV (w.heap.size + 3) 0 (fun _ => none) W) (q : Nat) (hk : BK q #[.int .u64 x', .int .u64 y'] 32 W) => visit_any w.heap.size a xs c (some ⟨q, 0, none⟩) [(x', y')] 1 (w.heap.size + 3) W (fun W' hW' => hp.below (hW.trans hW')) hA (digs_one hk) (fun d hd => by rw [List.mem_singleton.1 hd]; exact hok') hm (by omega) hW.size hxl (by simp))
  have HF := Lib.hid (fun h => vis_facts (xs := xs) (heads := [(x, y)]) h (fun d hd => by rw [List.mem_singleton.1 hd]; exact hok))
  have HB5 := Lib.hid hb5
  have HM5 : Hid (MapV (w.heap.size + 3) 0 (fun _ => none) w5) := Lib.hid (by rw [hw5]; exact hm2.alloc _)
  have HK5 : Hid (BK (w.heap.size + 1) #[.int .u64 x', .int .u64 y'] 32 w5) := Lib.hid (by rw [hw5]; exact hkb.alloc _)
  have hz5 : w5.heap.size = w.heap.size + 5 := by rw [hw5]; simp; omega
  have HX : Hid (∃ R, R = basesS xs (x, y) (x', y') ∧ R = if (visS xs [(x, y)] []).2 ≠ 0 then ([], (visS xs [(x, y)] []).2) else if (visS xs [(x', y')] []).2 ≠ 0 then ([], (visS xs [(x', y')] []).2) else (basesL xs (visS xs [(x, y)] []).1 (visS xs [(x', y')] []).1, 0)) := Lib.hid ⟨_, rfl, rfl⟩
  obtain ⟨R, hR1, hR2⟩ := HX.out
  rw [← hR1]
  unfold GotV at HV HV2
  generalize visS xs [(x, y)] [] = VR at HV HF hR2
  obtain ⟨l, er⟩ := VR
  generalize visS xs [(x', y')] [] = VO at HV2 hR2
  obtain ⟨r, er2⟩ := VO
  simp only at HV HV2 HF hR2
  have HR := Lib.hid hR2
  rw [hw5, hw4] at HV
  have HW5 : Hid (w5 = ((((w.alloc (.cells #[.int .u64 x, .int .u64 y] 32)).alloc (.cells #[.int .u64 x', .int .u64 y'] 32)).alloc (.map #[] 0)).alloc (.map #[] 0)).alloc (.cells #[.int .u64 x, .int .u64 y] 32)) := Lib.hid (by rw [hw5, hw4])
  have hmm := @run_makeMap Tryz.prog
  have HXL := Lib.hid hxl
  obtain ⟨n, hn⟩ : ∃ n, n = xs.length := ⟨_, rfl⟩
  rw [← hn] at HV HV2 ⊢
  simp only [List.length_cons, List.length_nil, Nat.zero_add] at HV HV2
  clear hp hA hok hok' hb5 hb4 hR1 hR2 HX hn hkb hk5 hm1 hm2 hw5 hw4 hz4 hxl
  go_enter Tryz.func19, Tryz.ntmps19
  go_wp2_with fail
  refine (HV.out).mono ?_
  rintro e W1 ⟨rfl, hg, hvm⟩
  rw [← HW5.out] at hg hvm
  have HB1' : Hid (Below w.heap.size w W1) := Lib.hid (HB5.out.grown hg HB5.out.size (fun j e => by cases e; omega))
  have HM1' : Hid (MapV (w.heap.size + 3) 0 (fun _ => none) W1) := Lib.hid (HM5.out.kept hg (fun e => by have := Option.some.inj e; omega))
  have HK1' : Hid (BK (w.heap.size + 1) #[.int .u64 x', .int .u64 y'] 32 W1) := Lib.hid (HK5.out.grow1 hg (by omega))
  have HSZ : Hid (w5.heap.size ≤ W1.heap.size) := Lib.hid hg.size
  by_cases he : er = 0
  · subst he
    obtain ⟨n1, A1, hn1, hv1⟩ := hvm rfl
    have HF1 := Lib.hid (HF.out rfl)
    obtain ⟨W2', hW2'⟩ : ∃ W2', W2' = W1.alloc (.cells #[.int .u64 x', .int .u64 y'] 32) := ⟨_, rfl⟩
    have HB2' : Hid (Below w.heap.size w W2') := Lib.hid (by rw [hW2']; exact HB1'.out.alloc HB1'.out.size _)
    have HC2 := Lib.hid (HV2.out W2' HB2'.out (by rw [hW2']; exact HM1'.out.alloc _) W1.heap.size (by rw [hW2']; exact BK.new _ _ _))
    have HVM' : Hid (VM xs w5.heap.size (w.heap.size + 2) n1 l A1 W2') := Lib.hid (by rw [hW2']; exact hv1.alloc _)
    have c0 : W1.cell? ⟨w.heap.size + 1, 0, none⟩ = some (.int .u64 x') := by rw [HK1'.out.cell]; rfl
    have c1 : W1.cell? ⟨w.heap.size + 1, 1, none⟩ = some (.int .u64 y') := by rw [HK1'.out.cell]; rfl
    rw [hW2'] at HC2
    have HW2' := Lib.hid hW2'
    have HR2 : Hid (R = if er2 ≠ 0 then ([], er2) else (basesL xs l r, 0)) := Lib.hid (by rw [HR.out]; simp)
    clear hg hvm hv1 HV HV2 HF HR HM5 HK5 HB5 HW5 hW2' HB1' HM1' HK1'
    go_wp2_with fail
    refine (HC2.out).mono ?_
    rintro e W2 ⟨rfl, hg, hvm⟩
    rw [← HW2'.out] at hg hvm
    have HB2 : Hid (Below w.heap.size w W2) := Lib.hid (HB2'.out.grown hg HB2'.out.size (fun j e => by cases e; omega))
    have HV1 : Hid (VM xs w.heap.size (w.heap.size + 2) n1 l A1 W2) := Lib.hid ((HVM'.out.kept hg (fun e => by have := Option.some.inj e; omega) (fun j e d hd hp ad ha => by cases e; have := (HVM'.out.pb d hd ad ha).1; omega)).weaken (by omega))
    by_cases he2 : er2 = 0
    · subst he2
      obtain ⟨n2, A2, hn2, hv2⟩ := hvm rfl
      have HV2 : Hid (VM xs w.heap.size (w.heap.size + 3) n2 r A2 W2) := Lib.hid (hv2.weaken HB2'.out.size)
      have HR3 : Hid (R = (basesL xs l r, 0)) := Lib.hid (by rw [HR2.out]; simp)
      have hz2 := HB2.out.size
      have hz2b : w.heap.size + 5 ≤ W2.heap.size := by
        have h1 := hg.size
        have h2 := HVM'.out.mp.lt
        have h3 : w5.heap.size + 0 ≤ W2'.heap.size := by
          have := HV1.out.mp.lt
          have h4 := hg.size
          have h5 := HVM'.out
          rw [HW2'.out, World.size_alloc]
          have h6 : w5.heap.size ≤ W1.heap.size := HSZ.out
          omega
        omega
      have hz2c := hz2b
      have HFL := Lib.hid (show l.length ≤ 500 from by have := HF1.out.le; have := HXL.out; omega)
      obtain ⟨W3, hW3⟩ : ∃ W3, W3 = W2.alloc (.map #[] 0) := ⟨_, rfl⟩
      have hz3 : W3.heap.size = W2.heap.size + 1 := by rw [hW3]; simp
      have hb3' : Below W2.heap.size W2 W3 := by rw [hW3]; exact (Below.refl _ _).alloc (Nat.le_refl _) _
      have hmd : MapD W2.heap.size 0 (fun _ => false) W3 := by rw [hW3]; exact MapD.made W2
      obtain ⟨W4, hrange, ⟨cnt, hcnt, hrg⟩, hg4, hz4⟩ := (HV1.out.below hb3').mp.range Tryz.underlying63
      have hb4 : Below W3.heap.size W3 W4 := ⟨hg4.os, hg4.tape, hg4.output, hg4.size, fun k hk => hg4.block k hk (by simp)⟩
      rw [hz3] at hrange hrg
      have HL0 : Hid (∃ left cnt nM M, B1 xs w (w.heap.size + 2) n1 l A1 (w.heap.size + 3) n2 r A2 W2.heap.size (W2.heap.size + 1) w.heap.size left cnt nM M W4 ∧ WM xs l r left M) := Lib.hid
        ⟨_, cnt, 0, fun _ => false, ⟨hrg, (HV1.out.below hb3').below hb4, (HV2.out.below hb3').below hb4, hmd.below hb4, (HB2.out.trans (hb3'.mono HB2.out.size)).trans (hb4.mono (by omega)), by omega⟩, fun d => by
          constructor
          · intro h; cases h
          · rintro ⟨cc, h1, h2, _⟩; simp [FA, h1] at h2⟩
      rw [hW3] at hrange
      have HPB : Hid (∀ d ∈ r, ∀ ad, (A2 d).1 = some ad → ad.block < W2.heap.size) := Lib.hid (fun d hd ad e => (hv2.pb d hd ad e).2.1)
      have HPB1 : Hid (∀ d ∈ l, ∀ ad, (A1 d).1 = some ad → ad.block < W2.heap.size) := Lib.hid (fun d hd ad e => (HV1.out.pb d hd ad e).2.1)
      obtain ⟨S, hS⟩ : ∃ S, S = W2.heap.size := ⟨_, rfl⟩
      rw [← hS] at HL0 hz2c HPB HPB1
      clear hg hvm hv2 hW3 hz3 hb3' hmd hrg hg4 hb4 hz4 HB2 HV1 HV2 HR2 HVM' HW2' HB2' hz2b hz2 c0 c1 HC2
      go_wp2_with fail
      rw [← hS]
      clear hrange hS W2 W2' HSZ
      go_loopw [13] (fun _ wr => Hid (∃ left cnt nM M, B1 xs w (w.heap.size + 2) n1 l A1 (w.heap.size + 3) n2 r A2 S (S + 1) w.heap.size left cnt nM M wr ∧ WM xs l r left M)) (fun _ wr => wr.rangeLeft (w.heap.size + 2) (S + 1))
      case atStart => exact HL0
      case round =>
        clear HL0
        obtain ⟨left, cnt2, nM, M, hb1, hwm⟩ := hrel.out
        have HCNT := Lib.hid hb1.rg.left_eq
        rcases hb1.rg.next 0 with ⟨hl, hrun⟩ | ⟨dx, dy, u, W6, cnt3, hokd, hlx, hFx, hrun, hrg6, hlt, hg6, hz6, hen⟩
        · have HM : Hid (∀ d, M d = worseS xs l r d) := Lib.hid (fun d => by
            unfold worseS
            rw [Bool.eq_iff_iff, hwm d, decide_eq_true_iff]
            constructor
            · rintro ⟨cc, h1, _, h3, h4⟩; exact ⟨cc, h1, h3, h4⟩
            · rintro ⟨cc, h1, h3, h4⟩; exact ⟨cc, h1, hl cc (HF1.out.ok cc h1), h3, h4⟩)
          obtain ⟨W5, hrange5, ⟨cnt5, hcnt5, hrg5⟩, hg5, hz5⟩ := hb1.v1.mp.range Tryz.underlying63
          have hb5 : Below wr.heap.size wr W5 := ⟨hg5.os, hg5.tape, hg5.output, hg5.size, fun k hk => hg5.block k hk (by simp)⟩
          have hws := hb1.be.size
          have hwd := hb1.mp.lt
          obtain ⟨r2, hr2⟩ : ∃ r2, r2 = wr.heap.size := ⟨_, rfl⟩
          have HL1 : Hid (B2 xs w (w.heap.size + 2) n1 l A1 (w.heap.size + 3) n2 r A2 S nM r2 w.heap.size (r2 + 1) M (.slice none 0 0) W5) := Lib.hid
            ⟨⟨[], _, cnt5, by rw [hr2]; exact hrg5, World.ownsRow_nil _ _ _ _, fun d => by
              constructor
              · intro h; simp at h
              · rintro ⟨h1, h2, _⟩; simp [FA, h1] at h2, List.nodup_nil, by simp⟩, hb1.v2.below hb5, hb1.mp.below hb5, hb1.be.trans (hb5.mono hws), by omega⟩
          clear hb1 hwm hl hrg5 hg5 hb5 hrel HCNT hz5
          go_wp2_with fail
          rw [← hr2]
          have hr2s : S < r2 := by omega
          have hr2w : w.heap.size ≤ r2 := by omega
          clear hrange5 hr2 hrun hws hwd
          obtain ⟨x0, hx0⟩ : ∃ x0, x0 = wr := ⟨_, rfl⟩
          go_loopw [19] (fun v wx => Hid (B2 xs w (w.heap.size + 2) n1 l A1 (w.heap.size + 3) n2 r A2 S nM r2 w.heap.size (r2 + 1) M v wx)) (fun _ wx => wx.rangeLeft (w.heap.size + 2) r2)
          case atStart => exact HL1
          case round =>
            clear HL1 W5 hx0
            obtain ⟨⟨L, left, cnt2, hrg, hown, hL, hLn, hLl⟩, hv2, hmp, hbe, hsz⟩ := hrel.out
            obtain ⟨va, vc, rfl, hvc⟩ := ownsRow_sliceN hown
            have HCNT := Lib.hid hrg.left_eq
            have hfl := HFL.out
            rcases hrg.next 0 with ⟨hl, hrun⟩ | ⟨dx, dy, u, W6, cnt3, hokd, hlx, hFx, hrun, hrg6, hlt, hg6, hz6, hen⟩
            · have HSO := Lib.hid (sortD_any va L vc wr hown (by omega))
              have HEQ : Hid (sortS L = basesL xs l r ∧ L.length = (basesL xs l r).length) := Lib.hid (by
                have h1 : sortS L = basesL xs l r := sortS_ext hLn (HF1.out.nd.filter _) (fun d => by
                  rw [hL d, List.mem_filter, HM.out d]
                  constructor
                  · rintro ⟨h1, _, h3⟩; exact ⟨h1, h3⟩
                  · rintro ⟨h1, h3⟩; exact ⟨h1, hl d (HF1.out.ok d h1), h3⟩)
                exact ⟨h1, by rw [← h1, sortS_length]⟩)
              have HOW := Lib.hid hown
              have HBE := Lib.hid hbe
              clear hrg hown hL hLn hv2 hmp hbe hsz hrel HCNT hl
              obtain ⟨ln, hln⟩ : ∃ ln, ln = L.length := ⟨_, rfl⟩
              rw [← hln] at HSO HOW HEQ hvc ⊢
              clear hln
              go_wp2_with fail
              refine (HSO.out).mono ?_
              rintro e W7 ⟨rfl, hown7, hg7⟩
              have HX : Hid (GotRo w R (.returned (.tuple #[.slice va ln vc, .int .i64 0])) W7) := Lib.hid (by
                rw [HR3.out]
                rw [HEQ.out.1] at hown7
                refine ⟨va, vc, by rw [HEQ.out.2], ?_, HBE.out.grown hg7 HBE.out.size (fun j hj => by have := (HOW.out.lt _ hj).1; omega)⟩
                rw [← HEQ.out.2]
                exact own_le hown7 (by omega))
              clear hown7 hg7
              go_wp2_with fail
              go_ret2
              exact HX.out
            · have hmem : (dx, dy) ∈ l := by
                unfold FA at hFx
                by_cases h : (dx, dy) ∈ l
                · exact h
                · rw [if_neg h] at hFx; cases hFx
              obtain ⟨o6, ho6, hc6⟩ := hrg.obj
              have hbe6 : Below w.heap.size w W6 := hbe.grown hg6 hbe.size (fun j e => by cases e; exact hr2w)
              have hown6 : W6.ownsRow (r2 + 1) 32 2 (.slice va L.length vc) L.length (dcells L) := own_kept hown hg6 (by omega)
              have hbl3 := hv2.mp.lt
              have hv26 : VM xs w.heap.size (w.heap.size + 3) n2 r A2 W6 := hv2.kept hg6 (fun e => by have := Option.some.inj e; omega) (fun j e d hd hp ad ha => by cases e; exact digs_cells (hv2.pr d hd).1 hp ha ho6 hc6)
              have hmp6 : MapD S nM M W6 := hmp.kept hg6 (fun e => by have := Option.some.inj e; omega)
              obtain ⟨u0, hu0⟩ : ∃ u0, u0 = W6.alloc (.cells #[.int .u64 dx, .int .u64 dy] 32) := ⟨_, rfl⟩
              have HBE0 : Hid (Below w.heap.size w u0) := Lib.hid (by rw [hu0]; exact hbe6.alloc hbe6.size _)
              have HK0 : Hid (BK W6.heap.size #[.int .u64 dx, .int .u64 dy] 32 u0) := Lib.hid (by rw [hu0]; exact BK.new _ _ _)
              have HRG0 : Hid (RangeV (w.heap.size + 2) r2 n1 (FA xs l A1) (fun d => left d && !decide (d = (dx, dy))) cnt3 u0) := Lib.hid (by rw [hu0]; exact hrg6.alloc _)
              have HOW0 : Hid (u0.ownsRow (r2 + 1) 32 2 (.slice va L.length vc) L.length (dcells L)) := Lib.hid (by rw [hu0]; exact hown6.alloc _)
              have HV20 : Hid (VM xs w.heap.size (w.heap.size + 3) n2 r A2 u0) := Lib.hid (by rw [hu0]; exact hv26.alloc _)
              have HMP0 : Hid (MapD S nM M u0) := Lib.hid (by rw [hu0]; exact hmp6.alloc _)
              have hlk := HV20.out.mp.lookOk Tryz.underlying63 (zeroSl u0) hokd
              have hlw := HMP0.out.look hokd
              have HU0 := Lib.hid hu0
              have hzz : r2 + 1 ≤ u0.heap.size := by rw [hu0, World.size_alloc]; omega
              have HMEM := Lib.hid hmem
              have HLM := Lib.hid hL
              have HLN := Lib.hid hLn
              have HLT := Lib.hid hlt
              have HLX := Lib.hid hlx
              clear hrg hown hL hLn hv2 hmp hbe hsz hrel hmem hlt hlx hFx ho6 hbe6 hown6 hv26 hmp6 hrg6 hg6 hz6
              have HNEW : Hid ((decide ((dx, dy) ∈ r) && !M (dx, dy)) = false → B2 xs w (w.heap.size + 2) n1 l A1 (w.heap.size + 3) n2 r A2 S nM r2 w.heap.size (r2 + 1) M (.slice va L.length vc) u0 ∧ u0.rangeLeft (w.heap.size + 2) r2 = cnt3) := Lib.hid (fun hno => by
                refine ⟨⟨⟨L, _, cnt3, HRG0.out, HOW0.out, fun d => ?_, HLN.out, hLl⟩, HV20.out, HMP0.out, HBE0.out, hzz⟩, HRG0.out.left_eq⟩
                rw [HLM.out d]
                by_cases e1 : d = (dx, dy)
                · subst e1
                  rw [hno]
                  simp
                · simp [e1])
              by_cases hdr : (dx, dy) ∈ r
              · simp only [FA, if_pos hdr, Option.getD_some, Option.isSome_some] at hlk
                cases hMd : M (dx, dy) with
                | true =>
                  rw [hMd] at hlw
                  have HN2 := Lib.hid (HNEW.out (by rw [hMd]; simp))
                  have HDL := Lib.hid HN2.out.1
                  have HRL := Lib.hid HN2.out.2
                  rw [hu0] at hlk hlw
                  rw [HU0.out] at HDL HRL
                  clear HNEW HN2 HRG0 HOW0 HV20 HMP0 HBE0 HU0 HK0 hu0 HLM HLN hzz hMd hdr
                  go_wp2_with fail
                  go_roundw
                  case rel => exact HDL
                  case measure => rw [HRL.out, HCNT.out]; exact HLT.out
                | false =>
                  rw [hMd] at hlw
                  obtain ⟨v', W8, hrun8, hown8, hg8, hat8⟩ := append_one HOW0.out dx dy (by omega) hzz
                  have HNEW2 : Hid (B2 xs w (w.heap.size + 2) n1 l A1 (w.heap.size + 3) n2 r A2 S nM r2 w.heap.size (r2 + 1) M v' W8 ∧ W8.rangeLeft (w.heap.size + 2) r2 = cnt3) := Lib.hid (by
                    have hwn : ∀ j, (Value.slice va L.length vc).ownBlock = some j → r2 + 1 ≤ j := fun j e => (HOW0.out.lt _ e).1
                    have hrg1 := (HRG0.out.alloc (.cells #[.int .u64 dx, .int .u64 dy] 32)).kept hg8 (fun e => by have := hwn _ e.symm; omega) (fun e => by have := hwn _ e.symm; omega)
                    have hv3 : VM xs w.heap.size (w.heap.size + 3) n2 r A2 W8 := (HV20.out.alloc (.cells #[.int .u64 dx, .int .u64 dy] 32)).kept hg8 (fun e => by have := hwn _ e; omega) (fun j e d hd hp ad ha hj => by
                      have h9 := hwn j e
                      have h10 := HPB.out d hd ad ha
                      omega)
                    have h8 : (L ++ [(dx, dy)]).Nodup := nodup_snoc HLN.out (fun h => by have := ((HLM.out _).1 h).2.1; rw [HLX.out] at this; cases this)
                    refine ⟨⟨⟨L ++ [(dx, dy)], _, cnt3, hrg1, hown8, fun d => ?_, h8, ?_⟩, hv3, (HMP0.out.alloc _).kept hg8 (fun e => by have := hwn _ e.symm; omega), (HBE0.out.alloc HBE0.out.size _).grown hg8 (by have := HBE0.out.size; simp; omega) (fun j e => by have := hwn j e; omega), by have h5 := hg8.size; rw [World.size_alloc] at h5; omega⟩, hrg1.left_eq⟩
                    · rw [List.mem_append, HLM.out d, List.mem_singleton]
                      by_cases e1 : d = (dx, dy)
                      · subst e1; simp [hMd, hdr, HMEM.out]
                      · simp [e1]
                    · exact h8.length_le_of_subset (fun d hd => by
                        rcases List.mem_append.1 hd with h | h
                        · exact ((HLM.out d).1 h).1
                        · rw [List.mem_singleton.1 h]; exact HMEM.out))
                  have HDL := Lib.hid HNEW2.out.1
                  have HRL := Lib.hid HNEW2.out.2
                  rw [hu0] at hlk hlw hrun8
                  rw [World.size_alloc] at hrun8
                  have HRUN := Lib.hid hrun8
                  clear HNEW HNEW2 HRG0 HOW0 HV20 HMP0 HBE0 HU0 HK0 hu0 HLM HLN hzz hMd hdr hown8 hg8 hat8 hrun8
                  generalize L.length = ln at HRUN hvc ⊢
                  go_wp2_with (at_builtin; refine Lib.wpList_append_run _ rfl _ _ _ _ rfl _ _ rfl rfl _ _ HRUN.out ?_)
                  go_roundw
                  case rel => exact HDL
                  case measure => rw [HRL.out, HCNT.out]; exact HLT.out
              · simp only [FA, if_neg hdr, Option.getD_none, Option.isSome_none] at hlk
                have HN2 := Lib.hid (HNEW.out (by simp [hdr]))
                have HDL := Lib.hid HN2.out.1
                have HRL := Lib.hid HN2.out.2
                rw [hu0] at hlk
                rw [HU0.out] at HDL HRL
                clear HNEW HN2 HRG0 HOW0 HV20 HMP0 HBE0 HU0 HK0 hu0 HLM HLN hzz hdr hlw
                go_wp2_with fail
                go_roundw
                case rel => exact HDL
                case measure => rw [HRL.out, HCNT.out]; exact HLT.out
        · have hmem : (dx, dy) ∈ l := by
            unfold FA at hFx
            by_cases h : (dx, dy) ∈ l
            · exact h
            · rw [if_neg h] at hFx; cases hFx
          have hcok := (HF1.out.cl _ hmem).1
          have HPO := Lib.hid (pars_okD hcok)
          have hpl := pars_le hcok
          have hpr := hb1.v1.pr _ hmem
          have hu : u = .slice (A1 (dx, dy)).1 (commitS xs (dx, dy)).1.pars.length (A1 (dx, dy)).2 := by
            unfold FA at hFx
            rw [if_pos hmem] at hFx
            exact (Option.some.inj hFx).symm
          obtain ⟨o6, ho6, hc6⟩ := hb1.rg.obj
          have hk1 := hb1.v1.mp.lt
          have hk2 := hb1.v2.mp.lt
          have hmp6 : MapD S nM M W6 := hb1.mp.kept hg6 (fun e => by have := Option.some.inj e; omega)
          have hv16 : VM xs w.heap.size (w.heap.size + 2) n1 l A1 W6 := hb1.v1.kept hg6 (fun e => by have := Option.some.inj e; omega) (fun j e d hd hp ad ha => by cases e; exact digs_cells (hb1.v1.pr d hd).1 hp ha ho6 hc6)
          have hv26 : VM xs w.heap.size (w.heap.size + 3) n2 r A2 W6 := hb1.v2.kept hg6 (fun e => by have := Option.some.inj e; omega) (fun j e d hd hp ad ha => by cases e; exact digs_cells (hb1.v2.pr d hd).1 hp ha ho6 hc6)
          have hbe6 : Below w.heap.size w W6 := hb1.be.grown hg6 hb1.be.size (fun j e => by cases e; omega)
          obtain ⟨u0, hu0⟩ : ∃ u0, u0 = W6.alloc (.cells #[.int .u64 dx, .int .u64 dy] 32) := ⟨_, rfl⟩
          have HB0 : Hid (B1 xs w (w.heap.size + 2) n1 l A1 (w.heap.size + 3) n2 r A2 S (S + 1) w.heap.size (fun d => left d && !decide (d = (dx, dy))) cnt3 nM M u0) := Lib.hid (by
            rw [hu0]
            exact ⟨hrg6.alloc _, hv16.alloc _, hv26.alloc _, hmp6.alloc _, hbe6.alloc hbe6.size _, by have := hb1.nn; omega⟩)
          have hlk := HB0.out.v2.mp.lookOk Tryz.underlying63 (zeroSl u0) hokd
          have hnn := hb1.nn
          have HLT := Lib.hid hlt
          have HWM := Lib.hid hwm
          have HMEM := Lib.hid hmem
          have HPD : Hid (Digs u0.heap.size u0 (A1 (dx, dy)).1 (commitS xs (dx, dy)).1.pars) := Lib.hid ((HB0.out.v1.pr _ hmem).1)
          have hpc := hpr.2
          subst hu
          obtain ⟨pars, hpars⟩ : ∃ pars, pars = (commitS xs (dx, dy)).1.pars := ⟨_, rfl⟩
          rw [← hpars] at HPO hpl hpc HPD hen hrun
          have HPE := Lib.hid hpars
          generalize A1 (dx, dy) = AX at hpc HPD hen hrun
          obtain ⟨pa, pc⟩ := AX
          simp only at hpc HPD hen hrun
          obtain ⟨np, hnp⟩ : ∃ np, np = pars.length := ⟨_, rfl⟩
          rw [← hnp] at hpl hpc hen hrun
          have HNP := Lib.hid hnp
          clear hrel hb1 hwm hmem hcok hpr hFx ho6 hc6 hk1 hk2 hmp6 hv16 hv26 hbe6 hrg6 hg6 hz6 hlt hlx hpars hnp
          by_cases hdr : (dx, dy) ∈ r
          · simp only [FA, if_pos hdr, Option.getD_some, Option.isSome_some] at hlk
            rw [hu0] at hlk
            have HU0 := Lib.hid hu0
            have HDR := Lib.hid hdr
            clear hu0 hdr
            go_wp2_with fail
            rw [← HU0.out]
            go_loopw [58] (fun i wx => ∃ (k n' : Nat) (M' : Int × Int → Bool), k ≤ np ∧ i = .int .i64 k ∧ Hid (B1 xs w (w.heap.size + 2) n1 l A1 (w.heap.size + 3) n2 r A2 S (S + 1) w.heap.size (fun d => left d && !decide (d = (dx, dy))) cnt3 n' M' wx) ∧ n' ≤ nM + k ∧ Hid (∀ d, M' d = true ↔ M d = true ∨ d ∈ pars.take k) ∧ Hid (Digs wx.heap.size wx pa pars)) (fun i _ => np - (intOf i).toNat)
            case atStart => exact ⟨0, nM, M, by omega, rfl, HB0, by omega, Lib.hid (fun d => by simp), HPD⟩
            case round =>
              clear HB0 HPD HU0 hlk hrun hen
              obtain ⟨k, n', M', hk, rfl, HBX, hn', HMX, HPX⟩ := hrel
              by_cases hlt2 : k < np
              · have h1 : k < pars.length := by have := HNP.out; omega
                obtain ⟨b0, of0, haa, hb0, q0, q1⟩ := HPX.out k h1
                subst haa
                have hokp := HPO.out _ (List.getElem_mem h1)
                have HTK : Hid (pars.take (k + 1) = pars.take k ++ [pars[k]]) := Lib.hid (List.take_succ_eq_append_getElem h1)
                generalize pars[k] = p at q0 q1 hokp HTK
                obtain ⟨p1, p2⟩ := p
                simp only at q0 q1
                have hsz := HBX.out.be.size
                have hba := HBX.out.below hsz ((Below.refl _ wr).alloc (Nat.le_refl _) (.cells #[.int .u64 p1, .int .u64 p2] 32))
                obtain ⟨W7, hrun7, hb7, hg7⟩ := hba.put hokp (by omega) (by rw [World.size_alloc]; omega) (by omega) (by omega) (by omega) (by have := HLT.out; omega)
                obtain ⟨es, cc, ho⟩ := hba.mp.obj
                have HPX7 : Hid (Digs W7.heap.size W7 (some ⟨b0, of0, none⟩) pars) := Lib.hid (by
                  have h0 := HPX.out.ahead ((Below.refl _ wr).alloc (Nat.le_refl _) (.cells #[.int .u64 p1, .int .u64 p2] 32))
                  exact h0.kept hg7 (fun hp ad e hk => digs_cells h0 hp e ho rfl (Option.some.inj hk)))
                have HBX7 := Lib.hid hb7
                have HMX7 : Hid (∀ d, (M' d || decide (d = (p1, p2))) = true ↔ M d = true ∨ d ∈ pars.take (k + 1)) := Lib.hid (fun d => by
                  rw [HTK.out, List.mem_append, List.mem_singleton, Bool.or_eq_true, HMX.out d, decide_eq_true_iff, or_assoc])
                have HRUN7 := Lib.hid hrun7
                have hr7 := hrun7
                have hkn : (k : Int) < (np : Int) := by omega
                clear hba hb7 hg7 ho HPX HBX HMX hrun7 HTK
                go_wp2_with fail
                go_roundw
                case rel => exact ⟨k + 1, n' + 1, _, by omega, by go_num, HBX7, by omega, HMX7, HPX7⟩
                case measure => simp [intOf]; omega
              · have HNEW : Hid (∃ left cnt nM M, B1 xs w (w.heap.size + 2) n1 l A1 (w.heap.size + 3) n2 r A2 S (S + 1) w.heap.size left cnt nM M wr ∧ WM xs l r left M) := Lib.hid
                  ⟨_, cnt3, n', M', HBX.out, fun d => by
                    rw [HMX.out d, List.take_of_length_le (by have := HNP.out; omega), HWM.out d, HPE.out]
                    constructor
                    · rintro (⟨cc, h1, h2, h3, h4⟩ | h1)
                      · exact ⟨cc, h1, by simp [h2], h3, h4⟩
                      · exact ⟨(dx, dy), HMEM.out, by simp, HDR.out, h1⟩
                    · rintro ⟨cc, h1, h2, h3, h4⟩
                      by_cases e1 : cc = (dx, dy)
                      · subst e1; exact .inr h4
                      · exact .inl ⟨cc, h1, by simpa [e1] using h2, h3, h4⟩⟩
                have HRL := Lib.hid HBX.out.rg.left_eq
                have hkn : ¬ (k : Int) < (np : Int) := by omega
                clear HBX HMX HPX
                go_wp2_with fail
                go_roundw
                case rel => exact HNEW
                case measure => rw [HRL.out, HCNT.out]; exact HLT.out
          · simp only [FA, if_neg hdr, Option.getD_none, Option.isSome_none] at hlk
            have HNEW : Hid (∃ left cnt nM M, B1 xs w (w.heap.size + 2) n1 l A1 (w.heap.size + 3) n2 r A2 S (S + 1) w.heap.size left cnt nM M u0 ∧ WM xs l r left M) := Lib.hid
              ⟨_, cnt3, nM, M, HB0.out, fun d => by
                rw [HWM.out d]
                constructor
                · rintro ⟨cc, h1, h2, h3, h4⟩; exact ⟨cc, h1, by simp [h2], h3, h4⟩
                · rintro ⟨cc, h1, h2, h3, h4⟩
                  by_cases e1 : cc = (dx, dy)
                  · subst e1; exact absurd h3 hdr
                  · exact ⟨cc, h1, by simpa [e1] using h2, h3, h4⟩⟩
            have HRL := Lib.hid HB0.out.rg.left_eq
            rw [hu0] at hlk HNEW HRL
            clear HB0 HPD hdr hu0
            go_wp2_with fail
            go_roundw
            case rel => exact HNEW
            case measure => rw [HRL.out, HCNT.out]; exact HLT.out
    · have hee : (er2 != 0) = true := by simpa using he2
      have HX : Hid (GotRo w R (.returned (.tuple #[.slice none 0 0, .int .i64 er2])) W2) := Lib.hid (by
        rw [HR2.out, if_pos he2]
        exact ⟨none, 0, rfl, World.ownsRow_nil _ _ _ _, HB2.out⟩)
      clear he2 hg hvm HC2 HR2 HF1 HVM' HV1 c0 c1
      go_wp2_with fail
      go_ret2
      exact HX.out
  · have hee : (er != 0) = true := by simpa using he
    have HX : Hid (GotRo w R (.returned (.tuple #[.slice none 0 0, .int .i64 er])) W1) := Lib.hid (by
      rw [HR.out, if_pos he]
      exact ⟨none, 0, rfl, World.ownsRow_nil _ _ _ _, HB1'.out⟩)
    clear he hg hvm HV HV2 HF HR
    go_wp2_with fail
    go_ret2
    exact HX.out

end Go.Proofs.YtgdhkcocdmdoaaaGreat
