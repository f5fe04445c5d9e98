/- history.sorted. -/
import Derived.Test.YtgdhkcocdmdoaaaGreatHiSo
namespace Go.Proofs.YtgdhkcocdmdoaaaGreat
open Go.RowKit Go.Shelf Go.Sort
set_option linter.unusedVariables false

theorem sortH_congr {dep dep' : Int × Int → Nat} {l l' : List (Int × Int)} (h1 : l.Nodup) (h2 : l'.Nodup) (hm : ∀ d, d ∈ l ↔ d ∈ l') (hd : ∀ d ∈ l, dep d = dep' d) : sortH dep l = sortH dep' l' := by
  have p1 : ∀ d, d ∈ sortH dep l ↔ d ∈ l := fun d => (sortH_perm dep l).mem_iff
  have p2 : ∀ d, d ∈ sortH dep' l' ↔ d ∈ l' := fun d => (sortH_perm dep' l').mem_iff
  refine ascH_ext (dep := dep') ?_ (sortH_asc h2) (fun d => by rw [p1, p2, hm])
  refine List.Pairwise.imp_of_mem (fun {x y} hx hy h => ?_) (sortH_asc (dep := dep) h1)
  rw [cmpH_lt] at h ⊢
  rw [← hd x ((p1 x).1 hx), ← hd y ((p1 y).1 hy)]
  exact h
/-- The state of the loop. -/
structure SL (xs : List Itm) (B : Nat) (w : World) (b nb : Nat) (met : List (Int × Int)) (A : Int × Int → Option Addr × Nat) (P : Int × Int → Bool) (Fk : Int × Int → Option Value) (kd nk pb r B1 : Nat) (v : Value) (wr : World) : Prop where
  ex : ∃ L left cnt, RangeV b r nb (FA xs met A) left cnt wr ∧ wr.ownsRow B1 32 2 v L.length (dcells L) ∧ (∀ d, d ∈ L ↔ d ∈ met ∧ left d = false ∧ P d = true) ∧ L.Nodup ∧ L.length ≤ met.length
  be : Below w.heap.size w wr
  bx : BK pb #[.map (some kd)] 67 wr
  km : MapV kd nk Fk wr
  sz : B1 ≤ wr.heap.size

set_option maxRecDepth 100000 in
set_option maxHeartbeats 8000000 in
theorem sorted_any (xs : List Itm) (B b nb : Nat) (met : List (Int × Int)) (A : Int × Int → Option Addr × Nat) (hA : AcyS xs) (hcl : ∀ d ∈ met, (commitS xs d).2 = 0 ∧ ∀ p ∈ (commitS xs d).1.pars, p ∈ met) (hok : ∀ d ∈ met, OkD d) (hnd : met.Nodup) (hxl : (xs.length : Int) ≤ 500) (hml : (met.length : Int) ≤ 400000) (w : World) (hvm : VM xs B b nb met A w)
    (P : Int × Int → Bool) (g : Nat) (caps : Array Value) (hP : ∀ x y W, OkD (x, y) → Below w.heap.size w W → Calls Tryz.prog g (#[.agg #[.int .u64 x, .int .u64 y]] ++ caps) W fun e w' => e = .returned (.bool (P (x, y))) ∧ Below W.heap.size W w') (heg : ∀ args w, (callFunc g args).run Tryz.prog w = .ok (.enter g args) w) :
    Calls Tryz.prog 37 #[.map (some b), .func (.func g) #[] caps] w (GotDs w (sortH (depS xs) (met.filter P))) := by
  have HDX := Lib.hid (depths_any xs B b nb met A hA hcl hok hxl hml w hvm)
  have HP := Lib.hid hP
  have HOK := Lib.hid hok
  have HND := Lib.hid hnd
  have HVM := Lib.hid hvm
  have hbl := hvm.mp.lt
  have hegg := heg
  clear hcl hok hnd hvm hP hA heg
  go_enter Tryz.func37, Tryz.ntmps37
  go_wp2_with fail
  refine (HDX.out).mono ?_
  rintro e W1 ⟨kd, nk, rfl, hkm, hkd, hb1⟩
  obtain ⟨Fk, hFk⟩ : ∃ Fk : Int × Int → Option Value, Fk = fun d => if d ∈ met then some (.int .i64 ((depS xs d : Nat) : Int)) else none := ⟨_, rfl⟩
  rw [← hFk] at hkm
  have HFK : Hid (∀ d, OkD d → (Fk d).getD (.int .i64 0) = .int .i64 (((if d ∈ met then depS xs d else 0 : Nat)) : Int)) := Lib.hid (fun d _ => by
    rw [hFk]
    by_cases h : d ∈ met <;> simp [h])
  obtain ⟨W2, hW2⟩ : ∃ W2, W2 = W1.alloc (.cells #[.map (some kd)] 67) := ⟨_, rfl⟩
  have hz2 : W2.heap.size = W1.heap.size + 1 := by rw [hW2]; simp
  have hb2 : Below w.heap.size w W2 := by rw [hW2]; exact hb1.alloc hb1.size _
  have hv2 : VM xs B b nb met A W2 := HVM.out.below hb2
  obtain ⟨W3, hrange, ⟨cnt, hcnt, hrg⟩, hg3, hz3⟩ := hv2.mp.range Tryz.underlying63
  rw [hz2] at hrange hrg
  have hb23 : Below W2.heap.size W2 W3 := ⟨hg3.os, hg3.tape, hg3.output, hg3.size, fun k hk => hg3.block k hk (by simp)⟩
  have HL0 : Hid (SL xs B w b nb met A P Fk kd nk W1.heap.size (W1.heap.size + 1) (W1.heap.size + 2) (.slice none 0 0) W3) := Lib.hid
    ⟨⟨[], _, cnt, hrg, World.ownsRow_nil _ _ _ _, fun d => by
        constructor
        · intro h; simp at h
        · rintro ⟨h1, h2, _⟩; simp [FA, h1] at h2, List.nodup_nil, by simp⟩,
      hb2.trans (hb23.mono hb2.size), (show BK W1.heap.size #[.map (some kd)] 67 W2 by rw [hW2]; exact BK.new _ _ _).below hb23, (show MapV kd nk Fk W2 by rw [hW2]; exact hkm.alloc _).below hb23, by omega⟩
  have hs1 := hb1.size
  have hkl := hkm.lt
  rw [hW2] at hrange
  have hr := hrange
  clear hW2 hz2 hb2 hv2 hrg hg3 hz3 hb23 hkm hb1 hFk hrange HDX
  go_wp2_with fail
  clear hr
  obtain ⟨S1, hS1⟩ : ∃ S1, S1 = W1.heap.size := ⟨_, rfl⟩
  rw [← hS1] at HL0 hs1 hkl ⊢
  clear hS1
  go_loopw [6] (fun v wr => Hid (SL xs B w b nb met A P Fk kd nk S1 (S1 + 1) (S1 + 2) v wr)) (fun _ wr => wr.rangeLeft b (S1 + 1))
  case atStart => exact HL0
  case round =>
    clear HL0 W3
    obtain ⟨⟨L, left, cnt2, hrg, hown, hL, hLn, hLl⟩, hbe, hbx, hkm, hsz⟩ := hrel.out
    obtain ⟨va, vc, rfl, hvc⟩ := ownsRow_sliceN hown
    have hcl2 := hrg.left_eq
    have HCNT := Lib.hid hcl2
    rcases hrg.next 0 with ⟨hl, hrun⟩ | ⟨x, y, u, W6, cnt3, hokd, hlx, hFx, hrun, hrg6, hlt, hg6, hz6, hen⟩
    · have hmem : ∀ d, d ∈ L ↔ d ∈ met.filter P := fun d => by
        rw [hL d, List.mem_filter]
        constructor
        · rintro ⟨h1, _, h3⟩; exact ⟨h1, h3⟩
        · rintro ⟨h1, h3⟩; exact ⟨h1, hl d (HOK.out d h1), h3⟩
      have hLok : ∀ d ∈ L, OkD d := fun d hd => HOK.out d ((hL d).1 hd).1
      have HSO := Lib.hid (sortH_any va L vc wr hown (by omega) hLok Fk (fun d => if d ∈ met then depS xs d else 0) S1 kd nk hbx hkm HFK.out (fun e => by have := (hown.lt _ e).1; omega))
      have HEQ : Hid (sortH (fun d => if d ∈ met then depS xs d else 0) L = sortH (depS xs) (met.filter P) ∧ L.length = (sortH (depS xs) (met.filter P)).length) := Lib.hid (by
        have h1 := sortH_congr (dep := fun d => if d ∈ met then depS xs d else 0) (dep' := depS xs) hLn (HND.out.filter P) hmem (fun d hd => by rw [if_pos ((hL d).1 hd).1])
        exact ⟨h1, by rw [← h1, (sortH_perm _ L).length_eq]⟩)
      have HOW := Lib.hid hown
      have HBE := Lib.hid hbe
      clear hrg hown hL hLn hbe hbx hkm hsz hrel hcl2 HCNT hl hmem hLok
      obtain ⟨ln, hln⟩ : ∃ ln, ln = L.length := ⟨_, rfl⟩
      rw [← hln] at HSO HOW HEQ hvc ⊢
      clear hln
      go_wp2_with fail
      refine (HSO.out).mono ?_
      rintro e W7 ⟨rfl, hown7, hg7⟩
      have HX : Hid (GotDs w (sortH (depS xs) (met.filter P)) (.returned (.slice va ln vc)) W7) := Lib.hid (by
        rw [HEQ.out.1] at hown7
        refine ⟨va, vc, by rw [HEQ.out.2], ?_, HBE.out.grown hg7 HBE.out.size (fun j hj => by have := (HOW.out.lt _ hj).1; omega)⟩
        rw [← HEQ.out.2]
        exact own_le hown7 (by omega))
      clear hown7 hg7
      go_wp2_with fail
      go_ret
      exact HX.out
    · have hmem : (x, y) ∈ met := by
        unfold FA at hFx
        by_cases h : (x, y) ∈ met
        · exact h
        · rw [if_neg h] at hFx; cases hFx
      obtain ⟨es, cl, hob⟩ := hkm.obj
      obtain ⟨o6, ho6, hc6⟩ := hrg.obj
      have hrk : S1 + 1 ≠ kd := by omega
      have hbe6 : Below w.heap.size w W6 := hbe.grown hg6 hbe.size (fun j e => by cases e; omega)
      have hown6 : W6.ownsRow (S1 + 2) 32 2 (.slice va L.length vc) L.length (dcells L) := own_kept hown hg6 (by omega)
      have hbx6 := hbx.grow1 hg6 (by omega)
      have hkm6 := hkm.kept hg6 (fun e => hrk (Option.some.inj e).symm)
      obtain ⟨u0, hu0⟩ : ∃ u0, u0 = W6.alloc (.cells #[.int .u64 x, .int .u64 y] 32) := ⟨_, rfl⟩
      have hbe0 : Below w.heap.size w u0 := by rw [hu0]; exact hbe6.alloc hbe6.size _
      have HCALL := Lib.hid (HP.out x y u0 hokd hbe0)
      have HK0 : Hid (BK W6.heap.size #[.int .u64 x, .int .u64 y] 32 u0) := Lib.hid (by rw [hu0]; exact BK.new _ _ _)
      have HRG0 : Hid (RangeV b (S1 + 1) nb (FA xs met A) (fun d => left d && !decide (d = (x, y))) cnt3 u0) := Lib.hid (by rw [hu0]; exact hrg6.alloc _)
      have HOW0 : Hid (u0.ownsRow (S1 + 2) 32 2 (.slice va L.length vc) L.length (dcells L)) := Lib.hid (by rw [hu0]; exact hown6.alloc _)
      have HBX0 : Hid (BK S1 #[.map (some kd)] 67 u0 ∧ MapV kd nk Fk u0) := Lib.hid (by rw [hu0]; exact ⟨hbx6.alloc _, hkm6.alloc _⟩)
      have hz0 : u0.heap.size = W6.heap.size + 1 := by rw [hu0]; simp
      have HBE0 := Lib.hid hbe0
      rw [hu0] at HCALL
      have HU0 := Lib.hid hu0
      have HMEM := Lib.hid hmem
      have HLM := Lib.hid hL
      have HLN := Lib.hid hLn
      have HLT := Lib.hid hlt
      have HLX := Lib.hid hlx
      have hzz : S1 + 2 ≤ u0.heap.size := by omega
      clear hz6 hz0
      clear hrg hown hL hLn hbe hbx hkm hrel hcl2 hmem hu0 hlt hlx hFx hob ho6 hbe6 hown6 hbx6 hkm6 hrg6 hg6 hbe0
      cases hPx : P (x, y) with
      | false =>
        rw [hPx] at HCALL
        go_wp2_with fail
        refine (HCALL.out).mono ?_
        rintro e u1 ⟨rfl, hb⟩
        rw [← HU0.out] at hb
        have HNEW : Hid (SL xs B w b nb met A P Fk kd nk S1 (S1 + 1) (S1 + 2) (.slice va L.length vc) u1 ∧ u1.rangeLeft b (S1 + 1) = cnt3) := Lib.hid (by
          have hrg1 := HRG0.out.below hb
          refine ⟨⟨⟨L, _, cnt3, hrg1, own_below HOW0.out hb, fun d => ?_, HLN.out, hLl⟩, HBE0.out.trans (hb.mono HBE0.out.size), HBX0.out.1.below hb, HBX0.out.2.below hb, Nat.le_trans hzz hb.size⟩, hrg1.left_eq⟩
          rw [HLM.out d]
          by_cases e1 : d = (x, y)
          · subst e1; simp [hPx]
          · simp [e1])
        have HDL := Lib.hid HNEW.out.1
        have HRL := Lib.hid HNEW.out.2
        clear HNEW hb HCALL HRG0 HOW0 HBX0 HBE0 HU0 HK0 hrun hen HLM hzz
        go_wp2_with fail
        go_roundw
        case rel => exact HDL
        case measure => rw [HRL.out, HCNT.out]; exact HLT.out
      | true =>
        rw [hPx] at HCALL
        go_wp2_with fail
        refine (HCALL.out).mono ?_
        rintro e u1 ⟨rfl, hb⟩
        rw [← HU0.out] at hb
        have HK1 := Lib.hid (HK0.out.below hb)
        have k0 : u1.cell? ⟨W6.heap.size, 0, none⟩ = some (.int .u64 x) := by rw [HK1.out.cell]; rfl
        have k1 : u1.cell? ⟨W6.heap.size, 1, none⟩ = some (.int .u64 y) := by rw [HK1.out.cell]; rfl
        have how1 := own_below HOW0.out hb
        obtain ⟨v', W8, hrun8, hown8, hg8, hat8⟩ := append_one how1 x y (by omega) (Nat.le_trans hzz hb.size)
        have HNEW : Hid (SL xs B w b nb met A P Fk kd nk S1 (S1 + 1) (S1 + 2) v' W8 ∧ W8.rangeLeft b (S1 + 1) = cnt3) := Lib.hid (by
          have hwn : ∀ j, (Value.slice va L.length vc).ownBlock = some j → S1 + 2 ≤ j := fun j e => (how1.lt _ e).1
          have hbu := ((Below.refl _ u1).alloc (Nat.le_refl _) (.cells #[.int .u64 x, .int .u64 y] 32))
          have hrg1 := ((HRG0.out.below hb).below hbu).kept hg8 (fun e => by have := hwn b e.symm; omega) (fun e => by have := hwn _ e.symm; omega)
          have hbe1 := HBE0.out.trans (hb.mono HBE0.out.size)
          refine ⟨⟨⟨L ++ [(x, y)], _, cnt3, hrg1, hown8, fun d => ?_, ?_, ?_⟩, (hbe1.alloc hbe1.size _).grown hg8 (by have := hbe1.size; simp; omega) (fun j e => by have := hwn j e; omega), ((HBX0.out.1.below hb).alloc _).grow hg8 (fun k e => by have := hwn k e; omega), ((HBX0.out.2.below hb).alloc _).kept hg8 (fun e => by have := hwn kd e.symm; omega), by have h5 := hg8.size; rw [World.size_alloc] at h5; have := hb.size; omega⟩, hrg1.left_eq⟩
          · rw [List.mem_append, HLM.out d, List.mem_singleton]
            by_cases e1 : d = (x, y)
            · subst e1; simp [hPx, HMEM.out]
            · simp [e1]
          · exact nodup_snoc HLN.out (fun h => by have := ((HLM.out _).1 h).2.1; rw [HLX.out] at this; cases this)
          · have h8 : (L ++ [(x, y)]).Nodup := nodup_snoc HLN.out (fun h => by have := ((HLM.out _).1 h).2.1; rw [HLX.out] at this; cases this)
            exact h8.length_le_of_subset (fun d hd => by
              rcases List.mem_append.1 hd with h | h
              · exact ((HLM.out d).1 h).1
              · rw [List.mem_singleton.1 h]; exact HMEM.out))
        have HDL := Lib.hid HNEW.out.1
        have HRL := Lib.hid HNEW.out.2
        have HRUN := Lib.hid hrun8
        clear HNEW hb HCALL HRG0 HOW0 HBX0 HBE0 HU0 HK0 hrun hen HLM hzz how1 hown8 hg8 hat8 hrun8 HK1 HLN
        generalize L.length = ln at HRUN hvc ⊢
        go_wp2_with (at_builtin; refine Lib.wpList_append_run _ rfl _ _ _ _ rfl _ _ rfl rfl _ _ HRUN.out ?_)
        go_roundw
        case rel => exact HDL
        case measure => rw [HRL.out, HCNT.out]; exact HLT.out

end Go.Proofs.YtgdhkcocdmdoaaaGreat
