/- history: Depth, Between. -/
import Derived.Test.YtgdhkcocdmdoaaaGreatHiAn
namespace Go.Proofs.YtgdhkcocdmdoaaaGreat
open Go.RowKit Go.Shelf Go.Sort
set_option linter.unusedVariables false

set_option maxRecDepth 100000 in
set_option maxHeartbeats 4000000 in
theorem depth_any (a : Option Addr) (xs : List Itm) (c : Nat) (x y : Int) (w : World) (hp : PoolIn w a xs c) (hA : Asc xs) (hac : AcyS xs) (hok : OkD (x, y)) (hxl : (xs.length : Int) ≤ 500) :
    Calls Tryz.prog 16 #[.slice a xs.length c, .agg #[.int .u64 x, .int .u64 y]] w fun e w' => e = .returned (.tuple #[.int .i64 (depthS xs (x, y)).1, .int .i64 (depthS xs (x, y)).2]) ∧ Below w.heap.size w w' := by
  obtain ⟨w3, hw3⟩ : ∃ w3, w3 = ((w.alloc (.cells #[.int .u64 x, .int .u64 y] 32)).alloc (.map #[] 0)).alloc (.cells #[.int .u64 x, .int .u64 y] 32) := ⟨_, rfl⟩
  have hb3 : Below w.heap.size w w3 := by
    rw [hw3]
    exact (((Below.refl _ w).alloc (Nat.le_refl _) _).alloc (by simp) _).alloc (by simp; omega) _
  have hmp : MapV (w.heap.size + 1) 0 (fun _ => none) w3 := by
    rw [hw3]
    have h1 := (MapV.made (w.alloc (.cells #[.int .u64 x, .int .u64 y] 32))).alloc (.cells #[.int .u64 x, .int .u64 y] 32)
    rwa [World.size_alloc] at h1
  have hk1 : BK w.heap.size #[.int .u64 x, .int .u64 y] 32 w3 := by rw [hw3]; exact ((BK.new _ _ _).alloc _).alloc _
  have hk3 : BK (w.heap.size + 2) #[.int .u64 x, .int .u64 y] 32 w3 := by
    rw [hw3]
    have h1 := BK.new ((w.alloc (.cells #[.int .u64 x, .int .u64 y] 32)).alloc (.map #[] 0)) #[.int .u64 x, .int .u64 y] 32
    rwa [World.size_alloc, World.size_alloc] at h1
  have HV := Lib.hid (visit_any w.heap.size a xs c (some ⟨w.heap.size + 2, 0, none⟩) [(x, y)] 1 (w.heap.size + 1) w3 (fun W hW => hp.below (hb3.trans hW)) hA (digs_one hk3) (fun d hd => by rw [List.mem_singleton.1 hd]; exact hok) hmp (by omega) hb3.size hxl (by simp))
  have HF := Lib.hid (fun h => vis_facts (xs := xs) (heads := [(x, y)]) h (fun d hd => by rw [List.mem_singleton.1 hd]; exact hok))
  have HGOT : Hid ((visS xs [(x, y)] []).2 = 0 → (x, y) ∈ (visS xs [(x, y)] []).1) := Lib.hid (fun h => (visS_law xs _ [(x, y)] [] (Nat.le_refl _) h).got _ (by simp))
  have HB1 := Lib.hid hb3
  have HX : Hid (∃ R, R = depthS xs (x, y) ∧ R = if (visS xs [(x, y)] []).2 ≠ 0 then (0, (visS xs [(x, y)] []).2) else (((depS xs (x, y) : Nat) : Int), 0)) := Lib.hid ⟨_, rfl, rfl⟩
  obtain ⟨R, hR1, hR2⟩ := HX.out
  rw [← hR1]
  unfold GotV at HV
  generalize visS xs [(x, y)] [] = VR at HV hR2 HF HGOT
  obtain ⟨met, er⟩ := VR
  simp only at HV hR2 HF HGOT
  have HR := Lib.hid hR2
  have HK1 := Lib.hid hk1
  rw [hw3] at HV
  have HW3 := Lib.hid hw3
  have hmm := @run_makeMap Tryz.prog
  obtain ⟨n, hn⟩ : ∃ n, n = xs.length := ⟨_, rfl⟩
  rw [← hn] at HV ⊢
  simp only [List.length_cons, List.length_nil, Nat.zero_add] at HV
  clear hp hA hb3 hR1 hR2 HX hn hk1 hk3 hmp hw3
  go_enter Tryz.func16, Tryz.ntmps16
  go_wp2_with fail
  refine (HV.out).mono ?_
  rintro e W2 ⟨rfl, hg, hvm⟩
  rw [← HW3.out] at hg
  have HB2 : Hid (Below w.heap.size w W2) := Lib.hid (HB1.out.grown hg HB1.out.size (fun j e => by cases e; omega))
  have HK2 : Hid (BK w.heap.size #[.int .u64 x, .int .u64 y] 32 W2) := Lib.hid (HK1.out.grow1 hg (by omega))
  by_cases he : er = 0
  · subst he
    obtain ⟨nn, A, _, hv⟩ := hvm rfl
    have hf := HF.out rfl
    have hmem := HGOT.out rfl
    have HDX := Lib.hid (fun W (hW : Below W2.heap.size W2 W) => depths_any xs _ (w.heap.size + 1) nn met A hac hf.cl hf.ok hxl (by have := hf.le; omega) W (hv.below hW))
    have HALL : Hid (∀ W, Below W2.heap.size W2 W → Below W2.heap.size W2 W ∧ W.cell? ⟨w.heap.size, 0, none⟩ = some (.int .u64 x) ∧ W.cell? ⟨w.heap.size, 1, none⟩ = some (.int .u64 y)) := Lib.hid (fun W hW => ⟨hW, by rw [(HK2.out.below hW).cell]; rfl, by rw [(HK2.out.below hW).cell]; rfl⟩)
    have hs0 := HALL.out W2.drew ((Below.refl _ _).drew)
    have HR2 : Hid (R = (((depS xs (x, y) : Nat) : Int), 0)) := Lib.hid (by rw [HR.out]; simp)
    have HM := Lib.hid hmem
    have HOK := Lib.hid hok
    clear hg hvm hv hf HV HF HR HGOT hmem HW3 HK1 hok
    go_wp2_with fail
    go_region_held3 (fun W => Below W2.heap.size W2 W ∧ W.cell? ⟨w.heap.size, 0, none⟩ = some (.int .u64 x) ∧ W.cell? ⟨w.heap.size, 1, none⟩ = some (.int .u64 y))
      (first | exact hs0 | assumption | (refine HALL.out _ (Below.trans ?_ (Below.mono ‹Below _ _ _› ?_)) <;> first | assumption | exact hs0.1 | exact hs0.1.size))
      (first | (refine (HDX.out _ hs0.1).mono ?_; rintro e W3 ⟨kd, nk, rfl, hm3, hkd3, hb3⟩; have hlk3 := hm3.look Tryz.underlying67 (zeroI W3) HOK.out; simp only [if_pos HM.out, Option.getD_some] at hlk3) | fail)
    all_goals
      clear hs0
      go_wp2_with fail
      go_ret2
      exact ⟨by rw [HR2.out]; rfl, HB2.out.trans ((‹Below W2.heap.size W2 _ ∧ _›).1.mono HB2.out.size)⟩
  · have hee : (er != 0) = true := by simpa using he
    have HR2 : Hid (R = (0, er)) := Lib.hid (by rw [HR.out, if_pos he])
    clear he hg hvm HV HR hok HK2 HK1 HW3
    go_wp2_with fail
    go_ret2
    exact ⟨by rw [HR2.out]; rfl, HB2.out⟩


set_option maxRecDepth 100000 in
set_option maxHeartbeats 2000000 in
theorem bet1_any (xs : List Itm) (B b nn : Nat) (met : List (Int × Int)) (A : Int × Int → Option Addr × Nat) (pb : Nat) (x y : Int) (w : World) (hv : VM xs B b nn met A w) (hk : BK pb #[.map (some b)] 63 w) (hok : OkD (x, y)) :
    Calls Tryz.prog 48 (#[.agg #[.int .u64 x, .int .u64 y]] ++ #[.pointer (some ⟨pb, 0, none⟩)]) w fun e w' => e = .returned (.bool (!decide ((x, y) ∈ met))) ∧ Below w.heap.size w w' := by
  simp only [List.append_toArray, List.cons_append, List.nil_append]
  have hlk := (hv.mp.alloc (.cells #[.int .u64 x, .int .u64 y] 32)).lookOk Tryz.underlying63 (zeroSl _) hok
  have hc : (w.alloc (.cells #[.int .u64 x, .int .u64 y] 32)).cell? ⟨pb, 0, none⟩ = some (.map (some b)) := by rw [(hk.alloc _).cell]; rfl
  by_cases hm : (x, y) ∈ met
  · simp only [FA, if_pos hm, Option.getD_some, Option.isSome_some] at hlk
    have HD : Hid ((!decide ((x, y) ∈ met)) = false) := Lib.hid (by simp [hm])
    clear hv hk hok hm
    go_enter Tryz.func48, Tryz.ntmps48
    go_wp2_with fail
    go_ret
    exact ⟨by rw [HD.out]; rfl, (Below.refl _ w).alloc (Nat.le_refl _) _⟩
  · simp only [FA, if_neg hm, Option.getD_none, Option.isSome_none] at hlk
    have HD : Hid ((!decide ((x, y) ∈ met)) = true) := Lib.hid (by simp [hm])
    clear hv hk hok hm
    go_enter Tryz.func48, Tryz.ntmps48
    go_wp2_with fail
    go_ret
    exact ⟨by rw [HD.out]; rfl, (Below.refl _ w).alloc (Nat.le_refl _) _⟩

set_option maxRecDepth 100000 in
set_option maxHeartbeats 4000000 in
theorem between_any (a : Option Addr) (xs : List Itm) (c : Nat) (oa : Option Addr) (old : List (Int × Int)) (oc : Nat) (ha : Option Addr) (heads : List (Int × Int)) (hc : Nat) (w : World) (hp : PoolIn w a xs c) (hA : Asc xs) (hac : AcyS xs) (ho : Digs w.heap.size w oa old) (hr : Digs w.heap.size w ha heads) (hok1 : ∀ d ∈ old, OkD d) (hok : ∀ d ∈ heads, OkD d) (hxl : (xs.length : Int) ≤ 500) (hol : (old.length : Int) ≤ 10000) (hhl : (heads.length : Int) ≤ 10000) :
    Calls Tryz.prog 22 #[.slice a xs.length c, .slice oa old.length oc, .slice ha heads.length hc] w (GotRo w (betS xs old heads)) := by
  obtain ⟨w3, hw3⟩ : ∃ w3, w3 = ((w.alloc (.map #[] 0)).alloc (.map #[] 0)).alloc (.cells #[.map (some (w.heap.size + 1))] 63) := ⟨_, rfl⟩
  have hb3 : Below w.heap.size w w3 := by
    rw [hw3]
    exact (((Below.refl _ w).alloc (Nat.le_refl _) _).alloc (by simp) _).alloc (by simp; omega) _
  have hz3 : w3.heap.size = w.heap.size + 3 := by rw [hw3]; simp
  have hmp1 : MapV w.heap.size 0 (fun _ => none) w3 := by rw [hw3]; exact ((MapV.made w).alloc _).alloc _
  have hmp2 : MapV (w.heap.size + 1) 0 (fun _ => none) w3 := by
    rw [hw3]
    have h1 := (MapV.made (w.alloc (.map #[] 0))).alloc (.cells #[.map (some (w.heap.size + 1))] 63)
    rwa [World.size_alloc] at h1
  have hk3 : BK (w.heap.size + 2) #[.map (some (w.heap.size + 1))] 63 w3 := by
    rw [hw3]
    have h1 := BK.new ((w.alloc (.map #[] 0)).alloc (.map #[] 0)) #[.map (some (w.heap.size + 1))] 63
    rwa [World.size_alloc, World.size_alloc] at h1
  have HV := Lib.hid (visit_any w.heap.size a xs c ha heads hc w.heap.size w3 (fun W hW => hp.below (hb3.trans hW)) hA (hr.ahead hb3) hok hmp1 (Nat.le_refl _) hb3.size hxl hhl)
  have HV2 := Lib.hid (fun W (hW : Below w.heap.size w W) (hm : MapV (w.heap.size + 1) 0 (fun _ => none) W) => visit_any w.heap.size a xs c oa old oc (w.heap.size + 1) W (fun W' hW' => hp.below (hW.trans hW')) hA (ho.ahead hW) hok1 hm (by omega) hW.size hxl hol)
  have HF := Lib.hid (fun h => vis_facts (xs := xs) (heads := heads) h hok)
  have HB3 := Lib.hid hb3
  have HK3 := Lib.hid hk3
  have HM2 := Lib.hid hmp2
  have HX : Hid (∃ R, R = betS xs old heads ∧ R = if (visS xs heads []).2 ≠ 0 then ([], (visS xs heads []).2) else if (visS xs old []).2 ≠ 0 then ([], (visS xs old []).2) else (sortH (depS xs) ((visS xs heads []).1.filter fun d => !decide (d ∈ (visS xs old []).1)), 0)) := Lib.hid ⟨_, rfl, rfl⟩
  obtain ⟨R, hR1, hR2⟩ := HX.out
  rw [← hR1]
  unfold GotV at HV HV2
  generalize visS xs heads [] = VR at HV HF hR2
  obtain ⟨met, er⟩ := VR
  generalize visS xs old [] = VO at HV2 hR2
  obtain ⟨met2, er2⟩ := VO
  simp only at HV HV2 HF hR2
  have HR := Lib.hid hR2
  rw [hw3] at HV
  have HW3 := Lib.hid hw3
  have hmm := @run_makeMap Tryz.prog
  obtain ⟨n, hn⟩ : ∃ n, n = xs.length := ⟨_, rfl⟩
  obtain ⟨hn2, hhn⟩ : ∃ k, k = heads.length := ⟨_, rfl⟩
  obtain ⟨on2, hon⟩ : ∃ k, k = old.length := ⟨_, rfl⟩
  rw [← hn] at HV HV2 ⊢
  rw [← hhn] at HV ⊢
  rw [← hon] at HV2 ⊢
  clear hp hA hr ho hok hok1 hb3 hR1 hR2 HX hn hhn hon hk3 hmp1 hmp2 hw3 hol hhl
  go_enter Tryz.func22, Tryz.ntmps22
  go_wp2_with fail
  refine (HV.out).mono ?_
  rintro e W2 ⟨rfl, hg, hvm⟩
  rw [← HW3.out] at hg hvm
  have hb2 : Below w.heap.size w W2 := HB3.out.grown hg HB3.out.size (fun j e => by cases e; exact Nat.le_refl _)
  have HB2 := Lib.hid hb2
  have HM2' : Hid (MapV (w.heap.size + 1) 0 (fun _ => none) W2) := Lib.hid (HM2.out.kept hg (fun e => by have := Option.some.inj e; omega))
  have HK2 : Hid (BK (w.heap.size + 2) #[.map (some (w.heap.size + 1))] 63 W2) := Lib.hid (HK3.out.grow1 hg (by omega))
  by_cases he : er = 0
  · subst he
    obtain ⟨nn, A, _, hv⟩ := hvm rfl
    have HVM := Lib.hid hv
    have HF2 := Lib.hid (HF.out rfl)
    have HC2 := Lib.hid (HV2.out W2 hb2 HM2'.out)
    have c0 : W2.cell? ⟨w.heap.size + 2, 0, none⟩ = some (.map (some (w.heap.size + 1))) := by rw [HK2.out.cell]; rfl
    have HR2 : Hid (R = if er2 ≠ 0 then ([], er2) else (sortH (depS xs) (met.filter fun d => !decide (d ∈ met2)), 0)) := Lib.hid (by rw [HR.out]; simp)
    clear hg hvm hv hb2 HV HV2 HF HR HM2 HK3 HB3 HW3
    go_wp2_with fail
    refine (HC2.out).mono ?_
    rintro e W4 ⟨rfl, hg, hvm⟩
    have HB4 : Hid (Below w.heap.size w W4) := Lib.hid (HB2.out.grown hg HB2.out.size (fun j e => by cases e; omega))
    have HK4 : Hid (BK (w.heap.size + 2) #[.map (some (w.heap.size + 1))] 63 W4) := Lib.hid (HK2.out.grow1 hg (by omega))
    have HV4 : Hid (VM xs w3.heap.size w.heap.size nn met A W4) := Lib.hid (HVM.out.kept hg (fun e => by have := Option.some.inj e; omega) (fun j e d hd hp ad ha => by cases e; have := (HVM.out.pb d hd ad ha).1; omega))
    by_cases he2 : er2 = 0
    · subst he2
      obtain ⟨nn2, A2, _, hv2⟩ := hvm rfl
      have hf := HF2.out
      have HSO := Lib.hid (sorted_any xs _ w.heap.size nn met A hac hf.cl hf.ok hf.nd hxl (by have := hf.le; omega) W4 HV4.out (fun d => !decide (d ∈ met2)) 48 #[.pointer (some ⟨w.heap.size + 2, 0, none⟩)] (fun x y W h1 h2 => bet1_any xs _ _ _ met2 A2 (w.heap.size + 2) x y W (hv2.below h2) (HK4.out.below h2) h1) (enters_of Tryz.func48 (by kernel_rfl) rfl))
      have HR3 : Hid (R = (sortH (depS xs) (met.filter fun d => !decide (d ∈ met2)), 0)) := Lib.hid (by rw [HR2.out]; simp)
      clear hg hvm hv2 HR2 HC2 HF2 HVM HM2' HK2 c0
      go_wp2_with fail
      refine (HSO.out).mono ?_
      rintro e W5 ⟨sa, sc, rfl, hown, hb5⟩
      have HX : Hid (GotRo w R (.returned (.tuple #[.slice sa (sortH (depS xs) (met.filter fun d => !decide (d ∈ met2))).length sc, .int .i64 0])) W5) := Lib.hid (by
        rw [HR3.out]
        exact ⟨sa, sc, rfl, own_le hown HB4.out.size, HB4.out.trans (hb5.mono HB4.out.size)⟩)
      clear hown hb5 HSO
      generalize (sortH (depS xs) (met.filter fun d => !decide (d ∈ met2))).length = ln at HX ⊢
      go_wp2_with fail
      go_ret2
      exact HX.out
    · have hee : (er2 != 0) = true := by simpa using he2
      have HX : Hid (GotRo w R (.returned (.tuple #[.slice none 0 0, .int .i64 er2])) W4) := Lib.hid (by
        rw [HR2.out, if_pos he2]
        exact ⟨none, 0, rfl, World.ownsRow_nil _ _ _ _, HB4.out⟩)
      clear he2 hg hvm HC2 HR2 HF2 HVM HM2' HK2 c0
      go_wp2_with fail
      go_ret2
      exact HX.out
  · have hee : (er != 0) = true := by simpa using he
    have HX : Hid (GotRo w R (.returned (.tuple #[.slice none 0 0, .int .i64 er])) W2) := Lib.hid (by
      rw [HR.out, if_pos he]
      exact ⟨none, 0, rfl, World.ownsRow_nil _ _ _ _, HB2.out⟩)
    clear he hg hvm HV HV2 HF HR
    go_wp2_with fail
    go_ret2
    exact HX.out

end Go.Proofs.YtgdhkcocdmdoaaaGreat
