/- history: Ancestors, Reaches, Depth, Between. -/
import Derived.Test.YtgdhkcocdmdoaaaGreatHiSr
namespace Go.Proofs.YtgdhkcocdmdoaaaGreat
open Go.RowKit Go.Shelf Go.Sort
set_option linter.unusedVariables false

theorem anc_okD {xs : List Itm} {a b : Int × Int} (h : Anc xs a b) (ha : OkD a) : OkD b := by
  induction h with
  | refl => exact ha
  | step h1 h2 _ ih => exact ih (pars_okD h1 _ h2)
structure VFacts (xs : List Itm) (heads met : List (Int × Int)) : Prop where
  cl : ∀ d ∈ met, (commitS xs d).2 = 0 ∧ ∀ p ∈ (commitS xs d).1.pars, p ∈ met
  ok : ∀ d ∈ met, OkD d
  nd : met.Nodup
  le : met.length ≤ xs.length
theorem vis_facts {xs : List Itm} {heads : List (Int × Int)} (h : (visS xs heads []).2 = 0) (hok : ∀ d ∈ heads, OkD d) : VFacts xs heads (visS xs heads []).1 := by
  have g := visS_law xs _ heads [] (Nat.le_refl _) h
  have hnd := g.nd (by simp)
  have hcl : ∀ d ∈ (visS xs heads []).1, (commitS xs d).2 = 0 ∧ ∀ p ∈ (commitS xs d).1.pars, p ∈ (visS xs heads []).1 := fun d hd => by
    refine ⟨?_, ?_⟩
    · rcases g.ok d hd with h1 | h1
      · simp at h1
      · exact h1
    · rcases g.par d hd with h1 | h1
      · simp at h1
      · exact h1
  refine ⟨hcl, fun d hd => ?_, hnd, ?_⟩
  · rcases g.snd d hd with h1 | ⟨s, h1, h2⟩
    · simp at h1
    · exact anc_okD h2 (hok s h1)
  · have : (visS xs heads []).1.length ≤ (xs.map (fun x => x.d)).length := hnd.length_le_of_subset (fun d hd => by
      obtain ⟨x, hx, he, _⟩ := getS_good (commit_ok (hcl d hd).1).1
      exact List.mem_map.2 ⟨x, hx, he⟩)
    rwa [List.length_map] at this
/-- What the functions answer. -/
def ancS (xs : List Itm) (heads : List (Int × Int)) : List (Int × Int) × Int := if (visS xs heads []).2 ≠ 0 then ([], (visS xs heads []).2) else (sortH (depS xs) (visS xs heads []).1, 0)
def reachesS (xs : List Itm) (a b : Int × Int) : Bool × Int := if (visS xs [a] []).2 ≠ 0 then (false, (visS xs [a] []).2) else (decide (b ∈ (visS xs [a] []).1), 0)
def depthS (xs : List Itm) (d : Int × Int) : Int × Int := if (visS xs [d] []).2 ≠ 0 then (0, (visS xs [d] []).2) else ((depS xs d : Nat), 0)
def betS (xs : List Itm) (old new : List (Int × Int)) : List (Int × Int) × Int := if (visS xs new []).2 ≠ 0 then ([], (visS xs new []).2) else if (visS xs old []).2 ≠ 0 then ([], (visS xs old []).2) else (sortH (depS xs) ((visS xs new []).1.filter fun d => !decide (d ∈ (visS xs old []).1)), 0)
/-- Digests with an error. -/
def GotRo (w : World) (r : List (Int × Int) × Int) (e : Ending) (w' : World) : Prop := ∃ a c, e = .returned (.tuple #[.slice a r.1.length c, .int .i64 r.2]) ∧ w'.ownsRow w.heap.size 32 2 (.slice a r.1.length c) r.1.length (dcells r.1) ∧ Below w.heap.size w w'

theorem anc1_any (x y : Int) (w : World) : Calls Tryz.prog 38 (#[.agg #[.int .u64 x, .int .u64 y]] ++ #[]) w fun e w' => e = .returned (.bool true) ∧ Below w.heap.size w w' := by
  simp only [Array.append_empty]
  go_enter Tryz.func38, Tryz.ntmps38
  go_wp2_with fail
  go_ret
  exact ⟨rfl, (Below.refl _ w).alloc (Nat.le_refl _) _⟩

set_option maxRecDepth 100000 in
set_option maxHeartbeats 4000000 in
theorem ancestors_any (a : Option Addr) (xs : List Itm) (c : Nat) (ha : Option Addr) (heads : List (Int × Int)) (hc : Nat) (w : World) (hp : PoolIn w a xs c) (hA : Asc xs) (hac : AcyS xs) (hr : Digs w.heap.size w ha heads) (hok : ∀ d ∈ heads, OkD d) (hxl : (xs.length : Int) ≤ 500) (hhl : (heads.length : Int) ≤ 10000) :
    Calls Tryz.prog 13 #[.slice a xs.length c, .slice ha heads.length hc] w (GotRo w (ancS xs heads)) := by
  have hb1 : Below w.heap.size w (w.alloc (.map #[] 0)) := (Below.refl _ w).alloc (Nat.le_refl _) _
  have HV := Lib.hid (visit_any w.heap.size a xs c ha heads hc w.heap.size (w.alloc (.map #[] 0)) (fun W hW => hp.below (hb1.trans hW)) hA (hr.ahead hb1) hok (MapV.made w) (Nat.le_refl _) hb1.size hxl hhl)
  have HB1 := Lib.hid hb1
  have HF := Lib.hid (fun h => vis_facts (xs := xs) (heads := heads) h hok)
  have HX : Hid (∃ R, R = ancS xs heads ∧ R = if (visS xs heads []).2 ≠ 0 then ([], (visS xs heads []).2) else (sortH (depS xs) (visS xs heads []).1, 0)) := Lib.hid ⟨_, rfl, rfl⟩
  obtain ⟨R, hR1, hR2⟩ := HX.out
  rw [← hR1]
  unfold GotV at HV
  generalize visS xs heads [] = VR at HV HF hR2
  obtain ⟨met, er⟩ := VR
  simp only at HV HF hR2
  have HR := Lib.hid hR2
  have hmm := @run_makeMap Tryz.prog
  obtain ⟨n, hn⟩ : ∃ n, n = xs.length := ⟨_, rfl⟩
  obtain ⟨hn2, hhn⟩ : ∃ k, k = heads.length := ⟨_, rfl⟩
  rw [← hn] at HV ⊢
  rw [← hhn] at HV ⊢
  have HN := Lib.hid hn
  clear hp hA hr hok hb1 hR1 hR2 HX hn hhn
  go_enter Tryz.func13, Tryz.ntmps13
  go_wp2_with fail
  refine (HV.out).mono ?_
  rintro e W2 ⟨rfl, hg, hvm⟩
  have HB2 : Hid (Below w.heap.size w W2) := Lib.hid (HB1.out.grown hg HB1.out.size (fun j e => by cases e; exact Nat.le_refl _))
  by_cases he : er = 0
  · subst he
    obtain ⟨nn, A, _, hv⟩ := hvm rfl
    have hf := HF.out rfl
    have HSO := Lib.hid (sorted_any xs _ w.heap.size nn met A hac hf.cl hf.ok hf.nd hxl (by have := hf.le; omega) W2 hv (fun _ => true) 38 #[] (fun x y W _ _ => anc1_any x y W) (enters_of Tryz.func38 (by kernel_rfl) rfl))
    have HR2 : Hid (R = (sortH (depS xs) met, 0)) := Lib.hid (by rw [HR.out]; simp)
    rw [show met.filter (fun _ => true) = met by simp] at HSO
    clear hg hvm hv hf HV HF HR
    go_wp2_with fail
    refine (HSO.out).mono ?_
    rintro e W3 ⟨sa, sc, rfl, hown, hb3⟩
    have HX : Hid (GotRo w R (.returned (.tuple #[.slice sa (sortH (depS xs) met).length sc, .int .i64 0])) W3) := Lib.hid (by
      rw [HR2.out]
      exact ⟨sa, sc, rfl, own_le hown HB2.out.size, HB2.out.trans (hb3.mono HB2.out.size)⟩)
    clear hown hb3 HSO
    generalize (sortH (depS xs) met).length = ln at HX ⊢
    go_wp2_with fail
    go_ret2
    exact HX.out
  · have hee : (er != 0) = true := by simpa using he
    have HX : Hid (GotRo w R (.returned (.tuple #[.slice none 0 0, .int .i64 er])) W2) := Lib.hid (by
      rw [HR.out, if_pos he]
      exact ⟨none, 0, rfl, World.ownsRow_nil _ _ _ _, HB2.out⟩)
    clear he hg hvm HV HF HR
    go_wp2_with fail
    go_ret2
    exact HX.out

set_option maxRecDepth 100000 in
set_option maxHeartbeats 4000000 in
theorem reaches_any (a : Option Addr) (xs : List Itm) (c : Nat) (x y x' y' : Int) (w : World) (hp : PoolIn w a xs c) (hA : Asc xs) (hok : OkD (x, y)) (hok' : OkD (x', y')) (hxl : (xs.length : Int) ≤ 500) :
    Calls Tryz.prog 18 #[.slice a xs.length c, .agg #[.int .u64 x, .int .u64 y], .agg #[.int .u64 x', .int .u64 y']] w fun e w' => e = .returned (.tuple #[.bool (reachesS xs (x, y) (x', y')).1, .int .i64 (reachesS xs (x, y) (x', y')).2]) ∧ Below w.heap.size w w' := by
  obtain ⟨w3, hw3⟩ : ∃ w3, w3 = (((w.alloc (.cells #[.int .u64 x, .int .u64 y] 32)).alloc (.cells #[.int .u64 x', .int .u64 y'] 32)).alloc (.map #[] 0)).alloc (.cells #[.int .u64 x, .int .u64 y] 32) := ⟨_, rfl⟩
  have hb3 : Below w.heap.size w w3 := by
    rw [hw3]
    exact ((((Below.refl _ w).alloc (Nat.le_refl _) _).alloc (by simp) _).alloc (by simp; omega) _).alloc (by simp; omega) _
  have hmp : MapV (w.heap.size + 2) 0 (fun _ => none) w3 := by
    rw [hw3]
    have h1 := (MapV.made ((w.alloc (.cells #[.int .u64 x, .int .u64 y] 32)).alloc (.cells #[.int .u64 x', .int .u64 y'] 32))).alloc (.cells #[.int .u64 x, .int .u64 y] 32)
    rwa [World.size_alloc, World.size_alloc] at h1
  have hk2 : BK (w.heap.size + 1) #[.int .u64 x', .int .u64 y'] 32 w3 := by rw [hw3]; exact ((BK.new2 _ _ _ _).alloc _).alloc _
  have hk3 : BK (w.heap.size + 3) #[.int .u64 x, .int .u64 y] 32 w3 := by
    rw [hw3]
    have h1 := BK.new (((w.alloc (.cells #[.int .u64 x, .int .u64 y] 32)).alloc (.cells #[.int .u64 x', .int .u64 y'] 32)).alloc (.map #[] 0)) #[.int .u64 x, .int .u64 y] 32
    rwa [World.size_alloc, World.size_alloc, World.size_alloc] at h1
  have HV := Lib.hid (visit_any w.heap.size a xs c (some ⟨w.heap.size + 3, 0, none⟩) [(x, y)] 1 (w.heap.size + 2) w3 (fun W hW => hp.below (hb3.trans hW)) hA (digs_one hk3) (fun d hd => by rw [List.mem_singleton.1 hd]; exact hok) hmp (by omega) hb3.size hxl (by simp))
  have HB1 := Lib.hid hb3
  have HX : Hid (∃ R, R = reachesS xs (x, y) (x', y') ∧ R = if (visS xs [(x, y)] []).2 ≠ 0 then (false, (visS xs [(x, y)] []).2) else (decide ((x', y') ∈ (visS xs [(x, y)] []).1), 0)) := Lib.hid ⟨_, rfl, rfl⟩
  obtain ⟨R, hR1, hR2⟩ := HX.out
  rw [← hR1]
  unfold GotV at HV
  generalize visS xs [(x, y)] [] = VR at HV hR2
  obtain ⟨met, er⟩ := VR
  simp only at HV hR2
  have HR := Lib.hid hR2
  have HK2 := Lib.hid hk2
  rw [hw3] at HV
  have HW3 := Lib.hid hw3
  have hmm := @run_makeMap Tryz.prog
  obtain ⟨n, hn⟩ : ∃ n, n = xs.length := ⟨_, rfl⟩
  rw [← hn] at HV ⊢
  simp only [List.length_cons, List.length_nil, Nat.zero_add] at HV
  clear hp hA hok hb3 hR1 hR2 HX hn hk2 hk3 hmp hw3
  go_enter Tryz.func18, Tryz.ntmps18
  go_wp2_with fail
  refine (HV.out).mono ?_
  rintro e W2 ⟨rfl, hg, hvm⟩
  rw [← HW3.out] at hg
  have HB2 : Hid (Below w.heap.size w W2) := Lib.hid (HB1.out.grown hg HB1.out.size (fun j e => by cases e; omega))
  have HK3 : Hid (BK (w.heap.size + 1) #[.int .u64 x', .int .u64 y'] 32 W2) := Lib.hid (HK2.out.grow1 hg (by omega))
  by_cases he : er = 0
  · subst he
    obtain ⟨nn, A, _, hv⟩ := hvm rfl
    have hlk := hv.mp.lookOk Tryz.underlying63 (zeroSl W2) hok'
    have c0 : W2.cell? ⟨w.heap.size + 1, 0, none⟩ = some (.int .u64 x') := by rw [HK3.out.cell]; rfl
    have c1 : W2.cell? ⟨w.heap.size + 1, 1, none⟩ = some (.int .u64 y') := by rw [HK3.out.cell]; rfl
    by_cases hm : (x', y') ∈ met
    · simp only [FA, if_pos hm, Option.getD_some, Option.isSome_some] at hlk
      have HR2 : Hid (R = (true, 0)) := Lib.hid (by rw [HR.out]; simp [hm])
      clear hg hvm hv HV HR hm hok' HK2 HK3 HW3
      go_wp2_with fail
      go_ret2
      exact ⟨by rw [HR2.out]; rfl, HB2.out⟩
    · simp only [FA, if_neg hm, Option.getD_none, Option.isSome_none] at hlk
      have HR2 : Hid (R = (false, 0)) := Lib.hid (by rw [HR.out]; simp [hm])
      clear hg hvm hv HV HR hm hok' HK2 HK3 HW3
      go_wp2_with fail
      go_ret2
      exact ⟨by rw [HR2.out]; rfl, HB2.out⟩
  · have hee : (er != 0) = true := by simpa using he
    have HR2 : Hid (R = (false, er)) := Lib.hid (by rw [HR.out, if_pos he])
    clear he hg hvm HV HR hok' HK2 HK3 HW3
    go_wp2_with fail
    go_ret2
    exact ⟨by rw [HR2.out]; rfl, HB2.out⟩

end Go.Proofs.YtgdhkcocdmdoaaaGreat
