/- The statements' own helpers: put, has, valid. -/
import Derived.Test.YtgdhkcocdmdoaaaGreatHiEx
import Derived.Test.YtgdhkcocdmdoaaaGreatHiCx
namespace Go.Proofs.YtgdhkcocdmdoaaaGreat
open Go.RowKit Go.Shelf Go.Sort
set_option linter.unusedVariables false

theorem has13_any (a : Option Addr) (ds : List (Int × Int)) (c : Nat) (x y : Int) (w : World) (hds : Digs w.heap.size w a ds) (hn : (ds.length : Int) ≤ 9223372036854775807) :
    Calls Tryz.prog 14 #[.slice a ds.length c, .agg #[.int .u64 x, .int .u64 y]] w fun e w' => e = .returned (.bool (decide ((x, y) ∈ ds))) ∧ Below w.heap.size w w' := by
  have hb : Below w.heap.size w (w.alloc (.cells #[.int .u64 x, .int .u64 y] 32)) := (Below.refl _ w).alloc (Nat.le_refl _) _
  have HB := Lib.hid hb
  have HIN := Lib.hid (rin_any a ds c x y _ (hds.ahead hb) hn)
  obtain ⟨n, hn2⟩ : ∃ n, n = ds.length := ⟨_, rfl⟩
  rw [← hn2] at HIN ⊢
  clear hb hds hn hn2
  generalize decide ((x, y) ∈ ds) = R at HIN ⊢
  go_enter Tryz.func14, Tryz.ntmps14
  go_wp2_with fail
  (with_reducible refine (HIN.out).mono ?_)
  rintro e u ⟨rfl, hb2⟩
  have HB2 := Lib.hid (HB.out.trans (hb2.mono HB.out.size))
  clear hb2 HIN
  go_wp2_with fail
  go_ret
  exact ⟨rfl, HB2.out⟩

theorem its_kept' {W W' : World} {a : Option Addr} {xs : List Itm} {row : Option Nat} (h : Its W.heap.size W a xs) (hg : W.grownBy W' row) (hne : 0 < xs.length → ∀ ad, a = some ad → row ≠ some ad.block) : Its W'.heap.size W' a xs := by
  intro i hi
  obtain ⟨b, off, rfl, hlt, h1, h2, h3⟩ := h i hi
  have hr : row ≠ some b := hne (by omega) _ rfl
  exact ⟨b, off, rfl, Nat.lt_of_lt_of_le hlt hg.size, (hg.cell_far ⟨b, off + i * 3, none⟩ hlt (fun e => hr e.symm)).trans h1, (hg.cell_far ⟨b, off + i * 3 + 1, none⟩ hlt (fun e => hr e.symm)).trans h2, (hg.cell_far ⟨b, off + i * 3 + 2, none⟩ hlt (fun e => hr e.symm)).trans h3⟩
def GotP2 (w : World) (pa : Option Addr) (ps : List Itm) (r : List Itm × (Int × Int) × Int) (e : Ending) (w' : World) : Prop := ∃ a c, e = .returned (.tuple #[.slice a r.1.length c, .agg #[.int .u64 r.2.1.1, .int .u64 r.2.1.2]]) ∧ PoolAt w pa ps r.1 a c w'

set_option maxRecDepth 100000 in
set_option maxHeartbeats 2000000 in
theorem put13_any (a : Option Addr) (xs : List Itm) (c : Nat) (time : Int) (pa : Option Addr) (ps : List (Int × Int)) (pc : Nat) (w : World) (hp : PoolIn w a xs c) (ha : Asc xs) (hd : Digs w.heap.size w pa ps) (hc : ps.length ≤ pc) (hl : (ps.length : Int) ≤ 1000) (hok : ∀ d ∈ ps, OkD d) :
    Calls Tryz.prog 35 #[.slice a xs.length c, .int .i64 time, .slice pa ps.length pc] w (GotP2 w a xs (putS xs (exO time ps))) := by
  have hb1 : Below w.heap.size w (w.alloc (.cells #[.int .u64 0, .int .u64 0] 32)) := (Below.refl _ w).alloc (Nat.le_refl _) _
  have HB1 := Lib.hid hb1
  have hob : ObB (exO time ps) := ⟨by simp [exO], by simp [exO], by simp [exO], hl, fun d h => ⟨(hok d h).1.1, (hok d h).2.1⟩, by simp [exO], by simp [exO], by simp [exO], by simp [exO]⟩
  have HPU := Lib.hid (put_any a xs c (exO time ps) none 0 pa pc _ (hp.below hb1) ha (hob.inW (Ents.nil _ _ _) (hd.ahead hb1) hc))
  simp only [Ob.val, exO] at HPU
  obtain ⟨R, hR⟩ : ∃ R, R = putS xs (exO time ps) := ⟨_, rfl⟩
  rw [← hR]
  rw [show putS xs { kind := 3, data := [], ents := [], tree := (1, 1), pars := ps, author := [97, 110, 110], time := time, msg := [] } = R from hR.symm] at HPU
  obtain ⟨n, hn⟩ : ∃ n, n = xs.length := ⟨_, rfl⟩
  obtain ⟨np, hnp⟩ : ∃ n, n = ps.length := ⟨_, rfl⟩
  rw [← hn] at HPU ⊢
  rw [← hnp] at HPU ⊢
  simp only [List.length_nil] at HPU
  have HITS := Lib.hid hp.its
  clear hb1 hob hR hn hnp hp ha hd hc hl hok
  go_enter Tryz.func35, Tryz.ntmps35
  go_wp2_with fail
  (with_reducible refine (HPU.out).mono ?_)
  rintro e u ⟨ra, rc, rfl, hits, hcap, hfr, hb⟩
  obtain ⟨ys, ⟨d1, d2⟩, er⟩ := R
  simp only at hits hcap hfr ⊢
  have HK : Hid (BK w.heap.size #[.int .u64 0, .int .u64 0] 32 u) := Lib.hid ((BK.new w #[.int .u64 0, .int .u64 0] 32).below hb)
  have hus := HK.out.lt
  have HFIN : Hid (GotP2 w a xs (ys, (d1, d2), er) (.returned (.tuple #[.slice ra ys.length rc, .agg #[.int .u64 d1, .int .u64 d2]])) (((u.setCell ⟨w.heap.size, 0, none⟩ (.int .u64 d1)).setCell ⟨w.heap.size, 1, none⟩ (.int .u64 d2)).alloc (.cells #[.int .u64 d1, .int .u64 d2] 32)).drew) := Lib.hid (by
    have hg : u.grownBy ((u.setCell ⟨w.heap.size, 0, none⟩ (.int .u64 d1)).setCell ⟨w.heap.size, 1, none⟩ (.int .u64 d2)) (some w.heap.size) := gown (gset _ _ _ _) _ _
    have hne : 0 < ys.length → ∀ ad, ra = some ad → some w.heap.size ≠ some ad.block := fun hl ad e e2 => by
      have e3 := Option.some.inj e2
      rcases hfr with ⟨e4, e5⟩ | h5
      · obtain ⟨b, off, e6, hlt, _⟩ := HITS.out 0 (by rw [← e5]; exact hl)
        rw [e4, e6] at e
        cases e
        simp only at e3
        omega
      · have := h5 ad e
        rw [World.size_alloc] at this
        omega
    have hits2 := its_kept' hits hg hne
    have hbw := HB1.out.trans (hb.mono HB1.out.size)
    have hb4 := ((hbw.setCell (p := ⟨w.heap.size, 0, none⟩) (by simp) (.int .u64 d1)).setCell (p := ⟨w.heap.size, 1, none⟩) (by simp) (.int .u64 d2))
    have hb5 := (hb4.alloc hb4.size (.cells #[.int .u64 d1, .int .u64 d2] 32)).drew
    refine ⟨ra, rc, rfl, hits2.ahead (((Below.refl _ _).alloc (Nat.le_refl _) _).drew), hcap, ?_, hb5⟩
    rcases hfr with h5 | h5
    · exact .inl h5
    · exact .inr (fun ad e => by have := h5 ad e; rw [World.size_alloc] at this; omega))
  clear hits hcap hfr hb HITS
  generalize ys.length = ln at HFIN ⊢
  have c0 : u.cell? ⟨w.heap.size, 0, none⟩ = some (.int .u64 0) := by rw [HK.out.cell]; rfl
  have c1 : u.cell? ⟨w.heap.size, 1, none⟩ = some (.int .u64 0) := by rw [HK.out.cell]; rfl
  have f0 : u.frozen? ⟨w.heap.size, 0, none⟩ = false := HK.out.frozen 0
  have f1 : u.frozen? ⟨w.heap.size, 1, none⟩ = false := HK.out.frozen 1
  have hne : w.heap.size ≠ u.heap.size := by omega
  go_wp2_with fail
  go_region_law (fail)
  all_goals
    go_wp2_with fail
    have hkf : BK w.heap.size #[.int .u64 d1, .int .u64 d2] 32 (((u.setCell ⟨w.heap.size, 0, none⟩ (.int .u64 d1)).setCell ⟨w.heap.size, 1, none⟩ (.int .u64 d2)).alloc (.cells #[.int .u64 d1, .int .u64 d2] 32)).drew := ((HK.out.set 0 (.int .u64 d1)).set 1 (.int .u64 d2)).alloc _
    have g0 : ((((u.setCell ⟨w.heap.size, 0, none⟩ (.int .u64 d1)).setCell ⟨w.heap.size, 1, none⟩ (.int .u64 d2)).alloc (.cells #[.int .u64 d1, .int .u64 d2] 32)).drew).cell? ⟨w.heap.size, 0, none⟩ = some (.int .u64 d1) := by rw [hkf.cell]; rfl
    have g1 : ((((u.setCell ⟨w.heap.size, 0, none⟩ (.int .u64 d1)).setCell ⟨w.heap.size, 1, none⟩ (.int .u64 d2)).alloc (.cells #[.int .u64 d1, .int .u64 d2] 32)).drew).cell? ⟨w.heap.size, 1, none⟩ = some (.int .u64 d2) := by rw [hkf.cell]; rfl
    refine bodyPost_ret (v := .tuple #[.slice ra ln rc, .agg #[.int .u64 d1, .int .u64 d2]]) (by simp [results, Tryz.results35, go_sem, g0, g1]) rfl ?_
    exact HFIN.out

/-- Whether a pool is one that the statements speak of. -/
def validS (xs : List Itm) : Bool := !pgreatS xs && (decide (checkP xs = 0) && !cycS xs)

set_option maxRecDepth 100000 in
set_option maxHeartbeats 2000000 in
theorem valid13_any (a : Option Addr) (xs : List Itm) (c : Nat) (w : World) (hp : Its w.heap.size w a xs) (hl : (xs.length : Int) ≤ 9223372036854775807) (hd : ∀ x ∈ xs, (x.data.length : Int) ≤ 9223372036854775807) :
    Calls Tryz.prog 11 #[.slice a xs.length c] w fun e w' => e = .returned (.bool (validS xs)) ∧ Below w.heap.size w w' := by
  have HG := Lib.hid (pgreat_any a xs c w hp hl hd)
  obtain ⟨R, hR⟩ : ∃ R, R = validS xs := ⟨_, rfl⟩
  rw [← hR]
  unfold validS at hR
  cases hg : pgreatS xs with
  | true =>
    rw [hg] at HG hR
    have HR : Hid (R = false) := Lib.hid (by rw [hR]; rfl)
    clear hR hg hp hl hd
    generalize xs.length = n at HG ⊢
    go_enter Tryz.func11, Tryz.ntmps11
    go_wp2_with fail
    (with_reducible refine (HG.out).mono ?_)
    rintro e u ⟨rfl, rfl⟩
    go_wp2_with fail
    go_ret
    exact ⟨by rw [HR.out]; rfl, Below.refl _ _⟩
  | false =>
    rw [hg] at HG hR
    obtain ⟨h1, h2⟩ := pgreatS_false hg
    have HC := Lib.hid (rpcheck_any a xs c w hp (by omega) (fun x hx => by have := h2 x hx; omega))
    by_cases hc : checkP xs = 0
    · rw [hc] at HC
      have HY := Lib.hid (fun W (hW : Below w.heap.size w W) => rcycle_any a xs c W (hp.ahead hW) (checkP_zero hc).2 (by omega) (fun x hx => by have := h2 x hx; omega))
      have HR : Hid (R = !cycS xs) := Lib.hid (by rw [hR, hc]; simp)
      clear hR hg hp hl hd h1 h2 hc
      generalize xs.length = n at HG HC HY ⊢
      generalize cycS xs = cy at HY HR
      go_enter Tryz.func11, Tryz.ntmps11
      go_wp2_with fail
      (with_reducible refine (HG.out).mono ?_)
      rintro e u ⟨rfl, rfl⟩
      go_wp2_with fail
      (with_reducible refine (HC.out).mono ?_)
      rintro e u ⟨rfl, hb⟩
      have HY1 := Lib.hid (HY.out u hb)
      have HB := Lib.hid hb
      clear hb HC HG HY
      go_wp2_with fail
      (with_reducible refine (HY1.out).mono ?_)
      rintro e u2 ⟨rfl, hb⟩
      have HB2 := Lib.hid (HB.out.trans (hb.mono HB.out.size))
      clear hb HY1
      go_wp2_with fail
      go_ret
      exact ⟨by rw [HR.out]; rfl, HB2.out⟩
    · have HR : Hid (R = false) := Lib.hid (by rw [hR]; simp [hc])
      have hcc : (checkP xs == 0) = false := by simpa using hc
      clear hR hg hp hl hd h1 h2 hc
      generalize xs.length = n at HG HC ⊢
      generalize checkP xs = ck at HC hcc
      go_enter Tryz.func11, Tryz.ntmps11
      go_wp2_with fail
      (with_reducible refine (HG.out).mono ?_)
      rintro e u ⟨rfl, rfl⟩
      go_wp2_with fail
      (with_reducible refine (HC.out).mono ?_)
      rintro e u ⟨rfl, hb⟩
      have HB := Lib.hid hb
      clear hb HC HG
      go_wp2_with fail
      go_ret
      exact ⟨by rw [HR.out]; rfl, HB.out⟩

end Go.Proofs.YtgdhkcocdmdoaaaGreat
