/- The example of TopTreeEdits. -/
import Derived.Test.YtceacjnhkcikgaaGreatDoorTtSe
namespace Go.Proofs.YtceacjnhkcikgaaGreatDoor
open Go.RowKit Go.Shelf
set_option linter.unusedVariables false

def exL : List Fl := [⟨[97], [49]⟩]
theorem ex_ok : (storeC [] exL).2.2 = 0 ∧ (storeC [] exL).1.length = 2 := by decide +kernel
theorem ex_sz : SzF exL := ⟨by decide, by decide⟩
theorem poolIn_nil (w : World) : PoolIn w none [] 0 := ⟨Its.nil _ _ _, Nat.le_refl _, by simp, by simp⟩
set_option maxRecDepth 100000 in
set_option maxHeartbeats 4000000 in
theorem example_any (w : World) : Calls Tryz.prog 6 #[] w fun e w' => e = .returned (.bool true) ∧ Below w.heap.size w w' := by
  obtain ⟨u1, hu1⟩ : ∃ u1, u1 = w.alloc (.cells #[.string ⟨#[97]⟩, .string ⟨#[49]⟩] 43) := ⟨_, rfl⟩
  have hb1 : Below w.heap.size w u1 := by rw [hu1]; exact (Below.refl _ _).alloc (Nat.le_refl _) _
  have hbk : BK w.heap.size #[.string ⟨#[97]⟩, .string ⟨#[49]⟩] 43 u1 := by rw [hu1]; exact BK.new _ _ _
  have hfl : Fls u1.heap.size u1 (some ⟨w.heap.size, 0, none⟩) exL := by
    intro k hk
    obtain rfl : k = 0 := by simp [exL] at hk; omega
    refine ⟨w.heap.size, 0, rfl, hbk.lt, fun j v hj => ?_⟩
    have hj2 : (#[Value.string ⟨#[97]⟩, .string ⟨#[49]⟩] : Array Value)[j]? = some v := by
      have hj3 : ([Value.string ⟨#[97]⟩, .string ⟨#[49]⟩] : List Value)[j]? = some v := hj
      simpa using hj3
    rw [← hj2, ← hbk.cell]
    congr 2
    omega
  have HST := Lib.hid (Store_any none [] 0 (some ⟨w.heap.size, 0, none⟩) exL 1 u1 (poolIn_nil u1) asc_nil hfl ex_sz (by decide) (by decide))
  obtain ⟨R, hR⟩ : ∃ R, R = storeC [] exL := ⟨_, rfl⟩
  rw [← hR] at HST
  obtain ⟨h1, h2⟩ := ex_ok
  rw [← hR] at h1 h2
  have hok := storeC_ok (q := R.1) (d := R.2.1) asc_nil ex_sz (by rw [← hR]; exact Prod.ext rfl (Prod.ext rfl h1))
  have HOK := Lib.hid hok
  clear hR hok
  obtain ⟨Q, ⟨d1, d2⟩, er⟩ := R
  simp only at h1 h2 HOK
  subst h1
  have HQ := Lib.hid h2
  rw [hu1] at HST
  have HU1 := Lib.hid hu1
  have HB1 := Lib.hid hb1
  clear hu1 hb1 hbk hfl
  simp only [exL, List.length_cons, List.length_nil, Nat.zero_add] at HST
  go_enter Tryz.func6, Tryz.ntmps6
  go_wp2_with fail
  (with_reducible refine HST.out.mono ?_)
  rintro e u2 ⟨⟨ra, rc, rfl, hpat, hpin, hasc⟩, _⟩
  rw [← HU1.out] at hpat
  simp only at hpin hasc hpat ⊢
  have HB2 : Hid (Below w.heap.size w u2) := Lib.hid (HB1.out.trans (hpat.2.2.2.mono HB1.out.size))
  obtain ⟨V, hV, hVp⟩ := load_law hasc HOK.out.2.2.2
  rw [← HOK.out.2.1] at hV
  obtain ⟨u3, hu3⟩ : ∃ u3, u3 = u2.alloc (.cells #[.int .u64 d1, .int .u64 d2] 31) := ⟨_, rfl⟩
  have hb3 : Below u2.heap.size u2 u3 := by rw [hu3]; exact (Below.refl _ _).alloc (Nat.le_refl _) _
  have hb3' : BK u2.heap.size #[.int .u64 d1, .int .u64 d2] 31 u3 := by rw [hu3]; exact BK.new _ _ _
  obtain ⟨c0, c1⟩ := hb3'.c2
  have HLD := Lib.hid (load_any ra Q rc d1 d2 101 V exL u3 (hpin.below hb3) hasc hV hVp (by simp [AscF, exL]) (by decide))
  have HB3 : Hid (Below w.heap.size w u3) := Lib.hid (HB2.out.trans (hb3.mono HB2.out.size))
  rw [HQ.out] at HLD
  rw [h2]
  rw [hu3] at HLD c0 c1
  have HU3 := Lib.hid hu3
  clear hu3 hb3 hb3' hpat hpin hasc hV hVp HST
  go_wp2_with fail
  (with_reducible refine HLD.out.mono ?_)
  rintro e u4 ⟨la, lc, rfl, hrow, hb4⟩
  rw [← HU3.out] at hrow hb4
  have HFN : Hid (Below w.heap.size w u4) := Lib.hid (HB3.out.trans (hb4.mono HB3.out.size))
  obtain ⟨g, off, rfl, _, q0, q1⟩ := fl_cells (own_fls rfl hrow) (k := 0) (by decide)
  simp only [exL, List.getElem_cons_zero, Nat.zero_mul, Nat.add_zero, List.length_cons, List.length_nil, Nat.zero_add] at q0 q1 ⊢
  clear hrow hb4 HLD c0 c1
  go_wp2_with fail
  go_ret
  exact ⟨rfl, HFN.out⟩
end Go.Proofs.YtceacjnhkcikgaaGreatDoor
