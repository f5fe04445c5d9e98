/- strings.Cut at a slash. -/
import Derived.Test.YtceacjnhkcikgaaGreatDoorTtCl
import Derived.BigQuiet
namespace Go.Proofs.YtceacjnhkcikgaaGreatDoor
open Go.RowKit Go.Shelf
set_option linter.unusedVariables false

theorem lindex_slash (s : List UInt8) (w : World) : Calls Tryz.prog 81 #[.string ⟨s.toArray⟩, .string ⟨#[47]⟩] w fun e w' => e = .returned (.int .i64 (if (cutS s).2.2 = true then ((cutS s).1.length : Int) else -1)) ∧ w' = w := by
  have h := Any.stringslite_Index_one (P := Tryz.prog) (ρ := Tryz.indexS_ren) { Tryz.indexS with } ⟨s.toArray⟩ 47 w
  rw [← index_cut]
  exact h
set_option maxRecDepth 100000 in
set_option maxHeartbeats 4000000 in
theorem cut_any (s : List UInt8) (hs : (s.length : Int) ≤ 1000000) (w : World) : Calls Tryz.prog 30 #[.string ⟨s.toArray⟩, .string ⟨#[47]⟩] w fun e w' => e = .returned (.tuple #[.string ⟨(cutS s).1.toArray⟩, .string ⟨(cutS s).2.1.toArray⟩, .bool (cutS s).2.2]) ∧ Below w.heap.size w w' := by
  have H : Calls Tryz.prog 52 #[.string ⟨s.toArray⟩, .string ⟨#[47]⟩] w fun e w' => e = .returned (.tuple #[.string ⟨(cutS s).1.toArray⟩, .string ⟨(cutS s).2.1.toArray⟩, .bool (cutS s).2.2]) ∧ Below w.heap.size w w' := by
    have HX := lindex_slash s w
    have hsl := ba_len s
    cases hc : (cutS s).2.2 with
    | false =>
      rw [hc, if_neg (by simp)] at HX
      have HX := Lib.hid HX
      obtain ⟨e1, e2⟩ : (cutS s).1 = s ∧ (cutS s).2.1 = [] := by
        rcases cutS_law s with ⟨h1, _⟩ | ⟨_, h2, h3, _⟩
        · rw [hc] at h1; cases h1
        · exact ⟨h2.symm, h3⟩
      rw [e1, e2]
      go_enter Tryz.func52, Tryz.ntmps52
      go_wp2_with fail
      (with_reducible refine HX.out.mono ?_)
      rintro e w' ⟨rfl, rfl⟩
      go_wp2_with fail
      go_ret3
      exact ⟨rfl, Below.refl _ _⟩
    | true =>
      rw [hc, if_pos rfl] at HX
      have HX := Lib.hid HX
      obtain ⟨t1, t2, t3⟩ := cut_take hc
      have hh := sl_hi s (cutS s).1.length (by omega)
      have hl : ∀ W, (Instr.slice 9 (.string ⟨s.toArray⟩) (some (.int .i64 (((cutS s).1.length : Int) + 1))) none none).run Tryz.prog W = .ok (.string ⟨(s.drop ((cutS s).1.length + 1)).toArray⟩) W := fun W => sl_lo s ((cutS s).1.length + 1) t3 W
      rw [t1] at hh
      rw [t2] at hl
      clear hc t1 t2
      generalize (cutS s).1 = x at hh hl HX t3 ⊢
      generalize (cutS s).2.1 = q at hl ⊢
      generalize x.length = k at hh hl HX t3
      have hk : (k : Int) + 1 ≤ 1000000 := by omega
      clear t3
      go_enter Tryz.func52, Tryz.ntmps52
      go_wp2_with fail
      (with_reducible refine HX.out.mono ?_)
      rintro e w' ⟨rfl, rfl⟩
      go_wp2_with fail
      go_quiet (fail)
      go_wp2_with fail
      go_ret3
      exact ⟨rfl, below_drewN (Below.refl _ _) _⟩
  go_enter Tryz.func30, Tryz.ntmps30
  go_wp2_with fail
  (with_reducible refine H.mono ?_)
  rintro e w' ⟨rfl, hb⟩
  go_wp2_with fail
  go_ret3
  exact ⟨rfl, hb⟩
end Go.Proofs.YtceacjnhkcikgaaGreatDoor
