/- The reference's Cycle. -/
import Derived.Test.YtgdhkcocdmdoaaaGreatHiCw
namespace Go.Proofs.YtgdhkcocdmdoaaaGreat
open Go.RowKit Go.Shelf
set_option linter.unusedVariables false

set_option maxRecDepth 100000 in
set_option maxHeartbeats 4000000 in
theorem rcycle_any (a : Option Addr) (xs : List Itm) (c : Nat) (w : World) (hp : Its w.heap.size w a xs) (hA : Asc xs) (hn : (xs.length : Int) ≤ 500) (hd : ∀ x ∈ xs, (x.data.length : Int) ≤ 1000000) :
    Calls Tryz.prog 34 #[.slice a xs.length c] w fun e w' => e = .returned (.bool (cycS xs)) ∧ Below w.heap.size w w' := by
  have HFO := Lib.hid (fun d1 d2 W (hW : Its W.heap.size W a xs) => rfollow_any a xs c hA (by omega) hd (mea xs (commitS xs (d1, d2)).1.pars []) none [] 0 d1 d2 W hW (Digs.nil _ _ _) (Nat.le_refl _) (by
    have h1 : (commitS xs (d1, d2)).1.pars.length ≤ 200 := by
      by_cases h : (commitS xs (d1, d2)).2 = 0
      · exact pars_le h
      · rw [no_pars h]; simp
    unfold mea
    have h2 := List.countP_le_length (p := fun x : Itm => !decide (x.d ∈ ([] : List (Int × Int)))) (l := xs)
    simp only [List.length_nil]
    omega) (Nat.le_refl _))
  have HLN : Hid (∀ d, (folS xs (commitS xs d).1.pars []).length ≤ 600000) := Lib.hid (fun d => by
    have h1 : (commitS xs d).1.pars.length ≤ 200 := by
      by_cases h : (commitS xs d).2 = 0
      · exact pars_le h
      · rw [no_pars h]; simp
    have h3 := folS_mea xs [] _ (commitS xs d).1.pars [] (Nat.le_refl _)
    rw [List.append_nil] at h3
    have h2 := List.countP_le_length (p := fun x : Itm => !decide (x.d ∈ ([] : List (Int × Int)))) (l := xs)
    have h4 : mea xs (commitS xs d).1.pars [] ≤ 500200 := by unfold mea; omega
    simp only [List.length_nil] at h3
    omega)
  have HP := Lib.hid hp
  obtain ⟨R, hR⟩ : ∃ R, R = cycS xs := ⟨_, rfl⟩
  rw [← hR]
  have HR := Lib.hid hR
  obtain ⟨n, hnn⟩ : ∃ n, n = xs.length := ⟨_, rfl⟩
  rw [← hnn] at HFO hn ⊢
  have HN := Lib.hid hnn
  simp only [List.length_nil] at HFO
  clear hp hA hd hR hnn
  go_enter Tryz.func34, Tryz.ntmps34
  go_wp2_with fail
  go_loopw [3] (fun i wr => ∃ k : Nat, k ≤ n ∧ i = .int .i64 k ∧ Hid (Below w.heap.size w wr) ∧ Hid (∀ j (h : j < xs.length), j < k → xs[j].d ∉ folS xs (commitS xs xs[j].d).1.pars [])) (fun i _ => n - (intOf i).toNat)
  case atStart => exact ⟨0, by omega, rfl, Lib.hid (Below.refl _ _), Lib.hid (fun j h hj => by omega)⟩
  case round =>
    obtain ⟨k, hk, rfl, HB, HJ⟩ := hrel
    have hws := HB.out.size
    by_cases hlt : k < n
    · have h1 : k < xs.length := by rw [← HN.out]; exact hlt
      obtain ⟨p0, o0, haa, hp0, q0, q1, _⟩ := (HP.out.ahead HB.out) k h1
      have HIT := Lib.hid (HP.out.ahead HB.out)
      have HAA := Lib.hid haa
      subst haa
      have HMM : Hid (xs[k] ∈ xs) := Lib.hid (List.getElem_mem h1)
      have HJ2 : Hid (xs[k].d ∉ folS xs (commitS xs xs[k].d).1.pars [] → ∀ j (h : j < xs.length), j < k + 1 → xs[j].d ∉ folS xs (commitS xs xs[j].d).1.pars []) := Lib.hid (fun hno j h hj => by
        rcases Nat.lt_or_ge j k with h2 | h2
        · exact HJ.out j h h2
        · obtain rfl : j = k := by omega
          exact hno)
      generalize xs[k] = it at q0 q1 HMM HJ2
      obtain ⟨⟨d1, d2⟩, dt⟩ := it
      simp only at q0 q1 HMM HJ2
      have HFO1 := Lib.hid (fun W (hW : Below wr.heap.size wr W) => HFO.out d1 d2 W (HIT.out.ahead hW))
      have hln := HLN.out (d1, d2)
      have HRT : Hid ((d1, d2) ∈ folS xs (commitS xs (d1, d2)).1.pars [] → R = true) := Lib.hid (fun h => by
        rw [HR.out]
        unfold cycS
        rw [List.any_eq_true]
        exact ⟨_, HMM.out, by simpa using h⟩)
      generalize folS xs (commitS xs (d1, d2)).1.pars [] = L at HFO1 HJ2 HRT hln
      have HIN := Lib.hid (fun fa fc W (h : Digs W.heap.size W fa L) => rin_any fa L fc d1 d2 W h (by omega))
      have HALL : Hid (∀ W, Below wr.heap.size wr W → Below wr.heap.size wr W ∧ W.cell? ⟨p0, o0 + k * 3, none⟩ = some (.int .u64 d1) ∧ W.cell? ⟨p0, o0 + k * 3 + 1, none⟩ = some (.int .u64 d2)) := Lib.hid (fun W hW => ⟨hW, (hW.cell (p := ⟨p0, o0 + k * 3, none⟩) hp0).trans q0, (hW.cell (p := ⟨p0, o0 + k * 3 + 1, none⟩) hp0).trans q1⟩)
      have hs0 := HALL.out wr.drew ((Below.refl _ _).drew)
      have hkn : (k : Int) < (n : Int) := by omega
      clear HIT HMM HR
      cases hin : decide ((d1, d2) ∈ L) with
      | true =>
        rw [hin] at HIN
        have HX := Lib.hid (HRT.out (by simpa using hin))
        clear HJ2 HRT hin
        go_wp2_with fail
        go_region_held3 (fun W => Below wr.heap.size wr W ∧ W.cell? ⟨p0, o0 + k * 3, none⟩ = some (.int .u64 d1) ∧ W.cell? ⟨p0, o0 + k * 3 + 1, none⟩ = some (.int .u64 d2))
          (first | exact hs0 | assumption | (refine HALL.out _ (Below.trans ?_ (Below.mono ‹Below _ _ _› ?_)) <;> first | assumption | exact hs0.1 | exact hs0.1.size | exact (‹Below wr.heap.size wr _ ∧ _›).1 | exact (‹Below wr.heap.size wr _ ∧ _›).1.size))
          (first | ((with_reducible refine (HFO1.out _ hs0.1).mono ?_); rintro e W3 ⟨fa, fc, rfl, hdg, hfc, hb⟩) | ((with_reducible refine (HIN.out _ _ _ hdg).mono ?_); rintro e W4 ⟨rfl, hb4⟩) | fail)
        all_goals
          clear hs0
          go_wp2_with fail
          go_ret
          exact ⟨by rw [HX.out]; rfl, HB.out.trans ((‹Below wr.heap.size wr _ ∧ _›).1.mono hws)⟩
      | false =>
        rw [hin] at HIN
        have HJ3 := Lib.hid (HJ2.out (by simpa using hin))
        clear HJ2 HRT hin
        go_wp2_with fail
        go_region_held3 (fun W => Below wr.heap.size wr W ∧ W.cell? ⟨p0, o0 + k * 3, none⟩ = some (.int .u64 d1) ∧ W.cell? ⟨p0, o0 + k * 3 + 1, none⟩ = some (.int .u64 d2))
          (first | exact hs0 | assumption | (refine HALL.out _ (Below.trans ?_ (Below.mono ‹Below _ _ _› ?_)) <;> first | assumption | exact hs0.1 | exact hs0.1.size | exact (‹Below wr.heap.size wr _ ∧ _›).1 | exact (‹Below wr.heap.size wr _ ∧ _›).1.size))
          (first | ((with_reducible refine (HFO1.out _ hs0.1).mono ?_); rintro e W3 ⟨fa, fc, rfl, hdg, hfc, hb⟩) | ((with_reducible refine (HIN.out _ _ _ hdg).mono ?_); rintro e W4 ⟨rfl, hb4⟩) | fail)
        all_goals
          clear hs0
          have HBN := Lib.hid (HB.out.trans ((‹Below wr.heap.size wr _ ∧ _›).1.mono hws))
          go_wp2_with fail
          go_roundw
          case rel => exact ⟨k + 1, by omega, by go_num, HBN, HJ3⟩
          case measure => simp [intOf] <;> omega
    · have HX : Hid (R = false) := Lib.hid (by
        rw [HR.out]
        unfold cycS
        rw [List.any_eq_false]
        intro x hx
        obtain ⟨j, hj, rfl⟩ := List.getElem_of_mem hx
        simpa using HJ.out j hj (by have := HN.out; omega))
      have hkn : ¬ (k : Int) < (n : Int) := by omega
      clear HJ
      go_wp2_with fail
      go_ret
      exact ⟨by rw [HX.out]; rfl, HB.out⟩

end Go.Proofs.YtgdhkcocdmdoaaaGreat
