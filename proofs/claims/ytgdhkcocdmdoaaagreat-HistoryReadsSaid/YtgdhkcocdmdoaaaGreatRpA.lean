/- The reference's Check of pools. -/
import Derived.Test.YtgdhkcocdmdoaaaGreatK6
import Derived.Test.YtgdhkcocdmdoaaaGreatK5
import Derived.Test.YtgdhkcocdmdoaaaGreatK4
namespace Go.Proofs.YtgdhkcocdmdoaaaGreat
open Go.RowKit Go.Shelf
set_option linter.unusedVariables false

set_option maxRecDepth 100000 in
set_option maxHeartbeats 4000000 in
theorem rpcheck_any (a : Option Addr) (xs : List Itm) (c : Nat) (w : World) (hp : Its w.heap.size w a xs) (hn : (xs.length : Int) ≤ 1000000) (hd : ∀ x ∈ xs, (x.data.length : Int) ≤ 1000000) :
    Calls Tryz.prog 33 #[.slice a xs.length c] w fun e w' => e = .returned (.int .i64 (checkP xs)) ∧ Below w.heap.size w w' := by
  obtain ⟨R, hR⟩ : ∃ R, R = checkP xs := ⟨_, rfl⟩
  rw [← hR]
  have HF := Lib.hid hR
  obtain ⟨n, hnn⟩ : ∃ n, n = xs.length := ⟨_, rfl⟩
  rw [← hnn] at hn ⊢
  have HN := Lib.hid hnn
  have HP := Lib.hid hp
  have HDT := Lib.hid hd
  clear hnn hp hR hd
  go_enter Tryz.func33, Tryz.ntmps33
  go_wp2_with fail
  go_loopw [3] (fun i wr => ∃ k : Nat, k ≤ n ∧ i = .int .i64 k ∧ Hid (Below w.heap.size w wr) ∧ Hid (CR xs k)) (fun i _ => n - (intOf i).toNat)
  case atStart => exact ⟨0, by omega, rfl, Lib.hid (Below.refl _ _), Lib.hid (CR.start xs)⟩
  case round =>
    obtain ⟨k, hk, rfl, HB, HE⟩ := hrel
    have hws := HB.out.size
    by_cases hlt : k < n
    · have h1 : k < xs.length := by rw [← HN.out]; exact hlt
      obtain ⟨p0, o0, rfl, hp0, q0, q1, q2⟩ := (HP.out.ahead HB.out) k h1
      have hdl := HDT.out _ (List.getElem_mem h1)
      have HST := Lib.hid (HE.out.step h1)
      have HPV : Hid (∀ j (hj : j < xs.length), k = j + 1 → prevP xs k = some xs[j].d) := Lib.hid (fun j hj e => by subst e; rw [prevP, List.getElem?_eq_getElem hj]; rfl)
      generalize hit : xs[k] = it at q0 q1 q2 HST hdl
      have HIT := Lib.hid hit
      clear hit
      obtain ⟨⟨i1, i2⟩, dt⟩ := it
      simp only at q0 q1 q2 hdl
      have HDC := Lib.hid (rdecode_any dt wr hdl)
      have HOf := Lib.hid (fun W => refOf_any dt W (by omega))
      have HCI : Hid (chkI ⟨(i1, i2), dt⟩ = if (decodeS dt).2 ≠ 0 then 13 else if digS dt ≠ (i1, i2) then 15 else 0) := Lib.hid rfl
      generalize decodeS dt = D at HDC HCI
      generalize digS dt = dg at HOf HCI
      obtain ⟨o, er⟩ := D
      obtain ⟨g1, g2⟩ := dg
      obtain ⟨kind, data, ents, ⟨t1, t2⟩, pars, author, time, msg⟩ := o
      simp only at HDC HOf HCI
      generalize chkI ⟨(i1, i2), dt⟩ = ci at HCI HST
      have hkn : (k : Int) < (n : Int) := by omega
      go_wp2_with fail
      (with_reducible refine (HDC.out).mono ?_)
      rintro e u ⟨ea, ec, pa, pc, rfl, _, hb⟩
      have HBW : Hid (Below wr.heap.size wr u) := Lib.hid hb
      clear hb HDC
      simp only [Ob.val]
      generalize ents.length = ne
      generalize pars.length = np
      obtain ⟨u2, hu2⟩ : ∃ u2, u2 = u.alloc (.cells #[.int .i64 kind, .string ⟨data.toArray⟩, .slice ea ne ec, .int .u64 t1, .int .u64 t2, .slice pa np pc, .string ⟨author.toArray⟩, .int .i64 time, .string ⟨msg.toArray⟩] 36) := ⟨_, rfl⟩
      have HBW2 : Hid (Below wr.heap.size wr u2) := Lib.hid (by rw [hu2]; exact HBW.out.alloc HBW.out.size _)
      have HB2 : Hid (Below w.heap.size w u2) := Lib.hid (HB.out.trans (HBW2.out.mono hws))
      have hz2 : w.heap.size ≤ u2.heap.size := HB2.out.size
      have HU2 := Lib.hid hu2
      clear hu2 q0 q1 q2
      obtain ⟨_, _, hpe, _, q0, q1, q2⟩ := (HP.out.ahead HB2.out) k h1
      cases hpe
      rw [HIT.out] at q0 q1 q2
      simp only at q0 q1 q2
      by_cases he : er = 0
      · subst he
        have HCI2 : Hid (ci = if (g1, g2) ≠ (i1, i2) then 15 else 0) := Lib.hid (by rw [HCI.out, if_neg (by simp)])
        clear HCI
        have f0 := cell_regrown q0
        have f1 := cell_regrown q1
        have f2 := cell_regrown q2
        have hq := fun W => neq_dig g1 g2 i1 i2 W
        have HA := Lib.hid (fun d os => Calls.regrown_of (w := u2) (d := d) (os := os) (HOf.out _))
        cases hz : (g1 == i1 && g2 == i2) with
        | false =>
          rw [hz] at hq
          have HR : Hid (R = 15) := Lib.hid (by
            have hci : ci = 15 := by
              rw [HCI2.out, if_pos]
              intro h
              simp only [Prod.mk.injEq] at h
              simp [h.1, h.2] at hz
            rw [HF.out, HST.out, hci, if_pos (by decide)])
          clear hz HCI2 HST HE
          go_wp2_with fail
          rw [← HU2.out]
          refine wp_region_quiet_below (by kernel_rfl) (by kernel_rfl) ?_
          repeat (any_goals (first | go_big_quiet_step (first | (with_reducible exact HA.out _ _)) | quiet_step (first | (with_reducible exact HA.out _ _))))
          refine wpQuiet_nil ?_
          intro w2 hw2
          have HB3 := Lib.hid (HB2.out.trans ((below_rg hw2).mono hz2))
          clear hw2 HA f0 f1 f2
          go_wp2_with fail
          go_ret
          exact ⟨by rw [HR.out]; rfl, HB3.out⟩
        | true =>
          rw [hz] at hq
          have HST2 : Hid (checkP xs = if prevD (prevP xs k) (i1, i2) = true then 10 else chkGo (prevP xs (k + 1)) (xs.drop (k + 1))) := Lib.hid (by
            have hci : ci = 0 := by
              rw [HCI2.out, if_neg]
              simp only [Bool.and_eq_true, beq_iff_eq] at hz
              simp [hz.1, hz.2]
            rw [HST.out, hci, if_neg (by simp)])
          clear hz HCI2 HST HE
          go_wp2_with fail
          rw [← HU2.out]
          refine wp_region_quiet_below (by kernel_rfl) (by kernel_rfl) ?_
          repeat (any_goals (first | go_big_quiet_step (first | (with_reducible exact HA.out _ _)) | quiet_step (first | (with_reducible exact HA.out _ _))))
          refine wpQuiet_nil ?_
          intro w2 hw2
          have HBW3 := Lib.hid (HBW2.out.trans ((below_rg hw2).mono HBW2.out.size))
          have HB3 := Lib.hid (HB2.out.trans ((below_rg hw2).mono hz2))
          have hz3 : w.heap.size ≤ w2.heap.size := HB3.out.size
          clear hw2 HA f0 f1 f2 q0 q1 q2 HU2
          obtain ⟨_, _, hpe, _, q0, q1, q2⟩ := (HP.out.ahead HB3.out) k h1
          cases hpe
          rw [HIT.out] at q0 q1 q2
          simp only at q0 q1 q2
          by_cases hk0 : k = 0
          · have g0 : decide ((0 : Int) < (k : Int)) = false := by simp; omega
            have g1 : decide (0 < k) = false := by simp; omega
            have HR : Hid (CR xs (k + 1)) := Lib.hid (by
              unfold CR
              rw [HST2.out, if_neg]
              rw [hk0]; simp [prevP, prevD])
            clear hk0 HST2
            go_wp2_with fail
            go_quiet (fail)
            go_wp2_with fail
            go_roundw
            case rel => exact ⟨k + 1, by omega, by go_num, Lib.hid (below_drewN HB3.out _), HR⟩
            case measure => simp [intOf] <;> omega
          · have g0 : decide ((0 : Int) < (k : Int)) = true := by simp; omega
            have g1 : decide (0 < k) = true := by simp; omega
            obtain ⟨j, hj⟩ : ∃ j, k = j + 1 := ⟨k - 1, by omega⟩
            have hj1 : j < xs.length := by omega
            obtain ⟨_, _, hbe, _, j0, j1, _⟩ := (HP.out.ahead HB3.out) j hj1
            cases hbe
            have hjk : (k : Int) - 1 = (j : Int) := by omega
            have hjw : IntKind.i64.wrap ((k : Int) - 1) = (j : Int) := by rw [hjk]; exact wrap_i64 (by omega) (by omega)
            have hjb : (j : Int) < (n : Int) := by omega
            have HPV2 := Lib.hid (HPV.out j hj1 hj)
            clear HPV
            generalize xs[j] = ij at j0 j1 HPV2
            obtain ⟨⟨j1', j2'⟩, jd⟩ := ij
            simp only at j0 j1 HPV2
            have HCM := Lib.hid (fun W => refCmp_any j1' j2' i1 i2 W)
            have HST3 : Hid (R = if 0 ≤ cmpD (j1', j2') (i1, i2) then 10 else chkGo (prevP xs (k + 1)) (xs.drop (k + 1))) := Lib.hid (by
              rw [HF.out, HST2.out, HPV2.out]
              have ha := cmpD_anti (a := (i1, i2)) (b := (j1', j2'))
              by_cases hc : 0 ≤ cmpD (j1', j2') (i1, i2)
              · rw [if_pos hc, if_pos]; simp [prevD]; omega
              · rw [if_neg hc, if_neg]; simp [prevD]; omega)
            generalize cmpD (j1', j2') (i1, i2) = cv at HCM HST3
            have HA := Lib.hid (fun d os => Calls.regrown_of (w := w2) (d := d) (os := os) (HCM.out _))
            have f0 := cell_regrown q0
            have f1 := cell_regrown q1
            have e0 := cell_regrown j0
            have e1 := cell_regrown j1
            clear HST2 HPV2 HCM hj hjk hk0
            by_cases hc : 0 ≤ cv
            · have dc : decide (0 ≤ cv) = true := by simpa using hc
              have HR : Hid (R = 10) := Lib.hid (by rw [HST3.out, if_pos hc])
              clear HST3 hc
              go_wp2_with fail
              refine wp_region_quiet_below (by kernel_rfl) (by kernel_rfl) ?_
              repeat (any_goals (first | go_big_quiet_step (first | (with_reducible exact HA.out _ _)) | quiet_step (first | (with_reducible exact HA.out _ _))))
              refine wpQuiet_nil ?_
              intro w3 hw3
              have HB4 := Lib.hid (HB3.out.trans ((below_rg hw3).mono hz3))
              clear hw3 HA f0 f1 e0 e1
              go_wp2_with fail
              go_ret
              exact ⟨by rw [HR.out]; rfl, HB4.out⟩
            · have dc : decide (0 ≤ cv) = false := by simpa using hc
              have HR : Hid (CR xs (k + 1)) := Lib.hid (by unfold CR; rw [← HF.out, HST3.out, if_neg hc])
              clear HST3 hc
              go_wp2_with fail
              refine wp_region_quiet_below (by kernel_rfl) (by kernel_rfl) ?_
              repeat (any_goals (first | go_big_quiet_step (first | (with_reducible exact HA.out _ _)) | quiet_step (first | (with_reducible exact HA.out _ _))))
              refine wpQuiet_nil ?_
              intro w3 hw3
              have HB4 := Lib.hid (HB3.out.trans ((below_rg hw3).mono hz3))
              clear hw3 HA f0 f1 e0 e1
              go_wp2_with fail
              go_roundw
              case rel => exact ⟨k + 1, by omega, by go_num, HB4, HR⟩
              case measure => simp [intOf] <;> omega
      · have hne : (er != 0) = true := by simpa using he
        have HR : Hid (R = 13) := Lib.hid (by
          have hci : ci = 13 := by rw [HCI.out, if_pos he]
          rw [HF.out, HST.out, hci, if_pos (by decide)])
        clear he HST HE HCI
        go_wp2_with fail
        rw [← HU2.out]
        go_ret
        exact ⟨by rw [HR.out]; rfl, HB2.out⟩
    · have HR : Hid (R = 0) := Lib.hid (by rw [HF.out]; exact HE.out.fin (by rw [← HN.out]; omega))
      go_wp2_with fail
      go_ret
      exact ⟨by rw [HR.out]; rfl, HB.out⟩

end Go.Proofs.YtgdhkcocdmdoaaaGreat
