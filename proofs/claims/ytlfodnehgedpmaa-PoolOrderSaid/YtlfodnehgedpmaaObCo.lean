/- object.checkCommit. -/
import Derived.Test.YtlfodnehgedpmaaObCm
import Derived.Test.YtlfodnehgedpmaaPText
namespace Go.Proofs.Ytlfodnehgedpmaa
open Go.RowKit
set_option linter.unusedVariables false

set_option maxRecDepth 100000 in
set_option maxHeartbeats 2000000 in
theorem checkCommit_any (o : Ob) (ea : Option Addr) (ec : Nat) (pa : Option Addr) (pc : Nat) (w : World) (hd : Digs w.heap.size w pa o.pars) (hpc : o.pars.length ≤ pc) (hn : (o.pars.length : Int) ≤ 9223372036854775807) (hau : (o.author.length : Int) ≤ 9223372036854775807) (hms : (o.msg.length : Int) ≤ 9223372036854775807) :
    Calls Try.prog 35 #[o.val ea ec pa pc] w fun e w' => e = .returned (.int .i64 (commitE o)) ∧ Below w.heap.size w w' := by
  obtain ⟨R, hR⟩ : ∃ R, R = commitE o := ⟨_, rfl⟩
  rw [← hR]
  unfold commitE at hR
  obtain ⟨kind, data, ents, ⟨t1, t2⟩, pars, author, time, msg⟩ := o
  simp only at hd hpc hn hau hms hR
  change Calls Try.prog 35 #[.agg #[.int .i64 kind, .string ⟨data.toArray⟩, .slice ea ents.length ec, .int .u64 t1, .int .u64 t2, .slice pa pars.length pc, .string ⟨author.toArray⟩, .int .i64 time, .string ⟨msg.toArray⟩]] w _
  generalize ents.length = ne
  obtain ⟨n, hnn⟩ : ∃ n, n = pars.length := ⟨_, rfl⟩
  rw [← hnn] at hpc hn hR ⊢
  have HN := Lib.hid hnn
  have HD := Lib.hid hd
  clear hnn hd
  have hq := fun W => eql_dig t1 t2 0 0 W
  cases hz : (t1 == 0 && t2 == 0) with
  | true =>
    rw [hz] at hq
    have HR : Hid (R = 1) := Lib.hid (by
      simp only [Bool.and_eq_true, beq_iff_eq] at hz
      rw [hR, hz.1, hz.2, if_pos rfl])
    clear hz hR
    go_enter Try.func35, Try.ntmps35
    go_wp2_with fail
    go_ret
    exact ⟨by rw [HR.out]; rfl, (Below.refl _ w).alloc (Nat.le_refl _) _⟩
  | false =>
    rw [hz] at hq
    rw [if_neg (by
      intro h
      simp only [Prod.mk.injEq] at h
      simp [h.1, h.2] at hz)] at hR
    clear hz
    by_cases h8 : (8 : Int) < n
    · have HR : Hid (R = 4) := Lib.hid (by rw [hR, if_pos (by omega)])
      clear hR
      go_enter Try.func35, Try.ntmps35
      go_wp2_with fail
      go_ret
      exact ⟨by rw [HR.out]; rfl, (Below.refl _ w).alloc (Nat.le_refl _) _⟩
    · rw [if_neg (by omega)] at hR
      have HR := Lib.hid hR
      clear hR
      have hVA := Lib.hid (fun W => valid_any author W hau)
      go_enter Try.func35, Try.ntmps35
      go_wp2_with fail
      go_loopw [16] (fun i wr => ∃ k : Nat, k ≤ n ∧ i = .int .i64 k ∧ Hid (Below w.heap.size w wr) ∧ Hid (PR pars k) ∧ w.heap.size < wr.heap.size ∧ Hid (wr.heap[w.heap.size]? = some (.cells #[.int .i64 kind, .string ⟨data.toArray⟩, .slice ea ne ec, .int .u64 t1, .int .u64 t2, .slice pa n pc, .string ⟨author.toArray⟩, .int .i64 time, .string ⟨msg.toArray⟩] 33 (0, 0)))) (fun i _ => n - (intOf i).toNat)
      case atStart => exact ⟨0, by omega, rfl, Lib.hid ((Below.refl _ w).alloc (Nat.le_refl _) _), Lib.hid (PR.start pars), by simp, Lib.hid (World.alloc_heap_new w _)⟩
      case round =>
        obtain ⟨k, hk, rfl, HB, HP, hws, HX⟩ := hrel
        by_cases hlt : k < n
        · have h1 : k < pars.length := by rw [← HN.out]; exact hlt
          obtain ⟨b0, o0, hpa, hb0, c0, c1⟩ := (HD.out.below HB.out (Nat.le_refl _)) k h1
          subst hpa
          have HST := Lib.hid (HP.out.step h1)
          obtain ⟨A1, cc1, hA1, hsl⟩ := dslice_hi (some ⟨b0, o0, none⟩) n pc k (by omega)
          have HCN : Hid (∀ x y W, Below wr.heap.size wr W → Calls Try.prog 59 #[.slice A1 k cc1, .agg #[.int .u64 x, .int .u64 y]] W fun e w' => e = .returned (.bool (decide ((x, y) ∈ pars.take k))) ∧ Below W.heap.size W w') := Lib.hid (fun x y W hW => by
            have h2 := hA1 _ _ _ (HD.out.below HB.out (Nat.le_refl _))
            have h3 := containsD_any A1 (pars.take k) cc1 x y W (((h2.mono HB.out.size).below hW (Nat.le_refl _)).mono hW.size) (by rw [List.length_take]; omega)
            rwa [List.length_take, Nat.min_eq_left (by omega)] at h3)
          generalize pars[k] = dk at c0 c1 HST
          obtain ⟨x, y⟩ := dk
          simp only at c0 c1
          have hqq := fun W => eql_dig x y 0 0 W
          have e5 : wr.cell? ⟨w.heap.size, 5, none⟩ = some (.slice (some ⟨b0, o0, none⟩) n pc) := by rw [Lib.cell_of_heap HX.out]; rfl
          cases hz : (x == 0 && y == 0) with
          | true =>
            rw [hz] at hqq
            have HRR : Hid (R = 1) := Lib.hid (by
              simp only [Bool.and_eq_true, beq_iff_eq] at hz
              have : parGo [] pars = 1 := by rw [HST.out, hz.1, hz.2, if_pos rfl]
              rw [HR.out, this, if_pos (by decide)])
            clear hz HST hA1
            go_wp2_with fail
            go_ret
            exact ⟨by rw [HRR.out]; rfl, HB.out.alloc (by omega) _⟩
          | false =>
            rw [hz] at hqq
            have HST2 : Hid (parGo [] pars = if (x, y) ∈ pars.take k then 7 else parGo (pars.take (k + 1)) (pars.drop (k + 1))) := Lib.hid (by
              rw [HST.out, if_neg (by
                intro h
                simp only [Prod.mk.injEq] at h
                simp [h.1, h.2] at hz)])
            clear hz HST hA1
            have HC2 := Lib.hid (HCN.out x y)
            clear HCN
            cases hm : decide ((x, y) ∈ pars.take k) with
            | true =>
              have HRR : Hid (R = 7) := Lib.hid (by
                have : parGo [] pars = 7 := by rw [HST2.out, if_pos (by simpa using hm)]
                rw [HR.out, this, if_pos (by decide)])
              have HC3 : Hid (∀ W, Below wr.heap.size wr W → Calls Try.prog 59 #[.slice A1 k cc1, .agg #[.int .u64 x, .int .u64 y]] W fun e w' => e = .returned (.bool true) ∧ Below W.heap.size W w') := Lib.hid (by
                have := HC2.out
                rwa [hm] at this)
              clear hm HC2 HST2
              go_wp2_with fail
              have HW9 : Hid (Below wr.heap.size wr (wr.alloc (.cells #[.int .u64 x, .int .u64 y] 30))) := Lib.hid ((Below.refl _ wr).alloc (Nat.le_refl _) _)
              have g0 : (wr.alloc (.cells #[.int .u64 x, .int .u64 y] 30)).cell? ⟨wr.heap.size, 0, none⟩ = some (.int .u64 x) := by simp
              have g1 : (wr.alloc (.cells #[.int .u64 x, .int .u64 y] 30)).cell? ⟨wr.heap.size, 1, none⟩ = some (.int .u64 y) := by simp
              have g5 := cell_a1 e5 (.cells #[.int .u64 x, .int .u64 y] 30)
              have HXA : Hid ((wr.alloc (.cells #[.int .u64 x, .int .u64 y] 30)).heap[w.heap.size]? = some (.cells #[.int .i64 kind, .string ⟨data.toArray⟩, .slice ea ne ec, .int .u64 t1, .int .u64 t2, .slice (some ⟨b0, o0, none⟩) n pc, .string ⟨author.toArray⟩, .int .i64 time, .string ⟨msg.toArray⟩] 33 (0, 0))) := Lib.hid ((Below.heap_alloc _ _ _ hws).trans HX.out)
              generalize wr.alloc (.cells #[.int .u64 x, .int .u64 y] 30) = x9 at HW9 g0 g1 g5 HXA ⊢
              have f0 := cell_regrown g0
              have f1 := cell_regrown g1
              have f5 := cell_regrown g5
              have HA := Lib.hid (fun d os => Calls.regrown_of (w := x9) (d := d) (os := os) (HC3.out _ (HW9.out.trans ((below_regrown x9 d os).mono HW9.out.size))))
              refine wp_region_quiet_below (by kernel_rfl) (by kernel_rfl) ?_
              repeat (any_goals (first | go_big_quiet_step (with_reducible exact HA.out _ _) | quiet_step (with_reducible exact HA.out _ _)))
              refine wpQuiet_nil ?_
              intro w2 hw2
              have HB2 : Hid (Below w.heap.size w w2) := Lib.hid ((HB.out.trans (HW9.out.mono HB.out.size)).trans ((below_rg hw2).mono (Nat.le_trans HB.out.size HW9.out.size)))
              have HX2 := Lib.hid (((below_rg hw2).block w.heap.size (Nat.lt_of_lt_of_le hws HW9.out.size)).trans HXA.out)
              have hw2s : w.heap.size < w2.heap.size := Nat.lt_of_lt_of_le hws (Nat.le_trans HW9.out.size (below_rg hw2).size)
              clear hw2 HA f0 f1 f5 g0 g1 g5 HC3 HXA
              go_wp2_with fail
              go_ret
              exact ⟨by rw [HRR.out]; rfl, HB2.out⟩
            | false =>
              have HRR : Hid (PR pars (k + 1)) := Lib.hid (by
                unfold PR
                rw [HST2.out, if_neg (by simpa using hm)])
              have HC3 : Hid (∀ W, Below wr.heap.size wr W → Calls Try.prog 59 #[.slice A1 k cc1, .agg #[.int .u64 x, .int .u64 y]] W fun e w' => e = .returned (.bool false) ∧ Below W.heap.size W w') := Lib.hid (by
                have := HC2.out
                rwa [hm] at this)
              clear hm HC2 HST2
              go_wp2_with fail
              have HW9 : Hid (Below wr.heap.size wr (wr.alloc (.cells #[.int .u64 x, .int .u64 y] 30))) := Lib.hid ((Below.refl _ wr).alloc (Nat.le_refl _) _)
              have g0 : (wr.alloc (.cells #[.int .u64 x, .int .u64 y] 30)).cell? ⟨wr.heap.size, 0, none⟩ = some (.int .u64 x) := by simp
              have g1 : (wr.alloc (.cells #[.int .u64 x, .int .u64 y] 30)).cell? ⟨wr.heap.size, 1, none⟩ = some (.int .u64 y) := by simp
              have g5 := cell_a1 e5 (.cells #[.int .u64 x, .int .u64 y] 30)
              have HXA : Hid ((wr.alloc (.cells #[.int .u64 x, .int .u64 y] 30)).heap[w.heap.size]? = some (.cells #[.int .i64 kind, .string ⟨data.toArray⟩, .slice ea ne ec, .int .u64 t1, .int .u64 t2, .slice (some ⟨b0, o0, none⟩) n pc, .string ⟨author.toArray⟩, .int .i64 time, .string ⟨msg.toArray⟩] 33 (0, 0))) := Lib.hid ((Below.heap_alloc _ _ _ hws).trans HX.out)
              generalize wr.alloc (.cells #[.int .u64 x, .int .u64 y] 30) = x9 at HW9 g0 g1 g5 HXA ⊢
              have f0 := cell_regrown g0
              have f1 := cell_regrown g1
              have f5 := cell_regrown g5
              have HA := Lib.hid (fun d os => Calls.regrown_of (w := x9) (d := d) (os := os) (HC3.out _ (HW9.out.trans ((below_regrown x9 d os).mono HW9.out.size))))
              refine wp_region_quiet_below (by kernel_rfl) (by kernel_rfl) ?_
              repeat (any_goals (first | go_big_quiet_step (with_reducible exact HA.out _ _) | quiet_step (with_reducible exact HA.out _ _)))
              refine wpQuiet_nil ?_
              intro w2 hw2
              have HB2 : Hid (Below w.heap.size w w2) := Lib.hid ((HB.out.trans (HW9.out.mono HB.out.size)).trans ((below_rg hw2).mono (Nat.le_trans HB.out.size HW9.out.size)))
              have HX2 := Lib.hid (((below_rg hw2).block w.heap.size (Nat.lt_of_lt_of_le hws HW9.out.size)).trans HXA.out)
              have hw2s : w.heap.size < w2.heap.size := Nat.lt_of_lt_of_le hws (Nat.le_trans HW9.out.size (below_rg hw2).size)
              clear hw2 HA f0 f1 f5 g0 g1 g5 HC3 HXA
              go_wp2_with fail
              go_roundw
              case rel => exact ⟨k + 1, by omega, by go_num, HB2, HRR, hw2s, HX2⟩
              case measure => simp [intOf]; omega
        · have HP0 := Lib.hid (HP.out.fin (by rw [← HN.out]; omega))
          have HR2 : Hid (R = if nameB author = false then 6 else if time < 0 ∨ 1099511627776 < time then 2 else if 200 < msg.length then 4 else 0) := Lib.hid (by rw [HR.out, HP0.out, if_neg (by simp)])
          have e6 : wr.cell? ⟨w.heap.size, 6, none⟩ = some (.string ⟨author.toArray⟩) := by rw [Lib.cell_of_heap HX.out]; rfl
          have e7 : wr.cell? ⟨w.heap.size, 7, none⟩ = some (.int .i64 time) := by rw [Lib.cell_of_heap HX.out]; rfl
          have e8 : wr.cell? ⟨w.heap.size, 8, none⟩ = some (.string ⟨msg.toArray⟩) := by rw [Lib.cell_of_heap HX.out]; rfl
          clear HR HP0 HP
          cases hv : nameB author with
          | false =>
            rw [hv] at hVA
            have HRR : Hid (R = 6) := Lib.hid (by rw [HR2.out, hv, if_pos rfl])
            clear hv HR2
            go_wp2_with fail
            refine (hVA.out _).mono ?_
            rintro e w' ⟨rfl, rfl⟩
            go_wp2_with fail
            go_ret
            exact ⟨by rw [HRR.out]; rfl, HB.out⟩
          | true =>
            rw [hv] at hVA
            have HR3 : Hid (R = if time < 0 ∨ 1099511627776 < time then 2 else if 200 < msg.length then 4 else 0) := Lib.hid (by rw [HR2.out, hv, if_neg (by simp)])
            clear hv HR2
            by_cases ht : time < 0 ∨ 1099511627776 < time
            · have HRR : Hid (R = 2) := Lib.hid (by rw [HR3.out, if_pos ht])
              clear HR3
              go_wp2_with fail
              refine (hVA.out _).mono ?_
              rintro e w' ⟨rfl, rfl⟩
              go_wp2_with fail
              all_goals first
                | (exfalso; omega)
                | (go_ret; exact ⟨by rw [HRR.out]; rfl, HB.out⟩)
            · have HR4 : Hid (R = if 200 < msg.length then 4 else 0) := Lib.hid (by rw [HR3.out, if_neg ht])
              have t1' : decide (time < 0) = false := by simp; omega
              have t2' : decide (1099511627776 < time) = false := by simp; omega
              clear HR3 ht
              by_cases hm : (200 : Int) < msg.length
              · have HRR : Hid (R = 4) := Lib.hid (by rw [HR4.out, if_pos (by omega)])
                clear HR4
                go_wp2_with fail
                refine (hVA.out _).mono ?_
                rintro e w' ⟨rfl, rfl⟩
                go_wp2_with fail
                go_ret
                exact ⟨by rw [HRR.out]; rfl, HB.out⟩
              · have HRR : Hid (R = 0) := Lib.hid (by rw [HR4.out, if_neg (by omega)])
                clear HR4
                go_wp2_with fail
                refine (hVA.out _).mono ?_
                rintro e w' ⟨rfl, rfl⟩
                go_wp2_with fail
                go_ret
                exact ⟨by rw [HRR.out]; rfl, HB.out⟩

end Go.Proofs.Ytlfodnehgedpmaa
