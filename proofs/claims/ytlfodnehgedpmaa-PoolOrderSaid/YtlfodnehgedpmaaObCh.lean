/- object.check. -/
import Derived.Test.YtlfodnehgedpmaaObCo
namespace Go.Proofs.Ytlfodnehgedpmaa
open Go.RowKit
set_option linter.unusedVariables false

theorem neq_dig0 (x y : Int) (W : World) : (binOp .neq 30 (.agg #[.int .u64 x, .int .u64 y]) (.agg #[.int .u64 0, .int .u64 0])).run Try.prog W = .ok (.bool (!(x == 0 && y == 0))) W := neq_dig x y 0 0 W
theorem hasC_is (o : Ob) : hasC o = (!(o.tree.1 == 0 && o.tree.2 == 0) || decide (0 < o.pars.length) || !(o.author == []) || !(o.time == 0) || !(o.msg == [])) := by
  obtain ⟨kind, data, ents, ⟨t1, t2⟩, pars, author, time, msg⟩ := o
  unfold hasC
  have e1 : decide (((t1, t2) : Int × Int) = (0, 0)) = (t1 == 0 && t2 == 0) := by
    rw [Bool.eq_iff_iff]; simp
  have e2 : ∀ l : List UInt8, decide (0 < l.length) = !(l == []) := fun l => by cases l <;> simp
  have e3 : decide (time = 0) = (time == 0) := by rw [Bool.eq_iff_iff]; simp
  simp only [e1, e2, e3]

set_option maxRecDepth 100000 in
set_option maxHeartbeats 4000000 in
theorem check_any (o : Ob) (ea : Option Addr) (ec : Nat) (pa : Option Addr) (pc : Nat) (w : World) (he : Ents w.heap.size w ea o.ents) (hd : Digs w.heap.size w pa o.pars) (hpc : o.pars.length ≤ pc) (hen : (o.ents.length : Int) ≤ 9223372036854775807) (hen2 : ∀ e ∈ o.ents, (e.name.length : Int) ≤ 9223372036854775807) (hn : (o.pars.length : Int) ≤ 9223372036854775807) (hda : (o.data.length : Int) ≤ 9223372036854775807) (hau : (o.author.length : Int) ≤ 9223372036854775807) (hms : (o.msg.length : Int) ≤ 9223372036854775807) :
    Calls Try.prog 19 #[o.val ea ec pa pc] w fun e w' => e = .returned (.int .i64 (checkS o)) ∧ Below w.heap.size w w' := by
  have HE : Hid (∀ W, Below w.heap.size w W → Calls Try.prog 34 #[.slice ea o.ents.length ec] W fun e w' => e = .returned (.int .i64 (entsE o.ents)) ∧ Below W.heap.size W w') := Lib.hid (fun W hW => checkEntries_any ea o.ents ec W ((he.below hW (Nat.le_refl _)).mono hW.size) hen hen2)
  have HC : Hid (∀ W, Below w.heap.size w W → Calls Try.prog 35 #[o.val ea ec pa pc] W fun e w' => e = .returned (.int .i64 (commitE o)) ∧ Below W.heap.size W w') := Lib.hid (fun W hW => checkCommit_any o ea ec pa pc W ((hd.below hW (Nat.le_refl _)).mono hW.size) hpc hn hau hms)
  obtain ⟨R, hR⟩ : ∃ R, R = checkS o := ⟨_, rfl⟩
  rw [← hR]
  obtain ⟨bc, hbc⟩ : ∃ bc, bc = hasC o := ⟨_, rfl⟩
  have hR2 : R = if o.kind = 1 ∨ o.kind = 4 then (if 0 < o.ents.length ∨ bc = true then 1 else 0) else if o.kind = 2 then (if 0 < o.data.length ∨ bc = true then 1 else entsE o.ents) else if o.kind = 3 then (if 0 < o.data.length ∨ 0 < o.ents.length then 1 else commitE o) else 9 := by rw [hR, hbc]; rfl
  rw [hasC_is] at hbc
  have e2 : (0 < o.data.length) = ((!(o.data == [])) = true) := by cases o.data <;> simp
  simp only [e2] at hR2
  generalize entsE o.ents = re at HE hR2
  generalize commitE o = rc at HC hR2
  obtain ⟨kind, data, ents, ⟨t1, t2⟩, pars, author, time, msg⟩ := o
  simp only at hpc hen hn hda hau hms HE hR2 hbc
  change Hid (∀ W, Below w.heap.size w W → Calls Try.prog 35 #[.agg #[.int .i64 kind, .string ⟨data.toArray⟩, .slice ea ents.length ec, .int .u64 t1, .int .u64 t2, .slice pa pars.length pc, .string ⟨author.toArray⟩, .int .i64 time, .string ⟨msg.toArray⟩]] W fun e w' => e = .returned (.int .i64 rc) ∧ Below W.heap.size W w') at HC
  change Calls Try.prog 19 #[.agg #[.int .i64 kind, .string ⟨data.toArray⟩, .slice ea ents.length ec, .int .u64 t1, .int .u64 t2, .slice pa pars.length pc, .string ⟨author.toArray⟩, .int .i64 time, .string ⟨msg.toArray⟩]] w _
  generalize ents.length = ne at HE HC hR2 hen ⊢
  generalize pars.length = n at HC hn hpc hbc ⊢
  have HR := Lib.hid hR2
  have HBC := Lib.hid hbc
  clear hR2 hbc hR he hd hen2 e2
  have hq := fun W => neq_dig0 t1 t2 W
  go_enter Try.func19, Try.ntmps19
  go_upto_region 3 with fail
  go_cut [5] from 13 to 37 (fun x wx => x = .bool bc ∧ wx = w.alloc (.cells #[.int .i64 kind, .string ⟨data.toArray⟩, .slice ea ne ec, .int .u64 t1, .int .u64 t2, .slice pa n pc, .string ⟨author.toArray⟩, .int .i64 time, .string ⟨msg.toArray⟩] 33))
  case first =>
    cases h1 : (t1 == 0 && t2 == 0) with
    | false =>
      rw [h1] at hq HBC
      have HB : Hid (bc = true) := Lib.hid (by rw [HBC.out]; simp)
      go_wp2_with fail
      go_meet
      case rel => exact ⟨by rw [HB.out], rfl⟩
    | true =>
      rw [h1] at hq HBC
      cases h2 : decide (0 < n) with
      | true =>
        rw [h2] at HBC
        have HB : Hid (bc = true) := Lib.hid (by rw [HBC.out]; simp)
        go_wp2_with fail
        go_meet
        case rel => exact ⟨by rw [HB.out], rfl⟩
      | false =>
        rw [h2] at HBC
        cases h3 : (author == []) with
        | false =>
          rw [h3] at HBC
          have HB : Hid (bc = true) := Lib.hid (by rw [HBC.out]; simp)
          go_wp2_with fail
          go_meet
          case rel => exact ⟨by rw [HB.out], rfl⟩
        | true =>
          rw [h3] at HBC
          cases h4 : (time == 0) with
          | false =>
            rw [h4] at HBC
            have HB : Hid (bc = true) := Lib.hid (by rw [HBC.out]; simp)
            have h4' : (time != 0) = true := by simpa using h4
            go_wp2_with fail
            go_meet
            case rel => exact ⟨by rw [HB.out], rfl⟩
          | true =>
            rw [h4] at HBC
            have ht0 : time = 0 := by simpa using h4
            subst ht0
            clear h4
            have HB : Hid (bc = !msg.isEmpty) := Lib.hid (by rw [HBC.out]; cases msg <;> simp)
            go_wp2_with fail
            go_meet
            case rel => exact ⟨by rw [HB.out], rfl⟩
  case rest =>
    obtain ⟨rfl, rfl⟩ := hcut
    have HB0 : Hid (Below w.heap.size w (w.alloc (.cells #[.int .i64 kind, .string ⟨data.toArray⟩, .slice ea ne ec, .int .u64 t1, .int .u64 t2, .slice pa n pc, .string ⟨author.toArray⟩, .int .i64 time, .string ⟨msg.toArray⟩] 33))) := Lib.hid ((Below.refl _ w).alloc (Nat.le_refl _) _)
    clear HBC hq
    by_cases hk1 : kind = 1
    · subst hk1
      cases hne : decide (0 < ne) with
      | true =>
        have hne' : 0 < ne := by simpa using hne
        have HRR : Hid (R = 1) := Lib.hid (by rw [HR.out]; simp [hne'])
        clear HR
        go_wp2_with fail
        go_ret
        exact ⟨by rw [HRR.out]; rfl, HB0.out⟩
      | false =>
        have hne' : ne = 0 := by simpa using hne
        subst hne'
        clear hne
        cases bc with
        | true =>
          have HRR : Hid (R = 1) := Lib.hid (by rw [HR.out]; simp [])
          clear HR
          go_wp2_with fail
          go_ret
          exact ⟨by rw [HRR.out]; rfl, HB0.out⟩
        | false =>
          have HRR : Hid (R = 0) := Lib.hid (by rw [HR.out]; simp [])
          clear HR
          go_wp2_with fail
          go_ret
          exact ⟨by rw [HRR.out]; rfl, HB0.out⟩
    · have hkb1 : (kind == 1) = false := by simpa using hk1
      by_cases hk4 : kind = 4
      · subst hk4
        cases hne : decide (0 < ne) with
        | true =>
          have hne' : 0 < ne := by simpa using hne
          have HRR : Hid (R = 1) := Lib.hid (by rw [HR.out]; simp [hne'])
          clear HR
          go_wp2_with fail
          go_ret
          exact ⟨by rw [HRR.out]; rfl, HB0.out⟩
        | false =>
          have hne' : ne = 0 := by simpa using hne
          subst hne'
          clear hne
          cases bc with
          | true =>
            have HRR : Hid (R = 1) := Lib.hid (by rw [HR.out]; simp [])
            clear HR
            go_wp2_with fail
            go_ret
            exact ⟨by rw [HRR.out]; rfl, HB0.out⟩
          | false =>
            have HRR : Hid (R = 0) := Lib.hid (by rw [HR.out]; simp [])
            clear HR
            go_wp2_with fail
            go_ret
            exact ⟨by rw [HRR.out]; rfl, HB0.out⟩
      · have hkb4 : (kind == 4) = false := by simpa using hk4
        by_cases hk2 : kind = 2
        · subst hk2
          cases hde : data.isEmpty with
          | false =>
            have HRR : Hid (R = 1) := Lib.hid (by rw [HR.out]; simp [hde])
            clear HR
            go_wp2_with fail
            go_ret
            exact ⟨by rw [HRR.out]; rfl, HB0.out⟩
          | true =>
            cases bc with
            | true =>
              have HRR : Hid (R = 1) := Lib.hid (by rw [HR.out]; simp [])
              clear HR
              go_wp2_with fail
              go_ret
              exact ⟨by rw [HRR.out]; rfl, HB0.out⟩
            | false =>
              have HRR : Hid (R = re) := Lib.hid (by rw [HR.out]; simp [hde])
              clear HR
              go_wp2_with fail
              refine (HE.out _ HB0.out).mono ?_
              rintro e w' ⟨rfl, hb⟩
              have HB2 := Lib.hid hb
              clear hb
              go_wp2_with fail
              go_ret
              exact ⟨by rw [HRR.out]; rfl, HB0.out.trans (HB2.out.mono HB0.out.size)⟩
        · have hkb2 : (kind == 2) = false := by simpa using hk2
          by_cases hk3 : kind = 3
          · subst hk3
            cases hde : data.isEmpty with
            | false =>
              have HRR : Hid (R = 1) := Lib.hid (by rw [HR.out]; simp [hde])
              clear HR
              go_wp2_with fail
              go_ret
              exact ⟨by rw [HRR.out]; rfl, HB0.out⟩
            | true =>
              cases hne : decide (0 < ne) with
              | true =>
                have hne' : 0 < ne := by simpa using hne
                have HRR : Hid (R = 1) := Lib.hid (by rw [HR.out]; simp [hne'])
                clear HR
                go_wp2_with fail
                go_ret
                exact ⟨by rw [HRR.out]; rfl, HB0.out⟩
              | false =>
                have hne' : ne = 0 := by simpa using hne
                subst hne'
                clear hne
                have HRR : Hid (R = rc) := Lib.hid (by rw [HR.out]; simp [hde])
                clear HR
                go_wp2_with fail
                refine (HC.out _ HB0.out).mono ?_
                rintro e w' ⟨rfl, hb⟩
                have HB2 := Lib.hid hb
                clear hb
                go_wp2_with fail
                go_ret
                exact ⟨by rw [HRR.out]; rfl, HB0.out.trans (HB2.out.mono HB0.out.size)⟩
          · have hkb3 : (kind == 3) = false := by simpa using hk3
            have HRR : Hid (R = 9) := Lib.hid (by rw [HR.out]; simp [hk1, hk4, hk2, hk3])
            clear HR
            go_wp2_with fail
            go_ret
            exact ⟨by rw [HRR.out]; rfl, HB0.out⟩

end Go.Proofs.Ytlfodnehgedpmaa
