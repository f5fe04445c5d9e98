/- Trees: the reference's Same of files; edits. -/
import Derived.Test.YtceacjnhkcikgaaGreatDoorTtRc
namespace Go.Proofs.YtceacjnhkcikgaaGreatDoor
open Go.RowKit Go.Shelf
set_option linter.unusedVariables false

theorem neq_fl (xn yn xd yd : List UInt8) (W : World) : (binOp .neq 43 (.agg #[.string ⟨xn.toArray⟩, .string ⟨xd.toArray⟩]) (.agg #[.string ⟨yn.toArray⟩, .string ⟨yd.toArray⟩])).run Tryz.prog W = .ok (.bool (!decide ((⟨xn, xd⟩ : Fl) = ⟨yn, yd⟩))) W := by
  rw [run_neq_struct, run_equalIn_struct W 9999 43 _ _ (by kernel_rfl) (by kernel_rfl)]
  have hf : (Tryz.prog.fieldsOf 43).toList = [{ name := "Path", type := 9, offset := 0, embedded := false, tag := "", pkgPath := "", byteOffset := 0 }, { name := "Data", type := 9, offset := 1, embedded := false, tag := "", pkgPath := "", byteOffset := 16 }] := by kernel_rfl
  rw [hf]
  have p0 : ∀ (s c : ByteArray) (V : World), (Go.part 9 #[.string s, .string c] 0).run Tryz.prog V = .ok (.string s) V := fun s c V => by kernel_rfl
  have p1 : ∀ (s c : ByteArray) (V : World), (Go.part 9 #[.string s, .string c] 1).run Tryz.prog V = .ok (.string c) V := fun s c V => by kernel_rfl
  have q0 := fun V => run_equalIn_string (P := Tryz.prog) V 9998 9 ⟨xn.toArray⟩ ⟨yn.toArray⟩ Tryz.underlying9
  have q1 := fun V => run_equalIn_string (P := Tryz.prog) V 9998 9 ⟨xd.toArray⟩ ⟨yd.toArray⟩ Tryz.underlying9
  have hsx : (⟨xn.toArray⟩ : ByteArray).toList = xn := by rw [Lib.toList_data]
  have hsy : (⟨yn.toArray⟩ : ByteArray).toList = yn := by rw [Lib.toList_data]
  have hdx : (⟨xd.toArray⟩ : ByteArray).toList = xd := by rw [Lib.toList_data]
  have hdy : (⟨yd.toArray⟩ : ByteArray).toList = yd := by rw [Lib.toList_data]
  rw [hsx, hsy] at q0
  rw [hdx, hdy] at q1
  simp only [Op.eqFields, Sem.run_bind, Sem.run_ite, p0, p1, q0, q1, Result.andThen_ok]
  by_cases h1 : xn = yn <;> by_cases h2 : xd = yd <;> simp [h1, h2]
theorem fl_eq_take {l m : List Fl} (hl : l.length = m.length) {k : Nat} (hk : k < l.length) (hm : k < m.length) (h : l.take k = m.take k) (he : l[k] = m[k]) : l.take (k + 1) = m.take (k + 1) := by
  rw [List.take_succ_eq_append_getElem hk, List.take_succ_eq_append_getElem hm, h, he]
set_option maxRecDepth 100000 in
set_option maxHeartbeats 4000000 in
theorem same09_any (a : Option Addr) (l : List Fl) (c : Nat) (b : Option Addr) (m : List Fl) (d : Nat) (w : World) (hl : Fls w.heap.size w a l) (hm : Fls w.heap.size w b m) (hn : (l.length : Int) ≤ 9223372036854775807) (hn' : (m.length : Int) ≤ 9223372036854775807) :
    Calls Tryz.prog 15 #[.slice a l.length c, .slice b m.length d] w fun e w' => e = .returned (.bool (decide (l = m))) ∧ Below w.heap.size w w' := by
  obtain ⟨R, hR⟩ : ∃ R, R = decide (l = m) := ⟨_, rfl⟩
  rw [← hR]
  have HL := Lib.hid hl
  have HM := Lib.hid hm
  by_cases hne : l.length = m.length
  rotate_left
  · have HR : Hid (R = false) := Lib.hid (by rw [hR]; exact decide_eq_false (fun e => hne (by rw [e])))
    generalize l.length = n at hn hne ⊢
    generalize m.length = n' at hn' hne ⊢
    have bne : ((n : Int) != (n' : Int)) = true := by simp; omega
    have cne : (n != n') = true := by simpa using hne
    clear hR
    go_enter Tryz.func15, Tryz.ntmps15
    go_wp2_with fail
    go_ret
    exact ⟨by rw [HR.out]; rfl, Below.refl _ _⟩
  have HEQ := Lib.hid hne
  have HTR : Hid (l.take l.length = m.take l.length → R = true) := Lib.hid (fun h => by
    rw [hR]; rw [List.take_length, hne, List.take_length] at h; exact decide_eq_true h)
  have HNE : Hid (∀ k (h1 : k < l.length) (h2 : k < m.length), l[k] ≠ m[k] → R = false) := Lib.hid (fun k h1 h2 h => by
    rw [hR]; exact decide_eq_false (fun e => h (by subst e; rfl)))
  rw [← hne]
  obtain ⟨n, hnn⟩ : ∃ n, n = l.length := ⟨_, rfl⟩
  have HN := Lib.hid hnn
  rw [← hnn] at hn HTR ⊢
  clear hR hl hm hnn hne hn'
  have bn1 : ((n : Int) != (n : Int)) = false := by simp
  go_enter Tryz.func15, Tryz.ntmps15
  go_wp2_with fail
  go_loopw [5] (fun i wr => ∃ (k : Nat), k ≤ n ∧ i = .int .i64 (k : Int) ∧ Hid (l.take k = m.take k) ∧ Hid (Below w.heap.size w wr)) (fun i _ => n - (intOf i).toNat)
  case atStart => exact ⟨0, by omega, rfl, Lib.hid rfl, Lib.hid (Below.refl _ _)⟩
  case round =>
    obtain ⟨k, hk, rfl, HA, HB⟩ := hrel
    by_cases hlt : k < n
    · have hki : (k : Int) < (n : Int) := by omega
      have h1 : k < l.length := by rw [← HN.out]; exact hlt
      have h2 : k < m.length := by rw [← HEQ.out]; exact h1
      obtain ⟨b0, of0, rfl, hbb, q0, q1⟩ := fl_cells (HL.out.ahead HB.out) h1
      obtain ⟨b1, of1, rfl, hbb1, r0, r1⟩ := fl_cells (HM.out.ahead HB.out) h2
      have HX := Lib.hid (HNE.out k h1 h2)
      have HY := Lib.hid (fl_eq_take HEQ.out h1 h2 HA.out)
      clear HTR HNE HA
      generalize l[k] = x at q0 q1 HX HY
      generalize m[k] = y at r0 r1 HX HY
      obtain ⟨P, D⟩ := x
      obtain ⟨P', D'⟩ := y
      simp only at q0 q1 r0 r1
      have hq := fun W => neq_fl P P' D D' W
      by_cases he : (⟨P, D⟩ : Fl) = ⟨P', D'⟩
      · have HA2 := Lib.hid (HY.out he)
        rw [decide_eq_true he] at hq
        clear HX HY he
        go_wp2_with fail
        go_quiet (fail)
        have HB2 := Lib.hid (below_drewN HB.out nq)
        go_wp2_with fail
        go_roundw
        case rel => exact ⟨k + 1, by omega, by go_num, HA2, HB2⟩
        case measure => simp [intOf] <;> omega
      · have HR := Lib.hid (HX.out he)
        rw [decide_eq_false he] at hq
        clear HX HY he
        go_wp2_with fail
        go_quiet (fail)
        have HB2 := Lib.hid (below_drewN HB.out nq)
        go_wp2_with fail
        go_ret
        exact ⟨by rw [HR.out]; rfl, HB2.out⟩
    · obtain rfl : k = n := by omega
      have hki : ¬ (k : Int) < (k : Int) := by omega
      have HR := Lib.hid (HTR.out HA.out)
      clear HTR HNE HA
      go_wp2_with fail
      go_ret
      exact ⟨by rw [HR.out]; rfl, HB.out⟩
end Go.Proofs.YtceacjnhkcikgaaGreatDoor
