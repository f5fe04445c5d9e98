/- cordwoodref07.Great. -/
import Derived.Test.YtlfodnehgedpmaaPoO
namespace Go.Proofs.Ytlfodnehgedpmaa
open Go.RowKit Go.Shelf
set_option linter.unusedVariables false

/-- Whether an object is too large for the statements. -/
def greatS (o : Ob) : Bool := decide (200 < o.data.length) || decide (12 < o.ents.length) || decide (12 < o.pars.length) || decide (50 < o.author.length) || decide (250 < o.msg.length) || o.ents.any fun e => decide (50 < e.name.length)
theorem greatS_false {o : Ob} (h : greatS o = false) : o.data.length ≤ 200 ∧ o.ents.length ≤ 12 ∧ o.pars.length ≤ 12 ∧ o.author.length ≤ 50 ∧ o.msg.length ≤ 250 ∧ ∀ e ∈ o.ents, e.name.length ≤ 50 := by
  simp only [greatS, Bool.or_eq_false_iff, decide_eq_false_iff_not, List.any_eq_false] at h
  obtain ⟨⟨⟨⟨⟨h1, h2⟩, h3⟩, h4⟩, h5⟩, h6⟩ := h
  exact ⟨by omega, by omega, by omega, by omega, by omega, fun e he => by have := h6 e he; simp at this; omega⟩
theorem any_take_step {α : Type} {p : α → Bool} {l : List α} {k : Nat} (h : k < l.length) (h1 : (l.take k).any p = false) (h2 : p l[k] = false) : (l.take (k + 1)).any p = false := by
  rw [List.take_succ_eq_append_getElem h, List.any_append, h1]
  simp [h2]

set_option maxRecDepth 100000 in
set_option maxHeartbeats 2000000 in
theorem great_any (o : Ob) (ea : Option Addr) (ec : Nat) (pa : Option Addr) (pc : Nat) (w : World) (h : ObCame w o ea ec pa pc) :
    Calls Try.prog 5 #[o.val ea ec pa pc] w fun e w' => e = .returned (.bool (greatS o)) ∧ Below w.heap.size w w' := by
  obtain ⟨R, hR⟩ : ∃ R, R = greatS o := ⟨_, rfl⟩
  rw [← hR]
  unfold greatS at hR
  have HEN := Lib.hid h.ents
  have HNM := Lib.hid h.enam
  have l1 := h.dlen
  have l2 := h.alen
  have l3 := h.mlen
  unfold maxLen at l1 l2 l3
  clear h
  obtain ⟨kind, data, ents, ⟨t1, t2⟩, pars, author, time, msg⟩ := o
  simp only [Ob.val] at hR HEN HNM l1 l2 l3 ⊢
  obtain ⟨ne, hne⟩ : ∃ ne, ne = ents.length := ⟨_, rfl⟩
  rw [← hne] at hR ⊢
  generalize pars.length = np at hR ⊢
  have HNE := Lib.hid hne
  clear hne
  by_cases h0 : (200 : Int) < (data.length : Int)
  · have d0 : decide ((200 : Int) < (data.length : Int)) = true := by simpa using h0
    have HF : Hid (R = true) := Lib.hid (by rw [hR, decide_eq_true (show 200 < data.length by omega)]; simp)
    clear hR
    go_enter Try.func5, Try.ntmps5
    go_wp2_with fail
    go_ret
    exact ⟨by rw [HF.out]; rfl, (Below.refl _ w).alloc (Nat.le_refl _) _⟩
  have d0 : decide ((200 : Int) < (data.length : Int)) = false := by simpa using h0
  have b0 : decide (200 < data.length) = false := by simp; omega
  by_cases h1 : (12 : Int) < (ne : Int)
  · have d1 : decide ((12 : Int) < (ne : Int)) = true := by simpa using h1
    have HF : Hid (R = true) := Lib.hid (by rw [hR, decide_eq_true (show 12 < ne by omega)]; simp)
    clear hR
    go_enter Try.func5, Try.ntmps5
    go_wp2_with fail
    go_ret
    exact ⟨by rw [HF.out]; rfl, (Below.refl _ w).alloc (Nat.le_refl _) _⟩
  have d1 : decide ((12 : Int) < (ne : Int)) = false := by simpa using h1
  have b1 : decide (12 < ne) = false := by simp; omega
  by_cases h2 : (12 : Int) < (np : Int)
  · have d2 : decide ((12 : Int) < (np : Int)) = true := by simpa using h2
    have HF : Hid (R = true) := Lib.hid (by rw [hR, decide_eq_true (show 12 < np by omega)]; simp)
    clear hR
    go_enter Try.func5, Try.ntmps5
    go_wp2_with fail
    go_ret
    exact ⟨by rw [HF.out]; rfl, (Below.refl _ w).alloc (Nat.le_refl _) _⟩
  have d2 : decide ((12 : Int) < (np : Int)) = false := by simpa using h2
  have b2 : decide (12 < np) = false := by simp; omega
  by_cases h3 : (50 : Int) < (author.length : Int)
  · have d3 : decide ((50 : Int) < (author.length : Int)) = true := by simpa using h3
    have HF : Hid (R = true) := Lib.hid (by rw [hR, decide_eq_true (show 50 < author.length by omega)]; simp)
    clear hR
    go_enter Try.func5, Try.ntmps5
    go_wp2_with fail
    go_ret
    exact ⟨by rw [HF.out]; rfl, (Below.refl _ w).alloc (Nat.le_refl _) _⟩
  have d3 : decide ((50 : Int) < (author.length : Int)) = false := by simpa using h3
  have b3 : decide (50 < author.length) = false := by simp; omega
  by_cases h4 : (250 : Int) < (msg.length : Int)
  · have d4 : decide ((250 : Int) < (msg.length : Int)) = true := by simpa using h4
    have HF : Hid (R = true) := Lib.hid (by rw [hR, decide_eq_true (show 250 < msg.length by omega)]; simp)
    clear hR
    go_enter Try.func5, Try.ntmps5
    go_wp2_with fail
    go_ret
    exact ⟨by rw [HF.out]; rfl, (Below.refl _ w).alloc (Nat.le_refl _) _⟩
  have d4 : decide ((250 : Int) < (msg.length : Int)) = false := by simpa using h4
  have b4 : decide (250 < msg.length) = false := by simp; omega
  have HR : Hid (R = ents.any fun e => decide (50 < e.name.length)) := Lib.hid (by rw [hR]; simp only [b0, b1, b2, b3, b4, Bool.false_or])
  clear hR b0 b1 b2 b3 b4
  go_enter Try.func5, Try.ntmps5
  go_wp2_with fail
  go_loop [3] (fun i => ∃ k : Nat, k ≤ ne ∧ i = .int .i64 k ∧ Hid ((ents.take k).any (fun e => decide (50 < e.name.length)) = false)) (fun i => ne - (intOf i).toNat)
  case atStart => exact ⟨0, by omega, rfl, Lib.hid rfl⟩
  case round =>
    obtain ⟨k, hk, rfl, HA⟩ := hrel
    by_cases hlt : k < ne
    · have h1 : k < ents.length := by have := HNE.out; omega
      obtain ⟨b0, o0, rfl, hb0, q0, q1, q2, q3⟩ := HEN.out k h1
      have hl := HNM.out _ (List.getElem_mem h1)
      unfold maxLen at hl
      have HST := Lib.hid (fun h2 => any_take_step (p := fun e : Ent => decide (50 < e.name.length)) h1 HA.out h2)
      have HT : Hid (50 < ents[k].name.length → R = true) := Lib.hid (fun h2 => by rw [HR.out, List.any_eq_true]; exact ⟨_, List.getElem_mem h1, by simpa using h2⟩)
      generalize ents[k] = en at q0 hl HST HT
      obtain ⟨nm, dir, d1, d2⟩ := en
      simp only at q0 hl HST HT
      have q0' := fun z => cell_a1 q0 z
      clear q1 q2 q3
      have hlt' : (k : Int) < (ne : Int) := by omega
      by_cases hn : (50 : Int) < (nm.length : Int)
      · have d1 : decide ((50 : Int) < (nm.length : Int)) = true := by simpa using hn
        have HF : Hid (R = true) := Lib.hid (HT.out (by omega))
        clear HST HT
        go_wp2_with fail
        go_ret
        exact ⟨by rw [HF.out]; rfl, (Below.refl _ w).alloc (Nat.le_refl _) _⟩
      · have d1 : decide ((50 : Int) < (nm.length : Int)) = false := by simpa using hn
        have HA2 := Lib.hid (HST.out (by simp; omega))
        clear HST HT HA
        go_wp2_with fail
        go_round
        case rel => exact ⟨k + 1, by omega, by go_num, HA2⟩
        case measure => simp [intOf]; omega
    · have HF : Hid (R = false) := Lib.hid (by rw [HR.out, ← List.take_of_length_le (l := ents) (i := k) (by have := HNE.out; omega)]; exact HA.out)
      go_wp2_with fail
      go_ret
      exact ⟨by rw [HF.out]; rfl, (Below.refl _ w).alloc (Nat.le_refl _) _⟩

end Go.Proofs.Ytlfodnehgedpmaa
