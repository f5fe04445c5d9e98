/- Trees: the reference's Great, Find, Without, With, Same of files. -/
import Derived.Test.YtceacjnhkcikgaaGreatDoorTtRw
namespace Go.Proofs.YtceacjnhkcikgaaGreatDoor
open Go.RowKit Go.Shelf
set_option linter.unusedVariables false

def bigF (x : Fl) : Bool := decide (120 < x.path.length) || decide (200 < x.data.length)
def greatF (l : List Fl) : Bool := decide (10 < l.length) || l.any bigF
theorem any_take {α : Type} (p : α → Bool) {l : List α} (h : ∀ j (hj : j < l.length), p l[j] = false) : l.any p = false := by
  rw [List.any_eq_false]
  intro x hx
  obtain ⟨j, hj, rfl⟩ := List.getElem_of_mem hx
  simpa using h j hj
set_option maxRecDepth 100000 in
set_option maxHeartbeats 4000000 in
theorem great09_any (a : Option Addr) (l : List Fl) (c : Nat) (w : World) (hl : Fls w.heap.size w a l) (hn : (l.length : Int) ≤ 9223372036854775807) :
    Calls Tryz.prog 4 #[.slice a l.length c] w fun e w' => e = .returned (.bool (greatF l)) ∧ w = w' := by
  obtain ⟨R, hR⟩ : ∃ R, R = greatF l := ⟨_, rfl⟩
  rw [← hR]
  unfold greatF at hR
  have HL := Lib.hid hl
  have HBIG : Hid (∀ k (hk : k < l.length), bigF l[k] = true → R = true) := Lib.hid (fun k hk h => by
    rw [hR, Bool.or_eq_true]
    exact .inr (List.any_eq_true.2 ⟨_, List.getElem_mem hk, h⟩))
  have HNO : Hid (¬ 10 < l.length → (∀ j (hj : j < l.length), bigF l[j] = false) → R = false) := Lib.hid (fun h1 h2 => by rw [hR, any_take bigF h2]; simpa using h1)
  have HTEN : Hid (10 < l.length → R = true) := Lib.hid (fun h => by rw [hR]; simp [h])
  obtain ⟨n, hnn⟩ : ∃ n, n = l.length := ⟨_, rfl⟩
  have HN := Lib.hid hnn
  have HNO : Hid (¬ 10 < n → (∀ j (hj : j < l.length), bigF l[j] = false) → R = false) := Lib.hid (fun h1 h2 => HNO.out (by rw [← hnn]; exact h1) h2)
  rw [← hnn] at hn HTEN ⊢
  clear hR hl hnn
  by_cases h10 : 10 < n
  · have hi : (10 : Int) < (n : Int) := by omega
    have HR := Lib.hid (HTEN.out h10)
    clear HTEN HNO HBIG
    go_enter Tryz.func4, Tryz.ntmps4
    go_wp2_with fail
    go_ret
    exact ⟨by rw [HR.out]; rfl, rfl⟩
  have hi : ¬ (10 : Int) < (n : Int) := by omega
  have HNO3 := Lib.hid (HNO.out h10)
  clear HTEN HNO
  go_enter Tryz.func4, Tryz.ntmps4
  go_wp2_with fail
  go_loopw [3] (fun i wr => ∃ k : Nat, k ≤ n ∧ i = .int .i64 (k : Int) ∧ Hid (∀ j (hj : j < l.length), j < k → bigF l[j] = false) ∧ wr = w) (fun i _ => n - (intOf i).toNat)
  case atStart => exact ⟨0, by omega, rfl, Lib.hid (fun j _ h => by omega), rfl⟩
  case round =>
    obtain ⟨k, hk, rfl, HA, hw⟩ := hrel
    subst hw
    by_cases hlt : k < n
    · have hki : (k : Int) < (n : Int) := by omega
      have hkl : k < l.length := by rw [← HN.out]; exact hlt
      obtain ⟨b0, of0, haa, hbb, q0, q1⟩ := fl_cells HL.out hkl
      have HB := Lib.hid (HBIG.out k hkl)
      have HNX : Hid (bigF l[k] = false → ∀ j (hj : j < l.length), j < k + 1 → bigF l[j] = false) := Lib.hid (fun h j hj hjk => by
        by_cases e : j = k
        · subst e; exact h
        · exact HA.out j hj (by omega))
      generalize l[k] = x at q0 q1 HB HNX
      obtain ⟨P, D⟩ := x
      simp only at q0 q1
      have hsP := ba_len P
      have hsD := ba_len D
      have HBG : Hid (bigF ⟨P, D⟩ = (decide (120 < P.length) || decide (200 < D.length))) := Lib.hid rfl
      rw [haa]
      clear hkl HA HBIG HNO3
      by_cases h1 : (120 : Int) < (P.length : Int)
      · have HR := Lib.hid (HB.out (by rw [HBG.out, decide_eq_true (show 120 < P.length by omega)]; rfl))
        clear HB HNX HBG
        go_wp2_with fail
        go_ret
        exact ⟨by rw [HR.out]; rfl, rfl⟩
      · by_cases h2 : (200 : Int) < (D.length : Int)
        · have HR := Lib.hid (HB.out (by rw [HBG.out, decide_eq_true (show 200 < D.length by omega)]; simp))
          clear HB HNX HBG
          go_wp2_with fail
          go_ret
          exact ⟨by rw [HR.out]; rfl, rfl⟩
        · have HA2 := Lib.hid (HNX.out (by rw [HBG.out, decide_eq_false (show ¬ 120 < P.length by omega), decide_eq_false (show ¬ 200 < D.length by omega)]; rfl))
          clear HB HNX HBG
          go_wp2_with fail
          go_roundw
          case rel => exact ⟨k + 1, by omega, by go_num, HA2, trivial⟩
          case measure => simp [intOf] <;> omega
    · obtain rfl : k = n := by omega
      have hki : ¬ (k : Int) < (k : Int) := by omega
      have HR := Lib.hid (HNO3.out (fun j hj => HA.out j hj (by have := HN.out; omega)))
      go_wp2_with fail
      go_ret
      exact ⟨by rw [HR.out]; rfl, rfl⟩
/-- What Find answers. -/
def findR (l : List Fl) (s : List UInt8) : List UInt8 × Bool := match findF l s with
  | some d => (d, true)
  | none => ([], false)
theorem findF_none' {l : List Fl} {s : List UInt8} (h : ∀ j (hj : j < l.length), l[j].path ≠ s) : findF l s = none := by
  unfold findF
  rw [List.find?_eq_none.2 (fun x hx => by obtain ⟨j, hj, rfl⟩ := List.getElem_of_mem hx; simpa using h j hj)]
  rfl
theorem findF_first {l : List Fl} {s : List UInt8} {k : Nat} (hk : k < l.length) (h : ∀ j (hj : j < l.length), j < k → l[j].path ≠ s) (he : l[k].path = s) : findF l s = some l[k].data := by
  unfold findF
  rw [List.find?_eq_some_iff_getElem.2 ⟨by simpa using he, k, hk, rfl, fun j hj => by simpa using h j (by omega) hj⟩]
  rfl
set_option maxRecDepth 100000 in
set_option maxHeartbeats 4000000 in
theorem find09_any (a : Option Addr) (l : List Fl) (c : Nat) (s : List UInt8) (w : World) (hl : Fls w.heap.size w a l) (hn : (l.length : Int) ≤ 9223372036854775807) :
    Calls Tryz.prog 18 #[.slice a l.length c, .string ⟨s.toArray⟩] w fun e w' => e = .returned (.tuple #[.string ⟨(findR l s).1.toArray⟩, .bool (findR l s).2]) ∧ w = w' := by
  obtain ⟨R, hR⟩ : ∃ R, R = findR l s := ⟨_, rfl⟩
  rw [← hR]
  unfold findR at hR
  obtain ⟨T, B⟩ := R
  have HL := Lib.hid hl
  have HYES : Hid (∀ k (hk : k < l.length), (∀ j (hj : j < l.length), j < k → l[j].path ≠ s) → l[k].path = s → T = l[k].data ∧ B = true) := Lib.hid (fun k hk h1 h2 => by
    rw [findF_first hk h1 h2] at hR
    simp only [Prod.mk.injEq] at hR
    exact hR)
  have HNO : Hid ((∀ j (hj : j < l.length), l[j].path ≠ s) → T = [] ∧ B = false) := Lib.hid (fun h1 => by
    rw [findF_none' h1] at hR
    simp only [Prod.mk.injEq] at hR
    exact hR)
  obtain ⟨n, hnn⟩ : ∃ n, n = l.length := ⟨_, rfl⟩
  have HN := Lib.hid hnn
  rw [← hnn] at hn ⊢
  clear hR hl hnn
  simp only
  go_enter Tryz.func18, Tryz.ntmps18
  go_wp2_with fail
  go_loopw [6] (fun i wr => ∃ k : Nat, k ≤ n ∧ i = .int .i64 (k : Int) ∧ Hid (∀ j (hj : j < l.length), j < k → l[j].path ≠ s) ∧ wr = w) (fun i _ => n - (intOf i).toNat)
  case atStart => exact ⟨0, by omega, rfl, Lib.hid (fun j _ h => by omega), rfl⟩
  case round =>
    obtain ⟨k, hk, rfl, HA, hw⟩ := hrel
    subst hw
    by_cases hlt : k < n
    · have hki : (k : Int) < (n : Int) := by omega
      have hkl : k < l.length := by rw [← HN.out]; exact hlt
      obtain ⟨b0, of0, haa, hbb, q0, q1⟩ := fl_cells HL.out hkl
      have HB := Lib.hid (HYES.out k hkl HA.out)
      have HNX : Hid (l[k].path ≠ s → ∀ j (hj : j < l.length), j < k + 1 → l[j].path ≠ s) := Lib.hid (fun h j hj hjk => by
        by_cases e : j = k
        · subst e; exact h
        · exact HA.out j hj (by omega))
      generalize l[k] = x at q0 q1 HB HNX
      obtain ⟨P, D⟩ := x
      simp only at q0 q1 HB HNX
      rw [haa]
      clear hkl HA HYES HNO
      by_cases h1 : P = s
      · have HR := Lib.hid (HB.out h1)
        have hs : (P == s) = true := by rw [h1]; simp
        clear HB HNX
        go_wp2_with fail
        refine bodyPost_ret (v := .tuple #[.string ⟨D.toArray⟩, .bool true]) (by simp [results, Tryz.results18, go_sem]) rfl ?_
        exact ⟨by rw [HR.out.1, HR.out.2], rfl⟩
      · have HA2 := Lib.hid (HNX.out h1)
        have hs : (P == s) = false := by simp [h1]
        clear HB HNX
        go_wp2_with fail
        go_roundw
        case rel => exact ⟨k + 1, by omega, by go_num, HA2, trivial⟩
        case measure => simp [intOf] <;> omega
    · obtain rfl : k = n := by omega
      have hki : ¬ (k : Int) < (k : Int) := by omega
      have HR := Lib.hid (HNO.out (fun j hj => HA.out j hj (by have := HN.out; omega)))
      clear HYES HNO HA
      go_wp2_with fail
      refine bodyPost_ret (v := .tuple #[.string ⟨#[]⟩, .bool false]) (by simp [results, Tryz.results18, go_sem]) rfl ?_
      exact ⟨by rw [HR.out.1, HR.out.2], rfl⟩
set_option maxRecDepth 100000 in
theorem Find09_any (a : Option Addr) (l : List Fl) (c : Nat) (s : List UInt8) (w : World) (hl : Fls w.heap.size w a l) (hn : (l.length : Int) ≤ 9223372036854775807) :
    Calls Tryz.prog 8 #[.slice a l.length c, .string ⟨s.toArray⟩] w fun e w' => e = .returned (.tuple #[.string ⟨(findR l s).1.toArray⟩, .bool (findR l s).2]) ∧ w = w' := by
  have hx := find09_any a l c s w hl hn
  generalize l.length = n at hx ⊢
  generalize findR l s = R at hx ⊢
  go_enter Tryz.func8, Tryz.ntmps8
  go_wp2_with fail
  (with_reducible refine hx.mono ?_); clear hx; rintro _ _ ⟨rfl, rfl⟩
  go_wp2_with fail
  refine bodyPost_ret (v := .tuple #[.string ⟨R.1.toArray⟩, .bool R.2]) (by simp [results, Tryz.results8, go_sem]) rfl ?_
  exact ⟨rfl, rfl⟩
end Go.Proofs.YtceacjnhkcikgaaGreatDoor
