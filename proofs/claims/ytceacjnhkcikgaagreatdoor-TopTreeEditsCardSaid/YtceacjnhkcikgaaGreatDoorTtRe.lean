/- Trees: edits. -/
import Derived.Test.YtceacjnhkcikgaaGreatDoorTtRd
namespace Go.Proofs.YtceacjnhkcikgaaGreatDoor
open Go.RowKit Go.Shelf
set_option linter.unusedVariables false

structure Ed where
  rm : Bool
  path : List UInt8
  data : List UInt8
deriving DecidableEq
def edCs (x : Ed) : List Value := [.bool x.rm, .string ⟨x.path.toArray⟩, .string ⟨x.data.toArray⟩]
theorem layEd : Lay edCs 3 := ⟨by decide, fun o => rfl, fun o v hv => by
  simp only [edCs, List.mem_cons, List.not_mem_nil, or_false] at hv
  rcases hv with rfl | rfl | rfl <;> rfl⟩
abbrev Eds (B : Nat) (W : World) (a : Option Addr) (l : List Ed) : Prop := GIn edCs 3 B W a l
theorem ed_cells {B : Nat} {W : World} {a : Option Addr} {l : List Ed} (h : Eds B W a l) {k : Nat} (hk : k < l.length) : ∃ b off, a = some ⟨b, off, none⟩ ∧ b < B ∧ W.cell? ⟨b, off + k * 3, none⟩ = some (.bool l[k].rm) ∧ W.cell? ⟨b, off + k * 3 + 1, none⟩ = some (.string ⟨l[k].path.toArray⟩) ∧ W.cell? ⟨b, off + k * 3 + 2, none⟩ = some (.string ⟨l[k].data.toArray⟩) := by
  obtain ⟨b, off, h1, h2, h3⟩ := h k hk
  exact ⟨b, off, h1, h2, h3 0 _ rfl, h3 1 _ rfl, h3 2 _ rfl⟩
def bigE (x : Ed) : Bool := decide (120 < x.path.length) || decide (200 < x.data.length)
def longE (l : List Ed) : Bool := decide (8 < l.length) || l.any bigE
set_option maxRecDepth 100000 in
set_option maxHeartbeats 4000000 in
theorem long_any (a : Option Addr) (l : List Ed) (c : Nat) (w : World) (hl : Eds w.heap.size w a l) (hn : (l.length : Int) ≤ 9223372036854775807) :
    Calls Tryz.prog 5 #[.slice a l.length c] w fun e w' => e = .returned (.bool (longE l)) ∧ Below w.heap.size w w' := by
  obtain ⟨R, hR⟩ : ∃ R, R = longE l := ⟨_, rfl⟩
  rw [← hR]
  unfold longE at hR
  have HL := Lib.hid hl
  have HBIG : Hid (∀ k (hk : k < l.length), bigE l[k] = true → R = true) := Lib.hid (fun k hk h => by
    rw [hR, Bool.or_eq_true]
    exact .inr (List.any_eq_true.2 ⟨_, List.getElem_mem hk, h⟩))
  have HNO : Hid ((∀ j (hj : j < l.length), bigE l[j] = false) → R = decide (8 < l.length)) := Lib.hid (fun h2 => by rw [hR, any_take bigE h2]; simp)
  obtain ⟨n, hnn⟩ : ∃ n, n = l.length := ⟨_, rfl⟩
  have HN := Lib.hid hnn
  rw [← hnn] at hn ⊢
  clear hR hl hnn
  go_enter Tryz.func5, Tryz.ntmps5
  go_wp2_with fail
  go_loopw [7] (fun i wr => ∃ k : Nat, k ≤ n ∧ i = .int .i64 (k : Int) ∧ Hid (∀ j (hj : j < l.length), j < k → bigE l[j] = false) ∧ Hid (Below w.heap.size w wr)) (fun i _ => n - (intOf i).toNat)
  case atStart => exact ⟨0, by omega, rfl, Lib.hid (fun j _ h => by omega), Lib.hid (Below.refl _ _)⟩
  case round =>
    obtain ⟨k, hk, rfl, HA, HB⟩ := hrel
    have hws := HB.out.size
    by_cases hlt : k < n
    · have hki : (k : Int) < (n : Int) := by omega
      have hkl : k < l.length := by rw [← HN.out]; exact hlt
      obtain ⟨b0, of0, rfl, hbb, q0, q1, q2⟩ := ed_cells (HL.out.ahead HB.out) hkl
      have HX := Lib.hid (HBIG.out k hkl)
      have HNX : Hid (bigE l[k] = false → ∀ j (hj : j < l.length), j < k + 1 → bigE l[j] = false) := Lib.hid (fun h j hj hjk => by
        by_cases e : j = k
        · subst e; exact h
        · exact HA.out j hj (by omega))
      generalize l[k] = x at q0 q1 q2 HX HNX
      obtain ⟨M, P, D⟩ := x
      simp only at q0 q1 q2
      have hsP := ba_len P
      have hsD := ba_len D
      have HBG : Hid (bigE ⟨M, P, D⟩ = (decide (120 < P.length) || decide (200 < D.length))) := Lib.hid rfl
      clear hkl HA HBIG HNO
      by_cases h1 : (120 : Int) < (P.length : Int)
      · have HR := Lib.hid (HX.out (by rw [HBG.out, decide_eq_true (show 120 < P.length by omega)]; rfl))
        clear HX HNX HBG
        go_wp2_with fail
        go_ret
        exact ⟨by rw [HR.out]; rfl, HB.out.alloc hws _⟩
      · by_cases h2 : (200 : Int) < (D.length : Int)
        · have HR := Lib.hid (HX.out (by rw [HBG.out, decide_eq_true (show 200 < D.length by omega)]; simp))
          clear HX HNX HBG
          go_wp2_with fail
          go_ret
          exact ⟨by rw [HR.out]; rfl, HB.out.alloc hws _⟩
        · have HA2 := Lib.hid (HNX.out (by rw [HBG.out, decide_eq_false (show ¬ 120 < P.length by omega), decide_eq_false (show ¬ 200 < D.length by omega)]; rfl))
          clear HX HNX HBG
          go_wp2_with fail
          go_roundw
          case rel => exact ⟨k + 1, by omega, by go_num, HA2, Lib.hid (HB.out.alloc hws _)⟩
          case measure => simp [intOf] <;> omega
    · obtain rfl : k = n := by omega
      have hki : ¬ (k : Int) < (k : Int) := by omega
      have HR := Lib.hid (HNO.out (fun j hj => HA.out j hj (by have := HN.out; omega)))
      have HR2 : Hid (R = decide ((8 : Int) < (k : Int))) := Lib.hid (by rw [HR.out, ← HN.out]; congr 1; simp only [eq_iff_iff]; omega)
      clear HNO HA HBIG HR
      go_wp2_with fail
      go_ret
      exact ⟨by rw [HR2.out]; rfl, HB.out⟩
end Go.Proofs.YtceacjnhkcikgaaGreatDoor
