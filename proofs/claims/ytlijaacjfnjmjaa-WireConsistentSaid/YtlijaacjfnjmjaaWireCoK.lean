/- The closure of WireConsistent. -/
import Derived.Test.YtlijaacjfnjmjaaWirePl
namespace Go.Proofs.Ytlijaacjfnjmjaa.wireConsistent
open Go.RowKit

theorem idxL (T : List UInt8) (j : Nat) (c : UInt8) (h : T[j]? = some c) (W : World) : (Instr.index 9 (.string ⟨T.toArray⟩) (.int .i64 j)).run Try.prog W = .ok (.int .u8 c.toNat) W := by
  obtain ⟨hj, hc⟩ := List.getElem?_eq_some_iff.1 h
  have hs : j < (⟨T.toArray⟩ : ByteArray).size := by rw [ba_len]; exact hj
  have e : (⟨T.toArray⟩ : ByteArray)[j]'hs = c := by show T.toArray[j] = c; simpa using hc
  have h2 : (Instr.index 9 (.string ⟨T.toArray⟩) (.int .i64 j)).run Try.prog W = .ok (.int .u8 ((⟨T.toArray⟩ : ByteArray)[j]'hs).toNat) W := by simp [go_sem, hj]
  rw [h2, e]

set_option maxHeartbeats 1000000 in
theorem known_any (id tot : Int) (a : Option Addr) (ps : List P) (cap : Nat) (i : Int) (ch : UInt8) (w : World) (hps : Pcs w.heap.size w a ps) (hn : (ps.length : Int) ≤ 140737488355328) (hb : ∀ p ∈ ps, 0 ≤ p.1 ∧ p.1 ≤ 1048576) (hi0 : 0 ≤ i) (hi1 : i ≤ 4194304)
    (h : Has ps i ch) (hu : ∀ c, Has ps i c → c = ch) :
    Calls Try.prog 19 #[.agg #[.int .i64 id, .int .i64 tot, .slice a ps.length cap], .int .i64 i] w fun e w' => e = .returned (.tuple #[.int .u8 ch.toNat, .bool true]) ∧ Below w.heap.size w w' := by
  have HPS := Lib.hid hps
  have HBD := Lib.hid hb
  have HH := Lib.hid h
  have HU := Lib.hid hu
  obtain ⟨n, hnn⟩ : ∃ n, n = ps.length := ⟨_, rfl⟩
  have HN := Lib.hid hnn
  rw [← hnn] at hn ⊢
  clear hps hb h hu hnn
  go_enter Try.func19, Try.ntmps19
  go_wp2_with fail
  go_loopw [11] (fun v wr => ∃ k : Nat, k ≤ n ∧ v = .int .i64 k ∧ Below (w.heap.size + 1) (boxP w id tot a n cap) wr ∧ Hid (∀ j (h : j < ps.length), j < k → ¬ (ps[j].1 ≤ i ∧ i < pend ps[j]))) (fun v _ => n - (intOf v).toNat)
  case atStart => exact ⟨0, by omega, rfl, Below.refl _ _, Lib.hid (fun j _ h => by omega)⟩
  case round =>
    obtain ⟨k, hk, rfl, hbel, HK⟩ := hrel
    have HB := Lib.hid hbel
    have hsz1 : w.heap.size + 1 ≤ wr.heap.size := by have := hbel.size; simpa using this
    clear hbel
    by_cases hlt : k < n
    · have hlt' : k < ps.length := by rw [← HN.out]; exact hlt
      obtain ⟨b, off, rfl, hbl, hc, hd⟩ := ((HPS.out.below ((Below.refl _ w).alloc (Nat.le_refl _) _) (Nat.le_refl _)).below HB.out (by omega)) k hlt'
      have hob := HBD.out ps[k] (List.getElem_mem hlt')
      obtain ⟨⟨o, T⟩, hp⟩ : ∃ p, p = ps[k] := ⟨_, rfl⟩
      rw [← hp] at hc hd hob
      simp only at hc hd hob
      have HP := Lib.hid hp
      obtain ⟨ho0, ho1⟩ := hob
      clear hp
      have HFin : Hid (Below w.heap.size w (wr.alloc (.cells #[.int .i64 o, .string ⟨T.toArray⟩] 40))) := Lib.hid ((((Below.refl _ w).alloc (Nat.le_refl _) _).trans (HB.out.mono (by omega))).alloc (by omega) _)
      by_cases h1 : o ≤ i
      · obtain ⟨j, hj⟩ : ∃ j : Nat, i - o = (j : Int) := ⟨(i - o).toNat, by omega⟩
        by_cases h2 : (j : Int) < T.length
        · have HC : Hid (T[j]? = some ch) := Lib.hid (by
            have hjl : j < T.length := by omega
            have hH : Has ps i T[j] := ⟨ps[k], List.getElem_mem hlt', by
              rw [← HP.out]; exact ⟨h1, by simp only; rw [hj, Int.toNat_natCast]; simp [hjl]⟩⟩
            rw [List.getElem?_eq_getElem hjl, HU.out _ hH])
          have hx := fun W => idxL T j ch HC.out W
          go_wp2_with fail
          go_ret2
          exact ⟨rfl, HFin.out⟩
        · have HN2 : Hid (∀ j (h : j < ps.length), j < k + 1 → ¬ (ps[j].1 ≤ i ∧ i < pend ps[j])) := Lib.hid (fun j' hj' hlt2 => by
            by_cases he : j' = k
            · subst he; rw [← HP.out]; simp only [pend]; omega
            · exact HK.out j' hj' (by omega))
          go_wp2_with fail
          go_roundw
          case rel => exact ⟨k + 1, by omega, by go_num, HB.out.alloc (by omega) _, HN2⟩
          case measure => simp [intOf]; omega
      · have HN2 : Hid (∀ j (h : j < ps.length), j < k + 1 → ¬ (ps[j].1 ≤ i ∧ i < pend ps[j])) := Lib.hid (fun j' hj' hlt2 => by
          by_cases he : j' = k
          · subst he; rw [← HP.out]; simp only [pend]; omega
          · exact HK.out j' hj' (by omega))
        go_wp2_with fail
        go_roundw
        case rel => exact ⟨k + 1, by omega, by go_num, HB.out.alloc (by omega) _, HN2⟩
        case measure => simp [intOf]; omega
    · exfalso
      obtain ⟨p, hp, h⟩ := HH.out
      obtain ⟨j, hj, rfl⟩ := List.getElem_of_mem hp
      exact HK.out j hj (by rw [← HN.out] at hj; omega) h.range

end Go.Proofs.Ytlijaacjfnjmjaa.wireConsistent
