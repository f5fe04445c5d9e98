/- Trees: the reference's Without of files. -/
import Derived.Test.YtceacjnhkcikgaaGreatDoorTtRa
namespace Go.Proofs.YtceacjnhkcikgaaGreatDoor
open Go.RowKit Go.Shelf
set_option linter.unusedVariables false

theorem lessF_drop {l : List Fl} {s : List UInt8} {k : Nat} (h : k < l.length) : lessF (l.drop k) s = (if l[k].path = s then [] else [l[k]]) ++ lessF (l.drop (k + 1)) s := by
  rw [List.drop_eq_getElem_cons h]
  unfold lessF
  by_cases hp : l[k].path = s
  · rw [List.filter_cons_of_neg (by simpa using hp), if_pos hp]; rfl
  · rw [List.filter_cons_of_pos (by simpa using hp), if_neg hp]; rfl
theorem own_fls {W : World} {base : Nat} {a : Option Addr} {n c : Nat} {l : List Fl} (hn : n = l.length) (h : W.ownsRow base 43 2 (.slice a n c) n (gcs flCs l)) : Fls W.heap.size W a l := own_gin layFl hn h
set_option maxRecDepth 100000 in
set_option maxHeartbeats 4000000 in
theorem without_any (a : Option Addr) (l : List Fl) (c : Nat) (s : List UInt8) (w : World) (hl : Fls w.heap.size w a l) (hn : (l.length : Int) ≤ 1000) :
    Calls Tryz.prog 10 #[.slice a l.length c, .string ⟨s.toArray⟩] w (GotFs w (lessF l s)) := by
  obtain ⟨R, hR⟩ : ∃ R, R = lessF l s := ⟨_, rfl⟩
  rw [← hR]
  have HL := Lib.hid hl
  obtain ⟨n, hnn⟩ : ∃ n, n = l.length := ⟨_, rfl⟩
  have HN := Lib.hid hnn
  rw [← hnn] at hn ⊢
  have HP2 : Hid (R = [] ++ lessF (l.drop 0) s) := Lib.hid hR
  have HO2 : Hid ((w.alloc (.cells #[] 43)).ownsRow w.heap.size 43 2 (.slice (some ⟨w.heap.size, 0, none⟩) 0 0) ([] : List Fl).length (gcs flCs [])) := Lib.hid (World.ownsRow_made (size := 2) w #[] 0 (Nat.le_refl _) (by decide) rfl)
  have HE2 : Hid (Below w.heap.size w (w.alloc (.cells #[] 43))) := Lib.hid ((Below.refl _ w).alloc (Nat.le_refl _) _)
  clear hR hl hnn
  go_enter Tryz.func10, Tryz.ntmps10
  go_wp2_with fail
  go_loopw [5, 6] (fun v i wr => ∃ (k : Nat) (out : List Fl), k ≤ n ∧ i = .int .i64 k ∧ out.length ≤ k ∧ Hid (wr.ownsRow w.heap.size 43 2 v out.length (gcs flCs out)) ∧ Hid (R = out ++ lessF (l.drop k) s) ∧ Hid (Below w.heap.size w wr)) (fun _ i _ => n - (intOf i).toNat)
  case atStart => exact ⟨0, [], by omega, rfl, by simp, HO2, HP2, HE2⟩
  case round =>
    clear HO2 HP2 HE2
    obtain ⟨k, out, hk, rfl, hol, HO, HP, HE⟩ := hrel
    obtain ⟨oa', oc', rfl, hoc⟩ := ownsRow_sliceN HO.out
    obtain ⟨q, hq⟩ : ∃ q, q = out.length := ⟨_, rfl⟩
    rw [← hq] at HO hoc hol ⊢
    have HQ := Lib.hid hq
    clear hq
    by_cases hkn : k < n
    · have hki : (k : Int) < (n : Int) := by omega
      have h1 : k < l.length := by have := HN.out; omega
      obtain ⟨b0, of0, haa, hbb, q0, q1⟩ := fl_cells (HL.out.ahead HE.out) h1
      have HDP := Lib.hid (lessF_drop (s := s) h1)
      rw [haa]
      generalize l[k] = x at q0 q1 HDP
      obtain ⟨P, D⟩ := x
      simp only at q0 q1 HDP
      by_cases hc : P = s
      · have hs : (P == s) = true := by rw [hc]; simp
        have HP3 : Hid (R = out ++ lessF (l.drop (k + 1)) s) := Lib.hid (by rw [HP.out, HDP.out, if_pos hc]; rfl)
        have HO3 : Hid (wr.ownsRow w.heap.size 43 2 (.slice oa' q oc') out.length (gcs flCs out)) := Lib.hid (by rw [← HQ.out]; exact HO.out)
        have hol3 : out.length ≤ k + 1 := by rw [← HQ.out]; omega
        clear HP HDP HO
        go_wp2_with fail
        go_roundw
        case rel => exact ⟨k + 1, out, by omega, by go_num, hol3, HO3, HP3, HE⟩
        case measure => simp [intOf] <;> omega
      · have hs : (P == s) = false := by simp [hc]
        have HP3 : Hid (R = (out ++ [⟨P, D⟩]) ++ lessF (l.drop (k + 1)) s) := Lib.hid (by rw [HP.out, HDP.out, if_neg hc, List.append_assoc])
        obtain ⟨v', W', hrun, hown', hg', _⟩ := append_fl HQ.out HO.out ⟨P, D⟩ (by omega) HE.out.size
        have HE4 : Hid (Below w.heap.size w W') := Lib.hid ((HE.out.alloc HE.out.size _).grown hg' (by have := HE.out.size; simp; omega) (fun j hj => (HO.out.lt j hj).1))
        have HO4 : Hid (W'.ownsRow w.heap.size 43 2 v' (out ++ [(⟨P, D⟩ : Fl)]).length (gcs flCs (out ++ [⟨P, D⟩]))) := Lib.hid (by rw [List.length_append, ← HQ.out]; exact hown')
        have HRUN := Lib.hid hrun.out
        have hol3 : (out ++ [(⟨P, D⟩ : Fl)]).length ≤ k + 1 := by rw [List.length_append, ← HQ.out]; simp; omega
        simp only [flCs] at HRUN
        clear hrun hown' hg' HE HO HP HDP
        go_wp2_with (at_builtin; refine Lib.wpList_append_run _ rfl _ _ _ _ rfl _ _ rfl rfl _ _ HRUN.out ?_)
        go_roundw
        case rel => exact ⟨k + 1, out ++ [⟨P, D⟩], by omega, by go_num, hol3, HO4, HP3, HE4⟩
        case measure => simp [intOf] <;> omega
    · have hki : ¬ (k : Int) < (n : Int) := by omega
      have HXX : Hid (R = out) := Lib.hid (by rw [HP.out, List.drop_of_length_le (by have := HN.out; omega)]; simp [lessF])
      have HDO := Lib.hid (own_fls HQ.out HO.out)
      have HON := Lib.hid (own_newF HO.out)
      clear HP HO
      go_wp2_with fail
      go_ret
      rw [HXX.out]
      exact ⟨oa', oc', by rw [← HQ.out]; rfl, HDO.out, by rw [← HQ.out]; exact hoc, HE.out, HON.out⟩
end Go.Proofs.YtceacjnhkcikgaaGreatDoor
