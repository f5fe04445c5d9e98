/- The walk of CodecRoundTrip. -/
import Derived.Test.YtjgkfkoaackeeaaTextLaw
import Derived.Test.YtjgkfkoaackeeaaCodecListsW
namespace Go.Proofs.Ytjgkfkoaackeeaa.codecRoundTrip
open Go.RowKit Go.Proofs.Ytjgkfkoaackeeaa.codecLists

theorem addL {A R C : List UInt8} (h : C = A ++ R) (ha : (A.length : Int) ≤ 8388608) (hr : (R.length : Int) ≤ 8388608) : ∀ W, (Op.stringOp .add ⟨A.toArray⟩ ⟨R.toArray⟩).run Try.prog W = .ok (.string ⟨C.toArray⟩) W := by
  intro W; rw [h]; exact run_string_add_lists W A R ha hr

theorem ba_ofL (s : ByteArray) : s = ofL s.data.toList := ba_eq rfl

theorem bodyL_length : ∀ (xs : List (List UInt8)), (∀ x ∈ xs, x.length ≤ 300) → (bodyL xs).length ≤ xs.length * 310
  | [], _ => by simp [bodyL]
  | x :: xs, h => by
    have h1 := bodyL_length xs (fun y hy => h y (by simp [hy]))
    have h2 := h x (by simp)
    have h3 := enc_length x.length
    have h4 : (bodyL (x :: xs)).length = (Cw.enc x.length).length + x.length + (bodyL xs).length := by
      unfold bodyL; rw [List.flatMap_cons, List.length_append, List.length_append]
    rw [h4, List.length_cons]; omega

set_option maxHeartbeats 4000000 in
theorem walk (n : Int) (_ : (Lit.int .i64 n).wf = true) (a1 : Option Addr) (ss : List ByteArray) (cap1 : Nat) (rest : ByteArray) (w2 : rest.size ≤ maxLen) (w : World) (hin : StrsIn w.heap.size w a1 ss) :
    Calls Try.prog 8 #[.int .i64 n, .slice a1 ss.length cap1, .string rest] w fun e w' => e = .returned (.bool true) ∧ Below w.heap.size w w' := by

  unfold maxLen at w2
  obtain ⟨hstr, hml⟩ := hin
  cases hg : greatB ss with
  | true =>
    have HG := Lib.hid (great_is hg a1 cap1 w hstr hml)
    clear hg hstr hml
    obtain ⟨m, hn⟩ : ∃ m, m = ss.length := ⟨_, rfl⟩
    rw [← hn] at HG ⊢
    clear hn
    go_enter Try.func8, Try.ntmps8
    go_wp2_with fail
    refine HG.out.mono ?_
    rintro e x1 ⟨rfl, rfl⟩
    go_wp2_with fail
    refine (awake_any _).mono ?_
    rintro e x4 ⟨rfl, b4⟩
    go_wp2_with fail
    go_ret
    exact ⟨rfl, b4⟩
  | false =>
    have HG := Lib.hid (great_is hg a1 cap1 w hstr hml)
    obtain ⟨hl20, h300⟩ := greatB_false hg
    clear hg hml
    by_cases hs : (rest.size : Int) ≤ 300
    · have t300 : decide (300 < (rest.size : Int)) = false := by simpa using hs
      obtain ⟨R, rfl⟩ : ∃ R : List UInt8, rest = ⟨R.toArray⟩ := ⟨rest.data.toList, ba_eq rfl⟩
      rw [ba_len] at hs t300
      clear w2
      obtain ⟨xs, rfl⟩ : ∃ xs : List (List UInt8), ss = xs.map ofL := ⟨ss.map (·.data.toList), by
        rw [List.map_map]
        conv => lhs; rw [← List.map_id ss]
        exact List.map_congr_left (fun s _ => ba_ofL s)⟩
      rw [List.length_map] at hl20 HG ⊢
      have hx300 : ∀ x ∈ xs, x.length ≤ 300 := fun x hx => by have := h300 (ofL x) (List.mem_map.2 ⟨x, hx, rfl⟩); rwa [show (ofL x).size = x.length from ba_len x] at this
      clear h300
      -- the list
      have HX := Lib.hid hx300
      have hLP := putTs_ofL (xs := xs) (by omega) (fun x hx => by have := hx300 x hx; omega)
      have hLl : ((Cw.enc xs.length ++ bodyL xs).length : Int) ≤ 6210 := by
        have h1 := bodyL_length xs hx300
        have h2 := enc_length xs.length
        rw [List.length_append]; omega
      obtain ⟨L, hL⟩ : ∃ L, L = Cw.enc xs.length ++ bodyL xs := ⟨_, rfl⟩
      rw [← hL] at hLP hLl
      obtain ⟨C, hC⟩ : ∃ C, C = L ++ R := ⟨_, rfl⟩
      have hCl : (C.length : Int) ≤ 8000 := by rw [hC, List.length_append]; omega
      have haddL := addL hC (by omega) (by omega)
      have HP3 := Lib.hid (fun w h => putTexts_is (a := a1) (cap := cap1) hLP w h (by rw [List.length_map]; omega) (fun s hs => by obtain ⟨y, hy', rfl⟩ := List.mem_map.1 hs; rw [show (ofL y).size = y.length from ba_len y]; have := hx300 y hy'; omega))
      have HG3 := Lib.hid (fun w => gets_is (s := ⟨C.toArray⟩) (r := (xs, (L.length : Int), 0)) (by
        show Cw.getTs C = _
        rw [hC, hL]; exact getTs_put (by omega) (fun x hx => by have := hx300 x hx; omega) R) w (by rw [ba_len]; omega))
      rw [List.length_map] at HP3
      have HS := Lib.hid hstr
      clear hLP hL hC hstr hx300
      obtain ⟨m, hm⟩ : ∃ m, m = xs.length := ⟨_, rfl⟩
      have HM := Lib.hid hm
      rw [← hm] at HG HP3 hl20 ⊢
      clear hm
      have hl20' : (m : Int) ≤ 20 := by omega
      clear hl20
      have hbel := Below.refl w.heap.size w
      have key : ∃ (E : List UInt8) (er : Int), (∀ w : World, Calls Try.prog 12 #[.int .i64 n] w fun e w' => e = .returned (.tuple #[.string ⟨E.toArray⟩, .int .i64 er]) ∧ Below w.heap.size w w') ∧ ((er == 0) = false ∨ (er = 0 ∧ (E.length : Int) ≤ 10 ∧ Cw.getI (E ++ R) = (n, (E.length : Int), 0))) := by
        by_cases hr : Cw.inR n = true
        · obtain ⟨h0, h1⟩ := (Cw.inR_iff n).1 hr
          refine ⟨Cw.enc n.toNat, 0, putInt_is (if_pos hr), .inr ⟨rfl, by have := enc_length n.toNat; omega, ?_⟩⟩
          rw [Cw.getI_enc _ (by omega), Int.toNat_of_nonneg h0]
        · exact ⟨[], 2, putInt_is (if_neg hr), .inl rfl⟩
      obtain ⟨E, er, hPP, hcase⟩ := key
      have P1 := Lib.hid hPP
      clear hPP
      rcases hcase with her | ⟨rfl, hel, hgi⟩
      all_goals
        first
          | (obtain ⟨D, hD⟩ : ∃ D, D = E ++ R := ⟨_, rfl⟩
             have haddE := addL hD (by omega) (by omega)
             have G1 := Lib.hid (getInt_is (s := ⟨D.toArray⟩) (n := n) (k := (E.length : Int)) (er := 0) (by show Cw.getI D = _; rw [hD]; exact hgi))
             clear hgi hD)
          | (have G1 : True := trivial)
        go_enter Try.func8, Try.ntmps8
        go_wp2_with fail
        refine HG.out.mono ?_
        rintro e x1 ⟨rfl, rfl⟩
        go_wp2_with fail
        refine (P1.out _).mono ?_
        rintro e x1 ⟨rfl, b1⟩
        replace hbel := bnext hbel b1
        clear b1 P1
        go_wp2_with (go_at_call 13; refine (G1.out _).mono ?_; rintro e x2 ⟨rfl, rfl⟩)
        have HB0 := Lib.hid hbel
        clear hbel
        try clear haddE
        clear G1
        go_loopw [62] (fun i wr => ∃ k : Nat, k ≤ m ∧ i = .int .i64 k ∧ Below w.heap.size w wr) (fun i _ => m - (intOf i).toNat)
        case atStart => exact ⟨0, by omega, rfl, HB0.out⟩
        case round =>
          obtain ⟨k, hk, rfl, hbel⟩ := hrel
          have HB := Lib.hid hbel
          clear hbel HB0
          by_cases hlt : k < m
          · have hlt' : k < (xs.map ofL).length := by rw [List.length_map, ← HM.out]; exact hlt
            have hlt2 : k < xs.length := by rw [← HM.out]; exact hlt
            obtain ⟨b, off, rfl, _, hc⟩ := (HS.out.below HB.out (Nat.le_refl _)) k hlt'
            rw [List.getElem_map] at hc
            have hTl : xs[k].length ≤ 300 := HX.out _ (List.getElem_mem hlt2)
            obtain ⟨T, hT⟩ : ∃ T, T = xs[k] := ⟨_, rfl⟩
            rw [← hT] at hc hTl
            clear hT
            have hc' : wr.cell? ⟨b, off + k, none⟩ = some (.string ⟨T.toArray⟩) := hc
            clear hc
            have hEl : (Cw.enc T.length ++ T).length ≤ 310 := by rw [List.length_append]; have := enc_length T.length; omega
            have P2 := Lib.hid (fun w => putText_is (s := ⟨T.toArray⟩) (l := Cw.enc T.length ++ T) (er := 0) (putT_ok (x := T) (by omega)) w (by rw [ba_len]; omega))
            have hgp := getT_put (x := T) (by omega) R
            obtain ⟨E2, hE2⟩ : ∃ E2, E2 = Cw.enc T.length ++ T := ⟨_, rfl⟩
            rw [← hE2] at P2 hEl hgp
            clear hE2
            obtain ⟨D2, hD2⟩ : ∃ D2, D2 = E2 ++ R := ⟨_, rfl⟩
            have haddE2 := addL hD2 (by omega) (by omega)
            have hD2l : (D2.length : Int) ≤ 700 := by rw [hD2, List.length_append]; omega
            have G2 := Lib.hid (fun w => getText_is (s := ⟨D2.toArray⟩) (l := T) (k := (E2.length : Int)) (er := 0) (by show Cw.getT D2 = _; rw [hD2]; exact hgp) w (by rw [ba_len]; omega))
            clear hgp hD2
            go_wp2_with fail
            refine (P2.out _).mono ?_
            rintro e y1 ⟨rfl, c1⟩
            have HB1 := Lib.hid (HB.out.trans (c1.mono HB.out.size))
            clear c1
            go_wp2_with fail
            refine (G2.out _).mono ?_
            rintro e y2 ⟨rfl, rfl⟩
            go_wp2_with fail
            go_roundw
            case rel => exact ⟨k + 1, by omega, by go_num, HB1.out⟩
            case measure => simp [intOf]; omega
          · go_wp2_with fail
            refine (HP3.out _ ((HS.out.below HB.out (Nat.le_refl _)).mono HB.out.size)).mono ?_
            rintro e y1 ⟨rfl, c1⟩
            have HB1 := Lib.hid (HB.out.trans (c1.mono HB.out.size))
            clear c1
            go_wp2_with fail
            refine (HG3.out _).mono ?_
            rintro e y2 ⟨av, cv, rfl, st1, c2⟩
            have HB2 := Lib.hid (HB1.out.trans (c2.mono HB1.out.size))
            have HSame : Hid (Calls Try.prog 27 #[.slice av m cv, .slice a1 m cap1] y2 fun e w' => e = .returned (.bool true) ∧ Below y2.heap.size y2 w') := Lib.hid (by
              have h1 := same_yes av a1 (xs.map ofL) cv cap1 y2 st1 ((HS.out.below HB2.out (Nat.le_refl _)).mono HB2.out.size) (by rw [List.length_map, ← HM.out]; omega)
              rwa [List.length_map, ← HM.out] at h1)
            clear c2 st1
            simp only [← HM.out]
            go_wp2_with fail
            refine HSame.out.mono ?_
            rintro e y3 ⟨rfl, c3⟩
            have HB3 := Lib.hid (HB2.out.trans (c3.mono HB2.out.size))
            clear c3
            go_wp2_with fail
            refine (awake_any _).mono ?_
            rintro e y4 ⟨rfl, c4⟩
            go_wp2_with fail
            go_ret
            exact ⟨rfl, HB3.out.trans (c4.mono HB3.out.size)⟩
    · clear hstr h300
      obtain ⟨m, hn⟩ : ∃ m, m = ss.length := ⟨_, rfl⟩
      rw [← hn] at HG ⊢
      clear hn hl20
      go_enter Try.func8, Try.ntmps8
      go_wp2_with fail
      refine HG.out.mono ?_
      rintro e x1 ⟨rfl, rfl⟩
      go_wp2_with fail
      refine (awake_any _).mono ?_
      rintro e x4 ⟨rfl, b4⟩
      go_wp2_with fail
      go_ret
      exact ⟨rfl, b4⟩

end Go.Proofs.Ytjgkfkoaackeeaa.codecRoundTrip
