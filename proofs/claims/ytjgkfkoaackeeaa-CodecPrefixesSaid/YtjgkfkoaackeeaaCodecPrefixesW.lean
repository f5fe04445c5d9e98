/- The walk of CodecPrefixes. -/
import Derived.Test.YtjgkfkoaackeeaaTextLaw
import Derived.Test.YtjgkfkoaackeeaaCodecListsW
import Derived.Test.YtjgkfkoaackeeaaCodecRoundTripW
namespace Go.Proofs.Ytjgkfkoaackeeaa.codecPrefixes
open Go.RowKit Go.Proofs.Ytjgkfkoaackeeaa.codecLists Go.Proofs.Ytjgkfkoaackeeaa.codecRoundTrip

/-- The beginning of a text, at a number modulo its length. -/
theorem cutL (A : List UInt8) (q : Int) (h1 : 0 < A.length) : ∃ j : Nat, j < A.length ∧ ∀ W, (Instr.slice 9 (.string ⟨A.toArray⟩) none (some (.int .i64 (q % (A.length : Int)))) none).run Try.prog W = .ok (.string ⟨(A.take j).toArray⟩) W := by
  have hm0 := Int.emod_nonneg q (show (A.length : Int) ≠ 0 by omega)
  have hm1 := Int.emod_lt_of_pos q (show (0 : Int) < A.length by omega)
  refine ⟨(q % (A.length : Int)).toNat, by omega, fun W => ?_⟩
  rw [run_slice_string_h (P := Try.prog) W (t := 9) ⟨A.toArray⟩ Try.underlying9 .i64 _ hm0 (by rw [ba_len]; omega)]
  have : (⟨A.toArray⟩ : ByteArray).extract 0 (q % (A.length : Int)).toNat = ⟨(A.take (q % (A.length : Int)).toNat).toArray⟩ := ba_eq (by rw [Lib.extract_data, List.drop_zero, Nat.sub_zero])
  rw [this]

theorem wf_u16 {q : Int} (h : (Lit.int .u16 q).wf = true) : 0 ≤ q ∧ q ≤ 65535 := by
  have := bounds_u16 h; omega

set_option maxHeartbeats 4000000 in
theorem walk (n : Int) (_ : (Lit.int .i64 n).wf = true) (a1 : Option Addr) (ss : List ByteArray) (cap1 : Nat) (q : Int) (w2 : (Lit.int .u16 q).wf = true) (w : World) (hin : StrsIn w.heap.size w a1 ss) :
    Calls Try.prog 10 #[.int .i64 n, .slice a1 ss.length cap1, .int .u16 q] w fun e w' => e = .returned (.bool true) ∧ Below w.heap.size w w' := by
  have hq := wf_u16 w2
  clear w2
  obtain ⟨hq0, hq1⟩ := hq
  obtain ⟨hstr, hml⟩ := hin
  cases hg : greatB ss with
  | true =>
    have HG := Lib.hid (great_is hg a1 cap1 w hstr hml)
    clear hg hstr hml
    obtain ⟨m, hn⟩ : ∃ m, m = ss.length := ⟨_, rfl⟩
    rw [← hn] at HG ⊢
    clear hn
    go_enter Try.func10, Try.ntmps10
    go_wp2_with fail
    refine HG.out.mono ?_
    rintro e x1 ⟨rfl, rfl⟩
    go_wp2_with fail
    refine (awake_any _).mono ?_
    rintro e x4 ⟨rfl, b4⟩
    go_wp2_with fail
    go_ret
    exact ⟨rfl, b4⟩
  | false =>
    have HG := Lib.hid (great_is hg a1 cap1 w hstr hml)
    obtain ⟨hl20, h300⟩ := greatB_false hg
    clear hg hml
    obtain ⟨xs, rfl⟩ : ∃ xs : List (List UInt8), ss = xs.map ofL := ⟨ss.map (·.data.toList), by
      rw [List.map_map]
      conv => lhs; rw [← List.map_id ss]
      exact List.map_congr_left (fun s _ => ba_ofL s)⟩
    rw [List.length_map] at hl20 HG ⊢
    have hx300 : ∀ x ∈ xs, x.length ≤ 300 := fun x hx => by have := h300 (ofL x) (List.mem_map.2 ⟨x, hx, rfl⟩); rwa [show (ofL x).size = x.length from ba_len x] at this
    clear h300
    -- the list
    have HX := Lib.hid hx300
    have hLP := putTs_ofL (xs := xs) (by omega) (fun x hx => by have := hx300 x hx; omega)
    have hLl : ((Cw.enc xs.length ++ bodyL xs).length : Int) ≤ 6210 := by
      have h1 := bodyL_length xs hx300
      have h2 := enc_length xs.length
      rw [List.length_append]; omega
    have hLs := fun j hj => getTs_short (xs := xs) (by omega) (fun x hx => by have := hx300 x hx; omega) j hj
    have hLn : 0 < (Cw.enc xs.length ++ bodyL xs).length := List.length_pos_iff.2 (by simp [enc_ne])
    obtain ⟨L, hL⟩ : ∃ L, L = Cw.enc xs.length ++ bodyL xs := ⟨_, rfl⟩
    rw [← hL] at hLP hLl hLs hLn
    clear hL
    obtain ⟨jL, hjL, hcutL⟩ := cutL L q hLn
    have HP3 := Lib.hid (fun w h => putTexts_is (a := a1) (cap := cap1) hLP w h (by rw [List.length_map]; omega) (fun s hs => by obtain ⟨y, hy', rfl⟩ := List.mem_map.1 hs; rw [show (ofL y).size = y.length from ba_len y]; have := hx300 y hy'; omega))
    have hTl : (L.take jL).length ≤ L.length := by rw [List.length_take]; omega
    have HLs := Lib.hid (hLs jL hjL)
    obtain ⟨C, hC⟩ : ∃ C, C = L.take jL := ⟨_, rfl⟩
    rw [← hC] at HLs hcutL hTl
    clear hC hLs hjL
    have HG3 := Lib.hid (fun w => gets_is (s := ⟨C.toArray⟩) (r := ([], 0, 12)) (show Cw.getTs C = _ from HLs.out) w (by rw [ba_len]; omega))
    rw [List.length_map] at HP3
    have HS := Lib.hid hstr
    clear hLP hstr hx300 HLs
    obtain ⟨m, hm⟩ : ∃ m, m = xs.length := ⟨_, rfl⟩
    have HM := Lib.hid hm
    rw [← hm] at HG HP3 hl20 ⊢
    clear hm
    have hl20' : (m : Int) ≤ 20 := by omega
    clear hl20
    have hbel := Below.refl w.heap.size w
    have hLn' : ((L.length : Int) == 0) = false := by rw [beq_eq_false_iff_ne]; omega
    have hLn2 : (1 : Int) ≤ L.length := by omega
    clear hLn
    have key : ∃ (E : List UInt8) (er : Int), (∀ w : World, Calls Try.prog 12 #[.int .i64 n] w fun e w' => e = .returned (.tuple #[.string ⟨E.toArray⟩, .int .i64 er]) ∧ Below w.heap.size w w') ∧ ((er == 0) = false ∨ (er = 0 ∧ (E.length : Int) ≤ 10 ∧ 0 < E.length ∧ ∀ j, j < E.length → Cw.getI (E.take j) = (0, 0, 12))) := by
      by_cases hr : Cw.inR n = true
      · obtain ⟨h0, h1⟩ := (Cw.inR_iff n).1 hr
        exact ⟨Cw.enc n.toNat, 0, putInt_is (if_pos hr), .inr ⟨rfl, by have := enc_length n.toNat; omega, List.length_pos_iff.2 (enc_ne _), fun j hj => Cw.getI_short _ _ (by omega) hj⟩⟩
      · exact ⟨[], 2, putInt_is (if_neg hr), .inl rfl⟩
    obtain ⟨E, er, hPP, hcase⟩ := key
    have P1 := Lib.hid hPP
    clear hPP
    rcases hcase with her | ⟨rfl, hel, hen, hgi⟩
    all_goals
      first
        | (obtain ⟨jE, hjE, hcutE⟩ := cutL E q hen
           have G1 := Lib.hid (getInt_is (s := ⟨(E.take jE).toArray⟩) (n := 0) (k := 0) (er := 12) (show Cw.getI (E.take jE) = _ from hgi jE hjE))
           obtain ⟨D, hD⟩ : ∃ D, D = E.take jE := ⟨_, rfl⟩
           rw [← hD] at G1 hcutE
           clear hgi hD hjE
           have hen2 : (1 : Int) ≤ E.length := by omega
           have hen3 : decide ((0 : Int) < (E.length : Int)) = true := by simpa using hen
           clear hen)
        | (have G1 : True := trivial)
      go_enter Try.func10, Try.ntmps10
      go_wp2_with fail
      refine HG.out.mono ?_
      rintro e x1 ⟨rfl, rfl⟩
      go_wp2_with fail
      refine (P1.out _).mono ?_
      rintro e x1 ⟨rfl, b1⟩
      replace hbel := bnext hbel b1
      clear b1 P1
      go_wp2_with (go_at_call 13; refine (G1.out _).mono ?_; rintro e x2 ⟨rfl, rfl⟩)
      have HB0 := Lib.hid hbel
      clear hbel
      try clear hcutE
      try clear hen3
      clear G1
      go_loopw [59] (fun i wr => ∃ k : Nat, k ≤ m ∧ i = .int .i64 k ∧ Below w.heap.size w wr) (fun i _ => m - (intOf i).toNat)
      case atStart => exact ⟨0, by omega, rfl, HB0.out⟩
      case round =>
        obtain ⟨k, hk, rfl, hbel⟩ := hrel
        have HB := Lib.hid hbel
        clear hbel HB0
        by_cases hlt : k < m
        · have hlt' : k < (xs.map ofL).length := by rw [List.length_map, ← HM.out]; exact hlt
          have hlt2 : k < xs.length := by rw [← HM.out]; exact hlt
          obtain ⟨b, off, rfl, _, hc⟩ := (HS.out.below HB.out (Nat.le_refl _)) k hlt'
          rw [List.getElem_map] at hc
          have hTl : xs[k].length ≤ 300 := HX.out _ (List.getElem_mem hlt2)
          obtain ⟨T, hT⟩ : ∃ T, T = xs[k] := ⟨_, rfl⟩
          rw [← hT] at hc hTl
          clear hT
          have hc' : wr.cell? ⟨b, off + k, none⟩ = some (.string ⟨T.toArray⟩) := hc
          clear hc
          have hEl : (Cw.enc T.length ++ T).length ≤ 310 := by rw [List.length_append]; have := enc_length T.length; omega
          have hE0 : 0 < (Cw.enc T.length ++ T).length := List.length_pos_iff.2 (by simp [enc_ne])
          have P2 := Lib.hid (fun w => putText_is (s := ⟨T.toArray⟩) (l := Cw.enc T.length ++ T) (er := 0) (putT_ok (x := T) (by omega)) w (by rw [ba_len]; omega))
          have hgp := fun j hj => getT_short (x := T) (by omega) j hj
          obtain ⟨E2, hE2⟩ : ∃ E2, E2 = Cw.enc T.length ++ T := ⟨_, rfl⟩
          rw [← hE2] at P2 hEl hgp hE0
          clear hE2
          obtain ⟨j2, hj2, hcut2⟩ := cutL E2 q hE0
          have G2 := Lib.hid (fun w => getText_is (s := ⟨(E2.take j2).toArray⟩) (l := []) (k := 0) (er := 12) (show Cw.getT (E2.take j2) = _ from hgp j2 hj2) w (by rw [ba_len, List.length_take]; omega))
          obtain ⟨D2, hD2⟩ : ∃ D2, D2 = E2.take j2 := ⟨_, rfl⟩
          rw [← hD2] at G2 hcut2
          clear hgp hD2 hj2
          have hE1 : (1 : Int) ≤ E2.length := by omega
          have hE3 : ((E2.length : Int) == 0) = false := by rw [beq_eq_false_iff_ne]; omega
          clear hE0
          go_wp2_with fail
          refine (P2.out _).mono ?_
          rintro e y1 ⟨rfl, c1⟩
          have HB1 := Lib.hid (HB.out.trans (c1.mono HB.out.size))
          clear c1
          go_wp2_with fail
          refine (G2.out _).mono ?_
          rintro e y2 ⟨rfl, rfl⟩
          go_wp2_with fail
          go_roundw
          case rel => exact ⟨k + 1, by omega, by go_num, HB1.out⟩
          case measure => simp [intOf]; omega
        · go_wp2_with fail
          refine (HP3.out _ ((HS.out.below HB.out (Nat.le_refl _)).mono HB.out.size)).mono ?_
          rintro e y1 ⟨rfl, c1⟩
          have HB1 := Lib.hid (HB.out.trans (c1.mono HB.out.size))
          clear c1
          go_wp2_with fail
          refine (HG3.out _).mono ?_
          rintro e y2 ⟨av, cv, rfl, st1, c2⟩
          have HB2 := Lib.hid (HB1.out.trans (c2.mono HB1.out.size))
          clear c2 st1
          go_wp2_with fail
          refine (awake_any _).mono ?_
          rintro e y4 ⟨rfl, c4⟩
          go_wp2_with fail
          go_ret
          exact ⟨rfl, HB2.out.trans (c4.mono HB2.out.size)⟩

end Go.Proofs.Ytjgkfkoaackeeaa.codecPrefixes
