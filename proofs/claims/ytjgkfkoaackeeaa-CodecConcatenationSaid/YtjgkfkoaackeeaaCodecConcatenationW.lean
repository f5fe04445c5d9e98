/- The walk of CodecConcatenation. -/
import Derived.Test.YtjgkfkoaackeeaaSlices
import Derived.Test.YtjgkfkoaackeeaaAwake
import Derived.Test.YtjgkfkoaackeeaaPlainLaw
namespace Go.Proofs.Ytjgkfkoaackeeaa.codecConcatenation
open Go.RowKit

def keep (zs : List Int) : List Int := zs.filter Cw.inR
def cat (ms : List Int) : List UInt8 := ms.flatMap fun m => Cw.enc m.toNat

theorem take_snoc {zs : List Int} {k : Nat} (hk : k < zs.length) : zs.take (k + 1) = zs.take k ++ [zs[k]] := List.take_succ_eq_append_getElem hk

theorem keep_yes {zs : List Int} {k : Nat} (hk : k < zs.length) (h : Cw.inR zs[k] = true) : keep (zs.take (k + 1)) = keep (zs.take k) ++ [zs[k]] := by
  rw [take_snoc hk]; unfold keep; rw [List.filter_append]; simp [h]
theorem keep_no {zs : List Int} {k : Nat} (hk : k < zs.length) (h : Cw.inR zs[k] = false) : keep (zs.take (k + 1)) = keep (zs.take k) := by
  rw [take_snoc hk]; unfold keep; rw [List.filter_append]; simp [h]
theorem cat_snoc (ms : List Int) (m : Int) : cat (ms ++ [m]) = cat ms ++ Cw.enc m.toNat := by simp [cat]
theorem cat_cons (ms : List Int) (m : Int) : cat (m :: ms) = Cw.enc m.toNat ++ cat ms := by simp [cat]

theorem cat_length : ∀ (ms : List Int), (cat ms).length ≤ ms.length * 10
  | [] => by simp [cat]
  | m :: ms => by
    rw [cat_cons, List.length_append, List.length_cons]
    have := cat_length ms
    have := enc_length m.toNat
    omega

theorem keep_length (zs : List Int) : (keep zs).length ≤ zs.length := List.length_filter_le _ _

set_option maxHeartbeats 2000000 in
theorem walk (a0 : Option Addr) (zs : List Int) (cap0 : Nat) (w : World) (hin : Ints w.heap.size w a0 zs) :
    Calls Try.prog 3 #[.slice a0 zs.length cap0] w fun e w' => e = .returned (.bool true) ∧ Below w.heap.size w w' := by
  obtain ⟨i0, hi, hz0, hz1, hz2⟩ := info_parts infoInt
  obtain ⟨n, hnn⟩ : ∃ n, n = zs.length := ⟨_, rfl⟩
  have HN := Lib.hid hnn
  rw [← hnn]
  clear hnn
  by_cases h20 : (n : Int) ≤ 20
  · have t20 : decide (20 < (n : Int)) = false := by simpa using h20
    go_enter Try.func3, Try.ntmps3
    go_wp2_with fail
    go_loopw [3, 4, 21] (fun s v i wr => ∃ (k : Nat) (L : List UInt8), k ≤ n ∧ i = .int .i64 k ∧ s = .string ⟨L.toArray⟩ ∧ L = cat (keep (zs.take k)) ∧ wr.ownsRow w.heap.size 3 1 v (keep (zs.take k)).length ((keep (zs.take k)).map (Value.int .i64)) ∧ Below w.heap.size w wr) (fun _ _ i _ => n - (intOf i).toNat)
    case atStart => exact ⟨0, [], by omega, rfl, rfl, rfl, ownsRow_empty w, (Below.refl _ w).alloc (Nat.le_refl _) _⟩
    case round =>
      obtain ⟨k, L, hk, rfl, rfl, hL, hown, hbel⟩ := hrel
      have hkl : (keep (zs.take k)).length ≤ 20 := by
        have h1 := keep_length (zs.take k)
        rw [List.length_take] at h1; omega
      have hLl : (L.length : Int) ≤ 200 := by
        have h1 := cat_length (keep (zs.take k))
        rw [hL]; omega
      have HL := Lib.hid hL
      have HO := Lib.hid hown
      have HB := Lib.hid hbel
      have hwr : w.heap.size ≤ wr.heap.size := hbel.size
      clear hL hown hbel
      by_cases hlt : k < n
      · have hlt' : k < zs.length := by rw [← HN.out]; exact hlt
        obtain ⟨b, off, rfl, hb, hc0⟩ := hin k hlt'
        have hc : wr.cell? ⟨b, off + k, none⟩ = some (.int .i64 zs[k]) := (HB.out.cell (p := ⟨b, off + k, none⟩) hb).trans hc0
        clear hc0
        obtain ⟨z, hz⟩ : ∃ z, z = zs[k] := ⟨_, rfl⟩
        rw [← hz] at hc
        have HZ := Lib.hid hz
        clear hz
        by_cases hin : Cw.inR z = true
        · have HK : Hid (keep (zs.take (k + 1)) = keep (zs.take k) ++ [z]) := Lib.hid (by rw [keep_yes hlt' (by rw [← HZ.out]; exact hin), HZ.out])
          have HP := Lib.hid (putInt_is (n := z) (l := Cw.enc z.toNat) (er := 0) (if_pos hin))
          clear hin
          have hel := enc_length z.toNat
          obtain ⟨E, hE⟩ : ∃ E, E = Cw.enc z.toNat := ⟨_, rfl⟩
          rw [← hE] at HP hel
          have HE := Lib.hid hE
          clear hE
          have hadd := fun W => run_string_add_lists (P := Try.prog) W L E (by omega) (by omega)
          obtain ⟨m, hm⟩ : ∃ m, m = (keep (zs.take k)).length := ⟨_, rfl⟩
          have HM := Lib.hid hm
          rw [← hm] at HO hkl
          clear hm
          go_wp2_with fail
          refine (HP.out _).mono ?_
          rintro e w1 ⟨rfl, hb1⟩
          have hw1 := hb1.size
          have hown1 := ownsRow_below HO.out hb1
          have HB1 := Lib.hid (HB.out.trans (hb1.mono hwr))
          clear hb1
          go_wp2_with (at_builtin; refine wpList_append_own _ rfl _ _ 22 rfl w.heap.size 3 i0 (.int .i64 0) 1 8 Try.underlying22 hi hz0 hz1 hz2 rfl (by decide) _ _ _ rfl (hown1.alloc _) ⟨w1.heap.size, 0, none⟩ 1 1 [.int .i64 z] rfl rfl ?c1 ?c2 ?c3 ?c4 ?c5 ?_)
          case c1 => exact cell_one_new _ _ _
          case c2 => intro u hu; simp at hu; subst hu; rfl
          case c3 => unfold maxLen; omega
          case c4 => omega
          case c5 => simp; omega
          intro v' w2 hown2 hgrow _
          have HB2 := Lib.hid ((HB1.out.alloc (by omega) (.cells #[.int .i64 z] 3)).grown hgrow (by simp; omega) (fun k hk => (hown1.lt k hk).1))
          have HO2 := Lib.hid hown2
          clear hown2 hgrow hown1
          go_wp2_with fail
          go_roundw
          case rel =>
            refine ⟨k + 1, L ++ E, by omega, by go_num, rfl, ?_, ?_, HB2.out⟩
            · rw [HK.out, cat_snoc, HL.out, HE.out]
            · rw [HK.out, List.map_append, List.length_append, ← HM.out]; exact HO2.out
          case measure => simp [intOf]; omega
        · have hin' : Cw.inR z = false := by simpa using hin
          have HK : Hid (keep (zs.take (k + 1)) = keep (zs.take k)) := Lib.hid (by rw [keep_no hlt' (by rw [← HZ.out]; exact hin')])
          have HP := Lib.hid (putInt_is (n := z) (l := []) (er := 2) (if_neg hin))
          clear hin hin'
          go_wp2_with fail
          refine (HP.out _).mono ?_
          rintro e w1 ⟨rfl, hb1⟩
          go_wp2_with fail
          go_roundw
          case rel => exact ⟨k + 1, L, by omega, by go_num, rfl, by rw [HK.out]; exact HL.out, by rw [HK.out]; exact ownsRow_below HO.out hb1, HB.out.trans (hb1.mono hwr)⟩
          case measure => simp [intOf]; omega
      · obtain rfl : k = n := by omega
        have HT : Hid (zs.take k = zs) := Lib.hid (List.take_of_length_le (by rw [← HN.out]; omega))
        rw [HT.out] at HL HO hkl
        obtain ⟨ms, hms⟩ : ∃ ms, ms = keep zs := ⟨_, rfl⟩
        have HR : Hid (∀ m ∈ ms, 0 ≤ m ∧ m ≤ 1099511627776) := Lib.hid (by
          intro m hm
          rw [hms] at hm
          exact (Cw.inR_iff m).1 (List.mem_filter.1 hm).2)
        rw [← hms] at HL HO hkl
        clear hms
        obtain ⟨av, cv, rfl⟩ := ownsRow_slice HO.out
        have HI := Lib.hid (ownsRow_ints HO.out)
        clear HO HT
        obtain ⟨m, hm⟩ : ∃ m, m = ms.length := ⟨_, rfl⟩
        have HM := Lib.hid hm
        rw [← hm] at hkl ⊢
        clear hm
        go_wp2_with fail
        go_loop [3, 42] (fun s i => ∃ (j : Nat) (L : List UInt8), j ≤ m ∧ i = .int .i64 j ∧ s = .string ⟨L.toArray⟩ ∧ L = cat (ms.drop j)) (fun _ i => m - (intOf i).toNat)
        case atStart => exact ⟨0, L, by omega, rfl, rfl, HL.out⟩
        case round =>
          obtain ⟨j, L2, hj, rfl, rfl, hL2⟩ := hrel
          have hL2l : (L2.length : Int) ≤ 200 := by
            have h1 := cat_length (ms.drop j)
            rw [List.length_drop, ← HM.out] at h1
            rw [hL2]; omega
          have HL2 := Lib.hid hL2
          clear hL2
          by_cases hjm : j < m
          · have hj' : j < ms.length := by rw [← HM.out]; exact hjm
            obtain ⟨b, off, rfl, hb, hc⟩ := HI.out j hj'
            have hr := HR.out ms[j] (List.getElem_mem hj')
            have HC : Hid (cat (ms.drop j) = Cw.enc ms[j].toNat ++ cat (ms.drop (j + 1))) := Lib.hid (by rw [List.drop_eq_getElem_cons hj', cat_cons])
            obtain ⟨z, hz⟩ : ∃ z, z = ms[j] := ⟨_, rfl⟩
            rw [← hz] at hc hr HC
            clear hz
            obtain ⟨R, hRR⟩ : ∃ R, R = cat (ms.drop (j + 1)) := ⟨_, rfl⟩
            rw [← hRR] at HC
            have HRR := Lib.hid hRR
            clear hRR
            have hel := enc_length z.toNat
            have hen : 1 ≤ (Cw.enc z.toNat).length := List.length_pos_iff.2 (enc_ne _)
            obtain ⟨E, hE⟩ : ∃ E, E = Cw.enc z.toNat := ⟨_, rfl⟩
            rw [← hE] at hel hen HC
            obtain ⟨e1, he1⟩ : ∃ e1 : Nat, e1 = E.length := ⟨_, rfl⟩
            have hlen : L2.length = e1 + R.length := by rw [HL2.out, HC.out, List.length_append, he1]
            rw [← he1] at hel hen
            have HG := Lib.hid (getInt_is (s := ⟨L2.toArray⟩) (n := z) (k := e1) (er := 0) (by
              show Cw.getI L2 = _
              rw [HL2.out, HC.out, hE, Cw.getI_enc _ (by omega), he1, hE, Int.toNat_of_nonneg hr.1]))
            obtain ⟨q, hq, hsl⟩ : ∃ q : ByteArray, q = ⟨R.toArray⟩ ∧ ∀ W, (Instr.slice 9 (.string ⟨L2.toArray⟩) (some (.int .i64 e1)) none none).run Try.prog W = .ok (.string q) W := by
              refine ⟨ByteArray.extract ⟨L2.toArray⟩ e1 (⟨L2.toArray⟩ : ByteArray).size, ba_eq ?_, fun W => run_slice_string_l (P := Try.prog) W (t := 9) ⟨L2.toArray⟩ Try.underlying9 .i64 e1 (by omega) (by rw [ba_len]; omega)⟩
              rw [Lib.extract_to_end]
              show L2.drop e1 = R
              rw [HL2.out, HC.out, he1, List.drop_left]
            have hq' : q = ⟨R.toArray⟩ := hq
            subst hq
            clear hq' hE he1
            have hlen2 : (e1 : Int) ≤ L2.length := by omega
            have HLen := Lib.hid hlen
            clear hlen
            go_wp2_with fail
            refine (HG.out _).mono ?_
            rintro e w1 ⟨rfl, rfl⟩
            go_wp2_with fail
            go_round
            case rel => exact ⟨j + 1, R, by omega, by go_num, rfl, HRR.out⟩
            case measure => simp [intOf]; omega
          · have hL0 : L2 = [] := by rw [HL2.out, List.drop_eq_nil_of_le (by rw [← HM.out]; omega)]; rfl
            subst hL0
            go_wp2_with fail
            refine (awake_any _).mono ?_
            rintro e x4 ⟨rfl, b4⟩
            go_wp2_with fail
            go_ret
            exact ⟨rfl, HB.out.trans (b4.mono hwr)⟩
  · go_enter Try.func3, Try.ntmps3
    go_wp2_with fail
    refine (awake_any _).mono ?_
    rintro e x4 ⟨rfl, b4⟩
    go_wp2_with fail
    go_ret
    exact ⟨rfl, b4⟩


end Go.Proofs.Ytjgkfkoaackeeaa.codecConcatenation
