/- The reference's PutTexts, GetTexts, Same and Great. -/
import Derived.Test.YtjgkfkoaackeeaaGetTexts
import Derived.Deep.QuietTactic
import Derived.BigQuiet
import Derived.SliceStrings
namespace Go.Proofs.Ytjgkfkoaackeeaa
open Go.RowKit Go.ChangeShapes

set_option maxHeartbeats 2000000 in
theorem refPutTexts_any (a : Option Addr) (ss : List ByteArray) (cap : Nat) (w : World) (hstr : Strs w.heap.size w a ss) (hn : (ss.length : Int) ≤ 140737488355328) (hsz : ∀ s ∈ ss, s.size ≤ 140737488355328) :
    Calls Try.prog 24 #[.slice a ss.length cap] w fun e w' => e = T2s (putTs ss).1 (putTs ss).2 ∧ Below w.heap.size w w' := by
  have HZ := Lib.hid hsz
  clear hsz
  obtain ⟨n, hnn⟩ : ∃ n, n = ss.length := ⟨_, rfl⟩
  have HN := Lib.hid hnn
  rw [← hnn] at hn ⊢
  clear hnn
  by_cases h1000 : (n : Int) ≤ 1000
  · have t1 : decide (1000 < (n : Int)) = false := by simpa using h1000
    go_enter Try.func24, Try.ntmps24
    go_wp2_with fail
    refine (refPut_ok n _ (by omega) (by omega)).mono ?_
    rw [Int.toNat_natCast]
    rintro e w0 ⟨rfl, hb0⟩
    have HB0 := Lib.hid hb0
    clear hb0
    go_wp2_with fail
    go_loopw [4, 5] (fun s i wr => ∃ (k : Nat) (L : List UInt8), k ≤ n ∧ i = .int .i64 k ∧ s = .string ⟨L.toArray⟩ ∧ L = Cw.enc n ++ body (ss.take k) ∧ shorts (ss.take k) = true ∧ Below w.heap.size w wr) (fun _ i _ => n - (intOf i).toNat)
    case atStart => exact ⟨0, Cw.enc n, by omega, rfl, rfl, by simp [body], rfl, HB0.out⟩
    case round =>
      obtain ⟨k, L, hk, rfl, rfl, hL, hsh, hbel⟩ := hrel
      have hwr := hbel.size
      have HB := Lib.hid hbel
      have HS := Lib.hid hsh
      have HL := Lib.hid hL
      have hLl : (L.length : Int) ≤ 65546010 := by
        have h3 := body_length (ss.take k) hsh
        have h4 : (ss.take k).length ≤ n := by rw [List.length_take]; omega
        have h5 : (ss.take k).length * 65546 ≤ 1000 * 65546 := Nat.mul_le_mul_right _ (by omega)
        have h6 := enc_length n
        rw [hL, List.length_append]; omega
      clear hbel hsh hL
      by_cases hlt : k < n
      · have hlt' : k < ss.length := by rw [← HN.out]; exact hlt
        obtain ⟨b, off, rfl, hb, hc⟩ := (hstr.below HB.out (Nat.le_refl _)) k hlt'
        obtain ⟨t, ht⟩ : ∃ t, t = ss[k] := ⟨_, rfl⟩
        rw [← ht] at hc
        have HT := Lib.hid ht
        have hts : (t.size : Int) ≤ 140737488355328 := by have := HZ.out t (by rw [ht]; exact List.getElem_mem hlt'); omega
        clear ht
        by_cases hts2 : (t.size : Int) ≤ 65536
        · have HP := Lib.hid (fun w => refPutText_is (s := t) (l := Cw.enc t.size ++ t.data.toList) (er := 0) (by unfold putT; rw [ba_size, if_pos (by omega)]) w hts)
          have HB2 : Hid (Cw.enc n ++ body (ss.take (k + 1)) = L ++ (Cw.enc t.size ++ t.data.toList)) := Lib.hid (by rw [body_take hlt', HL.out, ← HT.out]; simp [List.append_assoc])
          have HS2 := Lib.hid (shorts_take hlt' HS.out (by rw [← HT.out]; omega))
          have hel : (Cw.enc t.size ++ t.data.toList).length ≤ 65546 := by rw [List.length_append, ba_size]; have := enc_length t.size; omega
          obtain ⟨E, hE⟩ : ∃ E, E = Cw.enc t.size ++ t.data.toList := ⟨_, rfl⟩
          rw [← hE] at HP HB2 hel
          clear hE
          have hadd : ∀ W, (Op.stringOp .add ⟨L.toArray⟩ ⟨E.toArray⟩).run Try.prog W = .ok (.string ⟨(L ++ E).toArray⟩) W := by
            intro W
            rw [run_string_add_sum W _ _ (by rw [ba_len, ba_len]; omega), ba_append]
          go_wp2_with fail
          refine (HP.out _).mono ?_
          rintro e w1 ⟨rfl, hb1⟩
          have HB1 := Lib.hid (HB.out.trans (hb1.mono hwr))
          clear hb1
          go_wp2_with fail
          go_roundw
          case rel => exact ⟨k + 1, L ++ E, by omega, by go_num, rfl, HB2.out.symm, HS2.out, HB1.out⟩
          case measure => simp [intOf]; omega
        · have HP := Lib.hid (fun w => refPutText_is (s := t) (l := []) (er := 4) (by unfold putT; rw [ba_size, if_neg (by omega)]) w hts)
          have HE := Lib.hid (putTs_great hlt' (by rw [← HT.out]; omega))
          go_wp2_with fail
          refine (HP.out _).mono ?_
          rintro e w1 ⟨rfl, hb1⟩
          have HB1 := Lib.hid (HB.out.trans (hb1.mono hwr))
          clear hb1
          go_wp2_with fail
          go_ret2
          exact ⟨by rw [HE.out]; rfl, HB1.out⟩
      · have HF : Hid (putTs ss = (L, 0)) := Lib.hid (by
          have h1 := HS.out
          have h2 := HL.out
          rw [List.take_of_length_le (by rw [← HN.out]; omega)] at h1 h2
          rw [putTs_ok (by rw [← HN.out]; omega) h1, h2, ← HN.out])
        go_wp2_with fail
        go_ret2
        exact ⟨by rw [HF.out]; rfl, HB.out⟩
  · have HP := Lib.hid (putTs_long (ss := ss) (by have := HN.out; omega))
    go_enter Try.func24, Try.ntmps24
    go_wp2_with fail
    go_ret2
    exact ⟨by rw [HP.out]; rfl, Below.refl _ _⟩

theorem ownsRow_emptyS (w : World) : (w.alloc (.cells #[] 9)).ownsRow w.heap.size 9 1 (.slice (some ⟨w.heap.size, 0, none⟩) 0 0) 0 [] :=
  ⟨rfl, .inr ⟨w.heap.size, 0, #[], rfl, Nat.le_refl _, World.alloc_heap_new w _, Nat.le_refl _, by unfold maxLen; omega, rfl, rfl⟩⟩

set_option maxHeartbeats 2000000 in
theorem refGetTexts_any (s : ByteArray) (w : World) (hs : (s.size : Int) ≤ 140737488355328) :
    Calls Try.prog 26 #[.string s] w (GotTs w (Cw.getTs s.data.toList)) := by
  obtain ⟨i0, hi, hz0, hz1, hz2⟩ := info_parts infoStr
  obtain ⟨n, k, er, h⟩ : ∃ n k er, Cw.getI s.data.toList = (n, k, er) := ⟨_, _, _, rfl⟩
  have HG := Lib.hid (refGetInt_is h)
  by_cases he : er = 0
  · subst he
    have hb := getI_bounds h
    rw [ba_size] at hb
    by_cases hn : n ≤ 1000
    · have HS := Lib.hid (getTs_start h hn)
      clear h
      obtain ⟨c, rfl⟩ : ∃ c : Nat, n = (c : Int) := ⟨n.toNat, by omega⟩
      obtain ⟨k0, rfl⟩ : ∃ k0 : Nat, k = (k0 : Int) := ⟨k.toNat, by omega⟩
      rw [Int.toNat_natCast, Int.toNat_natCast] at HS
      have t1 : decide (1000 < (c : Int)) = false := by simpa using hn
      go_enter Try.func26, Try.ntmps26
      go_wp2_with (go_at_call 15; refine (HG.out _).mono ?_; rintro e w' ⟨rfl, rfl⟩)
      go_loopw [6, 8, 9] (fun p v i wr => ∃ (j at_ : Nat) (acc : List (List UInt8)), j ≤ c ∧ at_ ≤ s.size ∧ acc.length = j ∧ p = .int .i64 at_ ∧ i = .int .i64 j ∧ wr.ownsRow w.heap.size 9 1 v acc.length (acc.map strCell) ∧ Below w.heap.size w wr ∧ TsRel s.data.toList (c - j) at_ acc) (fun _ _ i _ => c - (intOf i).toNat)
      case atStart => exact ⟨0, k0, [], by omega, by omega, rfl, rfl, rfl, ownsRow_emptyS w, (Below.refl _ w).alloc (Nat.le_refl _) _, HS.out⟩
      case round =>
        obtain ⟨j, at_, acc, hj, hat, hacc, rfl, rfl, hown, hbel, hrel⟩ := hrel
        have hwr := hbel.size
        have HB := Lib.hid hbel
        have HR := Lib.hid hrel
        have HA := Lib.hid hacc
        rw [hacc] at hown
        have HO := Lib.hid hown
        clear hbel hrel hacc hown
        by_cases hlt : j < c
        · have HR1 : Hid (TsRel s.data.toList ((c - (j + 1)) + 1) at_ acc) := Lib.hid (by
            have := HR.out; rwa [show c - j = (c - (j + 1)) + 1 from by omega] at this)
          obtain ⟨x, q, er, hx⟩ : ∃ x q er, Cw.getT (s.data.toList.drop at_) = (x, q, er) := ⟨_, _, _, rfl⟩
          have hq := getT_bounds hx
          rw [List.length_drop, ba_size] at hq
          obtain ⟨t, ht, hts, hsl⟩ := slice_from s at_ hat
          have HN := Lib.hid (fun w => refGetText_is (s := t) (l := x) (k := q) (er := er) (by rw [ht]; exact hx) w (by omega))
          clear ht hts
          by_cases he : er = 0
          · subst he
            have HR2 := Lib.hid (HR1.out.go hx)
            clear hx HR HR1
            obtain ⟨q0, rfl⟩ : ∃ q0 : Nat, q = (q0 : Int) := ⟨q.toNat, by omega⟩
            rw [Int.toNat_natCast] at HR2
            go_wp2_with fail
            refine (HN.out _).mono ?_
            rintro e w1 ⟨rfl, rfl⟩
            go_wp2_with (at_builtin; refine wpList_append_own _ rfl _ _ 37 rfl w.heap.size 9 i0 (.string ⟨#[]⟩) 1 16 Try.underlying37 hi hz0 hz1 hz2 rfl (by decide) _ _ _ rfl (HO.out.alloc _) ⟨wr.heap.size, 0, none⟩ 1 1 [strCell x] rfl rfl ?c1 ?c2 ?c3 ?c4 ?c5 ?_)
            case c1 => exact alloc1_str wr x
            case c2 => intro u hu; simp at hu; subst hu; rfl
            case c3 => unfold maxLen; omega
            case c4 => omega
            case c5 => simp; omega
            intro v' w2 hown2 hgrow _
            have HB2 := Lib.hid ((HB.out.alloc (by omega) (.cells #[.string ⟨x.toArray⟩] 9)).grown hgrow (by simp; omega) (fun k hk => (HO.out.lt k hk).1))
            have HO2 := Lib.hid hown2
            clear hown2 hgrow
            go_wp2_with fail
            go_roundw
            case rel =>
              refine ⟨j + 1, at_ + q0, acc ++ [x], by omega, by omega, by rw [List.length_append, HA.out]; rfl, by go_num, by go_num, ?_, HB2.out, HR2.out⟩
              rw [List.map_append, List.length_append, HA.out]; exact HO2.out
            case measure => simp [intOf]; omega
          · have HE := Lib.hid (HR1.out.err hx he)
            clear hx HR HR1
            have he' : (er != 0) = true := by simpa using he
            clear he
            go_wp2_with fail
            refine (HN.out _).mono ?_
            rintro e w1 ⟨rfl, rfl⟩
            go_wp2_with fail
            go_ret3
            exact GotTs.nil2 HB.out HE.out
        · obtain rfl : j = c := by omega
          have HF := Lib.hid (TsRel.fin (show TsRel s.data.toList 0 at_ acc by have := HR.out; rwa [Nat.sub_self] at this))
          clear HR
          obtain ⟨av, cv, rfl⟩ := ownsRow_slice HO.out
          go_wp2_with fail
          go_ret3
          refine ⟨av, cv, ?_, ?_, HB.out⟩
          · rw [HF.out]; show _ = Ending.returned (.tuple #[.slice av acc.length cv, _, _]); rw [HA.out]; rfl
          · rw [HF.out]
            have := HO.out
            rw [← HA.out] at this
            exact ownsRow_strs this
    · have HE := Lib.hid (getTs_many h (by omega))
      clear h
      go_enter Try.func26, Try.ntmps26
      go_wp2_with (go_at_call 15; refine (HG.out _).mono ?_; rintro e w' ⟨rfl, rfl⟩)
      go_ret3
      exact GotTs.nil1 _ HE.out
  · have HE := Lib.hid (getTs_err h he)
    clear h
    have he' : (er != 0) = true := by simpa using he
    clear he
    go_enter Try.func26, Try.ntmps26
    go_wp2_with (go_at_call 15; refine (HG.out _).mono ?_; rintro e w' ⟨rfl, rfl⟩)
    go_ret3
    exact GotTs.nil1 _ HE.out

/-- Two slices of strings that read alike: Same says yes. -/
theorem same_yes (a b : Option Addr) (ss : List ByteArray) (ca cb : Nat) (w : World) (ha : Strs w.heap.size w a ss) (hb : Strs w.heap.size w b ss) (hn : (ss.length : Int) ≤ 140737488355328) :
    Calls Try.prog 27 #[.slice a ss.length ca, .slice b ss.length cb] w fun e w' => e = .returned (.bool true) ∧ Below w.heap.size w w' := by
  obtain ⟨n, hnn⟩ : ∃ n, n = ss.length := ⟨_, rfl⟩
  have HN := Lib.hid hnn
  rw [← hnn] at hn ⊢
  clear hnn
  go_enter Try.func27, Try.ntmps27
  go_wp2_with fail
  go_loopw [5] (fun i wr => ∃ k : Nat, k ≤ n ∧ i = .int .i64 k ∧ Below w.heap.size w wr) (fun i _ => n - (intOf i).toNat)
  case atStart => exact ⟨0, by omega, rfl, Below.refl _ _⟩
  case round =>
    obtain ⟨k, hk, rfl, hbel⟩ := hrel
    have HB := Lib.hid hbel
    clear hbel
    by_cases hlt : k < n
    · have hlt' : k < ss.length := by rw [← HN.out]; exact hlt
      obtain ⟨b1, o1, rfl, _, hc1⟩ := (ha.below HB.out (Nat.le_refl _)) k hlt'
      obtain ⟨b2, o2, rfl, _, hc2⟩ := (hb.below HB.out (Nat.le_refl _)) k hlt'
      obtain ⟨t, ht⟩ : ∃ t, t = ss[k] := ⟨_, rfl⟩
      rw [← ht] at hc1 hc2
      clear ht
      have hi0 : (0 : Int) ≤ (k : Int) := by omega
      have hi1 : (k : Int) < (n : Int) := by omega
      go_wp2_with fail
      go_quiet (fail)
      go_wp2_with fail
      go_roundw
      case rel => exact ⟨k + 1, by omega, by go_num, HB.out.trans (below_drewN (Below.refl _ _) _)⟩
      case measure => simp [intOf]; omega
    · go_wp2_with fail
      go_ret
      exact ⟨rfl, HB.out⟩

def greatB (ss : List ByteArray) : Bool := decide (20 < ss.length) || !(ss.all fun s => decide (s.size ≤ 300))
def smalls (ss : List ByteArray) : Bool := ss.all fun s => decide (s.size ≤ 300)

theorem smalls_take {ss : List ByteArray} {k : Nat} (hk : k < ss.length) (h : smalls (ss.take k) = true) (h1 : ss[k].size ≤ 300) : smalls (ss.take (k + 1)) = true := by
  rw [List.take_succ_eq_append_getElem hk]
  unfold smalls at h ⊢
  rw [List.all_append, h]; simp [h1]

theorem greatB_long {ss : List ByteArray} (h : 20 < ss.length) : greatB ss = true := by unfold greatB; simp [h]
theorem greatB_one {ss : List ByteArray} {k : Nat} (hk : k < ss.length) (h : 300 < ss[k].size) : greatB ss = true := by
  unfold greatB
  rw [Bool.or_eq_true]; right
  rw [Bool.not_eq_true', List.all_eq_false]
  exact ⟨ss[k], List.getElem_mem hk, by simp; omega⟩
theorem greatB_no {ss : List ByteArray} (h : ss.length ≤ 20) (hs : smalls ss = true) : greatB ss = false := by
  unfold greatB; unfold smalls at hs; rw [hs]; simp; omega
theorem greatB_false {ss : List ByteArray} (h : greatB ss = false) : ss.length ≤ 20 ∧ ∀ s ∈ ss, s.size ≤ 300 := by
  unfold greatB at h
  rw [Bool.or_eq_false_iff] at h
  obtain ⟨h1, h2⟩ := h
  simp at h1 h2
  exact ⟨h1, h2⟩

set_option maxHeartbeats 1000000 in
theorem great_any (a : Option Addr) (ss : List ByteArray) (cap : Nat) (w : World) (hstr : Strs w.heap.size w a ss) (hsz : ∀ s ∈ ss, s.size ≤ maxLen) :
    Calls Try.prog 22 #[.slice a ss.length cap] w fun e w' => e = .returned (.bool (greatB ss)) ∧ w = w' := by
  have HZ := Lib.hid hsz
  clear hsz
  obtain ⟨n, hnn⟩ : ∃ n, n = ss.length := ⟨_, rfl⟩
  have HN := Lib.hid hnn
  rw [← hnn]
  clear hnn
  by_cases h20 : (n : Int) ≤ 20
  · have t1 : decide (20 < (n : Int)) = false := by simpa using h20
    go_enter Try.func22, Try.ntmps22
    go_wp2_with fail
    go_loop [3] (fun i => ∃ k : Nat, k ≤ n ∧ i = .int .i64 k ∧ smalls (ss.take k) = true) (fun i => n - (intOf i).toNat)
    case atStart => exact ⟨0, by omega, rfl, rfl⟩
    case round =>
      obtain ⟨k, hk, rfl, hsh⟩ := hrel
      have HS := Lib.hid hsh
      clear hsh
      by_cases hlt : k < n
      · have hlt' : k < ss.length := by rw [← HN.out]; exact hlt
        obtain ⟨b, off, rfl, _, hc⟩ := hstr k hlt'
        obtain ⟨t, ht⟩ : ∃ t, t = ss[k] := ⟨_, rfl⟩
        rw [← ht] at hc
        have HT := Lib.hid ht
        have hts : (t.size : Int) ≤ 9223372036854775807 := by have := HZ.out t (by rw [ht]; exact List.getElem_mem hlt'); unfold maxLen at this; omega
        clear ht
        by_cases hts2 : (t.size : Int) ≤ 300
        · go_wp2
          go_round
          case rel => exact ⟨k + 1, by omega, by go_num, smalls_take hlt' HS.out (by rw [← HT.out]; omega)⟩
          case measure => simp [intOf]; omega
        · have HP := Lib.hid (greatB_one hlt' (by rw [← HT.out]; omega))
          go_wp2
          go_ret
          exact ⟨by rw [HP.out]; rfl, rfl⟩
      · have HP : Hid (greatB ss = false) := Lib.hid (greatB_no (by rw [← HN.out]; omega) (by
          have h1 := HS.out
          rwa [List.take_of_length_le (by rw [← HN.out]; omega)] at h1))
        go_wp2
        go_ret
        exact ⟨by rw [HP.out]; rfl, rfl⟩
  · have HP := Lib.hid (greatB_long (ss := ss) (by have := HN.out; omega))
    go_enter Try.func22, Try.ntmps22
    go_wp2_with fail
    go_ret
    exact ⟨by rw [HP.out]; rfl, rfl⟩

theorem great_is {ss : List ByteArray} {b : Bool} (h : greatB ss = b) (a : Option Addr) (cap : Nat) (w : World) (hstr : Strs w.heap.size w a ss) (hsz : ∀ s ∈ ss, s.size ≤ maxLen) :
    Calls Try.prog 22 #[.slice a ss.length cap] w fun e w' => e = .returned (.bool b) ∧ w = w' := by
  rw [← h]; exact great_any a ss cap w hstr hsz

/-- A slice of strings that came in. -/
def StrsIn (B : Nat) (W : World) (a : Option Addr) (ss : List ByteArray) : Prop := Strs B W a ss ∧ ∀ s ∈ ss, s.size ≤ maxLen

theorem open_strs_row {H : Type} {enc : TypeId × Value → H} {W : World} {a : Option Addr} {len cap : Nat} {d : DataW H} {ps : List MemPlace}
    (h : DataW.Trod enc Try.prog W 0 (fun _ => true) true 37 (.slice a len cap) d ps) : ∃ ss : List ByteArray, len = ss.length ∧ StrsIn W.heap.size W a ss := by
  obtain ⟨fuel, hf⟩ := h
  rcases open_strings Try.underlying37 Try.underlying9 (by kernel_rfl) hf with ⟨hcs, _⟩ | ⟨x, l, c, ss, hcs, _, hl, hm, hz, _, hcell, hws⟩
  · simp [Value.cells] at hcs
    obtain ⟨rfl, rfl, rfl⟩ := hcs
    exact ⟨[], rfl, fun i hi => by simp at hi, fun s hs => by simp at hs⟩
  · simp [Value.cells] at hcs
    obtain ⟨rfl, rfl, rfl⟩ := hcs
    simp at hz
    refine ⟨ss.take len, by rw [List.length_take]; omega, fun i hi => ?_, fun s hs => hws s (List.mem_of_mem_take hs)⟩
    have hi' : i < ss.length := by rw [List.length_take] at hi; omega
    have h0 := hcell 0 (by omega)
    obtain ⟨b, off, spot⟩ := x
    have hspot : spot = none := by simpa [Addr.add] using World.cell?_spot h0
    subst hspot
    have := hcell i hi'
    rw [Go.WideShapes.add_plain] at this
    refine ⟨b, off, rfl, lt_of_cell this, ?_⟩
    rw [this]
    simp [List.getD, hi']

end Go.Proofs.Ytjgkfkoaackeeaa
