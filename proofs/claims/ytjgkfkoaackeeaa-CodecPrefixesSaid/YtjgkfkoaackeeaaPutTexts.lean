/- codec.PutTexts. -/
import Derived.Test.YtjgkfkoaackeeaaText
namespace Go.Proofs.Ytjgkfkoaackeeaa
open Go.RowKit

/-- A slice of strings that lies below block B. -/
def Strs (B : Nat) (W : World) (a : Option Addr) (ss : List ByteArray) : Prop :=
  ∀ i (h : i < ss.length), ∃ b off, a = some ⟨b, off, none⟩ ∧ b < B ∧ W.cell? ⟨b, off + i, none⟩ = some (.string ss[i])

theorem Strs.below {B B' : Nat} {W W' : World} {a : Option Addr} {ss : List ByteArray} (h : Strs B W a ss) (hb : Below B' W W') (hB : B ≤ B') : Strs B W' a ss := by
  intro i hi
  obtain ⟨b, off, ha, hlt, hc⟩ := h i hi
  exact ⟨b, off, ha, hlt, (hb.cell (p := ⟨b, off + i, none⟩) (by simp; omega)).trans hc⟩

theorem Strs.mono {B B' : Nat} {W : World} {a : Option Addr} {ss : List ByteArray} (h : Strs B W a ss) (hB : B ≤ B') : Strs B' W a ss := by
  intro i hi
  obtain ⟨b, off, ha, hlt, hc⟩ := h i hi
  exact ⟨b, off, ha, by omega, hc⟩

def one (s : ByteArray) : List UInt8 := Cw.enc s.size ++ s.data.toList
def body (ss : List ByteArray) : List UInt8 := ss.flatMap one
def shorts (ss : List ByteArray) : Bool := ss.all fun s => decide (s.size ≤ 65536)

/-- What PutTexts returns. -/
def putTs (ss : List ByteArray) : List UInt8 × Int :=
  if ss.length ≤ 1000 ∧ shorts ss = true then (Cw.enc ss.length ++ body ss, 0) else ([], 4)

theorem putTs_long {ss : List ByteArray} (h : 1000 < ss.length) : putTs ss = ([], 4) := if_neg (fun x => by omega)
theorem putTs_great {ss : List ByteArray} {k : Nat} (hk : k < ss.length) (h : 65536 < ss[k].size) : putTs ss = ([], 4) := by
  refine if_neg (fun x => ?_)
  have := List.all_eq_true.1 x.2 ss[k] (List.getElem_mem hk)
  simp at this; omega
theorem putTs_ok {ss : List ByteArray} (h : ss.length ≤ 1000) (hs : shorts ss = true) : putTs ss = (Cw.enc ss.length ++ body ss, 0) := if_pos ⟨h, hs⟩

theorem shorts_take {ss : List ByteArray} {k : Nat} (hk : k < ss.length) (h : shorts (ss.take k) = true) (h1 : ss[k].size ≤ 65536) : shorts (ss.take (k + 1)) = true := by
  rw [List.take_succ_eq_append_getElem hk]
  unfold shorts at h ⊢
  rw [List.all_append, h]; simp [h1]

theorem shorts_get {ss : List ByteArray} {k : Nat} (hk : k < ss.length) (h : shorts ss = true) : ss[k].size ≤ 65536 := by
  have := List.all_eq_true.1 h ss[k] (List.getElem_mem hk)
  simpa using this

theorem body_take {ss : List ByteArray} {k : Nat} (hk : k < ss.length) : body (ss.take (k + 1)) = body (ss.take k) ++ (Cw.enc ss[k].size ++ ss[k].data.toList) := by
  rw [List.take_succ_eq_append_getElem hk]
  unfold body
  rw [List.flatMap_append, List.flatMap_cons, List.flatMap_nil, List.append_nil]; rfl

theorem body_length : ∀ (ss : List ByteArray), shorts ss = true → (body ss).length ≤ ss.length * 65546
  | [], _ => by simp [body]
  | s :: ss, h => by
    have h1 : s.size ≤ 65536 := by have := List.all_eq_true.1 h s (by simp); simpa using this
    have h2 : shorts ss = true := by unfold shorts at h ⊢; rw [List.all_cons] at h; exact (Bool.and_eq_true _ _ ▸ h).2
    have := body_length ss h2
    have h3 := enc_length s.size
    have h4 : (body (s :: ss)).length = (Cw.enc s.size).length + s.size + (body ss).length := by
      unfold body one; rw [List.flatMap_cons, List.length_append, List.length_append, ba_size]
    rw [h4, List.length_cons]; omega

theorem shorts_taken {ss : List ByteArray} (k : Nat) (h : shorts ss = true) : shorts (ss.take k) = true := by
  unfold shorts at h ⊢
  rw [List.all_eq_true] at h ⊢
  exact fun x hx => h x (List.mem_of_mem_take hx)

set_option maxHeartbeats 2000000 in
theorem putTexts_any (a : Option Addr) (ss : List ByteArray) (cap : Nat) (w : World) (hstr : Strs w.heap.size w a ss) (hn : (ss.length : Int) ≤ 140737488355328) (hsz : ∀ s ∈ ss, s.size ≤ 140737488355328) :
    Calls Try.prog 23 #[.slice a ss.length cap] w fun e w' => e = T2s (putTs ss).1 (putTs ss).2 ∧ Below w.heap.size w w' := by
  have HZ := Lib.hid hsz
  clear hsz
  obtain ⟨n, hnn⟩ : ∃ n, n = ss.length := ⟨_, rfl⟩
  have HN := Lib.hid hnn
  rw [← hnn] at hn ⊢
  clear hnn
  by_cases h1000 : (n : Int) ≤ 1000
  · go_enter Try.func23, Try.ntmps23
    go_wp2_with fail
    go_loop [14] (fun i => ∃ k : Nat, k ≤ n ∧ i = .int .i64 k ∧ shorts (ss.take k) = true) (fun i => n - (intOf i).toNat)
    case atStart => exact ⟨0, by omega, rfl, rfl⟩
    case round =>
      obtain ⟨k, hk, rfl, hsh⟩ := hrel
      have HS := Lib.hid hsh
      clear hsh
      by_cases hlt : k < n
      · have hlt' : k < ss.length := by rw [← HN.out]; exact hlt
        obtain ⟨b, off, rfl, hb, hc⟩ := hstr k hlt'
        obtain ⟨t, ht⟩ : ∃ t, t = ss[k] := ⟨_, rfl⟩
        rw [← ht] at hc
        have HT := Lib.hid ht
        have hts : (t.size : Int) ≤ 140737488355328 := by have := HZ.out t (by rw [ht]; exact List.getElem_mem hlt'); omega
        clear ht
        by_cases hts2 : (t.size : Int) ≤ 65536
        · go_wp2
          go_round
          case rel => exact ⟨k + 1, by omega, by go_num, shorts_take hlt' HS.out (by rw [← HT.out]; omega)⟩
          case measure => simp [intOf]; omega
        · have HP := Lib.hid (putTs_great hlt' (by rw [← HT.out]; omega))
          go_wp2
          go_ret2
          exact ⟨by rw [HP.out]; rfl, Below.refl _ _⟩
      · have HS2 : Hid (shorts ss = true) := Lib.hid (by
          have h1 := HS.out
          rwa [List.take_of_length_le (by rw [← HN.out]; omega)] at h1)
        clear HS
        go_wp2_with fail
        refine (writeInt_k w.heap.size w.heap.size [] n _ (fresh_bld w) (by omega) (by omega) (by simp) (by simp)).mono ?_
        rintro e w1 ⟨rfl, hb1, hbel1, _⟩
        rw [List.nil_append, Int.toNat_natCast] at hb1
        have hw1 : w.heap.size + 1 ≤ w1.heap.size := by have := hbel1.size; simpa using this
        have hbw1 := ((Below.refl _ w).alloc (Nat.le_refl _) (.cells #[.pointer none, .slice none 0 0] 52)).trans hbel1
        have HB1 := Lib.hid hb1
        have HW1 := Lib.hid hbw1
        clear hb1 hbel1 hbw1
        go_wp2_with fail
        go_loopw [27] (fun i wr => ∃ k : Nat, k ≤ n ∧ i = .int .i64 k ∧ Bld w.heap.size w.heap.size (Cw.enc n ++ body (ss.take k)) wr ∧ Below w.heap.size w wr) (fun i _ => n - (intOf i).toNat)
        case atStart => exact ⟨0, by omega, rfl, by simpa [body] using HB1.out, HW1.out⟩
        case round =>
          obtain ⟨k, hk, rfl, hbl, hbel⟩ := hrel
          have HBl := Lib.hid hbl
          have HBe := Lib.hid hbel
          have hwr : w.heap.size ≤ wr.heap.size := hbel.size
          clear hbl hbel
          have hel := enc_length n
          have HBL : Hid ((Cw.enc n ++ body (ss.take k)).length ≤ 10 + 1000 * 65546) := Lib.hid (by
            have h3 := body_length (ss.take k) (shorts_taken k HS2.out)
            have h4 : (ss.take k).length ≤ n := by rw [List.length_take]; omega
            rw [List.length_append]
            have h5 : (ss.take k).length * 65546 ≤ 1000 * 65546 := Nat.mul_le_mul_right _ (by omega)
            omega)
          by_cases hlt : k < n
          · have hlt' : k < ss.length := by rw [← HN.out]; exact hlt
            obtain ⟨b, off, rfl, hb, hc⟩ := (hstr.below HBe.out (Nat.le_refl _)) k hlt'
            obtain ⟨t, ht⟩ : ∃ t, t = ss[k] := ⟨_, rfl⟩
            rw [← ht] at hc
            have hts : (t.size : Int) ≤ 65536 := by have := shorts_get hlt' HS2.out; rw [← ht] at this; omega
            have HT : Hid (Cw.enc n ++ body (ss.take (k + 1)) = (Cw.enc n ++ body (ss.take k)) ++ Cw.enc t.size ++ t.data.toList) := Lib.hid (by
              rw [body_take hlt', ht]; simp [List.append_assoc])
            clear ht
            obtain ⟨L, hL⟩ : ∃ L, L = Cw.enc n ++ body (ss.take k) := ⟨_, rfl⟩
            rw [← hL] at HBl HBL HT
            have hel2 := enc_length t.size
            clear hL
            go_wp2_with fail
            refine (writeInt_k w.heap.size w.heap.size (Lib.byteCells L) t.size wr HBl.out (by omega) (by omega) (by rw [Lib.byteCells_length]; have := HBL.out; omega) hwr).mono ?_
            rintro e w2 ⟨rfl, hb2, hbel2, _⟩
            rw [Int.toNat_natCast, ← byteCells_append] at hb2
            have HB2 := Lib.hid hb2
            have HE2 := Lib.hid (HBe.out.trans hbel2)
            clear hb2 hbel2
            go_wp2_with fail
            refine (writeString_k w.heap.size w.heap.size (Lib.byteCells (L ++ Cw.enc t.size)) t w2 HB2.out (by rw [Lib.byteCells_length, List.length_append]; have := HBL.out; omega) HE2.out.size).mono ?_
            rintro e w3 ⟨rfl, hb3, hbel3, _⟩
            rw [strCells_eq, ← byteCells_append] at hb3
            have HB3 := Lib.hid hb3
            have HE3 := Lib.hid (HE2.out.trans hbel3)
            clear hb3 hbel3
            go_wp2_with fail
            go_roundw
            case rel => exact ⟨k + 1, by omega, by go_num, by rw [HT.out]; exact .inr HB3.out, HE3.out⟩
            case measure => simp [intOf]; omega
          · have HT : Hid (Cw.enc n ++ body (ss.take k) = Cw.enc n ++ body ss) := Lib.hid (by rw [List.take_of_length_le (by rw [← HN.out]; omega)])
            rw [HT.out] at HBl
            have HP := Lib.hid (putTs_ok (ss := ss) (by have := HN.out; omega) HS2.out)
            rw [← HN.out] at HP
            go_wp2_with fail
            refine (bldString_k w.heap.size w.heap.size (Cw.enc n ++ body ss) wr HBl.out (by simp [enc_ne])).mono ?_
            rintro e w2 ⟨rfl, _, hbel2, _⟩
            go_wp2_with fail
            go_ret2
            exact ⟨by rw [HP.out]; rfl, HBe.out.trans hbel2⟩
  · have HP := Lib.hid (putTs_long (ss := ss) (by have := HN.out; omega))
    go_enter Try.func23, Try.ntmps23
    go_wp2_with fail
    go_ret2
    exact ⟨by rw [HP.out]; rfl, Below.refl _ _⟩

end Go.Proofs.Ytjgkfkoaackeeaa
