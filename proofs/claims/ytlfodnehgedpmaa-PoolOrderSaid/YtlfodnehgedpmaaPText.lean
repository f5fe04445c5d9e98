/- codec.PutInt, PutText, GetText, and the reference's PutText, GetText. -/
import Derived.Test.YtlfodnehgedpmaaWWriteInt
import Derived.Test.YtlfodnehgedpmaaPBase
import Derived.Test.YtlfodnehgedpmaaRefInt
import Derived.Lib.IndexBytes
namespace Go.Proofs.Ytlfodnehgedpmaa
open Go.RowKit

theorem ba_append (l : List UInt8) (s : ByteArray) : (⟨l.toArray⟩ : ByteArray) ++ s = ⟨(l ++ s.data.toList).toArray⟩ := by
  apply ba_eq; simp [ByteArray.data_append]

theorem ba_size (s : ByteArray) : s.data.toList.length = s.size := Array.length_toList

theorem enc_ne (n : Nat) : Cw.enc n ≠ [] := by
  unfold Cw.enc; rw [Cw.encF]; split <;> simp

theorem enc_length (n : Nat) : (Cw.enc n).length ≤ 10 := encF_length 10 n

theorem fresh_bld (w : World) : Lib.IsBuilderF 112 5 w.heap.size w.heap.size [] (w.alloc (.cells #[.pointer none, .slice none 0 0] 112)) :=
  Lib.IsBuilderF.of (Lib.fresh_isBuilder _ _ _)

theorem byteCells_append (a b : List UInt8) : Lib.byteCells (a ++ b) = Lib.byteCells a ++ Lib.byteCells b := by simp [Lib.byteCells]
theorem strCells_eq (s : ByteArray) : Lib.strCells s = Lib.byteCells s.data.toList := by
  simp [Lib.strCells, Lib.byteCells]

set_option maxRecDepth 100000 in
set_option maxHeartbeats 1000000 in
theorem putInt_any (n : Int) (w : World) :
    Calls Try.prog 36 #[.int .i64 n] w fun e w' => e = T2s (putI n).1 (putI n).2 ∧ Below w.heap.size w w' := by
  by_cases h : Cw.inR n = true
  · have hp : putI n = (Cw.enc n.toNat, 0) := if_pos h
    obtain ⟨h0, h1⟩ := (Cw.inR_iff n).1 h
    rw [hp]
    have HI : Hid (∀ w : World, Calls Try.prog 60 #[.int .i64 n] w fun e w' => e = .returned (.bool true) ∧ w = w') :=
      Lib.hid (fun w => by have := inRange_any n w; rwa [h] at this)
    clear h hp
    go_enter Try.func36, Try.ntmps36
    go_wp2_with (go_at_call 60; refine (HI.out _).mono ?_; rintro e w' ⟨rfl, rfl⟩)
    refine (writeInt_k w.heap.size w.heap.size [] n _ (fresh_bld w) h0 (by omega) (by simp) (by simp)).mono ?_
    rintro e w1 ⟨rfl, hb1, hbel1, _⟩
    rw [List.nil_append] at hb1
    go_wp2_with fail
    refine (bldString_k w.heap.size w.heap.size (Cw.enc n.toNat) w1 hb1 (enc_ne _)).mono ?_
    rintro e w2 ⟨rfl, _, hbel2, _⟩
    go_wp2_with fail
    go_ret2
    exact ⟨rfl, (((Below.refl _ w).alloc (Nat.le_refl _) _).trans hbel1).trans hbel2⟩
  · have h' : Cw.inR n = false := by simpa using h
    have hp : putI n = ([], 2) := if_neg h
    have HI : Hid (∀ w : World, Calls Try.prog 60 #[.int .i64 n] w fun e w' => e = .returned (.bool false) ∧ w = w') :=
      Lib.hid (fun w => by have := inRange_any n w; rwa [h'] at this)
    rw [hp]
    clear h h' hp
    go_enter Try.func36, Try.ntmps36
    go_wp2_with (go_at_call 60; refine (HI.out _).mono ?_; rintro e w' ⟨rfl, rfl⟩)
    go_ret2
    exact ⟨rfl, Below.refl _ _⟩

/-- What PutText returns. -/
def putT (l : List UInt8) : List UInt8 × Int := if l.length ≤ 65536 then (Cw.enc l.length ++ l, 0) else ([], 4)

set_option maxRecDepth 100000 in
set_option maxHeartbeats 1000000 in
theorem putText_any (s : ByteArray) (w : World) (hs : (s.size : Int) ≤ 9223372036854775807) :
    Calls Try.prog 37 #[.string s] w fun e w' => e = T2s (putT s.data.toList).1 (putT s.data.toList).2 ∧ Below w.heap.size w w' := by
  by_cases h : (s.size : Int) ≤ 65536
  · have hp : putT s.data.toList = (Cw.enc s.size ++ s.data.toList, 0) := by
      unfold putT; rw [ba_size, if_pos (by omega)]
    rw [hp]
    clear hp
    have hel := enc_length s.size
    go_enter Try.func37, Try.ntmps37
    go_wp2_with fail
    refine (writeInt_k w.heap.size w.heap.size [] s.size _ (fresh_bld w) (by omega) (by omega) (by simp) (by simp)).mono ?_
    rintro e w1 ⟨rfl, hb1, hbel1, _⟩
    rw [List.nil_append, Int.toNat_natCast] at hb1
    go_wp2_with fail
    refine (writeString_k w.heap.size w.heap.size _ s w1 hb1 (by rw [Lib.byteCells_length]; omega) (by have := hbel1.size; simp at this; omega)).mono ?_
    rintro e w2 ⟨rfl, hb2, hbel2, _⟩
    rw [strCells_eq, ← byteCells_append] at hb2
    go_wp2_with fail
    refine (bldString_k w.heap.size w.heap.size (Cw.enc s.size ++ s.data.toList) w2 (.inr hb2) (by simp [enc_ne])).mono ?_
    rintro e w3 ⟨rfl, _, hbel3, _⟩
    go_wp2_with fail
    go_ret2
    exact ⟨rfl, ((((Below.refl _ w).alloc (Nat.le_refl _) _).trans hbel1).trans hbel2).trans hbel3⟩
  · have hp : putT s.data.toList = ([], 4) := by
      unfold putT; rw [ba_size, if_neg (by omega)]
    rw [hp]
    clear hp
    go_enter Try.func37, Try.ntmps37
    go_wp2_with fail
    go_ret2
    exact ⟨rfl, Below.refl _ _⟩

/-- What a read number is: in range, and its bytes are there. -/
theorem getGo_bounds : ∀ (f i : Nat) (n u : Int) (l : List UInt8), 0 ≤ n → 0 ≤ u → (Cw.getGo f i n u l).2.2 = 0 →
    0 ≤ (Cw.getGo f i n u l).1 ∧ (Cw.getGo f i n u l).1 ≤ 1099511627776 ∧ (i : Int) + 1 ≤ (Cw.getGo f i n u l).2.1 ∧ (Cw.getGo f i n u l).2.1 ≤ i + l.length ∧ (Cw.getGo f i n u l).2.1 ≤ i + f
  | 0, _, _, _, _, _, _, h => by simp [Cw.getGo] at h
  | _ + 1, _, _, _, [], _, _, h => by simp [Cw.getGo] at h
  | f + 1, i, n, u, c :: r, hn, hu, h => by
    rw [Cw.getGo] at h ⊢
    by_cases hc : 128 ≤ c.toNat
    · rw [if_pos hc] at h ⊢
      have h1 : 0 ≤ n + ((c.toNat : Int) - 128) * u := by have := Int.mul_nonneg (show 0 ≤ (c.toNat : Int) - 128 by omega) hu; omega
      have := getGo_bounds f (i + 1) _ _ r h1 (by omega) h
      simp only [List.length_cons]; omega
    · rw [if_neg hc] at h ⊢
      by_cases hx : (c.toNat = 0 ∧ 0 < i) ∨ 1099511627776 < n + (c.toNat : Int) * u
      · rw [if_pos hx] at h; simp at h
      · rw [if_neg hx]
        have h1 : 0 ≤ (c.toNat : Int) * u := Int.mul_nonneg (by omega) hu
        simp only [List.length_cons]
        refine ⟨by omega, by omega, by omega, by omega, by omega⟩

theorem getI_bounds {l : List UInt8} {n k : Int} (h : Cw.getI l = (n, k, 0)) : 0 ≤ n ∧ n ≤ 1099511627776 ∧ 1 ≤ k ∧ k ≤ l.length ∧ k ≤ 6 := by
  have := getGo_bounds 6 0 0 1 l (by omega) (by omega) (by show (Cw.getI l).2.2 = 0; rw [h])
  have e : Cw.getGo 6 0 0 1 l = (n, k, 0) := h
  rw [e] at this
  simp at this; omega

theorem getGo_err : ∀ (f i : Nat) (n u : Int) (l : List UInt8), (Cw.getGo f i n u l).2.2 ≠ 0 → Cw.getGo f i n u l = (0, 0, 12) ∨ Cw.getGo f i n u l = (0, 0, 13)
  | 0, _, _, _, _, _ => .inr rfl
  | _ + 1, _, _, _, [], _ => .inl rfl
  | f + 1, i, n, u, c :: r, h => by
    rw [Cw.getGo] at h ⊢
    by_cases hc : 128 ≤ c.toNat
    · rw [if_pos hc] at h ⊢
      exact getGo_err f _ _ _ r h
    · rw [if_neg hc] at h ⊢
      by_cases hx : (c.toNat = 0 ∧ 0 < i) ∨ 1099511627776 < n + (c.toNat : Int) * u
      · rw [if_pos hx]; exact .inr rfl
      · rw [if_neg hx] at h; exact absurd rfl h

/-- GetInt, its result under names. -/
theorem getInt_is {s : ByteArray} {n k er : Int} (h : Cw.getI s.data.toList = (n, k, er)) (w : World) :
    Calls Try.prog 64 #[.string s] w fun e w' => e = .returned (.tuple #[.int .i64 n, .int .i64 k, .int .i64 er]) ∧ w = w' := by
  have := getInt_any s w; rw [h] at this; exact this
def T3s (x : List UInt8 × Int × Int) : Ending := .returned (.tuple #[.string ⟨x.1.toArray⟩, .int .i64 x.2.1, .int .i64 x.2.2])

/-- The cases of GetText. -/
theorem getT_cases (l : List UInt8) : ∃ n k er, Cw.getI l = (n, k, er) ∧
    ((er ≠ 0 ∧ Cw.getT l = ([], 0, er)) ∨
     (er = 0 ∧ 65536 < n ∧ Cw.getT l = ([], 0, 13)) ∨
     (er = 0 ∧ n ≤ 65536 ∧ (l.length : Int) - k < n ∧ Cw.getT l = ([], 0, 12)) ∨
     (er = 0 ∧ n ≤ 65536 ∧ n ≤ (l.length : Int) - k ∧ Cw.getT l = ((l.drop k.toNat).take n.toNat, k + n, 0))) := by
  obtain ⟨n, k, er, h⟩ : ∃ n k er, Cw.getI l = (n, k, er) := ⟨_, _, _, rfl⟩
  refine ⟨n, k, er, h, ?_⟩
  unfold Cw.getT
  rw [h]
  by_cases he : er = 0
  · right
    rw [if_neg (by simpa using he)]
    by_cases hn : 65536 < n
    · left; exact ⟨he, hn, if_pos hn⟩
    · right
      rw [if_neg hn]
      by_cases hl : (l.length : Int) - k < n
      · left; exact ⟨he, by omega, hl, if_pos hl⟩
      · right; exact ⟨he, by omega, by omega, if_neg hl⟩
  · left; exact ⟨he, if_pos he⟩

set_option maxRecDepth 100000 in
set_option maxHeartbeats 1000000 in
theorem getText_any (s : ByteArray) (w : World) (hs : (s.size : Int) ≤ 140737488355328) :
    Calls Try.prog 65 #[.string s] w fun e w' => e = T3s (Cw.getT s.data.toList) ∧ w = w' := by
  obtain ⟨n, k, er, h, hc⟩ := getT_cases s.data.toList
  have HG := Lib.hid (getInt_is h)
  rw [ba_size] at hc
  rcases hc with ⟨he, hr⟩ | ⟨rfl, hn, hr⟩ | ⟨rfl, hn, hl, hr⟩ | ⟨rfl, hn, hl, hr⟩
  · rw [hr]
    clear h hr
    have he' : (er != 0) = true := by simpa using he
    go_enter Try.func65, Try.ntmps65
    go_wp2_with (go_at_call 64; refine (HG.out _).mono ?_; rintro e w' ⟨rfl, rfl⟩)
    go_ret3
    exact ⟨rfl, rfl⟩
  · rw [hr]
    clear h hr
    go_enter Try.func65, Try.ntmps65
    go_wp2_with (go_at_call 64; refine (HG.out _).mono ?_; rintro e w' ⟨rfl, rfl⟩)
    go_ret3
    exact ⟨rfl, rfl⟩
  · have hb := getI_bounds h
    rw [ba_size] at hb
    rw [hr]
    clear h hr
    go_enter Try.func65, Try.ntmps65
    go_wp2_with (go_at_call 64; refine (HG.out _).mono ?_; rintro e w' ⟨rfl, rfl⟩)
    go_ret3
    exact ⟨rfl, rfl⟩
  · have hb := getI_bounds h
    rw [ba_size] at hb
    obtain ⟨t, ht, hsl⟩ : ∃ t : ByteArray, t = ⟨((s.data.toList.drop k.toNat).take n.toNat).toArray⟩ ∧ ∀ W, (Instr.slice 9 (.string s) (some (.int .i64 k)) (some (.int .i64 (k + n))) none).run Try.prog W = .ok (.string t) W := by
      refine ⟨s.extract k.toNat (k + n).toNat, ba_eq ?_, fun W => run_slice_string W 9 s .i64 .i64 k (k + n) Try.underlying9 (by omega) (by omega) (by omega)⟩
      rw [Lib.extract_data, show (k + n).toNat - k.toNat = n.toNat from by omega]
    have HR : Hid (Ending.returned (.tuple #[.string t, .int .i64 (k + n), .int .i64 0]) = T3s (Cw.getT s.data.toList)) := Lib.hid (by rw [hr, ht]; rfl)
    clear h hr ht
    go_enter Try.func65, Try.ntmps65
    go_wp2_with (go_at_call 64; refine (HG.out _).mono ?_; rintro e w' ⟨rfl, rfl⟩)
    go_ret3
    exact ⟨HR.out, rfl⟩

end Go.Proofs.Ytlfodnehgedpmaa
