/- The statements' anchor 'awake' returns true. -/
import Derived.Test.YtjgkfkoaackeeaaPutTexts
namespace Go.Proofs.Ytjgkfkoaackeeaa
open Go.RowKit

theorem putInt_is {n : Int} {l : List UInt8} {er : Int} (h : putI n = (l, er)) (w : World) :
    Calls Try.prog 12 #[.int .i64 n] w fun e w' => e = .returned (.tuple #[.string ⟨l.toArray⟩, .int .i64 er]) ∧ Below w.heap.size w w' := by
  have := putInt_any n w; rw [h] at this; exact this
theorem refPutInt_is {n : Int} {l : List UInt8} {er : Int} (h : putI n = (l, er)) (w : World) :
    Calls Try.prog 14 #[.int .i64 n] w fun e w' => e = .returned (.tuple #[.string ⟨l.toArray⟩, .int .i64 er]) ∧ Below w.heap.size w w' := by
  have := refPutInt_any n w; rw [h] at this; exact this
theorem putText_is {s : ByteArray} {l : List UInt8} {er : Int} (h : putT s.data.toList = (l, er)) (w : World) (hs : (s.size : Int) ≤ 140737488355328) :
    Calls Try.prog 18 #[.string s] w fun e w' => e = .returned (.tuple #[.string ⟨l.toArray⟩, .int .i64 er]) ∧ Below w.heap.size w w' := by
  have := putText_any s w hs; rw [h] at this; exact this
theorem refPutText_is {s : ByteArray} {l : List UInt8} {er : Int} (h : putT s.data.toList = (l, er)) (w : World) (hs : (s.size : Int) ≤ 140737488355328) :
    Calls Try.prog 19 #[.string s] w fun e w' => e = .returned (.tuple #[.string ⟨l.toArray⟩, .int .i64 er]) ∧ Below w.heap.size w w' := by
  have := refPutText_any s w hs; rw [h] at this; exact this
theorem putTexts_is {a : Option Addr} {ss : List ByteArray} {cap : Nat} {l : List UInt8} {er : Int} (h : putTs ss = (l, er)) (w : World) (hstr : Strs w.heap.size w a ss) (hn : (ss.length : Int) ≤ 140737488355328) (hsz : ∀ s ∈ ss, s.size ≤ 140737488355328) :
    Calls Try.prog 23 #[.slice a ss.length cap] w fun e w' => e = .returned (.tuple #[.string ⟨l.toArray⟩, .int .i64 er]) ∧ Below w.heap.size w w' := by
  have := putTexts_any a ss cap w hstr hn hsz; rw [h] at this; exact this
theorem getText_is {s : ByteArray} {l : List UInt8} {k er : Int} (h : Cw.getT s.data.toList = (l, k, er)) (w : World) (hs : (s.size : Int) ≤ 140737488355328) :
    Calls Try.prog 20 #[.string s] w fun e w' => e = .returned (.tuple #[.string ⟨l.toArray⟩, .int .i64 k, .int .i64 er]) ∧ w = w' := by
  have := getText_any s w hs; rw [h] at this; exact this
theorem refGetText_is {s : ByteArray} {l : List UInt8} {k er : Int} (h : Cw.getT s.data.toList = (l, k, er)) (w : World) (hs : (s.size : Int) ≤ 140737488355328) :
    Calls Try.prog 21 #[.string s] w fun e w' => e = .returned (.tuple #[.string ⟨l.toArray⟩, .int .i64 k, .int .i64 er]) ∧ w = w' := by
  have := refGetText_any s w hs; rw [h] at this; exact this

theorem new_strs2 (w : World) (s t : ByteArray) : Strs (w.alloc (.cells #[.string s, .string t] 9)).heap.size (w.alloc (.cells #[.string s, .string t] 9)) (some ⟨w.heap.size, 0, none⟩) [s, t] := by
  intro i hi
  refine ⟨w.heap.size, 0, rfl, by simp, ?_⟩
  match i, hi with
  | 0, _ => simp
  | 1, _ => simp

theorem small2 : ∀ s ∈ [(⟨#[]⟩ : ByteArray), ⟨#[97, 98]⟩], s.size ≤ 140737488355328 := by
  intro s hs
  have h : s.size ≤ 2 := by
    rcases List.mem_cons.1 hs with rfl | hs
    · decide
    · rcases List.mem_cons.1 hs with rfl | hs
      · decide
      · cases hs
  omega

set_option maxHeartbeats 1000000 in
theorem awake_any (w : World) : Calls Try.prog 11 #[] w fun e w' => e = .returned (.bool true) ∧ Below w.heap.size w w' := by
  have h1 : putI 300 = ([172, 2], 0) := by decide
  have h2 : putTs [⟨#[]⟩, ⟨#[97, 98]⟩] = ([2, 0, 2, 97, 98], 0) := by decide
  have h3 : Cw.getI (ByteArray.mk #[128, 0]).data.toList = (0, 0, 13) := by decide
  have H1 := Lib.hid (putInt_is h1)
  have H2 := Lib.hid (fun (a : Option Addr) (w : World) h => putTexts_is (a := a) (cap := 2) h2 w h (by decide) small2)
  have H3 := Lib.hid (getInt_is h3)
  clear h1 h2 h3
  go_enter Try.func11, Try.ntmps11
  go_wp2_with fail
  refine (H1.out w).mono ?_
  rintro e w1 ⟨rfl, hb1⟩
  go_wp2_with fail
  refine (H2.out _ _ (new_strs2 w1 ⟨#[]⟩ ⟨#[97, 98]⟩)).mono ?_
  rintro e w2 ⟨rfl, hb2⟩
  go_wp2_with fail
  refine (H3.out w2).mono ?_
  rintro e w3 ⟨rfl, rfl⟩
  go_wp2_with fail
  go_ret
  refine ⟨rfl, ?_⟩
  exact (hb1.alloc hb1.size _).trans (hb2.mono (by have := hb1.size; simp; omega))

end Go.Proofs.Ytjgkfkoaackeeaa
