/- The walk of CodecLists. -/
import Derived.Test.YtjgkfkoaackeeaaRefTexts
namespace Go.Proofs.Ytjgkfkoaackeeaa.codecLists
open Go.RowKit

theorem puts_is {ss : List ByteArray} {l : List UInt8} {er : Int} (h : putTs ss = (l, er)) {a : Option Addr} {cap : Nat} (w : World) (hstr : Strs w.heap.size w a ss) (hn : (ss.length : Int) ≤ 140737488355328) (hsz : ∀ s ∈ ss, s.size ≤ 140737488355328) :
    Calls Try.prog 24 #[.slice a ss.length cap] w fun e w' => e = .returned (.tuple #[.string ⟨l.toArray⟩, .int .i64 er]) ∧ Below w.heap.size w w' := by
  have := refPutTexts_any a ss cap w hstr hn hsz; rw [h] at this; exact this

theorem gets_is {s : ByteArray} {r : List (List UInt8) × Int × Int} (h : Cw.getTs s.data.toList = r) (w : World) (hs : (s.size : Int) ≤ 140737488355328) :
    Calls Try.prog 25 #[.string s] w (GotTs w r) := by rw [← h]; exact getTexts_any s w hs
theorem refGets_is {s : ByteArray} {r : List (List UInt8) × Int × Int} (h : Cw.getTs s.data.toList = r) (w : World) (hs : (s.size : Int) ≤ 140737488355328) :
    Calls Try.prog 26 #[.string s] w (GotTs w r) := by rw [← h]; exact refGetTexts_any s w hs

theorem tsGo_length : ∀ (c at_ : Nat) (acc : List (List UInt8)) (l : List UInt8), (Cw.tsGo c at_ acc l).1.length ≤ acc.length + c
  | 0, _, _, _ => by simp [Cw.tsGo]
  | c + 1, at_, acc, l => by
    rw [Cw.tsGo]
    split
    · simp
    · have := tsGo_length c (at_ + (Cw.getT (l.drop at_)).2.1.toNat) (acc ++ [(Cw.getT (l.drop at_)).1]) l
      rw [List.length_append] at this
      simp at this; omega

theorem getTs_length (l : List UInt8) : (Cw.getTs l).1.length ≤ 1000 := by
  unfold Cw.getTs
  split
  · simp
  · split
    · simp
    · rename_i h
      have := tsGo_length (Cw.getI l).1.toNat (Cw.getI l).2.1.toNat [] l
      simp at this; omega

set_option maxHeartbeats 2000000 in
theorem walk (a0 : Option Addr) (ss : List ByteArray) (cap0 : Nat) (s : ByteArray) (w1 : s.size ≤ maxLen) (w : World) (hin : StrsIn w.heap.size w a0 ss) :
    Calls Try.prog 7 #[.slice a0 ss.length cap0, .string s] w fun e w' => e = .returned (.bool true) ∧ Below w.heap.size w w' := by
  unfold maxLen at w1
  obtain ⟨hstr, hml⟩ := hin
  cases hg : greatB ss with
  | true =>
    have HG := Lib.hid (great_is hg a0 cap0 w hstr hml)
    clear hg hstr hml
    obtain ⟨n, hn⟩ : ∃ n, n = ss.length := ⟨_, rfl⟩
    rw [← hn] at HG ⊢
    clear hn
    go_enter Try.func7, Try.ntmps7
    go_wp2_with fail
    refine HG.out.mono ?_
    rintro e x1 ⟨rfl, rfl⟩
    go_wp2_with fail
    refine (awake_any _).mono ?_
    rintro e x4 ⟨rfl, b4⟩
    go_wp2_with fail
    go_ret
    exact ⟨rfl, b4⟩
  | false =>
    have HG := Lib.hid (great_is hg a0 cap0 w hstr hml)
    obtain ⟨hl20, h300⟩ := greatB_false hg
    have h300' : ∀ s ∈ ss, s.size ≤ 140737488355328 := fun s hs => by have := h300 s hs; omega
    by_cases hs : (s.size : Int) ≤ 300
    · obtain ⟨l, er, hp⟩ : ∃ l er, putTs ss = (l, er) := ⟨_, _, rfl⟩
      obtain ⟨r, hr⟩ : ∃ r, Cw.getTs s.data.toList = r := ⟨_, rfl⟩
      have hrl : (r.1.length : Int) ≤ 1000 := by rw [← hr]; have := getTs_length s.data.toList; omega
      have H1 := Lib.hid (fun w h => putTexts_is (a := a0) (cap := cap0) hp w h (by omega) h300')
      have H2 := Lib.hid (fun w h => puts_is (a := a0) (cap := cap0) hp w h (by omega) h300')
      have H3 := Lib.hid (fun w => gets_is hr w (by omega))
      have H4 := Lib.hid (fun w => refGets_is hr w (by omega))
      have HS := Lib.hid hstr
      clear hp hr hg hstr hml h300 h300'
      obtain ⟨n, hn⟩ : ∃ n, n = ss.length := ⟨_, rfl⟩
      rw [← hn] at HG H1 H2 ⊢
      clear hn hl20
      go_enter Try.func7, Try.ntmps7
      go_wp2_with fail
      refine HG.out.mono ?_
      rintro e x1 ⟨rfl, rfl⟩
      go_wp2_with fail
      refine (H1.out _ HS.out).mono ?_
      rintro e x1 ⟨rfl, b1⟩
      go_wp2_with fail
      refine (H2.out _ ((HS.out.below b1 (Nat.le_refl _)).mono b1.size)).mono ?_
      rintro e x2 ⟨rfl, b2⟩
      go_wp2_with fail
      refine (H3.out _).mono ?_
      rintro e x3 ⟨av, cv, rfl, st1, b3⟩
      go_wp2_with fail
      refine (H4.out _).mono ?_
      rintro e x4 ⟨av2, cv2, rfl, st2, b4⟩
      have HST1 := Lib.hid ((st1.below b4 (Nat.le_refl _)).mono b4.size)
      have HST2 := Lib.hid st2
      clear st1 st2
      obtain ⟨rn, hrn⟩ : ∃ rn, rn = (r.1.map ofL).length := ⟨_, rfl⟩
      have hrn' : r.1.length = rn := by rw [hrn, List.length_map]
      rw [hrn'] at hrl ⊢
      have HSame : Hid (Calls Try.prog 27 #[.slice av rn cv, .slice av2 rn cv2] x4 fun e w' => e = .returned (.bool true) ∧ Below x4.heap.size x4 w') := Lib.hid (by
        rw [hrn] at hrl ⊢; exact same_yes av av2 (r.1.map ofL) cv cv2 x4 HST1.out HST2.out (by omega))
      clear hrn hrn' HST1 HST2
      have HC := Lib.hid ((b1.trans (b2.mono b1.size)).trans ((b3.trans (b4.mono b3.size)).mono (Nat.le_trans b1.size b2.size)))
      have hx4 : w.heap.size ≤ x4.heap.size := HC.out.size
      clear b1 b2 b3 b4
      go_wp2_with fail
      refine HSame.out.mono ?_
      rintro e x5 ⟨rfl, b5⟩
      go_wp2_with fail
      refine (awake_any _).mono ?_
      rintro e x6 ⟨rfl, b6⟩
      go_wp2_with fail
      go_ret
      exact ⟨rfl, (HC.out.trans (b5.mono hx4)).trans (b6.mono (Nat.le_trans hx4 b5.size))⟩
    · clear hg hstr hml h300 h300'
      obtain ⟨n, hn⟩ : ∃ n, n = ss.length := ⟨_, rfl⟩
      rw [← hn] at HG ⊢
      clear hn hl20
      go_enter Try.func7, Try.ntmps7
      go_wp2_with fail
      refine HG.out.mono ?_
      rintro e x1 ⟨rfl, rfl⟩
      go_wp2_with fail
      refine (awake_any _).mono ?_
      rintro e x4 ⟨rfl, b4⟩
      go_wp2_with fail
      go_ret
      exact ⟨rfl, b4⟩

end Go.Proofs.Ytjgkfkoaackeeaa.codecLists
