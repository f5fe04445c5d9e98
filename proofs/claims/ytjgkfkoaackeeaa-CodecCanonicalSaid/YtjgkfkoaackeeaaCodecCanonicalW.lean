/- The walk of CodecCanonical. -/
import Derived.Test.YtjgkfkoaackeeaaTextLaw
import Derived.Test.YtjgkfkoaackeeaaCodecListsW
namespace Go.Proofs.Ytjgkfkoaackeeaa.codecCanonical
open Go.RowKit Go.Proofs.Ytjgkfkoaackeeaa.codecLists

theorem slice_to (s : ByteArray) {k : Int} {L : List UInt8} (h0 : 0 ≤ k) (hk : k ≤ s.size) (hL : s.data.toList.take k.toNat = L) :
    ∀ W, (Instr.slice 9 (.string s) none (some (.int .i64 k)) none).run Try.prog W = .ok (.string ⟨L.toArray⟩) W := by
  intro W
  rw [run_slice_string_h (P := Try.prog) W (t := 9) s Try.underlying9 .i64 k h0 hk]
  have : s.extract 0 k.toNat = ⟨L.toArray⟩ := ba_eq (by rw [Lib.extract_data, List.drop_zero, Nat.sub_zero, hL])
  rw [this]

theorem ints (s : ByteArray) : ∃ n k er, Cw.getI s.data.toList = (n, k, er) ∧ ((er == 0) = false ∨ (er = 0 ∧ ∃ l, putI n = (l, 0) ∧ 1 ≤ k ∧ k ≤ s.size ∧ s.data.toList.take k.toNat = l)) := by
  obtain ⟨n, k, er, h⟩ : ∃ n k er, Cw.getI s.data.toList = (n, k, er) := ⟨_, _, _, rfl⟩
  refine ⟨n, k, er, h, ?_⟩
  by_cases he : er = 0
  · subst he
    right
    have hb := getI_bounds h
    rw [ba_size] at hb
    obtain ⟨h0, hk, ht⟩ := Cw.getI_canon h
    refine ⟨rfl, Cw.enc n.toNat, if_pos ((Cw.inR_iff n).2 ⟨by omega, by omega⟩), by omega, by omega, ?_⟩
    rw [hk, Int.toNat_natCast]; exact ht
  · left; simpa using he

theorem texts (s : ByteArray) : ∃ x k er, Cw.getT s.data.toList = (x, k, er) ∧ x.length ≤ 65536 ∧ ((er == 0) = false ∨ (er = 0 ∧ ∃ l, putT x = (l, 0) ∧ 1 ≤ k ∧ k ≤ s.size ∧ s.data.toList.take k.toNat = l)) := by
  obtain ⟨x, k, er, h⟩ : ∃ x k er, Cw.getT s.data.toList = (x, k, er) := ⟨_, _, _, rfl⟩
  refine ⟨x, k, er, h, (getT_bounds h).2.2, ?_⟩
  by_cases he : er = 0
  · subst he
    right
    obtain ⟨h1, h2, h3, h4⟩ := getT_canon h
    rw [ba_size] at h2
    exact ⟨rfl, _, putT_ok h3, h1, h2, h4⟩
  · left; simpa using he

theorem lists (s : ByteArray) : ∃ xs k er, Cw.getTs s.data.toList = (xs, k, er) ∧ xs.length ≤ 1000 ∧ ((er == 0) = false ∨ (er = 0 ∧ (∀ x ∈ xs, x.length ≤ 65536) ∧ ∃ l, putTs (xs.map ofL) = (l, 0) ∧ 1 ≤ k ∧ k ≤ s.size ∧ s.data.toList.take k.toNat = l)) := by
  obtain ⟨xs, k, er, h⟩ : ∃ xs k er, Cw.getTs s.data.toList = (xs, k, er) := ⟨_, _, _, rfl⟩
  refine ⟨xs, k, er, h, by have := getTs_length s.data.toList; rw [h] at this; exact this, ?_⟩
  by_cases he : er = 0
  · subst he
    right
    obtain ⟨h1, h2, h3, h4, h5⟩ := getTs_canon h
    rw [ba_size] at h2
    exact ⟨rfl, h4, _, putTs_ofL h3 h4, h1, h2, h5⟩
  · left; simpa using he

set_option maxHeartbeats 4000000 in
theorem walk (s : ByteArray) (w0 : s.size ≤ maxLen) (w : World) :
    Calls Try.prog 9 #[.string s] w fun e w' => e = .returned (.bool true) ∧ Below w.heap.size w w' := by
  unfold maxLen at w0
  by_cases hs : (s.size : Int) ≤ 300
  · obtain ⟨n, k1, e1, hg1, hc1⟩ := ints s
    obtain ⟨x, k2, e2, hg2, hx, hc2⟩ := texts s
    obtain ⟨xs, k3, e3, hg3, hxs, hc3⟩ := lists s
    have G1 := Lib.hid (getInt_is hg1)
    have G2 := Lib.hid (fun w => getText_is hg2 w (by omega))
    have G3 := Lib.hid (fun w => gets_is hg3 w (by omega))
    clear hg1 hg2 hg3
    have hbel := Below.refl w.heap.size w
    rcases hc1 with he1 | ⟨rfl, l1, hp1, hk1, hk1', hl1⟩ <;> rcases hc2 with he2 | ⟨rfl, l2, hp2, hk2, hk2', hl2⟩ <;> rcases hc3 with he3 | ⟨rfl, hy, l3, hp3, hk3, hk3', hl3⟩
    all_goals
      first
        | (have S1 := slice_to s (k := k1) (by omega) hk1' hl1; have P1 := Lib.hid (putInt_is hp1); clear hl1 hp1)
        | (have P1 : True := trivial)
      first
        | (have S2 := slice_to s (k := k2) (by omega) hk2' hl2; have P2 := Lib.hid (fun w => putText_is (s := ⟨x.toArray⟩) hp2 w (by rw [ba_len]; omega)); clear hl2 hp2)
        | (have P2 : True := trivial)
      first
        | (have S3 := slice_to s (k := k3) (by omega) hk3' hl3; have P3 := Lib.hid (fun (a : Option Addr) (cap : Nat) w h => putTexts_is (a := a) (cap := cap) hp3 w h (by rw [List.length_map]; omega) (fun s hs => by obtain ⟨y, hy', rfl⟩ := List.mem_map.1 hs; rw [show (ofL y).size = y.length from ba_len y]; have := hy y hy'; omega)); rw [List.length_map] at P3; clear hl3 hp3 hy)
        | (have P3 : True := trivial)
      go_enter Try.func9, Try.ntmps9
      go_wp2_with (first
        | (go_at_call 13; refine (G1.out _).mono ?_; rintro e y ⟨rfl, rfl⟩)
        | (go_at_call 12; refine (P1.out _).mono ?_; rintro e y1 ⟨rfl, b1⟩; replace hbel := bnext hbel b1; clear b1)
        | (go_at_call 20; refine (G2.out _).mono ?_; rintro e y ⟨rfl, rfl⟩)
        | (go_at_call 18; refine (P2.out _).mono ?_; rintro e y2 ⟨rfl, b2⟩; replace hbel := bnext hbel b2; clear b2)
        | (go_at_call 25; refine (G3.out _).mono ?_; rintro e y3 ⟨av, cv, rfl, st, b3⟩; replace hbel := bnext hbel b3; clear b3)
        | (go_at_call 23; refine (P3.out _ _ _ st).mono ?_; rintro e y4 ⟨rfl, b4⟩; replace hbel := bnext hbel b4; clear b4)
        | (go_at_call 11; refine (awake_any _).mono ?_; rintro e y5 ⟨rfl, b5⟩; replace hbel := bnext hbel b5; clear b5))
      go_ret
      exact ⟨rfl, hbel⟩
  · go_enter Try.func9, Try.ntmps9
    go_wp2_with fail
    refine (awake_any _).mono ?_
    rintro e x4 ⟨rfl, b4⟩
    go_wp2_with fail
    go_ret
    exact ⟨rfl, b4⟩

end Go.Proofs.Ytjgkfkoaackeeaa.codecCanonical
