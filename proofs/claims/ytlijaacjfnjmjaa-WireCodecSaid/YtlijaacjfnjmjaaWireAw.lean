/- The chapter's example: awake. -/
import Derived.Test.YtlijaacjfnjmjaaWireSp
import Derived.Test.YtlijaacjfnjmjaaWireGather
import Derived.Test.YtlijaacjfnjmjaaWireGap
namespace Go.Proofs.Ytlijaacjfnjmjaa
open Go.RowKit

theorem aw_split : splitS 7 [97, 98, 99, 100, 101] 2 = ([⟨2, 7, 0, 5, [], [97, 98]⟩, ⟨2, 7, 2, 5, [], [99, 100]⟩, ⟨2, 7, 4, 5, [], [101]⟩], 0) := by decide
theorem aw_g1 : gatherS 0 0 [] 2 7 4 5 0 [101] = (0, 7, 5, [(4, [101])]) := by decide
theorem aw_g2 : gatherS 7 5 [(4, [101])] 2 7 0 5 0 [97, 98] = (0, 7, 5, [(0, [97, 98]), (4, [101])]) := by decide
theorem aw_gap : gapS 7 5 [(0, [97, 98]), (4, [101])] = (2, 2, true) := by decide

theorem aw_msgs {B : Nat} {W : World} {a : Option Addr} (h : Msgs B W a [⟨2, 7, 0, 5, [], [97, 98]⟩, ⟨2, 7, 2, 5, [], [99, 100]⟩, ⟨2, 7, 4, 5, [], [101]⟩]) :
    ∃ b off, a = some ⟨b, off, none⟩ ∧ b < B ∧ (∃ d c, W.cell? ⟨b, off, none⟩ = some (.int .i64 2) ∧ W.cell? ⟨b, off + 1, none⟩ = some (.int .i64 7) ∧ W.cell? ⟨b, off + 2, none⟩ = some (.int .i64 0) ∧ W.cell? ⟨b, off + 3, none⟩ = some (.int .i64 5) ∧ W.cell? ⟨b, off + 4, none⟩ = some (.slice d 0 c) ∧ W.cell? ⟨b, off + 5, none⟩ = some (.string ⟨#[97, 98]⟩))
    ∧ (∃ d c, W.cell? ⟨b, off + 12, none⟩ = some (.int .i64 2) ∧ W.cell? ⟨b, off + 12 + 1, none⟩ = some (.int .i64 7) ∧ W.cell? ⟨b, off + 12 + 2, none⟩ = some (.int .i64 4) ∧ W.cell? ⟨b, off + 12 + 3, none⟩ = some (.int .i64 5) ∧ W.cell? ⟨b, off + 12 + 4, none⟩ = some (.slice d 0 c) ∧ W.cell? ⟨b, off + 12 + 5, none⟩ = some (.string ⟨#[101]⟩)) := by
  obtain ⟨b, off, d, c, rfl, hb, h0, h1, h2, h3, h4, h5, _⟩ := h 0 (by decide)
  obtain ⟨b', off', d', c', he, _, g0, g1, g2, g3, g4, g5, _⟩ := h 2 (by decide)
  cases he
  exact ⟨b, off, rfl, hb, ⟨d, c, h0, h1, h2, h3, h4, h5⟩, ⟨d', c', g0, g1, g2, g3, g4, g5⟩⟩

theorem Pcs.setCell {B : Nat} {W : World} {a : Option Addr} {ps : List P} {p : Addr} {v : Value} (h : Pcs B W a ps) (hne : ∀ ad, a = some ad → ad.block ≠ p.block) : Pcs B (W.setCell p v) a ps := by
  intro i hi
  obtain ⟨b, off, rfl, hlt, hc, hd⟩ := h i hi
  have hk : (W.setCell p v).heap[b]? = W.heap[b]? := Below.heap_setCell W p v b (hne _ rfl)
  exact ⟨b, off, rfl, hlt, (World.cell?_of_block (a := ⟨b, off + i * 2, none⟩) hk).trans hc, (World.cell?_of_block (a := ⟨b, off + i * 2 + 1, none⟩) hk).trans hd⟩

theorem kept3 {u x : World} {v0 v1 v2 : Value} {T : TypeId} {G : Prop} (hb : Below (u.alloc (.cells #[v0, v1, v2] T)).drew.heap.size (u.alloc (.cells #[v0, v1, v2] T)).drew x)
    (k : x.cell? ⟨u.heap.size, 0, none⟩ = some v0 → x.cell? ⟨u.heap.size, 1, none⟩ = some v1 → x.cell? ⟨u.heap.size, 2, none⟩ = some v2 → x.frozen? ⟨u.heap.size, 0, none⟩ = false → x.frozen? ⟨u.heap.size, 1, none⟩ = false → x.frozen? ⟨u.heap.size, 2, none⟩ = false → G) : G :=
  k ((hb.cell (p := ⟨u.heap.size, 0, none⟩) (by simp)).trans (by simp [go_sem])) ((hb.cell (p := ⟨u.heap.size, 1, none⟩) (by simp)).trans (by simp [go_sem])) ((hb.cell (p := ⟨u.heap.size, 2, none⟩) (by simp)).trans (by simp [go_sem]))
    ((hb.frozen (p := ⟨u.heap.size, 0, none⟩) (by simp)).trans (by simp [go_sem])) ((hb.frozen (p := ⟨u.heap.size, 1, none⟩) (by simp)).trans (by simp [go_sem])) ((hb.frozen (p := ⟨u.heap.size, 2, none⟩) (by simp)).trans (by simp [go_sem]))

set_option maxRecDepth 100000 in
set_option maxHeartbeats 2000000 in
theorem awake_any (w : World) : Calls Try.prog 11 #[] w fun e w' => e = .returned (.bool true) ∧ Below w.heap.size w w' := by
  have HS := Lib.hid (split_any 7 [97, 98, 99, 100, 101] 2 w (by decide))
  rw [aw_split] at HS
  go_enter Try.func11, Try.ntmps11
  go_wp2_with fail
  refine HS.out.mono ?_
  rintro e w1 ⟨a, c, rfl, hm, hb, hc⟩
  obtain ⟨b, off, rfl, hlt, ⟨d, cd, h0, h1, h2, h3, h4, h5⟩, ⟨d', cd', g0, g1, g2, g3, g4, g5⟩⟩ := aw_msgs hm
  have HB := Lib.hid hb
  have HC := Lib.hid hc
  have HM := Lib.hid hm
  clear hb hc hm
  have hl1 : (2 : Int) < 3 := by decide
  go_wp2_with fail
  have G1 := gather_any 0 0 none [] 0 2 7 4 5 d' 0 cd' [101] w1 (fun i hi => by simp at hi) (Nat.le_refl _) (by decide) (fun p hp => by simp at hp) (by decide)
  rw [aw_g1] at G1
  refine G1.mono ?_
  clear G1
  rintro e w2 ⟨a2, c2, rfl, hp2, hb2, hc2, _⟩
  have k0 := (hb2.cell (p := ⟨b, off, none⟩) hlt).trans h0
  have k1 := (hb2.cell (p := ⟨b, off + 1, none⟩) hlt).trans h1
  have k2 := (hb2.cell (p := ⟨b, off + 2, none⟩) hlt).trans h2
  have k3 := (hb2.cell (p := ⟨b, off + 3, none⟩) hlt).trans h3
  have k4 := (hb2.cell (p := ⟨b, off + 4, none⟩) hlt).trans h4
  have k5 := (hb2.cell (p := ⟨b, off + 5, none⟩) hlt).trans h5
  have hlt2 : b < w2.heap.size := Nat.lt_of_lt_of_le hlt hb2.size
  have HB2 := Lib.hid hb2
  have HC2 := Lib.hid hc2
  have HP2 := Lib.hid hp2
  clear hb2 hc2 hp2 h0 h1 h2 h3 h4 h5 g0 g1 g2 g3 g4 g5
  go_wp2_with fail
  have G2 := Lib.hid (fun W (hW : Below w2.heap.size w2 W) => gather_any 7 5 a2 [(4, [101])] c2 2 7 0 5 d 0 cd [97, 98] W ((HP2.out.below hW (Nat.le_refl _)).mono hW.size) HC2.out (by decide) (fun p hp => by simp at hp; subst hp; decide) (by decide))
  rw [aw_g2] at G2
  go_region_with (go_at_call 18; refine (G2.out _ ((Below.refl _ _).alloc (Nat.le_refl _) _).drew).mono ?_; rintro e w3 ⟨a3, c3, rfl, hp3, hb3, hc3, hf3⟩; refine kept3 hb3 ?_; intro e0 e1 e2 e3 e4 e5; have HB3 := Lib.hid hb3; have HP3 := Lib.hid hp3; have HF3 := Lib.hid hf3; clear hb3 hc3 hp3 hf3)
  all_goals
    go_wp2_with fail
    have G3 := Lib.hid (fun W (hP : Pcs W.heap.size W a3 [(0, [97, 98]), (4, [101])]) => gap_any 7 5 a3 [(0, [97, 98]), (4, [101])] c3 W hP (by decide) (fun p hp => by simp at hp; rcases hp with rfl | rfl <;> decide))
    rw [aw_gap] at G3
    refine (G3.out _ ?_).mono ?_
    · have hne : ∀ ad, a3 = some ad → ad.block ≠ w2.heap.size := fun ad h => by
        have := HF3.out ad h
        have e : (w2.alloc (.cells #[.int .i64 7, .int .i64 5, .slice a2 1 c2] 31)).drew.heap.size = w2.heap.size + 1 := by simp
        rw [e] at this
        omega
      simpa using ((HP3.out.setCell hne).setCell hne).setCell hne
    rintro e w4 ⟨rfl, hb4⟩
    have HB4 := Lib.hid hb4
    clear hb4
    go_wp2_with fail
    go_ret
    refine ⟨rfl, ?_⟩
    have z1 := HB.out.size
    have z2 := HB2.out.size
    have z3 := HB3.out.size
    have hw3 : Below w.heap.size w w3 := (HB.out.trans (HB2.out.mono z1)).trans (((Below.refl _ w2).alloc (Nat.le_refl _) (.cells #[.int .i64 7, .int .i64 5, .slice a2 1 c2] 31)).drew.mono (by omega) |>.trans (HB3.out.mono (by simp; omega)))
    exact (((hw3.setCell (by simp; omega) _).setCell (by simp; omega) _).setCell (by simp; omega) _).trans (HB4.out.mono (by simp; simp at z3; omega))

end Go.Proofs.Ytlijaacjfnjmjaa
