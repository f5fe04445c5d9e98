/- wire.end, wire.valid. -/
import Derived.Test.YtlijaacjfnjmjaaProg
import Derived.WalkKit
import Derived.WalkSpells
import Derived.WalkLawsBesides
import Derived.Lib.Hide
import Derived.RegionTactic
import Derived.ChangeAlike
import Derived.Deep.RegionWith
import Derived.Deep.QuietTactic
import Derived.BigQuiet
import Derived.Lib.QuietBelow
namespace Go.Proofs.Ytlijaacjfnjmjaa
open Go.RowKit

set_option maxHeartbeats 400000 in
theorem end_any (off : Int) (s : ByteArray) (w : World) (h0 : -4611686018427387904 ≤ off) (h1 : off ≤ 4611686018427387904) (hs : (s.size : Int) ≤ 140737488355328) :
    Calls Try.prog 33 #[.agg #[.int .i64 off, .string s]] w fun e w' => e = .returned (.int .i64 (off + s.size)) ∧ w.alloc (.cells #[.int .i64 off, .string s] 40) = w' := by
  go_enter Try.func33, Try.ntmps33
  go_wp2
  go_ret
  exact ⟨rfl, rfl⟩

/-- Whether a part is valid, its id in range. -/
def v2 (off tot : Int) (nd n : Nat) : Bool := decide (1 ≤ n ∧ n ≤ 65536 ∧ 1 ≤ tot ∧ tot ≤ 1048576 ∧ 0 ≤ off ∧ off ≤ tot - n ∧ nd = 0)

theorem ret_bool {a b : Bool} (h : a = b) : Ending.returned (.bool a) = .returned (.bool b) := by rw [h]

set_option maxHeartbeats 1000000 in
theorem valid2 (id off tot : Int) (a : Option Addr) (nd cd : Nat) (s : ByteArray) (w : World) (hid0 : 0 ≤ id) (hid1 : id ≤ 1099511627776) (hs : (s.size : Int) ≤ 140737488355328) :
    Calls Try.prog 32 #[.agg #[.int .i64 2, .int .i64 id, .int .i64 off, .int .i64 tot, .slice a nd cd, .string s]] w fun e w' => e = .returned (.bool (v2 off tot nd s.size)) ∧ w.alloc (.cells #[.int .i64 2, .int .i64 id, .int .i64 off, .int .i64 tot, .slice a nd cd, .string s] 34) = w' := by
  have HV : Hid (∀ b : Bool, (b = true ↔ (1 ≤ s.size ∧ s.size ≤ 65536 ∧ 1 ≤ tot ∧ tot ≤ 1048576 ∧ 0 ≤ off ∧ off ≤ tot - s.size ∧ nd = 0)) → b = v2 off tot nd s.size) := Lib.hid (fun b hb => by
    unfold v2; rw [Bool.eq_iff_iff, hb, decide_eq_true_iff])
  go_enter Try.func32, Try.ntmps32
  go_wp2
  all_goals
    go_ret
    refine ⟨ret_bool (HV.out _ ?_), rfl⟩
    simp
    omega

theorem ba_len (l : List UInt8) : (⟨l.toArray⟩ : ByteArray).size = l.length := by show l.toArray.size = _; simp

/-- What lies behind a region of reads and of calls that only make memory. -/
theorem below_rg {w w' : World} (h : ∃ p : Regrown, w' = Go.Sort.grow (redrawn w p.d) p.os) : Below w.heap.size w w' := by
  obtain ⟨p, rfl⟩ := h; exact below_regrown w p.d p.os

/-- A cell behind new blocks. -/
theorem cell_a1 {w : World} {p : Addr} {v : Value} (h : w.cell? p = some v) (o : Obj) : (w.alloc o).cell? p = some v := by
  have hlt : p.block < w.heap.size := by
    unfold World.cell? at h
    cases ho : w.heap[p.block]? with
    | none => simp [ho] at h
    | some o => exact (Array.getElem?_eq_some_iff.1 ho).1
  exact (((Below.refl w.heap.size w).alloc (Nat.le_refl _) o).cell hlt).trans h
theorem cell_a2 {w : World} {p : Addr} {v : Value} (h : w.cell? p = some v) (o o' : Obj) : ((w.alloc o).alloc o').cell? p = some v := cell_a1 (cell_a1 h o) o'
theorem cell_a3 {w : World} {p : Addr} {v : Value} (h : w.cell? p = some v) (o o' o'' : Obj) : (((w.alloc o).alloc o').alloc o'').cell? p = some v := cell_a1 (cell_a2 h o o') o''

/-- A part of a text: its offset and its bytes. -/
abbrev P := Int × List UInt8

/-- A slice of pieces that lies below block B. -/
def Pcs (B : Nat) (W : World) (a : Option Addr) (ps : List P) : Prop :=
  ∀ i (h : i < ps.length), ∃ b off, a = some ⟨b, off, none⟩ ∧ b < B ∧ W.cell? ⟨b, off + i * 2, none⟩ = some (.int .i64 ps[i].1) ∧ W.cell? ⟨b, off + i * 2 + 1, none⟩ = some (.string ⟨ps[i].2.toArray⟩)

theorem Pcs.below {B B' : Nat} {W W' : World} {a : Option Addr} {ps : List P} (h : Pcs B W a ps) (hb : Below B' W W') (hB : B ≤ B') : Pcs B W' a ps := by
  intro i hi
  obtain ⟨b, off, ha, hlt, hc, hd⟩ := h i hi
  exact ⟨b, off, ha, hlt, (hb.cell (p := ⟨b, off + i * 2, none⟩) (by simp; omega)).trans hc, (hb.cell (p := ⟨b, off + i * 2 + 1, none⟩) (by simp; omega)).trans hd⟩
theorem Pcs.mono {B B' : Nat} {W : World} {a : Option Addr} {ps : List P} (h : Pcs B W a ps) (hB : B ≤ B') : Pcs B' W a ps := by
  intro i hi
  obtain ⟨b, off, ha, hlt, hc⟩ := h i hi
  exact ⟨b, off, ha, by omega, hc⟩

/-- Whether pieces are valid behind an offset. -/
def vgo (tot : Int) : Int → List P → Bool
  | _, [] => true
  | e, p :: ps => decide (0 ≤ p.1) && !p.2.isEmpty && decide (p.1 ≤ tot - p.2.length) && decide (e < p.1) && vgo tot (p.1 + p.2.length) ps
def vParts (id tot : Int) (ps : List P) : Bool :=
  ps.isEmpty || (decide (0 ≤ id ∧ id ≤ 1099511627776 ∧ 0 ≤ tot ∧ tot ≤ 1048576) && vgo tot (-1) ps)

/-- The relation of the loop: what is left to look at decides. -/
def VRel (tot : Int) (ps : List P) (k : Nat) : Prop :=
  ∃ e, vgo tot e (ps.drop k) = vgo tot (-1) ps ∧ ((k = 0 ∧ e = -1) ∨ ∃ (j : Nat) (h : j < ps.length), k = j + 1 ∧ e = ps[j].1 + ps[j].2.length ∧ 0 ≤ ps[j].1 ∧ ps[j].1 ≤ tot)

theorem VRel.start (tot : Int) (ps : List P) : VRel tot ps 0 := ⟨-1, rfl, .inl ⟨rfl, rfl⟩⟩
theorem VRel.fin {tot : Int} {ps : List P} {k : Nat} (h : VRel tot ps k) (hk : ps.length ≤ k) : vgo tot (-1) ps = true := by
  obtain ⟨e, h, _⟩ := h
  rw [← h, List.drop_eq_nil_of_le hk]; rfl
theorem VRel.bad {tot : Int} {ps : List P} {k : Nat} (h : VRel tot ps k) (hk : k < ps.length) (hb : ps[k].1 < 0 ∨ ps[k].2 = [] ∨ tot - ps[k].2.length < ps[k].1) : vgo tot (-1) ps = false := by
  obtain ⟨e, h, _⟩ := h
  rw [← h, List.drop_eq_getElem_cons hk, vgo]
  rcases hb with hb | hb | hb
  · have : decide (0 ≤ ps[k].1) = false := by simpa using hb
    simp [this]
  · simp [hb]
  · have : decide (ps[k].1 ≤ tot - ps[k].2.length) = false := by simpa using hb
    simp [this]
theorem VRel.next {tot : Int} {ps : List P} {k : Nat} (h : VRel tot ps k) (hk : k < ps.length) (h0 : 0 ≤ ps[k].1) (h1 : ps[k].2 ≠ []) (h2 : ps[k].1 ≤ tot - ps[k].2.length)
    (h3 : ∀ (j : Nat) (hj : j < ps.length), k = j + 1 → ps[j].1 + ps[j].2.length < ps[k].1) : VRel tot ps (k + 1) := by
  obtain ⟨e, h, hc⟩ := h
  refine ⟨ps[k].1 + ps[k].2.length, ?_, .inr ⟨k, hk, rfl, rfl, h0, by omega⟩⟩
  rw [← h, List.drop_eq_getElem_cons hk]
  conv => rhs; rw [vgo]
  have he : e < ps[k].1 := by
    rcases hc with ⟨_, rfl⟩ | ⟨j, hj, hkj, rfl, _, _⟩
    · omega
    · exact h3 j hj hkj
  have h1' : ps[k].2.isEmpty = false := by simpa using h1
  simp [h0, h1', h2, he]
theorem VRel.close {tot : Int} {ps : List P} {k : Nat} (h : VRel tot ps k) (hk : k < ps.length) {j : Nat} (hj : j < ps.length) (hkj : k = j + 1) (h3 : ps[k].1 ≤ ps[j].1 + ps[j].2.length) : vgo tot (-1) ps = false := by
  obtain ⟨e, h, hc⟩ := h
  rw [← h, List.drop_eq_getElem_cons hk, vgo]
  rcases hc with ⟨h0, _⟩ | ⟨j', hj', hkj', rfl, _, _⟩
  · omega
  · obtain rfl : j' = j := by omega
    have : decide (ps[j'].1 + ps[j'].2.length < ps[k].1) = false := by simpa using h3
    simp [this]

theorem vParts_bad {id tot : Int} {ps : List P} (h : 0 < ps.length) (hb : ¬ (0 ≤ id ∧ id ≤ 1099511627776 ∧ 0 ≤ tot ∧ tot ≤ 1048576)) : vParts id tot ps = false := by
  unfold vParts
  have : ps.isEmpty = false := by cases ps with | nil => simp at h | cons => rfl
  rw [this, decide_eq_false hb]; rfl
theorem vParts_go {id tot : Int} {ps : List P} (h : 0 < ps.length) (hb : 0 ≤ id ∧ id ≤ 1099511627776 ∧ 0 ≤ tot ∧ tot ≤ 1048576) : vParts id tot ps = vgo tot (-1) ps := by
  unfold vParts
  have : ps.isEmpty = false := by cases ps with | nil => simp at h | cons => rfl
  rw [this, decide_eq_true hb]; rfl

abbrev boxP (w : World) (id tot : Int) (a : Option Addr) (n c : Nat) : World := w.alloc (.cells #[.int .i64 id, .int .i64 tot, .slice a n c] 31)

set_option maxHeartbeats 2000000 in
theorem validParts_any (id tot : Int) (a : Option Addr) (ps : List P) (c : Nat) (w : World) (hps : Pcs w.heap.size w a ps) (hn : (ps.length : Int) ≤ 140737488355328) (hsz : ∀ p ∈ ps, p.2.length ≤ 140737488355328) :
    Calls Try.prog 31 #[.agg #[.int .i64 id, .int .i64 tot, .slice a ps.length c]] w fun e w' => e = .returned (.bool (vParts id tot ps)) ∧ Below w.heap.size w w' := by
  have HZ := Lib.hid hsz
  clear hsz
  obtain ⟨n, hnn⟩ : ∃ n, n = ps.length := ⟨_, rfl⟩
  have HN := Lib.hid hnn
  rw [← hnn] at hn ⊢
  clear hnn
  by_cases hn0 : (n : Int) = 0
  · have HV : Hid (vParts id tot ps = true) := Lib.hid (by
      have : ps = [] := List.length_eq_zero_iff.1 (by rw [← HN.out]; omega)
      rw [this]; rfl)
    have t0 : ((n : Int) == 0) = true := by simpa using hn0
    clear hn0
    go_enter Try.func31, Try.ntmps31
    go_wp2_with fail
    go_ret
    exact ⟨by rw [HV.out]; rfl, (Below.refl _ w).alloc (Nat.le_refl _) _⟩
  · have t0 : ((n : Int) == 0) = false := by simpa using hn0
    have hn1 : 0 < ps.length := by rw [← HN.out]; omega
    by_cases hb : 0 ≤ id ∧ id ≤ 1099511627776 ∧ 0 ≤ tot ∧ tot ≤ 1048576
    · have HV := Lib.hid (vParts_go hn1 hb)
      obtain ⟨hid0, hid1, ht0, ht1⟩ := hb
      have d1 : decide (id < 0) = false := by simpa using hid0
      have d2 : decide (1099511627776 < id) = false := by simpa using hid1
      have d3 : decide (tot < 0) = false := by simpa using ht0
      have d4 : decide (1048576 < tot) = false := by simpa using ht1
      clear hn0
      go_enter Try.func31, Try.ntmps31
      go_wp2_with fail
      go_loopw [30] (fun i wr => ∃ k : Nat, k ≤ n ∧ i = .int .i64 k ∧ Below (w.heap.size + 1) (boxP w id tot a n c) wr ∧ VRel tot ps k) (fun i _ => n - (intOf i).toNat)
      case atStart => exact ⟨0, by omega, rfl, Below.refl _ _, VRel.start _ _⟩
      case round =>
        obtain ⟨k, hk, rfl, hbel, hrel⟩ := hrel
        have HB := Lib.hid hbel
        have HR := Lib.hid hrel
        have hsz1 : w.heap.size + 1 ≤ wr.heap.size := by have := hbel.size; simpa using this
        have c0 : wr.cell? ⟨w.heap.size, 1, none⟩ = some (.int .i64 tot) := (hbel.cell (p := ⟨w.heap.size, 1, none⟩) (by simp)).trans (by simp)
        have c1 : wr.cell? ⟨w.heap.size, 2, none⟩ = some (.slice a n c) := (hbel.cell (p := ⟨w.heap.size, 2, none⟩) (by simp)).trans (by simp)
        clear hbel hrel
        by_cases hlt : k < n
        · have hlt' : k < ps.length := by rw [← HN.out]; exact hlt
          have HP : Hid (Pcs w.heap.size wr a ps) := Lib.hid ((hps.below ((Below.refl _ w).alloc (Nat.le_refl _) _) (Nat.le_refl _)).below HB.out (by omega))
          obtain ⟨b, off, rfl, hbl, hc, hd⟩ := HP.out k hlt'
          obtain ⟨o, ho⟩ : ∃ o, o = ps[k].1 := ⟨_, rfl⟩
          obtain ⟨T, hT⟩ : ∃ T, T = ps[k].2 := ⟨_, rfl⟩
          have hTl : (T.length : Int) ≤ 140737488355328 := by have := HZ.out ps[k] (List.getElem_mem hlt'); rw [hT]; omega
          rw [← ho] at hc
          rw [← hT] at hd
          have HO := Lib.hid ho
          have HT := Lib.hid hT
          clear ho hT
          have HFin : Hid (Below w.heap.size w (wr.alloc (.cells #[.int .i64 o, .string ⟨T.toArray⟩] 40))) := Lib.hid ((((Below.refl _ w).alloc (Nat.le_refl _) _).trans (HB.out.mono (by omega))).alloc (by omega) _)
          by_cases h1 : o < 0
          · have HF := Lib.hid (HR.out.bad hlt' (.inl (by rw [← HO.out]; exact h1)))
            go_wp2_with fail
            go_ret
            exact ⟨by rw [HV.out, HF.out]; rfl, HFin.out⟩
          · by_cases hT0 : T = []
            · have HF := Lib.hid (HR.out.bad hlt' (.inr (.inl (by rw [← HT.out]; exact hT0))))
              subst hT0
              go_wp2_with fail
              go_ret
              exact ⟨by rw [HV.out, HF.out]; rfl, HFin.out⟩
            · have hT1 : T.isEmpty = false := by simpa using hT0
              have hT2 : 0 < T.length := List.length_pos_iff.2 hT0
              have HT0 := Lib.hid hT0
              clear hT0
              have c0' := fun x => cell_a1 c0 x
              have c1' := fun x => cell_a1 c1 x
              by_cases h2 : tot - T.length < o
              · have HF := Lib.hid (HR.out.bad hlt' (.inr (.inr (by rw [← HT.out, ← HO.out]; exact h2))))
                go_wp2_with fail
                go_ret
                exact ⟨by rw [HV.out, HF.out]; rfl, HFin.out⟩
              · by_cases hk0 : k = 0
                · have HN1 : Hid (VRel tot ps (k + 1)) := Lib.hid (HR.out.next hlt' (by rw [← HO.out]; omega) (by rw [← HT.out]; exact HT0.out) (by rw [← HT.out, ← HO.out]; omega) (fun j _ hj => by omega))
                  have g0 : decide (0 < k) = false := by simp; omega
                  clear hk0
                  go_wp2_with fail
                  go_quiet (fail)
                  go_wp2_with fail
                  go_roundw
                  case rel => exact ⟨k + 1, by omega, by go_num, (HB.out.alloc (by omega) _).trans (below_drewN (Below.refl _ _) _), HN1.out⟩
                  case measure => simp [intOf]; omega
                · have hj' : k - 1 < ps.length := by omega
                  have HK1 : Hid (0 < k) := Lib.hid (by omega)
                  obtain ⟨b2, off2, he2, _, hcj, hdj⟩ := HP.out (k - 1) hj'
                  cases he2
                  obtain ⟨oj, hoj⟩ : ∃ oj, oj = ps[k - 1].1 := ⟨_, rfl⟩
                  obtain ⟨Tj, hTj⟩ : ∃ Tj, Tj = ps[k - 1].2 := ⟨_, rfl⟩
                  have hTjl : (Tj.length : Int) ≤ 140737488355328 := by have := HZ.out ps[k - 1] (List.getElem_mem hj'); rw [hTj]; omega
                  have hojb : 0 ≤ oj ∧ oj ≤ 1048576 := by
                    obtain ⟨e, _, hc3⟩ := HR.out
                    rcases hc3 with ⟨h, _⟩ | ⟨j', hj2, hkj, _, hj3, hj4⟩
                    · omega
                    · obtain rfl : j' = k - 1 := by omega
                      rw [hoj]; omega
                  rw [← hoj] at hcj
                  rw [← hTj] at hdj
                  have HOJ := Lib.hid hoj
                  have HTJ := Lib.hid hTj
                  clear hoj hTj
                  have HE := Lib.hid (fun w => end_any oj ⟨Tj.toArray⟩ w (by omega) (by omega) (by rw [ba_len]; omega))
                  rw [ba_len] at HE
                  have g0 : decide (0 < k) = true := by simp; omega
                  have q1 : IntKind.i64.wrap ((k : Int) - 1) = (k : Int) - 1 := IntWalk.i64_in _ (by omega)
                  have q2 : (0 : Int) ≤ (k : Int) - 1 := by omega
                  have q3 : ((k : Int) - 1).toNat = k - 1 := by omega
                  have q4 : (k : Int) - 1 < (n : Int) := by omega
                  have hcj' := fun x => cell_a1 hcj x
                  have hdj' := fun x => cell_a1 hdj x
                  have c1'' := fun x y => cell_a2 c1 x y
                  clear hk0
                  go_wp2_with fail
                  have HEq := Lib.hid (fun d os => Calls.regrown_of (w := wr.alloc (.cells #[.int .i64 o, .string ⟨T.toArray⟩] 40)) (d := d) (os := os) ((HE.out _).mono (R' := fun e w' => e = .returned (.int .i64 (oj + Tj.length)) ∧ Below _ _ w') (by rintro e w' ⟨rfl, rfl⟩; exact ⟨rfl, (Below.refl _ _).alloc (Nat.le_refl _) _⟩)))
                  have k1 := cell_regrown (c1' (.cells #[.int .i64 o, .string ⟨T.toArray⟩] 40))
                  have k2 := cell_regrown (hcj' (.cells #[.int .i64 o, .string ⟨T.toArray⟩] 40))
                  have k3 := cell_regrown (hdj' (.cells #[.int .i64 o, .string ⟨T.toArray⟩] 40))
                  have k4 := cell_regrown (show (wr.alloc (.cells #[.int .i64 o, .string ⟨T.toArray⟩] 40)).cell? ⟨wr.heap.size, 0, none⟩ = some (.int .i64 o) by simp)
                  refine wp_region_quiet_below (by kernel_rfl) (by kernel_rfl) ?_
                  repeat (any_goals (first | go_big_quiet_step (exact HEq.out _ _) | quiet_step (exact HEq.out _ _)))
                  refine wpQuiet_nil ?_
                  intro w2 hw2
                  have HB2 := Lib.hid (below_rg hw2)
                  clear hw2 HEq k1 k2 k3 k4 q1 q2 q3 hcj' hdj' c1'' c0' c1'
                  have HFin2 : Hid (Below w.heap.size w w2) := Lib.hid (HFin.out.trans (HB2.out.mono HFin.out.size))
                  by_cases h3 : o ≤ oj + Tj.length
                  · have HF := Lib.hid (HR.out.close hlt' hj' (by have := HK1.out; omega) (by rw [← HO.out, ← HOJ.out, ← HTJ.out]; exact h3))
                    go_wp2_with fail
                    go_ret
                    exact ⟨by rw [HV.out, HF.out]; rfl, HFin2.out⟩
                  · have HN1 : Hid (VRel tot ps (k + 1)) := Lib.hid (HR.out.next hlt' (by rw [← HO.out]; omega) (by rw [← HT.out]; exact HT0.out) (by rw [← HT.out, ← HO.out]; omega) (fun j hj hkj => by
                      obtain rfl : j = k - 1 := by omega
                      rw [← HO.out, ← HOJ.out, ← HTJ.out]; omega))
                    go_wp2_with fail
                    go_roundw
                    case rel => exact ⟨k + 1, by omega, by go_num, (HB.out.alloc (by omega) _).trans (HB2.out.mono (by simp; omega)), HN1.out⟩
                    case measure => simp [intOf]; omega
        · have HF := Lib.hid (HR.out.fin (by rw [← HN.out]; omega))
          go_wp2_with fail
          go_ret
          exact ⟨by rw [HV.out, HF.out]; rfl, ((Below.refl _ w).alloc (Nat.le_refl _) _).trans (HB.out.mono (by omega))⟩
    · have HV := Lib.hid (vParts_bad hn1 hb)
      have key : (id < 0 ∨ 1099511627776 < id) ∨ (tot < 0 ∨ 1048576 < tot) := by omega
      clear hb hn0
      go_enter Try.func31, Try.ntmps31
      go_wp2_with fail
      all_goals
        go_ret
        exact ⟨by rw [HV.out]; rfl, (Below.refl _ w).alloc (Nat.le_refl _) _⟩

end Go.Proofs.Ytlijaacjfnjmjaa
