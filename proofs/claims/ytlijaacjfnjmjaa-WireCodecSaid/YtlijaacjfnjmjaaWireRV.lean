/- The reference's Valid, Great, GreatParts, SameParts. -/
import Derived.Test.YtlijaacjfnjmjaaWireG
import Derived.Laws.StructEq
namespace Go.Proofs.Ytlijaacjfnjmjaa
open Go.RowKit

def RRel (tot : Int) (ps : List P) (k : Nat) (e : Int) : Prop := vgo tot e (ps.drop k) = vgo tot (-1) ps ∧ -1 ≤ e ∧ e ≤ 1048576
theorem RRel.start (tot : Int) (ps : List P) : RRel tot ps 0 (-1) := ⟨rfl, by omega, by omega⟩
theorem RRel.fin {tot e : Int} {ps : List P} {k : Nat} (h : RRel tot ps k e) (hk : ps.length ≤ k) : vgo tot (-1) ps = true := by
  rw [← h.1, List.drop_eq_nil_of_le hk]; rfl
theorem RRel.bad {tot e : Int} {ps : List P} {k : Nat} (h : RRel tot ps k e) (hk : k < ps.length) (hb : ps[k].2 = [] ∨ ps[k].1 ≤ e ∨ tot < ps[k].2.length ∨ tot - ps[k].2.length < ps[k].1) : vgo tot (-1) ps = false := by
  rw [← h.1, List.drop_eq_getElem_cons hk, vgo]
  have he := h.2.1
  by_cases h0 : ps[k].1 ≤ e
  · have : decide (e < ps[k].1) = false := by simpa using h0
    simp [this]
  · rcases hb with hb | hb | hb | hb
    · simp [hb]
    · exact absurd hb h0
    · have : decide (ps[k].1 ≤ tot - ps[k].2.length) = false := by simp; omega
      simp [this]
    · have : decide (ps[k].1 ≤ tot - ps[k].2.length) = false := by simpa using hb
      simp [this]
theorem RRel.next {tot e : Int} {ps : List P} {k : Nat} (h : RRel tot ps k e) (hk : k < ps.length) (h1 : ps[k].2 ≠ []) (h2 : ps[k].1 ≤ tot - ps[k].2.length) (h3 : e < ps[k].1) (ht : tot ≤ 1048576) : RRel tot ps (k + 1) (ps[k].1 + ps[k].2.length) := by
  obtain ⟨h, he, _⟩ := h
  refine ⟨?_, by omega, by omega⟩
  rw [← h, List.drop_eq_getElem_cons hk]
  conv => rhs; rw [vgo]
  have h1' : ps[k].2.isEmpty = false := by simpa using h1
  have h0 : (0 : Int) ≤ ps[k].1 := by omega
  simp [h0, h1', h2, h3]

set_option maxRecDepth 100000 in
set_option maxHeartbeats 2000000 in
theorem refValid_any (id tot : Int) (a : Option Addr) (ps : List P) (c : Nat) (w : World) (hps : Pcs w.heap.size w a ps) (hn : (ps.length : Int) ≤ 1048576) (hsz : ∀ p ∈ ps, p.2.length ≤ 1048576) :
    Calls Try.prog 17 #[.agg #[.int .i64 id, .int .i64 tot, .slice a ps.length c]] w fun e w' => e = .returned (.bool (vParts id tot ps)) ∧ Below w.heap.size w w' := by
  have HZ := Lib.hid hsz
  have HPS := Lib.hid hps
  clear hsz hps
  obtain ⟨n, hnn⟩ : ∃ n, n = ps.length := ⟨_, rfl⟩
  have HN := Lib.hid hnn
  rw [← hnn] at hn ⊢
  clear hnn
  by_cases hn0 : (n : Int) = 0
  · have HV : Hid (vParts id tot ps = true) := Lib.hid (by
      have : ps = [] := List.length_eq_zero_iff.1 (by rw [← HN.out]; omega)
      rw [this]; rfl)
    have t0 : decide (0 < n) = false := by simp; omega
    obtain rfl : n = 0 := by omega
    clear hn0
    go_enter Try.func17, Try.ntmps17
    go_wp2_with fail
    refine wp_loop_rounds 1 ?_
    rw [rounds_succ]
    go_wp2_with fail
    go_ret
    exact ⟨by rw [HV.out]; rfl, (Below.refl _ w).alloc (Nat.le_refl _) _⟩
  · have t0 : decide (0 < n) = true := by simp; omega
    have hn1 : 0 < ps.length := by rw [← HN.out]; omega
    by_cases hb : 0 ≤ id ∧ id ≤ 1099511627776 ∧ 0 ≤ tot ∧ tot ≤ 1048576
    · have HV := Lib.hid (vParts_go hn1 hb)
      obtain ⟨hid0, hid1, ht0, ht1⟩ := hb
      have d1 : decide (id < 0) = false := by simpa using hid0
      have d2 : decide (1099511627776 < id) = false := by simpa using hid1
      have d3 : decide (tot < 0) = false := by simpa using ht0
      have d4 : decide (1048576 < tot) = false := by simpa using ht1
      clear hn0
      go_enter Try.func17, Try.ntmps17
      go_wp2_with fail
      go_loopw [3, 4] (fun en i wr => ∃ (k : Nat) (e : Int), k ≤ n ∧ i = .int .i64 k ∧ en = .int .i64 e ∧ Below (w.heap.size + 1) (boxP w id tot a n c) wr ∧ RRel tot ps k e) (fun _ i _ => n - (intOf i).toNat)
      case atStart => exact ⟨0, -1, by omega, rfl, rfl, Below.refl _ _, RRel.start _ _⟩
      case round =>
        obtain ⟨k, e, hk, rfl, rfl, hbel, hrel⟩ := hrel
        have HB := Lib.hid hbel
        have HR := Lib.hid hrel
        have he1 : -1 ≤ e := hrel.2.1
        have he2 : e ≤ 1048576 := hrel.2.2
        have hsz1 : w.heap.size + 1 ≤ wr.heap.size := by have := hbel.size; simpa using this
        have c0 : wr.cell? ⟨w.heap.size, 1, none⟩ = some (.int .i64 tot) := (hbel.cell (p := ⟨w.heap.size, 1, none⟩) (by simp)).trans (by simp)
        have c1 : wr.cell? ⟨w.heap.size, 2, none⟩ = some (.slice a n c) := (hbel.cell (p := ⟨w.heap.size, 2, none⟩) (by simp)).trans (by simp)
        clear hbel hrel
        by_cases hlt : k < n
        · have hlt' : k < ps.length := by rw [← HN.out]; exact hlt
          have HP : Hid (Pcs w.heap.size wr a ps) := Lib.hid ((HPS.out.below ((Below.refl _ w).alloc (Nat.le_refl _) _) (Nat.le_refl _)).below HB.out (by omega))
          obtain ⟨b, off, rfl, hbl, hc, hd⟩ := HP.out k hlt'
          obtain ⟨o, ho⟩ : ∃ o, o = ps[k].1 := ⟨_, rfl⟩
          obtain ⟨T, hT⟩ : ∃ T, T = ps[k].2 := ⟨_, rfl⟩
          have hTl : (T.length : Int) ≤ 1048576 := by have := HZ.out ps[k] (List.getElem_mem hlt'); rw [hT]; omega
          rw [← ho] at hc
          rw [← hT] at hd
          have HO := Lib.hid ho
          have HT := Lib.hid hT
          clear ho hT
          have HFin : Hid (Below w.heap.size w (wr.alloc (.cells #[.int .i64 o, .string ⟨T.toArray⟩] 40))) := Lib.hid ((((Below.refl _ w).alloc (Nat.le_refl _) _).trans (HB.out.mono (by omega))).alloc (by omega) _)
          have c0' := fun x => cell_a1 c0 x
          have c1' := fun x => cell_a1 c1 x
          by_cases hT0 : T = []
          · have HF := Lib.hid (HR.out.bad hlt' (.inl (by rw [← HT.out]; exact hT0)))
            subst hT0
            go_wp2_with fail
            go_ret
            exact ⟨by rw [HV.out, HF.out]; rfl, HFin.out⟩
          · have hT1 : T.isEmpty = false := by simpa using hT0
            have HT0 := Lib.hid hT0
            clear hT0
            by_cases h1 : o ≤ e
            · have HF := Lib.hid (HR.out.bad hlt' (.inr (.inl (by rw [← HO.out]; exact h1))))
              go_wp2_with fail
              go_ret
              exact ⟨by rw [HV.out, HF.out]; rfl, HFin.out⟩
            · by_cases h2 : tot < T.length
              · have HF := Lib.hid (HR.out.bad hlt' (.inr (.inr (.inl (by rw [← HT.out]; exact h2)))))
                go_wp2_with fail
                go_ret
                exact ⟨by rw [HV.out, HF.out]; rfl, HFin.out⟩
              · by_cases h3 : tot - T.length < o
                · have HF := Lib.hid (HR.out.bad hlt' (.inr (.inr (.inr (by rw [← HT.out, ← HO.out]; exact h3)))))
                  go_wp2_with fail
                  go_ret
                  exact ⟨by rw [HV.out, HF.out]; rfl, HFin.out⟩
                · have HN1 : Hid (RRel tot ps (k + 1) (o + T.length)) := Lib.hid (by
                    have := HR.out.next hlt' (by rw [← HT.out]; exact HT0.out) (by rw [← HT.out, ← HO.out]; omega) (by rw [← HO.out]; omega) ht1
                    rwa [← HT.out, ← HO.out] at this)
                  go_wp2_with fail
                  go_roundw
                  case rel => exact ⟨k + 1, o + T.length, by omega, by go_num, rfl, HB.out.alloc (by omega) _, HN1.out⟩
                  case measure => simp [intOf]; omega
        · have HF := Lib.hid (HR.out.fin (by rw [← HN.out]; omega))
          go_wp2_with fail
          go_ret
          exact ⟨by rw [HV.out, HF.out]; rfl, ((Below.refl _ w).alloc (Nat.le_refl _) _).trans (HB.out.mono (by omega))⟩
    · have HV := Lib.hid (vParts_bad hn1 hb)
      have key : (id < 0 ∨ 1099511627776 < id) ∨ (tot < 0 ∨ 1048576 < tot) := by omega
      clear hb hn0
      go_enter Try.func17, Try.ntmps17
      go_wp2_with fail
      all_goals first
        | (exfalso; omega)
        | (go_ret; exact ⟨by rw [HV.out]; rfl, (Below.refl _ w).alloc (Nat.le_refl _) _⟩)

theorem great_no (kind id off tot : Int) (a : Option Addr) (nd cd : Nat) (s : ByteArray) (w : World) (h1 : (nd : Int) ≤ 10) (h2 : (s.size : Int) ≤ 100) :
    Calls Try.prog 16 #[.agg #[.int .i64 kind, .int .i64 id, .int .i64 off, .int .i64 tot, .slice a nd cd, .string s]] w fun e w' => e = .returned (.bool false) ∧ Below w.heap.size w w' := by
  go_enter Try.func16, Try.ntmps16
  go_wp2_with fail
  go_ret
  exact ⟨ret_bool (by simp; omega), (Below.refl _ w).alloc (Nat.le_refl _) _⟩
theorem great_yes (kind id off tot : Int) (a : Option Addr) (nd cd : Nat) (s : ByteArray) (w : World) (h : (10 : Int) < nd ∨ (100 : Int) < s.size) :
    Calls Try.prog 16 #[.agg #[.int .i64 kind, .int .i64 id, .int .i64 off, .int .i64 tot, .slice a nd cd, .string s]] w fun e w' => e = .returned (.bool true) ∧ Below w.heap.size w w' := by
  by_cases h1 : (10 : Int) < nd
  · clear h
    go_enter Try.func16, Try.ntmps16
    go_wp2_with fail
    go_ret
    exact ⟨rfl, (Below.refl _ w).alloc (Nat.le_refl _) _⟩
  · have h2 : (100 : Int) < s.size := by omega
    clear h
    go_enter Try.func16, Try.ntmps16
    go_wp2_with fail
    go_ret
    exact ⟨rfl, (Below.refl _ w).alloc (Nat.le_refl _) _⟩

/-- Whether parts are great. -/
def gpB (ps : List P) : Bool := decide (20 < ps.length) || ps.any fun p => decide (100 < p.2.length)

set_option maxHeartbeats 1000000 in
theorem greatParts_any (id tot : Int) (a : Option Addr) (ps : List P) (c : Nat) (w : World) (hps : Pcs w.heap.size w a ps) :
    Calls Try.prog 15 #[.agg #[.int .i64 id, .int .i64 tot, .slice a ps.length c]] w fun e w' => e = .returned (.bool (gpB ps)) ∧ Below w.heap.size w w' := by
  have HPS := Lib.hid hps
  obtain ⟨R, hR⟩ : ∃ R, R = gpB ps := ⟨_, rfl⟩
  rw [← hR]
  obtain ⟨n, hnn⟩ : ∃ n, n = ps.length := ⟨_, rfl⟩
  have HN := Lib.hid hnn
  have HR := Lib.hid hR
  rw [← hnn]
  clear hnn hps hR
  by_cases h20 : (20 : Int) < n
  · have HV : Hid (R = true) := Lib.hid (by
      rw [HR.out, gpB, decide_eq_true (by rw [← HN.out]; omega), Bool.true_or])
    go_enter Try.func15, Try.ntmps15
    go_wp2_with fail
    go_ret
    exact ⟨by rw [HV.out]; rfl, (Below.refl _ w).alloc (Nat.le_refl _) _⟩
  · have hn : (n : Int) ≤ 20 := by omega
    have HV : Hid (R = ps.any fun p => decide (100 < p.2.length)) := Lib.hid (by
      rw [HR.out, gpB, decide_eq_false (by rw [← HN.out]; omega), Bool.false_or])
    clear h20
    go_enter Try.func15, Try.ntmps15
    go_wp2_with fail
    go_loop [3] (fun i => ∃ k : Nat, k ≤ n ∧ i = .int .i64 k ∧ Hid (∀ i (h : i < ps.length), i < k → ps[i].2.length ≤ 100)) (fun i => n - (intOf i).toNat)
    case atStart => exact ⟨0, by omega, rfl, Lib.hid (fun i _ h => by omega)⟩
    case round =>
      obtain ⟨k, hk, rfl, HK⟩ := hrel
      by_cases hlt : k < n
      · have hlt' : k < ps.length := by rw [← HN.out]; exact hlt
        obtain ⟨b, off, rfl, hbl, hc, hd⟩ := (HPS.out.below ((Below.refl _ w).alloc (Nat.le_refl _) (.cells #[.int .i64 id, .int .i64 tot, .slice a n c] 31)) (Nat.le_refl _)) k hlt'
        obtain ⟨T, hT⟩ : ∃ T, T = ps[k].2 := ⟨_, rfl⟩
        rw [← hT] at hd
        have HT := Lib.hid hT
        clear hT hc
        by_cases h1 : (100 : Int) < T.length
        · have HF : Hid (R = true) := Lib.hid (by
            rw [HV.out, List.any_eq_true]
            exact ⟨ps[k], List.getElem_mem hlt', by rw [← HT.out]; simp; omega⟩)
          go_wp2_with fail
          go_ret
          exact ⟨by rw [HF.out]; rfl, (Below.refl _ w).alloc (Nat.le_refl _) _⟩
        · go_wp2_with fail
          go_round
          case rel => exact ⟨k + 1, by omega, by go_num, Lib.hid (fun i h hi => by
            by_cases he : i = k
            · subst he; rw [← HT.out]; omega
            · exact HK.out i h (by omega))⟩
          case measure => simp [intOf]; omega
      · have HF : Hid (R = false) := Lib.hid (by
          rw [HV.out, List.any_eq_false]
          intro p hp
          obtain ⟨i, hi, rfl⟩ := List.getElem_of_mem hp
          have := HK.out i hi (by rw [← HN.out] at hi; omega)
          simp; omega)
        go_wp2_with fail
        go_ret
        exact ⟨by rw [HF.out]; rfl, (Below.refl _ w).alloc (Nat.le_refl _) _⟩

set_option maxHeartbeats 1000000 in
theorem sameParts_eq (id tot : Int) (a b : Option Addr) (ps : List P) (ca cb : Nat) (w : World) (ha : Pcs w.heap.size w a ps) (hb : Pcs w.heap.size w b ps) (hn : (ps.length : Int) ≤ 140737488355328) :
    Calls Try.prog 25 #[.agg #[.int .i64 id, .int .i64 tot, .slice a ps.length ca], .agg #[.int .i64 id, .int .i64 tot, .slice b ps.length cb]] w fun e w' => e = .returned (.bool true) ∧ Below w.heap.size w w' := by
  have HA := Lib.hid ha
  have HB := Lib.hid hb
  obtain ⟨n, hnn⟩ : ∃ n, n = ps.length := ⟨_, rfl⟩
  have HN := Lib.hid hnn
  rw [← hnn] at hn ⊢
  clear hnn ha hb
  go_enter Try.func25, Try.ntmps25
  go_wp2_with fail
  obtain ⟨y, hy⟩ : ∃ y, y = (w.alloc (.cells #[.int .i64 id, .int .i64 tot, .slice a n ca] 31)).alloc (.cells #[.int .i64 id, .int .i64 tot, .slice b n cb] 31) := ⟨_, rfl⟩
  have HY : Hid (Below w.heap.size w y) := Lib.hid (by rw [hy]; exact ((Below.refl _ w).alloc (Nat.le_refl _) _).alloc (by simp) _)
  have s1 : y.cell? ⟨w.heap.size, 2, none⟩ = some (.slice a n ca) := by rw [hy]; simp [go_sem]
  have s2 : y.cell? ⟨w.heap.size + 1, 2, none⟩ = some (.slice b n cb) := by rw [hy]; simp [go_sem]
  rw [← hy]
  clear hy
  go_loopw [5] (fun i wr => ∃ k q : Nat, k ≤ n ∧ i = .int .i64 k ∧ wr = y.drewN q) (fun i _ => n - (intOf i).toNat)
  case atStart => exact ⟨0, 0, by omega, rfl, rfl⟩
  case round =>
    obtain ⟨k, q, hk, rfl, rfl⟩ := hrel
    by_cases hlt : k < n
    · have hlt' : k < ps.length := by rw [← HN.out]; exact hlt
      obtain ⟨b1, o1, rfl, _, c1, d1⟩ := (HA.out.below HY.out (Nat.le_refl _)) k hlt'
      obtain ⟨b2, o2, rfl, _, c2, d2⟩ := (HB.out.below HY.out (Nat.le_refl _)) k hlt'
      obtain ⟨⟨o, T⟩, hp⟩ : ∃ p, p = ps[k] := ⟨_, rfl⟩
      rw [← hp] at c1 d1 c2 d2
      clear hp
      go_wp2_with fail
      go_quiet (fail)
      go_wp2_with fail
      go_roundw
      case rel => exact ⟨k + 1, _, by omega, by go_num, by first | rfl | (simp only [World.drewN_drewN]; rfl)⟩
      case measure => simp [intOf]; omega
    · go_wp2_with fail
      go_ret
      exact ⟨rfl, below_drewN HY.out _⟩

end Go.Proofs.Ytlijaacjfnjmjaa
