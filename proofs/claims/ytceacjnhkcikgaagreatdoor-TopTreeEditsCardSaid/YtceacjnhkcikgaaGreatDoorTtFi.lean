/- tree.find. -/
import Derived.Test.YtceacjnhkcikgaaGreatDoorTtCu
namespace Go.Proofs.YtceacjnhkcikgaaGreatDoor
open Go.RowKit Go.Shelf
set_option linter.unusedVariables false

abbrev cmpS (a b : Pa) : Int := Lib.compareBytes a b
theorem cmpS_lt : ∀ a b : Pa, (cmpS a b < 0 ↔ ltS a b) ∧ (cmpS a b = 0 ↔ a = b)
  | [], [] => by simp [cmpS, Lib.compareBytes, ltS, Op.bytesLess]
  | [], _ :: _ => by simp [cmpS, Lib.compareBytes, ltS, Op.bytesLess]
  | _ :: _, [] => by simp [cmpS, Lib.compareBytes, ltS, Op.bytesLess]
  | x :: a, y :: b => by
    obtain ⟨h1, h2⟩ := cmpS_lt a b
    unfold ltS cmpS at *
    rw [Lib.compareBytes, Op.bytesLess]
    by_cases g1 : x < y
    · have g2 : x ≠ y := fun e => by subst e; exact absurd g1 (UInt8.lt_irrefl x)
      simp [g1, g2]
    · by_cases g2 : y < x
      · have g3 : x ≠ y := fun e => by subst e; exact absurd g2 (UInt8.lt_irrefl x)
        simp [g1, g2, g3]
      · have g3 : x = y := UInt8.le_antisymm (UInt8.not_lt.1 g2) (UInt8.not_lt.1 g1)
        subst g3
        rw [if_neg g1, if_neg g1]
        refine ⟨?_, ?_⟩
        · rw [h1]; simp [g1]
        · rw [h2]; simp
theorem fcmp_any (x : Fl) (s : Pa) (w : World) : Calls Tryz.prog 40 #[.agg #[.string ⟨x.path.toArray⟩, .string ⟨x.data.toArray⟩], .string ⟨s.toArray⟩] w fun e w' => e = .returned (.int .i64 (cmpS x.path s)) ∧ Below w.heap.size w w' := by
  obtain ⟨P, D⟩ := x
  have H : Hid (∀ W, Calls Tryz.prog 28 #[.string ⟨P.toArray⟩, .string ⟨s.toArray⟩] W fun e w' => e = .returned (.int .i64 (cmpS P s)) ∧ w' = W) := Lib.hid (fun W => Any.strings_Compare Tryz.compareS ⟨P.toArray⟩ ⟨s.toArray⟩ W)
  obtain ⟨c0, c1⟩ := (BK.new w #[.string ⟨P.toArray⟩, .string ⟨D.toArray⟩] 43).c2
  simp only
  go_enter Tryz.func40, Tryz.ntmps40
  go_wp2_with fail
  (with_reducible refine (H.out _).mono ?_)
  rintro e w' ⟨rfl, rfl⟩
  go_wp2_with fail
  go_ret
  exact ⟨rfl, (Below.refl _ w).alloc (Nat.le_refl _) _⟩
/-- Where a path lies or would lie. -/
structure AtF (l : List Fl) (s : Pa) (k : Nat) : Prop where
  le : k ≤ l.length
  lo : ∀ j (h : j < l.length), j < k → ltS l[j].path s
  hi : ∀ j (h : j < l.length), k ≤ j → ¬ ltS l[j].path s
def hitF (l : List Fl) (s : Pa) (k : Nat) : Bool := match l[k]? with | some x => decide (x.path = s) | none => false
def BSF (l : List Fl) (s : Pa) (i j : Nat) : Prop := (∀ k (h : k < l.length), k < i → ltS l[k].path s) ∧ ∀ k (h : k < l.length), j ≤ k → ¬ ltS l[k].path s
theorem ascF_at {l : List Fl} (h : AscF l) {i j : Nat} (hi : i < l.length) (hj : j < l.length) (hij : i < j) : ltS l[i].path l[j].path := List.pairwise_iff_getElem.1 h i j hi hj hij
theorem BSF.left {l : List Fl} {s : Pa} {i j h : Nat} (hb : BSF l s i j) (ha : AscF l) (hh : h < l.length) (hc : ltS l[h].path s) : BSF l s (h + 1) j := by
  refine ⟨fun k hk hlt => ?_, hb.2⟩
  rcases Nat.lt_or_ge k h with h1 | h1
  · exact ltS_trans (ascF_at ha hk hh h1) hc
  · obtain rfl : k = h := by omega
    exact hc
theorem BSF.right {l : List Fl} {s : Pa} {i j h : Nat} (hb : BSF l s i j) (ha : AscF l) (hh : h < l.length) (hc : ¬ ltS l[h].path s) : BSF l s i h := by
  refine ⟨hb.1, fun k hk hlt hx => ?_⟩
  rcases Nat.lt_or_ge h k with h1 | h1
  · exact hc (ltS_trans (ascF_at ha hh hk h1) hx)
  · obtain rfl : k = h := by omega
    exact hc hx
def GotFF (w : World) (l : List Fl) (s : Pa) (e : Ending) (w' : World) : Prop := ∃ k : Nat, e = .returned (.tuple #[.int .i64 k, .bool (hitF l s k)]) ∧ AtF l s k ∧ Below w.heap.size w w'
set_option maxRecDepth 100000 in
set_option maxHeartbeats 4000000 in
theorem fbsearch_any (a : Option Addr) (l : List Fl) (c : Nat) (s : Pa) (w : World) (hl : Fls w.heap.size w a l) (ha : AscF l) (hn : (l.length : Int) ≤ 1000000) :
    Calls Tryz.prog 39 #[.slice a l.length c, .string ⟨s.toArray⟩, .func (.func 40) #[] #[]] w (GotFF w l s) := by
  have HL := Lib.hid hl
  have HA := Lib.hid ha
  obtain ⟨n, hnn⟩ : ∃ n, n = l.length := ⟨_, rfl⟩
  have HN := Lib.hid hnn
  rw [← hnn] at hn ⊢
  have HS : Hid (BSF l s 0 n) := Lib.hid (by rw [hnn]; exact ⟨fun k h hk => by omega, fun k h hk => by omega⟩)
  clear hl ha hnn
  go_enter Tryz.func39, Tryz.ntmps39
  go_wp2_with fail
  go_loopw [9, 10] (fun i j wr => ∃ (ki kj : Nat), i = .int .i64 ki ∧ j = .int .i64 kj ∧ ki ≤ kj ∧ kj ≤ n ∧ Hid (BSF l s ki kj) ∧ Hid (Below w.heap.size w wr)) (fun i j _ => (intOf j).toNat - (intOf i).toNat)
  case atStart => exact ⟨0, n, rfl, rfl, by omega, by omega, HS, Lib.hid (Below.refl _ _)⟩
  case round =>
    clear HS
    obtain ⟨ki, kj, rfl, rfl, hij, hjn, HB, HW⟩ := hrel
    have hws := HW.out.size
    by_cases hlt : ki < kj
    · obtain ⟨h, hh⟩ : ∃ h, h = (ki + kj) / 2 := ⟨_, rfl⟩
      have hh1 : ki ≤ h := by omega
      have hh2 : h < kj := by omega
      have hh3 : h < l.length := by have := HN.out; omega
      have hdv : ((ki : Int) + (kj : Int)) / 2 = (h : Int) := by omega
      have HDV := Lib.hid hdv
      have hhn : (h : Int) < (n : Int) := by have := HN.out; omega
      obtain ⟨b0, o0, haa, hb0, q0, q1⟩ := fl_cells (HL.out.ahead HW.out) hh3
      have HLf := Lib.hid (fun hc => HB.out.left HA.out hh3 hc)
      have HRt := Lib.hid (fun hc => HB.out.right HA.out hh3 hc)
      generalize l[h] = x at q0 q1 HLf HRt
      have HC := Lib.hid (fun W => fcmp_any x s W)
      obtain ⟨P, D⟩ := x
      simp only at q0 q1 HLf HRt HC
      have HLT := Lib.hid (cmpS_lt P s).1
      generalize cmpS P s = cv at HC HLT
      rw [haa]
      clear hdv hh
      go_upto_region 5 with (fail)
      rw [HDV.out]
      go_wp2_with fail
      (with_reducible refine (HC.out _).mono ?_)
      rintro e w2 ⟨rfl, hb⟩
      have HW2 := Lib.hid (HW.out.trans (hb.mono hws))
      clear hb HC
      by_cases hc : cv < 0
      · have HBS := Lib.hid (HLf.out (HLT.out.1 hc))
        have dc : decide (cv < 0) = true := by simpa using hc
        clear HLf HRt HLT
        go_wp2_with fail
        go_roundw
        case rel => exact ⟨h + 1, kj, by go_num, rfl, by omega, by omega, HBS, HW2⟩
        case measure => simp [intOf]; omega
      · have HBS := Lib.hid (HRt.out (fun hx => hc (HLT.out.2 hx)))
        have dc : decide (cv < 0) = false := by simpa using hc
        clear HLf HRt HLT
        go_wp2_with fail
        go_roundw
        case rel => exact ⟨ki, h, rfl, by go_num, by omega, by omega, HBS, HW2⟩
        case measure => simp [intOf]; omega
    · obtain rfl : ki = kj := by omega
      have HAT : Hid (AtF l s ki) := Lib.hid ⟨by have := HN.out; omega, HB.out.1, HB.out.2⟩
      by_cases hkn : ki < n
      · have hh3 : ki < l.length := by have := HN.out; omega
        have g0 : decide ((ki : Int) < (n : Int)) = true := by simp; omega
        have g1 : decide (ki < n) = true := by simp; omega
        obtain ⟨b0, o0, haa, hb0, q0, q1⟩ := fl_cells (HL.out.ahead HW.out) hh3
        have HT : Hid (hitF l s ki = decide (l[ki].path = s)) := Lib.hid (by unfold hitF; rw [List.getElem?_eq_getElem hh3])
        generalize l[ki] = x at q0 q1 HT
        have HC := Lib.hid (fun W => fcmp_any x s W)
        obtain ⟨P, D⟩ := x
        simp only at q0 q1 HT HC
        have HT2 : Hid (hitF l s ki = (cmpS P s == 0)) := Lib.hid (by
          rw [HT.out]
          have := (cmpS_lt P s).2
          by_cases h : P = s
          · rw [decide_eq_true h, this.2 h]; rfl
          · rw [decide_eq_false h]
            symm
            rw [beq_eq_false_iff_ne]
            exact fun h2 => h (this.1 h2))
        generalize cmpS P s = cv at HC HT2
        rw [haa]
        clear HT HA
        go_wp2_with fail
        (with_reducible refine (HC.out _).mono ?_)
        rintro e w2 ⟨rfl, hb⟩
        have HW2 := Lib.hid (HW.out.trans (hb.mono hws))
        clear hb HC
        go_wp2_with fail
        go_ret2
        exact ⟨ki, by rw [HT2.out]; rfl, HAT.out, HW2.out⟩
      · have g0 : decide ((ki : Int) < (n : Int)) = false := by simp; omega
        have g1 : decide (ki < n) = false := by simp; omega
        have HT : Hid (hitF l s ki = false) := Lib.hid (by unfold hitF; rw [List.getElem?_eq_none (by have := HN.out; omega)])
        go_wp2_with fail
        go_ret2
        exact ⟨ki, by rw [HT.out]; rfl, HAT.out, HW.out⟩
set_option maxRecDepth 100000 in
theorem ffind_any (a : Option Addr) (l : List Fl) (c : Nat) (s : Pa) (w : World) (hl : Fls w.heap.size w a l) (ha : AscF l) (hn : (l.length : Int) ≤ 1000000) :
    Calls Tryz.prog 20 #[.slice a l.length c, .string ⟨s.toArray⟩] w (GotFF w l s) := by
  have HC := Lib.hid (fbsearch_any a l c s w hl ha hn)
  clear hl ha
  generalize l.length = n at HC hn ⊢
  go_enter Tryz.func20, Tryz.ntmps20
  go_wp2_with fail
  (with_reducible refine HC.out.mono ?_)
  rintro e w1 ⟨k, rfl, hat, hb⟩
  go_wp2_with fail
  go_ret2
  exact ⟨k, rfl, hat, hb⟩
end Go.Proofs.YtceacjnhkcikgaaGreatDoor
