/- What Scan computes, in plain terms. -/
import Derived.Test.YtlijaacjfnjmjaaWireDc
namespace Go.Proofs.Ytlijaacjfnjmjaa

theorem wrap_u64 (n : Int) : IntKind.u64.wrap n = n % 18446744073709551616 := by
  simp [IntKind.wrap, IntKind.bits, IntKind.signed]
theorem fstep_eq (x : Int) (c : UInt8) : fstep x c = (x * 256) % 18446744073709551616 + c.toNat := by
  have hc := c.toNat_lt
  have hc' : (c.toNat : Int) % 18446744073709551616 = c.toNat := by omega
  unfold fstep bits
  simp only [wrap_u64, hc']
  obtain ⟨q, hq⟩ : ∃ q : Nat, (x * 256) % 18446744073709551616 = ((q * 256 : Nat) : Int) := ⟨((x * 256) % 18446744073709551616 / 256).toNat, by omega⟩
  have hq2 : q * 256 < 18446744073709551616 := by omega
  rw [hq]
  have e1 : (BitVec.ofInt IntKind.u64.bits ((q * 256 : Nat) : Int)).toNat = q * 256 := by
    simp only [IntKind.bits, BitVec.ofInt_natCast, BitVec.toNat_ofNat]
    exact Nat.mod_eq_of_lt hq2
  have e2 : (BitVec.ofInt IntKind.u64.bits ((c.toNat : Nat) : Int)).toNat = c.toNat := by
    simp only [IntKind.bits, BitVec.ofInt_natCast, BitVec.toNat_ofNat]
    exact Nat.mod_eq_of_lt (by omega)
  rw [BitVec.toNat_or, e1, e2]
  have e3 : q * 256 ||| c.toNat = q * 256 + c.toNat := by
    have := Nat.shiftLeft_add_eq_or_of_lt (i := 8) (b := c.toNat) (by omega) q
    rw [Nat.shiftLeft_eq] at this
    exact this.symm
  rw [e3]
  omega

/-- The number whose bytes are given, as a natural number. -/
def fixN (l : List UInt8) : Nat := l.foldl (fun n c => n * 256 + c.toNat) 0
theorem fix_go (l : List UInt8) : ∀ (n : Nat), (n + 1) * 256 ^ l.length ≤ 18446744073709551616 → l.foldl fstep (n : Int) = ((l.foldl (fun n c => n * 256 + c.toNat) n : Nat) : Int) := by
  induction l with
  | nil => intro n _; rfl
  | cons c l ih =>
    intro n h
    have hc := c.toNat_lt
    rw [List.length_cons, Nat.pow_succ] at h
    have hp : 1 ≤ 256 ^ l.length := Nat.one_le_pow _ _ (by omega)
    have h2 : (n * 256 + c.toNat + 1) * 256 ^ l.length ≤ 18446744073709551616 := by
      refine Nat.le_trans (Nat.mul_le_mul_right _ (show n * 256 + c.toNat + 1 ≤ (n + 1) * 256 by omega)) ?_
      rw [Nat.mul_assoc, Nat.mul_comm 256]; exact h
    have h3 : n * 256 + c.toNat + 1 ≤ 18446744073709551616 := Nat.le_trans (Nat.le_mul_of_pos_right _ hp) h2
    simp only [List.foldl_cons]
    rw [← ih _ h2, fstep_eq]
    congr 1
    rw [Int.emod_eq_of_lt (by omega) (by omega)]
    simp
theorem fix_is (l : List UInt8) (h : l.length ≤ 8) : fixS l = (fixN l : Int) := by
  refine fix_go l 0 ?_
  rw [Nat.zero_add, Nat.one_mul]
  exact Nat.le_trans (Nat.pow_le_pow_right (by omega) h) (by decide)
theorem fixN_go (l : List UInt8) : ∀ n : Nat, l.foldl (fun n c => n * 256 + c.toNat) n < (n + 1) * 256 ^ l.length := by
  induction l with
  | nil => intro n; simp
  | cons c l ih =>
    intro n
    have hc := c.toNat_lt
    rw [List.foldl_cons, List.length_cons, Nat.pow_succ]
    refine Nat.lt_of_lt_of_le (ih _) ?_
    rw [Nat.mul_comm (256 ^ l.length), ← Nat.mul_assoc]
    exact Nat.mul_le_mul_right _ (by omega)
theorem fixN_lt (l : List UInt8) : fixN l < 256 ^ l.length := by
  have := fixN_go l 0
  rwa [Nat.zero_add, Nat.one_mul] at this
theorem fixN_lt4 (l : List UInt8) (h : l.length ≤ 4) : fixN l < 4294967296 :=
  Nat.lt_of_lt_of_le (fixN_lt l) (Nat.le_trans (Nat.pow_le_pow_right (by omega) h) (by decide))

/-- The frame at the beginning of a stream: its message, and its bytes. -/
def frameS (s : List UInt8) : Option (Msg × Nat) :=
  if s.length < 12 then none
  else if s.length - 12 < fixN (s.take 4) then none
  else if (digS ((s.drop 12).take (fixN (s.take 4)))).1 ≠ fixS ((s.drop 4).take 8) then none
  else (decS ((s.drop 12).take (fixN (s.take 4)))).map fun m => (m, 12 + fixN (s.take 4))
theorem frameS_len {s : List UInt8} {m : Msg} {u : Nat} (h : frameS s = some (m, u)) : 12 ≤ u ∧ u ≤ s.length := by
  unfold frameS at h
  split at h
  · simp at h
  · split at h
    · simp at h
    · split at h
      · simp at h
      · simp only [Option.map_eq_some_iff, Prod.mk.injEq] at h
        obtain ⟨m', _, _, rfl⟩ := h
        omega
/-- A frame hangs on its own bytes alone. -/
theorem frameS_take {s : List UInt8} {k : Nat} {m : Msg} {u : Nat} (h : frameS (s.take k) = some (m, u)) : frameS s = some (m, u) := by
  have hl := frameS_len h
  rw [List.length_take] at hl
  unfold frameS at h ⊢
  rw [List.length_take] at h
  have h12 : 12 ≤ k := by omega
  have e4 : (s.take k).take 4 = s.take 4 := by rw [List.take_take, Nat.min_eq_left (by omega)]
  have e8 : ((s.take k).drop 4).take 8 = (s.drop 4).take 8 := by rw [List.drop_take, List.take_take, Nat.min_eq_left (by omega)]
  rw [e4, e8] at h
  rw [if_neg (by omega)] at h
  rw [if_neg (by omega)]
  by_cases h2 : min k s.length - 12 < fixN (s.take 4)
  · rw [if_pos h2] at h; simp at h
  · rw [if_neg h2] at h
    have e : ((s.take k).drop 12).take (fixN (s.take 4)) = (s.drop 12).take (fixN (s.take 4)) := by
      rw [List.drop_take, List.take_take, Nat.min_eq_left (by omega)]
    rw [e] at h
    rw [if_neg (by omega)]
    exact h
theorem frameS_append {s t : List UInt8} {m : Msg} {u : Nat} (h : frameS s = some (m, u)) : frameS (s ++ t) = some (m, u) := by
  refine frameS_take (k := s.length) ?_
  rw [List.take_left]; exact h

/-- The messages at the beginning of a stream, and the bytes that were used. -/
inductive Scans : List UInt8 → List Msg → Nat → Prop
  | stop {s : List UInt8} (h : frameS s = none) : Scans s [] 0
  | step {s : List UInt8} {m : Msg} {u : Nat} {l : List Msg} {n : Nat} (h : frameS s = some (m, u)) (r : Scans (s.drop u) l n) : Scans s (m :: l) (u + n)
theorem Scans.total : ∀ (k : Nat) (s : List UInt8), s.length ≤ k → ∃ l n, Scans s l n
  | 0, s, h => by
    refine ⟨[], 0, .stop ?_⟩
    unfold frameS
    rw [if_pos (by omega)]
  | k + 1, s, h => by
    cases hf : frameS s with
    | none => exact ⟨[], 0, .stop hf⟩
    | some x =>
      obtain ⟨m, u⟩ := x
      have := frameS_len hf
      obtain ⟨l, n, hr⟩ := Scans.total k (s.drop u) (by rw [List.length_drop]; omega)
      exact ⟨m :: l, u + n, .step hf hr⟩
theorem Scans.one {s : List UInt8} {l l' : List Msg} {n n' : Nat} (h : Scans s l n) (h' : Scans s l' n') : l = l' ∧ n = n' := by
  induction h generalizing l' n' with
  | stop h =>
    cases h' with
    | stop _ => exact ⟨rfl, rfl⟩
    | step g _ => rw [h] at g; cases g
  | step h r ih =>
    cases h' with
    | stop g => rw [h] at g; cases g
    | step g r' =>
      rw [h] at g; cases g
      obtain ⟨rfl, rfl⟩ := ih r'
      exact ⟨rfl, rfl⟩
theorem Scans.le {s : List UInt8} {l : List Msg} {n : Nat} (h : Scans s l n) : n ≤ s.length ∧ l.length * 12 ≤ n := by
  induction h with
  | stop h => simp
  | step h r ih =>
    have := frameS_len h
    rw [List.length_drop] at ih
    rw [List.length_cons]
    omega
/-- Of a beginning. -/
theorem Scans.torn {t s : List UInt8} {k : Nat} {l l' : List Msg} {n n' : Nat} (ht : t = s.take k) (h : Scans t l n) (h' : Scans s l' n') : (∃ r, l' = l ++ r) ∧ n ≤ n' := by
  induction h generalizing s k l' n' with
  | stop h => exact ⟨⟨l', rfl⟩, Nat.zero_le _⟩
  | @step t m u l n h r ih =>
    subst ht
    have hf := frameS_take h
    have hu := frameS_len h
    rw [List.length_take] at hu
    cases h' with
    | stop g => rw [hf] at g; cases g
    | step g r' =>
      rw [hf] at g; cases g
      obtain ⟨⟨r1, hr1⟩, hn⟩ := ih (k := k - u) (by rw [List.drop_take]) r'
      exact ⟨⟨r1, by rw [hr1]; rfl⟩, by omega⟩
/-- Nothing is left. -/
theorem Scans.rest {s : List UInt8} {l : List Msg} {n : Nat} (h : Scans s l n) : Scans (s.drop n) [] 0 := by
  induction h with
  | stop h => exact .stop (by rw [List.drop_zero]; exact h)
  | step h r ih => rw [List.drop_drop] at ih; exact ih

/-- The relation of Scan's loop. -/
def SR (s : List UInt8) (at_ : Nat) (acc : List Msg) : Prop := ∀ l n, Scans (s.drop at_) l n → Scans s (acc ++ l) (at_ + n)
theorem SR.start (s : List UInt8) : SR s 0 [] := fun l n h => by
  rw [List.drop_zero] at h
  simpa using h
theorem SR.next {s : List UInt8} {at_ : Nat} {acc : List Msg} (h : SR s at_ acc) {m : Msg} {u : Nat} (hf : frameS (s.drop at_) = some (m, u)) : SR s (at_ + u) (acc ++ [m]) := fun l n hs => by
  have := h (m :: l) (u + n) (.step hf (by rw [List.drop_drop]; exact hs))
  rw [List.append_assoc, Nat.add_assoc]
  exact this
theorem SR.fin {s : List UInt8} {at_ : Nat} {acc : List Msg} (h : SR s at_ acc) (hf : frameS (s.drop at_) = none) : Scans s acc at_ := by
  have := h [] 0 (.stop hf)
  simpa using this

end Go.Proofs.Ytlijaacjfnjmjaa
