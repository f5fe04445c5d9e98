/- Plain laws of numbers as bytes: what was put can be got again; what can be got was put; a proper beginning is too short. -/
import Derived.Test.YtlfodnehgedpmaaPlain
namespace Go.Proofs.Ytlfodnehgedpmaa.Cw

theorem toNat_ofNat (n : Nat) (h : n < 256) : (UInt8.ofNat n).toNat = n := by simp; omega

theorem encF_lo {f n : Nat} (h : n < 128) : encF (f + 1) n = [UInt8.ofNat n] := if_pos h
theorem encF_hi {f n : Nat} (h : 128 ≤ n) : encF (f + 1) n = UInt8.ofNat (n % 128 + 128) :: encF f (n / 128) := if_neg (by omega)

theorem getGo_enc : ∀ (g f i m : Nat) (a u : Int) (rest : List UInt8), m < 128 ^ g → m < 128 ^ f → 1 ≤ g → 1 ≤ f → (i = 0 ∨ 1 ≤ m) → 0 ≤ u → a + m * u ≤ 1099511627776 →
    getGo f i a u (encF g m ++ rest) = (a + m * u, (i : Int) + (encF g m).length, 0)
  | 0, _, _, _, _, _, _, _, _, h, _, _, _, _ => by omega
  | _ + 1, 0, _, _, _, _, _, _, _, _, h, _, _, _ => by omega
  | g + 1, f + 1, i, m, a, u, rest, hg, hf, _, _, hi, hu, hm => by
    by_cases h : m < 128
    · rw [encF_lo h, List.cons_append, List.nil_append, getGo, toNat_ofNat m (by omega), if_neg (by omega), if_neg]
      · simp
      · rintro (⟨h1, h2⟩ | h2) <;> omega
    · have h' : 128 ≤ m := by omega
      rw [encF_hi h', List.cons_append, getGo, toNat_ofNat _ (by omega), if_pos (by omega)]
      have e : a + ((m % 128 + 128 : Nat) - 128 : Int) * u + ((m / 128 : Nat) : Int) * (u * 128) = a + m * u := by
        have h1 : ((m % 128 + 128 : Nat) - 128 : Int) = ((m % 128 : Nat) : Int) := by omega
        have h2 : ((m : Nat) : Int) = ((m % 128 : Nat) : Int) + 128 * ((m / 128 : Nat) : Int) := by omega
        rw [h1]
        conv => rhs; rw [h2]
        rw [Int.add_mul, Int.mul_comm u 128, ← Int.mul_assoc, Int.mul_comm (m / 128 : Nat) 128]
        omega
      have hg' : 1 ≤ g := by
        rcases Nat.eq_zero_or_pos g with h0 | h0
        · subst h0; simp at hg; omega
        · exact h0
      have hf' : 1 ≤ f := by
        rcases Nat.eq_zero_or_pos f with h0 | h0
        · subst h0; simp at hf; omega
        · exact h0
      rw [getGo_enc g f (i + 1) (m / 128) _ (u * 128) rest (by rw [Nat.pow_succ] at hg; exact Nat.div_lt_of_lt_mul (by rw [Nat.mul_comm]; exact hg)) (by rw [Nat.pow_succ] at hf; exact Nat.div_lt_of_lt_mul (by rw [Nat.mul_comm]; exact hf)) hg' hf' (.inr (by omega)) (by omega) (by rw [e]; exact hm), e]
      simp only [List.length_cons]
      congr 2; omega

theorem getI_enc (n : Nat) (h : n ≤ 1099511627776) (rest : List UInt8) : getI (enc n ++ rest) = ((n : Int), ((enc n).length : Int), 0) := by
  have := getGo_enc 10 6 0 n 0 1 rest (by have : (128 : Nat) ^ 10 = 1180591620717411303424 := by decide
                                          omega) (by have : (128 : Nat) ^ 6 = 4398046511104 := by decide
                                                     omega) (by omega) (by omega) (.inl rfl) (by omega) (by omega)
  unfold getI enc
  rw [this]; simp

theorem getGo_short : ∀ (g f i m j : Nat) (a u : Int), m < 128 ^ g → m < 128 ^ f → 1 ≤ g → 1 ≤ f → j < (encF g m).length → getGo f i a u ((encF g m).take j) = (0, 0, 12)
  | 0, _, _, _, _, _, _, _, _, h, _, _ => by omega
  | _ + 1, 0, _, _, _, _, _, _, _, _, h, _ => by omega
  | g + 1, f + 1, i, m, j, a, u, hg, hf, _, _, hj => by
    cases j with
    | zero => rfl
    | succ j =>
      by_cases h : m < 128
      · rw [encF_lo h] at hj; simp at hj
      · have h' : 128 ≤ m := by omega
        rw [encF_hi h'] at hj ⊢
        rw [List.take_succ_cons, getGo, toNat_ofNat _ (by omega), if_pos (by omega)]
        have hg' : 1 ≤ g := by
          rcases Nat.eq_zero_or_pos g with h0 | h0
          · subst h0; simp at hg; omega
          · exact h0
        have hf' : 1 ≤ f := by
          rcases Nat.eq_zero_or_pos f with h0 | h0
          · subst h0; simp at hf; omega
          · exact h0
        exact getGo_short g f (i + 1) (m / 128) j _ _ (by rw [Nat.pow_succ] at hg; exact Nat.div_lt_of_lt_mul (by rw [Nat.mul_comm]; exact hg)) (by rw [Nat.pow_succ] at hf; exact Nat.div_lt_of_lt_mul (by rw [Nat.mul_comm]; exact hf)) hg' hf' (by simpa using hj)

theorem getI_short (n j : Nat) (h : n ≤ 1099511627776) (hj : j < (enc n).length) : getI ((enc n).take j) = (0, 0, 12) :=
  getGo_short 10 6 0 n j 0 1 (by have : (128 : Nat) ^ 10 = 1180591620717411303424 := by decide
                                 omega) (by have : (128 : Nat) ^ 6 = 4398046511104 := by decide
                                            omega) (by omega) (by omega) hj

theorem encF_fuel : ∀ (f g n : Nat), n < 128 ^ f → 1 ≤ f → f ≤ g → encF g n = encF f n
  | 0, _, _, _, h, _ => by omega
  | _ + 1, 0, _, _, _, h => by omega
  | f + 1, g + 1, n, hf, _, hg => by
    by_cases h : n < 128
    · rw [encF_lo h, encF_lo h]
    · have hf' : 1 ≤ f := by
        rcases Nat.eq_zero_or_pos f with h0 | h0
        · subst h0; simp at hf; omega
        · exact h0
      rw [encF_hi (by omega), encF_hi (by omega), encF_fuel f g (n / 128) (by rw [Nat.pow_succ] at hf; exact Nat.div_lt_of_lt_mul (by rw [Nat.mul_comm]; exact hf)) hf' (by omega)]

theorem ofNat_toNat (c : UInt8) : UInt8.ofNat c.toNat = c := by simp

theorem getGo_canon : ∀ (f i : Nat) (a u x k : Int) (l : List UInt8), getGo f i a u l = (x, k, 0) →
    ∃ m : Nat, x = a + m * u ∧ (0 < i → 1 ≤ m) ∧ m < 128 ^ f ∧ 1 ≤ f ∧ k = (i : Int) + (encF f m).length ∧ l.take (encF f m).length = encF f m
  | 0, _, _, _, _, _, _, h => by simp [getGo] at h
  | _ + 1, _, _, _, _, _, [], h => by simp [getGo] at h
  | f + 1, i, a, u, x, k, c :: r, h => by
    rw [getGo] at h
    by_cases hc : 128 ≤ c.toNat
    · rw [if_pos hc] at h
      obtain ⟨m, hx, h1, hm, hf, hk, hl⟩ := getGo_canon f (i + 1) _ _ x k r h
      have h1' := h1 (by omega)
      have hcl := c.toNat_lt
      have hmod : (c.toNat - 128 + 128 * m) % 128 = c.toNat - 128 := by omega
      have hdiv : (c.toNat - 128 + 128 * m) / 128 = m := by omega
      have he : encF (f + 1) (c.toNat - 128 + 128 * m) = c :: encF f m := by
        rw [encF_hi (by omega), hmod, hdiv, show c.toNat - 128 + 128 = c.toNat from by omega, ofNat_toNat]
      refine ⟨c.toNat - 128 + 128 * m, ?_, fun _ => by omega, ?_, by omega, ?_, ?_⟩
      · rw [hx]
        have h2 : ((c.toNat - 128 + 128 * m : Nat) : Int) = ((c.toNat : Int) - 128) + 128 * (m : Int) := by omega
        rw [h2, Int.add_mul, Int.mul_comm u 128, ← Int.mul_assoc, Int.mul_comm (m : Int) 128]; omega
      · rw [Nat.pow_succ]; omega
      · rw [he, hk, List.length_cons]; omega
      · rw [he, List.length_cons, List.take_succ_cons, hl]
    · rw [if_neg hc] at h
      by_cases hx : (c.toNat = 0 ∧ 0 < i) ∨ 1099511627776 < a + (c.toNat : Int) * u
      · rw [if_pos hx] at h; simp at h
      · rw [if_neg hx] at h
        have he : encF (f + 1) c.toNat = [c] := by rw [encF_lo (by omega), ofNat_toNat]
        simp only [Prod.mk.injEq, and_true] at h
        refine ⟨c.toNat, h.1.symm, fun hi => ?_, ?_, by omega, ?_, ?_⟩
        · rcases Nat.eq_zero_or_pos c.toNat with h0 | h0
          · exact absurd (.inl ⟨h0, hi⟩) hx
          · exact h0
        · rw [Nat.pow_succ]
          have : 1 ≤ 128 ^ f := Nat.one_le_pow _ _ (by omega)
          omega
        · rw [he]; simp; omega
        · rw [he]; simp

/-- What can be got has exactly the encoding that was read. -/
theorem getI_canon {l : List UInt8} {n k : Int} (h : getI l = (n, k, 0)) : 0 ≤ n ∧ k = ((enc n.toNat).length : Int) ∧ l.take (enc n.toNat).length = enc n.toNat := by
  obtain ⟨m, hx, _, hm, hf, hk, hl⟩ := getGo_canon 6 0 0 1 n k l h
  have hn : n = (m : Int) := by omega
  subst hn
  have he : enc ((m : Int)).toNat = encF 6 m := by unfold enc; rw [Int.toNat_natCast]; exact encF_fuel 6 10 m hm (by omega) (by omega)
  rw [he]
  exact ⟨by omega, by omega, hl⟩

end Go.Proofs.Ytlfodnehgedpmaa.Cw
