/- Plain laws of texts and of digests as bytes. -/
import Derived.Test.YtlfodnehgedpmaaPText
import Derived.Test.YtlfodnehgedpmaaPlainLaw
namespace Go.Proofs.Ytlfodnehgedpmaa

theorem getT_canon {l x : List UInt8} {k : Int} (h : Cw.getT l = (x, k, 0)) : 1 ≤ k ∧ k ≤ l.length ∧ x.length ≤ 65536 ∧ l.take k.toNat = Cw.enc x.length ++ x := by
  obtain ⟨n, k', er', hI, hc⟩ := getT_cases l
  rcases hc with ⟨he, hr⟩ | ⟨_, _, hr⟩ | ⟨_, _, _, hr⟩ | ⟨he, hn, hl, hr⟩
  · rw [h] at hr; simp only [Prod.mk.injEq] at hr; exact absurd hr.2.2.symm he
  · rw [h] at hr; simp at hr
  · rw [h] at hr; simp at hr
  · subst he
    have hb := getI_bounds hI
    obtain ⟨hn0, hk, ht⟩ := Cw.getI_canon hI
    rw [h] at hr
    simp only [Prod.mk.injEq, and_true] at hr
    obtain ⟨hx, hkk⟩ := hr
    have hxl : x.length = n.toNat := by rw [hx, List.length_take, List.length_drop]; omega
    refine ⟨by omega, by omega, by omega, ?_⟩
    rw [hkk, show (k' + n).toNat = k'.toNat + n.toNat from by omega, List.take_add, ← hx, hxl]
    congr 1
    rw [hk, Int.toNat_natCast]; exact ht
theorem getT_put {x : List UInt8} (h : x.length ≤ 65536) (rest : List UInt8) : Cw.getT ((Cw.enc x.length ++ x) ++ rest) = (x, ((Cw.enc x.length ++ x).length : Int), 0) := by
  have hI := Cw.getI_enc x.length (by omega) (x ++ rest)
  unfold Cw.getT
  rw [List.append_assoc, hI]
  rw [if_neg (by simp), if_neg (by simp; omega), if_neg (by simp; omega)]
  simp only [Int.toNat_natCast]
  rw [List.drop_left, List.take_left]; simp
theorem be_head (k n : Nat) : (((n : Int) / 2 ^ (8 * k)) % 256).toNat = n / 256 ^ k % 256 := by
  have : ((2 : Int) ^ (8 * k)) = ((256 ^ k : Nat) : Int) := by rw [← pow8]; simp
  rw [this]
  omega
theorem fold_be : ∀ (k a n : Nat), (be k (n : Int)).foldl (fun n c => n * 256 + c.toNat) a = a * 256 ^ k + n % 256 ^ k
  | 0, a, n => by simp [be, Nat.mod_one]
  | k + 1, a, n => by
    rw [be, List.foldl_cons, fold_be k, be_head, Cw.toNat_ofNat _ (Nat.mod_lt _ (by decide))]
    rw [Nat.pow_succ, Nat.mod_mul, Nat.add_mul, Nat.mul_assoc, Nat.mul_comm 256, Nat.mul_comm (n / 256 ^ k % 256)]
    omega
theorem fixN_be (k n : Nat) (h : n < 256 ^ k) : fixN (be k n) = n := by
  unfold fixN
  rw [fold_be, Nat.zero_mul, Nat.zero_add, Nat.mod_eq_of_lt h]
theorem fixS_be (d : Int) (h0 : 0 ≤ d) (h1 : d < 18446744073709551616) : fixS (be 8 d) = d := by
  obtain ⟨n, rfl⟩ : ∃ n : Nat, d = (n : Int) := ⟨d.toNat, by omega⟩
  rw [fix_is _ (by rw [be_length]; exact Nat.le_refl _), fixN_be 8 n (by omega)]
theorem fold_split : ∀ (X : List UInt8) (b : Nat), X.foldl (fun n c => n * 256 + c.toNat) b = b * 256 ^ X.length + fixN X
  | [], b => by simp [fixN]
  | c :: X, b => by
    unfold fixN
    rw [List.foldl_cons, List.foldl_cons, fold_split X, fold_split X (0 * 256 + c.toNat), List.length_cons, Nat.pow_succ, Nat.zero_mul, Nat.zero_add, Nat.add_mul, Nat.mul_assoc, Nat.mul_comm 256]
    omega
theorem be_fold : ∀ (X : List UInt8) (b : Nat), be X.length ((X.foldl (fun n c => n * 256 + c.toNat) b : Nat) : Int) = X
  | [], _ => rfl
  | c :: X, b => by
    rw [List.length_cons, be, List.foldl_cons, be_fold X, be_head, fold_split]
    congr 1
    have h1 := fixN_lt X
    have h2 := c.toNat_lt
    rw [Nat.add_comm, Nat.add_mul_div_right _ _ (by exact Nat.pow_pos (by decide)), Nat.div_eq_of_lt h1, Nat.zero_add, Nat.add_comm, Nat.add_mul_mod_self_right, Nat.mod_eq_of_lt (by omega)]
    simp
theorem be_fix (X : List UInt8) (h : X.length = 8) : be 8 (fixS X) = X := by
  rw [fix_is X (by omega)]
  have := be_fold X 0
  rw [h] at this
  exact this
theorem fixS_range (X : List UInt8) (h : X.length ≤ 8) : 0 ≤ fixS X ∧ fixS X < 18446744073709551616 := by
  rw [fix_is X h]
  have h1 := fixN_lt X
  have h2 : 256 ^ X.length ≤ 256 ^ 8 := Nat.pow_le_pow_right (by decide) h
  have h3 : (256 : Nat) ^ 8 = 18446744073709551616 := by decide
  omega

end Go.Proofs.Ytlfodnehgedpmaa
