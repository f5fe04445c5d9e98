/- wire.fixed and digest.Of; the reference's value and Of. -/
import Derived.Test.YtlijaacjfnjmjaaWireSp
import Derived.Laws.StructEq
import Derived.ChangeKeysEq
namespace Go.Proofs.Ytlijaacjfnjmjaa
open Go.RowKit

def fstep (x : Int) (c : UInt8) : Int := bits .or .u64 (IntKind.u64.wrap (x * 256)) (IntKind.u64.wrap (c.toNat : Int))
/-- The number whose bytes are given. -/
def fixS (l : List UInt8) : Int := l.foldl fstep 0
def dig1 (h : Int) (c : UInt8) : Int := IntKind.u64.wrap (bits .xor .u64 h (IntKind.u64.wrap (c.toNat : Int)) * 1099511628211)
def dig2 (h : Int) (c : UInt8) : Int := bits .xor .u64 (IntKind.u64.wrap (h * 1099511628211)) (IntKind.u64.wrap (c.toNat : Int))
/-- The digest of a text. -/
def digS (l : List UInt8) : Int × Int :=
  if l.foldl dig1 14695981039346656037 = 0 ∧ l.foldl dig2 14695981039346656037 = 0 then (0, 1) else (l.foldl dig1 14695981039346656037, l.foldl dig2 14695981039346656037)

theorem foldl_take {α β : Type} (f : β → α → β) (b : β) (l : List α) (k : Nat) (h : k < l.length) : (l.take (k + 1)).foldl f b = f ((l.take k).foldl f b) l[k] := by
  rw [List.take_succ_eq_append_getElem h, List.foldl_append]; rfl

theorem int_u64 {a b : Int} (h : a = b) : Value.int .u64 a = .int .u64 b := by rw [h]

set_option maxHeartbeats 1000000 in
theorem fixed_any (L : List UInt8) (w : World) (hs : (L.length : Int) ≤ 140737488355328) :
    Calls Try.prog 38 #[.string ⟨L.toArray⟩] w fun e w' => e = .returned (.int .u64 (fixS L)) ∧ w = w' := by
  go_enter Try.func38, Try.ntmps38
  go_wp2_with fail
  go_loop [3, 4] (fun n i => ∃ (k : Nat) (x : Int), k ≤ L.length ∧ i = .int .i64 k ∧ n = .int .u64 x ∧ Hid (x = fixS (L.take k))) (fun _ i => L.length - (intOf i).toNat)
  case atStart => exact ⟨0, 0, by omega, rfl, rfl, Lib.hid rfl⟩
  case round =>
    obtain ⟨k, x, hk, rfl, rfl, HX⟩ := hrel
    by_cases hlt : k < L.length
    · have HN : Hid (fixS (L.take (k + 1)) = fstep x L[k]) := Lib.hid (by rw [HX.out]; exact foldl_take _ _ _ _ hlt)
      go_wp2_with fail
      go_round
      case rel => exact ⟨k + 1, _, by omega, by go_num, rfl, Lib.hid (by rw [HN.out]; rfl)⟩
      case measure => simp [intOf]; omega
    · have HN : Hid (x = fixS L) := Lib.hid (by rw [HX.out, List.take_of_length_le (by omega)])
      go_wp2_with fail
      go_ret
      exact ⟨by rw [← HN.out]; rfl, rfl⟩

set_option maxHeartbeats 1000000 in
theorem value_any (L : List UInt8) (w : World) (hs : (L.length : Int) ≤ 140737488355328) :
    Calls Try.prog 50 #[.string ⟨L.toArray⟩] w fun e w' => e = .returned (.int .u64 (fixS L)) ∧ w = w' := by
  go_enter Try.func50, Try.ntmps50
  go_wp2_with fail
  go_loop [3, 4] (fun n i => ∃ (k : Nat) (x : Int), k ≤ L.length ∧ i = .int .i64 k ∧ n = .int .u64 x ∧ Hid (x = fixS (L.take k))) (fun _ i => L.length - (intOf i).toNat)
  case atStart => exact ⟨0, 0, by omega, rfl, rfl, Lib.hid rfl⟩
  case round =>
    obtain ⟨k, x, hk, rfl, rfl, HX⟩ := hrel
    by_cases hlt : k < L.length
    · have HN : Hid (fixS (L.take (k + 1)) = fstep x L[k]) := Lib.hid (by rw [HX.out]; exact foldl_take _ _ _ _ hlt)
      go_wp2_with fail
      go_round
      case rel => exact ⟨k + 1, _, by omega, by go_num, rfl, Lib.hid (by rw [HN.out]; rfl)⟩
      case measure => simp [intOf]; omega
    · have HN : Hid (x = fixS L) := Lib.hid (by rw [HX.out, List.take_of_length_le (by omega)])
      go_wp2_with fail
      go_ret
      exact ⟨by rw [← HN.out]; rfl, rfl⟩

theorem st1_any (h b : Int) (w : World) :
    Calls Try.prog 55 #[.int .u64 h, .int .u64 b] w fun e w' => e = .returned (.int .u64 (IntKind.u64.wrap (bits BinOp.xor IntKind.u64 h b * 1099511628211))) ∧ w = w' := by
  go_enter Try.func55, Try.ntmps55
  go_wp2_with fail
  go_ret
  exact ⟨rfl, rfl⟩
theorem st2_any (h b : Int) (w : World) :
    Calls Try.prog 56 #[.int .u64 h, .int .u64 b] w fun e w' => e = .returned (.int .u64 (bits BinOp.xor IntKind.u64 (IntKind.u64.wrap (h * 1099511628211)) b)) ∧ w = w' := by
  go_enter Try.func56, Try.ntmps56
  go_wp2_with fail
  go_ret
  exact ⟨rfl, rfl⟩

set_option maxHeartbeats 1000000 in
theorem hash1_any (L : List UInt8) (w : World) (hs : (L.length : Int) ≤ 140737488355328) :
    Calls Try.prog 54 #[.string ⟨L.toArray⟩, .func (.func 55) #[] #[]] w fun e w' => e = .returned (.int .u64 (L.foldl dig1 14695981039346656037)) ∧ w = w' := by
  have HF := Lib.hid st1_any
  obtain ⟨g, hg⟩ : ∃ g : List UInt8 → Int, g = fun l => l.foldl dig1 14695981039346656037 := ⟨_, rfl⟩
  have HG : Hid (∀ k (h : k < L.length), g (L.take (k + 1)) = dig1 (g (L.take k)) L[k]) := Lib.hid (fun k h => by rw [hg]; exact foldl_take _ _ _ _ h)
  have HG0 : Hid (g (L.take 0) = 14695981039346656037) := Lib.hid (by rw [hg]; rfl)
  have HGL : Hid (L.foldl dig1 14695981039346656037 = g L) := Lib.hid (by rw [hg])
  rw [HGL.out]
  clear hg HGL
  go_enter Try.func54, Try.ntmps54
  go_wp2_with fail
  go_loop [5, 9] (fun n i => ∃ (k : Nat) (x : Int), k ≤ L.length ∧ i = .int .i64 k ∧ n = .int .u64 x ∧ Hid (x = g (L.take k))) (fun _ i => L.length - (intOf i).toNat)
  case atStart => exact ⟨0, _, by omega, rfl, rfl, Lib.hid HG0.out.symm⟩
  case round =>
    obtain ⟨k, x, hk, rfl, rfl, HX⟩ := hrel
    by_cases hlt : k < L.length
    · have HN : Hid (g (L.take (k + 1)) = dig1 x L[k]) := Lib.hid (by rw [HX.out]; exact HG.out k hlt)
      go_wp2_with fail
      refine (HF.out _ _ _).mono ?_
      rintro e w' ⟨rfl, rfl⟩
      go_wp2_with fail
      go_round
      case rel => exact ⟨k + 1, _, by omega, by go_num, rfl, Lib.hid (by rw [HN.out]; rfl)⟩
      case measure => simp [intOf]; omega
    · have HN : Hid (x = g L) := Lib.hid (by rw [HX.out, List.take_of_length_le (by omega)])
      go_wp2_with fail
      go_ret
      exact ⟨by rw [← HN.out]; rfl, rfl⟩

set_option maxHeartbeats 1000000 in
theorem hash2_any (L : List UInt8) (w : World) (hs : (L.length : Int) ≤ 140737488355328) :
    Calls Try.prog 54 #[.string ⟨L.toArray⟩, .func (.func 56) #[] #[]] w fun e w' => e = .returned (.int .u64 (L.foldl dig2 14695981039346656037)) ∧ w = w' := by
  have HF := Lib.hid st2_any
  obtain ⟨g, hg⟩ : ∃ g : List UInt8 → Int, g = fun l => l.foldl dig2 14695981039346656037 := ⟨_, rfl⟩
  have HG : Hid (∀ k (h : k < L.length), g (L.take (k + 1)) = dig2 (g (L.take k)) L[k]) := Lib.hid (fun k h => by rw [hg]; exact foldl_take _ _ _ _ h)
  have HG0 : Hid (g (L.take 0) = 14695981039346656037) := Lib.hid (by rw [hg]; rfl)
  have HGL : Hid (L.foldl dig2 14695981039346656037 = g L) := Lib.hid (by rw [hg])
  rw [HGL.out]
  clear hg HGL
  go_enter Try.func54, Try.ntmps54
  go_wp2_with fail
  go_loop [5, 9] (fun n i => ∃ (k : Nat) (x : Int), k ≤ L.length ∧ i = .int .i64 k ∧ n = .int .u64 x ∧ Hid (x = g (L.take k))) (fun _ i => L.length - (intOf i).toNat)
  case atStart => exact ⟨0, _, by omega, rfl, rfl, Lib.hid HG0.out.symm⟩
  case round =>
    obtain ⟨k, x, hk, rfl, rfl, HX⟩ := hrel
    by_cases hlt : k < L.length
    · have HN : Hid (g (L.take (k + 1)) = dig2 x L[k]) := Lib.hid (by rw [HX.out]; exact HG.out k hlt)
      go_wp2_with fail
      refine (HF.out _ _ _).mono ?_
      rintro e w' ⟨rfl, rfl⟩
      go_wp2_with fail
      go_round
      case rel => exact ⟨k + 1, _, by omega, by go_num, rfl, Lib.hid (by rw [HN.out]; rfl)⟩
      case measure => simp [intOf]; omega
    · have HN : Hid (x = g L) := Lib.hid (by rw [HX.out, List.take_of_length_le (by omega)])
      go_wp2_with fail
      go_ret
      exact ⟨by rw [← HN.out]; rfl, rfl⟩

theorem eql_dig (x y x' y' : Int) (W : World) : (binOp .eql 72 (.agg #[.int .u64 x, .int .u64 y]) (.agg #[.int .u64 x', .int .u64 y'])).run Try.prog W = .ok (.bool (x == x' && y == y')) W := by
  obtain ⟨i0, hi0, _, hs, _⟩ := info_parts infoU64
  rw [run_eql_struct]
  have h := run_equalIn_array W 9999 #[.int .u64 x, .int .u64 y] #[.int .u64 x', .int .u64 y'] Try.underlying72 hi0
  rw [cellsU64, show List.range 2 = [0, 1] from rfl] at h
  have h2 : (Op.equalIn 10000 72 (.agg #[.int .u64 x, .int .u64 y]) (.agg #[.int .u64 x', .int .u64 y'])).run Try.prog W = _ := h
  rw [h2]
  have p0 : ∀ (a b : Int) (V : World), (Go.part 69 #[.int .u64 a, .int .u64 b] (0 * 1)).run Try.prog V = .ok (.int .u64 a) V := fun a b V => run_part_plain V plainU64 rfl
  have p1 : ∀ (a b : Int) (V : World), (Go.part 69 #[.int .u64 a, .int .u64 b] (1 * 1)).run Try.prog V = .ok (.int .u64 b) V := fun a b V => run_part_plain V plainU64 rfl
  have q : ∀ (a b : Int) (V : World), (Op.equalIn 9999 69 (.int .u64 a) (.int .u64 b)).run Try.prog V = .ok (a == b) V := fun a b V => run_equalIn_int V 9998 _ _ _ a b Try.underlying69
  simp only [Op.eqItems, Sem.run_bind, p0, q, Result.andThen_ok]
  have p1' : ∀ (a b : Int) (V : World), (Go.part 69 #[.int .u64 a, .int .u64 b] 1).run Try.prog V = .ok (.int .u64 b) V := p1
  by_cases h1 : x = x' <;> by_cases h3 : y = y' <;> simp [h1, h3, p1', q]

set_option maxHeartbeats 1000000 in
theorem of_any (L : List UInt8) (w : World) (hs : (L.length : Int) ≤ 140737488355328) :
    Calls Try.prog 39 #[.string ⟨L.toArray⟩] w fun e w' => e = .returned (.agg #[.int .u64 (digS L).1, .int .u64 (digS L).2]) ∧ Below w.heap.size w w' := by
  have H1 := Lib.hid (fun w => hash1_any L w hs)
  have H2 := Lib.hid (fun w => hash2_any L w hs)
  have HD : Hid (digS L = if L.foldl dig1 14695981039346656037 = 0 ∧ L.foldl dig2 14695981039346656037 = 0 then (0, 1) else (L.foldl dig1 14695981039346656037, L.foldl dig2 14695981039346656037)) := Lib.hid rfl
  obtain ⟨R, hR⟩ : ∃ R, R = digS L := ⟨_, rfl⟩
  rw [← hR] at HD ⊢
  clear hR
  generalize L.foldl dig1 14695981039346656037 = x at H1 HD
  generalize L.foldl dig2 14695981039346656037 = y at H2 HD
  by_cases hz : x = 0 ∧ y = 0
  · obtain ⟨rfl, rfl⟩ := hz
    have HF : Hid (R = (0, 1)) := Lib.hid (by rw [HD.out]; rfl)
    have hq := fun W => eql_dig 0 0 0 0 W
    simp only [beq_self_eq_true, Bool.and_self] at hq
    go_enter Try.func39, Try.ntmps39
    go_wp2_with fail
    refine (H1.out _).mono ?_
    rintro e w1 ⟨rfl, rfl⟩
    go_wp2_with fail
    refine (H2.out _).mono ?_
    rintro e w1 ⟨rfl, rfl⟩
    go_wp2_with fail
    refine bodyPost_ret (v := .agg #[.int .u64 0, .int .u64 1]) (by simp [results, Try.results39, go_sem]) rfl ⟨by rw [HF.out], ?_⟩
    exact ((Below.refl _ w).alloc (Nat.le_refl _) _).alloc (by simp) _
  · have HF : Hid (R = (x, y)) := Lib.hid (by rw [HD.out, if_neg hz])
    have hq := fun W => eql_dig x y 0 0 W
    have hv : (x == 0 && y == 0) = false := by
      by_cases h1 : x = 0 <;> by_cases h3 : y = 0 <;> simp [h1, h3] at hz ⊢
    rw [hv] at hq
    clear hz hv
    go_enter Try.func39, Try.ntmps39
    go_wp2_with fail
    refine (H1.out _).mono ?_
    rintro e w1 ⟨rfl, rfl⟩
    go_wp2_with fail
    refine (H2.out _).mono ?_
    rintro e w1 ⟨rfl, rfl⟩
    go_wp2_with fail
    refine bodyPost_ret (v := .agg #[.int .u64 x, .int .u64 y]) (by simp [results, Try.results39, go_sem]) rfl ⟨by rw [HF.out], ?_⟩
    exact ((Below.refl _ w).alloc (Nat.le_refl _) _).alloc (by simp) _

end Go.Proofs.Ytlijaacjfnjmjaa
