/- slices.Index and slices.Contains at items. -/
import Derived.Test.YtlfodnehgedpmaaGreatRpI
namespace Go.Proofs.YtlfodnehgedpmaaGreat
open Go.RowKit Go.Shelf
set_option linter.unusedVariables false

theorem eql_itm (x1 x2 y1 y2 : Int) (s t : List UInt8) (W : World) : (binOp .eql 59 (.agg #[.int .u64 x1, .int .u64 x2, .string ⟨s.toArray⟩]) (.agg #[.int .u64 y1, .int .u64 y2, .string ⟨t.toArray⟩])).run Tryz.prog W = .ok (.bool ((x1 == y1 && x2 == y2) && s == t)) W := by
  rw [run_eql_struct, run_equalIn_struct W 9999 59 _ _ (by kernel_rfl) (by kernel_rfl)]
  have hf : (Tryz.prog.fieldsOf 59).toList = [{ name := "Digest", type := 26, offset := 0, embedded := false, tag := "", pkgPath := "", byteOffset := 0 }, { name := "Data", type := 9, offset := 2, embedded := false, tag := "", pkgPath := "", byteOffset := 16 }] := by kernel_rfl
  rw [hf]
  have p0 : ∀ (a b : Int) (r : ByteArray) (V : World), (Go.part 26 #[.int .u64 a, .int .u64 b, .string r] 0).run Tryz.prog V = .ok (.agg #[.int .u64 a, .int .u64 b]) V := fun a b r V => by kernel_rfl
  have p2 : ∀ (a b : Int) (r : ByteArray) (V : World), (Go.part 9 #[.int .u64 a, .int .u64 b, .string r] 2).run Tryz.prog V = .ok (.string r) V := fun a b r V => by kernel_rfl
  have q0 := fun V => eqD_run 9997 x1 x2 y1 y2 V
  have q1 := fun V => run_equalIn_string (P := Tryz.prog) V 9998 9 ⟨s.toArray⟩ ⟨t.toArray⟩ Tryz.underlying9
  have hsx : (⟨s.toArray⟩ : ByteArray).toList = s := by rw [Lib.toList_data]
  have hsy : (⟨t.toArray⟩ : ByteArray).toList = t := by rw [Lib.toList_data]
  rw [hsx, hsy] at q1
  simp only [Op.eqFields, Sem.run_bind, Sem.run_ite, p0, p2, q0, q1, Result.andThen_ok]
  cases h1 : (x1 == y1 && x2 == y2) <;> cases h2 : (s == t) <;> simp

def IxR (xs : List Itm) (x : Itm) (n : Int) : Prop := (0 ≤ n ∧ x ∈ xs) ∨ (n = -1 ∧ x ∉ xs)
def GotIx (w : World) (xs : List Itm) (x : Itm) (e : Ending) (w' : World) : Prop := ∃ n : Int, e = .returned (.int .i64 n) ∧ IxR xs x n ∧ Below w.heap.size w w'
set_option maxRecDepth 100000 in
set_option maxHeartbeats 2000000 in
theorem indexI_any (a : Option Addr) (xs : List Itm) (c : Nat) (x y : Int) (dt : List UInt8) (w : World) (hp : Its w.heap.size w a xs) (hn : (xs.length : Int) ≤ 9223372036854775807) :
    Calls Tryz.prog 60 #[.slice a xs.length c, .agg #[.int .u64 x, .int .u64 y, .string ⟨dt.toArray⟩]] w (GotIx w xs ⟨(x, y), dt⟩) := by
  obtain ⟨n, hnn⟩ : ∃ n, n = xs.length := ⟨_, rfl⟩
  rw [← hnn] at hn ⊢
  have HN := Lib.hid hnn
  have HP := Lib.hid hp
  clear hnn hp
  go_enter Tryz.func60, Tryz.ntmps60
  go_wp2_with fail
  go_loopw [8] (fun i wr => ∃ k q : Nat, k ≤ n ∧ i = .int .i64 k ∧ wr = (w.alloc (.cells #[.int .u64 x, .int .u64 y, .string ⟨dt.toArray⟩] 59)).drewN q ∧ Hid (∀ j (h : j < xs.length), j < k → xs[j] ≠ ⟨(x, y), dt⟩)) (fun i _ => n - (intOf i).toNat)
  case atStart => exact ⟨0, 0, by omega, rfl, rfl, Lib.hid (fun j h hj => by omega)⟩
  case round =>
    obtain ⟨k, q, hk, rfl, rfl, HT⟩ := hrel
    by_cases hlt : k < n
    · have h1 : k < xs.length := by rw [← HN.out]; exact hlt
      obtain ⟨b1, o1, rfl, hb1, c1, c2, c3⟩ := HP.out k h1
      have c1' := fun z => cell_a1 c1 z
      have c2' := fun z => cell_a1 c2 z
      have c3' := fun z => cell_a1 c3 z
      have HH : Hid (xs[k] = ⟨(x, y), dt⟩ → IxR xs ⟨(x, y), dt⟩ (k : Int)) := Lib.hid (fun h => .inl ⟨by omega, by rw [← h]; exact List.getElem_mem h1⟩)
      have HM : Hid (xs[k] ≠ ⟨(x, y), dt⟩ → ∀ j (h : j < xs.length), j < k + 1 → xs[j] ≠ ⟨(x, y), dt⟩) := Lib.hid (fun hne j h hj => by
        rcases Nat.lt_or_ge j k with h2 | h2
        · exact HT.out j h h2
        · obtain rfl : j = k := by omega
          exact hne)
      generalize xs[k] = it at c1 c2 c3 c1' c2' c3' HH HM
      obtain ⟨⟨u, v⟩, et⟩ := it
      simp only at c1 c2 c3 c1' c2' c3'
      have hq := fun W => eql_itm x y u v dt et W
      cases hz : ((x == u && y == v) && dt == et) with
      | true =>
        rw [hz] at hq
        have HF := Lib.hid (HH.out (by
          simp only [Bool.and_eq_true, beq_iff_eq] at hz
          rw [hz.1.1, hz.1.2, hz.2]))
        clear hz HH HM HT
        go_wp2_with fail
        go_quiet (fail)
        go_wp2_with fail
        go_ret
        exact ⟨(k : Int), rfl, HF.out, below_drewN (below_drewN ((Below.refl _ w).alloc (Nat.le_refl _) _) _) _⟩
      | false =>
        rw [hz] at hq
        have HF := Lib.hid (HM.out (by
          intro h
          simp only [Itm.mk.injEq, Prod.mk.injEq] at h
          simp [h.1.1, h.1.2, h.2] at hz))
        clear hz HH HM HT
        go_wp2_with fail
        go_quiet (fail)
        go_wp2_with fail
        go_roundw
        case rel => exact ⟨k + 1, _, by omega, by go_num, by first | rfl | (simp only [World.drewN_drewN]; rfl), HF⟩
        case measure => simp [intOf] <;> omega
    · have HF : Hid (IxR xs ⟨(x, y), dt⟩ (-1)) := Lib.hid (.inr ⟨rfl, fun hz => by
        obtain ⟨j, hj, he⟩ := List.getElem_of_mem hz
        exact HT.out j hj (by have := HN.out; omega) he⟩)
      go_wp2_with fail
      go_ret
      exact ⟨-1, rfl, HF.out, below_drewN ((Below.refl _ w).alloc (Nat.le_refl _) _) _⟩
set_option maxRecDepth 100000 in
set_option maxHeartbeats 2000000 in
theorem containsI_any (a : Option Addr) (xs : List Itm) (c : Nat) (x y : Int) (dt : List UInt8) (w : World) (hp : Its w.heap.size w a xs) (hn : (xs.length : Int) ≤ 9223372036854775807) :
    Calls Tryz.prog 35 #[.slice a xs.length c, .agg #[.int .u64 x, .int .u64 y, .string ⟨dt.toArray⟩]] w fun e w' => e = .returned (.bool (decide ((⟨(x, y), dt⟩ : Itm) ∈ xs))) ∧ Below w.heap.size w w' := by
  obtain ⟨R, hR⟩ : ∃ R, R = decide ((⟨(x, y), dt⟩ : Itm) ∈ xs) := ⟨_, rfl⟩
  rw [← hR]
  have HR := Lib.hid hR
  have HI := Lib.hid (fun W (hW : Below w.heap.size w W) => indexI_any a xs c x y dt W (hp.ahead hW) hn)
  generalize xs.length = n at HI hn ⊢
  clear hR hp
  have HI0 := Lib.hid (HI.out (w.alloc (.cells #[.int .u64 x, .int .u64 y, .string ⟨dt.toArray⟩] 59)) ((Below.refl _ w).alloc (Nat.le_refl _) _))
  clear HI
  go_enter Tryz.func35, Tryz.ntmps35
  go_wp2_with fail
  (with_reducible refine (HI0.out).mono ?_)
  rintro e u ⟨m, rfl, hf, hb⟩
  have HB : Hid (Below w.heap.size w u) := Lib.hid (((Below.refl _ w).alloc (Nat.le_refl _) _).trans (hb.mono (by simp)))
  have HH := Lib.hid hf
  clear hf hb
  rcases HH.out with ⟨h1, h2⟩ | ⟨h1, h2⟩
  · have HT : Hid (R = true) := Lib.hid (by rw [HR.out]; exact decide_eq_true h2)
    have d0 : decide (0 ≤ m) = true := by simpa using h1
    clear h2
    go_wp2_with fail
    go_ret
    exact ⟨by rw [HT.out]; rfl, HB.out⟩
  · have HT : Hid (R = false) := Lib.hid (by rw [HR.out]; exact decide_eq_false h2)
    subst h1
    clear h2
    go_wp2_with fail
    go_ret
    exact ⟨by rw [HT.out]; rfl, HB.out⟩

end Go.Proofs.YtlfodnehgedpmaaGreat
