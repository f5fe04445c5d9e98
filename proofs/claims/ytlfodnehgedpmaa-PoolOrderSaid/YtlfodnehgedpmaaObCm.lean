/- slices.Contains of digests, object.checkCommit. -/
import Derived.Test.YtlfodnehgedpmaaObCk
namespace Go.Proofs.Ytlfodnehgedpmaa
open Go.RowKit
set_option linter.unusedVariables false

/-- The first place of a digest, or -1. -/
def idxD (ds : List (Int × Int)) (d : Int × Int) : Int := if d ∈ ds then ds.idxOf d else -1
theorem idxD_hit {ds : List (Int × Int)} {d : Int × Int} {k : Nat} (h : k < ds.length) (hd : ds[k] = d) (hn : d ∉ ds.take k) : idxD ds d = k := by
  have hm : d ∈ ds := by rw [← hd]; exact List.getElem_mem h
  unfold idxD
  rw [if_pos hm]
  congr 1
  have e : ds = ds.take k ++ (d :: ds.drop (k + 1)) := by rw [← hd, List.getElem_cons_drop, List.take_append_drop]
  rw [e, List.idxOf_append, if_neg hn, List.idxOf_cons_self, List.length_take]
  omega
theorem idxD_miss {ds : List (Int × Int)} {d : Int × Int} (h : d ∉ ds) : idxD ds d = -1 := if_neg h
theorem mem_take_succ {ds : List (Int × Int)} {d : Int × Int} {k : Nat} (h : k < ds.length) (hn : d ∉ ds.take k) (hd : ds[k] ≠ d) : d ∉ ds.take (k + 1) := by
  rw [List.take_succ_eq_append_getElem h, List.mem_append, List.mem_singleton]
  rintro (h1 | h1)
  · exact hn h1
  · exact hd h1.symm

set_option maxRecDepth 100000 in
set_option maxHeartbeats 1000000 in
theorem indexD_any (a : Option Addr) (ds : List (Int × Int)) (c : Nat) (x y : Int) (w : World) (hds : Digs w.heap.size w a ds) (hn : (ds.length : Int) ≤ 9223372036854775807) :
    Calls Try.prog 72 #[.slice a ds.length c, .agg #[.int .u64 x, .int .u64 y]] w fun e w' => e = .returned (.int .i64 (idxD ds (x, y))) ∧ Below w.heap.size w w' := by
  obtain ⟨R, hR⟩ : ∃ R, R = idxD ds (x, y) := ⟨_, rfl⟩
  rw [← hR]
  obtain ⟨n, hnn⟩ : ∃ n, n = ds.length := ⟨_, rfl⟩
  rw [← hnn] at hn ⊢
  have HR := Lib.hid hR
  have HN := Lib.hid hnn
  have HD := Lib.hid hds
  clear hnn hR hds
  go_enter Try.func72, Try.ntmps72
  go_wp2_with fail
  go_loopw [8] (fun i wr => ∃ k q : Nat, k ≤ n ∧ i = .int .i64 k ∧ wr = (w.alloc (.cells #[.int .u64 x, .int .u64 y] 30)).drewN q ∧ Hid ((x, y) ∉ ds.take k)) (fun i _ => n - (intOf i).toNat)
  case atStart => exact ⟨0, 0, by omega, rfl, rfl, Lib.hid (by simp)⟩
  case round =>
    obtain ⟨k, q, hk, rfl, rfl, HT⟩ := hrel
    by_cases hlt : k < n
    · have h1 : k < ds.length := by rw [← HN.out]; exact hlt
      obtain ⟨b1, o1, rfl, hb1, c1, c2⟩ := HD.out k h1
      have c1' := fun z => cell_a1 c1 z
      have c2' := fun z => cell_a1 c2 z
      have HH := Lib.hid (fun (h : ds[k] = (x, y)) => idxD_hit h1 h HT.out)
      have HM := Lib.hid (fun (h : ds[k] ≠ (x, y)) => mem_take_succ h1 HT.out h)
      generalize ds[k] = dk at c1 c2 c1' c2' HH HM
      obtain ⟨u, v⟩ := dk
      simp only at c1 c2 c1' c2'
      have hq := fun W => eql_dig x y u v W
      cases hz : (x == u && y == v) with
      | true =>
        rw [hz] at hq
        have HF : Hid (R = k) := Lib.hid (by
          simp only [Bool.and_eq_true, beq_iff_eq] at hz
          rw [HR.out]
          exact HH.out (by rw [hz.1, hz.2]))
        clear hz HH HM HT
        go_wp2_with fail
        go_quiet (fail)
        go_wp2_with fail
        go_ret
        exact ⟨by rw [HF.out]; rfl, below_drewN (below_drewN ((Below.refl _ w).alloc (Nat.le_refl _) _) _) _⟩
      | false =>
        rw [hz] at hq
        have HF : Hid ((x, y) ∉ ds.take (k + 1)) := Lib.hid (HM.out (by
          intro h
          simp only [Prod.mk.injEq] at h
          simp [h.1, h.2] at hz))
        clear hz HH HM HT
        go_wp2_with fail
        go_quiet (fail)
        go_wp2_with fail
        go_roundw
        case rel => exact ⟨k + 1, _, by omega, by go_num, by first | rfl | (simp only [World.drewN_drewN]; rfl), HF⟩
        case measure => simp [intOf]; omega
    · have HF : Hid (R = -1) := Lib.hid (by
        rw [HR.out]
        apply idxD_miss
        have := HT.out
        rwa [List.take_of_length_le (by rw [← HN.out]; omega)] at this)
      go_wp2_with fail
      go_ret
      exact ⟨by rw [HF.out]; rfl, below_drewN ((Below.refl _ w).alloc (Nat.le_refl _) _) _⟩

theorem containsD_any (a : Option Addr) (ds : List (Int × Int)) (c : Nat) (x y : Int) (w : World) (hds : Digs w.heap.size w a ds) (hn : (ds.length : Int) ≤ 9223372036854775807) :
    Calls Try.prog 59 #[.slice a ds.length c, .agg #[.int .u64 x, .int .u64 y]] w fun e w' => e = .returned (.bool (decide ((x, y) ∈ ds))) ∧ Below w.heap.size w w' := by
  obtain ⟨R, hR⟩ : ∃ R, R = decide ((x, y) ∈ ds) := ⟨_, rfl⟩
  rw [← hR]
  have HI : Hid (∀ W, Below w.heap.size w W → Calls Try.prog 72 #[.slice a ds.length c, .agg #[.int .u64 x, .int .u64 y]] W fun e w' => e = .returned (.int .i64 (idxD ds (x, y))) ∧ Below W.heap.size W w') := Lib.hid (fun W hW => indexD_any a ds c x y W ((hds.below hW (Nat.le_refl _)).mono hW.size) hn)
  have hd : decide (0 ≤ idxD ds (x, y)) = R := by
    rw [hR]
    unfold idxD
    by_cases h : (x, y) ∈ ds
    · rw [if_pos h]; simp [h]
    · rw [if_neg h]; simp [h]
  generalize idxD ds (x, y) = r at HI hd
  generalize ds.length = n at HI hn ⊢
  clear hR hds
  have HD := Lib.hid hd
  clear hd
  go_enter Try.func59, Try.ntmps59
  go_wp2_with fail
  refine (HI.out _ ((Below.refl _ w).alloc (Nat.le_refl _) _)).mono ?_
  rintro e w' ⟨rfl, hb⟩
  have HB := Lib.hid hb
  clear hb
  go_wp2_with fail
  go_ret
  exact ⟨by rw [← HD.out]; rfl, ((Below.refl _ w).alloc (Nat.le_refl _) _).trans (HB.out.mono (by simp))⟩

theorem size_dig (W : World) : (sizeOf (Try.prog.elem 31)).run Try.prog W = .ok 2 W := by
  obtain ⟨i, h1, _, h3, _⟩ := info_parts infoDig
  rw [show Try.prog.elem 31 = 30 by kernel_rfl]
  simp [sizeOf, typeInfo, h1, h3]
theorem dtake {B : Nat} {W : World} {a : Option Addr} {ds : List (Int × Int)} (h : Digs B W a ds) (f : Nat) : Digs B W a (ds.take f) := by
  intro i hi
  have hi' : i < ds.length := by simp at hi; omega
  obtain ⟨b, off, ha, hlt, h0⟩ := h i hi'
  refine ⟨b, off, ha, hlt, ?_⟩
  rw [List.getElem_take]
  exact h0
theorem dadd0 {B : Nat} {W : World} {a : Option Addr} {ds : List (Int × Int)} (h : Digs B W a ds) : Digs B W (a.map (·.add (0 * 2))) ds := by
  intro i hi
  obtain ⟨b, off, rfl, hlt, h0⟩ := h i hi
  exact ⟨b, off, by simp [Go.WideShapes.add_plain], hlt, h0⟩
theorem dslice_hi (a : Option Addr) (n c f : Nat) (h : f ≤ c) : ∃ (A1 : Option Addr) (c1 : Nat), (∀ B W ds, Digs B W a ds → Digs B W A1 (ds.take f)) ∧ ∀ W, (Instr.slice 31 (.slice a n c) none (some (.int .i64 f)) none).run Try.prog W = .ok (.slice A1 f c1) W := by
  refine ⟨if c = 0 then a else a.map (·.add (0 * 2)), c, fun B W ps hp => ?_, fun W => ?_⟩
  · split
    · exact dtake hp f
    · exact dadd0 (dtake hp f)
  · rw [run_slice_h (P := Try.prog) W 31 a n c (by kernel_rfl) .i64 f (by omega) (by omega), size_dig]
    simp [sliced, Result.andThen]

/-- The value of an object whose lists lie at two addresses. -/
abbrev Ob.val (o : Ob) (ea : Option Addr) (ec : Nat) (pa : Option Addr) (pc : Nat) : Value :=
  .agg #[.int .i64 o.kind, .string ⟨o.data.toArray⟩, .slice ea o.ents.length ec, .int .u64 o.tree.1, .int .u64 o.tree.2, .slice pa o.pars.length pc, .string ⟨o.author.toArray⟩, .int .i64 o.time, .string ⟨o.msg.toArray⟩]

def PR (ds : List (Int × Int)) (k : Nat) : Prop := parGo [] ds = parGo (ds.take k) (ds.drop k)
theorem PR.start (ds : List (Int × Int)) : PR ds 0 := by unfold PR; simp
theorem PR.step {ds : List (Int × Int)} {k : Nat} (h : PR ds k) (hk : k < ds.length) : parGo [] ds = if ds[k] = (0, 0) then 1 else if ds[k] ∈ ds.take k then 7 else parGo (ds.take (k + 1)) (ds.drop (k + 1)) := by
  unfold PR at h
  rw [h, List.drop_eq_getElem_cons hk, parGo, List.take_succ_eq_append_getElem hk]
theorem PR.fin {ds : List (Int × Int)} {k : Nat} (h : PR ds k) (hk : ds.length ≤ k) : parGo [] ds = 0 := by
  unfold PR at h
  rw [h, List.drop_of_length_le hk]
  rfl

end Go.Proofs.Ytlfodnehgedpmaa
