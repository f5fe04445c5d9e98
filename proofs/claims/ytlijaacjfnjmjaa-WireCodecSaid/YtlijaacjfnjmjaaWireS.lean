/- The reference's Same of digests; messages and slices of messages; Same and SameAll. -/
import Derived.Test.YtlijaacjfnjmjaaWireG
import Derived.ChangeKeysEq
namespace Go.Proofs.Ytlijaacjfnjmjaa
open Go.RowKit

theorem infoU64 : (Try.prog.info? 69).map (fun i => (i.zero, i.size, i.bytes)) = some (some (.int .u64 0), 1, 8) := by kernel_rfl
theorem cellsU64 : Try.prog.cellsOf 69 = 1 := by kernel_rfl
theorem plainU64 : Try.prog.plainKey 69 = true := by kernel_rfl
theorem neq_dig (x y x' y' : Int) (W : World) : (binOp .neq 72 (.agg #[.int .u64 x, .int .u64 y]) (.agg #[.int .u64 x', .int .u64 y'])).run Try.prog W = .ok (.bool (!(x == x' && y == y'))) W := by
  obtain ⟨i0, hi0, _, hs, _⟩ := info_parts infoU64
  rw [run_neq_struct]
  have h := run_equalIn_array W 9999 #[.int .u64 x, .int .u64 y] #[.int .u64 x', .int .u64 y'] Try.underlying72 hi0
  rw [cellsU64, show List.range 2 = [0, 1] from rfl] at h
  have h2 : (Op.equalIn 10000 72 (.agg #[.int .u64 x, .int .u64 y]) (.agg #[.int .u64 x', .int .u64 y'])).run Try.prog W = _ := h
  rw [h2]
  have p0 : ∀ (a b : Int) (V : World), (part 69 #[.int .u64 a, .int .u64 b] (0 * 1)).run Try.prog V = .ok (.int .u64 a) V := fun a b V => run_part_plain V plainU64 rfl
  have p1 : ∀ (a b : Int) (V : World), (part 69 #[.int .u64 a, .int .u64 b] (1 * 1)).run Try.prog V = .ok (.int .u64 b) V := fun a b V => run_part_plain V plainU64 rfl
  have q : ∀ (a b : Int) (V : World), (Op.equalIn 9999 69 (.int .u64 a) (.int .u64 b)).run Try.prog V = .ok (a == b) V := fun a b V => run_equalIn_int V 9998 _ _ _ a b Try.underlying69
  simp only [Op.eqItems, Sem.run_bind, p0, q, Result.andThen_ok]
  have p1' : ∀ (a b : Int) (V : World), (part 69 #[.int .u64 a, .int .u64 b] 1).run Try.prog V = .ok (.int .u64 b) V := p1
  by_cases h1 : x = x' <;> by_cases h3 : y = y' <;> simp [h1, h3, p1', q]

/-- A slice of digests that lies below block B. -/
def Digs (B : Nat) (W : World) (a : Option Addr) (ds : List (Int × Int)) : Prop :=
  ∀ i (h : i < ds.length), ∃ b off, a = some ⟨b, off, none⟩ ∧ b < B ∧ W.cell? ⟨b, off + i * 2, none⟩ = some (.int .u64 ds[i].1) ∧ W.cell? ⟨b, off + i * 2 + 1, none⟩ = some (.int .u64 ds[i].2)
theorem Digs.below {B B' : Nat} {W W' : World} {a : Option Addr} {ds : List (Int × Int)} (h : Digs B W a ds) (hb : Below B' W W') (hB : B ≤ B') : Digs B W' a ds := by
  intro i hi
  obtain ⟨b, off, ha, hlt, hc, hd⟩ := h i hi
  exact ⟨b, off, ha, hlt, (hb.cell (p := ⟨b, off + i * 2, none⟩) (by simp; omega)).trans hc, (hb.cell (p := ⟨b, off + i * 2 + 1, none⟩) (by simp; omega)).trans hd⟩
theorem Digs.mono {B B' : Nat} {W : World} {a : Option Addr} {ds : List (Int × Int)} (h : Digs B W a ds) (hB : B ≤ B') : Digs B' W a ds := by
  intro i hi
  obtain ⟨b, off, ha, hlt, hc⟩ := h i hi
  exact ⟨b, off, ha, by omega, hc⟩
theorem Digs.nil (B : Nat) (W : World) (a : Option Addr) : Digs B W a [] := fun i h => by simp at h

theorem take_eq_step {α : Type} {l m : List α} {k : Nat} (h : l.take k = m.take k) (hl : k < l.length) (hm : k < m.length) (he : l[k] = m[k]) : l.take (k + 1) = m.take (k + 1) := by
  rw [List.take_succ_eq_append_getElem hl, List.take_succ_eq_append_getElem hm, h, he]

set_option maxHeartbeats 1000000 in
theorem dsame (a b : Option Addr) (ds es : List (Int × Int)) (ca cb : Nat) (w : World) (ha : Digs w.heap.size w a ds) (hb : Digs w.heap.size w b es) (hn : (ds.length : Int) ≤ 140737488355328) :
    Calls Try.prog 52 #[.slice a ds.length ca, .slice b es.length cb] w fun e w' => e = .returned (.bool (decide (ds = es))) ∧ ∃ q, w' = w.drewN q := by
  obtain ⟨n, hnn⟩ : ∃ n, n = ds.length := ⟨_, rfl⟩
  obtain ⟨m, hmm⟩ : ∃ m, m = es.length := ⟨_, rfl⟩
  obtain ⟨R, hR⟩ : ∃ R : Bool, R = decide (ds = es) := ⟨_, rfl⟩
  rw [← hnn] at hn
  rw [← hnn, ← hmm, ← hR]
  have HN := Lib.hid hnn
  have HM := Lib.hid hmm
  have HR := Lib.hid hR
  have HA := Lib.hid ha
  have HB := Lib.hid hb
  clear hnn hmm hR ha hb
  by_cases hnm : n = m
  · subst hnm
    have t0 : ((n : Int) != (n : Int)) = false := by simp
    go_enter Try.func52, Try.ntmps52
    go_wp2_with fail
    go_loopw [5] (fun i wr => ∃ k q : Nat, k ≤ n ∧ i = .int .i64 k ∧ wr = w.drewN q ∧ ds.take k = es.take k) (fun i _ => n - (intOf i).toNat)
    case atStart => exact ⟨0, 0, by omega, rfl, rfl, rfl⟩
    case round =>
      obtain ⟨k, q, hk, rfl, rfl, hrel⟩ := hrel
      have HT := Lib.hid hrel
      clear hrel
      by_cases hlt : k < n
      · have h1 : k < ds.length := by rw [← HN.out]; exact hlt
        have h2 : k < es.length := by rw [← HM.out]; exact hlt
        obtain ⟨b1, o1, rfl, _, c1, c2⟩ := HA.out k h1
        obtain ⟨b2, o2, rfl, _, c3, c4⟩ := HB.out k h2
        obtain ⟨x, hx⟩ : ∃ x, x = ds[k].1 := ⟨_, rfl⟩
        obtain ⟨y, hy⟩ : ∃ y, y = ds[k].2 := ⟨_, rfl⟩
        obtain ⟨x', hx'⟩ : ∃ x, x = es[k].1 := ⟨_, rfl⟩
        obtain ⟨y', hy'⟩ : ∃ y, y = es[k].2 := ⟨_, rfl⟩
        rw [← hx] at c1
        rw [← hy] at c2
        rw [← hx'] at c3
        rw [← hy'] at c4
        have HE : Hid (ds[k] = es[k] ↔ x = x' ∧ y = y') := Lib.hid (by rw [hx, hy, hx', hy', Prod.ext_iff])
        clear hx hy hx' hy'
        have hq := fun W => neq_dig x y x' y' W
        by_cases he : x = x' ∧ y = y'
        · have hv : (!(x == x' && y == y')) = false := by simp [he.1, he.2]
          have HT2 := Lib.hid (take_eq_step HT.out h1 h2 (HE.out.2 he))
          rw [hv] at hq
          clear he hv HT HE
          go_wp2_with fail
          go_quiet (fail)
          go_wp2_with fail
          go_roundw
          case rel => exact ⟨k + 1, _, by omega, by go_num, by first | rfl | (simp only [World.drewN_drewN]; rfl), HT2.out⟩
          case measure => simp [intOf]; omega
        · have hv : (!(x == x' && y == y')) = true := by
            by_cases h4 : x = x' <;> by_cases h5 : y = y' <;> simp [h4, h5] at he ⊢
          have HF : Hid (R = false) := Lib.hid (by
            rw [HR.out, decide_eq_false_iff_not]
            intro h
            subst h
            exact he (HE.out.1 rfl))
          rw [hv] at hq
          clear he hv HT HE
          go_wp2_with fail
          go_quiet (fail)
          go_wp2_with fail
          go_ret
          exact ⟨by rw [HF.out]; rfl, _, by first | rfl | (simp only [World.drewN_drewN]; rfl)⟩
      · have HF : Hid (R = true) := Lib.hid (by
          rw [HR.out, decide_eq_true_iff]
          have := HT.out
          rwa [List.take_of_length_le (by rw [← HN.out]; omega), List.take_of_length_le (by rw [← HM.out]; omega)] at this)
        go_wp2_with fail
        go_ret
        exact ⟨by rw [HF.out]; rfl, _, rfl⟩
  · have t0 : ((n : Int) != (m : Int)) = true := by simp; omega
    have HF : Hid (R = false) := Lib.hid (by
      rw [HR.out, decide_eq_false_iff_not]
      intro h
      exact hnm (by rw [HN.out, HM.out, h]))
    clear hnm
    go_enter Try.func52, Try.ntmps52
    go_wp2_with fail
    go_ret
    exact ⟨by rw [HF.out]; rfl, 0, rfl⟩

/-- A message. -/
structure Msg where
  kind : Int
  id : Int
  off : Int
  tot : Int
  ds : List (Int × Int)
  data : List UInt8
deriving DecidableEq

/-- The value of a message whose digests lie at an address. -/
abbrev Msg.val (m : Msg) (a : Option Addr) (c : Nat) : Value := .agg #[.int .i64 m.kind, .int .i64 m.id, .int .i64 m.off, .int .i64 m.tot, .slice a m.ds.length c, .string ⟨m.data.toArray⟩]

set_option maxHeartbeats 1000000 in
theorem same_eq0 (kind id off tot : Int) (ds : List (Int × Int)) (n : Nat) (T : ByteArray) (a b : Option Addr) (ca cb : Nat) (w : World) (ha : Digs w.heap.size w a ds) (hb : Digs w.heap.size w b ds) (hl : n = ds.length) (hn : (n : Int) ≤ 140737488355328) :
    Calls Try.prog 30 #[.agg #[.int .i64 kind, .int .i64 id, .int .i64 off, .int .i64 tot, .slice a n ca, .string T], .agg #[.int .i64 kind, .int .i64 id, .int .i64 off, .int .i64 tot, .slice b n cb, .string T]] w fun e w' => e = .returned (.bool true) ∧ Below w.heap.size w w' := by
  have HD : Hid (∀ W, Below w.heap.size w W → Calls Try.prog 52 #[.slice a n ca, .slice b n cb] W fun e w' => e = .returned (.bool true) ∧ ∃ q, w' = W.drewN q) := Lib.hid (fun W hW => by
    rw [hl]
    refine (dsame a b ds ds ca cb W ((ha.below hW (Nat.le_refl _)).mono hW.size) ((hb.below hW (Nat.le_refl _)).mono hW.size) (by rw [← hl]; exact hn)).mono ?_
    rintro e w' ⟨rfl, h⟩
    exact ⟨by simp, h⟩)
  clear hl ha hb
  go_enter Try.func30, Try.ntmps30
  go_wp2_with fail
  refine (HD.out _ (((Below.refl _ w).alloc (Nat.le_refl _) _).alloc (by simp) _)).mono ?_
  rintro e w' ⟨rfl, q, rfl⟩
  go_wp2_with fail
  go_ret
  exact ⟨rfl, below_drewN (((Below.refl _ w).alloc (Nat.le_refl _) _).alloc (by simp) _) _⟩

/-- A slice of messages that lies below block B. -/
def Msgs (B : Nat) (W : World) (a : Option Addr) (ms : List Msg) : Prop :=
  ∀ i (h : i < ms.length), ∃ b off da cd, a = some ⟨b, off, none⟩ ∧ b < B ∧ W.cell? ⟨b, off + i * 6, none⟩ = some (.int .i64 ms[i].kind) ∧ W.cell? ⟨b, off + i * 6 + 1, none⟩ = some (.int .i64 ms[i].id)
    ∧ W.cell? ⟨b, off + i * 6 + 2, none⟩ = some (.int .i64 ms[i].off) ∧ W.cell? ⟨b, off + i * 6 + 3, none⟩ = some (.int .i64 ms[i].tot) ∧ W.cell? ⟨b, off + i * 6 + 4, none⟩ = some (.slice da ms[i].ds.length cd)
    ∧ W.cell? ⟨b, off + i * 6 + 5, none⟩ = some (.string ⟨ms[i].data.toArray⟩) ∧ Digs B W da ms[i].ds
theorem Msgs.below {B B' : Nat} {W W' : World} {a : Option Addr} {ms : List Msg} (h : Msgs B W a ms) (hb : Below B' W W') (hB : B ≤ B') : Msgs B W' a ms := by
  intro i hi
  obtain ⟨b, off, da, cd, ha, hlt, h0, h1, h2, h3, h4, h5, h6⟩ := h i hi
  exact ⟨b, off, da, cd, ha, hlt, (hb.cell (p := ⟨b, off + i * 6, none⟩) (by simp; omega)).trans h0, (hb.cell (p := ⟨b, off + i * 6 + 1, none⟩) (by simp; omega)).trans h1, (hb.cell (p := ⟨b, off + i * 6 + 2, none⟩) (by simp; omega)).trans h2,
    (hb.cell (p := ⟨b, off + i * 6 + 3, none⟩) (by simp; omega)).trans h3, (hb.cell (p := ⟨b, off + i * 6 + 4, none⟩) (by simp; omega)).trans h4, (hb.cell (p := ⟨b, off + i * 6 + 5, none⟩) (by simp; omega)).trans h5, h6.below hb hB⟩
theorem Msgs.mono {B B' : Nat} {W : World} {a : Option Addr} {ms : List Msg} (h : Msgs B W a ms) (hB : B ≤ B') : Msgs B' W a ms := by
  intro i hi
  obtain ⟨b, off, da, cd, ha, hlt, h0, h1, h2, h3, h4, h5, h6⟩ := h i hi
  exact ⟨b, off, da, cd, ha, by omega, h0, h1, h2, h3, h4, h5, h6.mono hB⟩
theorem Msgs.nil (B : Nat) (W : World) (a : Option Addr) : Msgs B W a [] := fun i h => by simp at h

set_option maxHeartbeats 1000000 in
theorem sameAll_eq (a b : Option Addr) (ms : List Msg) (ca cb : Nat) (w : World) (ha : Msgs w.heap.size w a ms) (hb : Msgs w.heap.size w b ms) (hn : (ms.length : Int) ≤ 140737488355328) (hd : ∀ m ∈ ms, (m.ds.length : Int) ≤ 140737488355328) :
    Calls Try.prog 14 #[.slice a ms.length ca, .slice b ms.length cb] w fun e w' => e = .returned (.bool true) ∧ Below w.heap.size w w' := by
  obtain ⟨n, hnn⟩ : ∃ n, n = ms.length := ⟨_, rfl⟩
  rw [← hnn] at hn
  rw [← hnn]
  have HN := Lib.hid hnn
  have HA := Lib.hid ha
  have HB := Lib.hid hb
  have HD := Lib.hid hd
  clear hnn ha hb hd
  have t0 : ((n : Int) != (n : Int)) = false := by simp
  go_enter Try.func14, Try.ntmps14
  go_wp2_with fail
  go_loopw [5] (fun i wr => ∃ k : Nat, k ≤ n ∧ i = .int .i64 k ∧ Below w.heap.size w wr) (fun i _ => n - (intOf i).toNat)
  case atStart => exact ⟨0, by omega, rfl, Below.refl _ _⟩
  case round =>
    obtain ⟨k, hk, rfl, hrel⟩ := hrel
    have HT := Lib.hid hrel
    clear hrel
    by_cases hlt : k < n
    · have h1 : k < ms.length := by rw [← HN.out]; exact hlt
      obtain ⟨b1, o1, d1, e1, rfl, _, c1, c2, c3, c4, c5, c6, c7⟩ := (HA.out.below HT.out (Nat.le_refl _)) k h1
      obtain ⟨b2, o2, d2, e2, rfl, _, g1, g2, g3, g4, g5, g6, g7⟩ := (HB.out.below HT.out (Nat.le_refl _)) k h1
      obtain ⟨m, hm⟩ : ∃ m, m = ms[k] := ⟨_, rfl⟩
      rw [← hm] at c1 c2 c3 c4 c5 c6 c7 g1 g2 g3 g4 g5 g6 g7
      have hml : (m.ds.length : Int) ≤ 140737488355328 := by rw [hm]; exact HD.out _ (List.getElem_mem h1)
      clear hm
      obtain ⟨kind, id, off, tot, ds, T⟩ := m
      simp only at c1 c2 c3 c4 c5 c6 c7 g1 g2 g3 g4 g5 g6 g7 hml
      obtain ⟨nd, hnd⟩ : ∃ nd, nd = ds.length := ⟨_, rfl⟩
      rw [← hnd] at c5 g5 hml
      have HC := Lib.hid (fun W (hW : Below wr.heap.size wr W) => same_eq0 kind id off tot ds nd ⟨T.toArray⟩ d1 d2 e1 e2 W (((c7.mono HT.out.size).below hW (Nat.le_refl _)).mono hW.size) (((g7.mono HT.out.size).below hW (Nat.le_refl _)).mono hW.size) hnd hml)
      clear hnd c7 g7
      go_wp2_with fail
      have HEq := Lib.hid (fun d os => Calls.regrown_of (w := wr) (d := d) (os := os) (HC.out _ (below_regrown wr d os)))
      have f1 := cell_regrown c1
      have f2 := cell_regrown c2
      have f3 := cell_regrown c3
      have f4 := cell_regrown c4
      have f5 := cell_regrown c5
      have f6 := cell_regrown c6
      have j1 := cell_regrown g1
      have j2 := cell_regrown g2
      have j3 := cell_regrown g3
      have j4 := cell_regrown g4
      have j5 := cell_regrown g5
      have j6 := cell_regrown g6
      refine wp_region_quiet_below (by kernel_rfl) (by kernel_rfl) ?_
      repeat (any_goals (first | go_big_quiet_step (exact HEq.out _ _) | quiet_step (exact HEq.out _ _)))
      refine wpQuiet_nil ?_
      intro w2 hw2
      have HB2 := Lib.hid (below_rg hw2)
      clear hw2 HEq f1 f2 f3 f4 f5 f6 j1 j2 j3 j4 j5 j6 c1 c2 c3 c4 c5 c6 g1 g2 g3 g4 g5 g6
      go_wp2_with fail
      go_roundw
      case rel => exact ⟨k + 1, by omega, by go_num, HT.out.trans (HB2.out.mono HT.out.size)⟩
      case measure => simp [intOf]; omega
    · go_wp2_with fail
      go_ret
      exact ⟨rfl, HT.out⟩

end Go.Proofs.Ytlijaacjfnjmjaa
