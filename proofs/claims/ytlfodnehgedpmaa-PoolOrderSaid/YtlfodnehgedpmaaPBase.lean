/- Helpers for the pool: strings, slices, digests, bytes. -/
import Derived.Test.YtlfodnehgedpmaaProg
import Derived.WalkKit
import Derived.WalkSpells
import Derived.WalkLawsBesides
import Derived.Lib.Hide
import Derived.RegionTactic
import Derived.ChangeAlike
import Derived.Deep.RegionWith
import Derived.Deep.QuietTactic
import Derived.BigQuiet
import Derived.Lib.QuietBelow
import Derived.Laws.StructEq
import Derived.ChangeKeysEq
import Derived.Deep.RegionLaw
import Derived.Deep.AppendLies
import Derived.Deep.DeepCutAuto
import Derived.Deep.CutBlock
import Derived.Deep.CutRange
import Derived.Laws.Concat
import Derived.Lib.IndexBytes
namespace Go.Proofs.Ytlfodnehgedpmaa
open Go.RowKit
set_option linter.unusedVariables false

theorem ret_bool {a b : Bool} (h : a = b) : Ending.returned (.bool a) = .returned (.bool b) := by rw [h]
theorem ba_len (l : List UInt8) : (⟨l.toArray⟩ : ByteArray).size = l.length := by show l.toArray.size = _; simp
/-- What lies behind a region of reads and of calls that only make memory. -/
theorem below_rg {w w' : World} (h : ∃ p : Regrown, w' = Go.Sort.grow (redrawn w p.d) p.os) : Below w.heap.size w w' := by
  obtain ⟨p, rfl⟩ := h; exact below_regrown w p.d p.os
/-- A cell behind new blocks. -/
theorem cell_a1 {w : World} {p : Addr} {v : Value} (h : w.cell? p = some v) (o : Obj) : (w.alloc o).cell? p = some v := by
  have hlt : p.block < w.heap.size := by
    unfold World.cell? at h
    cases ho : w.heap[p.block]? with
    | none => simp [ho] at h
    | some o => exact (Array.getElem?_eq_some_iff.1 ho).1
  exact (((Below.refl w.heap.size w).alloc (Nat.le_refl _) o).cell hlt).trans h
theorem cell_a2 {w : World} {p : Addr} {v : Value} (h : w.cell? p = some v) (o o' : Obj) : ((w.alloc o).alloc o').cell? p = some v := cell_a1 (cell_a1 h o) o'
theorem cell_a3 {w : World} {p : Addr} {v : Value} (h : w.cell? p = some v) (o o' o'' : Obj) : (((w.alloc o).alloc o').alloc o'').cell? p = some v := cell_a1 (cell_a2 h o o') o''
theorem ba_eq {t : ByteArray} {l : List UInt8} (h : t.data.toList = l) : t = ⟨l.toArray⟩ := by
  subst h; cases t; simp
theorem infoU64 : (Try.prog.info? 28).map (fun i => (i.zero, i.size, i.bytes)) = some (some (.int .u64 0), 1, 8) := by kernel_rfl
theorem cellsU64 : Try.prog.cellsOf 28 = 1 := by kernel_rfl
theorem plainU64 : Try.prog.plainKey 28 = true := by kernel_rfl
theorem neq_dig (x y x' y' : Int) (W : World) : (binOp .neq 30 (.agg #[.int .u64 x, .int .u64 y]) (.agg #[.int .u64 x', .int .u64 y'])).run Try.prog W = .ok (.bool (!(x == x' && y == y'))) W := by
  obtain ⟨i0, hi0, _, hs, _⟩ := info_parts infoU64
  rw [run_neq_struct]
  have h := run_equalIn_array W 9999 #[.int .u64 x, .int .u64 y] #[.int .u64 x', .int .u64 y'] Try.underlying30 hi0
  rw [cellsU64, show List.range 2 = [0, 1] from rfl] at h
  have h2 : (Op.equalIn 10000 30 (.agg #[.int .u64 x, .int .u64 y]) (.agg #[.int .u64 x', .int .u64 y'])).run Try.prog W = _ := h
  rw [h2]
  have p0 : ∀ (a b : Int) (V : World), (part 28 #[.int .u64 a, .int .u64 b] (0 * 1)).run Try.prog V = .ok (.int .u64 a) V := fun a b V => run_part_plain V plainU64 rfl
  have p1 : ∀ (a b : Int) (V : World), (part 28 #[.int .u64 a, .int .u64 b] (1 * 1)).run Try.prog V = .ok (.int .u64 b) V := fun a b V => run_part_plain V plainU64 rfl
  have q : ∀ (a b : Int) (V : World), (Op.equalIn 9999 28 (.int .u64 a) (.int .u64 b)).run Try.prog V = .ok (a == b) V := fun a b V => run_equalIn_int V 9998 _ _ _ a b Try.underlying28
  simp only [Op.eqItems, Sem.run_bind, p0, q, Result.andThen_ok]
  have p1' : ∀ (a b : Int) (V : World), (part 28 #[.int .u64 a, .int .u64 b] 1).run Try.prog V = .ok (.int .u64 b) V := p1
  by_cases h1 : x = x' <;> by_cases h3 : y = y' <;> simp [h1, h3, p1', q]
/-- A slice of digests that lies below block B. -/
def Digs (B : Nat) (W : World) (a : Option Addr) (ds : List (Int × Int)) : Prop :=
  ∀ i (h : i < ds.length), ∃ b off, a = some ⟨b, off, none⟩ ∧ b < B ∧ W.cell? ⟨b, off + i * 2, none⟩ = some (.int .u64 ds[i].1) ∧ W.cell? ⟨b, off + i * 2 + 1, none⟩ = some (.int .u64 ds[i].2)
theorem Digs.below {B B' : Nat} {W W' : World} {a : Option Addr} {ds : List (Int × Int)} (h : Digs B W a ds) (hb : Below B' W W') (hB : B ≤ B') : Digs B W' a ds := by
  intro i hi
  obtain ⟨b, off, ha, hlt, hc, hd⟩ := h i hi
  exact ⟨b, off, ha, hlt, (hb.cell (p := ⟨b, off + i * 2, none⟩) (by simp; omega)).trans hc, (hb.cell (p := ⟨b, off + i * 2 + 1, none⟩) (by simp; omega)).trans hd⟩
theorem Digs.mono {B B' : Nat} {W : World} {a : Option Addr} {ds : List (Int × Int)} (h : Digs B W a ds) (hB : B ≤ B') : Digs B' W a ds := by
  intro i hi
  obtain ⟨b, off, ha, hlt, hc⟩ := h i hi
  exact ⟨b, off, ha, by omega, hc⟩
theorem Digs.nil (B : Nat) (W : World) (a : Option Addr) : Digs B W a [] := fun i h => by simp at h
theorem take_eq_step {α : Type} {l m : List α} {k : Nat} (h : l.take k = m.take k) (hl : k < l.length) (hm : k < m.length) (he : l[k] = m[k]) : l.take (k + 1) = m.take (k + 1) := by
  rw [List.take_succ_eq_append_getElem hl, List.take_succ_eq_append_getElem hm, h, he]
theorem ownsRow_sliceN {w : World} {base : Nat} {e : TypeId} {z : Nat} {v : Value} {n : Nat} {xs : List Value} (h : w.ownsRow base e z v n xs) : ∃ a cap, v = .slice a n cap ∧ n ≤ cap := by
  rcases h.2 with ⟨rfl, rfl⟩ | ⟨g, cap, cur, rfl, _, _, h1, _⟩
  · exact ⟨_, _, rfl, Nat.le_refl _⟩
  · exact ⟨_, _, rfl, h1⟩
theorem ex_mid (A : List UInt8) (i j : Nat) : (⟨A.toArray⟩ : ByteArray).extract i j = ⟨((A.drop i).take (j - i)).toArray⟩ := ba_eq (by rw [Lib.extract_data])
theorem sl_mid (A : List UInt8) (i j : Nat) (h : i ≤ j) (hj : j ≤ A.length) (W : World) : (Instr.slice 9 (.string ⟨A.toArray⟩) (some (.int .i64 i)) (some (.int .i64 j)) none).run Try.prog W = .ok (.string ⟨((A.drop i).take (j - i)).toArray⟩) W := by
  rw [run_slice_string W 9 ⟨A.toArray⟩ .i64 .i64 i j Try.underlying9 (by omega) (by omega) (by rw [ba_len]; omega)]
  have : (⟨A.toArray⟩ : ByteArray).extract ((i : Int)).toNat ((j : Int)).toNat = ⟨((A.drop i).take (j - i)).toArray⟩ := ba_eq (by
    rw [Lib.extract_data, Int.toNat_natCast, Int.toNat_natCast])
  rw [this]
theorem sl_hi (B : List UInt8) (n : Nat) (h : n ≤ B.length) (W : World) : (Instr.slice 9 (.string ⟨B.toArray⟩) none (some (.int .i64 n)) none).run Try.prog W = .ok (.string ⟨(B.take n).toArray⟩) W := by
  rw [run_slice_string_h (P := Try.prog) W (t := 9) ⟨B.toArray⟩ Try.underlying9 .i64 n (by omega) (by rw [ba_len]; omega)]
  have : (⟨B.toArray⟩ : ByteArray).extract 0 ((n : Int)).toNat = ⟨(B.take n).toArray⟩ := ba_eq (by rw [Lib.extract_data, List.drop_zero, Nat.sub_zero, Int.toNat_natCast])
  rw [this]
theorem sl_lo (B : List UInt8) (n : Nat) (h : n ≤ B.length) (W : World) : (Instr.slice 9 (.string ⟨B.toArray⟩) (some (.int .i64 n)) none none).run Try.prog W = .ok (.string ⟨(B.drop n).toArray⟩) W := by
  rw [run_slice_string_l (P := Try.prog) W (t := 9) ⟨B.toArray⟩ Try.underlying9 .i64 n (by omega) (by rw [ba_len]; omega)]
  have : (⟨B.toArray⟩ : ByteArray).extract ((n : Int)).toNat (⟨B.toArray⟩ : ByteArray).size = ⟨(B.drop n).toArray⟩ := ba_eq (by rw [Lib.extract_to_end, Int.toNat_natCast])
  rw [this]
def fstep (x : Int) (c : UInt8) : Int := bits .or .u64 (IntKind.u64.wrap (x * 256)) (IntKind.u64.wrap (c.toNat : Int))
/-- The number whose bytes are given. -/
def fixS (l : List UInt8) : Int := l.foldl fstep 0
def dig1 (h : Int) (c : UInt8) : Int := IntKind.u64.wrap (bits .xor .u64 h (IntKind.u64.wrap (c.toNat : Int)) * 1099511628211)
def dig2 (h : Int) (c : UInt8) : Int := bits .xor .u64 (IntKind.u64.wrap (h * 1099511628211)) (IntKind.u64.wrap (c.toNat : Int))
/-- The digest of a text. -/
def digS (l : List UInt8) : Int × Int :=
  if l.foldl dig1 14695981039346656037 = 0 ∧ l.foldl dig2 14695981039346656037 = 0 then (0, 1) else (l.foldl dig1 14695981039346656037, l.foldl dig2 14695981039346656037)
theorem foldl_take {α β : Type} (f : β → α → β) (b : β) (l : List α) (k : Nat) (h : k < l.length) : (l.take (k + 1)).foldl f b = f ((l.take k).foldl f b) l[k] := by
  rw [List.take_succ_eq_append_getElem h, List.foldl_append]; rfl
theorem int_u64 {a b : Int} (h : a = b) : Value.int .u64 a = .int .u64 b := by rw [h]
theorem st1_any (h b : Int) (w : World) :
    Calls Try.prog 24 #[.int .u64 h, .int .u64 b] w fun e w' => e = .returned (.int .u64 (IntKind.u64.wrap (bits BinOp.xor IntKind.u64 h b * 1099511628211))) ∧ w = w' := by
  go_enter Try.func24, Try.ntmps24
  go_wp2_with fail
  go_ret
  exact ⟨rfl, rfl⟩
theorem st2_any (h b : Int) (w : World) :
    Calls Try.prog 25 #[.int .u64 h, .int .u64 b] w fun e w' => e = .returned (.int .u64 (bits BinOp.xor IntKind.u64 (IntKind.u64.wrap (h * 1099511628211)) b)) ∧ w = w' := by
  go_enter Try.func25, Try.ntmps25
  go_wp2_with fail
  go_ret
  exact ⟨rfl, rfl⟩
set_option maxHeartbeats 1000000 in
theorem hash1_any (L : List UInt8) (w : World) (hs : (L.length : Int) ≤ 140737488355328) :
    Calls Try.prog 23 #[.string ⟨L.toArray⟩, .func (.func 24) #[] #[]] w fun e w' => e = .returned (.int .u64 (L.foldl dig1 14695981039346656037)) ∧ w = w' := by
  have HF := Lib.hid st1_any
  obtain ⟨g, hg⟩ : ∃ g : List UInt8 → Int, g = fun l => l.foldl dig1 14695981039346656037 := ⟨_, rfl⟩
  have HG : Hid (∀ k (h : k < L.length), g (L.take (k + 1)) = dig1 (g (L.take k)) L[k]) := Lib.hid (fun k h => by rw [hg]; exact foldl_take _ _ _ _ h)
  have HG0 : Hid (g (L.take 0) = 14695981039346656037) := Lib.hid (by rw [hg]; rfl)
  have HGL : Hid (L.foldl dig1 14695981039346656037 = g L) := Lib.hid (by rw [hg])
  rw [HGL.out]
  clear hg HGL
  go_enter Try.func23, Try.ntmps23
  go_wp2_with fail
  go_loop [5, 9] (fun n i => ∃ (k : Nat) (x : Int), k ≤ L.length ∧ i = .int .i64 k ∧ n = .int .u64 x ∧ Hid (x = g (L.take k))) (fun _ i => L.length - (intOf i).toNat)
  case atStart => exact ⟨0, _, by omega, rfl, rfl, Lib.hid HG0.out.symm⟩
  case round =>
    obtain ⟨k, x, hk, rfl, rfl, HX⟩ := hrel
    by_cases hlt : k < L.length
    · have HN : Hid (g (L.take (k + 1)) = dig1 x L[k]) := Lib.hid (by rw [HX.out]; exact HG.out k hlt)
      go_wp2_with fail
      refine (HF.out _ _ _).mono ?_
      rintro e w' ⟨rfl, rfl⟩
      go_wp2_with fail
      go_round
      case rel => exact ⟨k + 1, _, by omega, by go_num, rfl, Lib.hid (by rw [HN.out]; rfl)⟩
      case measure => simp [intOf]; omega
    · have HN : Hid (x = g L) := Lib.hid (by rw [HX.out, List.take_of_length_le (by omega)])
      go_wp2_with fail
      go_ret
      exact ⟨by rw [← HN.out]; rfl, rfl⟩
set_option maxHeartbeats 1000000 in
theorem hash2_any (L : List UInt8) (w : World) (hs : (L.length : Int) ≤ 140737488355328) :
    Calls Try.prog 23 #[.string ⟨L.toArray⟩, .func (.func 25) #[] #[]] w fun e w' => e = .returned (.int .u64 (L.foldl dig2 14695981039346656037)) ∧ w = w' := by
  have HF := Lib.hid st2_any
  obtain ⟨g, hg⟩ : ∃ g : List UInt8 → Int, g = fun l => l.foldl dig2 14695981039346656037 := ⟨_, rfl⟩
  have HG : Hid (∀ k (h : k < L.length), g (L.take (k + 1)) = dig2 (g (L.take k)) L[k]) := Lib.hid (fun k h => by rw [hg]; exact foldl_take _ _ _ _ h)
  have HG0 : Hid (g (L.take 0) = 14695981039346656037) := Lib.hid (by rw [hg]; rfl)
  have HGL : Hid (L.foldl dig2 14695981039346656037 = g L) := Lib.hid (by rw [hg])
  rw [HGL.out]
  clear hg HGL
  go_enter Try.func23, Try.ntmps23
  go_wp2_with fail
  go_loop [5, 9] (fun n i => ∃ (k : Nat) (x : Int), k ≤ L.length ∧ i = .int .i64 k ∧ n = .int .u64 x ∧ Hid (x = g (L.take k))) (fun _ i => L.length - (intOf i).toNat)
  case atStart => exact ⟨0, _, by omega, rfl, rfl, Lib.hid HG0.out.symm⟩
  case round =>
    obtain ⟨k, x, hk, rfl, rfl, HX⟩ := hrel
    by_cases hlt : k < L.length
    · have HN : Hid (g (L.take (k + 1)) = dig2 x L[k]) := Lib.hid (by rw [HX.out]; exact HG.out k hlt)
      go_wp2_with fail
      refine (HF.out _ _ _).mono ?_
      rintro e w' ⟨rfl, rfl⟩
      go_wp2_with fail
      go_round
      case rel => exact ⟨k + 1, _, by omega, by go_num, rfl, Lib.hid (by rw [HN.out]; rfl)⟩
      case measure => simp [intOf]; omega
    · have HN : Hid (x = g L) := Lib.hid (by rw [HX.out, List.take_of_length_le (by omega)])
      go_wp2_with fail
      go_ret
      exact ⟨by rw [← HN.out]; rfl, rfl⟩
theorem eql_dig (x y x' y' : Int) (W : World) : (binOp .eql 30 (.agg #[.int .u64 x, .int .u64 y]) (.agg #[.int .u64 x', .int .u64 y'])).run Try.prog W = .ok (.bool (x == x' && y == y')) W := by
  obtain ⟨i0, hi0, _, hs, _⟩ := info_parts infoU64
  rw [run_eql_struct]
  have h := run_equalIn_array W 9999 #[.int .u64 x, .int .u64 y] #[.int .u64 x', .int .u64 y'] Try.underlying30 hi0
  rw [cellsU64, show List.range 2 = [0, 1] from rfl] at h
  have h2 : (Op.equalIn 10000 30 (.agg #[.int .u64 x, .int .u64 y]) (.agg #[.int .u64 x', .int .u64 y'])).run Try.prog W = _ := h
  rw [h2]
  have p0 : ∀ (a b : Int) (V : World), (Go.part 28 #[.int .u64 a, .int .u64 b] (0 * 1)).run Try.prog V = .ok (.int .u64 a) V := fun a b V => run_part_plain V plainU64 rfl
  have p1 : ∀ (a b : Int) (V : World), (Go.part 28 #[.int .u64 a, .int .u64 b] (1 * 1)).run Try.prog V = .ok (.int .u64 b) V := fun a b V => run_part_plain V plainU64 rfl
  have q : ∀ (a b : Int) (V : World), (Op.equalIn 9999 28 (.int .u64 a) (.int .u64 b)).run Try.prog V = .ok (a == b) V := fun a b V => run_equalIn_int V 9998 _ _ _ a b Try.underlying28
  simp only [Op.eqItems, Sem.run_bind, p0, q, Result.andThen_ok]
  have p1' : ∀ (a b : Int) (V : World), (Go.part 28 #[.int .u64 a, .int .u64 b] 1).run Try.prog V = .ok (.int .u64 b) V := p1
  by_cases h1 : x = x' <;> by_cases h3 : y = y' <;> simp [h1, h3, p1', q]
set_option maxHeartbeats 1000000 in
theorem of_any (L : List UInt8) (w : World) (hs : (L.length : Int) ≤ 140737488355328) :
    Calls Try.prog 12 #[.string ⟨L.toArray⟩] w fun e w' => e = .returned (.agg #[.int .u64 (digS L).1, .int .u64 (digS L).2]) ∧ Below w.heap.size w w' := by
  have H1 := Lib.hid (fun w => hash1_any L w hs)
  have H2 := Lib.hid (fun w => hash2_any L w hs)
  have HD : Hid (digS L = if L.foldl dig1 14695981039346656037 = 0 ∧ L.foldl dig2 14695981039346656037 = 0 then (0, 1) else (L.foldl dig1 14695981039346656037, L.foldl dig2 14695981039346656037)) := Lib.hid rfl
  obtain ⟨R, hR⟩ : ∃ R, R = digS L := ⟨_, rfl⟩
  rw [← hR] at HD ⊢
  clear hR
  generalize L.foldl dig1 14695981039346656037 = x at H1 HD
  generalize L.foldl dig2 14695981039346656037 = y at H2 HD
  by_cases hz : x = 0 ∧ y = 0
  · obtain ⟨rfl, rfl⟩ := hz
    have HF : Hid (R = (0, 1)) := Lib.hid (by rw [HD.out]; rfl)
    have hq := fun W => eql_dig 0 0 0 0 W
    simp only [beq_self_eq_true, Bool.and_self] at hq
    go_enter Try.func12, Try.ntmps12
    go_wp2_with fail
    refine (H1.out _).mono ?_
    rintro e w1 ⟨rfl, rfl⟩
    go_wp2_with fail
    refine (H2.out _).mono ?_
    rintro e w1 ⟨rfl, rfl⟩
    go_wp2_with fail
    refine bodyPost_ret (v := .agg #[.int .u64 0, .int .u64 1]) (by simp [results, Try.results12, go_sem]) rfl ⟨by rw [HF.out], ?_⟩
    exact ((Below.refl _ w).alloc (Nat.le_refl _) _).alloc (by simp) _
  · have HF : Hid (R = (x, y)) := Lib.hid (by rw [HD.out, if_neg hz])
    have hq := fun W => eql_dig x y 0 0 W
    have hv : (x == 0 && y == 0) = false := by
      by_cases h1 : x = 0 <;> by_cases h3 : y = 0 <;> simp [h1, h3] at hz ⊢
    rw [hv] at hq
    clear hz hv
    go_enter Try.func12, Try.ntmps12
    go_wp2_with fail
    refine (H1.out _).mono ?_
    rintro e w1 ⟨rfl, rfl⟩
    go_wp2_with fail
    refine (H2.out _).mono ?_
    rintro e w1 ⟨rfl, rfl⟩
    go_wp2_with fail
    refine bodyPost_ret (v := .agg #[.int .u64 x, .int .u64 y]) (by simp [results, Try.results12, go_sem]) rfl ⟨by rw [HF.out], ?_⟩
    exact ((Below.refl _ w).alloc (Nat.le_refl _) _).alloc (by simp) _
def dcells (ds : List (Int × Int)) : List Value := ds.flatMap fun d => [.int .u64 d.1, .int .u64 d.2]
theorem dcells_append (a b : List (Int × Int)) : dcells (a ++ b) = dcells a ++ dcells b := by simp [dcells]
theorem dcells_at : ∀ (ds : List (Int × Int)) (i : Nat) (h : i < ds.length), (dcells ds)[i * 2]? = some (.int .u64 ds[i].1) ∧ (dcells ds)[i * 2 + 1]? = some (.int .u64 ds[i].2)
  | [], i, h => by simp at h
  | d :: ds, 0, h => by simp [dcells]
  | d :: ds, i + 1, h => by
    have h' : i < ds.length := by simpa using h
    have e : dcells (d :: ds) = [.int .u64 d.1, .int .u64 d.2] ++ dcells ds := by simp [dcells]
    have g : ∀ j, (dcells (d :: ds))[(i + 1) * 2 + j]? = (dcells ds)[i * 2 + j]? := fun j => by
      rw [e, List.getElem?_append_right (by simp; omega)]
      congr 1
      simp
      omega
    have := dcells_at ds i h'
    simp only [List.getElem_cons_succ]
    exact ⟨(g 0).trans this.1, (g 1).trans this.2⟩
theorem ownsRow_digs {w : World} {base : Nat} {a : Option Addr} {cap : Nat} {ds : List (Int × Int)} (h : w.ownsRow base 30 2 (.slice a ds.length cap) ds.length (dcells ds)) : Digs w.heap.size w a ds := by
  intro i hi
  rcases h.2 with ⟨h1, h2⟩ | ⟨g, cap', cur, h1, _, hg, _⟩
  · omega
  · cases h1
    obtain ⟨c0, c1⟩ := dcells_at ds i hi
    refine ⟨g, 0, rfl, (Array.getElem?_eq_some_iff.1 hg).1, ?_, ?_⟩
    · have := h.cells (g := g) rfl _ _ c0; rwa [Go.WideShapes.add_plain] at this
    · have := h.cells (g := g) rfl _ _ c1; rwa [Go.WideShapes.add_plain, ← Nat.add_assoc] at this
theorem infoDig : (Try.prog.info? 30).map (fun i => (i.zero, i.size, i.bytes)) = some (some (.agg #[.int .u64 0, .int .u64 0]), 2, 16) := by kernel_rfl
theorem gcell2 {u w' : World} {row : Option Nat} (hg : u.grownBy w' row) {b : Nat} (hb : b < u.heap.size) (hr : row ≠ some b) (j : Nat) : w'.cell? ⟨b, j, none⟩ = u.cell? ⟨b, j, none⟩ ∧ w'.frozen? ⟨b, j, none⟩ = u.frozen? ⟨b, j, none⟩ := by
  have hk := hg.block b hb (fun h => hr h.symm)
  exact ⟨World.cell?_of_block (a := ⟨b, j, none⟩) hk, World.frozen?_of_block (a := ⟨b, j, none⟩) hk⟩
theorem gset (x : World) (b j : Nat) (v : Value) : x.grownBy (x.setCell ⟨b, j, none⟩ v) (some b) := ⟨rfl, rfl, rfl, by simp, fun k _ hk => Below.heap_setCell _ _ _ k (fun e => hk (by rw [e]))⟩
theorem gtrans {x y z : World} {r : Option Nat} (h1 : x.grownBy y r) (h2 : y.grownBy z r) : x.grownBy z r :=
  ⟨h2.os.trans h1.os, h2.tape.trans h1.tape, h2.output.trans h1.output, Nat.le_trans h1.size h2.size, fun k hk hr => (h2.block k (Nat.lt_of_lt_of_le hk h1.size) hr).trans (h1.block k hk hr)⟩
theorem wrap_u64 (n : Int) : IntKind.u64.wrap n = n % 18446744073709551616 := by
  simp [IntKind.wrap, IntKind.bits, IntKind.signed]
theorem fstep_eq (x : Int) (c : UInt8) : fstep x c = (x * 256) % 18446744073709551616 + c.toNat := by
  have hc := c.toNat_lt
  have hc' : (c.toNat : Int) % 18446744073709551616 = c.toNat := by omega
  unfold fstep bits
  simp only [wrap_u64, hc']
  obtain ⟨q, hq⟩ : ∃ q : Nat, (x * 256) % 18446744073709551616 = ((q * 256 : Nat) : Int) := ⟨((x * 256) % 18446744073709551616 / 256).toNat, by omega⟩
  have hq2 : q * 256 < 18446744073709551616 := by omega
  rw [hq]
  have e1 : (BitVec.ofInt IntKind.u64.bits ((q * 256 : Nat) : Int)).toNat = q * 256 := by
    simp only [IntKind.bits, BitVec.ofInt_natCast, BitVec.toNat_ofNat]
    exact Nat.mod_eq_of_lt hq2
  have e2 : (BitVec.ofInt IntKind.u64.bits ((c.toNat : Nat) : Int)).toNat = c.toNat := by
    simp only [IntKind.bits, BitVec.ofInt_natCast, BitVec.toNat_ofNat]
    exact Nat.mod_eq_of_lt (by omega)
  rw [BitVec.toNat_or, e1, e2]
  have e3 : q * 256 ||| c.toNat = q * 256 + c.toNat := by
    have := Nat.shiftLeft_add_eq_or_of_lt (i := 8) (b := c.toNat) (by omega) q
    rw [Nat.shiftLeft_eq] at this
    exact this.symm
  rw [e3]
  omega
/-- The number whose bytes are given, as a natural number. -/
def fixN (l : List UInt8) : Nat := l.foldl (fun n c => n * 256 + c.toNat) 0
theorem fix_go (l : List UInt8) : ∀ (n : Nat), (n + 1) * 256 ^ l.length ≤ 18446744073709551616 → l.foldl fstep (n : Int) = ((l.foldl (fun n c => n * 256 + c.toNat) n : Nat) : Int) := by
  induction l with
  | nil => intro n _; rfl
  | cons c l ih =>
    intro n h
    have hc := c.toNat_lt
    rw [List.length_cons, Nat.pow_succ] at h
    have hp : 1 ≤ 256 ^ l.length := Nat.one_le_pow _ _ (by omega)
    have h2 : (n * 256 + c.toNat + 1) * 256 ^ l.length ≤ 18446744073709551616 := by
      refine Nat.le_trans (Nat.mul_le_mul_right _ (show n * 256 + c.toNat + 1 ≤ (n + 1) * 256 by omega)) ?_
      rw [Nat.mul_assoc, Nat.mul_comm 256]; exact h
    have h3 : n * 256 + c.toNat + 1 ≤ 18446744073709551616 := Nat.le_trans (Nat.le_mul_of_pos_right _ hp) h2
    simp only [List.foldl_cons]
    rw [← ih _ h2, fstep_eq]
    congr 1
    rw [Int.emod_eq_of_lt (by omega) (by omega)]
    simp
theorem fix_is (l : List UInt8) (h : l.length ≤ 8) : fixS l = (fixN l : Int) := by
  refine fix_go l 0 ?_
  rw [Nat.zero_add, Nat.one_mul]
  exact Nat.le_trans (Nat.pow_le_pow_right (by omega) h) (by decide)
theorem fixN_go (l : List UInt8) : ∀ n : Nat, l.foldl (fun n c => n * 256 + c.toNat) n < (n + 1) * 256 ^ l.length := by
  induction l with
  | nil => intro n; simp
  | cons c l ih =>
    intro n
    have hc := c.toNat_lt
    rw [List.foldl_cons, List.length_cons, Nat.pow_succ]
    refine Nat.lt_of_lt_of_le (ih _) ?_
    rw [Nat.mul_comm (256 ^ l.length), ← Nat.mul_assoc]
    exact Nat.mul_le_mul_right _ (by omega)
theorem fixN_lt (l : List UInt8) : fixN l < 256 ^ l.length := by
  have := fixN_go l 0
  rwa [Nat.zero_add, Nat.one_mul] at this
theorem Digs.kept {w w' : World} {a : Option Addr} {ds : List (Int × Int)} {row : Option Nat} (h : Digs w.heap.size w a ds) (hg : w.grownBy w' row) (hne : 0 < ds.length → ∀ ad, a = some ad → row ≠ some ad.block) : Digs w'.heap.size w' a ds := by
  intro i hi
  obtain ⟨b, off, rfl, hlt, h1, h2⟩ := h i hi
  have hr : row ≠ some b := hne (by omega) _ rfl
  exact ⟨b, off, rfl, Nat.lt_of_lt_of_le hlt hg.size, (hg.cell_far ⟨b, off + i * 2, none⟩ hlt (fun e => hr e.symm)).trans h1, (hg.cell_far ⟨b, off + i * 2 + 1, none⟩ hlt (fun e => hr e.symm)).trans h2⟩
theorem sl_int (A : List UInt8) (i j : Int) (h0 : 0 ≤ i) (h : i ≤ j) (hj : j ≤ A.length) (W : World) : (Instr.slice 9 (.string ⟨A.toArray⟩) (some (.int .i64 i)) (some (.int .i64 j)) none).run Try.prog W = .ok (.string ⟨((A.drop i.toNat).take (j.toNat - i.toNat)).toArray⟩) W := by
  have := sl_mid A i.toNat j.toNat (by omega) (by omega) W
  rwa [Int.toNat_of_nonneg h0, Int.toNat_of_nonneg (by omega)] at this
theorem wrap_i64 {n : Int} (h0 : 0 ≤ n) (h1 : n ≤ 9223372036854775807) : IntKind.i64.wrap n = n := by
  simp only [IntKind.wrap, IntKind.bits, IntKind.signed]
  simp
  omega
/-- So many bytes of a number, the greatest first. -/
def be : Nat → Int → List UInt8
  | 0, _ => []
  | k + 1, n => UInt8.ofNat ((n / 2 ^ (8 * k)) % 256).toNat :: be k n
theorem be_length : ∀ (k : Nat) (n : Int), (be k n).length = k
  | 0, _ => rfl
  | k + 1, n => by rw [be, List.length_cons, be_length]
theorem takeL {a : List UInt8} {n : Nat} (h : a.length = n) (b : List UInt8) : (a ++ b).take n = a := by subst h; rw [List.take_left]
theorem dropL {a : List UInt8} {n : Nat} (h : a.length = n) (b : List UInt8) : (a ++ b).drop n = b := by subst h; rw [List.drop_left]
theorem pow8 (k : Nat) : 2 ^ (8 * k) = 256 ^ k := by rw [Nat.pow_mul]
end Go.Proofs.Ytlfodnehgedpmaa
