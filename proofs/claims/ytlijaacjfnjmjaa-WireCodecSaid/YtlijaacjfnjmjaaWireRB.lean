/- The reference's body. -/
import Derived.Test.YtlijaacjfnjmjaaWireREn
namespace Go.Proofs.Ytlijaacjfnjmjaa
open Go.RowKit
set_option linter.unusedVariables false

/-- So many numbers at the beginning of a text, whatever is there. -/
def refN : Nat → List UInt8 → List Int × List UInt8
  | 0, l => ([], l)
  | k + 1, l => ((Cw.getI l).1 :: (refN k (l.drop (Cw.getI l).2.1.toNat)).1, (refN k (l.drop (Cw.getI l).2.1.toNat)).2)
/-- At most so many digests. -/
def refDs : Nat → List UInt8 → List (Int × Int) × List UInt8
  | 0, l => ([], l)
  | c + 1, l => if l.length < 16 then ([], l) else ((fixS (l.take 8), fixS ((l.drop 8).take 8)) :: (refDs c (l.drop 16)).1, (refDs c (l.drop 16)).2)
/-- The message that a body seems to contain. -/
def refBodyS (l : List UInt8) : Msg :=
  ⟨(refN 5 l).1.getD 0 0, (refN 5 l).1.getD 1 0, (refN 5 l).1.getD 2 0, (refN 5 l).1.getD 3 0, (refDs ((refN 5 l).1.getD 4 0).toNat (refN 5 l).2).1, (Cw.getT (refDs ((refN 5 l).1.getD 4 0).toNat (refN 5 l).2).2).1⟩
theorem getI_all {l : List UInt8} {n u er : Int} (h : Cw.getI l = (n, u, er)) : 0 ≤ n ∧ n ≤ 1099511627776 ∧ 0 ≤ u ∧ u ≤ l.length := by
  by_cases he : er = 0
  · subst he
    have := getI_bounds h
    omega
  · have h1 : (Cw.getGo 6 0 0 1 l).2.2 ≠ 0 := by
      have : Cw.getGo 6 0 0 1 l = (n, u, er) := h
      rw [this]; exact he
    have h2 : Cw.getGo 6 0 0 1 l = (n, u, er) := h
    rcases getGo_err 6 0 0 1 l h1 with h3 | h3
    · rw [h3] at h2; simp only [Prod.mk.injEq] at h2; omega
    · rw [h3] at h2; simp only [Prod.mk.injEq] at h2; omega
theorem refN_of : ∀ (k : Nat) (l : List UInt8) (ns : List Int) (r : List UInt8), getN k l = some (ns, r) → refN k l = (ns, r)
  | 0, l, ns, r, h => by simpa [getN, refN] using h
  | k + 1, l, ns, r, h => by
    rw [getN] at h
    split at h
    · cases h
    · cases hn : getN k (l.drop (Cw.getI l).2.1.toNat) with
      | none => rw [hn] at h; cases h
      | some x =>
        obtain ⟨ns', r'⟩ := x
        rw [hn] at h
        simp only [Option.map_some, Option.some.injEq, Prod.mk.injEq] at h
        rw [refN, refN_of k _ _ _ hn, ← h.1, ← h.2]
theorem refDs_of : ∀ (c : Nat) (r : List UInt8), 16 * c ≤ r.length → refDs c r = (getDs c r, r.drop (16 * c))
  | 0, r, _ => by simp [refDs, getDs]
  | c + 1, r, h => by
    rw [refDs, if_neg (by omega), refDs_of c (r.drop 16) (by rw [List.length_drop]; omega), getDs, List.drop_drop]
    rw [show 16 * (c + 1) = 16 + 16 * c by omega]
theorem refBody_of {T : List UInt8} {m : Msg} (h : decS T = some m) : refBodyS T = m := by
  unfold decS at h
  split at h
  · rename_i kind id off tot c r hg
    split at h
    · cases h
    · rename_i hc
      have hc0 := (getN_canon 5 T _ _ hg).2 c (by simp)
      unfold refBodyS
      rw [refN_of 5 _ _ _ hg]
      simp only [List.getD_cons_zero, List.getD_cons_succ]
      rw [refDs_of c.toNat r (by omega)]
      unfold decT at h
      split at h
      · cases h
      · split at h
        · cases h; rfl
        · cases h
  · cases h
theorem refDs_ok : ∀ (c : Nat) (l : List UInt8), DOk (refDs c l).1 ∧ 16 * (refDs c l).1.length ≤ l.length ∧ (refDs c l).2.length ≤ l.length
  | 0, l => by simp [refDs, DOk]
  | c + 1, l => by
    rw [refDs]
    split
    · simp [DOk]
    · obtain ⟨h1, h2, h3⟩ := refDs_ok c (l.drop 16)
      rw [List.length_drop] at h2 h3
      refine ⟨fun d hd => ?_, ?_, ?_⟩
      · rcases List.mem_cons.1 hd with rfl | hd
        · exact ⟨fixS_range _ (by simp; omega), fixS_range _ (by simp; omega)⟩
        · exact h1 d hd
      · rw [List.length_cons]; omega
      · simp only; omega

/-- The relation of the first loop. -/
def R5 (L : List UInt8) (k : Nat) (ns : List Int) (l : List UInt8) : Prop := refN 5 L = (ns ++ (refN (5 - k) l).1, (refN (5 - k) l).2)
theorem R5.start (L : List UInt8) : R5 L 0 [] L := rfl
theorem R5.next {L : List UInt8} {k : Nat} {ns : List Int} {l : List UInt8} (h : R5 L k ns l) (hk : k < 5) {n u er : Int} (hg : Cw.getI l = (n, u, er)) : R5 L (k + 1) (ns ++ [n]) (l.drop u.toNat) := by
  unfold R5 at h ⊢
  rw [h, show 5 - k = (5 - (k + 1)) + 1 by omega, refN, hg]
  simp
theorem R5.fin {L : List UInt8} {ns : List Int} {l : List UInt8} (h : R5 L 5 ns l) : refN 5 L = (ns, l) := by
  unfold R5 at h
  rw [h]
  simp [refN]
/-- The relation of the second loop. -/
def RD (c : Nat) (r : List UInt8) (j : Nat) (ds : List (Int × Int)) (l : List UInt8) : Prop := refDs c r = (ds ++ (refDs (c - j) l).1, (refDs (c - j) l).2) ∧ ds.length = j
theorem RD.start (c : Nat) (r : List UInt8) : RD c r 0 [] r := ⟨rfl, rfl⟩
theorem RD.next {c : Nat} {r : List UInt8} {j : Nat} {ds : List (Int × Int)} {l : List UInt8} (h : RD c r j ds l) (hj : j < c) (hl : 16 ≤ l.length) : RD c r (j + 1) (ds ++ [(fixS (l.take 8), fixS ((l.drop 8).take 8))]) (l.drop 16) := by
  obtain ⟨h1, h2⟩ := h
  refine ⟨?_, by simp [h2]⟩
  rw [h1, show c - j = (c - (j + 1)) + 1 by omega, refDs, if_neg (by omega)]
  simp
theorem RD.fin {c : Nat} {r : List UInt8} {j : Nat} {ds : List (Int × Int)} {l : List UInt8} (h : RD c r j ds l) (hs : c ≤ j ∨ l.length < 16) : refDs c r = (ds, l) := by
  obtain ⟨h1, _⟩ := h
  rw [h1]
  by_cases hc : c ≤ j
  · rw [Nat.sub_eq_zero_of_le hc]; simp [refDs]
  · rw [show c - j = (c - (j + 1)) + 1 by omega, refDs, if_pos (by omega)]; simp

/-- What body leaves. -/
def Bodd (w : World) (m : Msg) (e : Ending) (w' : World) : Prop :=
  ∃ a c, e = .returned (m.val a c) ∧ Digs w'.heap.size w' a m.ds ∧ Below w.heap.size w w' ∧ ∀ ad, a = some ad → w.heap.size ≤ ad.block
theorem bodd_ok {w x : World} {R : Msg} {n0 n1 n2 n3 : Int} {ds : List (Int × Int)} {T : List UInt8} {av : Option Addr} {cv : Nat} (hR : R = ⟨n0, n1, n2, n3, ds, T⟩) (hb : Below w.heap.size w x) (ho : x.ownsRow (w.heap.size + 3) 72 2 (.slice av ds.length cv) ds.length (dcells ds)) :
    Bodd w R (.returned (.agg #[.int .i64 n0, .int .i64 n1, .int .i64 n2, .int .i64 n3, .slice av ds.length cv, .string ⟨T.toArray⟩]))
      ((((((x.setCell ⟨w.heap.size, 0, none⟩ (.int .i64 n0)).setCell ⟨w.heap.size, 1, none⟩ (.int .i64 n1)).setCell ⟨w.heap.size, 2, none⟩ (.int .i64 n2)).setCell ⟨w.heap.size, 3, none⟩ (.int .i64 n3)).setCell ⟨w.heap.size, 4, none⟩ (.slice av ds.length cv)).setCell ⟨w.heap.size, 5, none⟩ (.string ⟨T.toArray⟩)) := by
  have h := decd_ok (R := some R) (by rw [hR]) hb ho
  obtain ⟨a, c, he, hd, hbb, hl⟩ := h
  subst hR
  simp only [Option.getD_some, Ending.returned.injEq, Value.tuple.injEq] at he hd
  have he2 : Value.agg #[.int .i64 n0, .int .i64 n1, .int .i64 n2, .int .i64 n3, .slice av ds.length cv, .string ⟨T.toArray⟩] = (Msg.val ⟨n0, n1, n2, n3, ds, T⟩ a c) := by
    have := congrArg (fun x : Array Value => x[0]?) he
    simpa using this
  exact ⟨a, c, by rw [he2], hd, hbb, hl⟩

set_option maxRecDepth 100000 in
set_option maxHeartbeats 4000000 in
theorem refBody_any (L : List UInt8) (w : World) (hL : (L.length : Int) ≤ 1000000000000) :
    Calls Try.prog 51 #[.string ⟨L.toArray⟩] w (Bodd w (refBodyS L)) := by
  obtain ⟨R, hR⟩ : ∃ R, R = refBodyS L := ⟨_, rfl⟩
  rw [← hR]
  have HR := Lib.hid hR
  clear hR
  go_enter Try.func51, Try.ntmps51
  go_upto_block 0 with fail
  go_cut [0] from 4 to 25 (fun s wx => ∃ (n0 n1 n2 n3 n4 : Int) (l : List UInt8), s = .string ⟨l.toArray⟩ ∧ wx = decW w n0 n1 n2 n3 n4 ∧ (l.length : Int) ≤ L.length ∧ Hid (R5 L 5 [n0, n1, n2, n3, n4] l) ∧ Hid (inN [n0, n1, n2, n3, n4]))
  case first =>
    go_wp2_with fail
    go_loopw [0, 4] (fun s i wr => ∃ (k : Nat) (n0 n1 n2 n3 n4 : Int) (l : List UInt8), k ≤ 5 ∧ i = .int .i64 k ∧ s = .string ⟨l.toArray⟩ ∧ wr = decW w n0 n1 n2 n3 n4 ∧ (l.length : Int) ≤ L.length ∧ Hid (R5 L k ([n0, n1, n2, n3, n4].take k) l) ∧ Hid (inN ([n0, n1, n2, n3, n4].take k))) (fun _ i _ => 5 - (intOf i).toNat)
    case atStart => exact ⟨0, 0, 0, 0, 0, 0, L, by omega, rfl, rfl, rfl, by omega, Lib.hid (R5.start L), Lib.hid (fun n hn => by simp at hn)⟩
    case round =>
      obtain ⟨k, n0, n1, n2, n3, n4, l, hk, rfl, rfl, rfl, hl, HG5, HIN⟩ := hrel
      by_cases hlt : k < 5
      · obtain ⟨n, u, er, hg⟩ : ∃ n u er, Cw.getI l = (n, u, er) := ⟨_, _, _, rfl⟩
        have HGI := Lib.hid (fun X => refGetInt_is (s := ⟨l.toArray⟩) (n := n) (k := u) (er := er) (by simpa using hg) X)
        have hb := getI_all hg
        have HN1 := Lib.hid (HG5.out.next (by omega) hg)
        have HIN1 : Hid (inN ([n0, n1, n2, n3, n4].take k ++ [n])) := Lib.hid (fun x hx => by
          rcases List.mem_append.1 hx with hx | hx
          · exact HIN.out x hx
          · simp only [List.mem_singleton] at hx; subst hx; omega)
        obtain ⟨u0, rfl⟩ : ∃ u0 : Nat, u = (u0 : Int) := ⟨u.toNat, by omega⟩
        rw [Int.toNat_natCast] at HN1
        have hul : u0 ≤ l.length := by omega
        have hsl := fun W => sl_lo l u0 hul W
        have hex : (⟨l.toArray⟩ : ByteArray).extract u0 l.length = ⟨(l.drop u0).toArray⟩ := by rw [ex_mid, List.take_of_length_le (by simp)]
        obtain ⟨l', hl'⟩ : ∃ l', l' = l.drop u0 := ⟨_, rfl⟩
        have hll : (l'.length : Int) ≤ L.length := by rw [hl', List.length_drop]; omega
        rw [← hl'] at hsl HN1 hex
        clear hl' hg hb HG5 HIN
        rcases (show k = 0 ∨ k = 1 ∨ k = 2 ∨ k = 3 ∨ k = 4 by omega) with rfl | rfl | rfl | rfl | rfl
        all_goals clear hk hlt
        · go_wp2_with fail
          refine (HGI.out _).mono ?_
          rintro e w' ⟨rfl, rfl⟩
          go_wp2_with fail
          go_roundw
          case rel => exact ⟨1, n, n1, n2, n3, n4, l', by omega, rfl, rfl, rfl, hll, HN1, HIN1⟩
          case measure => simp [intOf]
        · go_wp2_with fail
          refine (HGI.out _).mono ?_
          rintro e w' ⟨rfl, rfl⟩
          go_wp2_with fail
          go_roundw
          case rel => exact ⟨2, n0, n, n2, n3, n4, l', by omega, rfl, rfl, rfl, hll, HN1, HIN1⟩
          case measure => simp [intOf]
        · go_wp2_with fail
          refine (HGI.out _).mono ?_
          rintro e w' ⟨rfl, rfl⟩
          go_wp2_with fail
          go_roundw
          case rel => exact ⟨3, n0, n1, n, n3, n4, l', by omega, rfl, rfl, rfl, hll, HN1, HIN1⟩
          case measure => simp [intOf]
        · go_wp2_with fail
          refine (HGI.out _).mono ?_
          rintro e w' ⟨rfl, rfl⟩
          go_wp2_with fail
          go_roundw
          case rel => exact ⟨4, n0, n1, n2, n, n4, l', by omega, rfl, rfl, rfl, hll, HN1, HIN1⟩
          case measure => simp [intOf]
        · go_wp2_with fail
          refine (HGI.out _).mono ?_
          rintro e w' ⟨rfl, rfl⟩
          go_wp2_with fail
          go_roundw
          case rel => exact ⟨5, n0, n1, n2, n3, n, l', by omega, rfl, rfl, rfl, hll, HN1, HIN1⟩
          case measure => simp [intOf]
      · obtain rfl : k = 5 := by omega
        go_wp2_with fail
        go_meet
        case rel => exact ⟨n0, n1, n2, n3, n4, l, rfl, rfl, hl, HG5, HIN⟩
  case rest =>
    obtain ⟨n0, n1, n2, n3, n4, l, rfl, rfl, hl, HG5, HIN⟩ := hcut
    have HF5 := Lib.hid HG5.out.fin
    have hb4 := HIN.out n4 (by simp)
    obtain ⟨c, rfl⟩ : ∃ c : Nat, n4 = (c : Int) := ⟨n4.toNat, by omega⟩
    clear HIN HG5
    have HRM : Hid (R = ⟨n0, n1, n2, n3, (refDs c l).1, (Cw.getT (refDs c l).2).1⟩) := Lib.hid (by
      rw [HR.out]
      unfold refBodyS
      rw [HF5.out]
      simp only [List.getD_cons_zero, List.getD_cons_succ, Int.toNat_natCast])
    obtain ⟨i0', hi, hz0, hz1, hz2⟩ := info_parts infoDig
    have HZI := Lib.hid hz0
    clear hz0 HR HF5
    have hc1 : (c : Int) ≤ 1099511627776 := hb4.2
    clear hb4
    go_wp2_with fail
    go_loopw [0, 9] (fun s i wr => ∃ (j : Nat) (l2 : List UInt8) (ds : List (Int × Int)) (v : Value), j ≤ c ∧ i = .int .i64 j ∧ s = .string ⟨l2.toArray⟩ ∧ 16 * j + l2.length ≤ l.length ∧ Hid (wr.ownsRow (w.heap.size + 3) 72 2 v ds.length (dcells ds)) ∧ Hid (DW w.heap.size (w.heap.size + 1 + 1) n0 n1 n2 n3 wr v (.string ⟨#[]⟩)) ∧ Hid (Below w.heap.size w wr) ∧ w.heap.size + 3 ≤ wr.heap.size ∧ Hid (RD c l j ds l2) ∧ Hid (wr.cell? ⟨w.heap.size + 1, 4, none⟩ = some (.int .i64 c))) (fun _ i _ => c - (intOf i).toNat)
    case atStart => exact ⟨0, l, [], .slice none 0 0, by omega, rfl, rfl, by omega, Lib.hid (World.ownsRow_nil _ _ _ _), Lib.hid ⟨by simp [go_sem], by simp [go_sem], by simp [go_sem], by simp [go_sem], by simp [go_sem], by simp [go_sem], fun j => by simp [go_sem], by simp [go_sem], by simp [go_sem], by simp [go_sem], by simp [go_sem], by simp [go_sem], by simp [go_sem], fun j => by simp [go_sem]⟩, Lib.hid ((decW_below w n0 n1 n2 n3 c).alloc (by simp; omega) _), by simp, Lib.hid (RD.start c l), Lib.hid (by simp [go_sem])⟩
    case round =>
      obtain ⟨j, l2, ds, v, hj, rfl, rfl, hl2, HO, HDW, HB, hws, HGD, HC4⟩ := hrel
      have hdl : ds.length = j := HGD.out.2
      have a4 := HC4.out
      by_cases hlt : j < c ∧ 16 ≤ l2.length
      · obtain ⟨hlt, h16⟩ := hlt
        have h16' : (16 : Int) ≤ (l2.length : Int) := by omega
        have HDL := Lib.hid hdl
        have HN1 := Lib.hid (HGD.out.next hlt h16)
        obtain ⟨X1, hX1⟩ : ∃ X1, X1 = l2.take 8 := ⟨_, rfl⟩
        obtain ⟨X2, hX2⟩ : ∃ X2, X2 = (l2.drop 8).take 8 := ⟨_, rfl⟩
        obtain ⟨X3, hX3⟩ : ∃ X3, X3 = l2.drop 16 := ⟨_, rfl⟩
        have hx3 : 16 * (j + 1) + X3.length ≤ l.length := by rw [hX3, List.length_drop]; omega
        rw [← hX1, ← hX2, ← hX3] at HN1
        have hs1 : ∀ W, (Instr.slice 9 (.string ⟨l2.toArray⟩) none (some (.int .i64 8)) none).run Try.prog W = .ok (.string ⟨X1.toArray⟩) W := fun W => by rw [hX1]; exact sl_hi l2 8 (by omega) W
        have hs2 : ∀ W, (Instr.slice 9 (.string ⟨l2.toArray⟩) (some (.int .i64 8)) (some (.int .i64 16)) none).run Try.prog W = .ok (.string ⟨X2.toArray⟩) W := fun W => by rw [hX2]; exact sl_mid l2 8 16 (by omega) (by omega) W
        have hs3 : (⟨l2.toArray⟩ : ByteArray).extract 16 l2.length = ⟨X3.toArray⟩ := by rw [hX3, ex_mid, List.take_of_length_le (by simp)]
        have HF1 := Lib.hid (fun W => value_any X1 W (by rw [hX1]; simp; omega))
        have HF2 := Lib.hid (fun W => value_any X2 W (by rw [hX2]; simp; omega))
        generalize fixS X1 = y1 at HF1 HN1
        generalize fixS X2 = y2 at HF2 HN1
        have hlen : (ds.length : Int) ≤ 1000000000000 := by omega
        clear hX1 hX2 hX3 hdl
        have c4 := HDW.out.c4
        have c4' := fun x => cell_a1 c4 x
        go_wp2_with fail
        go_region_law
          (first
          | (refine step_append_lies _ (by rfl) (.tmp 47) (.tmp 55) _ (by rfl) (w.heap.size + 3) 72 i0' _ 2 16 Try.underlying32 hi HZI.out hz1 hz2 rfl (by omega) _ ds.length (dcells ds) (by rfl) (HO.out.alloc _).drew ⟨wr.heap.size, 0, none⟩ 1 1 [.int .u64 y1, .int .u64 y2] (by rfl) (by rfl) (World.news_of_block (cs := #[.int .u64 y1, .int .u64 y2]) (t := 72) (fr := (0, 0)) (heap_alloc_new wr _)) (by simp [Value.oneCell']) (by omega) (by have := HDL.out; unfold maxLen; omega) (by have := HDL.out; omega) (by simp; omega) _ rfl ?_; intro g cap x hown1 hgrow1 hat1 hlt1; (have HX4 := (HDW.out.below (((Below.refl _ _).alloc (Nat.le_refl _) (.cells #[.int .u64 y1, .int .u64 y2] 72)).drew) (by omega) (by omega)).keep (fun j => gcell2 hgrow1 (b := w.heap.size + 1 + 1) (by simp; omega) (fun e => by have := (HO.out.lt _ e).1; omega) j) (fun j => gcell2 hgrow1 (b := w.heap.size) (by simp; omega) (fun e => by have := (HO.out.lt _ e).1; omega) j)); (have HX5 := (gcell2 hgrow1 (b := w.heap.size + 1) (by simp; omega) (fun e => by have := (HO.out.lt _ e).1; omega) 4).1); (have e4 := HX4.c4); (have e5 := HX4.f 4))
          | (go_simp; (first | (with_reducible refine (HF1.out _).mono ?_) | (with_reducible refine (HF2.out _).mono ?_)); rintro e w' ⟨rfl, rfl⟩)
          | fail)
        all_goals
          have HXB : Hid (Below w.heap.size w x) := Lib.hid (Below.grown ((HB.out.alloc (by omega) _).drew) hgrow1 (by simp; omega) (fun k hk => by have := (HO.out.lt k hk).1; omega))
          have hxs : w.heap.size + 3 ≤ x.heap.size := by have := hgrow1.size; simp at this; omega
          have HXO := Lib.hid hown1
          have HXD := Lib.hid HX4
          have HXC : Hid (x.cell? ⟨w.heap.size + 1, 4, none⟩ = some (.int .i64 c)) := Lib.hid (HX5.trans (cell_a1 HC4.out _))
          clear hown1 hgrow1 hat1 hlt1 HX4 HX5
          go_wp2_with fail
          go_roundw
          case rel =>
            refine ⟨j + 1, X3, ds ++ [(y1, y2)], .slice (some ⟨g, 0, none⟩) (ds.length + 1) cap, by omega, by go_num, rfl, hx3, Lib.hid ?_, Lib.hid (HXD.out.set4 (by omega) _), Lib.hid (HXB.out.setCell (by simp; omega) _), by simpa using hxs, HN1, Lib.hid ?_⟩
            · rw [dcells_append, List.length_append]
              exact HXO.out.kept (gset _ _ _ _) (.inr (fun e => by have := (HXO.out.lt _ e).1; omega))
            · have hk := Below.heap_setCell x ⟨w.heap.size + 1 + 1, 4, none⟩ (.slice (some ⟨g, 0, none⟩) (ds.length + 1) cap) (w.heap.size + 1) (by simp)
              exact (World.cell?_of_block (a := ⟨w.heap.size + 1, 4, none⟩) hk).trans HXC.out
          case measure => simp [intOf]; omega
      · have HFN := Lib.hid (HGD.out.fin (by omega))
        obtain ⟨av, cv, rfl, hcv⟩ := ownsRow_sliceN HO.out
        obtain ⟨T, us, er, hT⟩ : ∃ T us er, Cw.getT l2 = (T, us, er) := ⟨_, _, _, rfl⟩
        have HTX : Hid (∀ X, Calls Try.prog 67 #[.string ⟨l2.toArray⟩] X fun e w' => e = .returned (.tuple #[.string ⟨T.toArray⟩, .int .i64 us, .int .i64 er]) ∧ X = w') := Lib.hid (fun X => by
          have := refGetText_any ⟨l2.toArray⟩ X (by rw [ba_len]; omega)
          rw [show (⟨l2.toArray⟩ : ByteArray).data.toList = l2 by simp, hT] at this
          exact this)
        have HRF : Hid (R = ⟨n0, n1, n2, n3, ds, T⟩) := Lib.hid (by rw [HRM.out, HFN.out, hT])
        obtain ⟨c0, c1, c2, c3, c4, c5, f, z0, z1, z2, z3, z4, z5, g⟩ := HDW.out
        have f5 := f 5
        have g0 := g 0
        have g1 := g 1
        have g2 := g 2
        have g3 := g 3
        have g4 := g 4
        have g5 := g 5
        have HDL := Lib.hid hdl
        clear f g hT HFN HRM HGD hdl
        by_cases hjc : j < c
        · have h16 : ¬ (16 : Int) ≤ l2.length := by omega
          have dc : decide (j < c) = true := by simpa using hjc
          have d16 : decide ((16 : Int) ≤ (l2.length : Int)) = false := by simpa using h16
          clear hlt h16
          go_wp2_with fail
          refine (HTX.out _).mono ?_
          rintro e x ⟨rfl, rfl⟩
          go_wp2_with fail
          refine bodyPost_ret (v := .agg #[.int .i64 n0, .int .i64 n1, .int .i64 n2, .int .i64 n3, .slice av ds.length cv, .string ⟨T.toArray⟩]) (by simp [results, Try.results51, go_sem, z0, z1, z2, z3, z4, z5]) rfl ?_
          exact bodd_ok HRF.out (HB.out.setCell (by simp; omega) _) (HO.out.kept (gset _ _ _ _) (.inr (fun e => by have := (HO.out.lt _ e).1; omega)))
        · have dc : decide (j < c) = false := by simpa using hjc
          clear hlt
          go_wp2_with fail
          refine (HTX.out _).mono ?_
          rintro e x ⟨rfl, rfl⟩
          go_wp2_with fail
          refine bodyPost_ret (v := .agg #[.int .i64 n0, .int .i64 n1, .int .i64 n2, .int .i64 n3, .slice av ds.length cv, .string ⟨T.toArray⟩]) (by simp [results, Try.results51, go_sem, z0, z1, z2, z3, z4, z5]) rfl ?_
          exact bodd_ok HRF.out (HB.out.setCell (by simp; omega) _) (HO.out.kept (gset _ _ _ _) (.inr (fun e => by have := (HO.out.lt _ e).1; omega)))

end Go.Proofs.Ytlijaacjfnjmjaa
