/- wire.decode. -/
import Derived.Test.YtlijaacjfnjmjaaWireDe
import Derived.Deep.RegionLaw
import Derived.Deep.RegionHeld3
import Derived.Deep.AppendLies
import Derived.Deep.DeepCutAuto
import Derived.Deep.CutBlock
import Derived.Deep.CutRange
namespace Go.Proofs.Ytlijaacjfnjmjaa
open Go.RowKit
set_option linter.unusedVariables false

def m0 : Msg := ⟨0, 0, 0, 0, [], []⟩
/-- What decode leaves. -/
def Decd (w : World) (r : Option Msg) (e : Ending) (w' : World) : Prop :=
  ∃ a c, e = .returned (.tuple #[(r.getD m0).val a c, .bool r.isSome]) ∧ Digs w'.heap.size w' a (r.getD m0).ds ∧ Below w.heap.size w w' ∧ ∀ ad, a = some ad → w.heap.size ≤ ad.block
theorem Decd.none {w w' : World} {r : Option Msg} (h : r = none) (hb : Below w.heap.size w w') : Decd w r (.returned (.tuple #[.agg #[.int .i64 0, .int .i64 0, .int .i64 0, .int .i64 0, .slice none 0 0, .string ⟨#[]⟩], .bool false])) w' := by
  subst h
  exact ⟨Option.none, 0, rfl, Digs.nil _ _ _, hb, fun ad h => by cases h⟩

abbrev decW (w : World) (n0 n1 n2 n3 n4 : Int) : World := (w.alloc (.cells #[.int .i64 0, .int .i64 0, .int .i64 0, .int .i64 0, .slice none 0 0, .string ⟨#[]⟩] 34)).alloc (.cells #[.int .i64 n0, .int .i64 n1, .int .i64 n2, .int .i64 n3, .int .i64 n4] 96)
theorem decW_below (w : World) (n0 n1 n2 n3 n4 : Int) : Below w.heap.size w (decW w n0 n1 n2 n3 n4) := ((Below.refl _ w).alloc (Nat.le_refl _) _).alloc (by simp) _

def inN (ns : List Int) : Prop := ∀ n ∈ ns, 0 ≤ n ∧ n ≤ 1099511627776

def dcells (ds : List (Int × Int)) : List Value := ds.flatMap fun d => [.int .u64 d.1, .int .u64 d.2]
theorem dcells_append (a b : List (Int × Int)) : dcells (a ++ b) = dcells a ++ dcells b := by simp [dcells]
theorem dcells_at : ∀ (ds : List (Int × Int)) (i : Nat) (h : i < ds.length), (dcells ds)[i * 2]? = some (.int .u64 ds[i].1) ∧ (dcells ds)[i * 2 + 1]? = some (.int .u64 ds[i].2)
  | [], i, h => by simp at h
  | d :: ds, 0, h => by simp [dcells]
  | d :: ds, i + 1, h => by
    have h' : i < ds.length := by simpa using h
    have e : dcells (d :: ds) = [.int .u64 d.1, .int .u64 d.2] ++ dcells ds := by simp [dcells]
    have g : ∀ j, (dcells (d :: ds))[(i + 1) * 2 + j]? = (dcells ds)[i * 2 + j]? := fun j => by
      rw [e, List.getElem?_append_right (by simp; omega)]
      congr 1
      simp
      omega
    have := dcells_at ds i h'
    simp only [List.getElem_cons_succ]
    exact ⟨(g 0).trans this.1, (g 1).trans this.2⟩
theorem ownsRow_digs {w : World} {base : Nat} {a : Option Addr} {cap : Nat} {ds : List (Int × Int)} (h : w.ownsRow base 72 2 (.slice a ds.length cap) ds.length (dcells ds)) : Digs w.heap.size w a ds := by
  intro i hi
  rcases h.2 with ⟨h1, h2⟩ | ⟨g, cap', cur, h1, _, hg, _⟩
  · omega
  · cases h1
    obtain ⟨c0, c1⟩ := dcells_at ds i hi
    refine ⟨g, 0, rfl, (Array.getElem?_eq_some_iff.1 hg).1, ?_, ?_⟩
    · have := h.cells (g := g) rfl _ _ c0; rwa [Go.WideShapes.add_plain] at this
    · have := h.cells (g := g) rfl _ _ c1; rwa [Go.WideShapes.add_plain, ← Nat.add_assoc] at this
theorem infoDig : (Try.prog.info? 72).map (fun i => (i.zero, i.size, i.bytes)) = some (some (.agg #[.int .u64 0, .int .u64 0]), 2, 16) := by kernel_rfl

theorem gcell2 {u w' : World} {row : Option Nat} (hg : u.grownBy w' row) {b : Nat} (hb : b < u.heap.size) (hr : row ≠ some b) (j : Nat) : w'.cell? ⟨b, j, none⟩ = u.cell? ⟨b, j, none⟩ ∧ w'.frozen? ⟨b, j, none⟩ = u.frozen? ⟨b, j, none⟩ := by
  have hk := hg.block b hb (fun h => hr h.symm)
  exact ⟨World.cell?_of_block (a := ⟨b, j, none⟩) hk, World.frozen?_of_block (a := ⟨b, j, none⟩) hk⟩

theorem gset (x : World) (b j : Nat) (v : Value) : x.grownBy (x.setCell ⟨b, j, none⟩ v) (some b) := ⟨rfl, rfl, rfl, by simp, fun k _ hk => Below.heap_setCell _ _ _ k (fun e => hk (by rw [e]))⟩
theorem gtrans {x y z : World} {r : Option Nat} (h1 : x.grownBy y r) (h2 : y.grownBy z r) : x.grownBy z r :=
  ⟨h2.os.trans h1.os, h2.tape.trans h1.tape, h2.output.trans h1.output, Nat.le_trans h1.size h2.size, fun k hk hr => (h2.block k (Nat.lt_of_lt_of_le hk h1.size) hr).trans (h1.block k hk hr)⟩
theorem decd_ok {w x : World} {R : Option Msg} {n0 n1 n2 n3 : Int} {ds : List (Int × Int)} {T : List UInt8} {av : Option Addr} {cv : Nat} (hR : R = some ⟨n0, n1, n2, n3, ds, T⟩) (hb : Below w.heap.size w x) (ho : x.ownsRow (w.heap.size + 3) 72 2 (.slice av ds.length cv) ds.length (dcells ds)) :
    Decd w R (.returned (.tuple #[.agg #[.int .i64 n0, .int .i64 n1, .int .i64 n2, .int .i64 n3, .slice av ds.length cv, .string ⟨T.toArray⟩], .bool true]))
      ((((((x.setCell ⟨w.heap.size, 0, none⟩ (.int .i64 n0)).setCell ⟨w.heap.size, 1, none⟩ (.int .i64 n1)).setCell ⟨w.heap.size, 2, none⟩ (.int .i64 n2)).setCell ⟨w.heap.size, 3, none⟩ (.int .i64 n3)).setCell ⟨w.heap.size, 4, none⟩ (.slice av ds.length cv)).setCell ⟨w.heap.size, 5, none⟩ (.string ⟨T.toArray⟩)) := by
  have hne : ∀ g, (Value.slice av ds.length cv).ownBlock = some g → g ≠ w.heap.size := fun g hg => by have := (ho.lt g hg).1; omega
  have k6 : x.grownBy ((((((x.setCell ⟨w.heap.size, 0, none⟩ (.int .i64 n0)).setCell ⟨w.heap.size, 1, none⟩ (.int .i64 n1)).setCell ⟨w.heap.size, 2, none⟩ (.int .i64 n2)).setCell ⟨w.heap.size, 3, none⟩ (.int .i64 n3)).setCell ⟨w.heap.size, 4, none⟩ (.slice av ds.length cv)).setCell ⟨w.heap.size, 5, none⟩ (.string ⟨T.toArray⟩)) (some w.heap.size) :=
    gtrans (gtrans (gtrans (gtrans (gtrans (gset _ _ _ _) (gset _ _ _ _)) (gset _ _ _ _)) (gset _ _ _ _)) (gset _ _ _ _)) (gset _ _ _ _)
  subst hR
  refine ⟨av, cv, rfl, ownsRow_digs (ho.kept k6 (.inr (fun e => hne _ e rfl))), hb.grown k6 hb.size (fun k hk => by cases hk; exact Nat.le_refl _), fun ad h => ?_⟩
  subst h
  rcases ho.2 with ⟨h1, _⟩ | ⟨g, cap', cur, h1, hg, _⟩
  · cases h1
  · cases h1; show w.heap.size ≤ g; omega

/-- The boxes of decode at a round's head. -/
structure DW (b2 b10 : Nat) (n0 n1 n2 n3 : Int) (wr : World) (v s : Value) : Prop where
  c0 : wr.cell? ⟨b10, 0, none⟩ = some (.int .i64 n0)
  c1 : wr.cell? ⟨b10, 1, none⟩ = some (.int .i64 n1)
  c2 : wr.cell? ⟨b10, 2, none⟩ = some (.int .i64 n2)
  c3 : wr.cell? ⟨b10, 3, none⟩ = some (.int .i64 n3)
  c4 : wr.cell? ⟨b10, 4, none⟩ = some v
  c5 : wr.cell? ⟨b10, 5, none⟩ = some s
  f : ∀ j, wr.frozen? ⟨b10, j, none⟩ = false
  z0 : wr.cell? ⟨b2, 0, none⟩ = some (.int .i64 0)
  z1 : wr.cell? ⟨b2, 1, none⟩ = some (.int .i64 0)
  z2 : wr.cell? ⟨b2, 2, none⟩ = some (.int .i64 0)
  z3 : wr.cell? ⟨b2, 3, none⟩ = some (.int .i64 0)
  z4 : wr.cell? ⟨b2, 4, none⟩ = some (.slice none 0 0)
  z5 : wr.cell? ⟨b2, 5, none⟩ = some (.string ⟨#[]⟩)
  g : ∀ j, wr.frozen? ⟨b2, j, none⟩ = false

theorem DW.keep {b2 b10 : Nat} {n0 n1 n2 n3 : Int} {wr x : World} {v s : Value} (h : DW b2 b10 n0 n1 n2 n3 wr v s) (k1 : ∀ j, x.cell? ⟨b10, j, none⟩ = wr.cell? ⟨b10, j, none⟩ ∧ x.frozen? ⟨b10, j, none⟩ = wr.frozen? ⟨b10, j, none⟩) (k2 : ∀ j, x.cell? ⟨b2, j, none⟩ = wr.cell? ⟨b2, j, none⟩ ∧ x.frozen? ⟨b2, j, none⟩ = wr.frozen? ⟨b2, j, none⟩) : DW b2 b10 n0 n1 n2 n3 x v s :=
  ⟨(k1 0).1.trans h.c0, (k1 1).1.trans h.c1, (k1 2).1.trans h.c2, (k1 3).1.trans h.c3, (k1 4).1.trans h.c4, (k1 5).1.trans h.c5, fun j => (k1 j).2.trans (h.f j), (k2 0).1.trans h.z0, (k2 1).1.trans h.z1, (k2 2).1.trans h.z2, (k2 3).1.trans h.z3, (k2 4).1.trans h.z4, (k2 5).1.trans h.z5, fun j => (k2 j).2.trans (h.g j)⟩
theorem DW.below {b2 b10 : Nat} {n0 n1 n2 n3 : Int} {wr x : World} {v s : Value} (h : DW b2 b10 n0 n1 n2 n3 wr v s) (hb : Below wr.heap.size wr x) (h1 : b10 < wr.heap.size) (h2 : b2 < wr.heap.size) : DW b2 b10 n0 n1 n2 n3 x v s :=
  h.keep (fun j => ⟨hb.cell (p := ⟨b10, j, none⟩) h1, hb.frozen (p := ⟨b10, j, none⟩) h1⟩) (fun j => ⟨hb.cell (p := ⟨b2, j, none⟩) h2, hb.frozen (p := ⟨b2, j, none⟩) h2⟩)
theorem DW.set4 {b2 b10 : Nat} {n0 n1 n2 n3 : Int} {wr : World} {v s : Value} (h : DW b2 b10 n0 n1 n2 n3 wr v s) (hne : b2 ≠ b10) (v' : Value) : DW b2 b10 n0 n1 n2 n3 (wr.setCell ⟨b10, 4, none⟩ v') v' s := by
  have k2 : ∀ j, (wr.setCell ⟨b10, 4, none⟩ v').cell? ⟨b2, j, none⟩ = wr.cell? ⟨b2, j, none⟩ ∧ (wr.setCell ⟨b10, 4, none⟩ v').frozen? ⟨b2, j, none⟩ = wr.frozen? ⟨b2, j, none⟩ := fun j => by
    have hk := Below.heap_setCell wr ⟨b10, 4, none⟩ v' b2 hne
    exact ⟨World.cell?_of_block (a := ⟨b2, j, none⟩) hk, World.frozen?_of_block (a := ⟨b2, j, none⟩) hk⟩
  exact ⟨by simp [go_sem, h.c0], by simp [go_sem, h.c1], by simp [go_sem, h.c2], by simp [go_sem, h.c3], by simp [go_sem, h.c4], by simp [go_sem, h.c5], fun j => by simp [go_sem, h.f], (k2 0).1.trans h.z0, (k2 1).1.trans h.z1, (k2 2).1.trans h.z2, (k2 3).1.trans h.z3, (k2 4).1.trans h.z4, (k2 5).1.trans h.z5, fun j => (k2 j).2.trans (h.g j)⟩

set_option maxRecDepth 100000 in
set_option maxHeartbeats 4000000 in
theorem decode_any (L : List UInt8) (w : World) (hL : (L.length : Int) ≤ 140737488355328) :
    Calls Try.prog 40 #[.string ⟨L.toArray⟩] w (Decd w (decS L)) := by
  obtain ⟨R, hR⟩ : ∃ R, R = decS L := ⟨_, rfl⟩
  rw [← hR]
  have HR := Lib.hid hR
  clear hR
  go_enter Try.func40, Try.ntmps40
  go_upto_block 0 with fail
  go_cut [0] from 5 to 32 (fun s wx => ∃ (n0 n1 n2 n3 n4 : Int) (l : List UInt8), s = .string ⟨l.toArray⟩ ∧ wx = decW w n0 n1 n2 n3 n4 ∧ (l.length : Int) ≤ L.length ∧ Hid (G5 L 5 [n0, n1, n2, n3, n4] l) ∧ Hid (inN [n0, n1, n2, n3, n4]))
  case first =>
    go_wp2_with fail
    go_loopw [0, 14] (fun s i wr => ∃ (k : Nat) (n0 n1 n2 n3 n4 : Int) (l : List UInt8), k ≤ 5 ∧ i = .int .i64 k ∧ s = .string ⟨l.toArray⟩ ∧ wr = decW w n0 n1 n2 n3 n4 ∧ (l.length : Int) ≤ L.length ∧ Hid (G5 L k ([n0, n1, n2, n3, n4].take k) l) ∧ Hid (inN ([n0, n1, n2, n3, n4].take k))) (fun _ i _ => 5 - (intOf i).toNat)
    case atStart => exact ⟨0, 0, 0, 0, 0, 0, L, by omega, rfl, rfl, rfl, by omega, Lib.hid (G5.start L), Lib.hid (fun n hn => by simp at hn)⟩
    case round =>
      obtain ⟨k, n0, n1, n2, n3, n4, l, hk, rfl, rfl, rfl, hl, HG5, HIN⟩ := hrel
      by_cases hlt : k < 5
      · rcases (show k = 0 ∨ k = 1 ∨ k = 2 ∨ k = 3 ∨ k = 4 by omega) with rfl | rfl | rfl | rfl | rfl
        all_goals clear hk hlt
        · obtain ⟨n, u, er, hg⟩ : ∃ n u er, Cw.getI l = (n, u, er) := ⟨_, _, _, rfl⟩
          have HGI := Lib.hid (fun X => getInt_is (s := ⟨l.toArray⟩) (n := n) (k := u) (er := er) (by simpa using hg) X)
          by_cases he : er = 0
          · subst he
            have hb := getI_bounds hg
            have HN1 := Lib.hid (HG5.out.next (by omega) hg)
            have HIN1 : Hid (inN ([n0, n1, n2, n3, n4].take 0 ++ [n])) := Lib.hid (fun x hx => by
              rcases List.mem_append.1 hx with hx | hx
              · exact HIN.out x hx
              · simp only [List.mem_singleton] at hx; subst hx; omega)
            obtain ⟨u0, rfl⟩ : ∃ u0 : Nat, u = (u0 : Int) := ⟨u.toNat, by omega⟩
            rw [Int.toNat_natCast] at HN1
            have hul : u0 ≤ l.length := by omega
            have hsl := fun W => sl_lo l u0 hul W
            have hex : (⟨l.toArray⟩ : ByteArray).extract u0 l.length = ⟨(l.drop u0).toArray⟩ := by rw [ex_mid, List.take_of_length_le (by simp)]
            obtain ⟨l', hl'⟩ : ∃ l', l' = l.drop u0 := ⟨_, rfl⟩
            have hll : (l'.length : Int) ≤ L.length := by rw [hl', List.length_drop]; omega
            rw [← hl'] at hsl HN1 hex
            clear hl' hg hb
            go_wp2_with fail
            refine (HGI.out _).mono ?_
            rintro e w' ⟨rfl, rfl⟩
            go_wp2_with fail
            go_roundw
            case rel => exact ⟨1, n, n1, n2, n3, n4, l', by omega, rfl, rfl, rfl, hll, HN1, HIN1⟩
            case measure => simp [intOf]
          · have HF : Hid (R = none) := Lib.hid (by rw [HR.out]; exact HG5.out.bad (by omega) hg he)
            have he' : (er != 0) = true := by simpa using he
            clear hg he
            go_wp2_with fail
            refine (HGI.out _).mono ?_
            rintro e w' ⟨rfl, rfl⟩
            go_wp2_with fail
            refine bodyPost_ret (v := .tuple #[.agg #[.int .i64 0, .int .i64 0, .int .i64 0, .int .i64 0, .slice none 0 0, .string ⟨#[]⟩], .bool false]) (by simp [results, Try.results40, go_sem]) rfl (Decd.none HF.out (decW_below w n0 n1 n2 n3 n4))
        · obtain ⟨n, u, er, hg⟩ : ∃ n u er, Cw.getI l = (n, u, er) := ⟨_, _, _, rfl⟩
          have HGI := Lib.hid (fun X => getInt_is (s := ⟨l.toArray⟩) (n := n) (k := u) (er := er) (by simpa using hg) X)
          by_cases he : er = 0
          · subst he
            have hb := getI_bounds hg
            have HN1 := Lib.hid (HG5.out.next (by omega) hg)
            have HIN1 : Hid (inN ([n0, n1, n2, n3, n4].take 1 ++ [n])) := Lib.hid (fun x hx => by
              rcases List.mem_append.1 hx with hx | hx
              · exact HIN.out x hx
              · simp only [List.mem_singleton] at hx; subst hx; omega)
            obtain ⟨u0, rfl⟩ : ∃ u0 : Nat, u = (u0 : Int) := ⟨u.toNat, by omega⟩
            rw [Int.toNat_natCast] at HN1
            have hul : u0 ≤ l.length := by omega
            have hsl := fun W => sl_lo l u0 hul W
            have hex : (⟨l.toArray⟩ : ByteArray).extract u0 l.length = ⟨(l.drop u0).toArray⟩ := by rw [ex_mid, List.take_of_length_le (by simp)]
            obtain ⟨l', hl'⟩ : ∃ l', l' = l.drop u0 := ⟨_, rfl⟩
            have hll : (l'.length : Int) ≤ L.length := by rw [hl', List.length_drop]; omega
            rw [← hl'] at hsl HN1 hex
            clear hl' hg hb
            go_wp2_with fail
            refine (HGI.out _).mono ?_
            rintro e w' ⟨rfl, rfl⟩
            go_wp2_with fail
            go_roundw
            case rel => exact ⟨2, n0, n, n2, n3, n4, l', by omega, rfl, rfl, rfl, hll, HN1, HIN1⟩
            case measure => simp [intOf]
          · have HF : Hid (R = none) := Lib.hid (by rw [HR.out]; exact HG5.out.bad (by omega) hg he)
            have he' : (er != 0) = true := by simpa using he
            clear hg he
            go_wp2_with fail
            refine (HGI.out _).mono ?_
            rintro e w' ⟨rfl, rfl⟩
            go_wp2_with fail
            refine bodyPost_ret (v := .tuple #[.agg #[.int .i64 0, .int .i64 0, .int .i64 0, .int .i64 0, .slice none 0 0, .string ⟨#[]⟩], .bool false]) (by simp [results, Try.results40, go_sem]) rfl (Decd.none HF.out (decW_below w n0 n1 n2 n3 n4))
        · obtain ⟨n, u, er, hg⟩ : ∃ n u er, Cw.getI l = (n, u, er) := ⟨_, _, _, rfl⟩
          have HGI := Lib.hid (fun X => getInt_is (s := ⟨l.toArray⟩) (n := n) (k := u) (er := er) (by simpa using hg) X)
          by_cases he : er = 0
          · subst he
            have hb := getI_bounds hg
            have HN1 := Lib.hid (HG5.out.next (by omega) hg)
            have HIN1 : Hid (inN ([n0, n1, n2, n3, n4].take 2 ++ [n])) := Lib.hid (fun x hx => by
              rcases List.mem_append.1 hx with hx | hx
              · exact HIN.out x hx
              · simp only [List.mem_singleton] at hx; subst hx; omega)
            obtain ⟨u0, rfl⟩ : ∃ u0 : Nat, u = (u0 : Int) := ⟨u.toNat, by omega⟩
            rw [Int.toNat_natCast] at HN1
            have hul : u0 ≤ l.length := by omega
            have hsl := fun W => sl_lo l u0 hul W
            have hex : (⟨l.toArray⟩ : ByteArray).extract u0 l.length = ⟨(l.drop u0).toArray⟩ := by rw [ex_mid, List.take_of_length_le (by simp)]
            obtain ⟨l', hl'⟩ : ∃ l', l' = l.drop u0 := ⟨_, rfl⟩
            have hll : (l'.length : Int) ≤ L.length := by rw [hl', List.length_drop]; omega
            rw [← hl'] at hsl HN1 hex
            clear hl' hg hb
            go_wp2_with fail
            refine (HGI.out _).mono ?_
            rintro e w' ⟨rfl, rfl⟩
            go_wp2_with fail
            go_roundw
            case rel => exact ⟨3, n0, n1, n, n3, n4, l', by omega, rfl, rfl, rfl, hll, HN1, HIN1⟩
            case measure => simp [intOf]
          · have HF : Hid (R = none) := Lib.hid (by rw [HR.out]; exact HG5.out.bad (by omega) hg he)
            have he' : (er != 0) = true := by simpa using he
            clear hg he
            go_wp2_with fail
            refine (HGI.out _).mono ?_
            rintro e w' ⟨rfl, rfl⟩
            go_wp2_with fail
            refine bodyPost_ret (v := .tuple #[.agg #[.int .i64 0, .int .i64 0, .int .i64 0, .int .i64 0, .slice none 0 0, .string ⟨#[]⟩], .bool false]) (by simp [results, Try.results40, go_sem]) rfl (Decd.none HF.out (decW_below w n0 n1 n2 n3 n4))
        · obtain ⟨n, u, er, hg⟩ : ∃ n u er, Cw.getI l = (n, u, er) := ⟨_, _, _, rfl⟩
          have HGI := Lib.hid (fun X => getInt_is (s := ⟨l.toArray⟩) (n := n) (k := u) (er := er) (by simpa using hg) X)
          by_cases he : er = 0
          · subst he
            have hb := getI_bounds hg
            have HN1 := Lib.hid (HG5.out.next (by omega) hg)
            have HIN1 : Hid (inN ([n0, n1, n2, n3, n4].take 3 ++ [n])) := Lib.hid (fun x hx => by
              rcases List.mem_append.1 hx with hx | hx
              · exact HIN.out x hx
              · simp only [List.mem_singleton] at hx; subst hx; omega)
            obtain ⟨u0, rfl⟩ : ∃ u0 : Nat, u = (u0 : Int) := ⟨u.toNat, by omega⟩
            rw [Int.toNat_natCast] at HN1
            have hul : u0 ≤ l.length := by omega
            have hsl := fun W => sl_lo l u0 hul W
            have hex : (⟨l.toArray⟩ : ByteArray).extract u0 l.length = ⟨(l.drop u0).toArray⟩ := by rw [ex_mid, List.take_of_length_le (by simp)]
            obtain ⟨l', hl'⟩ : ∃ l', l' = l.drop u0 := ⟨_, rfl⟩
            have hll : (l'.length : Int) ≤ L.length := by rw [hl', List.length_drop]; omega
            rw [← hl'] at hsl HN1 hex
            clear hl' hg hb
            go_wp2_with fail
            refine (HGI.out _).mono ?_
            rintro e w' ⟨rfl, rfl⟩
            go_wp2_with fail
            go_roundw
            case rel => exact ⟨4, n0, n1, n2, n, n4, l', by omega, rfl, rfl, rfl, hll, HN1, HIN1⟩
            case measure => simp [intOf]
          · have HF : Hid (R = none) := Lib.hid (by rw [HR.out]; exact HG5.out.bad (by omega) hg he)
            have he' : (er != 0) = true := by simpa using he
            clear hg he
            go_wp2_with fail
            refine (HGI.out _).mono ?_
            rintro e w' ⟨rfl, rfl⟩
            go_wp2_with fail
            refine bodyPost_ret (v := .tuple #[.agg #[.int .i64 0, .int .i64 0, .int .i64 0, .int .i64 0, .slice none 0 0, .string ⟨#[]⟩], .bool false]) (by simp [results, Try.results40, go_sem]) rfl (Decd.none HF.out (decW_below w n0 n1 n2 n3 n4))
        · obtain ⟨n, u, er, hg⟩ : ∃ n u er, Cw.getI l = (n, u, er) := ⟨_, _, _, rfl⟩
          have HGI := Lib.hid (fun X => getInt_is (s := ⟨l.toArray⟩) (n := n) (k := u) (er := er) (by simpa using hg) X)
          by_cases he : er = 0
          · subst he
            have hb := getI_bounds hg
            have HN1 := Lib.hid (HG5.out.next (by omega) hg)
            have HIN1 : Hid (inN ([n0, n1, n2, n3, n4].take 4 ++ [n])) := Lib.hid (fun x hx => by
              rcases List.mem_append.1 hx with hx | hx
              · exact HIN.out x hx
              · simp only [List.mem_singleton] at hx; subst hx; omega)
            obtain ⟨u0, rfl⟩ : ∃ u0 : Nat, u = (u0 : Int) := ⟨u.toNat, by omega⟩
            rw [Int.toNat_natCast] at HN1
            have hul : u0 ≤ l.length := by omega
            have hsl := fun W => sl_lo l u0 hul W
            have hex : (⟨l.toArray⟩ : ByteArray).extract u0 l.length = ⟨(l.drop u0).toArray⟩ := by rw [ex_mid, List.take_of_length_le (by simp)]
            obtain ⟨l', hl'⟩ : ∃ l', l' = l.drop u0 := ⟨_, rfl⟩
            have hll : (l'.length : Int) ≤ L.length := by rw [hl', List.length_drop]; omega
            rw [← hl'] at hsl HN1 hex
            clear hl' hg hb
            go_wp2_with fail
            refine (HGI.out _).mono ?_
            rintro e w' ⟨rfl, rfl⟩
            go_wp2_with fail
            go_roundw
            case rel => exact ⟨5, n0, n1, n2, n3, n, l', by omega, rfl, rfl, rfl, hll, HN1, HIN1⟩
            case measure => simp [intOf]
          · have HF : Hid (R = none) := Lib.hid (by rw [HR.out]; exact HG5.out.bad (by omega) hg he)
            have he' : (er != 0) = true := by simpa using he
            clear hg he
            go_wp2_with fail
            refine (HGI.out _).mono ?_
            rintro e w' ⟨rfl, rfl⟩
            go_wp2_with fail
            refine bodyPost_ret (v := .tuple #[.agg #[.int .i64 0, .int .i64 0, .int .i64 0, .int .i64 0, .slice none 0 0, .string ⟨#[]⟩], .bool false]) (by simp [results, Try.results40, go_sem]) rfl (Decd.none HF.out (decW_below w n0 n1 n2 n3 n4))
      · obtain rfl : k = 5 := by omega
        go_wp2_with fail
        go_meet
        case rel => exact ⟨n0, n1, n2, n3, n4, l, rfl, rfl, hl, HG5, HIN⟩
  case rest =>
    obtain ⟨n0, n1, n2, n3, n4, l, rfl, rfl, hl, HG5, HIN⟩ := hcut
    have HF5 := Lib.hid HG5.out.fin
    have hb0 := HIN.out n0 (by simp)
    have hb1 := HIN.out n1 (by simp)
    have hb2 := HIN.out n2 (by simp)
    have hb3 := HIN.out n3 (by simp)
    have hb4 := HIN.out n4 (by simp)
    by_cases hq : 1000 < n4
    · have HF : Hid (R = none) := Lib.hid (by rw [HR.out, HF5.out, if_pos (.inl hq)])
      go_wp2_with fail
      refine bodyPost_ret (v := .tuple #[.agg #[.int .i64 0, .int .i64 0, .int .i64 0, .int .i64 0, .slice none 0 0, .string ⟨#[]⟩], .bool false]) (by simp [results, Try.results40, go_sem]) rfl (Decd.none HF.out (decW_below w n0 n1 n2 n3 n4))
    · by_cases hq2 : (l.length : Int) < 16 * n4
      · have HF : Hid (R = none) := Lib.hid (by rw [HR.out, HF5.out, if_pos (.inr hq2)])
        go_wp2_with fail
        refine bodyPost_ret (v := .tuple #[.agg #[.int .i64 0, .int .i64 0, .int .i64 0, .int .i64 0, .slice none 0 0, .string ⟨#[]⟩], .bool false]) (by simp [results, Try.results40, go_sem]) rfl (Decd.none HF.out (decW_below w n0 n1 n2 n3 n4))
      · obtain ⟨c, rfl⟩ : ∃ c : Nat, n4 = (c : Int) := ⟨n4.toNat, by omega⟩
        have HD : Hid (R = decT n0 n1 n2 n3 (getDs c l) (l.drop (16 * c))) := Lib.hid (by rw [HR.out, HF5.out, if_neg (by omega), Int.toNat_natCast])
        have hc1 : c ≤ 1000 := by omega
        have hlc : 16 * c ≤ l.length := by omega
        have d1 : decide ((1000 : Int) < (c : Int)) = false := by simp; omega
        have d2 : decide ((l.length : Int) < 16 * (c : Int)) = false := by simp; omega
        clear hq hq2 HG5 HIN HF5 HR hb4
        obtain ⟨i0', hi, hz0, hz1, hz2⟩ := info_parts infoDig
        have HZI := Lib.hid hz0
        clear hz0
        go_upto_block 2 with fail
        go_cut [0] from 55 to 71 (fun s wx => ∃ (ds : List (Int × Int)) (v : Value) (l2 : List UInt8), s = .string ⟨l2.toArray⟩ ∧ (l2.length : Int) ≤ L.length ∧ wx.ownsRow (w.heap.size + 3) 72 2 v ds.length (dcells ds) ∧ DW w.heap.size (w.heap.size + 1 + 1) n0 n1 n2 n3 wx v (.string ⟨#[]⟩) ∧ Below w.heap.size w wx ∧ w.heap.size + 3 ≤ wx.heap.size ∧ Hid (getDs c l = ds ∧ l.drop (16 * c) = l2) ∧ ds.length ≤ 1000)
        case first =>
          go_wp2_with fail
          go_loopw [0, 55] (fun s i wr => ∃ (j : Nat) (l2 : List UInt8) (ds : List (Int × Int)) (v : Value), j ≤ c ∧ i = .int .i64 j ∧ s = .string ⟨l2.toArray⟩ ∧ wr.ownsRow (w.heap.size + 3) 72 2 v ds.length (dcells ds) ∧ DW w.heap.size (w.heap.size + 1 + 1) n0 n1 n2 n3 wr v (.string ⟨#[]⟩) ∧ Below w.heap.size w wr ∧ w.heap.size + 3 ≤ wr.heap.size ∧ Hid (GD c l j ds l2)) (fun _ i _ => c - (intOf i).toNat)
          case atStart => exact ⟨0, l, [], .slice none 0 0, by omega, rfl, rfl, World.ownsRow_nil _ _ _ _, ⟨by simp [go_sem], by simp [go_sem], by simp [go_sem], by simp [go_sem], by simp [go_sem], by simp [go_sem], fun j => by simp [go_sem], by simp [go_sem], by simp [go_sem], by simp [go_sem], by simp [go_sem], by simp [go_sem], by simp [go_sem], fun j => by simp [go_sem]⟩, (decW_below w n0 n1 n2 n3 c).alloc (by simp; omega) _, by simp, Lib.hid (GD.start c l)⟩
          case round =>
            obtain ⟨j, l2, ds, v, hj, rfl, rfl, hown, hdw, hbel, hws, HGD⟩ := hrel
            have HO := Lib.hid hown
            have HDW := Lib.hid hdw
            have HB := Lib.hid hbel
            have hdl : ds.length = j := HGD.out.2.2
            have hl2 : l2.length = l.length - 16 * j := by rw [HGD.out.2.1, List.length_drop]
            clear hown hdw hbel
            by_cases hlt : j < c
            · have h16 : 16 ≤ l2.length := by omega
              have h16' : (16 : Int) ≤ (l2.length : Int) := by omega
              have HDL := Lib.hid hdl
              have HN1 := Lib.hid (HGD.out.next hlt)
              obtain ⟨X1, hX1⟩ : ∃ X1, X1 = l2.take 8 := ⟨_, rfl⟩
              obtain ⟨X2, hX2⟩ : ∃ X2, X2 = (l2.drop 8).take 8 := ⟨_, rfl⟩
              obtain ⟨X3, hX3⟩ : ∃ X3, X3 = l2.drop 16 := ⟨_, rfl⟩
              rw [← hX1, ← hX2, ← hX3] at HN1
              have hs1 : ∀ W, (Instr.slice 9 (.string ⟨l2.toArray⟩) none (some (.int .i64 8)) none).run Try.prog W = .ok (.string ⟨X1.toArray⟩) W := fun W => by rw [hX1]; exact sl_hi l2 8 (by omega) W
              have hs2 : ∀ W, (Instr.slice 9 (.string ⟨l2.toArray⟩) (some (.int .i64 8)) (some (.int .i64 16)) none).run Try.prog W = .ok (.string ⟨X2.toArray⟩) W := fun W => by rw [hX2]; exact sl_mid l2 8 16 (by omega) (by omega) W
              have hs3 : (⟨l2.toArray⟩ : ByteArray).extract 16 l2.length = ⟨X3.toArray⟩ := by rw [hX3, ex_mid, List.take_of_length_le (by simp)]
              have HF1 := Lib.hid (fun W => fixed_any X1 W (by rw [hX1]; simp; omega))
              have HF2 := Lib.hid (fun W => fixed_any X2 W (by rw [hX2]; simp; omega))
              generalize fixS X1 = y1 at HF1 HN1
              generalize fixS X2 = y2 at HF2 HN1
              clear hX1 hX2 hX3 hl2 hdl
              have c4 := HDW.out.c4
              have c4' := fun x => cell_a1 c4 x
              go_wp2_with fail
              go_region_law
                (first
                | (refine step_append_lies _ (by rfl) (.tmp 58) (.tmp 66) _ (by rfl) (w.heap.size + 3) 72 i0' _ 2 16 Try.underlying32 hi HZI.out hz1 hz2 rfl (by omega) _ ds.length (dcells ds) (by rfl) (HO.out.alloc _).drew ⟨wr.heap.size, 0, none⟩ 1 1 [.int .u64 y1, .int .u64 y2] (by rfl) (by rfl) (World.news_of_block (cs := #[.int .u64 y1, .int .u64 y2]) (t := 72) (fr := (0, 0)) (heap_alloc_new wr _)) (by simp [Value.oneCell']) (by omega) (by have := HDL.out; unfold maxLen; omega) (by have := HDL.out; omega) (by simp; omega) _ rfl ?_; intro g cap x hown1 hgrow1 hat1 hlt1; (have HX4 := (HDW.out.below (((Below.refl _ _).alloc (Nat.le_refl _) (.cells #[.int .u64 y1, .int .u64 y2] 72)).drew) (by omega) (by omega)).keep (fun j => gcell2 hgrow1 (b := w.heap.size + 1 + 1) (by simp; omega) (fun e => by have := (HO.out.lt _ e).1; omega) j) (fun j => gcell2 hgrow1 (b := w.heap.size) (by simp; omega) (fun e => by have := (HO.out.lt _ e).1; omega) j)); (have e4 := HX4.c4); (have e5 := HX4.f 4))
                | (go_simp; (first | (with_reducible refine (HF1.out _).mono ?_) | (with_reducible refine (HF2.out _).mono ?_)); rintro e w' ⟨rfl, rfl⟩)
                | fail)
              all_goals
                have HXB : Hid (Below w.heap.size w x) := Lib.hid (Below.grown ((HB.out.alloc (by omega) _).drew) hgrow1 (by simp; omega) (fun k hk => by have := (HO.out.lt k hk).1; omega))
                have hxs : w.heap.size + 3 ≤ x.heap.size := by have := hgrow1.size; simp at this; omega
                have HXO := Lib.hid hown1
                have HXD := Lib.hid HX4
                clear hown1 hgrow1 hat1 hlt1 HX4
                go_wp2_with fail
                go_roundw
                case rel =>
                  refine ⟨j + 1, X3, ds ++ [(y1, y2)], .slice (some ⟨g, 0, none⟩) (ds.length + 1) cap, by omega, by go_num, rfl, ?_, HXD.out.set4 (by omega) _, HXB.out.setCell (by simp; omega) _, by simpa using hxs, HN1⟩
                  rw [dcells_append, List.length_append]
                  exact HXO.out.kept (gset _ _ _ _) (.inr (fun e => by have := (HXO.out.lt _ e).1; omega))
                case measure => simp [intOf]; omega
            · obtain rfl : j = c := by omega
              go_wp2_with fail
              go_meet
              case rel => exact ⟨ds, v, l2, rfl, by omega, HO.out, HDW.out, HB.out, hws, Lib.hid HGD.out.fin, by omega⟩
        case rest =>
          obtain ⟨ds, v, l2, rfl, hl2, hown, hdw, hbel, hws, HGF, hdl⟩ := hcut
          have HO := Lib.hid hown
          have HDW := Lib.hid hdw
          have HB := Lib.hid hbel
          obtain ⟨av, cv, rfl, hcv⟩ := ownsRow_sliceN hown
          obtain ⟨hgf1, hgf2⟩ := HGF.out
          rw [hgf1, hgf2] at HD
          clear hown hdw hbel hgf1 hgf2
          obtain ⟨T, us, er, hT⟩ : ∃ T us er, Cw.getT l2 = (T, us, er) := ⟨_, _, _, rfl⟩
          have HTX : Hid (∀ X, Calls Try.prog 58 #[.string ⟨l2.toArray⟩] X fun e w' => e = .returned (.tuple #[.string ⟨T.toArray⟩, .int .i64 us, .int .i64 er]) ∧ X = w') := Lib.hid (fun X => by
            have := getText_any ⟨l2.toArray⟩ X (by rw [ba_len]; omega)
            rw [show (⟨l2.toArray⟩ : ByteArray).data.toList = l2 by simp, hT] at this
            exact this)
          obtain ⟨c0, c1, c2, c3, c4, c5, f, z0, z1, z2, z3, z4, z5, g⟩ := HDW.out
          have f5 := f 5
          have g0 := g 0
          have g1 := g 1
          have g2 := g 2
          have g3 := g 3
          have g4 := g 4
          have g5 := g 5
          unfold decT at HD
          rw [hT] at HD
          simp only at HD
          have hTl : (T.length : Int) ≤ 140737488355328 := by
            obtain ⟨n, k, er', _, hc⟩ := getT_cases l2
            rcases hc with ⟨_, hr⟩ | ⟨_, _, hr⟩ | ⟨_, _, _, hr⟩ | ⟨_, _, _, hr⟩
            · rw [hT] at hr; simp only [Prod.mk.injEq] at hr; rw [hr.1]; simp
            · rw [hT] at hr; simp only [Prod.mk.injEq] at hr; rw [hr.1]; simp
            · rw [hT] at hr; simp only [Prod.mk.injEq] at hr; rw [hr.1]; simp
            · rw [hT] at hr; simp only [Prod.mk.injEq] at hr; rw [hr.1]; simp only [List.length_take, List.length_drop]; omega
          clear f g hT
          by_cases he : er = 0
          · subst he
            by_cases hu : us = l2.length
            · subst hu
              have u0 : ((l2.length : Int) != (l2.length : Int)) = false := by simp
              obtain ⟨b, hb⟩ : ∃ b, b = vM n0 n2 n3 ds.length T.length := ⟨_, rfl⟩
              have HV := Lib.hid (fun X => wvalidM n0 n1 n2 n3 av ds.length cv T X hTl (by omega) (by omega) (by omega))
              rw [← hb] at HV HD
              clear hb
              go_wp2_with fail
              refine (HTX.out _).mono ?_
              rintro e x ⟨rfl, rfl⟩
              go_wp2_with fail
              refine (HV.out _).mono ?_
              rintro e x ⟨rfl, hx⟩
              have d0 : x.cell? ⟨w.heap.size + 1 + 1, 0, none⟩ = some (.int .i64 n0) := (hx.cell (p := ⟨w.heap.size + 1 + 1, 0, none⟩) (by simp; omega)).trans (by simp [go_sem, c0])
              have d1 : x.cell? ⟨w.heap.size + 1 + 1, 1, none⟩ = some (.int .i64 n1) := (hx.cell (p := ⟨w.heap.size + 1 + 1, 1, none⟩) (by simp; omega)).trans (by simp [go_sem, c1])
              have d2 : x.cell? ⟨w.heap.size + 1 + 1, 2, none⟩ = some (.int .i64 n2) := (hx.cell (p := ⟨w.heap.size + 1 + 1, 2, none⟩) (by simp; omega)).trans (by simp [go_sem, c2])
              have d3 : x.cell? ⟨w.heap.size + 1 + 1, 3, none⟩ = some (.int .i64 n3) := (hx.cell (p := ⟨w.heap.size + 1 + 1, 3, none⟩) (by simp; omega)).trans (by simp [go_sem, c3])
              have d4 : x.cell? ⟨w.heap.size + 1 + 1, 4, none⟩ = some (.slice av ds.length cv) := (hx.cell (p := ⟨w.heap.size + 1 + 1, 4, none⟩) (by simp; omega)).trans (by simp [go_sem, c4])
              have d5 : x.cell? ⟨w.heap.size + 1 + 1, 5, none⟩ = some (.string ⟨T.toArray⟩) := (hx.cell (p := ⟨w.heap.size + 1 + 1, 5, none⟩) (by simp; omega)).trans (by simp [go_sem, c5])
              have e0 : x.cell? ⟨w.heap.size, 0, none⟩ = some (.int .i64 0) := (hx.cell (p := ⟨w.heap.size, 0, none⟩) (by simp; omega)).trans (by simp [go_sem, z0])
              have e1 : x.cell? ⟨w.heap.size, 1, none⟩ = some (.int .i64 0) := (hx.cell (p := ⟨w.heap.size, 1, none⟩) (by simp; omega)).trans (by simp [go_sem, z1])
              have e2 : x.cell? ⟨w.heap.size, 2, none⟩ = some (.int .i64 0) := (hx.cell (p := ⟨w.heap.size, 2, none⟩) (by simp; omega)).trans (by simp [go_sem, z2])
              have e3 : x.cell? ⟨w.heap.size, 3, none⟩ = some (.int .i64 0) := (hx.cell (p := ⟨w.heap.size, 3, none⟩) (by simp; omega)).trans (by simp [go_sem, z3])
              have e4 : x.cell? ⟨w.heap.size, 4, none⟩ = some (.slice none 0 0) := (hx.cell (p := ⟨w.heap.size, 4, none⟩) (by simp; omega)).trans (by simp [go_sem, z4])
              have e5 : x.cell? ⟨w.heap.size, 5, none⟩ = some (.string ⟨#[]⟩) := (hx.cell (p := ⟨w.heap.size, 5, none⟩) (by simp; omega)).trans (by simp [go_sem, z5])
              have h0 : x.frozen? ⟨w.heap.size, 0, none⟩ = false := (hx.frozen (p := ⟨w.heap.size, 0, none⟩) (by simp; omega)).trans (by simp [go_sem, g0])
              have h1 : x.frozen? ⟨w.heap.size, 1, none⟩ = false := (hx.frozen (p := ⟨w.heap.size, 1, none⟩) (by simp; omega)).trans (by simp [go_sem, g1])
              have h2 : x.frozen? ⟨w.heap.size, 2, none⟩ = false := (hx.frozen (p := ⟨w.heap.size, 2, none⟩) (by simp; omega)).trans (by simp [go_sem, g2])
              have h3 : x.frozen? ⟨w.heap.size, 3, none⟩ = false := (hx.frozen (p := ⟨w.heap.size, 3, none⟩) (by simp; omega)).trans (by simp [go_sem, g3])
              have h4 : x.frozen? ⟨w.heap.size, 4, none⟩ = false := (hx.frozen (p := ⟨w.heap.size, 4, none⟩) (by simp; omega)).trans (by simp [go_sem, g4])
              have h5 : x.frozen? ⟨w.heap.size, 5, none⟩ = false := (hx.frozen (p := ⟨w.heap.size, 5, none⟩) (by simp; omega)).trans (by simp [go_sem, g5])
              have HBX : Hid (Below w.heap.size w x) := Lib.hid ((HB.out.setCell (by simp; omega) _).trans (hx.mono (by simp; omega)))
              have HOX : Hid (x.ownsRow (w.heap.size + 3) 72 2 (.slice av ds.length cv) ds.length (dcells ds)) := Lib.hid (by
                have h1 := HO.out.kept (w' := wc.setCell ⟨w.heap.size + 1 + 1, 5, none⟩ (.string ⟨T.toArray⟩)) (row := some (w.heap.size + 1 + 1)) ⟨rfl, rfl, rfl, by simp, fun k _ hk => Below.heap_setCell _ _ _ k (fun e => hk (by rw [e]))⟩ (.inr (fun e => by have := (HO.out.lt _ e).1; omega))
                refine h1.kept (row := none) ⟨hx.os, hx.tape, hx.output, hx.size, fun k hk _ => hx.block k hk⟩ ?_
                cases h2 : (Value.slice av ds.length cv).ownBlock with
                | none => exact .inl rfl
                | some k => exact .inr (by simp))
              clear hx c0 c1 c2 c3 c4 c5 z0 z1 z2 z3 z4 z5 f5 g0 g1 g2 g3 g4 g5
              cases b with
              | false =>
                have HF : Hid (R = none) := Lib.hid (by rw [HD.out]; simp)
                clear HD
                go_wp2_with fail
                refine bodyPost_ret (v := .tuple #[.agg #[.int .i64 0, .int .i64 0, .int .i64 0, .int .i64 0, .slice none 0 0, .string ⟨#[]⟩], .bool false]) (by simp [results, Try.results40, go_sem, e0, e1, e2, e3, e4, e5]) rfl (Decd.none HF.out ?_)
                exact (((((HBX.out.setCell (by simp) _).setCell (by simp) _).setCell (by simp) _).setCell (by simp) _).setCell (by simp) _).setCell (by simp) _
              | true =>
                have HF : Hid (R = some ⟨n0, n1, n2, n3, ds, T⟩) := Lib.hid (by rw [HD.out]; simp)
                clear HD
                go_wp2_with fail
                refine bodyPost_ret (v := .tuple #[.agg #[.int .i64 n0, .int .i64 n1, .int .i64 n2, .int .i64 n3, .slice av ds.length cv, .string ⟨T.toArray⟩], .bool true]) (by simp [results, Try.results40, go_sem, e0, e1, e2, e3, e4, e5]) rfl ?_
                exact decd_ok HF.out HBX.out HOX.out
            · have HF : Hid (R = none) := Lib.hid (by rw [HD.out, if_pos (.inr hu)])
              have u0 : (us != (l2.length : Int)) = true := by simpa using hu
              clear hu HD
              go_wp2_with fail
              refine (HTX.out _).mono ?_
              rintro e x ⟨rfl, rfl⟩
              go_wp2_with fail
              refine bodyPost_ret (v := .tuple #[.agg #[.int .i64 0, .int .i64 0, .int .i64 0, .int .i64 0, .slice none 0 0, .string ⟨#[]⟩], .bool false]) (by simp [results, Try.results40, go_sem, z0, z1, z2, z3, z4, z5]) rfl (Decd.none HF.out ?_)
              exact (((((HB.out.setCell (by simp) _).setCell (by simp) _).setCell (by simp) _).setCell (by simp) _).setCell (by simp) _).setCell (by simp) _
          · have HF : Hid (R = none) := Lib.hid (by rw [HD.out, if_pos (.inl he)])
            have he' : (er != 0) = true := by simpa using he
            clear he HD
            go_wp2_with fail
            refine (HTX.out _).mono ?_
            rintro e x ⟨rfl, rfl⟩
            go_wp2_with fail
            refine bodyPost_ret (v := .tuple #[.agg #[.int .i64 0, .int .i64 0, .int .i64 0, .int .i64 0, .slice none 0 0, .string ⟨#[]⟩], .bool false]) (by simp [results, Try.results40, go_sem, z0, z1, z2, z3, z4, z5]) rfl (Decd.none HF.out ?_)
            exact (((((HB.out.setCell (by simp) _).setCell (by simp) _).setCell (by simp) _).setCell (by simp) _).setCell (by simp) _).setCell (by simp) _

end Go.Proofs.Ytlijaacjfnjmjaa
