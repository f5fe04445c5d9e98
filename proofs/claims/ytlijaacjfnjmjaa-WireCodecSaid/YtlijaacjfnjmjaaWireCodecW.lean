/- The walk of WireCodec. -/
import Derived.Test.YtlijaacjfnjmjaaWireAw
import Derived.Test.YtlijaacjfnjmjaaWireO
import Derived.Test.YtlijaacjfnjmjaaWireRV
import Derived.Test.YtlijaacjfnjmjaaWireRS
namespace Go.Proofs.Ytlijaacjfnjmjaa.wireCodec
open Go.RowKit
set_option linter.unusedVariables false

theorem u64_wf {z : Int} (h : (Lit.int .u64 z).wf = true) : 0 ≤ z ∧ z < 18446744073709551616 := by
  simp [Lit.wf, IntKind.min, IntKind.max, IntKind.bits, IntKind.signed] at h
  omega
theorem dok_of {ds : List (Int × Int)} (h : DigsOk ds) : DOk ds := fun d hd => ⟨u64_wf (h d hd).1, u64_wf (h d hd).2⟩

set_option maxRecDepth 100000 in
set_option maxHeartbeats 2000000 in
theorem walk (m : Msg) (a : Option Addr) (c : Nat) (s : ByteArray) (w1 : s.size ≤ maxLen) (w : World) (w0 : Digs w.heap.size w a m.ds) (g0 : m.ds.length ≤ c) (o0 : m.Ok) :
    Calls Try.prog 9 #[m.val a c, .string s] w fun e w' => e = .returned (.bool true) ∧ Below w.heap.size w w' := by
  obtain ⟨L, rfl⟩ : ∃ l : List UInt8, s = ⟨l.toArray⟩ := ⟨s.data.toList, ba_eq rfl⟩
  rw [ba_len] at w1
  have hdk := dok_of o0.1
  have hml : (m.data.length : Int) ≤ maxLen := by have := o0.2.2.2.2.2; omega
  have HGy : Hid ((10 : Int) < m.ds.length ∨ (100 : Int) < m.data.length → ∀ W, Calls Try.prog 16 #[.agg #[.int .i64 m.kind, .int .i64 m.id, .int .i64 m.off, .int .i64 m.tot, .slice a m.ds.length c, .string ⟨m.data.toArray⟩]] W fun e w' => e = .returned (.bool true) ∧ Below W.heap.size W w') := Lib.hid (fun hg W => great_yes _ _ _ _ _ _ _ _ W (by rw [ba_len]; exact hg))
  have HGn : Hid ((m.ds.length : Int) ≤ 10 → (m.data.length : Int) ≤ 100 → ∀ W, Calls Try.prog 16 #[.agg #[.int .i64 m.kind, .int .i64 m.id, .int .i64 m.off, .int .i64 m.tot, .slice a m.ds.length c, .string ⟨m.data.toArray⟩]] W fun e w' => e = .returned (.bool false) ∧ Below W.heap.size W w') := Lib.hid (fun h1 h2 W => great_no _ _ _ _ _ _ _ _ W h1 (by rw [ba_len]; exact h2))
  obtain ⟨R, E, hRE⟩ : ∃ R E, encS m = (R, E) := ⟨_, _, rfl⟩
  have HEn : Hid ((m.ds.length : Int) ≤ 10 → (m.data.length : Int) ≤ 100 → ∀ W, Below w.heap.size w W → Calls Try.prog 27 #[.agg #[.int .i64 m.kind, .int .i64 m.id, .int .i64 m.off, .int .i64 m.tot, .slice a m.ds.length c, .string ⟨m.data.toArray⟩]] W fun e w' => e = .returned (.tuple #[.string ⟨R.toArray⟩, .int .i64 E]) ∧ Below W.heap.size W w') := Lib.hid (fun h1 h2 W hW => by
    have := encode_any m a c W ((w0.below hW (Nat.le_refl _)).mono hW.size) (fun d hd => ⟨(hdk d hd).1.1, (hdk d hd).2.1⟩) (by omega) (by omega)
    rwa [hRE] at this)
  have HRn : Hid ((m.ds.length : Int) ≤ 10 → (m.data.length : Int) ≤ 100 → ∀ W, Below w.heap.size w W → Calls Try.prog 28 #[.agg #[.int .i64 m.kind, .int .i64 m.id, .int .i64 m.off, .int .i64 m.tot, .slice a m.ds.length c, .string ⟨m.data.toArray⟩]] W fun e w' => e = .returned (.tuple #[.string ⟨R.toArray⟩, .int .i64 E]) ∧ Below W.heap.size W w') := Lib.hid (fun h1 h2 W hW => by
    have := refEncode_any m a c W ((w0.below hW (Nat.le_refl _)).mono hW.size) hdk (by omega) (by omega)
    rwa [hRE] at this)
  change Calls Try.prog 9 #[.agg #[.int .i64 m.kind, .int .i64 m.id, .int .i64 m.off, .int .i64 m.tot, .slice a m.ds.length c, .string ⟨m.data.toArray⟩], .string ⟨L.toArray⟩] w _
  unfold maxLen at w1 hml
  obtain ⟨kind, id, off, tot, ds, T⟩ := m
  simp only at hml HGy HGn HEn HRn ⊢
  generalize ds.length = nd at HGy HGn HEn HRn ⊢
  clear hRE hdk o0 w0 g0
  by_cases hg : (10 : Int) < nd ∨ (100 : Int) < T.length
  · have HG := Lib.hid (HGy.out hg)
    clear HGy HGn HEn HRn hg
    go_enter Try.func9, Try.ntmps9
    go_wp2_with fail
    refine (HG.out _).mono ?_
    rintro e x1 ⟨rfl, hb⟩
    have HB1 := Lib.hid (((Below.refl _ w).alloc (Nat.le_refl _) (.cells #[.int .i64 kind, .int .i64 id, .int .i64 off, .int .i64 tot, .slice a nd c, .string ⟨T.toArray⟩] 34)).trans (hb.mono (by simp)))
    clear hb
    go_wp2_with fail
    refine (awake_any _).mono ?_
    rintro e x4 ⟨rfl, b4⟩
    have B4 := Lib.hid b4
    clear b4
    go_wp2_with fail
    go_ret
    exact ⟨rfl, HB1.out.trans (B4.out.mono HB1.out.size)⟩
  · have HG := Lib.hid (HGn.out (by omega) (by omega))
    have HE2 := Lib.hid (HEn.out (by omega) (by omega))
    have HR2 := Lib.hid (HRn.out (by omega) (by omega))
    clear HGy HGn HEn HRn
    by_cases hs : (400 : Int) < L.length
    · clear hg
      go_enter Try.func9, Try.ntmps9
      go_wp2_with fail
      refine (HG.out _).mono ?_
      rintro e x1 ⟨rfl, hb⟩
      have HB1 := Lib.hid (((Below.refl _ w).alloc (Nat.le_refl _) (.cells #[.int .i64 kind, .int .i64 id, .int .i64 off, .int .i64 tot, .slice a nd c, .string ⟨T.toArray⟩] 34)).trans (hb.mono (by simp)))
      clear hb
      go_wp2_with fail
      refine (awake_any _).mono ?_
      rintro e x4 ⟨rfl, b4⟩
      have B4 := Lib.hid b4
      clear b4
      go_wp2_with fail
      go_ret
      exact ⟨rfl, HB1.out.trans (B4.out.mono HB1.out.size)⟩
    · have hs' : (L.length : Int) ≤ 400 := by omega
      have ds0 : decide ((400 : Int) < L.length) = false := by simpa using hs
      have hRR : (R == R) = true := by simp
      have hEE : (E == E) = true := by simp
      clear hg hs
      go_enter Try.func9, Try.ntmps9
      go_wp2_with fail
      refine (HG.out _).mono ?_
      rintro e x1 ⟨rfl, hb⟩
      have HB1 := Lib.hid (((Below.refl _ w).alloc (Nat.le_refl _) (.cells #[.int .i64 kind, .int .i64 id, .int .i64 off, .int .i64 tot, .slice a nd c, .string ⟨T.toArray⟩] 34)).trans (hb.mono (by simp)))
      have hbox := hb.block w.heap.size (by simp)
      rw [World.alloc_heap_new w _] at hbox
      have HX1 := Lib.hid hbox
      have hx1 : w.heap.size < x1.heap.size := (Array.getElem?_eq_some_iff.1 hbox).1
      have e0 : x1.cell? ⟨w.heap.size, 0, none⟩ = some (.int .i64 kind) := by rw [Lib.cell_of_heap hbox]; rfl
      have e1 : x1.cell? ⟨w.heap.size, 1, none⟩ = some (.int .i64 id) := by rw [Lib.cell_of_heap hbox]; rfl
      have e2 : x1.cell? ⟨w.heap.size, 2, none⟩ = some (.int .i64 off) := by rw [Lib.cell_of_heap hbox]; rfl
      have e3 : x1.cell? ⟨w.heap.size, 3, none⟩ = some (.int .i64 tot) := by rw [Lib.cell_of_heap hbox]; rfl
      have e4 : x1.cell? ⟨w.heap.size, 4, none⟩ = some (.slice a nd c) := by rw [Lib.cell_of_heap hbox]; rfl
      have e5 : x1.cell? ⟨w.heap.size, 5, none⟩ = some (.string ⟨T.toArray⟩) := by rw [Lib.cell_of_heap hbox]; rfl
      clear hb hbox HG
      go_wp2_with fail
      refine (HE2.out _ HB1.out).mono ?_
      rintro e x2 ⟨rfl, hb⟩
      have HB2 := Lib.hid (HB1.out.trans (hb.mono HB1.out.size))
      have hbox := (hb.block w.heap.size hx1).trans HX1.out
      have f0 : x2.cell? ⟨w.heap.size, 0, none⟩ = some (.int .i64 kind) := by rw [Lib.cell_of_heap hbox]; rfl
      have f1 : x2.cell? ⟨w.heap.size, 1, none⟩ = some (.int .i64 id) := by rw [Lib.cell_of_heap hbox]; rfl
      have f2 : x2.cell? ⟨w.heap.size, 2, none⟩ = some (.int .i64 off) := by rw [Lib.cell_of_heap hbox]; rfl
      have f3 : x2.cell? ⟨w.heap.size, 3, none⟩ = some (.int .i64 tot) := by rw [Lib.cell_of_heap hbox]; rfl
      have f4 : x2.cell? ⟨w.heap.size, 4, none⟩ = some (.slice a nd c) := by rw [Lib.cell_of_heap hbox]; rfl
      have f5 : x2.cell? ⟨w.heap.size, 5, none⟩ = some (.string ⟨T.toArray⟩) := by rw [Lib.cell_of_heap hbox]; rfl
      clear hb hbox HX1 e0 e1 e2 e3 e4 e5
      go_wp2_with fail
      refine (HR2.out _ HB2.out).mono ?_
      rintro e x3 ⟨rfl, hb⟩
      have HB3 := Lib.hid (HB2.out.trans (hb.mono HB2.out.size))
      clear hb f0 f1 f2 f3 f4 f5 HE2 HR2
      go_wp2_with fail
      refine (scan_any L _ (by omega)).mono ?_
      rintro e x4 ⟨l, n, p1, c1, hsc, rfl, m1, b1, hc1, hds1⟩
      have HS1 := Lib.hid hsc
      have M1 := Lib.hid m1
      have B4 := Lib.hid (HB3.out.trans (b1.mono HB3.out.size))
      have hll := hsc.le
      clear hsc m1 b1
      go_wp2_with fail
      refine (refScan_any L _ (by omega)).mono ?_
      rintro e x5 ⟨l', n', p2, c2, hsc, rfl, m2, b2, hc2, hds2⟩
      obtain ⟨rfl, rfl⟩ := HS1.out.one hsc
      have HSM : Hid (∀ W, Below x5.heap.size x5 W → Calls Try.prog 14 #[.slice p1 l.length c1, .slice p2 l.length c2] W fun e w' => e = .returned (.bool true) ∧ Below W.heap.size W w') := Lib.hid (fun W hW => by
        have h1 := (M1.out.below b2 (Nat.le_refl _)).mono b2.size
        exact sameAll_eq p1 p2 l c1 c2 W ((h1.below hW (Nat.le_refl _)).mono hW.size) ((m2.below hW (Nat.le_refl _)).mono hW.size) (by omega) (fun y hy => by have := hds2 y hy; omega))
      have B5 := Lib.hid (B4.out.trans (b2.mono B4.out.size))
      have hnn : ((n : Int) == (n : Int)) = true := by simp
      clear hsc m2 b2 hds1 hds2 hll M1 HS1
      go_wp2_with fail
      refine (HSM.out _ (Below.refl _ _)).mono ?_
      rintro e x6 ⟨rfl, b3⟩
      have B6 := Lib.hid (B5.out.trans (b3.mono B5.out.size))
      clear b3 HSM
      go_wp2_with fail
      refine (awake_any _).mono ?_
      rintro e x7 ⟨rfl, b4⟩
      have B7 := Lib.hid b4
      clear b4
      go_wp2_with fail
      go_ret
      exact ⟨rfl, B6.out.trans (B7.out.mono B6.out.size)⟩

end Go.Proofs.Ytlijaacjfnjmjaa.wireCodec
