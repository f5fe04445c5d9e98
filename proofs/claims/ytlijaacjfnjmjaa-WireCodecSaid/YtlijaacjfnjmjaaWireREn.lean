/- The reference's Encode. -/
import Derived.Test.YtlijaacjfnjmjaaWireRE
namespace Go.Proofs.Ytlijaacjfnjmjaa
open Go.RowKit
set_option linter.unusedVariables false

theorem sadd {A B C : List UInt8} (hC : C = A ++ B) (hA : (A.length : Int) ≤ 8388608) (hB : (B.length : Int) ≤ 8388608) (W : World) : (Op.stringOp .add ⟨A.toArray⟩ ⟨B.toArray⟩).run Try.prog W = .ok (.string ⟨C.toArray⟩) W := by
  subst hC
  exact run_string_add_lists (P := Try.prog) W A B hA hB

set_option maxRecDepth 100000 in
set_option maxHeartbeats 2000000 in
theorem refEncode_any (m : Msg) (a : Option Addr) (cd : Nat) (w : World) (hd : Digs w.heap.size w a m.ds) (hdn : DOk m.ds) (hn : (m.ds.length : Int) ≤ 140737488355328) (hT : (m.data.length : Int) ≤ 140737488355328) :
    Calls Try.prog 28 #[m.val a cd] w fun e w' => e = .returned (.tuple #[.string ⟨(encS m).1.toArray⟩, .int .i64 (encS m).2]) ∧ Below w.heap.size w w' := by
  obtain ⟨R, E, hR⟩ : ∃ R E, encS m = (R, E) := ⟨_, _, rfl⟩
  rw [hR]
  have hV := fun W => check_any m.kind m.id m.off m.tot a m.ds.length cd m.data W hT hn
  by_cases hw : m.why = 0
  · obtain ⟨h0, h1, hv⟩ := why_zero hw
    have hb := vM_bounds hv
    obtain ⟨bs, hbs⟩ : ∃ bs, bs = bodyS m := ⟨_, rfl⟩
    have hbl : bs.length ≤ 100000 := by rw [hbs]; exact bodyS_length m (by omega) (by omega)
    have HRE : Hid (R = be 4 bs.length ++ (be 8 (digS bs).1 ++ bs) ∧ E = 0) := Lib.hid (by
      unfold encS at hR
      rw [if_pos hw, Prod.mk.injEq] at hR
      rw [hbs]
      exact ⟨hR.1.symm, hR.2.symm⟩)
    have HV : Hid (∀ W, Calls Try.prog 35 #[.agg #[.int .i64 m.kind, .int .i64 m.id, .int .i64 m.off, .int .i64 m.tot, .slice a m.ds.length cd, .string ⟨m.data.toArray⟩]] W fun e w' => e = .returned (.int .i64 0) ∧ Below W.heap.size W w') := Lib.hid (fun W => by
      have := hV W
      rwa [show whyM m.kind m.id m.off m.tot m.ds.length m.data.length = 0 from hw] at this)
    change Calls Try.prog 28 #[.agg #[.int .i64 m.kind, .int .i64 m.id, .int .i64 m.off, .int .i64 m.tot, .slice a m.ds.length cd, .string ⟨m.data.toArray⟩]] w _
    obtain ⟨kind, id, off, tot, ds, T⟩ := m
    simp only at hn hT hd hdn h0 h1 hb HV ⊢
    obtain ⟨nd, hnd⟩ : ∃ nd, nd = ds.length := ⟨_, rfl⟩
    have HND := Lib.hid hnd
    rw [← hnd] at hn HV hb ⊢
    obtain ⟨k1, k2, o1, o2, t1, t2, n1, d1⟩ := hb
    have HD := Lib.hid hd
    have HDN := Lib.hid hdn
    obtain ⟨E0, hE0⟩ : ∃ E0, E0 = Cw.enc kind.toNat := ⟨_, rfl⟩
    obtain ⟨E1, hE1⟩ : ∃ E1, E1 = Cw.enc id.toNat := ⟨_, rfl⟩
    obtain ⟨E2, hE2⟩ : ∃ E2, E2 = Cw.enc off.toNat := ⟨_, rfl⟩
    obtain ⟨E3, hE3⟩ : ∃ E3, E3 = Cw.enc tot.toNat := ⟨_, rfl⟩
    obtain ⟨E4, hE4⟩ : ∃ E4, E4 = Cw.enc nd := ⟨_, rfl⟩
    have l0 : E0.length ≤ 10 := by rw [hE0]; exact enc_length _
    have l1 : E1.length ≤ 10 := by rw [hE1]; exact enc_length _
    have l2 : E2.length ≤ 10 := by rw [hE2]; exact enc_length _
    have l3 : E3.length ≤ 10 := by rw [hE3]; exact enc_length _
    have l4 : E4.length ≤ 10 := by rw [hE4]; exact enc_length _
    have HN0 := Lib.hid (fun W => number_any kind (by omega) (by omega) W)
    have HN1 := Lib.hid (fun W => number_any id (by omega) (by omega) W)
    have HN2 := Lib.hid (fun W => number_any off (by omega) (by omega) W)
    have HN3 := Lib.hid (fun W => number_any tot (by omega) (by omega) W)
    have HN4 := Lib.hid (fun W => number_any (nd : Int) (by omega) (by omega) W)
    rw [Int.toNat_natCast] at HN4
    rw [← hE0] at HN0
    rw [← hE1] at HN1
    rw [← hE2] at HN2
    rw [← hE3] at HN3
    rw [← hE4] at HN4
    obtain ⟨P1, hP1⟩ : ∃ P, P = E0 ++ E1 := ⟨_, rfl⟩
    obtain ⟨P2, hP2⟩ : ∃ P, P = P1 ++ E2 := ⟨_, rfl⟩
    obtain ⟨P3, hP3⟩ : ∃ P, P = P2 ++ E3 := ⟨_, rfl⟩
    obtain ⟨P4, hP4⟩ : ∃ P, P = P3 ++ E4 := ⟨_, rfl⟩
    have p1 : P1.length ≤ 20 := by rw [hP1, List.length_append]; omega
    have p2 : P2.length ≤ 30 := by rw [hP2, List.length_append]; omega
    have p3 : P3.length ≤ 40 := by rw [hP3, List.length_append]; omega
    have p4 : P4.length ≤ 50 := by rw [hP4, List.length_append]; omega
    have s1 := sadd hP1 (by omega) (by omega)
    have s2 := sadd hP2 (by omega) (by omega)
    have s3 := sadd hP3 (by omega) (by omega)
    have s4 := sadd hP4 (by omega) (by omega)
    have HBS : Hid (bs = P4 ++ (bodyD ds ++ (Cw.enc T.length ++ T))) := Lib.hid (by
      rw [hbs, hP4, hP3, hP2, hP1, hE0, hE1, hE2, hE3, hE4]
      simp [bodyS, bodyN, hnd])
    clear hbs hnd hd hdn hV hR hw hv hE0 hE1 hE2 hE3 hE4 hP1 hP2 hP3 hP4
    go_enter Try.func28, Try.ntmps28
    go_wp2_with fail
    refine (HV.out _).mono ?_
    rintro e x1 ⟨rfl, hb⟩
    have HB : Hid (Below w.heap.size w x1) := Lib.hid (((Below.refl _ w).alloc (Nat.le_refl _) _).trans (hb.mono (by simp)))
    have hbox := hb.block w.heap.size (by simp)
    rw [World.alloc_heap_new w _] at hbox
    have hx1 : w.heap.size < x1.heap.size := by have := hb.size; simp at this; omega
    have HBOX := Lib.hid hbox
    have c0 : x1.cell? ⟨w.heap.size, 0, none⟩ = some (.int .i64 kind) := by rw [Lib.cell_of_heap hbox]; rfl
    have c1 : x1.cell? ⟨w.heap.size, 1, none⟩ = some (.int .i64 id) := by rw [Lib.cell_of_heap hbox]; rfl
    have c2 : x1.cell? ⟨w.heap.size, 2, none⟩ = some (.int .i64 off) := by rw [Lib.cell_of_heap hbox]; rfl
    have c3 : x1.cell? ⟨w.heap.size, 3, none⟩ = some (.int .i64 tot) := by rw [Lib.cell_of_heap hbox]; rfl
    have c4 : x1.cell? ⟨w.heap.size, 4, none⟩ = some (.slice a nd cd) := by rw [Lib.cell_of_heap hbox]; rfl
    clear hb hbox HV
    go_wp2_with fail
    have f0 := cell_regrown c0
    have f1 := cell_regrown c1
    have f2 := cell_regrown c2
    have f3 := cell_regrown c3
    have f4 := cell_regrown c4
    have HA0 := Lib.hid (fun d os => Calls.regrown_of (w := x1) (d := d) (os := os) (HN0.out _))
    have HA1 := Lib.hid (fun d os => Calls.regrown_of (w := x1) (d := d) (os := os) (HN1.out _))
    have HA2 := Lib.hid (fun d os => Calls.regrown_of (w := x1) (d := d) (os := os) (HN2.out _))
    have HA3 := Lib.hid (fun d os => Calls.regrown_of (w := x1) (d := d) (os := os) (HN3.out _))
    have HA4 := Lib.hid (fun d os => Calls.regrown_of (w := x1) (d := d) (os := os) (HN4.out _))
    refine wp_region_quiet_below (by kernel_rfl) (by kernel_rfl) ?_
    repeat (any_goals (first | go_big_quiet_step (first | (with_reducible exact HA0.out _ _) | (with_reducible exact HA1.out _ _) | (with_reducible exact HA2.out _ _) | (with_reducible exact HA3.out _ _) | (with_reducible exact HA4.out _ _)) | quiet_step (first | (with_reducible exact HA0.out _ _) | (with_reducible exact HA1.out _ _) | (with_reducible exact HA2.out _ _) | (with_reducible exact HA3.out _ _) | (with_reducible exact HA4.out _ _))))
    refine wpQuiet_nil ?_
    intro w2 hw2
    have HB2 := Lib.hid (HB.out.trans ((below_rg hw2).mono HB.out.size))
    have HBOX2 := Lib.hid (((below_rg hw2).block w.heap.size hx1).trans HBOX.out)
    clear hw2 HA0 HA1 HA2 HA3 HA4 f0 f1 f2 f3 f4 c0 c1 c2 c3 c4 HN0 HN1 HN2 HN3 HN4 s1 s2 s3 s4 HBOX HB
    go_wp2_with fail
    go_loopw [5, 6] (fun s i wr => ∃ (j : Nat) (l : List UInt8), j ≤ nd ∧ i = .int .i64 j ∧ s = .string ⟨l.toArray⟩ ∧ l.length ≤ 50 + 16 * j ∧ Hid (l = P4 ++ bodyD (ds.take j)) ∧ Hid (Below w.heap.size w wr) ∧ w.heap.size < wr.heap.size ∧ Hid (wr.heap[w.heap.size]? = some (.cells #[.int .i64 kind, .int .i64 id, .int .i64 off, .int .i64 tot, .slice a nd cd, .string ⟨T.toArray⟩] 34 (0, 0)))) (fun _ i _ => nd - (intOf i).toNat)
    case atStart => exact ⟨0, P4, by omega, rfl, rfl, by omega, Lib.hid (by simp [bodyD]), HB2, (Array.getElem?_eq_some_iff.1 HBOX2.out).1, HBOX2⟩
    case round =>
      obtain ⟨j, l, hj, rfl, rfl, hl, HL, HBJ, hwj, HXJ⟩ := hrel
      have c4 : wr.cell? ⟨w.heap.size, 4, none⟩ = some (.slice a nd cd) := by rw [Lib.cell_of_heap HXJ.out]; rfl
      by_cases hlt2 : j < nd
      · have hjd : j < ds.length := by rw [← HND.out]; exact hlt2
        obtain ⟨b0, o0, rfl, hb0, e1, e2⟩ := (HD.out.below HBJ.out (Nat.le_refl _)) j hjd
        obtain ⟨x, hx⟩ : ∃ x, x = ds[j].1 := ⟨_, rfl⟩
        obtain ⟨y, hy⟩ : ∃ y, y = ds[j].2 := ⟨_, rfl⟩
        have hpos := HDN.out _ (List.getElem_mem hjd)
        rw [← hx, ← hy] at hpos
        obtain ⟨⟨hx0, hx1⟩, ⟨hy0, hy1⟩⟩ := hpos
        rw [← hx] at e1
        rw [← hy] at e2
        have HT2 := Lib.hid (bodyD_take ds j hjd)
        rw [← hx, ← hy] at HT2
        clear hx hy
        have HBx : Hid (∀ W, Calls Try.prog 47 #[.int .u64 x, .int .i64 8] W fun e w' => e = .returned (.string ⟨(be 8 x).toArray⟩) ∧ Below W.heap.size W w') := Lib.hid (fun W => bytes_any 8 x W (by omega) hx0 hx1)
        have HBy : Hid (∀ W, Calls Try.prog 47 #[.int .u64 y, .int .i64 8] W fun e w' => e = .returned (.string ⟨(be 8 y).toArray⟩) ∧ Below W.heap.size W w') := Lib.hid (fun W => bytes_any 8 y W (by omega) hy0 hy1)
        have lx := be_length 8 x
        have ly := be_length 8 y
        generalize be 8 x = X at HBx HT2 lx
        generalize be 8 y = Y at HBy HT2 ly
        obtain ⟨Q1, hQ1⟩ : ∃ Q, Q = l ++ X := ⟨_, rfl⟩
        obtain ⟨Q2, hQ2⟩ : ∃ Q, Q = Q1 ++ Y := ⟨_, rfl⟩
        have q1 : Q1.length ≤ 58 + 16 * j := by rw [hQ1, List.length_append]; omega
        have q2 : Q2.length ≤ 50 + 16 * (j + 1) := by rw [hQ2, List.length_append]; omega
        have s1 := sadd hQ1 (by omega) (by omega)
        have s2 := sadd hQ2 (by omega) (by omega)
        have HL2 : Hid (Q2 = P4 ++ bodyD (ds.take (j + 1))) := Lib.hid (by rw [hQ2, hQ1, HL.out, HT2.out]; simp)
        clear hQ1 hQ2 HT2 lx ly HL
        go_wp2_with fail
        have f4 := cell_regrown c4
        have f1 := cell_regrown e1
        have f2 := cell_regrown e2
        have HA0 := Lib.hid (fun d os => Calls.regrown_of (w := wr) (d := d) (os := os) (HBx.out _))
        have HA1 := Lib.hid (fun d os => Calls.regrown_of (w := wr) (d := d) (os := os) (HBy.out _))
        refine wp_region_quiet_below (by kernel_rfl) (by kernel_rfl) ?_
        repeat (any_goals (first | go_big_quiet_step (first | (with_reducible exact HA0.out _ _) | (with_reducible exact HA1.out _ _)) | quiet_step (first | (with_reducible exact HA0.out _ _) | (with_reducible exact HA1.out _ _))))
        refine wpQuiet_nil ?_
        intro w3 hw3
        have HB3 := Lib.hid (HBJ.out.trans ((below_rg hw3).mono HBJ.out.size))
        have HX3 := Lib.hid (((below_rg hw3).block w.heap.size hwj).trans HXJ.out)
        have hw3s := Nat.lt_of_lt_of_le hwj (below_rg hw3).size
        clear hw3 HA0 HA1 f1 f2 f4 c4 e1 e2 HBx HBy s1 s2
        go_wp2_with fail
        go_roundw
        case rel => exact ⟨j + 1, Q2, by omega, by go_num, rfl, q2, HL2, HB3, hw3s, HX3⟩
        case measure => simp [intOf]; omega
      · have HDJ : Hid (ds.take j = ds) := Lib.hid (List.take_of_length_le (by rw [← HND.out]; omega))
        rw [HDJ.out] at HL
        have c5 : wr.cell? ⟨w.heap.size, 5, none⟩ = some (.string ⟨T.toArray⟩) := by rw [Lib.cell_of_heap HXJ.out]; rfl
        have HPT : Hid (∀ W, Calls Try.prog 48 #[.string ⟨T.toArray⟩] W fun e w' => e = .returned (.tuple #[.string ⟨(Cw.enc T.length ++ T).toArray⟩, .int .i64 0]) ∧ Below W.heap.size W w') := Lib.hid (fun W => by
          have h1 := refPutText_any ⟨T.toArray⟩ W (by rw [ba_len]; omega)
          have : putT T = (Cw.enc T.length ++ T, 0) := if_pos d1
          simp only [this] at h1
          exact h1)
        have hel := enc_length T.length
        obtain ⟨U, hU⟩ : ∃ U, U = Cw.enc T.length ++ T := ⟨_, rfl⟩
        have hUl : U.length ≤ 70000 := by rw [hU, List.length_append]; omega
        rw [← hU] at HPT HBS
        have hbs2 : bs = l ++ U := by rw [HBS.out, HL.out]; simp
        have s1 := sadd hbs2 (by omega) (by omega)
        have HOf := Lib.hid (fun W => refOf_any bs W (by omega))
        have hg0 := digS_pos bs
        have hg1 := digS_lt bs
        generalize digS bs = dg at HOf HRE hg0 hg1
        obtain ⟨g1, g2⟩ := dg
        simp only at HOf HRE hg0 hg1
        have HB4 : Hid (∀ W, Calls Try.prog 47 #[.int .u64 (bs.length : Int), .int .i64 4] W fun e w' => e = .returned (.string ⟨(be 4 bs.length).toArray⟩) ∧ Below W.heap.size W w') := Lib.hid (fun W => bytes_any 4 bs.length W (by omega) (by omega) (by omega))
        have HB8 : Hid (∀ W, Calls Try.prog 47 #[.int .u64 g1, .int .i64 8] W fun e w' => e = .returned (.string ⟨(be 8 g1).toArray⟩) ∧ Below W.heap.size W w') := Lib.hid (fun W => bytes_any 8 g1 W (by omega) hg0 hg1)
        have lx := be_length 4 bs.length
        have ly := be_length 8 g1
        generalize be 4 (bs.length : Int) = X at HB4 HRE lx
        generalize be 8 g1 = Y at HB8 HRE ly
        obtain ⟨Q1, hQ1⟩ : ∃ Q, Q = X ++ Y := ⟨_, rfl⟩
        have q1 : Q1.length ≤ 12 := by rw [hQ1, List.length_append]; omega
        have hR2 : R = Q1 ++ bs := by rw [HRE.out.1, hQ1]; simp
        have s2 := sadd hQ1 (by omega) (by omega)
        have s3 := sadd hR2 (by omega) (by omega)
        have hwl : IntKind.u64.wrap (bs.length : Int) = (bs.length : Int) := by rw [wrap_u64]; omega
        have HE0 := Lib.hid HRE.out.2
        clear hU hbs2 hQ1 hR2 HRE lx ly HDJ HL HBS HD HDN
        go_wp2_with fail
        refine (HPT.out _).mono ?_
        rintro e x2 ⟨rfl, hb2⟩
        have HC2 := Lib.hid (HBJ.out.trans (hb2.mono HBJ.out.size))
        clear hb2 c4 c5 HPT
        go_wp2_with fail
        refine (HOf.out _).mono ?_
        rintro e x3 ⟨rfl, hb3⟩
        have HC3 := Lib.hid (HC2.out.trans (hb3.mono HC2.out.size))
        have hx3 := HC3.out.size
        clear hb3
        go_wp2_with fail
        have e1 : (x3.alloc (.cells #[.int .u64 g1, .int .u64 g2] 72)).cell? ⟨x3.heap.size, 0, none⟩ = some (.int .u64 g1) := by simp
        have HC4 := Lib.hid (HC3.out.alloc hx3 (.cells #[.int .u64 g1, .int .u64 g2] 72))
        generalize x3.alloc (.cells #[.int .u64 g1, .int .u64 g2] 72) = x4 at e1 HC4 ⊢
        have f1 := cell_regrown e1
        have HA0 := Lib.hid (fun d os => Calls.regrown_of (w := x4) (d := d) (os := os) (HB4.out _))
        have HA1 := Lib.hid (fun d os => Calls.regrown_of (w := x4) (d := d) (os := os) (HB8.out _))
        refine wp_region_quiet_below (by kernel_rfl) (by kernel_rfl) ?_
        repeat (any_goals (first | go_big_quiet_step (first | (with_reducible exact HA0.out _ _) | (with_reducible exact HA1.out _ _)) | quiet_step (first | (with_reducible exact HA0.out _ _) | (with_reducible exact HA1.out _ _))))
        refine wpQuiet_nil ?_
        intro w3 hw3
        have HC5 := Lib.hid (HC4.out.trans ((below_rg hw3).mono HC4.out.size))
        clear hw3 HA0 HA1 f1
        go_wp2_with fail
        go_ret2
        rw [HE0.out]
        exact ⟨rfl, HC5.out⟩
  · have hRE : R = [] ∧ E = m.why := by
      unfold encS at hR
      rw [if_neg hw, Prod.mk.injEq] at hR
      exact ⟨hR.1.symm, hR.2.symm⟩
    have HV : Hid (∀ W, Calls Try.prog 35 #[.agg #[.int .i64 m.kind, .int .i64 m.id, .int .i64 m.off, .int .i64 m.tot, .slice a m.ds.length cd, .string ⟨m.data.toArray⟩]] W fun e w' => e = .returned (.int .i64 m.why) ∧ Below W.heap.size W w') := Lib.hid hV
    change Calls Try.prog 28 #[.agg #[.int .i64 m.kind, .int .i64 m.id, .int .i64 m.off, .int .i64 m.tot, .slice a m.ds.length cd, .string ⟨m.data.toArray⟩]] w _
    generalize m.why = y at hw hRE HV
    obtain ⟨rfl, rfl⟩ := hRE
    have he : (E != 0) = true := by simpa using hw
    generalize m.ds.length = nd at HV hn ⊢
    clear hw hV hR hd hdn
    obtain ⟨kind, id, off, tot, ds, T⟩ := m
    simp only at HV hT ⊢
    go_enter Try.func28, Try.ntmps28
    go_wp2_with fail
    refine (HV.out _).mono ?_
    rintro e x ⟨rfl, hb⟩
    have HB := Lib.hid hb
    clear hb
    go_wp2_with fail
    go_ret2
    exact ⟨rfl, ((Below.refl _ w).alloc (Nat.le_refl _) _).trans (HB.out.mono (by simp))⟩

end Go.Proofs.Ytlijaacjfnjmjaa
