/- The walk of WireStream. -/
import Derived.Test.YtlijaacjfnjmjaaWireAw
import Derived.Test.YtlijaacjfnjmjaaWireO
import Derived.Test.YtlijaacjfnjmjaaWireRV
import Derived.Test.YtlijaacjfnjmjaaWireFr
namespace Go.Proofs.Ytlijaacjfnjmjaa.wireStream
open Go.RowKit
set_option linter.unusedVariables false

theorem u64_wf {z : Int} (h : (Lit.int .u64 z).wf = true) : 0 ≤ z ∧ z < 18446744073709551616 := by
  simp [Lit.wf, IntKind.min, IntKind.max, IntKind.bits, IntKind.signed] at h
  omega
theorem dok_of {ds : List (Int × Int)} (h : DigsOk ds) : DOk ds := fun d hd => ⟨u64_wf (h d hd).1, u64_wf (h d hd).2⟩
theorem encS_fst {m : Msg} (h : m.why = 0) : encS m = (frameE m, 0) := if_pos h
theorem encS_bad {m : Msg} (h : m.why ≠ 0) : encS m = ([], m.why) := if_neg h

set_option maxRecDepth 100000 in
set_option maxHeartbeats 2000000 in
theorem walk (a : Option Addr) (ms : List Msg) (c : Nat) (w : World) (w0 : Msgs w.heap.size w a ms) (g0 : ms.length ≤ c) (o0 : ∀ m ∈ ms, m.Ok) :
    Calls Try.prog 10 #[.slice a ms.length c] w fun e w' => e = .returned (.bool true) ∧ Below w.heap.size w w' := by
  obtain ⟨n, hn⟩ : ∃ n, n = ms.length := ⟨_, rfl⟩
  rw [← hn]
  have HN := Lib.hid hn
  have HMS := Lib.hid w0
  have HOK := Lib.hid o0
  clear hn w0 o0 g0
  obtain ⟨i0, hi, hz0, hz1, hz2⟩ := info_parts infoMsg
  have HZ0 := Lib.hid hz0
  have HZ1 := Lib.hid hz1
  have HZ2 := Lib.hid hz2
  clear hz0 hz1 hz2
  by_cases h10 : (10 : Int) < n
  · go_enter Try.func10, Try.ntmps10
    go_wp2_with fail
    refine (awake_any _).mono ?_
    rintro e x4 ⟨rfl, b4⟩
    have B4 := Lib.hid b4
    clear b4
    go_wp2_with fail
    go_ret
    exact ⟨rfl, B4.out⟩
  · go_enter Try.func10, Try.ntmps10
    go_wp2_with fail
    go_loopw [3, 4, 17] (fun s v i wr => ∃ (k : Nat) (acc : List MA) (l : List UInt8), k ≤ n ∧ i = .int .i64 k ∧ s = .string ⟨l.toArray⟩ ∧ acc.length ≤ k ∧ l.length ≤ k * 200000 ∧ Hid (MRow w wr v acc) ∧ Hid (l = (acc.map Prod.fst).flatMap frameE) ∧ Hid (∀ x ∈ acc, x.1.why = 0 ∧ DOk x.1.ds)) (fun _ _ i _ => n - (intOf i).toNat)
    case atStart => exact ⟨0, [], [], by omega, rfl, rfl, by simp, by simp, Lib.hid (MRow.start w), Lib.hid rfl, Lib.hid (fun x hx => by simp at hx)⟩
    case round =>
      obtain ⟨k, acc, l, hk, rfl, rfl, hal, hll, HM, HLE, HW⟩ := hrel
      have hws := HM.out.bel.size
      by_cases hlt : k < n
      · have h1 : k < ms.length := by rw [← HN.out]; exact hlt
        obtain ⟨b1, o1, da, cd, rfl, hb1, c0, c1, c2, c3, c4, c5, c6⟩ := (HMS.out.below HM.out.bel (Nat.le_refl _)) k h1
        obtain ⟨m, hm⟩ : ∃ m, m = ms[k] := ⟨_, rfl⟩
        have HO := Lib.hid (HOK.out m (by rw [hm]; exact List.getElem_mem h1))
        rw [← hm] at c0 c1 c2 c3 c4 c5 c6
        clear hm
        have HD := Lib.hid c6
        have HDK := Lib.hid (dok_of HO.out.1)
        have hml : (m.data.length : Int) ≤ maxLen := by have := HO.out.2.2.2.2.2; omega
        unfold maxLen at hml
        clear c6 HO
        by_cases hg : (10 : Int) < m.ds.length ∨ (100 : Int) < m.data.length
        · have HG : Hid (∀ W, Calls Try.prog 16 #[.agg #[.int .i64 m.kind, .int .i64 m.id, .int .i64 m.off, .int .i64 m.tot, .slice da m.ds.length cd, .string ⟨m.data.toArray⟩]] W fun e w' => e = .returned (.bool true) ∧ Below W.heap.size W w') := Lib.hid (fun W => great_yes _ _ _ _ _ _ _ _ W (by rw [ba_len]; exact hg))
          clear hg
          go_wp2_with fail
          refine (HG.out _).mono ?_
          rintro e x1 ⟨rfl, hb⟩
          have HB1 := Lib.hid ((HM.out.bel.alloc hws (.cells #[.int .i64 m.kind, .int .i64 m.id, .int .i64 m.off, .int .i64 m.tot, .slice da m.ds.length cd, .string ⟨m.data.toArray⟩] 34)).trans (hb.mono (by simp; omega)))
          clear hb
          go_wp2_with fail
          refine (awake_any _).mono ?_
          rintro e x4 ⟨rfl, b4⟩
          have B4 := Lib.hid b4
          clear b4
          go_wp2_with fail
          go_ret
          exact ⟨rfl, HB1.out.trans (B4.out.mono HB1.out.size)⟩
        · have hdl : (m.ds.length : Int) ≤ 10 := by omega
          have hTl : (m.data.length : Int) ≤ 100 := by omega
          clear hg
          have HG : Hid (∀ W, Calls Try.prog 16 #[.agg #[.int .i64 m.kind, .int .i64 m.id, .int .i64 m.off, .int .i64 m.tot, .slice da m.ds.length cd, .string ⟨m.data.toArray⟩]] W fun e w' => e = .returned (.bool false) ∧ Below W.heap.size W w') := Lib.hid (fun W => great_no _ _ _ _ _ _ _ _ W hdl (by rw [ba_len]; exact hTl))
          obtain ⟨R, E, hRE⟩ : ∃ R E, encS m = (R, E) := ⟨_, _, rfl⟩
          have HEn : Hid (∀ W, Below wr.heap.size wr W → Calls Try.prog 27 #[.agg #[.int .i64 m.kind, .int .i64 m.id, .int .i64 m.off, .int .i64 m.tot, .slice da m.ds.length cd, .string ⟨m.data.toArray⟩]] W fun e w' => e = .returned (.tuple #[.string ⟨R.toArray⟩, .int .i64 E]) ∧ Below W.heap.size W w') := Lib.hid (fun W hW => by
            have := encode_any m da cd W (((HD.out.mono hws).below hW (Nat.le_refl _)).mono hW.size) (fun d hd => ⟨(HDK.out d hd).1.1, (HDK.out d hd).2.1⟩) (by omega) (by omega)
            rwa [hRE] at this)
          have HRE := Lib.hid hRE
          clear hRE
          obtain ⟨kind, id, off, tot, ds, T⟩ := m
          simp only at c0 c1 c2 c3 c4 c5 HD HDK hml hdl hTl HG HEn
          obtain ⟨nd, hnd⟩ : ∃ nd, nd = ds.length := ⟨_, rfl⟩
          rw [← hnd] at c4 HG HEn hdl
          have HND := Lib.hid hnd
          clear hnd
          go_wp2_with fail
          refine (HG.out _).mono ?_
          rintro e x1 ⟨rfl, hb⟩
          have HBx : Hid (Below wr.heap.size wr x1) := Lib.hid (((Below.refl _ wr).alloc (Nat.le_refl _) _).trans (hb.mono (by simp)))
          have hbox := hb.block wr.heap.size (by simp)
          have hx1 : wr.heap.size < x1.heap.size := by have := hb.size; simp at this; omega
          rw [World.alloc_heap_new wr _] at hbox
          have e0 : x1.cell? ⟨wr.heap.size, 0, none⟩ = some (.int .i64 kind) := by rw [Lib.cell_of_heap hbox]; rfl
          have e1 : x1.cell? ⟨wr.heap.size, 1, none⟩ = some (.int .i64 id) := by rw [Lib.cell_of_heap hbox]; rfl
          have e2 : x1.cell? ⟨wr.heap.size, 2, none⟩ = some (.int .i64 off) := by rw [Lib.cell_of_heap hbox]; rfl
          have e3 : x1.cell? ⟨wr.heap.size, 3, none⟩ = some (.int .i64 tot) := by rw [Lib.cell_of_heap hbox]; rfl
          have e4 : x1.cell? ⟨wr.heap.size, 4, none⟩ = some (.slice da nd cd) := by rw [Lib.cell_of_heap hbox]; rfl
          have e5 : x1.cell? ⟨wr.heap.size, 5, none⟩ = some (.string ⟨T.toArray⟩) := by rw [Lib.cell_of_heap hbox]; rfl
          have HBOX := Lib.hid hbox
          clear hb hbox c0 c1 c2 c3 c4 c5 HG
          go_wp2_with fail
          refine (HEn.out _ HBx.out).mono ?_
          rintro e x2 ⟨rfl, hb⟩
          have hbox := (hb.block wr.heap.size hx1).trans HBOX.out
          have HBy : Hid (Below wr.heap.size wr x2) := Lib.hid (HBx.out.trans (hb.mono HBx.out.size))
          have hx2 : wr.heap.size < x2.heap.size := Nat.lt_of_lt_of_le hx1 hb.size
          have f0 : x2.cell? ⟨wr.heap.size, 0, none⟩ = some (.int .i64 kind) := by rw [Lib.cell_of_heap hbox]; rfl
          have f1 : x2.cell? ⟨wr.heap.size, 1, none⟩ = some (.int .i64 id) := by rw [Lib.cell_of_heap hbox]; rfl
          have f2 : x2.cell? ⟨wr.heap.size, 2, none⟩ = some (.int .i64 off) := by rw [Lib.cell_of_heap hbox]; rfl
          have f3 : x2.cell? ⟨wr.heap.size, 3, none⟩ = some (.int .i64 tot) := by rw [Lib.cell_of_heap hbox]; rfl
          have f4 : x2.cell? ⟨wr.heap.size, 4, none⟩ = some (.slice da nd cd) := by rw [Lib.cell_of_heap hbox]; rfl
          have f5 : x2.cell? ⟨wr.heap.size, 5, none⟩ = some (.string ⟨T.toArray⟩) := by rw [Lib.cell_of_heap hbox]; rfl
          have HM2 := Lib.hid (HM.out.below HBy.out)
          clear hb hbox HBOX HBx e0 e1 e2 e3 e4 e5 HEn
          by_cases hE : E = 0
          · subst hE
            have hwhy : Msg.why ⟨kind, id, off, tot, ds, T⟩ = 0 := by
              by_cases h0 : Msg.why ⟨kind, id, off, tot, ds, T⟩ = 0
              · exact h0
              · have := HRE.out
                rw [encS_bad h0, Prod.mk.injEq] at this
                exact absurd this.2 h0
            have hR : R = frameE ⟨kind, id, off, tot, ds, T⟩ := by
              have := HRE.out
              rw [encS_fst hwhy, Prod.mk.injEq] at this
              exact this.1.symm
            have hRl : R.length ≤ 100012 := by
              rw [hR, frameE_length]
              have := why_body hwhy
              omega
            obtain ⟨l', hl'⟩ : ∃ l', l' = l ++ R := ⟨_, rfl⟩
            have hcat : (⟨l.toArray⟩ : ByteArray) ++ ⟨R.toArray⟩ = ⟨l'.toArray⟩ := by rw [hl', ba_append]
            have hl2 : l'.length ≤ (k + 1) * 200000 := by rw [hl', List.length_append]; omega
            have HL2 : Hid (l' = ((acc ++ [((⟨kind, id, off, tot, ds, T⟩ : Msg), da, cd)]).map Prod.fst).flatMap frameE) := Lib.hid (by rw [hl', HLE.out, hR]; simp)
            have HW2 : Hid (∀ x ∈ acc ++ [((⟨kind, id, off, tot, ds, T⟩ : Msg), da, cd)], x.1.why = 0 ∧ DOk x.1.ds) := Lib.hid (fun x hx => by
              rcases List.mem_append.1 hx with hx | hx
              · exact HW.out x hx
              · simp only [List.mem_singleton] at hx; subst hx; exact ⟨hwhy, HDK.out⟩)
            clear hl' hwhy hR
            go_wp2_with (at_builtin; refine wpList_append_lies _ rfl _ _ 23 rfl w.heap.size 34 i0 (.agg #[.int .i64 0, .int .i64 0, .int .i64 0, .int .i64 0, .slice none 0 0, .string ⟨#[]⟩]) 6 72 Try.underlying23 hi HZ0.out HZ1.out HZ2.out rfl (by decide) _ _ _ rfl (HM2.out.own.alloc _) ⟨x2.heap.size, 0, none⟩ 1 1 [.int .i64 kind, .int .i64 id, .int .i64 off, .int .i64 tot, .slice da nd cd, .string ⟨T.toArray⟩] rfl rfl (alloc1_msg x2 kind id off tot nd cd da ⟨T.toArray⟩) ?_ ?_ ?_ ?_ ?_ _ rfl ?_)
            · intro u hu; simp at hu; rcases hu with rfl | rfl | rfl | rfl | rfl | rfl <;> rfl
            · decide
            · unfold maxLen; omega
            · omega
            · simp; omega
            · intro g cap w' hown' hgrow hat' hlt'
              have HM4 : Hid (MRow w w' (.slice (some ⟨g, 0, none⟩) (acc.length + 1) cap) (acc ++ [(⟨kind, id, off, tot, ds, T⟩, da, cd)])) := Lib.hid (by
                have hb4 : Below x2.heap.size x2 (x2.alloc (.cells #[.int .i64 kind, .int .i64 id, .int .i64 off, .int .i64 tot, .slice da nd cd, .string ⟨T.toArray⟩] 34)) := (Below.refl _ x2).alloc (Nat.le_refl _) _
                have hdd := ((HD.out.mono hws).below HBy.out (Nat.le_refl _))
                have hdd2 := ((hdd.mono HBy.out.size).below hb4 (Nat.le_refl _)).mono hb4.size
                refine (HM2.out.below hb4).snoc (m := ⟨kind, id, off, tot, ds, T⟩) hdd2 ?_ (fun h0 ad ha e => ?_) ?_ hgrow hat' (by simp)
                · show ds.length ≤ 1000
                  rw [← HND.out]; omega
                · obtain ⟨bb, oo, hab, hbb, _⟩ := HD.out 0 h0
                  rw [hab] at ha
                  cases ha
                  have h1 : w.heap.size ≤ bb := (HM2.out.own.lt _ e).1
                  omega
                · show w'.ownsRow _ _ _ _ _ (mcells acc ++ [.int .i64 kind, .int .i64 id, .int .i64 off, .int .i64 tot, .slice da ds.length cd, .string ⟨T.toArray⟩])
                  rw [← HND.out]; exact hown')
              clear hown' hgrow hat' hlt' HM2 f0 f1 f2 f3 f4 f5
              go_wp2_with fail
              go_roundw
              case rel => exact ⟨k + 1, acc ++ [(⟨kind, id, off, tot, ds, T⟩, da, cd)], l', by omega, by go_num, rfl, by simp; omega, hl2, HM4, HL2, HW2⟩
              case measure => simp [intOf]; omega
          · have hE' : (E == 0) = false := by simpa using hE
            have hl2 : l.length ≤ (k + 1) * 200000 := Nat.le_trans hll (Nat.mul_le_mul_right _ (Nat.le_succ k))
            have hal2 : acc.length ≤ k + 1 := by omega
            clear hE
            go_wp2_with fail
            go_roundw
            case rel => exact ⟨k + 1, acc, l, by omega, by go_num, rfl, hal2, hl2, HM2, HLE, HW⟩
            case measure => simp [intOf]; omega
      · have HSc : Hid (Scans l (acc.map Prod.fst) l.length) := Lib.hid (by
          rw [HLE.out]
          exact scans_stream _ (fun m hm => by
            obtain ⟨x, hx, rfl⟩ := List.mem_map.1 hm
            exact HW.out x hx))
        obtain ⟨av, cv, rfl, hcap⟩ := ownsRow_sliceN HM.out.own
        have hl9 : (l.length : Int) ≤ 1000000000000 := by omega
        clear HMS HOK HLE HW hll
        go_wp2_with fail
        refine (scan_any l _ hl9).mono ?_
        rintro e x1 ⟨got, j, p1, c1, hsc, rfl, m1, b1, hc1, hds1⟩
        obtain ⟨rfl, rfl⟩ := hsc.one HSc.out
        have HS : Hid (∀ W, Below x1.heap.size x1 W → Calls Try.prog 14 #[.slice av acc.length cv, .slice p1 acc.length c1] W fun e w' => e = .returned (.bool true) ∧ Below W.heap.size W w') := Lib.hid (fun W hW => by
          have h1 := ownsRow_msgs (HM.out.below b1).own (fun x hx => ((HM.out.below b1).ds x hx).1)
          have h2 := sameAll_eq av p1 (acc.map Prod.fst) cv c1 W ((h1.below hW (Nat.le_refl _)).mono hW.size) ((m1.below hW (Nat.le_refl _)).mono hW.size) (by rw [List.length_map]; omega) (fun y hy => by have := hds1 y hy; omega)
          rw [List.length_map] at h2
          exact h2)
        have B1 : Hid (Below w.heap.size w x1) := Lib.hid (HM.out.bel.trans (b1.mono hws))
        rw [List.length_map] at hc1
        clear m1 b1 hsc hds1
        rw [List.length_map]
        go_wp2_with fail
        refine (HS.out _ (Below.refl _ _)).mono ?_
        rintro e x3 ⟨rfl, b3⟩
        have B3 := Lib.hid b3
        clear b3
        have t1 : (((l.length : Nat) : Int) == (l.length : Int)) = true := by simp
        go_wp2_with fail
        refine (awake_any _).mono ?_
        rintro e x4 ⟨rfl, b4⟩
        have B4 := Lib.hid b4
        clear b4
        go_wp2_with fail
        go_ret
        have c1 := B1.out.size
        have c3 := B3.out.size
        exact ⟨rfl, (B1.out.trans (B3.out.mono c1)).trans (B4.out.mono (by omega))⟩

end Go.Proofs.Ytlijaacjfnjmjaa.wireStream
