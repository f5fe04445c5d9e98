/- The reference's Scan. -/
import Derived.Test.YtlijaacjfnjmjaaWireRB
namespace Go.Proofs.Ytlijaacjfnjmjaa
open Go.RowKit
set_option linter.unusedVariables false

theorem refN_len : ∀ (k : Nat) (l : List UInt8), (refN k l).2.length ≤ l.length
  | 0, l => Nat.le_refl _
  | k + 1, l => by
    rw [refN]
    refine Nat.le_trans (refN_len k _) ?_
    rw [List.length_drop]; omega
theorem getT_len (l : List UInt8) : (Cw.getT l).1.length ≤ 65536 := by
  obtain ⟨n, k, er, _, hc⟩ := getT_cases l
  rcases hc with ⟨_, hr⟩ | ⟨_, _, hr⟩ | ⟨_, _, _, hr⟩ | ⟨_, _, _, hr⟩
  · rw [hr]; simp
  · rw [hr]; simp
  · rw [hr]; simp
  · rw [hr]; simp only [List.length_take, List.length_drop]; omega
theorem refBody_ok (l : List UInt8) : DOk (refBodyS l).ds ∧ (refBodyS l).ds.length ≤ l.length ∧ (refBodyS l).data.length ≤ 65536 := by
  have h := refDs_ok ((refN 5 l).1.getD 4 0).toNat (refN 5 l).2
  have h2 := refN_len 5 l
  exact ⟨h.1, by show (refDs _ _).1.length ≤ _; omega, getT_len _⟩
theorem encS_cases (m : Msg) : (m.why = 0 ∧ encS m = (frameE m, 0)) ∨ (m.why ≠ 0 ∧ encS m = ([], m.why)) := by
  by_cases h : m.why = 0
  · exact .inl ⟨h, if_pos h⟩
  · exact .inr ⟨h, if_neg h⟩
theorem frame_ref {s T F R : List UInt8} {n : Nat} {E : Int} (h12 : 12 ≤ s.length) (hn : n = fixN (s.take 4)) (hs : n ≤ s.length - 12) (hF : F = s.take (12 + n)) (hT : T = (s.drop 12).take n) (hE : encS (refBodyS T) = (R, E)) :
    frameS s = if E = 0 ∧ R = F then some (refBodyS T, 12 + n) else none := by
  by_cases hc : E = 0 ∧ R = F
  · rw [if_pos hc]
    obtain ⟨rfl, rfl⟩ := hc
    rcases encS_cases (refBodyS T) with ⟨hw, he⟩ | ⟨hw, he⟩
    · rw [hE, Prod.mk.injEq] at he
      have h1 : s = frameE (refBodyS T) ++ s.drop (12 + n) := by rw [← he.1, hF, List.take_append_drop]
      have h2 : (frameE (refBodyS T)).length = 12 + n := by rw [← he.1, hF, List.length_take]; omega
      have h3 := frame_is hw (refBody_ok T).1 (s.drop (12 + n))
      rw [← h1, h2] at h3
      exact h3
    · rw [hE, Prod.mk.injEq] at he
      exact absurd he.2.symm hw
  · rw [if_neg hc]
    cases hf : frameS s with
    | none => rfl
    | some x =>
      obtain ⟨m, u⟩ := x
      exfalso
      apply hc
      obtain ⟨h1, h2, h3⟩ := frame_canon hf
      unfold frameS at hf
      rw [if_neg (by omega), ← hn, if_neg (by omega), ← hT] at hf
      split at hf
      · cases hf
      · simp only [Option.map_eq_some_iff, Prod.mk.injEq] at hf
        obtain ⟨m', hm, rfl, rfl⟩ := hf
        have h4 := refBody_of hm
        rw [h4] at hE
        unfold encS at hE
        rw [if_pos h2, Prod.mk.injEq] at hE
        exact ⟨hE.2.symm, by rw [← hE.1, ← h1, hF]⟩

set_option maxRecDepth 100000 in
set_option maxHeartbeats 2000000 in
theorem refScan_any (L : List UInt8) (w : World) (hL : (L.length : Int) ≤ 1000000000) :
    Calls Try.prog 29 #[.string ⟨L.toArray⟩] w (GotSc w L) := by
  obtain ⟨i0, hi, hz0, hz1, hz2⟩ := info_parts infoMsg
  have HZ0 := Lib.hid hz0
  have HZ1 := Lib.hid hz1
  have HZ2 := Lib.hid hz2
  clear hz0 hz1 hz2
  go_enter Try.func29, Try.ntmps29
  go_wp2_with fail
  go_loopw [4, 5] (fun v i wr => ∃ (at_ : Nat) (acc : List MA), i = .int .i64 at_ ∧ at_ ≤ L.length ∧ acc.length * 12 ≤ at_ ∧ Hid (MRow w wr v acc) ∧ Hid (SR L at_ (acc.map Prod.fst))) (fun _ i _ => L.length - (intOf i).toNat)
  case atStart => exact ⟨0, [], rfl, by omega, by simp, Lib.hid (MRow.start w), Lib.hid (SR.start L)⟩
  case round =>
    obtain ⟨at_, acc, rfl, hat, hacc, HM, HSR⟩ := hrel
    by_cases h12 : at_ + 12 ≤ L.length
    · obtain ⟨X4, hX4⟩ : ∃ X4, X4 = (L.drop at_).take 4 := ⟨_, rfl⟩
      obtain ⟨n, hn⟩ : ∃ n, n = fixN X4 := ⟨_, rfl⟩
      have hx4 : X4.length = 4 := by rw [hX4]; simp; omega
      have hn4 : n < 4294967296 := by rw [hn]; exact fixN_lt4 X4 (by omega)
      have H4 : Hid (∀ W, Calls Try.prog 50 #[.string ⟨X4.toArray⟩] W fun e w' => e = .returned (.int .u64 (n : Int)) ∧ W = w') := Lib.hid (fun W => by
        have := value_any X4 W (by omega)
        rwa [fix_is X4 (by omega), ← hn] at this)
      have hex4 : (⟨L.toArray⟩ : ByteArray).extract at_ (at_ + 4) = ⟨X4.toArray⟩ := by rw [ex_mid, hX4, Nat.add_sub_cancel_left]
      have hwu : IntKind.u64.wrap ((L.length : Int) - at_ - 12) = (L.length : Int) - at_ - 12 := by rw [wrap_u64]; omega
      have hwn : IntKind.i64.wrap (n : Int) = (n : Int) := wrap_i64 (by omega) (by omega)
      by_cases hsz : L.length - at_ - 12 < n
      · have HSc := Lib.hid (HSR.out.fin (by
          unfold frameS
          rw [if_neg (by rw [List.length_drop]; omega), ← hX4, ← hn, if_pos (by rw [List.length_drop]; omega)]))
        have hsz' : (L.length : Int) - at_ - 12 < n := by omega
        obtain ⟨av, cv, rfl, hcap⟩ := ownsRow_sliceN HM.out.own
        clear hX4 hn hx4
        go_wp2_with fail
        refine (H4.out _).mono ?_
        rintro e x ⟨rfl, rfl⟩
        go_wp2_with fail
        go_ret2
        exact HM.out.got HSc.out hcap
      · have hsz' : (n : Int) ≤ (L.length : Int) - at_ - 12 := by omega
        have dsz : decide ((L.length : Int) - at_ - 12 < n) = false := by simp; omega
        obtain ⟨T, hT⟩ : ∃ T, T = ((L.drop at_).drop 12).take n := ⟨_, rfl⟩
        obtain ⟨F, hF⟩ : ∃ F, F = (L.drop at_).take (12 + n) := ⟨_, rfl⟩
        obtain ⟨m, hm⟩ : ∃ m, m = refBodyS T := ⟨_, rfl⟩
        obtain ⟨R, E, hRE⟩ : ∃ R E, encS m = (R, E) := ⟨_, _, rfl⟩
        have hTl : T.length = n := by rw [hT]; simp; omega
        have hFl : F.length = 12 + n := by rw [hF]; simp; omega
        have HFR := Lib.hid (frame_ref (s := L.drop at_) (n := n) (R := R) (E := E) (by rw [List.length_drop]; omega) (by rw [← hX4]; exact hn) (by rw [List.length_drop]; omega) hF hT (by rw [← hm]; exact hRE))
        rw [← hm] at HFR
        have hexF : (⟨L.toArray⟩ : ByteArray).extract at_ (at_ + 12 + n) = ⟨F.toArray⟩ := by rw [ex_mid, hF, show at_ + 12 + n - at_ = 12 + n by omega]
        have hexT : (⟨F.toArray⟩ : ByteArray).extract 12 F.length = ⟨T.toArray⟩ := by
          rw [ex_mid, List.take_of_length_le (by simp), hF, hT, List.drop_take, Nat.add_sub_cancel_left]
        have HBo := Lib.hid (fun W => refBody_any T W (by omega))
        rw [← hm] at HBo
        have hok := refBody_ok T
        rw [← hm, hTl] at hok
        have hwy : E = 0 → m.why = 0 := fun h => by
          rcases encS_cases m with ⟨hw, _⟩ | ⟨hw, he⟩
          · exact hw
          · rw [hRE, Prod.mk.injEq] at he; rw [← he.2]; exact h
        have HDL : Hid (E = 0 → m.ds.length ≤ 1000) := Lib.hid (fun h => by
          have := vM_bounds (why_zero (hwy h)).2.2
          omega)
        have HEn : Hid (∀ (a : Option Addr) (cd : Nat) W, Digs W.heap.size W a m.ds → Calls Try.prog 28 #[m.val a cd] W fun e w' => e = .returned (.tuple #[.string ⟨R.toArray⟩, .int .i64 E]) ∧ Below W.heap.size W w') := Lib.hid (fun a cd W hd => by
          have := refEncode_any m a cd W hd hok.1 (by omega) (by omega)
          rwa [hRE] at this)
        have hFa : (12 : Int) + n ≤ F.length := by omega
        have hFb : (F.length : Int) ≤ 12 + n := by omega
        have HFl := Lib.hid hFl
        clear hX4 hn hx4 hT hF hm hRE hok hwy hsz hFl hTl
        go_wp2_with fail
        refine (H4.out _).mono ?_
        rintro e x ⟨rfl, rfl⟩
        go_wp2_with fail
        (with_reducible refine (HBo.out _).mono ?_)
        rintro e x1 ⟨da, dc, rfl, hdd, hb1, hda⟩
        have HM1 := Lib.hid (HM.out.below hb1)
        have HDA := Lib.hid hda
        have hx1 := hb1.size
        have HDD := Lib.hid hdd
        have HOLD := Lib.hid HM.out.own.lt
        clear hdd hb1 hda HBo H4
        obtain ⟨kind, id, off, tot, ds, data⟩ := m
        simp only at HDD HDL
        change Hid (∀ (a : Option Addr) (cd : Nat) W, Digs W.heap.size W a ds → Calls Try.prog 28 #[.agg #[.int .i64 kind, .int .i64 id, .int .i64 off, .int .i64 tot, .slice a ds.length cd, .string ⟨data.toArray⟩]] W fun e w' => e = .returned (.tuple #[.string ⟨R.toArray⟩, .int .i64 E]) ∧ Below W.heap.size W w') at HEn
        go_wp2_with fail
        have HD2 : Hid (Digs (x1.alloc (.cells #[.int .i64 kind, .int .i64 id, .int .i64 off, .int .i64 tot, .slice da ds.length dc, .string ⟨data.toArray⟩] 34)).heap.size (x1.alloc (.cells #[.int .i64 kind, .int .i64 id, .int .i64 off, .int .i64 tot, .slice da ds.length dc, .string ⟨data.toArray⟩] 34)) da ds) := Lib.hid ((HDD.out.below ((Below.refl _ x1).alloc (Nat.le_refl _) (.cells #[.int .i64 kind, .int .i64 id, .int .i64 off, .int .i64 tot, .slice da ds.length dc, .string ⟨data.toArray⟩] 34)) (Nat.le_refl _)).mono (by simp))
        refine (HEn.out da dc _ HD2.out).mono ?_
        rintro e x2 ⟨rfl, hb2⟩
        have hbox := hb2.block x1.heap.size (by simp)
        rw [World.alloc_heap_new x1 _] at hbox
        have f0 : x2.cell? ⟨x1.heap.size, 0, none⟩ = some (.int .i64 kind) := by rw [Lib.cell_of_heap hbox]; rfl
        have f1 : x2.cell? ⟨x1.heap.size, 1, none⟩ = some (.int .i64 id) := by rw [Lib.cell_of_heap hbox]; rfl
        have f2 : x2.cell? ⟨x1.heap.size, 2, none⟩ = some (.int .i64 off) := by rw [Lib.cell_of_heap hbox]; rfl
        have f3 : x2.cell? ⟨x1.heap.size, 3, none⟩ = some (.int .i64 tot) := by rw [Lib.cell_of_heap hbox]; rfl
        have f4 : x2.cell? ⟨x1.heap.size, 4, none⟩ = some (.slice da ds.length dc) := by rw [Lib.cell_of_heap hbox]; rfl
        have f5 : x2.cell? ⟨x1.heap.size, 5, none⟩ = some (.string ⟨data.toArray⟩) := by rw [Lib.cell_of_heap hbox]; rfl
        have HB12 : Hid (Below x1.heap.size x1 x2) := Lib.hid (((Below.refl _ x1).alloc (Nat.le_refl _) _).trans (hb2.mono (by simp)))
        have HM2 := Lib.hid (HM1.out.below HB12.out)
        have hx2 := HB12.out.size
        clear hb2 hbox HD2 HEn HM1
        by_cases hE : E = 0
        · subst hE
          by_cases hRF : R = F
          · subst hRF
            have HF2 : Hid (frameS (L.drop at_) = some ((⟨kind, id, off, tot, ds, data⟩ : Msg), 12 + n)) := Lib.hid (by rw [HFR.out, if_pos ⟨rfl, rfl⟩])
            have HSR1 := Lib.hid (HSR.out.next HF2.out)
            have hml := HDL.out rfl
            clear HFR HSR HF2 HDL
            go_wp2_with (at_builtin; refine wpList_append_lies _ rfl _ _ 23 rfl w.heap.size 34 i0 (.agg #[.int .i64 0, .int .i64 0, .int .i64 0, .int .i64 0, .slice none 0 0, .string ⟨#[]⟩]) 6 72 Try.underlying23 hi HZ0.out HZ1.out HZ2.out rfl (by decide) _ _ _ rfl (HM2.out.own.alloc _) ⟨x2.heap.size, 0, none⟩ 1 1 [.int .i64 kind, .int .i64 id, .int .i64 off, .int .i64 tot, .slice da ds.length dc, .string ⟨data.toArray⟩] rfl rfl (alloc1_msg x2 kind id off tot ds.length dc da ⟨data.toArray⟩) ?_ ?_ ?_ ?_ ?_ _ rfl ?_)
            · intro u hu; simp at hu; rcases hu with rfl | rfl | rfl | rfl | rfl | rfl <;> rfl
            · decide
            · unfold maxLen; omega
            · omega
            · have := HM2.out.bel.size; simp; omega
            · intro g cap w' hown' hgrow hat' hlt'
              have HM4 : Hid (MRow w w' (.slice (some ⟨g, 0, none⟩) (acc.length + 1) cap) (acc ++ [(⟨kind, id, off, tot, ds, data⟩, da, dc)])) := Lib.hid (by
                have hb4 : Below x2.heap.size x2 (x2.alloc (.cells #[.int .i64 kind, .int .i64 id, .int .i64 off, .int .i64 tot, .slice da ds.length dc, .string ⟨data.toArray⟩] 34)) := (Below.refl _ x2).alloc (Nat.le_refl _) _
                have hdd := (HDD.out.below HB12.out (Nat.le_refl _)).mono HB12.out.size
                exact (HM2.out.below hb4).snoc (m := ⟨kind, id, off, tot, ds, data⟩) ((hdd.below hb4 (Nat.le_refl _)).mono hb4.size) hml (fun _ ad ha e => by
                  have h1 := (HOLD.out _ e).2
                  have h2 := HDA.out ad ha
                  omega) hown' hgrow hat' (by simp))
              clear hown' hgrow hat' hlt' HM2 HDD HDA HOLD f0 f1 f2 f3 f4 f5
              have hlen : ((R.length : Nat) : Int) = 12 + n := by omega
              have HLN := Lib.hid hlen
              clear hlen
              go_wp2_with fail
              go_roundw
              case rel =>
                refine ⟨at_ + (12 + n), acc ++ [(⟨kind, id, off, tot, ds, data⟩, da, dc)], ?_, by omega, by simp; omega, HM4, ?_⟩
                · first | go_num | (congr 1; have := HLN.out; omega)
                · rw [List.map_append]; exact HSR1
              case measure => simp [intOf]; omega
          · have HSc := Lib.hid (HSR.out.fin (by rw [HFR.out, if_neg (fun h => hRF h.2)]))
            have hne : (R == F) = false := by simpa using hRF
            clear hRF
            clear HFR HSR HDL
            obtain ⟨av, cv, rfl, hcap⟩ := ownsRow_sliceN HM2.out.own
            go_wp2_with fail
            go_ret2
            exact HM2.out.got HSc.out hcap
        · have HSc := Lib.hid (HSR.out.fin (by rw [HFR.out, if_neg (fun h => hE h.1)]))
          have hE' : (E != 0) = true := by simpa using hE
          clear HFR HSR HDL hE
          obtain ⟨av, cv, rfl, hcap⟩ := ownsRow_sliceN HM2.out.own
          go_wp2_with fail
          go_ret2
          exact HM2.out.got HSc.out hcap
    · have HF : Hid (frameS (L.drop at_) = none) := Lib.hid (by unfold frameS; rw [if_pos (by rw [List.length_drop]; omega)])
      have HSc := Lib.hid (HSR.out.fin HF.out)
      obtain ⟨av, cv, rfl, hcap⟩ := ownsRow_sliceN HM.out.own
      go_wp2_with fail
      go_ret2
      exact HM.out.got HSc.out hcap

end Go.Proofs.Ytlijaacjfnjmjaa
