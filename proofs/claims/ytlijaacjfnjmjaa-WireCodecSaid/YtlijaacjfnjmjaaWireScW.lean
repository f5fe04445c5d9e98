/- wire.Scan. -/
import Derived.Test.YtlijaacjfnjmjaaWireSc
namespace Go.Proofs.Ytlijaacjfnjmjaa
open Go.RowKit
set_option linter.unusedVariables false

theorem getDs_length : ∀ (c : Nat) (l : List UInt8), (getDs c l).length = c
  | 0, _ => rfl
  | c + 1, l => by rw [getDs, List.length_cons, getDs_length]
theorem decS_ds {l : List UInt8} {m : Msg} (h : decS l = some m) : m.ds.length ≤ 1000 := by
  unfold decS at h
  split at h
  · split at h
    · cases h
    · rename_i hc
      unfold decT at h
      split at h
      · cases h
      · split at h
        · cases h
          rw [getDs_length]
          omega
        · cases h
  · cases h

/-- A row of messages with their digests, of which each lies apart from the row. -/
structure MRow (w wr : World) (v : Value) (acc : List MA) : Prop where
  own : wr.ownsRow w.heap.size 34 6 v acc.length (mcells acc)
  bel : Below w.heap.size w wr
  ds : ∀ x ∈ acc, Digs wr.heap.size wr x.2.1 x.1.ds ∧ x.1.ds.length ≤ 1000 ∧ (0 < x.1.ds.length → ∀ ad, x.2.1 = some ad → v.ownBlock ≠ some ad.block)
theorem MRow.start (w : World) : MRow w w (.slice none 0 0) [] := ⟨World.ownsRow_nil _ _ _ _, Below.refl _ _, fun x hx => by simp at hx⟩
theorem Digs.kept {w w' : World} {a : Option Addr} {ds : List (Int × Int)} {row : Option Nat} (h : Digs w.heap.size w a ds) (hg : w.grownBy w' row) (hne : 0 < ds.length → ∀ ad, a = some ad → row ≠ some ad.block) : Digs w'.heap.size w' a ds := by
  intro i hi
  obtain ⟨b, off, rfl, hlt, h1, h2⟩ := h i hi
  have hr : row ≠ some b := hne (by omega) _ rfl
  exact ⟨b, off, rfl, Nat.lt_of_lt_of_le hlt hg.size, (hg.cell_far ⟨b, off + i * 2, none⟩ hlt (fun e => hr e.symm)).trans h1, (hg.cell_far ⟨b, off + i * 2 + 1, none⟩ hlt (fun e => hr e.symm)).trans h2⟩
theorem MRow.below {w wr x : World} {v : Value} {acc : List MA} (h : MRow w wr v acc) (hb : Below wr.heap.size wr x) : MRow w x v acc := by
  refine ⟨h.own.kept (row := none) ⟨hb.os, hb.tape, hb.output, hb.size, fun k hk _ => hb.block k hk⟩ ?_, h.bel.trans (hb.mono h.bel.size), fun y hy => ?_⟩
  · cases h2 : v.ownBlock with
    | none => exact .inl rfl
    | some k => exact .inr (by simp)
  · obtain ⟨h1, h2, h3⟩ := h.ds y hy
    exact ⟨(h1.below hb (Nat.le_refl _)).mono hb.size, h2, h3⟩
theorem MRow.snoc {w x x' : World} {v : Value} {acc : List MA} {m : Msg} {da : Option Addr} {dc g cap H : Nat} (h : MRow w x v acc) (hd : Digs x.heap.size x da m.ds) (hl : m.ds.length ≤ 1000)
    (hv : 0 < m.ds.length → ∀ ad, da = some ad → v.ownBlock ≠ some ad.block)
    (hown : x'.ownsRow w.heap.size 34 6 (.slice (some ⟨g, 0, none⟩) (acc.length + 1) cap) (acc.length + 1) (mcells acc ++ [.int .i64 m.kind, .int .i64 m.id, .int .i64 m.off, .int .i64 m.tot, .slice da m.ds.length dc, .string ⟨m.data.toArray⟩]))
    (hg : x.grownBy x' v.ownBlock) (hat : v.ownBlock = some g ∨ g = H) (hH : x.heap.size = H) : MRow w x' (.slice (some ⟨g, 0, none⟩) (acc.length + 1) cap) (acc ++ [(m, da, dc)]) := by
  refine ⟨?_, h.bel.grown hg h.bel.size (fun k hk => (h.own.lt k hk).1), fun y hy => ?_⟩
  · rw [List.length_append, mcells_append]; exact hown
  · have hfar : ∀ {ds : List (Int × Int)} {a : Option Addr}, Digs x.heap.size x a ds → (0 < ds.length → ∀ ad, a = some ad → v.ownBlock ≠ some ad.block) → Digs x'.heap.size x' a ds ∧ (0 < ds.length → ∀ ad, a = some ad → (Value.slice (some ⟨g, 0, none⟩) (acc.length + 1) cap).ownBlock ≠ some ad.block) := fun {ds a} k1 k2 => by
      refine ⟨k1.kept hg k2, fun h0 ad ha => ?_⟩
      obtain ⟨b, off, hb, hlt, _⟩ := k1 0 h0
      subst ha
      cases hb
      show some g ≠ some b
      rcases hat with hat | hat
      · rw [← hat]; exact k2 h0 _ rfl
      · intro e; cases e; omega
    rcases List.mem_append.1 hy with hy | hy
    · obtain ⟨h1, h2, h3⟩ := h.ds y hy
      exact ⟨(hfar h1 h3).1, h2, (hfar h1 h3).2⟩
    · simp only [List.mem_singleton] at hy
      subst hy
      exact ⟨(hfar hd hv).1, hl, (hfar hd hv).2⟩

/-- What Scan leaves. -/
def GotSc (w : World) (s : List UInt8) (e : Ending) (w' : World) : Prop :=
  ∃ (ms : List Msg) (n : Nat) (a : Option Addr) (c : Nat), Scans s ms n ∧ e = .returned (.tuple #[.slice a ms.length c, .int .i64 n]) ∧ Msgs w'.heap.size w' a ms ∧ Below w.heap.size w w' ∧ ms.length ≤ c ∧ ∀ m ∈ ms, m.ds.length ≤ 1000
theorem MRow.got {w wr : World} {s : List UInt8} {av : Option Addr} {cv at_ : Nat} {acc : List MA} (h : MRow w wr (.slice av acc.length cv) acc) (hs : Scans s (acc.map Prod.fst) at_) (hc : acc.length ≤ cv) : GotSc w s (.returned (.tuple #[.slice av acc.length cv, .int .i64 at_])) wr := by
  refine ⟨acc.map Prod.fst, at_, av, cv, hs, by rw [List.length_map], ownsRow_msgs h.own (fun x hx => (h.ds x hx).1), h.bel, by rw [List.length_map]; exact hc, fun m hm => ?_⟩
  obtain ⟨x, hx, rfl⟩ := List.mem_map.1 hm
  exact (h.ds x hx).2.1

theorem sl_int (A : List UInt8) (i j : Int) (h0 : 0 ≤ i) (h : i ≤ j) (hj : j ≤ A.length) (W : World) : (Instr.slice 9 (.string ⟨A.toArray⟩) (some (.int .i64 i)) (some (.int .i64 j)) none).run Try.prog W = .ok (.string ⟨((A.drop i.toNat).take (j.toNat - i.toNat)).toArray⟩) W := by
  have := sl_mid A i.toNat j.toNat (by omega) (by omega) W
  rwa [Int.toNat_of_nonneg h0, Int.toNat_of_nonneg (by omega)] at this

theorem wrap_i64 {n : Int} (h0 : 0 ≤ n) (h1 : n ≤ 9223372036854775807) : IntKind.i64.wrap n = n := by
  simp only [IntKind.wrap, IntKind.bits, IntKind.signed]
  simp
  omega

set_option maxRecDepth 100000 in
set_option maxHeartbeats 2000000 in
theorem scan_any (L : List UInt8) (w : World) (hL : (L.length : Int) ≤ 1000000000000) :
    Calls Try.prog 26 #[.string ⟨L.toArray⟩] w (GotSc w L) := by
  obtain ⟨i0, hi, hz0, hz1, hz2⟩ := info_parts infoMsg
  have HZ0 := Lib.hid hz0
  have HZ1 := Lib.hid hz1
  have HZ2 := Lib.hid hz2
  clear hz0 hz1 hz2
  go_enter Try.func26, Try.ntmps26
  go_wp2_with fail
  go_loopw [4, 5] (fun v i wr => ∃ (at_ : Nat) (acc : List MA), i = .int .i64 at_ ∧ at_ ≤ L.length ∧ acc.length * 12 ≤ at_ ∧ Hid (MRow w wr v acc) ∧ Hid (SR L at_ (acc.map Prod.fst))) (fun _ i _ => L.length - (intOf i).toNat)
  case atStart => exact ⟨0, [], rfl, by omega, by simp, Lib.hid (MRow.start w), Lib.hid (SR.start L)⟩
  case round =>
    obtain ⟨at_, acc, rfl, hat, hacc, HM, HSR⟩ := hrel
    by_cases h12 : at_ + 12 ≤ L.length
    · obtain ⟨X4, hX4⟩ : ∃ X4, X4 = (L.drop at_).take 4 := ⟨_, rfl⟩
      obtain ⟨n, hn⟩ : ∃ n, n = fixN X4 := ⟨_, rfl⟩
      have hx4 : X4.length = 4 := by rw [hX4]; simp; omega
      have hn4 : n < 4294967296 := by rw [hn]; exact fixN_lt4 X4 (by omega)
      have H4 : Hid (∀ W, Calls Try.prog 38 #[.string ⟨X4.toArray⟩] W fun e w' => e = .returned (.int .u64 (n : Int)) ∧ W = w') := Lib.hid (fun W => by
        have := fixed_any X4 W (by omega)
        rwa [fix_is X4 (by omega), ← hn] at this)
      have hex4 : (⟨L.toArray⟩ : ByteArray).extract at_ (at_ + 4) = ⟨X4.toArray⟩ := by rw [ex_mid, hX4, Nat.add_sub_cancel_left]
      have HFR : Hid (frameS (L.drop at_) = if L.length - at_ - 12 < n then none else if (digS ((L.drop (at_ + 12)).take n)).1 ≠ fixS ((L.drop (at_ + 4)).take 8) then none else (decS ((L.drop (at_ + 12)).take n)).map fun m => (m, 12 + n)) := Lib.hid (by
        unfold frameS
        rw [if_neg (by rw [List.length_drop]; omega), ← hX4, ← hn, List.length_drop, List.drop_drop, List.drop_drop])
      clear hX4 hn hx4
      by_cases hsz : L.length - at_ - 12 < n
      · have HSc := Lib.hid (HSR.out.fin (by rw [HFR.out, if_pos hsz]))
        have hsz' : (L.length : Int) - at_ - 12 < n := by omega
        obtain ⟨av, cv, rfl, hcap⟩ := ownsRow_sliceN HM.out.own
        go_wp2_with fail
        refine (H4.out _).mono ?_
        rintro e x ⟨rfl, rfl⟩
        go_wp2_with fail
        go_ret2
        exact HM.out.got HSc.out hcap
      · have hsz' : (n : Int) ≤ (L.length : Int) - at_ - 12 := by omega
        obtain ⟨T, hT⟩ : ∃ T, T = (L.drop (at_ + 12)).take n := ⟨_, rfl⟩
        obtain ⟨X8, hX8⟩ : ∃ X8, X8 = (L.drop (at_ + 4)).take 8 := ⟨_, rfl⟩
        have hTl : T.length = n := by rw [hT]; simp; omega
        have hX8l : X8.length = 8 := by rw [hX8]; simp; omega
        have hexT : (⟨L.toArray⟩ : ByteArray).extract (at_ + 12) (at_ + 12 + n) = ⟨T.toArray⟩ := by rw [ex_mid, hT, Nat.add_sub_cancel_left]
        have sl8 : ∀ W, (Instr.slice 9 (.string ⟨L.toArray⟩) (some (.int .i64 ((at_ : Int) + 4))) (some (.int .i64 ((at_ : Int) + 12))) none).run Try.prog W = .ok (.string ⟨X8.toArray⟩) W := fun W => by
          rw [sl_int L ((at_ : Int) + 4) ((at_ : Int) + 12) (by omega) (by omega) (by omega) W, hX8]
          congr 6 <;> omega
        rw [← hT, ← hX8] at HFR
        obtain ⟨y, hy⟩ : ∃ y, y = fixS X8 := ⟨_, rfl⟩
        obtain ⟨dg, hdg⟩ : ∃ dg, dg = digS T := ⟨_, rfl⟩
        have H8 : Hid (∀ W, Calls Try.prog 38 #[.string ⟨X8.toArray⟩] W fun e w' => e = .returned (.int .u64 y) ∧ Below W.heap.size W w') := Lib.hid (fun W => by
          refine (fixed_any X8 W (by omega)).mono ?_
          rintro e w' ⟨rfl, rfl⟩
          exact ⟨by rw [hy], Below.refl _ _⟩)
        have HOf : Hid (∀ W, Calls Try.prog 39 #[.string ⟨T.toArray⟩] W fun e w' => e = .returned (.agg #[.int .u64 dg.1, .int .u64 dg.2]) ∧ Below W.heap.size W w') := Lib.hid (fun W => by
          rw [hdg]; exact of_any T W (by omega))
        have HDec := Lib.hid (fun W => decode_any T W (by omega))
        rw [← hy, ← hdg] at HFR
        obtain ⟨d1, d2⟩ := dg
        simp only at HOf HFR
        have s4 : IntKind.i64.wrap ((at_ : Int) + 4) = (at_ : Int) + 4 := wrap_i64 (by omega) (by omega)
        have s12 : IntKind.i64.wrap ((at_ : Int) + 12) = (at_ : Int) + 12 := wrap_i64 (by omega) (by omega)
        clear hT hX8 hy hdg hX8l hTl
        have hix : ∀ W, (Instr.index 72 (.agg #[.int .u64 d1, .int .u64 d2]) (.int .i64 0)).run Try.prog W = .ok (.int .u64 d1) W := fun W => by kernel_rfl
        have dsz : decide ((L.length : Int) - at_ - 12 < n) = false := by simp; omega
        by_cases hd : d1 = y
        · subst hd
          have hne : (d1 != d1) = false := by simp
          obtain ⟨R, hR⟩ : ∃ R, R = decS T := ⟨_, rfl⟩
          rw [← hR] at HDec
          have HFR2 : Hid (frameS (L.drop at_) = R.map fun m => (m, 12 + n)) := Lib.hid (by rw [HFR.out, if_neg hsz, if_neg (by simp), hR])
          have HR2 : Hid (∀ m, R = some m → m.ds.length ≤ 1000) := Lib.hid (fun m hm => decS_ds (hR.symm.trans hm))
          clear HFR hR hsz
          have hws := HM.out.bel.size
          go_wp2_with fail
          refine (H4.out _).mono ?_
          rintro e x ⟨rfl, rfl⟩
          go_wp2_with fail
          have HA8 := Lib.hid (fun d os => Calls.regrown_of (w := wr) (d := d) (os := os) (H8.out _))
          have HAO := Lib.hid (fun d os => Calls.regrown_of (w := wr) (d := d) (os := os) (HOf.out _))
          refine wp_region_quiet_below (by kernel_rfl) (by kernel_rfl) ?_
          repeat (any_goals (first | go_big_quiet_step (first | (with_reducible exact HA8.out _ _) | (with_reducible exact HAO.out _ _)) | quiet_step (first | (with_reducible exact HA8.out _ _) | (with_reducible exact HAO.out _ _))))
          refine wpQuiet_nil ?_
          intro w2 hw2
          have HB2 := Lib.hid (below_rg hw2)
          have HM2 := Lib.hid (HM.out.below HB2.out)
          have hw2s := HB2.out.size
          clear hw2 HA8 HAO HB2 HM
          go_wp2_with fail
          refine (HDec.out _).mono ?_
          rintro e x ⟨da, dc, rfl, hdd, hbx, hda⟩
          have HDD := Lib.hid hdd
          have HBX := Lib.hid hbx
          have HDA := Lib.hid hda
          have HM3 := Lib.hid (HM2.out.below hbx)
          have hxs := hbx.size
          clear hdd hbx hda HDec H4 H8 HOf hexT sl8 hix
          cases R with
          | none =>
            have HSc := Lib.hid (HSR.out.fin (by rw [HFR2.out]; rfl))
            clear HFR2 HR2 HSR
            obtain ⟨av, cv, rfl, hcap⟩ := ownsRow_sliceN HM3.out.own
            go_wp2_with fail
            go_ret2
            exact (HM3.out.below ((Below.refl _ x).alloc (Nat.le_refl _) _)).got HSc.out hcap
          | some m =>
            have HSR1 := Lib.hid (HSR.out.next (m := m) (u := 12 + n) (by rw [HFR2.out]; rfl))
            have hml := HR2.out m rfl
            clear HFR2 HR2 HSR
            obtain ⟨kind, id, off, tot, ds, data⟩ := m
            simp only [Option.getD_some, Option.isSome_some] at HDD hml ⊢
            go_wp2_with (at_builtin; refine wpList_append_lies _ rfl _ _ 23 rfl w.heap.size 34 i0 (.agg #[.int .i64 0, .int .i64 0, .int .i64 0, .int .i64 0, .slice none 0 0, .string ⟨#[]⟩]) 6 72 Try.underlying23 hi HZ0.out HZ1.out HZ2.out rfl (by decide) _ _ _ rfl ((HM3.out.own.alloc _).alloc _) ⟨x.heap.size + 1, 0, none⟩ 1 1 [.int .i64 kind, .int .i64 id, .int .i64 off, .int .i64 tot, .slice da ds.length dc, .string ⟨data.toArray⟩] rfl rfl ?_ ?_ ?_ ?_ ?_ ?_ _ rfl ?_)
            · have h0 : (x.alloc (.cells #[.int .i64 kind, .int .i64 id, .int .i64 off, .int .i64 tot, .slice da ds.length dc, .string ⟨data.toArray⟩] 34)).heap.size = x.heap.size + 1 := by simp
              have h1 := alloc1_msg (x.alloc (.cells #[.int .i64 kind, .int .i64 id, .int .i64 off, .int .i64 tot, .slice da ds.length dc, .string ⟨data.toArray⟩] 34)) kind id off tot ds.length dc da ⟨data.toArray⟩
              rw [h0] at h1
              exact h1
            · intro u hu; simp at hu; rcases hu with rfl | rfl | rfl | rfl | rfl | rfl <;> rfl
            · decide
            · unfold maxLen; omega
            · omega
            · simp; omega
            · intro g cap w' hown' hgrow hat' hlt
              have HM4 : Hid (MRow w w' (.slice (some ⟨g, 0, none⟩) (acc.length + 1) cap) (acc ++ [(⟨kind, id, off, tot, ds, data⟩, da, dc)])) := Lib.hid (by
                have hb4 : Below x.heap.size x ((x.alloc (.cells #[.int .i64 kind, .int .i64 id, .int .i64 off, .int .i64 tot, .slice da ds.length dc, .string ⟨data.toArray⟩] 34)).alloc (.cells #[.int .i64 kind, .int .i64 id, .int .i64 off, .int .i64 tot, .slice da ds.length dc, .string ⟨data.toArray⟩] 34)) := ((Below.refl _ x).alloc (Nat.le_refl _) _).alloc (by simp) _
                exact (HM3.out.below hb4).snoc (m := ⟨kind, id, off, tot, ds, data⟩) ((HDD.out.below hb4 (Nat.le_refl _)).mono hb4.size) hml (fun _ ad ha e => by
                  have h1 := (HM2.out.own.lt _ e).2
                  have h2 := HDA.out ad ha
                  omega) hown' hgrow hat' (by simp))
              clear hown' hgrow hat' hlt HM3 HDD HBX HDA HM2
              go_wp2_with fail
              go_roundw
              case rel =>
                refine ⟨at_ + (12 + n), acc ++ [(⟨kind, id, off, tot, ds, data⟩, da, dc)], by go_num, by omega, by simp; omega, HM4, ?_⟩
                rw [List.map_append]; exact HSR1
              case measure => simp [intOf]; omega
        · have hne : (d1 != y) = true := by simpa using hd
          have HSc := Lib.hid (HSR.out.fin (by rw [HFR.out, if_neg hsz, if_pos hd]))
          clear HFR hd hsz
          obtain ⟨av, cv, rfl, hcap⟩ := ownsRow_sliceN HM.out.own
          go_wp2_with fail
          refine (H4.out _).mono ?_
          rintro e x ⟨rfl, rfl⟩
          go_wp2_with fail
          have HA8 := Lib.hid (fun d os => Calls.regrown_of (w := wr) (d := d) (os := os) (H8.out _))
          have HAO := Lib.hid (fun d os => Calls.regrown_of (w := wr) (d := d) (os := os) (HOf.out _))
          refine wp_region_quiet_below (by kernel_rfl) (by kernel_rfl) ?_
          repeat (any_goals (first | go_big_quiet_step (first | (with_reducible exact HA8.out _ _) | (with_reducible exact HAO.out _ _)) | quiet_step (first | (with_reducible exact HA8.out _ _) | (with_reducible exact HAO.out _ _))))
          refine wpQuiet_nil ?_
          intro w2 hw2
          have HB2 := Lib.hid (below_rg hw2)
          clear hw2 HA8 HAO
          go_wp2_with fail
          go_ret2
          exact (HM.out.below HB2.out).got HSc.out hcap
    · have HF : Hid (frameS (L.drop at_) = none) := Lib.hid (by unfold frameS; rw [if_pos (by rw [List.length_drop]; omega)])
      have HSc := Lib.hid (HSR.out.fin HF.out)
      obtain ⟨av, cv, rfl, hcap⟩ := ownsRow_sliceN HM.out.own
      go_wp2_with fail
      go_ret2
      exact HM.out.got HSc.out hcap

end Go.Proofs.Ytlijaacjfnjmjaa
