/- The reference's Put, Add, Keep, Union. -/
import Derived.Test.YtlfodnehgedpmaaGreatRpG
namespace Go.Proofs.YtlfodnehgedpmaaGreat
open Go.RowKit Go.Shelf
set_option linter.unusedVariables false

set_option maxRecDepth 100000 in
set_option maxHeartbeats 2000000 in
theorem rput_any (a : Option Addr) (xs : List Itm) (c : Nat) (o : Ob) (ea : Option Addr) (ec : Nat) (pa : Option Addr) (pc : Nat) (w : World) (hp : PoolIn w a xs c) (ha : Asc xs) (ho : ObIn w o ea ec pa pc) (hok : OkO o) (hn100 : (xs.length : Int) ≤ 100000) :
    Calls Tryz.prog 29 #[.slice a xs.length c, o.val ea ec pa pc] w (GotPut w a xs (putS xs o)) := by
  have HE := Lib.hid (fun W (hW : Below w.heap.size w W) => renc_any o ea ec pa pc W (ho.below hW) hok)
  have hel := encodeS_len o
  obtain ⟨R, hR⟩ : ∃ R, R = putS xs o := ⟨_, rfl⟩
  rw [← hR]
  unfold putS at hR
  generalize encodeS o = r at HE hel hR
  obtain ⟨T, er⟩ := r
  simp only at HE hel hR
  have HOf := Lib.hid (fun W => refOf_any T W (by omega))
  generalize hdg : digS T = dg at HOf hR
  clear hdg
  obtain ⟨g1, g2⟩ := dg
  simp only at HOf
  have HI := Lib.hid (fun W (hW : Below w.heap.size w W) => rinsert_any a xs c ⟨(g1, g2), T⟩ W (hp.below hW).its ha hp.cap hn100)
  simp only [Itm.val] at HI
  generalize insS xs ⟨(g1, g2), T⟩ = I at HI hR
  obtain ⟨ys, ei⟩ := I
  simp only at HI hR
  obtain ⟨kind, data, ents, ⟨t1, t2⟩, pars, author, time, msg⟩ := o
  simp only [Ob.val] at HE ⊢
  have HP := Lib.hid hp.its
  clear ho hp ha hn100
  obtain ⟨n, hnn⟩ : ∃ n, n = xs.length := ⟨_, rfl⟩
  have HN := Lib.hid hnn
  rw [← hnn] at HI ⊢
  clear hnn
  generalize ents.length = ne at HE ⊢
  generalize pars.length = np at HE ⊢
  obtain ⟨u0, hu0⟩ : ∃ u0, u0 = ((w.alloc (.cells #[.int .i64 kind, .string ⟨data.toArray⟩, .slice ea ne ec, .int .u64 t1, .int .u64 t2, .slice pa np pc, .string ⟨author.toArray⟩, .int .i64 time, .string ⟨msg.toArray⟩] 35)).alloc (.cells #[.int .u64 0, .int .u64 0] 26)) := ⟨_, rfl⟩
  have HB0 : Hid (Below w.heap.size w u0) := Lib.hid (by rw [hu0]; exact ((Below.refl _ w).alloc (Nat.le_refl _) _).alloc (by simp) _)
  have HK0 : Hid (BK (w.heap.size + 1) #[.int .u64 0, .int .u64 0] 26 u0) := Lib.hid (by rw [hu0]; exact BK.new2 _ _ _ _)
  have hz0 : w.heap.size + 2 ≤ u0.heap.size := by rw [hu0]; simp
  have HE0 : Hid (Calls Tryz.prog 57 _ _ _) := Lib.hid (HE.out u0 HB0.out)
  rw [hu0] at HE0
  have HU0 := Lib.hid hu0
  clear HE
  by_cases he : er = 0
  · subst he
    rw [if_neg (by simp)] at hR
    have HR := Lib.hid hR
    clear hR hu0
    go_enter Tryz.func29, Tryz.ntmps29
    go_wp2_with fail
    have hx := HE0.out
    (with_reducible refine hx.mono ?_)
    clear hx HE0
    rintro e u1 ⟨rfl, hb⟩
    rw [← HU0.out] at hb
    have HB1 : Hid (Below w.heap.size w u1) := Lib.hid (HB0.out.trans (hb.mono (by omega)))
    have HK1 := Lib.hid (HK0.out.below hb)
    have hz1 : w.heap.size + 2 ≤ u1.heap.size := by have := hb.size; omega
    clear hb HU0 HB0 HK0 hz0
    go_wp2_with fail
    have hx := HOf.out u1
    (with_reducible refine hx.mono ?_)
    clear hx HOf
    rintro e u2 ⟨rfl, hb⟩
    have HB2 : Hid (Below w.heap.size w u2) := Lib.hid (HB1.out.trans (hb.mono (by omega)))
    have HK2 := Lib.hid (HK1.out.below hb)
    have hz2 : w.heap.size + 2 ≤ u2.heap.size := by have := hb.size; omega
    clear hb HB1 HK1 hz1
    have HB3 : Hid (Below w.heap.size w (u2.alloc (.cells #[.int .u64 g1, .int .u64 g2] 26))) := Lib.hid (HB2.out.alloc (by omega) _)
    have HK3 : Hid (BK (w.heap.size + 1) #[.int .u64 0, .int .u64 0] 26 (u2.alloc (.cells #[.int .u64 g1, .int .u64 g2] 26))) := Lib.hid (HK2.out.alloc _)
    have HD3 : Hid (BK u2.heap.size #[.int .u64 g1, .int .u64 g2] 26 (u2.alloc (.cells #[.int .u64 g1, .int .u64 g2] 26))) := Lib.hid (BK.new _ _ _)
    go_wp2_with fail
    have hx := HI.out _ HB3.out
    (with_reducible refine hx.mono ?_)
    clear hx HI
    rintro e u4 ⟨ra, rc, rfl, hpo⟩
    have HPO := Lib.hid hpo
    have hb := hpo.2.2.2
    have HK4 := Lib.hid (HK3.out.below hb)
    have HD4 := Lib.hid (HD3.out.below hb)
    have HB4 : Hid (Below w.heap.size w u4) := Lib.hid (HB3.out.trans (hb.mono (by simp; omega)))
    have c0 : u4.cell? ⟨w.heap.size + 1, 0, none⟩ = some (.int .u64 0) := by rw [HK4.out.cell]; rfl
    have c1 : u4.cell? ⟨w.heap.size + 1, 1, none⟩ = some (.int .u64 0) := by rw [HK4.out.cell]; rfl
    have f0 : u4.frozen? ⟨w.heap.size + 1, 0, none⟩ = false := HK4.out.frozen 0
    have f1 : u4.frozen? ⟨w.heap.size + 1, 1, none⟩ = false := HK4.out.frozen 1
    have k0 : u4.cell? ⟨u2.heap.size, 0, none⟩ = some (.int .u64 g1) := by rw [HD4.out.cell]; rfl
    have k1 : u4.cell? ⟨u2.heap.size, 1, none⟩ = some (.int .u64 g2) := by rw [HD4.out.cell]; rfl
    have hne : u2.heap.size ≠ w.heap.size + 1 := by omega
    clear hpo hb HB3 HK3 HD3 HK4 HD4
    by_cases hi : ei = 0
    · subst hi
      have HR2 : Hid (R = (ys, (g1, g2), 0)) := Lib.hid (by rw [HR.out, if_neg (by simp)])
      have HFN : Hid (∀ W, (∀ B, Its B u4 ra ys → Its B W ra ys) → W.heap.size = u4.heap.size → Below w.heap.size w W → GotPut w a xs R (.returned (.tuple #[.slice ra ys.length rc, .agg #[.int .u64 g1, .int .u64 g2], .int .i64 0])) W) := Lib.hid (fun W h1 h2 h3 => by
        rw [HR2.out]
        refine ⟨ra, rc, rfl, by rw [h2]; exact h1 _ HPO.out.1, HPO.out.2.1, ?_, h3⟩
        rcases HPO.out.2.2.1 with h | h
        · exact .inl h
        · exact .inr (fun ad had => by have := h ad had; simp at this; omega))
      have HAW : Hid (∀ ad, ra = some ad → 0 < ys.length → ad.block ≠ w.heap.size + 1) := Lib.hid (fun ad had hpos => by
        rcases HPO.out.2.2.1 with h | h
        · have h0 : 0 < xs.length := by rw [← h.2]; exact hpos
          obtain ⟨b, off, hb, hlt, _⟩ := HP.out 0 h0
          rw [← h.1, had] at hb
          cases hb
          simp only
          omega
        · have := h ad had; simp at this; omega)
      clear HR
      go_wp2_with fail
      go_region
      all_goals go_wp2_with fail
      refine bodyPost_ret (v := .tuple #[.slice ra ys.length rc, .agg #[.int .u64 g1, .int .u64 g2], .int .i64 0]) (by simp [results, Tryz.results29, go_sem, c0, c1]) rfl ?_
      exact HFN.out _ (fun B h => (h.set HAW.out _ _).set HAW.out _ _) (by simp) ((HB4.out.setCell (by simp) _).setCell (by simp) _).drew
    · have HR2 : Hid (R = ([], (0, 0), ei)) := Lib.hid (by rw [HR.out, if_pos hi])
      have hne2 : (ei != 0) = true := by simpa using hi
      clear HR hi
      go_wp2_with fail
      refine bodyPost_ret (v := .tuple #[.slice none 0 0, .agg #[.int .u64 0, .int .u64 0], .int .i64 ei]) (by simp [results, Tryz.results29, go_sem, c0, c1]) rfl ?_
      rw [HR2.out]
      exact ⟨none, 0, rfl, PoolAt.none _ _ ((HB4.out.setCell (by simp) _).setCell (by simp) _)⟩
  · rw [if_pos he] at hR
    have HR := Lib.hid hR
    have hne : (er != 0) = true := by simpa using he
    clear hR he HOf HI hu0
    go_enter Tryz.func29, Tryz.ntmps29
    go_wp2_with fail
    have hx := HE0.out
    (with_reducible refine hx.mono ?_)
    clear hx HE0
    rintro e u1 ⟨rfl, hb⟩
    rw [← HU0.out] at hb
    have HB1 : Hid (Below w.heap.size w u1) := Lib.hid (HB0.out.trans (hb.mono (by omega)))
    have HK1 := Lib.hid (HK0.out.below hb)
    have c0 : u1.cell? ⟨w.heap.size + 1, 0, none⟩ = some (.int .u64 0) := by rw [HK1.out.cell]; rfl
    have c1 : u1.cell? ⟨w.heap.size + 1, 1, none⟩ = some (.int .u64 0) := by rw [HK1.out.cell]; rfl
    have f0 : u1.frozen? ⟨w.heap.size + 1, 0, none⟩ = false := HK1.out.frozen 0
    have f1 : u1.frozen? ⟨w.heap.size + 1, 1, none⟩ = false := HK1.out.frozen 1
    clear hb HU0
    go_wp2_with fail
    refine bodyPost_ret (v := .tuple #[.slice none 0 0, .agg #[.int .u64 0, .int .u64 0], .int .i64 er]) (by simp [results, Tryz.results29, go_sem, c0, c1]) rfl ?_
    rw [HR.out]
    exact ⟨none, 0, rfl, PoolAt.none _ _ ((HB1.out.setCell (by simp) _).setCell (by simp) _)⟩

set_option maxRecDepth 100000 in
set_option maxHeartbeats 4000000 in
theorem radd_any (a : Option Addr) (xs : List Itm) (c : Nat) (d1 d2 : Int) (T : List UInt8) (w : World) (hp : PoolIn w a xs c) (ha : Asc xs) (hT : (T.length : Int) ≤ 1000000) (hn100 : (xs.length : Int) ≤ 100000) :
    Calls Tryz.prog 30 #[.slice a xs.length c, .agg #[.int .u64 d1, .int .u64 d2], .string ⟨T.toArray⟩] w (GotPE w a xs (addS xs ⟨(d1, d2), T⟩)) := by
  have HDC := Lib.hid (fun W => rdecode_any T W hT)
  have HOf := Lib.hid (fun W => refOf_any T W (by omega))
  have HI := Lib.hid (fun W (hW : Below w.heap.size w W) => rinsert_any a xs c ⟨(d1, d2), T⟩ W (hp.below hW).its ha hp.cap hn100)
  simp only [Itm.val] at HI
  obtain ⟨R, hR⟩ : ∃ R, R = addS xs ⟨(d1, d2), T⟩ := ⟨_, rfl⟩
  rw [← hR]
  have hR2 : R = if (decodeS T).2 ≠ 0 then ([], 13) else if digS T ≠ (d1, d2) then ([], 15) else insS xs ⟨(d1, d2), T⟩ := by
    rw [hR]
    unfold addS chkI
    simp only
    by_cases h1 : (decodeS T).2 = 0
    · by_cases h2 : digS T = (d1, d2)
      · simp [h1, h2]
      · simp [h1, h2]
    · simp [h1]
  clear hR
  generalize decodeS T = D at HDC hR2
  generalize digS T = dg at HOf hR2
  generalize insS xs ⟨(d1, d2), T⟩ = I at HI hR2
  obtain ⟨o, er⟩ := D
  obtain ⟨g1, g2⟩ := dg
  obtain ⟨ys, ei⟩ := I
  simp only at HDC HOf HI hR2
  have HP := Lib.hid hp.its
  clear hp ha hn100
  obtain ⟨n, hnn⟩ : ∃ n, n = xs.length := ⟨_, rfl⟩
  have HN := Lib.hid hnn
  rw [← hnn] at HI ⊢
  have HR := Lib.hid hR2
  clear hnn hR2
  obtain ⟨w0, hw0⟩ : ∃ w0, w0 = w.alloc (.cells #[.int .u64 d1, .int .u64 d2] 26) := ⟨_, rfl⟩
  have HK0 : Hid (BK w.heap.size #[.int .u64 d1, .int .u64 d2] 26 w0) := Lib.hid (by rw [hw0]; exact BK.new _ _ _)
  have HB0 : Hid (Below w.heap.size w w0) := Lib.hid (by rw [hw0]; exact (Below.refl _ w).alloc (Nat.le_refl _) _)
  have HD0 := Lib.hid (HDC.out w0)
  rw [hw0] at HD0
  have HW0 := Lib.hid hw0
  clear hw0 HDC
  obtain ⟨kind, data, ents, ⟨t1, t2⟩, pars, author, time, msg⟩ := o
  go_enter Tryz.func30, Tryz.ntmps30
  go_wp2_with fail
  (with_reducible refine (HD0.out).mono ?_)
  rintro e u ⟨ea, ec, pa, pc, rfl, _, hb⟩
  rw [← HW0.out] at hb
  have HB1 := Lib.hid (HB0.out.trans (hb.mono HB0.out.size))
  have HK1 := Lib.hid (HK0.out.below hb)
  clear hb HD0 HW0 HB0 HK0
  simp only [Ob.val]
  generalize ents.length = ne
  generalize pars.length = np
  obtain ⟨u2, hu2⟩ : ∃ u2, u2 = u.alloc (.cells #[.int .i64 kind, .string ⟨data.toArray⟩, .slice ea ne ec, .int .u64 t1, .int .u64 t2, .slice pa np pc, .string ⟨author.toArray⟩, .int .i64 time, .string ⟨msg.toArray⟩] 35) := ⟨_, rfl⟩
  have HB2 : Hid (Below w.heap.size w u2) := Lib.hid (by rw [hu2]; exact HB1.out.alloc HB1.out.size _)
  have HK2 : Hid (BK w.heap.size #[.int .u64 d1, .int .u64 d2] 26 u2) := Lib.hid (by rw [hu2]; exact HK1.out.alloc _)
  have HU2 := Lib.hid hu2
  clear hu2 HB1 HK1
  by_cases he : er = 0
  · subst he
    have e0 : u2.cell? ⟨w.heap.size, 0, none⟩ = some (.int .u64 d1) := by rw [HK2.out.cell]; rfl
    have e1 : u2.cell? ⟨w.heap.size, 1, none⟩ = some (.int .u64 d2) := by rw [HK2.out.cell]; rfl
    have f0 := cell_regrown e0
    have f1 := cell_regrown e1
    have hq := fun W => neq_dig g1 g2 d1 d2 W
    have HA := Lib.hid (fun d os => Calls.regrown_of (w := u2) (d := d) (os := os) (HOf.out _))
    cases hz : (g1 == d1 && g2 == d2) with
    | false =>
      rw [hz] at hq
      have HRR : Hid (R = ([], 15)) := Lib.hid (by
        rw [HR.out, if_neg (by simp), if_pos]
        intro h
        simp only [Prod.mk.injEq] at h
        simp [h.1, h.2] at hz)
      clear hz HR
      go_wp2_with fail
      rw [← HU2.out]
      refine wp_region_quiet_below (by kernel_rfl) (by kernel_rfl) ?_
      repeat (any_goals (first | go_big_quiet_step (first | (with_reducible exact HA.out _ _)) | quiet_step (first | (with_reducible exact HA.out _ _))))
      refine wpQuiet_nil ?_
      intro w2 hw2
      have HB3 := Lib.hid (HB2.out.trans ((below_rg hw2).mono HB2.out.size))
      clear hw2 HA f0 f1
      go_wp2_with fail
      go_ret2
      rw [HRR.out]
      exact ⟨none, 0, rfl, PoolAt.none _ _ HB3.out⟩
    | true =>
      rw [hz] at hq
      have HRR : Hid (R = (ys, ei)) := Lib.hid (by
        rw [HR.out, if_neg (by simp), if_neg]
        simp only [Bool.and_eq_true, beq_iff_eq] at hz
        simp [hz.1, hz.2])
      clear hz HR
      go_wp2_with fail
      rw [← HU2.out]
      refine wp_region_quiet_below (by kernel_rfl) (by kernel_rfl) ?_
      repeat (any_goals (first | go_big_quiet_step (first | (with_reducible exact HA.out _ _)) | quiet_step (first | (with_reducible exact HA.out _ _))))
      refine wpQuiet_nil ?_
      intro w2 hw2
      have HB3 := Lib.hid (HB2.out.trans ((below_rg hw2).mono HB2.out.size))
      have HK3 := Lib.hid (HK2.out.below (below_rg hw2))
      clear hw2 HA f0 f1 e0 e1
      have e0 : w2.cell? ⟨w.heap.size, 0, none⟩ = some (.int .u64 d1) := by rw [HK3.out.cell]; rfl
      have e1 : w2.cell? ⟨w.heap.size, 1, none⟩ = some (.int .u64 d2) := by rw [HK3.out.cell]; rfl
      have HI3 := Lib.hid (HI.out w2 HB3.out)
      clear HI
      go_wp2_with fail
      (with_reducible refine (HI3.out).mono ?_)
      rintro e u3 ⟨ra, rc, rfl, hpo⟩
      have HPO : Hid (PoolAt w a xs ys ra rc u3) := Lib.hid ⟨hpo.1, hpo.2.1, by
        rcases hpo.2.2.1 with h | h
        · exact .inl h
        · exact .inr (fun ad had => by have := h ad had; have := HB3.out.size; omega), HB3.out.trans (hpo.2.2.2.mono HB3.out.size)⟩
      clear hpo HI3
      go_wp2_with fail
      go_ret2
      rw [HRR.out]
      exact ⟨ra, rc, rfl, HPO.out⟩
  · have hne : (er != 0) = true := by simpa using he
    have HRR : Hid (R = ([], 13)) := Lib.hid (by rw [HR.out, if_pos he])
    clear he HR
    go_wp2_with fail
    rw [← HU2.out]
    go_ret2
    rw [HRR.out]
    exact ⟨none, 0, rfl, PoolAt.none _ _ HB2.out⟩

theorem keepS_take (xs : List Itm) (l : List (Int × Int)) (k : Nat) (h : k < xs.length) : keepS (xs.take (k + 1)) l = keepS (xs.take k) l ++ (if decide (xs[k].d ∈ l) = true then [xs[k]] else []) := by
  unfold keepS
  rw [List.take_succ_eq_append_getElem h, List.filter_append]
  congr 1
  by_cases hd : xs[k].d ∈ l
  · simp [hd]
  · simp [hd]
set_option maxRecDepth 100000 in
set_option maxHeartbeats 4000000 in
theorem rkeep_any (a : Option Addr) (xs : List Itm) (c : Nat) (la : Option Addr) (l : List (Int × Int)) (lc : Nat) (w : World) (hx : Its w.heap.size w a xs) (hl : Digs w.heap.size w la l) (hn : (xs.length : Int) ≤ 10000000) (hll : (l.length : Int) ≤ 1000000000) :
    Calls Tryz.prog 39 #[.slice a xs.length c, .slice la l.length lc] w (GotP w none (keepS xs l)) := by
  have HI := Lib.hid (fun x y W (hW : Below w.heap.size w W) => rin_any la l lc x y W (hl.ahead hW) (by omega))
  obtain ⟨n, hnn⟩ : ∃ n, n = xs.length := ⟨_, rfl⟩
  have HN := Lib.hid hnn
  have HX := Lib.hid hx
  rw [← hnn] at hn ⊢
  generalize l.length = ll at HI ⊢
  clear hnn hx hl hll
  go_enter Tryz.func39, Tryz.ntmps39
  go_wp2_with fail
  go_loopw [5, 6] (fun v iv wr => ∃ (k : Nat) (u : Value) (zs : List Itm), k ≤ n ∧ iv = .int .i64 k ∧ v = u ∧ zs.length ≤ k ∧ Hid (zs = keepS (xs.take k) l) ∧ Hid (wr.ownsRow w.heap.size 59 3 u zs.length (icells zs)) ∧ Hid (Below w.heap.size w wr)) (fun _ iv _ => n - (intOf iv).toNat)
  case atStart => exact ⟨0, _, [], by omega, rfl, rfl, by simp, Lib.hid rfl, Lib.hid (World.ownsRow_nil _ _ _ _), Lib.hid (Below.refl _ _)⟩
  case round =>
    obtain ⟨k, v, zs, hk, rfl, rfl, hzl, HZ, HO, HB⟩ := hrel
    by_cases hlt : k < n
    · have h1 : k < xs.length := by rw [← HN.out]; exact hlt
      obtain ⟨b0, o0, rfl, hb0, q0, q1, q2⟩ := (HX.out.ahead HB.out) k h1
      have HTK := Lib.hid (keepS_take xs l k h1)
      generalize hit : xs[k] = it at q0 q1 q2 HTK
      have HIT := Lib.hid hit
      clear hit
      obtain ⟨⟨x1, x2⟩, dt⟩ := it
      simp only at q0 q1 q2 HTK
      have hkn : (k : Int) < (n : Int) := by omega
      have HI1 := Lib.hid (HI.out x1 x2 wr HB.out)
      cases hm : decide ((x1, x2) ∈ l) with
      | false =>
        rw [hm] at HI1 HTK
        have HZ2 : Hid (zs = keepS (xs.take (k + 1)) l) := Lib.hid (by rw [HZ.out, HTK.out]; simp)
        clear HTK hm
        go_wp2_with fail
        (with_reducible refine (HI1.out).mono ?_)
        rintro e u2 ⟨rfl, hb⟩
        have HB2 := Lib.hid (HB.out.trans (hb.mono HB.out.size))
        have HO2 := Lib.hid (own_below HO.out hb)
        clear hb HI1
        go_wp2_with fail
        go_roundw
        case rel => exact ⟨k + 1, _, zs, by omega, by go_num, rfl, by omega, HZ2, HO2, HB2⟩
        case measure => simp [intOf] <;> omega
      | true =>
        rw [hm] at HI1 HTK
        have HZ2 : Hid (zs ++ [(⟨(x1, x2), dt⟩ : Itm)] = keepS (xs.take (k + 1)) l) := Lib.hid (by rw [HZ.out, HTK.out]; simp)
        clear HTK hm
        go_wp2_with fail
        (with_reducible refine (HI1.out).mono ?_)
        rintro e u2 ⟨rfl, hb⟩
        have HB2 := Lib.hid (HB.out.trans (hb.mono HB.out.size))
        have HO2 := Lib.hid (own_below HO.out hb)
        clear hb HI1 q0 q1 q2
        obtain ⟨_, _, hpe, _, q0, q1, q2⟩ := (HX.out.ahead HB2.out) k h1
        cases hpe
        rw [HIT.out] at q0 q1 q2
        simp only at q0 q1 q2
        obtain ⟨v', z, hrun, hown, hgr⟩ := append_itm HO2.out (x1, x2) dt (by omega) HB2.out.size
        have HBZ : Hid (Below w.heap.size w z) := Lib.hid (below_own (HB2.out.alloc HB2.out.size _) (HO2.out.alloc _) hgr (Nat.le_refl _))
        have HK2 : Hid ((zs ++ [(⟨(x1, x2), dt⟩ : Itm)]).length = zs.length + 1) := Lib.hid (by rw [List.length_append]; rfl)
        have hl2 : (zs ++ [(⟨(x1, x2), dt⟩ : Itm)]).length ≤ k + 1 := by rw [HK2.out]; omega
        have HOZ := Lib.hid hown
        have HRUN := Lib.hid hrun
        clear hrun hown hgr HK2 HO2 HB2
        go_wp2_with (at_builtin; refine Lib.wpList_append_run _ rfl _ _ _ _ rfl _ _ rfl rfl _ _ HRUN.out ?_)
        go_roundw
        case rel => exact ⟨k + 1, v', _, by omega, by go_num, rfl, hl2, HZ2, HOZ, HBZ⟩
        case measure => simp [intOf] <;> omega
    · have HF : Hid (zs = keepS xs l) := Lib.hid (by rw [HZ.out, List.take_of_length_le (by rw [← HN.out]; omega)])
      obtain ⟨av, cv, rfl, hcap⟩ := ownsRow_sliceN HO.out
      go_wp2_with fail
      go_ret
      rw [← HF.out]
      exact ⟨av, cv, rfl, ownsRow_its HO.out, hcap, .inr (own_new HO.out), HB.out⟩

/-- A pool with the items of another one. -/
def runS : List Itm → List Itm → List Itm × Int
  | zs, [] => (zs, 0)
  | zs, y :: ys => if (insS zs y).2 ≠ 0 then ([], (insS zs y).2) else runS (insS zs y).1 ys
set_option maxRecDepth 100000 in
set_option maxHeartbeats 4000000 in
theorem runion_any (a b : Option Addr) (xs ys : List Itm) (c c' : Nat) (w : World) (hp : Its w.heap.size w a xs) (hq : Its w.heap.size w b ys) (hc : xs.length ≤ c) (hA : Asc xs) (hn : (xs.length : Int) ≤ 40000) (hm : (ys.length : Int) ≤ 40000) :
    Calls Tryz.prog 38 #[.slice a xs.length c, .slice b ys.length c'] w fun e w' => ∃ ra rc, e = .returned (.tuple #[.slice ra (runS xs ys).1.length rc, .int .i64 (runS xs ys).2]) ∧ Its w'.heap.size w' ra (runS xs ys).1 ∧ Below w.heap.size w w' := by
  obtain ⟨R, hR⟩ : ∃ R, R = runS xs ys := ⟨_, rfl⟩
  rw [← hR]
  have HR : Hid (R = runS xs (ys.drop 0)) := Lib.hid hR
  have HY := Lib.hid hq
  have HX := Lib.hid hp
  have HAX := Lib.hid hA
  obtain ⟨m, hmm⟩ : ∃ m, m = ys.length := ⟨_, rfl⟩
  rw [← hmm] at hm ⊢
  have HM := Lib.hid hmm
  clear hp hq hR hmm hA
  have HI := Lib.hid (fun (oa : Option Addr) (zs : List Itm) (oc : Nat) (x1 x2 : Int) (dt : List UInt8) (W : World) (h1 : Its W.heap.size W oa zs) (h2 : Asc zs) (h3 : zs.length ≤ oc) (h4 : (zs.length : Int) ≤ 100000) => (show Calls Tryz.prog 58 #[.slice oa zs.length oc, .agg #[.int .u64 x1, .int .u64 x2, .string ⟨dt.toArray⟩]] W (GotPE W oa zs (insS zs ⟨(x1, x2), dt⟩)) from rinsert_any oa zs oc ⟨(x1, x2), dt⟩ W h1 h2 h3 h4))
  obtain ⟨n, hnn⟩ : ∃ n, n = xs.length := ⟨_, rfl⟩
  rw [← hnn] at hn hc ⊢
  have HN := Lib.hid hnn
  clear hnn
  go_enter Tryz.func38, Tryz.ntmps38
  go_wp2_with fail
  go_loopw [6, 7] (fun v jv wr => ∃ (j zl : Nat) (zs : List Itm) (oa : Option Addr) (oc : Nat), j ≤ m ∧ jv = .int .i64 j ∧ v = .slice oa zl oc ∧ zl ≤ n + j ∧ Hid (zl = zs.length) ∧ Hid (Its wr.heap.size wr oa zs) ∧ Hid (Asc zs) ∧ zl ≤ oc ∧ Hid (R = runS zs (ys.drop j)) ∧ Hid (Below w.heap.size w wr)) (fun _ jv _ => m - (intOf jv).toNat)
  case atStart => exact ⟨0, n, xs, a, c, by omega, rfl, rfl, by omega, HN, HX, HAX, hc, HR, Lib.hid (Below.refl _ _)⟩
  case round =>
    clear HR HX HAX
    obtain ⟨j, zl, zs, oa, oc, hj, rfl, rfl, hzl, HZL, HX, HAZ, hoc, HR, HB⟩ := hrel
    by_cases hlt : j < m
    · have h1 : j < ys.length := by rw [← HM.out]; exact hlt
      obtain ⟨b0, o0, rfl, hb0, q0, q1, q2⟩ := (HY.out.ahead HB.out) j h1
      have hd : ys.drop j = ys[j] :: ys.drop (j + 1) := List.drop_eq_getElem_cons h1
      rw [hd] at HR
      clear hd
      generalize ys[j] = it at q0 q1 q2 HR
      obtain ⟨⟨x1, x2⟩, dt⟩ := it
      simp only at q0 q1 q2
      have hjm : (j : Int) < (m : Int) := by omega
      have HI1 := Lib.hid (HI.out oa zs oc x1 x2 dt wr HX.out HAZ.out (by rw [← HZL.out]; exact hoc) (by rw [← HZL.out]; omega))
      rw [← HZL.out] at HI1
      have HLW : Hid ((insS zs ⟨(x1, x2), dt⟩).2 = 0 → Asc (insS zs ⟨(x1, x2), dt⟩).1 ∧ (insS zs ⟨(x1, x2), dt⟩).1.length ≤ zs.length + 1) := Lib.hid (fun h => by
        have h2 := ins_law HAZ.out (show insS zs ⟨(x1, x2), dt⟩ = ((insS zs ⟨(x1, x2), dt⟩).1, 0) by rw [← h])
        exact ⟨h2.1, h2.2.2⟩)
      have HR1 : Hid (R = if (insS zs ⟨(x1, x2), dt⟩).2 ≠ 0 then ([], (insS zs ⟨(x1, x2), dt⟩).2) else runS (insS zs ⟨(x1, x2), dt⟩).1 (ys.drop (j + 1))) := Lib.hid (by rw [HR.out]; rfl)
      generalize insS zs ⟨(x1, x2), dt⟩ = I at HI1 HLW HR1
      obtain ⟨zs2, ei⟩ := I
      simp only at HI1 HLW HR1
      clear HR
      by_cases hi : ei = 0
      · subst hi
        have HLW2 := Lib.hid (HLW.out rfl)
        have HR2 : Hid (R = runS zs2 (ys.drop (j + 1))) := Lib.hid (by rw [HR1.out, if_neg (by simp)])
        clear HLW HR1
        go_wp2_with fail
        (with_reducible refine (HI1.out).mono ?_)
        rintro e u2 ⟨ra, rc, rfl, hpo⟩
        have HIT := Lib.hid hpo.1
        have HB2 := Lib.hid (HB.out.trans (hpo.2.2.2.mono HB.out.size))
        have hcap := hpo.2.1
        clear hpo HI1
        obtain ⟨z2, hz2⟩ : ∃ z2, z2 = zs2.length := ⟨_, rfl⟩
        rw [← hz2] at hcap ⊢
        have hzz : z2 ≤ n + (j + 1) := by have := HLW2.out.2; have := HZL.out; omega
        have HZ2 := Lib.hid hz2
        clear hz2
        go_wp2_with fail
        go_roundw
        case rel => exact ⟨j + 1, z2, zs2, ra, rc, by omega, by go_num, rfl, hzz, HZ2, HIT, Lib.hid HLW2.out.1, hcap, HR2, HB2⟩
        case measure => simp [intOf] <;> omega
      · have hne : (ei != 0) = true := by simpa using hi
        have HR2 : Hid (R = ([], ei)) := Lib.hid (by rw [HR1.out, if_pos hi])
        clear HLW HR1 hi
        go_wp2_with fail
        (with_reducible refine (HI1.out).mono ?_)
        rintro e u2 ⟨ra, rc, rfl, hpo⟩
        have HB2 := Lib.hid (HB.out.trans (hpo.2.2.2.mono HB.out.size))
        clear hpo HI1
        generalize zs2.length = z2
        go_wp2_with fail
        go_ret2
        rw [HR2.out]
        exact ⟨none, 0, rfl, Its.nil _ _ _, HB2.out⟩
    · have HF : Hid (R = (zs, 0)) := Lib.hid (by rw [HR.out, List.drop_of_length_le (by rw [← HM.out]; omega)]; rfl)
      go_wp2_with fail
      go_ret2
      rw [HF.out]
      exact ⟨oa, oc, by rw [HZL.out]; rfl, HX.out, HB.out⟩

end Go.Proofs.YtlfodnehgedpmaaGreat
