/- The walk of the statement PoolTrust. -/
import Derived.Test.YtlfodnehgedpmaaGreatRpB
namespace Go.Proofs.YtlfodnehgedpmaaGreat.poolTrust
open Go.RowKit Go.Shelf
set_option linter.unusedVariables false

theorem ins_err (xs : List Itm) (x : Itm) : (insS xs x).2 = 0 ∨ insS xs x = ([], 16) := by
  unfold insS
  split
  · split
    · split
      · exact .inl rfl
      · exact .inr rfl
    · exact .inl rfl
  · exact .inl rfl
theorem ins_len (xs : List Itm) (x : Itm) : (insS xs x).1.length ≤ xs.length + 1 := by
  have h : (xs.take (posI xs x.d) ++ (x :: xs.drop (posI xs x.d))).length ≤ xs.length + 1 := by
    simp only [List.length_append, List.length_take, List.length_cons, List.length_drop]; omega
  unfold insS
  split
  · split
    · split
      · simp
      · simp
    · exact h
  · exact h
theorem put_len (xs : List Itm) (o : Ob) : (putS xs o).1.length ≤ xs.length + 1 := by
  unfold putS
  split
  · simp
  · split
    · simp
    · exact ins_len _ _
/-- What Add and Put do with the same bytes. -/
theorem law (xs : List Itm) (d : Int × Int) (T : List UInt8) :
    ((decodeS T).2 ≠ 0 → addS xs ⟨d, T⟩ = ([], 13)) ∧
    ((decodeS T).2 = 0 → (putS xs (decodeS T).1).2.2 = 16 ∨ ((putS xs (decodeS T).1).2.2 = 0 ∧
      (((putS xs (decodeS T).1).2.1 = d ∧ addS xs ⟨d, T⟩ = ((putS xs (decodeS T).1).1, 0)) ∨ ((putS xs (decodeS T).1).2.1 ≠ d ∧ addS xs ⟨d, T⟩ = ([], 15))))) := by
  constructor
  · intro h
    unfold addS chkI
    simp only
    rw [if_pos h]
    rfl
  · intro h
    have he := (decode_good (show decodeS T = ((decodeS T).1, 0) by rw [← h])).1
    have hc : chkI ⟨d, T⟩ = if digS T ≠ d then 15 else 0 := by
      unfold chkI
      simp only
      rw [if_neg (by simpa using h)]
    have ha : addS xs ⟨d, T⟩ = if digS T ≠ d then ([], 15) else insS xs ⟨d, T⟩ := by
      unfold addS
      rw [hc]
      by_cases hd : digS T = d
      · simp [hd]
      · simp [hd]
    unfold putS
    rw [he]
    simp only [ne_eq, not_true_eq_false, if_false]
    by_cases hi : (insS xs ⟨digS T, T⟩).2 = 0
    · rw [if_neg (by simpa using hi)]
      right
      refine ⟨rfl, ?_⟩
      by_cases hd : digS T = d
      · left
        refine ⟨hd, ?_⟩
        rw [ha, if_neg (by simpa using hd), ← hd]
        exact Prod.ext rfl hi
      · right
        exact ⟨hd, by rw [ha, if_pos hd]⟩
    · rw [if_pos hi]
      left
      rcases ins_err xs ⟨digS T, T⟩ with h1 | h1
      · exact absurd h1 hi
      · rw [h1]

set_option maxRecDepth 100000 in
set_option maxHeartbeats 4000000 in
theorem walk (a : Option Addr) (xs : List Itm) (c : Nat) (x y : Int) (s : ByteArray) (ws : s.size ≤ maxLen) (w : World) (hp : PoolCame w a xs c) (hd : OkD (x, y)) :
    Calls Tryz.prog 3 #[.slice a xs.length c, .agg #[.int .u64 x, .int .u64 y], .string s] w fun e w' => e = .returned (.bool true) ∧ Below w.heap.size w w' := by
  obtain ⟨T, rfl⟩ : ∃ T : List UInt8, s = ⟨T.toArray⟩ := ⟨s.data.toList, ba_eq rfl⟩
  rw [ba_len] at ws
  have hml := hp.cap
  unfold maxLen at hml ws
  have HFN := Lib.hid (fun W (hW : Below w.heap.size w W) => fine_any a xs c W (hp.its.ahead hW) (by omega) (fun x hx => by have := (hp.dat x hx).2; unfold maxLen at this; omega))
  have HA := Lib.hid (fun W => awake_any W)
  have HP := Lib.hid (fun (hg : fineB xs = true) W (hW : Below w.heap.size w W) => (show PoolIn W a xs c from ⟨hp.its.ahead hW, hp.cap.1, by have := (fineB_true hg).1; omega, fun x hx => by have := (fineB_true hg).2.1 x hx; omega⟩))
  have HAS := Lib.hid (fun (hg : fineB xs = true) => (fineB_true hg).2.2.2.1)
  have HXL := Lib.hid (fun (hg : fineB xs = true) => (fineB_true hg).1)
  clear hp
  obtain ⟨w0, hw0⟩ : ∃ w0, w0 = w.alloc (.cells #[.int .u64 x, .int .u64 y] 26) := ⟨_, rfl⟩
  have HK0 : Hid (BK w.heap.size #[.int .u64 x, .int .u64 y] 26 w0) := Lib.hid (by rw [hw0]; exact BK.new _ _ _)
  have HB0 : Hid (Below w.heap.size w w0) := Lib.hid (by rw [hw0]; exact (Below.refl _ w).alloc (Nat.le_refl _) _)
  have HF0 := Lib.hid (HFN.out w0 HB0.out)
  rw [hw0] at HF0
  have HW0 := Lib.hid hw0
  clear hw0 HFN
  cases hg : fineB xs with
  | false =>
    rw [hg] at HF0
    clear HP HAS HXL hg
    generalize xs.length = n at HF0 hml ⊢
    go_enter Tryz.func3, Tryz.ntmps3
    go_wp2_with fail
    (with_reducible refine (HF0.out).mono ?_)
    rintro e u ⟨rfl, hb⟩
    rw [← HW0.out] at hb
    have HB1 := Lib.hid (HB0.out.trans (hb.mono HB0.out.size))
    clear hb
    go_wp2_with fail
    (with_reducible refine (HA.out _).mono ?_)
    rintro e u2 ⟨rfl, hb⟩
    have HB2 := Lib.hid (HB1.out.trans (hb.mono HB1.out.size))
    clear hb
    go_wp2_with fail
    go_ret
    exact ⟨rfl, HB2.out⟩
  | true =>
    rw [hg] at HF0
    have HP2 := Lib.hid (HP.out hg)
    have HAS2 := Lib.hid (HAS.out hg)
    have HXL2 := Lib.hid (HXL.out hg)
    clear HP HAS HXL hg
    obtain ⟨n, hnn⟩ : ∃ n, n = xs.length := ⟨_, rfl⟩
    have HN := Lib.hid hnn
    rw [← hnn] at HF0 hml ⊢
    clear hnn
    by_cases h5 : (500 : Int) < T.length
    · have d5 : decide ((500 : Int) < (T.length : Int)) = true := by simpa using h5
      go_enter Tryz.func3, Tryz.ntmps3
      go_wp2_with fail
      (with_reducible refine (HF0.out).mono ?_)
      rintro e u ⟨rfl, hb⟩
      rw [← HW0.out] at hb
      have HB1 := Lib.hid (HB0.out.trans (hb.mono HB0.out.size))
      clear hb
      go_wp2_with fail
      (with_reducible refine (HA.out _).mono ?_)
      rintro e u2 ⟨rfl, hb⟩
      have HB2 := Lib.hid (HB1.out.trans (hb.mono HB1.out.size))
      clear hb
      go_wp2_with fail
      go_ret
      exact ⟨rfl, HB2.out⟩
    · have d5 : decide ((500 : Int) < (T.length : Int)) = false := by simpa using h5
      have HADD := Lib.hid (fun W (hW : Below w.heap.size w W) => add_any a xs c x y T W (HP2.out W hW) HAS2.out (by omega))
      have HDEC := Lib.hid (fun W => decode_any T W (by omega))
      have HPUT := Lib.hid (fun (o : Ob) ea ec pa pc W (hW : Below w.heap.size w W) (ho : ObIn W o ea ec pa pc) => put_any a xs c o ea ec pa pc W (HP2.out W hW) HAS2.out ho)
      have HL := Lib.hid (law xs (x, y) T)
      rw [← HN.out] at HADD HPUT
      generalize addS xs ⟨(x, y), T⟩ = AD at HADD HL
      generalize decodeS T = D at HDEC HL
      obtain ⟨o, er⟩ := D
      simp only at HDEC HL
      have HPUTO := Lib.hid (HPUT.out o)
      have HPL : Hid ((putS xs o).1.length ≤ 1000) := Lib.hid (by have := put_len xs o; have := HXL2.out; omega)
      generalize putS xs o = P at HPUTO HL HPL
      obtain ⟨ys, ek⟩ := AD
      obtain ⟨zs, ⟨n1, n2⟩, gk⟩ := P
      simp only at HADD HPUTO HL HPL
      clear HPUT HP2 HAS2
      go_enter Tryz.func3, Tryz.ntmps3
      go_wp2_with fail
      (with_reducible refine (HF0.out).mono ?_)
      rintro e u ⟨rfl, hb⟩
      rw [← HW0.out] at hb
      have HB1 := Lib.hid (HB0.out.trans (hb.mono HB0.out.size))
      have HK1 := Lib.hid (HK0.out.below hb)
      have e0 : u.cell? ⟨w.heap.size, 0, none⟩ = some (.int .u64 x) := by rw [HK1.out.cell]; rfl
      have e1 : u.cell? ⟨w.heap.size, 1, none⟩ = some (.int .u64 y) := by rw [HK1.out.cell]; rfl
      clear hb HB0 HK0 HW0 HF0
      have HAD1 := Lib.hid (HADD.out u HB1.out)
      clear HADD
      go_wp2_with fail
      (with_reducible refine (HAD1.out).mono ?_)
      rintro e u1 ⟨ra, rc, rfl, hpo⟩
      have HBW := Lib.hid hpo.2.2.2
      have HIT := Lib.hid hpo.1
      have HB2 := Lib.hid (HB1.out.trans (HBW.out.mono HB1.out.size))
      have HK2 := Lib.hid (HK1.out.below HBW.out)
      clear hpo HAD1 e0 e1 HBW HB1 HK1
      have HD1 := Lib.hid (HDEC.out u1)
      clear HDEC
      go_wp2_with fail
      (with_reducible refine (HD1.out).mono ?_)
      rintro e u2 ⟨ea, ec, pa, pc, rfl, hob, hb⟩
      have HB3 := Lib.hid (HB2.out.trans (hb.mono HB2.out.size))
      have HK3 := Lib.hid (HK2.out.below hb)
      have HIT3 := Lib.hid (HIT.out.ahead hb)
      have HOI := Lib.hid hob.inn
      clear hob hb HD1 HB2 HK2 HIT
      by_cases he : er = 0
      · subst he
        have HL2 := Lib.hid (HL.out.2 rfl)
        clear HL
        obtain ⟨kind, data, ents, ⟨t1, t2⟩, pars, author, time, msg⟩ := o
        obtain ⟨u3, hu3⟩ : ∃ u3, u3 = u2.alloc (.cells (Ob.arr ⟨kind, data, ents, (t1, t2), pars, author, time, msg⟩ ea ec pa pc) 35) := ⟨_, rfl⟩
        have HKO : Hid (BK u2.heap.size (Ob.arr ⟨kind, data, ents, (t1, t2), pars, author, time, msg⟩ ea ec pa pc) 35 u3) := Lib.hid (by rw [hu3]; exact BK.new _ _ _)
        have HBX : Hid (Below u2.heap.size u2 u3) := Lib.hid (by rw [hu3]; exact (Below.refl _ _).alloc (Nat.le_refl _) _)
        have HB4 := Lib.hid (HB3.out.trans (HBX.out.mono HB3.out.size))
        have HK4 := Lib.hid (HK3.out.below HBX.out)
        have HIT4 := Lib.hid (HIT3.out.ahead HBX.out)
        have HPU := Lib.hid (HPUTO.out ea ec pa pc u3 HB4.out (HOI.out.below HBX.out))
        simp only [Ob.arr] at hu3 HKO
        simp only [Ob.val] at HPU ⊢
        generalize ents.length = ne at hu3 HKO HPU ⊢
        generalize pars.length = np at hu3 HKO HPU ⊢
        rw [hu3] at HPU
        have HU3 := Lib.hid hu3
        clear hu3 HPUTO HOI HBX HB3 HK3 HIT3
        go_wp2_with fail
        (with_reducible refine (HPU.out).mono ?_)
        rintro e u4 ⟨a2, c2, rfl, hpo⟩
        have hbw := hpo.2.2.2
        rw [← HU3.out] at hbw
        have HB5 := Lib.hid (HB4.out.trans (hbw.mono HB4.out.size))
        have HK5 := Lib.hid (HK4.out.below hbw)
        have HIT5 := Lib.hid (HIT4.out.ahead hbw)
        have HZT := Lib.hid hpo.1
        clear hpo hbw HPU HU3 HB4 HK4 HIT4 HKO
        obtain ⟨u5, hu5⟩ : ∃ u5, u5 = u4.alloc (.cells #[.int .u64 n1, .int .u64 n2] 26) := ⟨_, rfl⟩
        have HBX : Hid (Below u4.heap.size u4 u5) := Lib.hid (by rw [hu5]; exact (Below.refl _ _).alloc (Nat.le_refl _) _)
        have HB6 := Lib.hid (HB5.out.trans (HBX.out.mono HB5.out.size))
        have HK6 := Lib.hid (HK5.out.below HBX.out)
        have HIT6 := Lib.hid (HIT5.out.ahead HBX.out)
        have HZT6 := Lib.hid (HZT.out.ahead HBX.out)
        have e0 : (u4.alloc (.cells #[.int .u64 n1, .int .u64 n2] 26)).cell? ⟨w.heap.size, 0, none⟩ = some (.int .u64 x) := by rw [← hu5, HK6.out.cell]; rfl
        have e1 : (u4.alloc (.cells #[.int .u64 n1, .int .u64 n2] 26)).cell? ⟨w.heap.size, 1, none⟩ = some (.int .u64 y) := by rw [← hu5, HK6.out.cell]; rfl
        have hq := fun W => eql_dig n1 n2 x y W
        have HSM : Hid (zs.length ≤ 1000 → ys = zs → Calls Tryz.prog 15 #[.slice ra ys.length rc, .slice a2 zs.length c2] u5 fun e w' => e = .returned (.bool true) ∧ Below u5.heap.size u5 w') := Lib.hid (fun hl h => by
          have h1 := same_any ra a2 ys zs rc c2 u5 HIT6.out HZT6.out (by rw [h]; omega) (by omega)
          rw [decide_eq_true h] at h1
          exact h1)
        have HU5 := Lib.hid hu5
        have HZL : Hid (zs.length ≤ 1000) := HPL
        clear hu5 HBX HB5 HK5 HIT5 HZT HK6 HIT6 HZT6
        by_cases hg16 : gk = 16
        · subst hg16
          go_wp2_with fail
          rw [← HU5.out]
          (with_reducible refine (HA.out _).mono ?_)
          rintro e u6 ⟨rfl, hb⟩
          have HB7 := Lib.hid (HB6.out.trans (hb.mono HB6.out.size))
          clear hb
          go_wp2_with fail
          go_ret
          exact ⟨rfl, HB7.out⟩
        · rcases HL2.out with h | ⟨rfl, h⟩
          · exact absurd h hg16
          · rcases h with ⟨h1, h2⟩ | ⟨h1, h2⟩
            · obtain ⟨rfl, rfl⟩ := Prod.mk.inj h2
              have hz : (n1 == x && n2 == y) = true := by
                simp only [Prod.mk.injEq] at h1
                simp [h1.1, h1.2]
              rw [hz] at hq
              have HS2 := Lib.hid (HSM.out HZL.out rfl)
              clear hz h1 h2 HL2 HSM hg16
              generalize ys.length = ny at HS2 ⊢
              go_wp2_with fail
              rw [← HU5.out]
              (with_reducible refine (HS2.out).mono ?_)
              rintro e u6 ⟨rfl, hb⟩
              have HB7 := Lib.hid (HB6.out.trans (hb.mono HB6.out.size))
              clear hb HS2
              go_wp2_with fail
              (with_reducible refine (HA.out _).mono ?_)
              rintro e u7 ⟨rfl, hb⟩
              have HB8 := Lib.hid (HB7.out.trans (hb.mono HB7.out.size))
              clear hb
              go_wp2_with fail
              go_ret
              exact ⟨rfl, HB8.out⟩
            · obtain ⟨rfl, rfl⟩ := Prod.mk.inj h2
              have hz : (n1 == x && n2 == y) = false := by
                simp only [ne_eq, Prod.mk.injEq, not_and] at h1
                by_cases h3 : n1 = x
                · simp [h3, h1 h3]
                · simp [h3]
              rw [hz] at hq
              clear hz h1 h2 HL2 HSM hg16
              go_wp2_with fail
              rw [← HU5.out]
              (with_reducible refine (HA.out _).mono ?_)
              rintro e u7 ⟨rfl, hb⟩
              have HB8 := Lib.hid (HB6.out.trans (hb.mono HB6.out.size))
              clear hb
              go_wp2_with fail
              go_ret
              exact ⟨rfl, HB8.out⟩
      · have hne : (er != 0) = true := by simpa using he
        have HL2 := Lib.hid (HL.out.1 he)
        clear HL he
        obtain ⟨rfl, rfl⟩ := Prod.mk.inj HL2.out
        obtain ⟨kind, data, ents, ⟨t1, t2⟩, pars, author, time, msg⟩ := o
        simp only [Ob.val]
        generalize ents.length = ne
        generalize pars.length = np
        obtain ⟨u3, hu3⟩ : ∃ u3, u3 = u2.alloc (.cells #[.int .i64 kind, .string ⟨data.toArray⟩, .slice ea ne ec, .int .u64 t1, .int .u64 t2, .slice pa np pc, .string ⟨author.toArray⟩, .int .i64 time, .string ⟨msg.toArray⟩] 35) := ⟨_, rfl⟩
        have HB4 : Hid (Below w.heap.size w u3) := Lib.hid (by rw [hu3]; exact HB3.out.alloc HB3.out.size _)
        have HU3 := Lib.hid hu3
        clear hu3
        go_wp2_with fail
        rw [← HU3.out]
        (with_reducible refine (HA.out _).mono ?_)
        rintro e u4 ⟨rfl, hb⟩
        have HB5 := Lib.hid (HB4.out.trans (hb.mono HB4.out.size))
        clear hb
        go_wp2_with fail
        go_ret
        exact ⟨rfl, HB5.out⟩

end Go.Proofs.YtlfodnehgedpmaaGreat.poolTrust
