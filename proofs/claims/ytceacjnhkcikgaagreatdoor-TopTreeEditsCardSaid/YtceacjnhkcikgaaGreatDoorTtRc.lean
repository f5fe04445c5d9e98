/- Trees: the reference's With of files. -/
import Derived.Test.YtceacjnhkcikgaaGreatDoorTtRb
namespace Go.Proofs.YtceacjnhkcikgaaGreatDoor
open Go.RowKit Go.Shelf
set_option linter.unusedVariables false

def withR (f : Fl) : Bool → List Fl → List Fl
  | put, [] => if put = true then [] else [f]
  | put, x :: l => (if (!put && !Op.bytesLess x.path f.path) = true then [f] else []) ++ ((if x.path = f.path then [] else [x]) ++ withR f (put || !Op.bytesLess x.path f.path) l)
theorem withR_put (f : Fl) : ∀ {l : List Fl}, AscF l → (∀ x ∈ l, ltS f.path x.path) → withR f true l = l
  | [], _, _ => rfl
  | x :: l, h, h2 => by
    have g := List.pairwise_cons.1 h
    have h3 := h2 x (by simp)
    rw [withR, Bool.true_or, withR_put f g.2 (fun y hy => h2 y (by simp [hy])), if_neg (by simp), if_neg (fun e => by rw [e] at h3; exact ltS_irrefl _ h3)]
    rfl
theorem withR_eq (f : Fl) : ∀ {l : List Fl}, AscF l → withR f false l = withF l f
  | [], _ => rfl
  | x :: l, h => by
    have g := List.pairwise_cons.1 h
    rw [withR, withF]
    by_cases h1 : ltS x.path f.path
    · have h1' : Op.bytesLess x.path f.path = true := h1
      have h2 : ¬ x.path = f.path := fun e => by rw [e] at h1; exact ltS_irrefl _ h1
      rw [if_pos h1, h1', if_neg (by simp), if_neg h2]
      simp only [Bool.not_true, Bool.or_false, List.nil_append, List.cons_append]
      rw [withR_eq f g.2]
    · have h1' : Op.bytesLess x.path f.path = false := by simpa [ltS] using h1
      rw [if_neg h1, h1', if_pos (by rfl)]
      simp only [Bool.not_false, Bool.or_true]
      by_cases h2 : x.path = f.path
      · rw [if_pos h2, if_pos h2, withR_put f g.2 (fun y hy => by rw [← h2]; exact g.1 y hy)]
        rfl
      · have h3 : ltS f.path x.path := by
          rcases ltS_total f.path x.path with h | h | h
          · exact h
          · exact absurd h.symm h2
          · exact absurd h h1
        rw [if_neg h2, if_neg h2, withR_put f g.2 (fun y hy => ltS_trans h3 (g.1 y hy))]
        rfl
/-- The state: the boxed file, the row. -/
structure WSt (w W : World) (f : Fl) (v : Value) (out : List Fl) : Prop where
  box : BK w.heap.size #[.string ⟨f.path.toArray⟩, .string ⟨f.data.toArray⟩] 43 W
  own : W.ownsRow (w.heap.size + 1) 43 2 v out.length (gcs flCs out)
  bel : Below w.heap.size w W
theorem WSt.drew {w W : World} {f : Fl} {v : Value} {out : List Fl} (h : WSt w W f v out) (n : Nat) : WSt w (W.drewN n) f v out := by
  have hb := below_drewN (Below.refl W.heap.size W) n
  exact ⟨h.box.below hb, own_below h.own hb, below_drewN h.bel n⟩
theorem WSt.push {w W : World} {f : Fl} {v : Value} {out : List Fl} (h : WSt w W f v out) (x : Fl) (hn : (out.length : Int) ≤ 1000000) :
    ∃ v' W', Hid ((Builtin.append_ #[22, 22] 22 #[v, .slice (some ⟨W.heap.size, 0, none⟩) 1 1]).run Tryz.prog (W.alloc (.cells #[.string ⟨x.path.toArray⟩, .string ⟨x.data.toArray⟩] 43)) = .ok v' W') ∧ WSt w W' f v' (out ++ [x]) := by
  have h0 := h.box.lt
  obtain ⟨v', W', hrun, hown', hg', _⟩ := append_fl rfl h.own x hn (by omega)
  exact ⟨v', W', hrun, (h.box.alloc _).grow hg' (fun k hk => by have := (h.own.lt k hk).1; omega), by rw [List.length_append]; exact hown', (h.bel.alloc h.bel.size _).grown hg' (by simp; have := h.bel.size; omega) (fun k hk => by have := (h.own.lt k hk).1; omega)⟩
theorem withR_one (f : Fl) (put : Bool) {l : List Fl} {k : Nat} (h : k < l.length) : withR f put (l.drop k) = (if (!put && !Op.bytesLess l[k].path f.path) = true then [f] else []) ++ ((if l[k].path = f.path then [] else [l[k]]) ++ withR f (put || !Op.bytesLess l[k].path f.path) (l.drop (k + 1))) := by
  rw [List.drop_eq_getElem_cons h, withR]
set_option maxRecDepth 100000 in
set_option maxHeartbeats 4000000 in
theorem with_any (a : Option Addr) (l : List Fl) (c : Nat) (f : Fl) (w : World) (hl : Fls w.heap.size w a l) (hn : (l.length : Int) ≤ 1000) :
    Calls Tryz.prog 9 #[.slice a l.length c, .agg #[.string ⟨f.path.toArray⟩, .string ⟨f.data.toArray⟩]] w (GotFs w (withR f false l)) := by
  obtain ⟨R, hR⟩ : ∃ R, R = withR f false l := ⟨_, rfl⟩
  rw [← hR]
  have HL := Lib.hid hl
  obtain ⟨n, hnn⟩ : ∃ n, n = l.length := ⟨_, rfl⟩
  have HN := Lib.hid hnn
  rw [← hnn] at hn ⊢
  have HP2 : Hid (R = [] ++ withR f false (l.drop 0)) := Lib.hid hR
  have HS2 : Hid (WSt w ((w.alloc (.cells #[.string ⟨f.path.toArray⟩, .string ⟨f.data.toArray⟩] 43)).alloc (.cells #[] 43)) f (.slice (some ⟨w.heap.size + 1, 0, none⟩) 0 0) []) := Lib.hid ⟨(BK.new _ _ _).alloc _, by
    have := World.ownsRow_made (size := 2) (base := w.heap.size + 1) (w.alloc (.cells #[.string ⟨f.path.toArray⟩, .string ⟨f.data.toArray⟩] 43)) #[] 0 (by simp) (e := 43) (by decide) rfl
    simpa [gcs] using this, ((Below.refl _ w).alloc (Nat.le_refl _) _).alloc (by simp) _⟩
  obtain ⟨FP, FD⟩ := f
  simp only at HS2 ⊢
  clear hR hl hnn
  go_enter Tryz.func9, Tryz.ntmps9
  go_wp2_with fail
  go_loopw [5, 6, 7] (fun v pv i wr => ∃ (k : Nat) (put : Bool) (out : List Fl), k ≤ n ∧ pv = .bool put ∧ i = .int .i64 k ∧ out.length ≤ 2 * k ∧ Hid (WSt w wr ⟨FP, FD⟩ v out) ∧ Hid (R = out ++ withR ⟨FP, FD⟩ put (l.drop k))) (fun _ _ i _ => n - (intOf i).toNat)
  case atStart => exact ⟨0, false, [], by omega, rfl, rfl, by simp, HS2, HP2⟩
  case round =>
    clear HS2 HP2
    obtain ⟨k, put, out, hk, rfl, rfl, hol, HS, HP⟩ := hrel
    obtain ⟨oa', oc', rfl, hoc⟩ := ownsRow_sliceN HS.out.own
    obtain ⟨q, hq⟩ : ∃ q, q = out.length := ⟨_, rfl⟩
    rw [← hq] at hoc hol ⊢
    have HQ := Lib.hid hq
    have HQS : Hid (WSt w wr ⟨FP, FD⟩ (.slice oa' q oc') out) := Lib.hid (by rw [hq]; exact HS.out)
    clear hq HS
    by_cases hkn : k < n
    · have hki : (k : Int) < (n : Int) := by omega
      have h1 : k < l.length := by have := HN.out; omega
      obtain ⟨b0, of0, haa, hbb, q0, q1⟩ := fl_cells (HL.out.ahead HQS.out.bel) h1
      have HDP := Lib.hid (withR_one ⟨FP, FD⟩ put h1)
      subst haa
      have HF := Lib.hid (fun W (hW : Below w.heap.size w W) => fl_cells (HL.out.ahead hW) h1)
      generalize l[k] = x at q0 q1 HDP HF
      obtain ⟨P, D⟩ := x
      simp only at q0 q1 HDP HF
      have z0 : wr.cell? ⟨w.heap.size, 0, none⟩ = some (.string ⟨FP.toArray⟩) := by rw [HQS.out.box.cell]; rfl
      have z1 : wr.cell? ⟨w.heap.size, 1, none⟩ = some (.string ⟨FD.toArray⟩) := by rw [HQS.out.box.cell]; rfl
-- ROUND
      cases put with
      | true =>
        have HP1 : Hid (R = out ++ ((if P = FP then [] else [⟨P, D⟩]) ++ withR ⟨FP, FD⟩ true (l.drop (k + 1)))) := Lib.hid (by rw [HP.out, HDP.out]; simp)
        clear HP HDP
        go_wp2_with fail
        go_quiet (fail)
        have HS1 := Lib.hid (HQS.out.drew nq)
        generalize wr.drewN nq = w1 at HS1 ⊢
        clear HQS q0 q1 z0 z1
        have HF1 := Lib.hid (HF.out w1 HS1.out.bel)
        have y0 : w1.cell? ⟨w.heap.size, 0, none⟩ = some (.string ⟨FP.toArray⟩) := by rw [HS1.out.box.cell]; rfl
        have y1 : w1.cell? ⟨w.heap.size, 1, none⟩ = some (.string ⟨FD.toArray⟩) := by rw [HS1.out.box.cell]; rfl
        obtain ⟨_, _, haa2, _, r0, r1⟩ := HF1.out
        cases haa2
        clear HF1
        by_cases hc : P = FP
        · have hs : (P == FP) = true := by rw [hc]; simp
          have HP3 : Hid (R = out ++ withR ⟨FP, FD⟩ true (l.drop (k + 1))) := Lib.hid (by rw [HP1.out, if_pos hc]; simp)
          clear HP1
          go_wp2_with fail
          go_quiet (fail)
          have HS3 := Lib.hid (HS1.out.drew nq)
          go_wp2_with fail
          go_roundw
          case rel => exact ⟨k + 1, true, out, by omega, rfl, by go_num, by rw [← HQ.out]; omega, HS3, HP3⟩
          case measure => simp [intOf] <;> omega
        · have hs : (P == FP) = false := by simp [hc]
          have HP3 : Hid (R = (out ++ [⟨P, D⟩]) ++ withR ⟨FP, FD⟩ true (l.drop (k + 1))) := Lib.hid (by rw [HP1.out, if_neg hc]; simp)
          clear HP1
          go_wp2_with fail
          go_quiet (fail)
          have HS3 := Lib.hid (HS1.out.drew nq)
          have HF2 := Lib.hid (HF.out _ HS3.out.bel)
          generalize w1.drewN nq = w3 at HS3 HF2 ⊢
          obtain ⟨_, _, haa3, _, s0, s1⟩ := HF2.out
          cases haa3
          obtain ⟨v', W', hrun, hst⟩ := HS3.out.push ⟨P, D⟩ (by rw [← HQ.out]; omega)
          have HRUN := Lib.hid hrun.out
          have HS4 := Lib.hid hst
          simp only at HRUN
          clear hrun hst HF2 HS3 HS1 r0 r1
          go_wp2_with (at_builtin; refine Lib.wpList_append_run _ rfl _ _ _ _ rfl _ _ rfl rfl _ _ HRUN.out ?_)
          go_roundw
          case rel => exact ⟨k + 1, true, out ++ [⟨P, D⟩], by omega, rfl, by go_num, by rw [List.length_append, ← HQ.out]; simp; omega, HS4, HP3⟩
          case measure => simp [intOf] <;> omega
      | false =>
        cases hb : Op.bytesLess P FP with
        | true =>
          have hc : ¬ P = FP := fun e => by rw [e] at hb; exact ltS_irrefl _ hb
          have HP1 : Hid (R = out ++ ((if P = FP then [] else [⟨P, D⟩]) ++ withR ⟨FP, FD⟩ false (l.drop (k + 1)))) := Lib.hid (by rw [HP.out, HDP.out, hb]; simp)
          clear HP HDP
          go_wp2_with fail
          go_quiet (fail)
          have HS1 := Lib.hid (HQS.out.drew nq)
          generalize wr.drewN nq = w1 at HS1 ⊢
          clear HQS q0 q1 z0 z1
          have HF1 := Lib.hid (HF.out w1 HS1.out.bel)
          have y0 : w1.cell? ⟨w.heap.size, 0, none⟩ = some (.string ⟨FP.toArray⟩) := by rw [HS1.out.box.cell]; rfl
          have y1 : w1.cell? ⟨w.heap.size, 1, none⟩ = some (.string ⟨FD.toArray⟩) := by rw [HS1.out.box.cell]; rfl
          obtain ⟨_, _, haa2, _, r0, r1⟩ := HF1.out
          cases haa2
          clear HF1
          have hs : (P == FP) = false := by simp [hc]
          have HP3 : Hid (R = (out ++ [⟨P, D⟩]) ++ withR ⟨FP, FD⟩ false (l.drop (k + 1))) := Lib.hid (by rw [HP1.out, if_neg hc]; simp)
          clear HP1
          go_wp2_with fail
          go_quiet (fail)
          have HS3 := Lib.hid (HS1.out.drew nq)
          have HF2 := Lib.hid (HF.out _ HS3.out.bel)
          generalize w1.drewN nq = w3 at HS3 HF2 ⊢
          obtain ⟨_, _, haa3, _, s0, s1⟩ := HF2.out
          cases haa3
          obtain ⟨v', W', hrun, hst⟩ := HS3.out.push ⟨P, D⟩ (by rw [← HQ.out]; omega)
          have HRUN := Lib.hid hrun.out
          have HS4 := Lib.hid hst
          simp only at HRUN
          clear hrun hst HF2 HS3 HS1 r0 r1
          go_wp2_with (at_builtin; refine Lib.wpList_append_run _ rfl _ _ _ _ rfl _ _ rfl rfl _ _ HRUN.out ?_)
          go_roundw
          case rel => exact ⟨k + 1, false, out ++ [⟨P, D⟩], by omega, rfl, by go_num, by rw [List.length_append, ← HQ.out]; simp; omega, HS4, HP3⟩
          case measure => simp [intOf] <;> omega
        | false =>
          have HP1 : Hid (R = (out ++ [⟨FP, FD⟩]) ++ ((if P = FP then [] else [⟨P, D⟩]) ++ withR ⟨FP, FD⟩ true (l.drop (k + 1)))) := Lib.hid (by rw [HP.out, HDP.out, hb]; simp)
          clear HP HDP
          go_wp2_with fail
          go_quiet (fail)
          have HS0 := Lib.hid (HQS.out.drew nq)
          generalize wr.drewN nq = w0 at HS0 ⊢
          clear HQS q0 q1 z0 z1
          have z0 : w0.cell? ⟨w.heap.size, 0, none⟩ = some (.string ⟨FP.toArray⟩) := by rw [HS0.out.box.cell]; rfl
          have z1 : w0.cell? ⟨w.heap.size, 1, none⟩ = some (.string ⟨FD.toArray⟩) := by rw [HS0.out.box.cell]; rfl
          obtain ⟨v1, w1, hrun, hst⟩ := HS0.out.push ⟨FP, FD⟩ (by rw [← HQ.out]; omega)
          have HRUN := Lib.hid hrun.out
          have HS1 := Lib.hid hst
          simp only at HRUN
          clear hrun hst HS0
          go_wp2_with (at_builtin; refine Lib.wpList_append_run _ rfl _ _ _ _ rfl _ _ rfl rfl _ _ HRUN.out ?_)
          clear HRUN z0 z1
          have HF1 := Lib.hid (HF.out w1 HS1.out.bel)
          have y0 : w1.cell? ⟨w.heap.size, 0, none⟩ = some (.string ⟨FP.toArray⟩) := by rw [HS1.out.box.cell]; rfl
          have y1 : w1.cell? ⟨w.heap.size, 1, none⟩ = some (.string ⟨FD.toArray⟩) := by rw [HS1.out.box.cell]; rfl
          obtain ⟨_, _, haa2, _, r0, r1⟩ := HF1.out
          cases haa2
          clear HF1
          by_cases hc : P = FP
          · have hs : (P == FP) = true := by rw [hc]; simp
            have HP3 : Hid (R = (out ++ [⟨FP, FD⟩]) ++ withR ⟨FP, FD⟩ true (l.drop (k + 1))) := Lib.hid (by rw [HP1.out, if_pos hc]; simp)
            clear HP1
            go_wp2_with fail
            go_quiet (fail)
            have HS3 := Lib.hid (HS1.out.drew nq)
            go_wp2_with fail
            go_roundw
            case rel => exact ⟨k + 1, true, (out ++ [⟨FP, FD⟩]), by omega, rfl, by go_num, by rw [List.length_append, ← HQ.out]; simp; omega, HS3, HP3⟩
            case measure => simp [intOf] <;> omega
          · have hs : (P == FP) = false := by simp [hc]
            have HP3 : Hid (R = ((out ++ [⟨FP, FD⟩]) ++ [⟨P, D⟩]) ++ withR ⟨FP, FD⟩ true (l.drop (k + 1))) := Lib.hid (by rw [HP1.out, if_neg hc]; simp)
            clear HP1
            go_wp2_with fail
            go_quiet (fail)
            have HS3 := Lib.hid (HS1.out.drew nq)
            have HF2 := Lib.hid (HF.out _ HS3.out.bel)
            generalize w1.drewN nq = w3 at HS3 HF2 ⊢
            obtain ⟨_, _, haa3, _, s0, s1⟩ := HF2.out
            cases haa3
            obtain ⟨v', W', hrun, hst⟩ := HS3.out.push ⟨P, D⟩ (by rw [List.length_append, ← HQ.out]; simp; omega)
            have HRUN := Lib.hid hrun.out
            have HS4 := Lib.hid hst
            simp only at HRUN
            clear hrun hst HF2 HS3 HS1 r0 r1
            go_wp2_with (at_builtin; refine Lib.wpList_append_run _ rfl _ _ _ _ rfl _ _ rfl rfl _ _ HRUN.out ?_)
            go_roundw
            case rel => exact ⟨k + 1, true, (out ++ [⟨FP, FD⟩]) ++ [⟨P, D⟩], by omega, rfl, by go_num, by rw [List.length_append, List.length_append, ← HQ.out]; simp; omega, HS4, HP3⟩
            case measure => simp [intOf] <;> omega
-- ROUND END
    · have hki : ¬ (k : Int) < (n : Int) := by omega
      have HXX : Hid (R = out ++ withR ⟨FP, FD⟩ put []) := Lib.hid (by rw [HP.out, List.drop_of_length_le (by have := HN.out; omega)])
      cases put with
      | true =>
        have HXY : Hid (R = out) := Lib.hid (by rw [HXX.out]; simp [withR])
        have HON := Lib.hid (own_newF HQS.out.own)
        have HDO := Lib.hid (own_fls HQ.out (by rw [HQ.out]; rw [HQ.out] at HQS; exact HQS.out.own))
        have HE := Lib.hid HQS.out.bel
        clear HP HQS HXX
        go_wp2_with fail
        go_ret
        rw [HXY.out]
        exact ⟨oa', oc', by rw [← HQ.out]; rfl, HDO.out, by rw [← HQ.out]; exact hoc, HE.out, fun ad h => by have := HON.out ad h; omega⟩
      | false =>
        have z0 : wr.cell? ⟨w.heap.size, 0, none⟩ = some (.string ⟨FP.toArray⟩) := by rw [HQS.out.box.cell]; rfl
        have z1 : wr.cell? ⟨w.heap.size, 1, none⟩ = some (.string ⟨FD.toArray⟩) := by rw [HQS.out.box.cell]; rfl
        have HXY : Hid (R = out ++ [⟨FP, FD⟩]) := Lib.hid (by rw [HXX.out]; simp [withR])
        obtain ⟨v', W', hrun, hst⟩ := HQS.out.push ⟨FP, FD⟩ (by rw [← HQ.out]; omega)
        have HRUN := Lib.hid hrun.out
        obtain ⟨na, nc, rfl, hnc⟩ := ownsRow_sliceN hst.own
        have HDO := Lib.hid (own_fls rfl hst.own)
        have HON := Lib.hid (own_newF hst.own)
        have HE := Lib.hid hst.bel
        simp only at HRUN
        clear hrun hst HP HQS HXX
        go_wp2_with (at_builtin; refine Lib.wpList_append_run _ rfl _ _ _ _ rfl _ _ rfl rfl _ _ HRUN.out ?_)
        go_ret
        rw [HXY.out]
        exact ⟨na, nc, by rw [List.length_append]; rfl, HDO.out, hnc, HE.out, fun ad h => by have := HON.out ad h; omega⟩
end Go.Proofs.YtceacjnhkcikgaaGreatDoor
