/- The reference's agree and join. -/
import Derived.Test.YtlijaacjfnjmjaaWireSp
import Derived.Deep.RegionHeld3
import Derived.BigRegion
namespace Go.Proofs.Ytlijaacjfnjmjaa
open Go.RowKit

/-- Whether two pieces have the same bytes where they overlap. -/
def agr (a b : P) : Bool :=
  decide (min (pend a) (pend b) ≤ max a.1 b.1) || decide ((a.2.drop (max a.1 b.1 - a.1).toNat).take (min (pend a) (pend b) - max a.1 b.1).toNat = (b.2.drop (max a.1 b.1 - b.1).toNat).take (min (pend a) (pend b) - max a.1 b.1).toNat)

set_option maxRecDepth 100000 in
set_option maxHeartbeats 2000000 in
theorem agree_any (oa ob : Int) (A B : List UInt8) (w : World) (ha0 : 0 ≤ oa) (ha1 : oa ≤ 1048576) (hb0 : 0 ≤ ob) (hb1 : ob ≤ 1048576) (hA : (A.length : Int) ≤ 1048576) (hB : (B.length : Int) ≤ 1048576) :
    Calls Try.prog 36 #[.agg #[.int .i64 oa, .string ⟨A.toArray⟩], .agg #[.int .i64 ob, .string ⟨B.toArray⟩]] w fun e w' => e = .returned (.bool (agr (oa, A) (ob, B))) ∧ Below w.heap.size w w' := by
  obtain ⟨R, hR⟩ : ∃ R, R = agr (oa, A) (ob, B) := ⟨_, rfl⟩
  rw [← hR]
  unfold agr at hR
  simp only [pend] at hR
  obtain ⟨lo, hlo⟩ : ∃ lo, lo = max oa ob := ⟨_, rfl⟩
  obtain ⟨hi, hhi⟩ : ∃ hi, hi = min (oa + (A.length : Int)) (ob + (B.length : Int)) := ⟨_, rfl⟩
  rw [← hlo, ← hhi] at hR
  have hmx : (if oa < ob then ob else oa) = lo := by rw [hlo]; split <;> omega
  have hmn : (if ob + (B.length : Int) < oa + (A.length : Int) then ob + (B.length : Int) else oa + (A.length : Int)) = hi := by rw [hhi]; split <;> omega
  have hl1 : oa ≤ lo := by omega
  have hl2 : ob ≤ lo := by omega
  have hh1 : hi ≤ oa + A.length := by omega
  have hh2 : hi ≤ ob + B.length := by omega
  have hl3 : lo ≤ 1048576 := by omega
  have hh3 : 0 ≤ hi := by omega
  have HR := Lib.hid hR
  clear hlo hhi hR
  obtain ⟨W, hW⟩ : ∃ W : World, (w.alloc (.cells #[.int .i64 oa, .string ⟨A.toArray⟩] 40)).alloc (.cells #[.int .i64 ob, .string ⟨B.toArray⟩] 40) = W := ⟨_, rfl⟩
  have HBW : Hid (Below w.heap.size w W) := Lib.hid (by rw [← hW]; exact ((Below.refl _ w).alloc (Nat.le_refl _) _).alloc (by simp) _)
  have w0 : W.cell? ⟨w.heap.size, 0, none⟩ = some (.int .i64 oa) := by rw [← hW]; simp [go_sem]
  have w1 : W.cell? ⟨w.heap.size, 1, none⟩ = some (.string ⟨A.toArray⟩) := by rw [← hW]; simp [go_sem]
  have w2 : W.cell? ⟨w.heap.size + 1, 0, none⟩ = some (.int .i64 ob) := by rw [← hW]; simp [go_sem]
  have w3 : W.cell? ⟨w.heap.size + 1, 1, none⟩ = some (.string ⟨B.toArray⟩) := by rw [← hW]; simp [go_sem]
  have q1 : IntKind.i64.wrap (oa + (A.length : Int)) = oa + (A.length : Int) := IntWalk.i64_in _ (by omega)
  have q2 : IntKind.i64.wrap (ob + (B.length : Int)) = ob + (B.length : Int) := IntWalk.i64_in _ (by omega)
  have HW := Lib.hid hW
  clear hW
  by_cases hlh : hi ≤ lo
  · have HF : Hid (R = true) := Lib.hid (by rw [HR.out, decide_eq_true hlh, Bool.true_or])
    have d0 : decide (hi ≤ lo) = true := by simpa using hlh
    clear HR hlh
    go_enter Try.func36, Try.ntmps36
    go_wp2_with fail
    rw [HW.out]
    go_quiet (fail)
    go_wp2_with fail
    go_quiet (fail)
    go_wp2_with fail
    go_ret
    exact ⟨by rw [HF.out]; rfl, by first | exact below_drewN (below_drewN HBW.out _) _ | exact below_drewN HBW.out _⟩
  · have d0 : decide (hi ≤ lo) = false := by simpa using hlh
    obtain ⟨sa, hsa⟩ : ∃ sa : Nat, lo - oa = (sa : Int) := ⟨(lo - oa).toNat, by omega⟩
    obtain ⟨ea, hea⟩ : ∃ ea : Nat, hi - oa = (ea : Int) := ⟨(hi - oa).toNat, by omega⟩
    obtain ⟨sb, hsb⟩ : ∃ sb : Nat, lo - ob = (sb : Int) := ⟨(lo - ob).toNat, by omega⟩
    obtain ⟨eb, heb⟩ : ∃ eb : Nat, hi - ob = (eb : Int) := ⟨(hi - ob).toNat, by omega⟩
    obtain ⟨X, HX, hslX⟩ : ∃ X : List UInt8, Hid (X = (A.drop sa).take (ea - sa)) ∧ ∀ W, (Instr.slice 9 (.string ⟨A.toArray⟩) (some (.int .i64 sa)) (some (.int .i64 ea)) none).run Try.prog W = .ok (.string ⟨X.toArray⟩) W :=
      ⟨_, Lib.hid rfl, fun W => sl_mid A sa ea (by omega) (by omega) W⟩
    obtain ⟨Y, HY, hslY⟩ : ∃ Y : List UInt8, Hid (Y = (B.drop sb).take (eb - sb)) ∧ ∀ W, (Instr.slice 9 (.string ⟨B.toArray⟩) (some (.int .i64 sb)) (some (.int .i64 eb)) none).run Try.prog W = .ok (.string ⟨Y.toArray⟩) W :=
      ⟨_, Lib.hid rfl, fun W => sl_mid B sb eb (by omega) (by omega) W⟩
    have HF : Hid (R = (X == Y)) := Lib.hid (by
      rw [HR.out, d0, Bool.false_or, HX.out, HY.out, hsa, hsb, Int.toNat_natCast, Int.toNat_natCast, show (hi - lo).toNat = ea - sa by omega, show ea - sa = eb - sb by omega]
      rw [Bool.eq_iff_iff]; simp)
    have q3 : IntKind.i64.wrap (lo - oa) = (sa : Int) := by rw [← hsa]; exact IntWalk.i64_in _ (by omega)
    have q4 : IntKind.i64.wrap (hi - oa) = (ea : Int) := by rw [← hea]; exact IntWalk.i64_in _ (by omega)
    have q5 : IntKind.i64.wrap (lo - ob) = (sb : Int) := by rw [← hsb]; exact IntWalk.i64_in _ (by omega)
    have q6 : IntKind.i64.wrap (hi - ob) = (eb : Int) := by rw [← heb]; exact IntWalk.i64_in _ (by omega)
    have l1 : (sa : Int) ≤ (ea : Int) := by omega
    have l2 : (ea : Int) ≤ (A.length : Int) := by omega
    have l3 : (sb : Int) ≤ (eb : Int) := by omega
    have l4 : (eb : Int) ≤ (B.length : Int) := by omega
    clear HR hlh hsa hea hsb heb
    go_enter Try.func36, Try.ntmps36
    go_wp2_with fail
    rw [HW.out]
    go_quiet (fail)
    go_wp2_with fail
    go_quiet (fail)
    go_wp2_with fail
    go_ret
    exact ⟨by rw [HF.out]; rfl, by first | exact below_drewN (below_drewN HBW.out _) _ | exact below_drewN HBW.out _⟩

/-- The union of two pieces, the first one first. -/
def rjo (a b : P) : P := if pend b ≤ pend a then a else (a.1, a.2.take (b.1 - a.1).toNat ++ b.2)
def rjoin (a b : P) : P := if b.1 < a.1 then rjo b a else rjo a b

def Rj (w : World) (r : P) (e : Ending) (w' : World) : Prop := e = .returned (.agg #[.int .i64 r.1, .string ⟨r.2.toArray⟩]) ∧ Below w.heap.size w w'
theorem Rj.mk {w w' : World} {r : P} {o : Int} {T : List UInt8} (h : r = (o, T)) (hb : Below w.heap.size w w') : Rj w r (.returned (.agg #[.int .i64 o, .string ⟨T.toArray⟩])) w' := by subst h; exact ⟨rfl, hb⟩

set_option maxRecDepth 100000 in
set_option maxHeartbeats 2000000 in
theorem refJoin_ord (oa ob : Int) (A B : List UInt8) (w : World) (ha0 : 0 ≤ oa) (ha1 : oa ≤ 1048576) (hb0 : 0 ≤ ob) (hb1 : ob ≤ 1048576) (hA : (A.length : Int) ≤ 1048576) (hB : (B.length : Int) ≤ 1048576) (ho : oa ≤ ob) (ht : ob ≤ oa + A.length) :
    Calls Try.prog 37 #[.agg #[.int .i64 oa, .string ⟨A.toArray⟩], .agg #[.int .i64 ob, .string ⟨B.toArray⟩]] w (Rj w (rjo (oa, A) (ob, B))) := by
  obtain ⟨R, hR⟩ : ∃ R, R = rjo (oa, A) (ob, B) := ⟨_, rfl⟩
  rw [← hR]
  unfold rjo at hR
  simp only [pend] at hR
  have ho' : ¬ ob < oa := by omega
  obtain ⟨W, hW⟩ : ∃ W : World, (((w.alloc (.cells #[.int .i64 oa, .string ⟨A.toArray⟩] 40)).alloc (.cells #[.int .i64 ob, .string ⟨B.toArray⟩] 40)).alloc (.cells #[.int .i64 0, .string ⟨#[]⟩] 40)) = W := ⟨_, rfl⟩
  have HBW : Hid (Below w.heap.size w W) := Lib.hid (by rw [← hW]; exact (((Below.refl _ w).alloc (Nat.le_refl _) _).alloc (by simp) _).alloc (by simp; omega) _)
  have w0 : W.cell? ⟨w.heap.size, 0, none⟩ = some (.int .i64 oa) := by rw [← hW]; simp [go_sem]
  have w1 : W.cell? ⟨w.heap.size, 1, none⟩ = some (.string ⟨A.toArray⟩) := by rw [← hW]; simp [go_sem]
  have w2 : W.cell? ⟨w.heap.size + 1, 0, none⟩ = some (.int .i64 ob) := by rw [← hW]; simp [go_sem]
  have w3 : W.cell? ⟨w.heap.size + 1, 1, none⟩ = some (.string ⟨B.toArray⟩) := by rw [← hW]; simp [go_sem]
  have w4 : W.cell? ⟨w.heap.size + 1 + 1, 0, none⟩ = some (.int .i64 0) := by rw [← hW]; simp [go_sem]
  have w5 : W.cell? ⟨w.heap.size + 1 + 1, 1, none⟩ = some (.string ⟨#[]⟩) := by rw [← hW]; simp [go_sem]
  have f4 : W.frozen? ⟨w.heap.size + 1 + 1, 0, none⟩ = false := by rw [← hW]; simp [go_sem]
  have f5 : W.frozen? ⟨w.heap.size + 1 + 1, 1, none⟩ = false := by rw [← hW]; simp [go_sem]
  have hWs : w.heap.size + 3 ≤ W.heap.size := by rw [← hW]; simp [go_sem]
  have HW := Lib.hid hW
  clear hW
  by_cases he : ob + (B.length : Int) ≤ oa + A.length
  · have HF : Hid (R = (oa, A)) := Lib.hid (by rw [hR, if_pos he])
    clear hR
    go_enter Try.func37, Try.ntmps37
    go_wp2_with fail
    try rw [HW.out]
    refine bodyPost_ret (v := .agg #[.int .i64 oa, .string ⟨A.toArray⟩]) (by simp [results, Try.results37, go_sem]) rfl (Rj.mk HF.out ?_)
    exact (((Below.refl _ w).alloc (Nat.le_refl _) _).alloc (by simp) _).alloc (by simp; omega) _
  · obtain ⟨st, hst⟩ : ∃ st : Nat, ob - oa = (st : Int) := ⟨(ob - oa).toNat, by omega⟩
    have HF : Hid (R = (oa, A.take st ++ B)) := Lib.hid (by rw [hR, if_neg he, hst, Int.toNat_natCast])
    have q1 : IntKind.i64.wrap (ob - oa) = (st : Int) := by rw [← hst]; exact IntWalk.i64_in _ (by omega)
    have hsl := fun W => sl_hi A st (by omega) W
    obtain ⟨Z, hZ⟩ : ∃ Z, Z = A.take st := ⟨_, rfl⟩
    rw [← hZ] at hsl HF
    have hZl : (Z.length : Int) ≤ 1048576 := by rw [hZ, List.length_take]; omega
    have hadd : ∀ W, (Op.stringOp .add ⟨Z.toArray⟩ ⟨B.toArray⟩).run Try.prog W = .ok (.string ⟨(Z ++ B).toArray⟩) W := fun W => run_string_add_lists W Z B (by omega) (by omega)
    have l1 : (0 : Int) ≤ (st : Int) := by omega
    have l2 : (st : Int) ≤ (A.length : Int) := by omega
    clear hR hZ
    go_enter Try.func37, Try.ntmps37
    go_wp2_with fail
    try rw [HW.out]
    clear hst
    have HK : Hid (∀ X, Below (w.heap.size + 2) W X → X.cell? ⟨w.heap.size, 0, none⟩ = some (.int .i64 oa) ∧ X.cell? ⟨w.heap.size, 1, none⟩ = some (.string ⟨A.toArray⟩) ∧ X.cell? ⟨w.heap.size + 1, 0, none⟩ = some (.int .i64 ob) ∧ X.cell? ⟨w.heap.size + 1, 1, none⟩ = some (.string ⟨B.toArray⟩)) := Lib.hid (fun X hX =>
      ⟨(hX.cell (p := ⟨w.heap.size, 0, none⟩) (by simp)).trans w0, (hX.cell (p := ⟨w.heap.size, 1, none⟩) (by simp)).trans w1, (hX.cell (p := ⟨w.heap.size + 1, 0, none⟩) (by simp)).trans w2, (hX.cell (p := ⟨w.heap.size + 1, 1, none⟩) (by simp)).trans w3⟩)
    go_region_held3 (fun w' => w'.cell? ⟨w.heap.size, 0, none⟩ = some (.int .i64 oa) ∧ w'.cell? ⟨w.heap.size, 1, none⟩ = some (.string ⟨A.toArray⟩) ∧ w'.cell? ⟨w.heap.size + 1, 0, none⟩ = some (.int .i64 ob) ∧ w'.cell? ⟨w.heap.size + 1, 1, none⟩ = some (.string ⟨B.toArray⟩))
      (first
        | exact HK.out _ (Below.refl _ _).drew
        | exact HK.out _ (((Below.refl _ _).setCell (by simp) _).setCell (by simp) _).drew)
      (fail)
    all_goals
      go_wp2_with fail
      refine bodyPost_ret (v := .agg #[.int .i64 oa, .string ⟨(Z ++ B).toArray⟩]) (by simp [results, Try.results37, go_sem, w4, w5]) rfl (Rj.mk HF.out ?_)
      exact ((HBW.out.setCell (by simp; omega) _).setCell (by simp; omega) _).drew

set_option maxRecDepth 100000 in
set_option maxHeartbeats 2000000 in
theorem refJoin_any (oa ob : Int) (A B : List UInt8) (w : World) (ha0 : 0 ≤ oa) (ha1 : oa ≤ 1048576) (hb0 : 0 ≤ ob) (hb1 : ob ≤ 1048576) (hA : (A.length : Int) ≤ 1048576) (hB : (B.length : Int) ≤ 1048576) (ht : ob ≤ oa + A.length) (ht' : oa ≤ ob + B.length) :
    Calls Try.prog 37 #[.agg #[.int .i64 oa, .string ⟨A.toArray⟩], .agg #[.int .i64 ob, .string ⟨B.toArray⟩]] w (Rj w (rjoin (oa, A) (ob, B))) := by
  by_cases h : ob < oa
  · rw [show rjoin (oa, A) (ob, B) = rjo (ob, B) (oa, A) from if_pos h]
    have HJ := Lib.hid (fun X => refJoin_ord ob oa B A X hb0 hb1 ha0 ha1 hB hA (by omega) ht')
    generalize rjo (ob, B) (oa, A) = R at HJ
    obtain ⟨ro, RT⟩ := R
    go_enter Try.func37, Try.ntmps37
    go_wp2_with fail
    refine (HJ.out _).mono ?_
    rintro e x ⟨rfl, hb⟩
    have HB := Lib.hid hb
    have y4 : x.cell? ⟨w.heap.size + 1 + 1, 0, none⟩ = some (.int .i64 0) := (hb.cell (p := ⟨w.heap.size + 1 + 1, 0, none⟩) (by simp)).trans (by simp [go_sem])
    have y5 : x.cell? ⟨w.heap.size + 1 + 1, 1, none⟩ = some (.string ⟨#[]⟩) := (hb.cell (p := ⟨w.heap.size + 1 + 1, 1, none⟩) (by simp)).trans (by simp [go_sem])
    have z4 : x.frozen? ⟨w.heap.size + 1 + 1, 0, none⟩ = false := (hb.frozen (p := ⟨w.heap.size + 1 + 1, 0, none⟩) (by simp)).trans (by simp [go_sem])
    have z5 : x.frozen? ⟨w.heap.size + 1 + 1, 1, none⟩ = false := (hb.frozen (p := ⟨w.heap.size + 1 + 1, 1, none⟩) (by simp)).trans (by simp [go_sem])
    clear hb
    go_wp2_with fail
    refine bodyPost_ret (v := .agg #[.int .i64 ro, .string ⟨RT.toArray⟩]) (by simp [results, Try.results37, go_sem, y4, y5]) rfl (Rj.mk rfl ?_)
    exact ((((((Below.refl _ w).alloc (Nat.le_refl _) _).alloc (by simp) _).alloc (by simp; omega) _).trans (HB.out.mono (by simp; omega))).setCell (by simp; omega) _).setCell (by simp; omega) _
  · rw [show rjoin (oa, A) (ob, B) = rjo (oa, A) (ob, B) from if_neg h]
    exact refJoin_ord oa ob A B w ha0 ha1 hb0 hb1 hA hB (by omega) ht

end Go.Proofs.Ytlijaacjfnjmjaa
