/- object.checkEntries, slices.Contains of digests, object.checkCommit, object.check. -/
import Derived.Test.YtlfodnehgedpmaaObNm
namespace Go.Proofs.Ytlfodnehgedpmaa
open Go.RowKit
set_option linter.unusedVariables false

/-- A slice of entries that lies below block B. -/
def Ents (B : Nat) (W : World) (a : Option Addr) (es : List Ent) : Prop :=
  ∀ i (h : i < es.length), ∃ b off, a = some ⟨b, off, none⟩ ∧ b < B ∧ W.cell? ⟨b, off + i * 4, none⟩ = some (.string ⟨es[i].name.toArray⟩) ∧ W.cell? ⟨b, off + i * 4 + 1, none⟩ = some (.bool es[i].dir) ∧ W.cell? ⟨b, off + i * 4 + 2, none⟩ = some (.int .u64 es[i].d.1) ∧ W.cell? ⟨b, off + i * 4 + 3, none⟩ = some (.int .u64 es[i].d.2)
theorem Ents.below {B B' : Nat} {W W' : World} {a : Option Addr} {es : List Ent} (h : Ents B W a es) (hb : Below B' W W') (hB : B ≤ B') : Ents B W' a es := by
  intro i hi
  obtain ⟨b, off, ha, hlt, h0, h1, h2, h3⟩ := h i hi
  exact ⟨b, off, ha, hlt, (hb.cell (p := ⟨b, off + i * 4, none⟩) (by simp; omega)).trans h0, (hb.cell (p := ⟨b, off + i * 4 + 1, none⟩) (by simp; omega)).trans h1, (hb.cell (p := ⟨b, off + i * 4 + 2, none⟩) (by simp; omega)).trans h2, (hb.cell (p := ⟨b, off + i * 4 + 3, none⟩) (by simp; omega)).trans h3⟩
theorem Ents.mono {B B' : Nat} {W : World} {a : Option Addr} {es : List Ent} (h : Ents B W a es) (hB : B ≤ B') : Ents B' W a es := by
  intro i hi
  obtain ⟨b, off, ha, hlt, h0⟩ := h i hi
  exact ⟨b, off, ha, by omega, h0⟩
theorem Ents.nil (B : Nat) (W : World) (a : Option Addr) : Ents B W a [] := fun i h => by simp at h

def prevN (es : List Ent) : Nat → Option (List UInt8)
  | 0 => none
  | k + 1 => (es[k]?).map (·.name)
def ER (es : List Ent) (k : Nat) : Prop := entGo none es = entGo (prevN es k) (es.drop k)
theorem ER.start (es : List Ent) : ER es 0 := rfl
theorem ER.step {es : List Ent} {k : Nat} (h : ER es k) (hk : k < es.length) : entGo none es = if nameB es[k].name = false then 6 else if prevB (prevN es k) es[k].name = true then 10 else if es[k].d = (0, 0) then 1 else entGo (prevN es (k + 1)) (es.drop (k + 1)) := by
  unfold ER at h
  have e : prevN es (k + 1) = some es[k].name := by rw [prevN, List.getElem?_eq_getElem hk]; rfl
  rw [h, List.drop_eq_getElem_cons hk, entGo, e]
theorem ER.fin {es : List Ent} {k : Nat} (h : ER es k) (hk : es.length ≤ k) : entGo none es = 0 := by
  unfold ER at h
  rw [h, List.drop_of_length_le hk]
  cases prevN es k <;> rfl

set_option maxRecDepth 100000 in
set_option maxHeartbeats 2000000 in
theorem checkEntries_any (a : Option Addr) (es : List Ent) (c : Nat) (w : World) (hes : Ents w.heap.size w a es) (hn : (es.length : Int) ≤ 9223372036854775807) (hnl : ∀ e ∈ es, (e.name.length : Int) ≤ 9223372036854775807) :
    Calls Try.prog 34 #[.slice a es.length c] w fun e w' => e = .returned (.int .i64 (entsE es)) ∧ Below w.heap.size w w' := by
  obtain ⟨R, hR⟩ : ∃ R, R = entsE es := ⟨_, rfl⟩
  rw [← hR]
  obtain ⟨n, hnn⟩ : ∃ n, n = es.length := ⟨_, rfl⟩
  unfold entsE at hR
  rw [← hnn] at hR hn ⊢
  have HN := Lib.hid hnn
  have HES := Lib.hid hes
  have HNL := Lib.hid hnl
  clear hnn hes hnl
  by_cases h200 : (200 : Int) < n
  · have HF : Hid (R = 4) := Lib.hid (by rw [hR, if_pos (by omega)])
    clear hR
    go_enter Try.func34, Try.ntmps34
    go_wp2_with fail
    go_ret
    exact ⟨by rw [HF.out]; rfl, Below.refl _ _⟩
  · have HF : Hid (R = entGo none es) := Lib.hid (by rw [hR, if_neg (by omega)])
    clear hR
    go_enter Try.func34, Try.ntmps34
    go_wp2_with fail
    go_loopw [10] (fun i wr => ∃ k : Nat, k ≤ n ∧ i = .int .i64 k ∧ Hid (Below w.heap.size w wr) ∧ Hid (ER es k)) (fun i _ => n - (intOf i).toNat)
    case atStart => exact ⟨0, by omega, rfl, Lib.hid (Below.refl _ _), Lib.hid (ER.start es)⟩
    case round =>
      obtain ⟨k, hk, rfl, HB, HE⟩ := hrel
      have hws := HB.out.size
      by_cases hlt : k < n
      · have h1 : k < es.length := by rw [← HN.out]; exact hlt
        obtain ⟨b0, o0, rfl, hb0, c0, c1, c2, c3⟩ := (HES.out.below HB.out (Nat.le_refl _)) k h1
        have HST := Lib.hid (HE.out.step h1)
        have hl := HNL.out _ (List.getElem_mem h1)
        generalize es[k] = en at c0 c1 c2 c3 HST hl
        obtain ⟨E, dir, d1, d2⟩ := en
        simp only at c0 c1 c2 c3 HST hl
        have HV := Lib.hid (fun W => valid_any E W hl)
        cases hv : nameB E with
        | false =>
          rw [hv] at HV
          have HR : Hid (R = 6) := Lib.hid (by rw [HF.out, HST.out, hv, if_pos rfl])
          clear hv HST HE
          go_wp2_with fail
          refine (HV.out _).mono ?_
          rintro e w' ⟨rfl, rfl⟩
          go_wp2_with fail
          go_ret
          exact ⟨by rw [HR.out]; rfl, HB.out.alloc hws _⟩
        | true =>
          rw [hv] at HV
          have HST2 : Hid (R = if prevB (prevN es k) E = true then 10 else if ((d1, d2) : Int × Int) = (0, 0) then 1 else entGo (prevN es (k + 1)) (es.drop (k + 1))) := Lib.hid (by rw [HF.out, HST.out, hv, if_neg (by simp)])
          clear hv HST HE
          have hq := fun W => eql_dig d1 d2 0 0 W
          by_cases hk0 : k = 0
          · have g0 : decide ((0 : Int) < (k : Int)) = false := by simp; omega
            have g1 : decide (0 < k) = false := by simp; omega
            have HST3 : Hid (R = if ((d1, d2) : Int × Int) = (0, 0) then 1 else entGo (prevN es (k + 1)) (es.drop (k + 1))) := Lib.hid (by rw [HST2.out, hk0]; rfl)
            clear HST2 hk0
            cases hz : (d1 == 0 && d2 == 0) with
            | true =>
              rw [hz] at hq
              have HR : Hid (R = 1) := Lib.hid (by
                rw [HST3.out, if_pos]
                simp only [Bool.and_eq_true, beq_iff_eq] at hz
                rw [hz.1, hz.2])
              clear hz HST3
              go_wp2_with fail
              refine (HV.out _).mono ?_
              rintro e w' ⟨rfl, rfl⟩
              go_wp2_with fail
              go_quiet (fail)
              go_wp2_with fail
              go_ret
              exact ⟨by rw [HR.out]; rfl, below_drewN (HB.out.alloc hws _) _⟩
            | false =>
              rw [hz] at hq
              have HR : Hid (ER es (k + 1)) := Lib.hid (by
                unfold ER
                rw [← HF.out, HST3.out, if_neg]
                intro h
                simp only [Prod.mk.injEq] at h
                simp [h.1, h.2] at hz)
              clear hz HST3
              go_wp2_with fail
              refine (HV.out _).mono ?_
              rintro e w' ⟨rfl, rfl⟩
              go_wp2_with fail
              go_quiet (fail)
              go_wp2_with fail
              go_roundw
              case rel => exact ⟨k + 1, by omega, by go_num, Lib.hid (below_drewN (HB.out.alloc hws _) _), HR⟩
              case measure => simp [intOf]; omega
          · have g0 : decide ((0 : Int) < (k : Int)) = true := by simp; omega
            have g1 : decide (0 < k) = true := by simp; omega
            obtain ⟨j, hj⟩ : ∃ j, k = j + 1 := ⟨k - 1, by omega⟩
            have hj1 : j < es.length := by omega
            obtain ⟨b1, o1, hbe, hb1, q0, _, _, _⟩ := (HES.out.below HB.out (Nat.le_refl _)) j hj1
            cases hbe
            have hjk : (k : Int) - 1 = (j : Int) := by omega
            have hjw : IntKind.i64.wrap ((k : Int) - 1) = (j : Int) := by rw [hjk]; exact wrap_i64 (by omega) (by omega)
            have hjb : (j : Int) < (n : Int) := by omega
            have HPV : Hid (prevN es k = some es[j].name) := Lib.hid (by rw [hj, prevN, List.getElem?_eq_getElem hj1]; rfl)
            generalize es[j].name = Q at q0 HPV
            have q0' := fun x => cell_a1 q0 x
            cases hb1 : Op.bytesLess E Q with
            | true =>
                have HR : Hid (R = 10) := Lib.hid (by rw [HST2.out, HPV.out, if_pos]; simp [prevB, leB, hb1])
                clear HST2 HPV hj hjk
                go_wp2_with fail
                refine (HV.out _).mono ?_
                rintro e w' ⟨rfl, rfl⟩
                go_wp2_with fail
                go_quiet (fail)
                go_wp2_with fail
                go_ret
                exact ⟨by rw [HR.out]; rfl, below_drewN (HB.out.alloc hws _) _⟩
            | false =>
              cases hb2 : (E == Q) with
              | true =>
                have HR : Hid (R = 10) := Lib.hid (by rw [HST2.out, HPV.out, if_pos]; simp [prevB, leB, hb1, hb2])
                clear HST2 HPV hj hjk
                go_wp2_with fail
                refine (HV.out _).mono ?_
                rintro e w' ⟨rfl, rfl⟩
                go_wp2_with fail
                go_quiet (fail)
                go_wp2_with fail
                go_ret
                exact ⟨by rw [HR.out]; rfl, below_drewN (HB.out.alloc hws _) _⟩
              | false =>
                have HST3 : Hid (R = if ((d1, d2) : Int × Int) = (0, 0) then 1 else entGo (prevN es (k + 1)) (es.drop (k + 1))) := Lib.hid (by rw [HST2.out, HPV.out, if_neg]; simp [prevB, leB, hb1, hb2])
                clear HST2 HPV hj hjk
                cases hz : (d1 == 0 && d2 == 0) with
                | true =>
                  rw [hz] at hq
                  have HR : Hid (R = 1) := Lib.hid (by
                    rw [HST3.out, if_pos]
                    simp only [Bool.and_eq_true, beq_iff_eq] at hz
                    rw [hz.1, hz.2])
                  clear hz HST3
                  go_wp2_with fail
                  refine (HV.out _).mono ?_
                  rintro e w' ⟨rfl, rfl⟩
                  go_wp2_with fail
                  go_quiet (fail)
                  go_wp2_with fail
                  go_ret
                  exact ⟨by rw [HR.out]; rfl, below_drewN (HB.out.alloc hws _) _⟩
                | false =>
                  rw [hz] at hq
                  have HR : Hid (ER es (k + 1)) := Lib.hid (by
                    unfold ER
                    rw [← HF.out, HST3.out, if_neg]
                    intro h
                    simp only [Prod.mk.injEq] at h
                    simp [h.1, h.2] at hz)
                  clear hz HST3
                  go_wp2_with fail
                  refine (HV.out _).mono ?_
                  rintro e w' ⟨rfl, rfl⟩
                  go_wp2_with fail
                  go_quiet (fail)
                  go_wp2_with fail
                  go_roundw
                  case rel => exact ⟨k + 1, by omega, by go_num, Lib.hid (below_drewN (HB.out.alloc hws _) _), HR⟩
                  case measure => simp [intOf]; omega
      · have HR : Hid (R = 0) := Lib.hid (by rw [HF.out]; exact HE.out.fin (by rw [← HN.out]; omega))
        go_wp2_with fail
        go_ret
        exact ⟨by rw [HR.out]; rfl, HB.out⟩

end Go.Proofs.Ytlfodnehgedpmaa
