/- Joined texts: RsA, RsB, RsQ, RsC, RsD, RsE, RsF, RsG, RsH, RsR, RsI, RsL, RsM. -/
import Derived.Test.YtdedfkljaeloiaaGreatDoorK2
import Derived.Test.YtdedfkljaeloiaaGreatDoorK1
import Derived.Test.YtdedfkljaeloiaaGreatDoorK3
import Derived.Deep.OwnRows
import Derived.Test.YtdedfkljaeloiaaGreatDoorK5

/- The reference's zero and ValidName. -/
namespace Go.Proofs.YtdedfkljaeloiaaGreatDoor
open Go.RowKit
set_option linter.unusedVariables false

theorem letterB_iff (c : UInt8) : letterB c = true ↔ ((97 ≤ (c.toNat : Int) ∧ (c.toNat : Int) ≤ 122) ∨ (65 ≤ (c.toNat : Int) ∧ (c.toNat : Int) ≤ 90) ∨ (48 ≤ (c.toNat : Int) ∧ (c.toNat : Int) ≤ 57) ∨ (c.toNat : Int) = 46 ∨ (c.toNat : Int) = 95 ∨ (c.toNat : Int) = 45) := by
  have e : ∀ k : UInt8, (c == k) = true ↔ (c.toNat : Int) = k.toNat := fun k => by
    rw [beq_iff_eq, ← UInt8.toNat_inj]; omega
  simp only [letterB, Bool.or_eq_true, Bool.and_eq_true, decide_eq_true_eq, e]
  simp
  omega

end Go.Proofs.YtdedfkljaeloiaaGreatDoor

/- The reference's entries. -/
namespace Go.Proofs.YtdedfkljaeloiaaGreatDoor
open Go.RowKit
set_option linter.unusedVariables false

theorem leB_geq : ∀ (a b : List UInt8), leB a b = !Op.bytesLess b a
  | [], [] => rfl
  | [], b :: y => rfl
  | a :: x, [] => rfl
  | a :: x, b :: y => by
    have ih := leB_geq x y
    unfold leB at ih ⊢
    simp only [Op.bytesLess, List.cons_beq_cons]
    rcases Nat.lt_trichotomy a.toNat b.toNat with h | h | h
    · have h1 : a < b := h
      have h2 : ¬ b < a := fun h' => by have h3 : b.toNat < a.toNat := h'; omega
      have h3 : (b == a) = false := by rw [beq_eq_false_iff_ne]; intro e; subst e; omega
      simp [h1, h2, h3]
    · have e : a = b := UInt8.toNat_inj.1 h
      subst e
      have h2 : ¬ a < a := fun h' => by have h3 : a.toNat < a.toNat := h'; omega
      simp only [h2, decide_false, Bool.false_or, beq_self_eq_true, Bool.true_and]
      exact ih
    · have h1 : b < a := h
      have h2 : ¬ a < b := fun h' => by have h3 : a.toNat < b.toNat := h'; omega
      have h3 : (a == b) = false := by rw [beq_eq_false_iff_ne]; intro e; subst e; omega
      simp [h1, h2, h3]

end Go.Proofs.YtdedfkljaeloiaaGreatDoor

/- The reference's reading of an object: the plain law. It reads what the program reads. -/
namespace Go.Proofs.YtdedfkljaeloiaaGreatDoor

def qNum (r : RS) : Int × RS := if r.2 = true ∨ (Cw.getI r.1).2.2 ≠ 0 then (0, (r.1, true)) else ((Cw.getI r.1).1, (r.1.drop (Cw.getI r.1).2.1.toNat, false))
def qStr (r : RS) : List UInt8 × RS := if r.2 = true ∨ (Cw.getT r.1).2.2 ≠ 0 then ([], (r.1, true)) else ((Cw.getT r.1).1, (r.1.drop (Cw.getT r.1).2.1.toNat, false))
def qDig (r : RS) : (Int × Int) × RS := if r.2 = true ∨ r.1.length < 16 then ((0, 0), (r.1, true)) else ((fixS (r.1.take 8), fixS ((r.1.drop 8).take 8)), (r.1.drop 16, false))
def qEnt (r : RS) : Ent × RS := (⟨(qStr r).1, (qNum (qStr r).2).1 == 1, (qDig (qNum (qStr r).2).2).1⟩, (qDig (qNum (qStr r).2).2).2)
def qMany {α : Type} (get : RS → α × RS) (r : RS) : List α × RS := rList get (qNum r).1.toNat (qNum r).2
def qC (r : RS) : Ob × RS :=
  (⟨3, [], [], (qDig r).1, (qMany qDig (qDig r).2).1, (qStr (qMany qDig (qDig r).2).2).1, (qNum (qStr (qMany qDig (qDig r).2).2).2).1, (qStr (qNum (qStr (qMany qDig (qDig r).2).2).2).2).1⟩,
   (qStr (qNum (qStr (qMany qDig (qDig r).2).2).2).2).2)
def readQ (s : List UInt8) : Ob × RS :=
  if (qNum (s, false)).1 = 2 then ({ obZ with kind := 2, ents := (qMany qEnt (qNum (s, false)).2).1 }, (qMany qEnt (qNum (s, false)).2).2)
  else if (qNum (s, false)).1 = 3 then qC (qNum (s, false)).2
  else ({ obZ with kind := (qNum (s, false)).1, data := (qStr (qNum (s, false)).2).1 }, (qStr (qNum (s, false)).2).2)
def decodeQ (s : List UInt8) : Ob × Int := if (readQ s).2.2 = true ∨ (encodeS (readQ s).1).2 ≠ 0 ∨ (encodeS (readQ s).1).1 ≠ s then (obZ, 13) else ((readQ s).1, 0)

theorem qNum_enc {n : Nat} (h : n ≤ 1099511627776) (l : List UInt8) : qNum (Cw.enc n ++ l, false) = ((n : Int), (l, false)) := by
  unfold qNum
  simp only [Cw.getI_enc n h l]
  simp
theorem qStr_put {x : List UInt8} (h : x.length ≤ 65536) (l : List UInt8) : qStr (putX x ++ l, false) = (x, (l, false)) := by
  unfold qStr putX
  simp only [getT_put h l]
  simp only [Int.toNat_natCast, List.drop_left]
  simp
theorem qDig_be {d : Int × Int} (h : OkD d) (l : List UInt8) : qDig (beD d ++ l, false) = (d, (l, false)) := by
  have h1 := rDig_be h l
  unfold rDig at h1
  unfold qDig
  have hl : ¬ (beD d ++ l).length < 16 := by simp [beD_length]
  rw [if_neg (by simpa using hl)] at h1
  rw [if_neg (by simpa using hl)]
  exact h1
theorem qEnt_put {e : Ent} (hn : e.name.length ≤ 65536) (h : OkD e.d) (l : List UInt8) : qEnt (entX e ++ l, false) = (e, (l, false)) := by
  obtain ⟨nm, dir, d⟩ := e
  unfold qEnt entX
  simp only at hn h ⊢
  rw [List.append_assoc, qStr_put hn]
  simp only
  rw [List.append_assoc, qNum_enc (by cases dir <;> simp [dirN])]
  simp only
  have e2 : (((dirN dir : Nat) : Int) == 1) = dir := by cases dir <;> rfl
  rw [qDig_be h, e2]
theorem qMany_put {α : Type} {get : RS → α × RS} {enc : α → List UInt8} (xs : List α) (l : List UInt8) (hm : xs.length ≤ 1000000) (hg : ∀ x ∈ xs, ∀ l', get (enc x ++ l', false) = (x, (l', false))) :
    qMany get (Cw.enc xs.length ++ (xs.flatMap enc ++ l), false) = (xs, (l, false)) := by
  unfold qMany
  rw [qNum_enc (by omega)]
  simp only [Int.toNat_natCast]
  rw [rList_put xs l hg]
theorem readQ_put {o : Ob} (h : checkS o = 0) (ho : OkO o) (hd : o.data.length ≤ 65536) (l : List UInt8) : readQ (bodyO o ++ l) = (o, (l, false)) := by
  have hk := checkS_kind h
  unfold readQ bodyO
  rw [List.append_assoc, qNum_enc (by omega)]
  have e : ((o.kind.toNat : Nat) : Int) = o.kind := by omega
  simp only [e]
  by_cases h2 : o.kind = 2
  · rw [if_pos h2, if_pos h2, List.append_assoc]
    obtain ⟨he, hE⟩ := checkS_two h h2
    obtain ⟨hl, hg⟩ := entsE_parts hE
    rw [qMany_put o.ents l (by omega) (fun x hx l' => qEnt_put (by have := nameB_length (entGo_name hg x hx); omega) (ho.2.2 x hx) l')]
    simp only
    rw [← he]
  · rw [if_neg h2, if_neg h2]
    by_cases h3 : o.kind = 3
    · rw [if_pos h3, if_pos h3]
      obtain ⟨he, hE⟩ := checkS_three h h3
      obtain ⟨c1, c2, c3, c4, c5, _⟩ := commitE_parts hE
      have hn := nameB_length c2
      unfold qC
      simp only [List.append_assoc]
      rw [qDig_be ho.1]
      simp only
      rw [qMany_put o.pars _ (by omega) (fun x hx l' => qDig_be (ho.2.1 x hx) l')]
      simp only
      rw [qStr_put (by omega)]
      simp only
      rw [qNum_enc (by omega)]
      simp only
      rw [qStr_put (by omega)]
      simp only
      rw [show ((o.time.toNat : Nat) : Int) = o.time by omega, ← he]
    · rw [if_neg h3, if_neg h3, qStr_put hd]
      simp only
      rw [← checkS_one h (by omega)]
theorem qDig_ok (r : RS) : OkD (qDig r).1 := by
  unfold qDig
  split
  · exact (show OkD ((0 : Int), (0 : Int)) from ⟨⟨by decide, by decide⟩, by decide, by decide⟩)
  · exact ⟨fixS_range _ (by rw [List.length_take]; omega), fixS_range _ (by rw [List.length_take]; omega)⟩
theorem readQ_ok (s : List UInt8) : OkO (readQ s).1 := by
  have hz : OkD (0, 0) := ⟨⟨by decide, by decide⟩, by decide, by decide⟩
  unfold readQ
  split
  · exact ⟨hz, by simp [obZ], (rList_all (P := fun e : Ent => OkD e.d) (fun r => qDig_ok _) _ _).2⟩
  · split
    · exact ⟨qDig_ok _, (rList_all (P := OkD) qDig_ok _ _).2, by simp [qC]⟩
    · exact ⟨hz, by simp [obZ], by simp [obZ]⟩
/-- The reference decodes what the program decodes. -/
theorem decodeQ_eq (s : List UInt8) : decodeQ s = decodeS s := by
  by_cases hq : (readQ s).2.2 = true ∨ (encodeS (readQ s).1).2 ≠ 0 ∨ (encodeS (readQ s).1).1 ≠ s
  · have h1 : decodeQ s = (obZ, 13) := by unfold decodeQ; rw [if_pos hq]
    rw [h1]
    rcases decode_cases s with h | ⟨o, h⟩
    · exact h.symm
    · exfalso
      obtain ⟨he, ho⟩ := decode_good h
      obtain ⟨c1, c2, c3⟩ := encodeS_parts he
      have hr := readQ_put c1 ho (by have := body_data c1; omega) []
      rw [List.append_nil, ← c2] at hr
      rw [hr] at hq
      simp [he] at hq
  · have h1 : decodeQ s = ((readQ s).1, 0) := by unfold decodeQ; rw [if_neg hq]
    rw [h1]
    simp only [not_or, Classical.not_not] at hq
    have he : encodeS (readQ s).1 = (s, 0) := by rw [← hq.2.1]; exact Prod.ext hq.2.2 rfl
    exact (decode_put he (readQ_ok s)).symm

end Go.Proofs.YtdedfkljaeloiaaGreatDoor

/- The reference's only, commit, fields. -/
namespace Go.Proofs.YtdedfkljaeloiaaGreatDoor
open Go.RowKit
set_option linter.unusedVariables false

/-- Whether an object has the fields of a kind only. -/
def onlyB (o : Ob) : Bool := !(((o.kind == 2 || o.kind == 3) && !o.data.isEmpty) || (!(o.kind == 2) && decide (0 < o.ents.length))) && (o.kind == 3 || !hasC o)
def fieldsS (o : Ob) : Int :=
  if o.kind < 1 ∨ 4 < o.kind then 9 else if onlyB o = false then 1 else if o.kind = 2 then entsE o.ents else if o.kind = 3 then commitE o else if 65536 < o.data.length then 4 else 0
theorem onlyB_is (o : Ob) : onlyB o = (!(((o.kind == 2 || o.kind == 3) && !o.data.isEmpty) || (!(o.kind == 2) && decide (0 < o.ents.length))) && (o.kind == 3 || ((o.tree.1 == 0 && o.tree.2 == 0) && !decide (0 < o.pars.length) && o.author.isEmpty && (o.time == 0) && o.msg.isEmpty))) := by
  unfold onlyB
  rw [hasC_is]
  have e : ∀ l : List UInt8, (l == []) = l.isEmpty := fun l => by cases l <;> rfl
  simp only [e, Bool.not_or, Bool.not_not]

theorem bcell {W w1 : World} (hb : Below W.heap.size W w1) : (∀ b o, b < W.heap.size → w1.cell? ⟨b, o, none⟩ = W.cell? ⟨b, o, none⟩) ∧ (∀ b o, b < W.heap.size → w1.frozen? ⟨b, o, none⟩ = W.frozen? ⟨b, o, none⟩) :=
  ⟨fun b o h => hb.cell (p := ⟨b, o, none⟩) h, fun b o h => hb.frozen (p := ⟨b, o, none⟩) h⟩
end Go.Proofs.YtdedfkljaeloiaaGreatDoor

/- The reference's commit, fields. -/
namespace Go.Proofs.YtdedfkljaeloiaaGreatDoor
open Go.RowKit
set_option linter.unusedVariables false

theorem dig_ne {a b : Int} (h : (a == 0 && b == 0) = false) : ((a, b) : Int × Int) ≠ (0, 0) := by
  intro h2
  simp only [Prod.mk.injEq] at h2
  simp [h2.1, h2.2] at h
theorem dig_eq {a b : Int} (h : (a == 0 && b == 0) = true) : ((a, b) : Int × Int) = (0, 0) := by
  simp only [Bool.and_eq_true, beq_iff_eq] at h
  rw [h.1, h.2]

end Go.Proofs.YtdedfkljaeloiaaGreatDoor

/- The reference's number, text, Bytes. -/
namespace Go.Proofs.YtdedfkljaeloiaaGreatDoor
open Go.RowKit Go.Shelf
set_option linter.unusedVariables false

theorem be_snoc : ∀ (k : Nat) (x : Int), be (k + 1) x = be k (x / 256) ++ [UInt8.ofNat (x % 256).toNat]
  | 0, x => by simp [be]
  | k + 1, x => by
    have ih := be_snoc k x
    rw [be, ih]
    conv => rhs; rw [be]
    rw [List.cons_append]
    congr 4
    rw [show 8 * (k + 1) = 8 + 8 * k by omega, Int.pow_add, Int.ediv_mul, if_neg (fun h => absurd h.1 (by decide)), Int.add_zero]
    rfl
theorem set_rep (A R : List UInt8) (m : Nat) (c : UInt8) : (A ++ (List.replicate (m + 1) 0 ++ R)).set (A.length + m) c = A ++ (List.replicate m 0 ++ (c :: R)) := by
  rw [List.set_append_right _ _ (by omega), Nat.add_sub_cancel_left, List.replicate_succ', List.append_assoc, List.set_append_right _ _ (by simp)]
  simp
theorem bytes_set (L : List UInt8) (i : Nat) (c : Int) (h0 : 0 ≤ c) (h1 : c < 256) : (Lib.byteCells L).toArray.setIfInBounds i (.int .u8 c) = (Lib.byteCells (L.set i (UInt8.ofNat c.toNat))).toArray := by
  rw [List.setIfInBounds_toArray]
  congr 1
  unfold Lib.byteCells
  rw [List.map_set]
  congr 2
  simp
  omega
theorem own_bytes {W : World} {b : Nat} {L : List UInt8} (h : BK b (Lib.byteCells L).toArray 5 W) (hl : L.length ≤ 1000000) : W.ownsRow b 5 1 (.slice (some ⟨b, 0, none⟩) L.length L.length) L.length (Lib.byteCells L) := by
  refine ⟨by rw [Lib.byteCells_length]; omega, .inr ⟨b, L.length, (Lib.byteCells L).toArray, rfl, Nat.le_refl _, h, Nat.le_refl _, by unfold maxLen; omega, by simp [Lib.byteCells_length], ?_⟩⟩
  simp [List.take_of_length_le, Lib.byteCells_length]
theorem made_bytes : (madeCells #[Value.int .u8 0] 16) = (Lib.byteCells (List.replicate 16 0)).toArray := by
  apply Array.ext'
  rw [toList_madeCells_one]
  rfl
theorem infoU8 : (Tryz.prog.info? 5).map (fun i => (i.zero, i.size, i.bytes)) = some (some (.int .u8 0), 1, 1) := by kernel_rfl

end Go.Proofs.YtdedfkljaeloiaaGreatDoor

/- The reference's fields. -/
namespace Go.Proofs.YtdedfkljaeloiaaGreatDoor
open Go.RowKit Go.Shelf
set_option linter.unusedVariables false

end Go.Proofs.YtdedfkljaeloiaaGreatDoor

/- The reference's encode. -/
namespace Go.Proofs.YtdedfkljaeloiaaGreatDoor
open Go.RowKit Go.Shelf
set_option linter.unusedVariables false

theorem fields_eq (o : Ob) : fieldsS o = checkS o ∨ (checkS o = 0 ∧ fieldsS o = 4 ∧ (o.kind = 1 ∨ o.kind = 4) ∧ 65536 < o.data.length) := by
  have e1 : ∀ l : List UInt8, (0 < l.length) = (l.isEmpty = false) := fun l => by cases l <;> simp
  unfold fieldsS checkS onlyB
  by_cases h14 : o.kind = 1 ∨ o.kind = 4
  · rw [if_neg (by omega), if_pos h14]
    have k2 : (o.kind == 2) = false := by rw [beq_eq_false_iff_ne]; omega
    have k3 : (o.kind == 3) = false := by rw [beq_eq_false_iff_ne]; omega
    rw [k2, k3, if_neg (show ¬ o.kind = 2 by omega), if_neg (show ¬ o.kind = 3 by omega)]
    by_cases he : 0 < o.ents.length ∨ hasC o = true
    · left
      rw [if_pos he, if_pos]
      rcases he with he | he
      · simp [he]
      · simp [he]
    · rw [if_neg he]
      obtain ⟨he1, he2⟩ := not_or.1 he
      rw [if_neg (by simp [he1, he2])]
      by_cases hd : 65536 < o.data.length
      · right; exact ⟨rfl, by rw [if_pos hd], h14, hd⟩
      · left; rw [if_neg hd]
  · by_cases h2 : o.kind = 2
    · left
      rw [if_neg (by omega), if_neg h14, if_pos h2, if_pos h2, h2]
      by_cases he : 0 < o.data.length ∨ hasC o = true
      · rw [if_pos he, if_pos]
        rw [e1] at he
        rcases he with he | he
        · simp [he]
        · simp [he]
      · rw [if_neg he]
        rw [e1] at he
        obtain ⟨he1, he2⟩ := not_or.1 he
        rw [if_neg (by simp [he1, he2])]
    · by_cases h3 : o.kind = 3
      · left
        rw [if_neg (by omega), if_neg h14, if_neg h2, if_neg h2, if_pos h3, if_pos h3, h3]
        by_cases he : 0 < o.data.length ∨ 0 < o.ents.length
        · rw [if_pos he, if_pos]
          rw [e1] at he
          rcases he with he | he
          · simp [he]
          · simp [he]
        · rw [if_neg he]
          rw [e1] at he
          obtain ⟨he1, he2⟩ := not_or.1 he
          rw [if_neg (by simp [he1, he2])]
      · left
        rw [if_pos (by omega), if_neg h14, if_neg h2, if_neg h3]
theorem fields_ok {o : Ob} (h : fieldsS o = 0) : checkS o = 0 ∧ ((o.kind = 1 ∨ o.kind = 4) → o.data.length ≤ 65536) := by
  rcases fields_eq o with h1 | ⟨_, h1, _⟩
  · refine ⟨by rw [← h1]; exact h, fun hk => ?_⟩
    unfold fieldsS at h
    rw [if_neg (by omega)] at h
    obtain ⟨h2, h⟩ := ne_if h (by decide)
    rw [if_neg (by omega), if_neg (by omega)] at h
    obtain ⟨h2, h⟩ := ne_if h (by decide)
    omega
  · rw [h] at h1; cases h1
theorem rcheck_eq (o : Ob) : (if fieldsS o ≠ 0 then fieldsS o else if 65536 < (bodyO o).length then 4 else 0) = (encodeS o).2 := by
  unfold encodeS
  rcases fields_eq o with h1 | ⟨h0, h1, hk, hd⟩
  · rw [h1]
    by_cases hc : checkS o = 0
    · simp only [hc, ne_eq, not_true_eq_false, if_false]
      split <;> rfl
    · simp only [ne_eq, hc, not_false_eq_true, if_true]
  · rw [if_pos (by rw [h1]; decide), if_neg (by simpa using h0), if_pos, h1]
    unfold bodyO
    rw [if_neg (by omega), if_neg (by omega)]
    simp only [putX, List.length_append]
    omega
theorem sadd {A B C : List UInt8} (h : C = A ++ B) (hA : (A.length : Int) ≤ 8388608) (hB : (B.length : Int) ≤ 8388608) (W : World) : (Op.stringOp .add ⟨A.toArray⟩ ⟨B.toArray⟩).run Tryz.prog W = .ok (.string ⟨C.toArray⟩) W := by
  rw [h]; exact run_string_add_lists W A B hA hB
theorem putX_length (s : List UInt8) : (putX s).length ≤ 10 + s.length := by
  have := enc_length s.length
  rw [putX, List.length_append]; omega

end Go.Proofs.YtdedfkljaeloiaaGreatDoor

/- The reference's Check, Encode. -/
namespace Go.Proofs.YtdedfkljaeloiaaGreatDoor
open Go.RowKit Go.Shelf
set_option linter.unusedVariables false

end Go.Proofs.YtdedfkljaeloiaaGreatDoor

/- The reference's reader: number, text. -/
namespace Go.Proofs.YtdedfkljaeloiaaGreatDoor
open Go.RowKit Go.Shelf
set_option linter.unusedVariables false

end Go.Proofs.YtdedfkljaeloiaaGreatDoor

/- The reference's reader: digest. -/
namespace Go.Proofs.YtdedfkljaeloiaaGreatDoor
open Go.RowKit Go.Shelf
set_option linter.unusedVariables false

theorem fstep_add (x : Int) (c : UInt8) : IntKind.u64.wrap (IntKind.u64.wrap (x * 256) + IntKind.u64.wrap (c.toNat : Int)) = fstep x c := by
  have hc := c.toNat_lt
  rw [fstep_eq, wrap_u64, wrap_u64, wrap_u64]
  omega

end Go.Proofs.YtdedfkljaeloiaaGreatDoor

/- The reference's Decode: the state of the reading. -/
namespace Go.Proofs.YtdedfkljaeloiaaGreatDoor
open Go.RowKit Go.Shelf
set_option linter.unusedVariables false

theorem qNum_len (r : RS) : (qNum r).2.1.length ≤ r.1.length := by unfold qNum; split <;> simp
theorem qNum_range (r : RS) : 0 ≤ (qNum r).1 ∧ (qNum r).1 ≤ 1099511627776 := by
  unfold qNum
  split
  · simp
  · obtain ⟨n, u, er, hg⟩ : ∃ n u er, Cw.getI r.1 = (n, u, er) := ⟨_, _, _, rfl⟩
    have := getI_all hg
    simp only [hg]
    omega
theorem own_setx {W : World} {base : Nat} {e : TypeId} {z : Nat} {v : Value} {n : Nat} {xs : List Value} (h : W.ownsRow base e z v n xs) {b : Nat} (hb : ∀ j, v.ownBlock = some j → j ≠ b) (j : Nat) (u : Value) : (W.setCell ⟨b, j, none⟩ u).ownsRow base e z v n xs :=
  h.kept (gset _ _ _ _) (by
    cases hv : v.ownBlock with
    | none => exact .inl rfl
    | some k => right; intro hh; cases hh; exact hb b hv rfl)
theorem qStr_len (r : RS) : (qStr r).2.1.length ≤ r.1.length ∧ (qStr r).1.length ≤ 65536 := by
  unfold qStr
  split
  · simp
  · obtain ⟨n, u, er, hg⟩ : ∃ n u er, Cw.getT r.1 = (n, u, er) := ⟨_, _, _, rfl⟩
    have := getT_all hg
    simp only [hg]
    refine ⟨by simp, this.2.2⟩
theorem qDig_len (r : RS) : (qDig r).2.1.length ≤ r.1.length ∧ ((qDig r).2.2 = false → (qDig r).2.1.length + 1 ≤ r.1.length) := by
  unfold qDig
  split
  · simp
  · rename_i h
    have := (not_or.1 h).2
    simp only [List.length_drop]
    omega
theorem qEnt_len (r : RS) : (qEnt r).2.1.length ≤ r.1.length ∧ ((qEnt r).2.2 = false → (qEnt r).2.1.length + 1 ≤ r.1.length) := by
  have h1 := qStr_len r
  have h2 := qNum_len (qStr r).2
  have h3 := qDig_len (qNum (qStr r).2).2
  unfold qEnt
  simp only
  exact ⟨by omega, fun h => by have := h3.2 h; omega⟩
theorem qList_count {α : Type} {get : RS → α × RS} (h : ∀ r, (get r).2.1.length ≤ r.1.length ∧ ((get r).2.2 = false → (get r).2.1.length + 1 ≤ r.1.length)) : ∀ (n : Nat) (r : RS), (rList get n r).1.length ≤ r.1.length + 1
  | 0, r => by simp [rList]
  | n + 1, r => by
    rw [rList]
    split
    · simp
    · have h1 := qList_count h n (get r).2
      have h2 := h r
      simp only [List.length_cons]
      cases hb : (get r).2.2 with
      | false => have := h2.2 hb; omega
      | true =>
        have : (rList get n (get r).2).1 = [] := by
          cases n with
          | zero => rfl
          | succ n => rw [rList, if_pos hb]
        rw [this]; simp
/-- The bounds of what was read. -/
structure QB (m : Nat) (o : Ob) : Prop where
  elen : o.ents.length ≤ m + 1
  enam : ∀ e ∈ o.ents, e.name.length ≤ 65536
  plen : o.pars.length ≤ m + 1
  dlen : o.data.length ≤ 65536
  alen : o.author.length ≤ 65536
  mlen : o.msg.length ≤ 65536
theorem readQ_b (s : List UInt8) : QB s.length (readQ s).1 := by
  have h0 := qNum_len (s, false)
  unfold readQ
  split
  · have h1 := qList_count qEnt_len (qNum (qNum (s, false)).2).1.toNat (qNum (qNum (s, false)).2).2
    have h2 := qNum_len (qNum (s, false)).2
    exact ⟨by simp only [qMany] at *; omega, (rList_all (P := fun e : Ent => e.name.length ≤ 65536) (fun r => (qStr_len r).2) _ _).2, by simp [obZ], by simp [obZ], by simp [obZ], by simp [obZ]⟩
  · split
    · have h1 := qList_count qDig_len (qNum (qDig (qNum (s, false)).2).2).1.toNat (qNum (qDig (qNum (s, false)).2).2).2
      have h2 := qNum_len (qDig (qNum (s, false)).2).2
      have h3 := (qDig_len (qNum (s, false)).2).1
      exact ⟨by simp [qC], by simp [qC], by simp only [qC, qMany] at *; omega, by simp [qC], (qStr_len _).2, (qStr_len _).2⟩
    · exact ⟨by simp [obZ], by simp [obZ], by simp [obZ], (qStr_len _).2, by simp [obZ], by simp [obZ]⟩
theorem decodeS_b (s : List UInt8) : ObB (decodeS s).1 := by
  unfold decodeS
  split
  · exact obB_obZ
  · exact readO_b s
/-- One entry behind a row. -/
theorem ents_src {B : Nat} {W : World} {a : Option Addr} {ys : List Ent} (h : Ents B W a ys) : Src W a (ecells ys) := by
  cases hy : ys with
  | nil => exact .inl rfl
  | cons y ys' =>
    rw [← hy]
    have h0 : 0 < ys.length := by rw [hy]; simp
    obtain ⟨b, off, rfl, _⟩ := h 0 h0
    refine .inr ⟨_, rfl, fun j u hu => ?_⟩
    have hj : j < ys.length * 4 := by
      have := (List.getElem?_eq_some_iff.1 hu).1
      rwa [ecells_length] at this
    obtain ⟨i, r, hi, hr, rfl⟩ : ∃ i r, i < ys.length ∧ r < 4 ∧ j = i * 4 + r := ⟨j / 4, j % 4, by omega, by omega, by omega⟩
    obtain ⟨b', off', e, _, c0, c1, c2, c3⟩ := h i hi
    cases e
    obtain ⟨d0, d1, d2, d3⟩ := ecells_at ys i hi
    rw [Go.WideShapes.add_plain]
    rcases (by omega : r = 0 ∨ r = 1 ∨ r = 2 ∨ r = 3) with rfl | rfl | rfl | rfl
    · rw [show i * 4 + 0 = i * 4 from rfl, d0] at hu; cases hu; exact c0
    · rw [d1] at hu; cases hu; rw [← Nat.add_assoc]; exact c1
    · rw [d2] at hu; cases hu; rw [← Nat.add_assoc]; exact c2
    · rw [d3] at hu; cases hu; rw [← Nat.add_assoc]; exact c3
theorem ecells_one (xs : List Ent) : ∀ v ∈ ecells xs, v.oneCell' = true := by
  intro v hv
  simp only [ecells, List.mem_flatMap] at hv
  obtain ⟨x, _, hv⟩ := hv
  simp at hv
  rcases hv with rfl | rfl | rfl | rfl <;> rfl
theorem append_ents (W : World) (base : Nat) (ty : TypeId) (v : Value) (xs : List Ent) (hown : W.ownsRow base 111 4 v xs.length (ecells xs)) (a : Option Addr) (ys : List Ent) (c : Nat) (hy : Ents W.heap.size W a ys)
    (hlen : ((xs.length + ys.length : Nat) : Int) ≤ 1000000000) (hbase : base ≤ W.heap.size) :
    ∃ v' W', (Builtin.append_ #[97, 97] ty #[v, .slice a ys.length c]).run Tryz.prog W = .ok v' W' ∧ W'.ownsRow base 111 4 v' (xs ++ ys).length (ecells (xs ++ ys)) ∧ W.grownBy W' v.ownBlock ∧ (v'.ownBlock = v.ownBlock ∨ v'.ownBlock = some W.heap.size) := by
  obtain ⟨i0, hi, hz0, hz1, hz2⟩ := info_parts infoEnt
  obtain ⟨v', W', h1, h2, h3, h4⟩ := append_src (P := Tryz.prog) W base 97 ty 111 i0 _ 4 40 Tryz.underlying97 hi hz0 hz1 hz2 rfl (by decide) v xs.length (ecells xs) hown a ys.length c (ecells ys) (ecells_length _) (ents_src hy) (ecells_one _) (by unfold maxLen; omega) (by omega) hbase
  exact ⟨v', W', h1, by rw [ecells_append, List.length_append]; exact h2, h3, h4⟩
theorem append_ent {W : World} {base : Nat} {v : Value} {xs : List Ent} (hown : W.ownsRow base 111 4 v xs.length (ecells xs)) (nm : List UInt8) (dir : Bool) (d1 d2 : Int) (hlen : (xs.length : Int) ≤ 2000000) (hbase : base ≤ W.heap.size) :
    ∃ v' W', (Builtin.append_ #[97, 97] 97 #[v, .slice (some ⟨W.heap.size, 0, none⟩) 1 1]).run Tryz.prog (W.alloc (.cells #[.string ⟨nm.toArray⟩, .bool dir, .int .u64 d1, .int .u64 d2] 111)) = .ok v' W' ∧ W'.ownsRow base 111 4 v' (xs ++ [(⟨nm, dir, (d1, d2)⟩ : Ent)]).length (ecells (xs ++ [(⟨nm, dir, (d1, d2)⟩ : Ent)])) ∧ (W.alloc (.cells #[.string ⟨nm.toArray⟩, .bool dir, .int .u64 d1, .int .u64 d2] 111)).grownBy W' v.ownBlock := by
  obtain ⟨v', W', h1, h2, h3, _⟩ := append_ents (W.alloc (.cells #[.string ⟨nm.toArray⟩, .bool dir, .int .u64 d1, .int .u64 d2] 111)) base 97 v xs (hown.alloc _) (some ⟨W.heap.size, 0, none⟩) [⟨nm, dir, (d1, d2)⟩] 1 (fun i hi => by
    obtain rfl : i = 0 := by simp at hi; omega
    have hk := BK.new W #[.string ⟨nm.toArray⟩, .bool dir, .int .u64 d1, .int .u64 d2] 111
    exact ⟨_, 0, rfl, hk.lt, by rw [Nat.zero_mul, hk.cell]; rfl, by rw [Nat.zero_mul, hk.cell]; rfl, by rw [Nat.zero_mul, hk.cell]; rfl, by rw [Nat.zero_mul, hk.cell]; rfl⟩) (by simp; omega) (by simp; omega)
  exact ⟨v', W', h1, h2, h3⟩

/-- append by its run, at a step of a region that draws its order. -/
theorem step_append_run {P : Program} {w : World} {ops : Array Oper} {o : Oper} {a : Act} {K : Act → World → Prop} {Q : Exit → Act → World → Prop} {E : Prop} (hgd : o.guard = none) (s x : Operand) (t tn : TypeId)
    (ho : o.op = .call { callee := .builtin .append, args := #[s, x], argTypes := #[t, tn] }) (vs vx : Value) (hs : a.eval s = vs) (hx : a.eval x = vx) (v' : Value) (w' : World) (hr : (Builtin.append_ #[t, tn] o.type #[vs, vx]).run P w = .ok v' w') (h : K (a.put o.dst v') w') :
    if Region.wanted o (yielded ops a.tmps) = true then Oper.wp P o a w K Q else E := by
  have hw : Region.wanted o (yielded ops a.tmps) = true := by simp [Region.wanted, hgd]
  rw [if_pos hw]
  exact Lib.wp_append_run w s x t tn ho vs vx hs hx v' w' hr h
end Go.Proofs.YtdedfkljaeloiaaGreatDoor

/- The reference's Decode. -/
namespace Go.Proofs.YtdedfkljaeloiaaGreatDoor
open Go.RowKit Go.Shelf
set_option linter.unusedVariables false

end Go.Proofs.YtdedfkljaeloiaaGreatDoor
