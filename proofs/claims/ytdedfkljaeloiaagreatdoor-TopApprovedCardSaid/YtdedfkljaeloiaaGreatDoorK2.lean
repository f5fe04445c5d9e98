/- Joined texts: ObPl, ObNm, ObCk, ObCm, ObCo, ObCh, ObWr, ObWd, ObEn. -/
import Derived.Test.YtdedfkljaeloiaaGreatDoorK1
import Derived.Lib.AppendStr

/- What the object layer computes, in plain terms: no program in sight. -/
namespace Go.Proofs.YtdedfkljaeloiaaGreatDoor

structure Ent where
  name : List UInt8
  dir : Bool
  d : Int × Int
deriving DecidableEq
structure Ob where
  kind : Int
  data : List UInt8
  ents : List Ent
  tree : Int × Int
  pars : List (Int × Int)
  author : List UInt8
  time : Int
  msg : List UInt8
deriving DecidableEq

def letterB (c : UInt8) : Bool := (decide (97 ≤ c.toNat) && decide (c.toNat ≤ 122)) || (decide (65 ≤ c.toNat) && decide (c.toNat ≤ 90)) || (decide (48 ≤ c.toNat) && decide (c.toNat ≤ 57)) || c == 46 || c == 95 || c == 45
/-- Whether a text is a name. -/
def nameB (s : List UInt8) : Bool := decide (1 ≤ s.length) && decide (s.length ≤ 24) && !(s == [46]) && !(s == [46, 46]) && s.all letterB
theorem nameB_length {s : List UInt8} (h : nameB s = true) : 1 ≤ s.length ∧ s.length ≤ 24 := by
  simp only [nameB, Bool.and_eq_true, decide_eq_true_eq] at h
  exact ⟨h.1.1.1.1, h.1.1.1.2⟩
def leB (a b : List UInt8) : Bool := Op.bytesLess a b || a == b
def prevB : Option (List UInt8) → List UInt8 → Bool
  | none, _ => false
  | some q, n => leB n q
/-- The first error of entries behind a name. -/
def entGo : Option (List UInt8) → List Ent → Int
  | _, [] => 0
  | p, e :: r => if nameB e.name = false then 6 else if prevB p e.name = true then 10 else if e.d = (0, 0) then 1 else entGo (some e.name) r
def entsE (l : List Ent) : Int := if 200 < l.length then 4 else entGo none l
/-- The first error of parents behind others. -/
def parGo : List (Int × Int) → List (Int × Int) → Int
  | _, [] => 0
  | seen, d :: r => if d = (0, 0) then 1 else if d ∈ seen then 7 else parGo (seen ++ [d]) r
def commitE (o : Ob) : Int :=
  if o.tree = (0, 0) then 1 else if 8 < o.pars.length then 4 else if parGo [] o.pars ≠ 0 then parGo [] o.pars
  else if nameB o.author = false then 6 else if o.time < 0 ∨ 1099511627776 < o.time then 2 else if 200 < o.msg.length then 4 else 0
def hasC (o : Ob) : Bool := !decide (o.tree = (0, 0)) || decide (0 < o.pars.length) || decide (0 < o.author.length) || !decide (o.time = 0) || decide (0 < o.msg.length)
/-- The first error of an object, apart from its length. -/
def checkS (o : Ob) : Int :=
  if o.kind = 1 ∨ o.kind = 4 then (if 0 < o.ents.length ∨ hasC o = true then 1 else 0)
  else if o.kind = 2 then (if 0 < o.data.length ∨ hasC o = true then 1 else entsE o.ents)
  else if o.kind = 3 then (if 0 < o.data.length ∨ 0 < o.ents.length then 1 else commitE o)
  else 9
def putX (s : List UInt8) : List UInt8 := Cw.enc s.length ++ s
def dirN (b : Bool) : Nat := if b then 1 else 0
def beD (d : Int × Int) : List UInt8 := be 8 d.1 ++ be 8 d.2
def entX (e : Ent) : List UInt8 := putX e.name ++ (Cw.enc (dirN e.dir) ++ beD e.d)
/-- The encoding of an object, whatever its length. -/
def bodyO (o : Ob) : List UInt8 :=
  Cw.enc o.kind.toNat ++
    (if o.kind = 2 then Cw.enc o.ents.length ++ o.ents.flatMap entX
     else if o.kind = 3 then beD o.tree ++ (Cw.enc o.pars.length ++ (o.pars.flatMap beD ++ (putX o.author ++ (Cw.enc o.time.toNat ++ putX o.msg))))
     else putX o.data)
def encodeS (o : Ob) : List UInt8 × Int := if checkS o ≠ 0 then ([], checkS o) else if 65536 < (bodyO o).length then ([], 4) else (bodyO o, 0)

theorem beD_length (d : Int × Int) : (beD d).length = 16 := by simp [beD, be_length]
theorem checkS_kind {o : Ob} (h : checkS o = 0) : 1 ≤ o.kind ∧ o.kind ≤ 4 := by
  unfold checkS at h
  split at h
  · omega
  · split at h
    · omega
    · split at h
      · omega
      · omega
theorem entGo_name : ∀ {l : List Ent} {p : Option (List UInt8)}, entGo p l = 0 → ∀ e ∈ l, nameB e.name = true
  | [], _, _, e, he => by simp at he
  | x :: l, p, h, e, he => by
    rw [entGo] at h
    split at h
    · cases h
    · rename_i hn
      split at h
      · cases h
      · split at h
        · cases h
        · rcases List.mem_cons.1 he with rfl | he
          · simpa using hn
          · exact entGo_name h e he

end Go.Proofs.YtdedfkljaeloiaaGreatDoor

/- objectname.letter, objectname.Valid; the reference's ValidName. -/
namespace Go.Proofs.YtdedfkljaeloiaaGreatDoor
open Go.RowKit
set_option linter.unusedVariables false

set_option maxHeartbeats 1000000 in
theorem letter_any (c : UInt8) (w : World) : Calls Tryz.prog 106 #[.int .u8 (c.toNat : Int)] w fun e w' => e = .returned (.bool (letterB c)) ∧ w = w' := by
  have HB : Hid (∀ b : Bool, (b = true ↔ ((97 ≤ (c.toNat : Int) ∧ (c.toNat : Int) ≤ 122) ∨ (65 ≤ (c.toNat : Int) ∧ (c.toNat : Int) ≤ 90) ∨ (48 ≤ (c.toNat : Int) ∧ (c.toNat : Int) ≤ 57) ∨ (c.toNat : Int) = 46 ∨ (c.toNat : Int) = 95 ∨ (c.toNat : Int) = 45)) → b = letterB c) := Lib.hid (fun b hb => by
    rw [Bool.eq_iff_iff, hb]
    have e : ∀ k : UInt8, (c == k) = true ↔ (c.toNat : Int) = k.toNat := fun k => by
      rw [beq_iff_eq, ← UInt8.toNat_inj]; omega
    simp only [letterB, Bool.or_eq_true, Bool.and_eq_true, decide_eq_true_eq, e]
    simp
    omega)
  generalize (c.toNat : Int) = x at HB ⊢
  generalize letterB c = R at HB ⊢
  by_cases h1 : 97 ≤ x <;> by_cases h2 : x ≤ 122 <;> by_cases h3 : 65 ≤ x <;> by_cases h4 : x ≤ 90 <;> by_cases h5 : 48 ≤ x <;> by_cases h6 : x ≤ 57
  all_goals first
    | (exfalso; omega)
    | skip
  all_goals
    go_enter Tryz.func106, Tryz.ntmps106
    go_wp2_with fail
    all_goals
      go_ret
      exact ⟨ret_bool (HB.out _ (by first | (simp; omega) | (simp; done))), rfl⟩

theorem beq_lit (L K : List UInt8) : ((⟨L.toArray⟩ : ByteArray).toList == (⟨K.toArray⟩ : ByteArray).toList) = (L == K) := by simp
theorem all_take {L : List UInt8} {k : Nat} (h : k < L.length) (ht : (L.take k).all letterB = true) : (L.take (k + 1)).all letterB = letterB L[k] := by
  rw [List.take_succ_eq_append_getElem h, List.all_append, ht]; simp
theorem all_bad {L : List UInt8} {k : Nat} (h : k < L.length) (hb : letterB L[k] = false) : L.all letterB = false := by
  rw [List.all_eq_false]
  exact ⟨L[k], List.getElem_mem h, by simp [hb]⟩

set_option maxHeartbeats 1000000 in
theorem valid_any (L : List UInt8) (w : World) (hs : (L.length : Int) ≤ 9223372036854775807) : Calls Tryz.prog 79 #[.string ⟨L.toArray⟩] w fun e w' => e = .returned (.bool (nameB L)) ∧ w = w' := by
  obtain ⟨R, hR⟩ : ∃ R, R = nameB L := ⟨_, rfl⟩
  rw [← hR]
  unfold nameB at hR
  have HR := Lib.hid hR
  clear hR
  by_cases h1 : (L.length : Int) < 1
  · have HF : Hid (R = false) := Lib.hid (by rw [HR.out, decide_eq_false (by omega)]; rfl)
    go_enter Tryz.func79, Tryz.ntmps79
    go_wp2_with fail
    go_ret
    exact ⟨by rw [HF.out]; rfl, rfl⟩
  · by_cases h2 : (24 : Int) < L.length
    · have HF : Hid (R = false) := Lib.hid (by rw [HR.out, decide_eq_false (show ¬ L.length ≤ 24 by omega)]; simp)
      go_enter Tryz.func79, Tryz.ntmps79
      go_wp2_with fail
      go_ret
      exact ⟨by rw [HF.out]; rfl, rfl⟩
    · have d1 : decide ((L.length : Int) < 1) = false := by simp; omega
      have d2 : decide ((24 : Int) < (L.length : Int)) = false := by simp; omega
      have hl1 : 1 ≤ (L.length : Int) := by omega
      have hl2 : (L.length : Int) ≤ 24 := by omega
      cases e1 : (L == [46]) with
      | true =>
        have HF : Hid (R = false) := Lib.hid (by rw [HR.out, e1]; simp)
        clear h1 h2
        go_enter Tryz.func79, Tryz.ntmps79
        go_wp2_with fail
        go_ret
        exact ⟨by rw [HF.out]; rfl, rfl⟩
      | false =>
        cases e2 : (L == [46, 46]) with
        | true =>
          have HF : Hid (R = false) := Lib.hid (by rw [HR.out, e2]; simp)
          clear h1 h2
          go_enter Tryz.func79, Tryz.ntmps79
          go_wp2_with fail
          go_ret
          exact ⟨by rw [HF.out]; rfl, rfl⟩
        | false =>
          have HF : Hid (R = L.all letterB) := Lib.hid (by rw [HR.out, e1, e2, decide_eq_true (by omega), decide_eq_true (by omega)]; simp)
          clear h1 h2 HR
          go_enter Tryz.func79, Tryz.ntmps79
          go_wp2_with fail
          go_loop [22] (fun i => ∃ k : Nat, k ≤ L.length ∧ i = .int .i64 k ∧ Hid ((L.take k).all letterB = true)) (fun i => L.length - (intOf i).toNat)
          case atStart => exact ⟨0, by omega, rfl, Lib.hid (by simp)⟩
          case round =>
            obtain ⟨k, hk, rfl, HT⟩ := hrel
            by_cases hlt : k < L.length
            · have HC := Lib.hid (fun W => letter_any L[k] W)
              cases hb : letterB L[k] with
              | true =>
                rw [hb] at HC
                have HN : Hid ((L.take (k + 1)).all letterB = true) := Lib.hid (by rw [all_take hlt HT.out, hb])
                clear hb
                go_wp2_with fail
                refine (HC.out _).mono ?_
                rintro e w' ⟨rfl, rfl⟩
                go_wp2_with fail
                go_round
                case rel => exact ⟨k + 1, by omega, by go_num, HN⟩
                case measure => simp [intOf]; omega
              | false =>
                rw [hb] at HC
                have HN : Hid (R = false) := Lib.hid (by rw [HF.out]; exact all_bad hlt hb)
                clear hb
                go_wp2_with fail
                refine (HC.out _).mono ?_
                rintro e w' ⟨rfl, rfl⟩
                go_wp2_with fail
                go_ret
                exact ⟨by rw [HN.out]; rfl, rfl⟩
            · have HN : Hid (R = true) := Lib.hid (by rw [HF.out, ← HT.out, List.take_of_length_le (by omega)])
              go_wp2_with fail
              go_ret
              exact ⟨by rw [HN.out]; rfl, rfl⟩

end Go.Proofs.YtdedfkljaeloiaaGreatDoor

/- object.checkEntries, slices.Contains of digests, object.checkCommit, object.check. -/
namespace Go.Proofs.YtdedfkljaeloiaaGreatDoor
open Go.RowKit
set_option linter.unusedVariables false

/-- A slice of entries that lies below block B. -/
def Ents (B : Nat) (W : World) (a : Option Addr) (es : List Ent) : Prop :=
  ∀ i (h : i < es.length), ∃ b off, a = some ⟨b, off, none⟩ ∧ b < B ∧ W.cell? ⟨b, off + i * 4, none⟩ = some (.string ⟨es[i].name.toArray⟩) ∧ W.cell? ⟨b, off + i * 4 + 1, none⟩ = some (.bool es[i].dir) ∧ W.cell? ⟨b, off + i * 4 + 2, none⟩ = some (.int .u64 es[i].d.1) ∧ W.cell? ⟨b, off + i * 4 + 3, none⟩ = some (.int .u64 es[i].d.2)
theorem Ents.below {B B' : Nat} {W W' : World} {a : Option Addr} {es : List Ent} (h : Ents B W a es) (hb : Below B' W W') (hB : B ≤ B') : Ents B W' a es := by
  intro i hi
  obtain ⟨b, off, ha, hlt, h0, h1, h2, h3⟩ := h i hi
  exact ⟨b, off, ha, hlt, (hb.cell (p := ⟨b, off + i * 4, none⟩) (by simp; omega)).trans h0, (hb.cell (p := ⟨b, off + i * 4 + 1, none⟩) (by simp; omega)).trans h1, (hb.cell (p := ⟨b, off + i * 4 + 2, none⟩) (by simp; omega)).trans h2, (hb.cell (p := ⟨b, off + i * 4 + 3, none⟩) (by simp; omega)).trans h3⟩
theorem Ents.mono {B B' : Nat} {W : World} {a : Option Addr} {es : List Ent} (h : Ents B W a es) (hB : B ≤ B') : Ents B' W a es := by
  intro i hi
  obtain ⟨b, off, ha, hlt, h0⟩ := h i hi
  exact ⟨b, off, ha, by omega, h0⟩
theorem Ents.nil (B : Nat) (W : World) (a : Option Addr) : Ents B W a [] := fun i h => by simp at h

def prevN (es : List Ent) : Nat → Option (List UInt8)
  | 0 => none
  | k + 1 => (es[k]?).map (·.name)
def ER (es : List Ent) (k : Nat) : Prop := entGo none es = entGo (prevN es k) (es.drop k)
theorem ER.start (es : List Ent) : ER es 0 := rfl
theorem ER.step {es : List Ent} {k : Nat} (h : ER es k) (hk : k < es.length) : entGo none es = if nameB es[k].name = false then 6 else if prevB (prevN es k) es[k].name = true then 10 else if es[k].d = (0, 0) then 1 else entGo (prevN es (k + 1)) (es.drop (k + 1)) := by
  unfold ER at h
  have e : prevN es (k + 1) = some es[k].name := by rw [prevN, List.getElem?_eq_getElem hk]; rfl
  rw [h, List.drop_eq_getElem_cons hk, entGo, e]
theorem ER.fin {es : List Ent} {k : Nat} (h : ER es k) (hk : es.length ≤ k) : entGo none es = 0 := by
  unfold ER at h
  rw [h, List.drop_of_length_le hk]
  cases prevN es k <;> rfl

set_option maxRecDepth 100000 in
set_option maxHeartbeats 2000000 in
theorem checkEntries_any (a : Option Addr) (es : List Ent) (c : Nat) (w : World) (hes : Ents w.heap.size w a es) (hn : (es.length : Int) ≤ 9223372036854775807) (hnl : ∀ e ∈ es, (e.name.length : Int) ≤ 9223372036854775807) :
    Calls Tryz.prog 154 #[.slice a es.length c] w fun e w' => e = .returned (.int .i64 (entsE es)) ∧ Below w.heap.size w w' := by
  obtain ⟨R, hR⟩ : ∃ R, R = entsE es := ⟨_, rfl⟩
  rw [← hR]
  obtain ⟨n, hnn⟩ : ∃ n, n = es.length := ⟨_, rfl⟩
  unfold entsE at hR
  rw [← hnn] at hR hn ⊢
  have HN := Lib.hid hnn
  have HES := Lib.hid hes
  have HNL := Lib.hid hnl
  clear hnn hes hnl
  by_cases h200 : (200 : Int) < n
  · have HF : Hid (R = 4) := Lib.hid (by rw [hR, if_pos (by omega)])
    clear hR
    go_enter Tryz.func154, Tryz.ntmps154
    go_wp2_with fail
    go_ret
    exact ⟨by rw [HF.out]; rfl, Below.refl _ _⟩
  · have HF : Hid (R = entGo none es) := Lib.hid (by rw [hR, if_neg (by omega)])
    clear hR
    go_enter Tryz.func154, Tryz.ntmps154
    go_wp2_with fail
    go_loopw [10] (fun i wr => ∃ k : Nat, k ≤ n ∧ i = .int .i64 k ∧ Hid (Below w.heap.size w wr) ∧ Hid (ER es k)) (fun i _ => n - (intOf i).toNat)
    case atStart => exact ⟨0, by omega, rfl, Lib.hid (Below.refl _ _), Lib.hid (ER.start es)⟩
    case round =>
      obtain ⟨k, hk, rfl, HB, HE⟩ := hrel
      have hws := HB.out.size
      by_cases hlt : k < n
      · have h1 : k < es.length := by rw [← HN.out]; exact hlt
        obtain ⟨b0, o0, rfl, hb0, c0, c1, c2, c3⟩ := (HES.out.below HB.out (Nat.le_refl _)) k h1
        have HST := Lib.hid (HE.out.step h1)
        have hl := HNL.out _ (List.getElem_mem h1)
        generalize es[k] = en at c0 c1 c2 c3 HST hl
        obtain ⟨E, dir, d1, d2⟩ := en
        simp only at c0 c1 c2 c3 HST hl
        have HV := Lib.hid (fun W => valid_any E W hl)
        cases hv : nameB E with
        | false =>
          rw [hv] at HV
          have HR : Hid (R = 6) := Lib.hid (by rw [HF.out, HST.out, hv, if_pos rfl])
          clear hv HST HE
          go_wp2_with fail
          refine (HV.out _).mono ?_
          rintro e w' ⟨rfl, rfl⟩
          go_wp2_with fail
          go_ret
          exact ⟨by rw [HR.out]; rfl, HB.out.alloc hws _⟩
        | true =>
          rw [hv] at HV
          have HST2 : Hid (R = if prevB (prevN es k) E = true then 10 else if ((d1, d2) : Int × Int) = (0, 0) then 1 else entGo (prevN es (k + 1)) (es.drop (k + 1))) := Lib.hid (by rw [HF.out, HST.out, hv, if_neg (by simp)])
          clear hv HST HE
          have hq := fun W => eql_dig d1 d2 0 0 W
          by_cases hk0 : k = 0
          · have g0 : decide ((0 : Int) < (k : Int)) = false := by simp; omega
            have g1 : decide (0 < k) = false := by simp; omega
            have HST3 : Hid (R = if ((d1, d2) : Int × Int) = (0, 0) then 1 else entGo (prevN es (k + 1)) (es.drop (k + 1))) := Lib.hid (by rw [HST2.out, hk0]; rfl)
            clear HST2 hk0
            cases hz : (d1 == 0 && d2 == 0) with
            | true =>
              rw [hz] at hq
              have HR : Hid (R = 1) := Lib.hid (by
                rw [HST3.out, if_pos]
                simp only [Bool.and_eq_true, beq_iff_eq] at hz
                rw [hz.1, hz.2])
              clear hz HST3
              go_wp2_with fail
              refine (HV.out _).mono ?_
              rintro e w' ⟨rfl, rfl⟩
              go_wp2_with fail
              go_quiet (fail)
              go_wp2_with fail
              go_ret
              exact ⟨by rw [HR.out]; rfl, below_drewN (HB.out.alloc hws _) _⟩
            | false =>
              rw [hz] at hq
              have HR : Hid (ER es (k + 1)) := Lib.hid (by
                unfold ER
                rw [← HF.out, HST3.out, if_neg]
                intro h
                simp only [Prod.mk.injEq] at h
                simp [h.1, h.2] at hz)
              clear hz HST3
              go_wp2_with fail
              refine (HV.out _).mono ?_
              rintro e w' ⟨rfl, rfl⟩
              go_wp2_with fail
              go_quiet (fail)
              go_wp2_with fail
              go_roundw
              case rel => exact ⟨k + 1, by omega, by go_num, Lib.hid (below_drewN (HB.out.alloc hws _) _), HR⟩
              case measure => simp [intOf]; omega
          · have g0 : decide ((0 : Int) < (k : Int)) = true := by simp; omega
            have g1 : decide (0 < k) = true := by simp; omega
            obtain ⟨j, hj⟩ : ∃ j, k = j + 1 := ⟨k - 1, by omega⟩
            have hj1 : j < es.length := by omega
            obtain ⟨b1, o1, hbe, hb1, q0, _, _, _⟩ := (HES.out.below HB.out (Nat.le_refl _)) j hj1
            cases hbe
            have hjk : (k : Int) - 1 = (j : Int) := by omega
            have hjw : IntKind.i64.wrap ((k : Int) - 1) = (j : Int) := by rw [hjk]; exact wrap_i64 (by omega) (by omega)
            have hjb : (j : Int) < (n : Int) := by omega
            have HPV : Hid (prevN es k = some es[j].name) := Lib.hid (by rw [hj, prevN, List.getElem?_eq_getElem hj1]; rfl)
            generalize es[j].name = Q at q0 HPV
            have q0' := fun x => cell_a1 q0 x
            cases hb1 : Op.bytesLess E Q with
            | true =>
                have HR : Hid (R = 10) := Lib.hid (by rw [HST2.out, HPV.out, if_pos]; simp [prevB, leB, hb1])
                clear HST2 HPV hj hjk
                go_wp2_with fail
                refine (HV.out _).mono ?_
                rintro e w' ⟨rfl, rfl⟩
                go_wp2_with fail
                go_quiet (fail)
                go_wp2_with fail
                go_ret
                exact ⟨by rw [HR.out]; rfl, below_drewN (HB.out.alloc hws _) _⟩
            | false =>
              cases hb2 : (E == Q) with
              | true =>
                have HR : Hid (R = 10) := Lib.hid (by rw [HST2.out, HPV.out, if_pos]; simp [prevB, leB, hb1, hb2])
                clear HST2 HPV hj hjk
                go_wp2_with fail
                refine (HV.out _).mono ?_
                rintro e w' ⟨rfl, rfl⟩
                go_wp2_with fail
                go_quiet (fail)
                go_wp2_with fail
                go_ret
                exact ⟨by rw [HR.out]; rfl, below_drewN (HB.out.alloc hws _) _⟩
              | false =>
                have HST3 : Hid (R = if ((d1, d2) : Int × Int) = (0, 0) then 1 else entGo (prevN es (k + 1)) (es.drop (k + 1))) := Lib.hid (by rw [HST2.out, HPV.out, if_neg]; simp [prevB, leB, hb1, hb2])
                clear HST2 HPV hj hjk
                cases hz : (d1 == 0 && d2 == 0) with
                | true =>
                  rw [hz] at hq
                  have HR : Hid (R = 1) := Lib.hid (by
                    rw [HST3.out, if_pos]
                    simp only [Bool.and_eq_true, beq_iff_eq] at hz
                    rw [hz.1, hz.2])
                  clear hz HST3
                  go_wp2_with fail
                  refine (HV.out _).mono ?_
                  rintro e w' ⟨rfl, rfl⟩
                  go_wp2_with fail
                  go_quiet (fail)
                  go_wp2_with fail
                  go_ret
                  exact ⟨by rw [HR.out]; rfl, below_drewN (HB.out.alloc hws _) _⟩
                | false =>
                  rw [hz] at hq
                  have HR : Hid (ER es (k + 1)) := Lib.hid (by
                    unfold ER
                    rw [← HF.out, HST3.out, if_neg]
                    intro h
                    simp only [Prod.mk.injEq] at h
                    simp [h.1, h.2] at hz)
                  clear hz HST3
                  go_wp2_with fail
                  refine (HV.out _).mono ?_
                  rintro e w' ⟨rfl, rfl⟩
                  go_wp2_with fail
                  go_quiet (fail)
                  go_wp2_with fail
                  go_roundw
                  case rel => exact ⟨k + 1, by omega, by go_num, Lib.hid (below_drewN (HB.out.alloc hws _) _), HR⟩
                  case measure => simp [intOf]; omega
      · have HR : Hid (R = 0) := Lib.hid (by rw [HF.out]; exact HE.out.fin (by rw [← HN.out]; omega))
        go_wp2_with fail
        go_ret
        exact ⟨by rw [HR.out]; rfl, HB.out⟩

end Go.Proofs.YtdedfkljaeloiaaGreatDoor

/- slices.Contains of digests, object.checkCommit. -/
namespace Go.Proofs.YtdedfkljaeloiaaGreatDoor
open Go.RowKit
set_option linter.unusedVariables false

/-- The first place of a digest, or -1. -/
def idxD (ds : List (Int × Int)) (d : Int × Int) : Int := if d ∈ ds then ds.idxOf d else -1
theorem idxD_hit {ds : List (Int × Int)} {d : Int × Int} {k : Nat} (h : k < ds.length) (hd : ds[k] = d) (hn : d ∉ ds.take k) : idxD ds d = k := by
  have hm : d ∈ ds := by rw [← hd]; exact List.getElem_mem h
  unfold idxD
  rw [if_pos hm]
  congr 1
  have e : ds = ds.take k ++ (d :: ds.drop (k + 1)) := by rw [← hd, List.getElem_cons_drop, List.take_append_drop]
  rw [e, List.idxOf_append, if_neg hn, List.idxOf_cons_self, List.length_take]
  omega
theorem idxD_miss {ds : List (Int × Int)} {d : Int × Int} (h : d ∉ ds) : idxD ds d = -1 := if_neg h
theorem mem_take_succ {ds : List (Int × Int)} {d : Int × Int} {k : Nat} (h : k < ds.length) (hn : d ∉ ds.take k) (hd : ds[k] ≠ d) : d ∉ ds.take (k + 1) := by
  rw [List.take_succ_eq_append_getElem h, List.mem_append, List.mem_singleton]
  rintro (h1 | h1)
  · exact hn h1
  · exact hd h1.symm

set_option maxRecDepth 100000 in
set_option maxHeartbeats 1000000 in
theorem indexD_any (a : Option Addr) (ds : List (Int × Int)) (c : Nat) (x y : Int) (w : World) (hds : Digs w.heap.size w a ds) (hn : (ds.length : Int) ≤ 9223372036854775807) :
    Calls Tryz.prog 192 #[.slice a ds.length c, .agg #[.int .u64 x, .int .u64 y]] w fun e w' => e = .returned (.int .i64 (idxD ds (x, y))) ∧ Below w.heap.size w w' := by
  obtain ⟨R, hR⟩ : ∃ R, R = idxD ds (x, y) := ⟨_, rfl⟩
  rw [← hR]
  obtain ⟨n, hnn⟩ : ∃ n, n = ds.length := ⟨_, rfl⟩
  rw [← hnn] at hn ⊢
  have HR := Lib.hid hR
  have HN := Lib.hid hnn
  have HD := Lib.hid hds
  clear hnn hR hds
  go_enter Tryz.func192, Tryz.ntmps192
  go_wp2_with fail
  go_loopw [8] (fun i wr => ∃ k q : Nat, k ≤ n ∧ i = .int .i64 k ∧ wr = (w.alloc (.cells #[.int .u64 x, .int .u64 y] 35)).drewN q ∧ Hid ((x, y) ∉ ds.take k)) (fun i _ => n - (intOf i).toNat)
  case atStart => exact ⟨0, 0, by omega, rfl, rfl, Lib.hid (by simp)⟩
  case round =>
    obtain ⟨k, q, hk, rfl, rfl, HT⟩ := hrel
    by_cases hlt : k < n
    · have h1 : k < ds.length := by rw [← HN.out]; exact hlt
      obtain ⟨b1, o1, rfl, hb1, c1, c2⟩ := HD.out k h1
      have c1' := fun z => cell_a1 c1 z
      have c2' := fun z => cell_a1 c2 z
      have HH := Lib.hid (fun (h : ds[k] = (x, y)) => idxD_hit h1 h HT.out)
      have HM := Lib.hid (fun (h : ds[k] ≠ (x, y)) => mem_take_succ h1 HT.out h)
      generalize ds[k] = dk at c1 c2 c1' c2' HH HM
      obtain ⟨u, v⟩ := dk
      simp only at c1 c2 c1' c2'
      have hq := fun W => eql_dig x y u v W
      cases hz : (x == u && y == v) with
      | true =>
        rw [hz] at hq
        have HF : Hid (R = k) := Lib.hid (by
          simp only [Bool.and_eq_true, beq_iff_eq] at hz
          rw [HR.out]
          exact HH.out (by rw [hz.1, hz.2]))
        clear hz HH HM HT
        go_wp2_with fail
        go_quiet (fail)
        go_wp2_with fail
        go_ret
        exact ⟨by rw [HF.out]; rfl, below_drewN (below_drewN ((Below.refl _ w).alloc (Nat.le_refl _) _) _) _⟩
      | false =>
        rw [hz] at hq
        have HF : Hid ((x, y) ∉ ds.take (k + 1)) := Lib.hid (HM.out (by
          intro h
          simp only [Prod.mk.injEq] at h
          simp [h.1, h.2] at hz))
        clear hz HH HM HT
        go_wp2_with fail
        go_quiet (fail)
        go_wp2_with fail
        go_roundw
        case rel => exact ⟨k + 1, _, by omega, by go_num, by first | rfl | (simp only [World.drewN_drewN]; rfl), HF⟩
        case measure => simp [intOf]; omega
    · have HF : Hid (R = -1) := Lib.hid (by
        rw [HR.out]
        apply idxD_miss
        have := HT.out
        rwa [List.take_of_length_le (by rw [← HN.out]; omega)] at this)
      go_wp2_with fail
      go_ret
      exact ⟨by rw [HF.out]; rfl, below_drewN ((Below.refl _ w).alloc (Nat.le_refl _) _) _⟩

theorem containsD_any (a : Option Addr) (ds : List (Int × Int)) (c : Nat) (x y : Int) (w : World) (hds : Digs w.heap.size w a ds) (hn : (ds.length : Int) ≤ 9223372036854775807) :
    Calls Tryz.prog 179 #[.slice a ds.length c, .agg #[.int .u64 x, .int .u64 y]] w fun e w' => e = .returned (.bool (decide ((x, y) ∈ ds))) ∧ Below w.heap.size w w' := by
  obtain ⟨R, hR⟩ : ∃ R, R = decide ((x, y) ∈ ds) := ⟨_, rfl⟩
  rw [← hR]
  have HI : Hid (∀ W, Below w.heap.size w W → Calls Tryz.prog 192 #[.slice a ds.length c, .agg #[.int .u64 x, .int .u64 y]] W fun e w' => e = .returned (.int .i64 (idxD ds (x, y))) ∧ Below W.heap.size W w') := Lib.hid (fun W hW => indexD_any a ds c x y W ((hds.below hW (Nat.le_refl _)).mono hW.size) hn)
  have hd : decide (0 ≤ idxD ds (x, y)) = R := by
    rw [hR]
    unfold idxD
    by_cases h : (x, y) ∈ ds
    · rw [if_pos h]; simp [h]
    · rw [if_neg h]; simp [h]
  generalize idxD ds (x, y) = r at HI hd
  generalize ds.length = n at HI hn ⊢
  clear hR hds
  have HD := Lib.hid hd
  clear hd
  go_enter Tryz.func179, Tryz.ntmps179
  go_wp2_with fail
  refine (HI.out _ ((Below.refl _ w).alloc (Nat.le_refl _) _)).mono ?_
  rintro e w' ⟨rfl, hb⟩
  have HB := Lib.hid hb
  clear hb
  go_wp2_with fail
  go_ret
  exact ⟨by rw [← HD.out]; rfl, ((Below.refl _ w).alloc (Nat.le_refl _) _).trans (HB.out.mono (by simp))⟩

theorem size_dig (W : World) : (sizeOf (Tryz.prog.elem 98)).run Tryz.prog W = .ok 2 W := by
  obtain ⟨i, h1, _, h3, _⟩ := info_parts infoDig
  rw [show Tryz.prog.elem 98 = 35 by kernel_rfl]
  simp [sizeOf, typeInfo, h1, h3]
theorem dtake {B : Nat} {W : World} {a : Option Addr} {ds : List (Int × Int)} (h : Digs B W a ds) (f : Nat) : Digs B W a (ds.take f) := by
  intro i hi
  have hi' : i < ds.length := by simp at hi; omega
  obtain ⟨b, off, ha, hlt, h0⟩ := h i hi'
  refine ⟨b, off, ha, hlt, ?_⟩
  rw [List.getElem_take]
  exact h0
theorem dadd0 {B : Nat} {W : World} {a : Option Addr} {ds : List (Int × Int)} (h : Digs B W a ds) : Digs B W (a.map (·.add (0 * 2))) ds := by
  intro i hi
  obtain ⟨b, off, rfl, hlt, h0⟩ := h i hi
  exact ⟨b, off, by simp [Go.WideShapes.add_plain], hlt, h0⟩
theorem dslice_hi (a : Option Addr) (n c f : Nat) (h : f ≤ c) : ∃ (A1 : Option Addr) (c1 : Nat), (∀ B W ds, Digs B W a ds → Digs B W A1 (ds.take f)) ∧ ∀ W, (Instr.slice 98 (.slice a n c) none (some (.int .i64 f)) none).run Tryz.prog W = .ok (.slice A1 f c1) W := by
  refine ⟨if c = 0 then a else a.map (·.add (0 * 2)), c, fun B W ps hp => ?_, fun W => ?_⟩
  · split
    · exact dtake hp f
    · exact dadd0 (dtake hp f)
  · rw [run_slice_h (P := Tryz.prog) W 98 a n c (by kernel_rfl) .i64 f (by omega) (by omega), size_dig]
    simp [sliced, Result.andThen]

/-- The value of an object whose lists lie at two addresses. -/
abbrev Ob.val (o : Ob) (ea : Option Addr) (ec : Nat) (pa : Option Addr) (pc : Nat) : Value :=
  .agg #[.int .i64 o.kind, .string ⟨o.data.toArray⟩, .slice ea o.ents.length ec, .int .u64 o.tree.1, .int .u64 o.tree.2, .slice pa o.pars.length pc, .string ⟨o.author.toArray⟩, .int .i64 o.time, .string ⟨o.msg.toArray⟩]

def PR (ds : List (Int × Int)) (k : Nat) : Prop := parGo [] ds = parGo (ds.take k) (ds.drop k)
theorem PR.start (ds : List (Int × Int)) : PR ds 0 := by unfold PR; simp
theorem PR.step {ds : List (Int × Int)} {k : Nat} (h : PR ds k) (hk : k < ds.length) : parGo [] ds = if ds[k] = (0, 0) then 1 else if ds[k] ∈ ds.take k then 7 else parGo (ds.take (k + 1)) (ds.drop (k + 1)) := by
  unfold PR at h
  rw [h, List.drop_eq_getElem_cons hk, parGo, List.take_succ_eq_append_getElem hk]
theorem PR.fin {ds : List (Int × Int)} {k : Nat} (h : PR ds k) (hk : ds.length ≤ k) : parGo [] ds = 0 := by
  unfold PR at h
  rw [h, List.drop_of_length_le hk]
  rfl

end Go.Proofs.YtdedfkljaeloiaaGreatDoor

/- object.checkCommit. -/
namespace Go.Proofs.YtdedfkljaeloiaaGreatDoor
open Go.RowKit
set_option linter.unusedVariables false

set_option maxRecDepth 100000 in
set_option maxHeartbeats 2000000 in
theorem checkCommit_any (o : Ob) (ea : Option Addr) (ec : Nat) (pa : Option Addr) (pc : Nat) (w : World) (hd : Digs w.heap.size w pa o.pars) (hpc : o.pars.length ≤ pc) (hn : (o.pars.length : Int) ≤ 9223372036854775807) (hau : (o.author.length : Int) ≤ 9223372036854775807) (hms : (o.msg.length : Int) ≤ 9223372036854775807) :
    Calls Tryz.prog 155 #[o.val ea ec pa pc] w fun e w' => e = .returned (.int .i64 (commitE o)) ∧ Below w.heap.size w w' := by
  obtain ⟨R, hR⟩ : ∃ R, R = commitE o := ⟨_, rfl⟩
  rw [← hR]
  unfold commitE at hR
  obtain ⟨kind, data, ents, ⟨t1, t2⟩, pars, author, time, msg⟩ := o
  simp only at hd hpc hn hau hms hR
  change Calls Tryz.prog 155 #[.agg #[.int .i64 kind, .string ⟨data.toArray⟩, .slice ea ents.length ec, .int .u64 t1, .int .u64 t2, .slice pa pars.length pc, .string ⟨author.toArray⟩, .int .i64 time, .string ⟨msg.toArray⟩]] w _
  generalize ents.length = ne
  obtain ⟨n, hnn⟩ : ∃ n, n = pars.length := ⟨_, rfl⟩
  rw [← hnn] at hpc hn hR ⊢
  have HN := Lib.hid hnn
  have HD := Lib.hid hd
  clear hnn hd
  have hq := fun W => eql_dig t1 t2 0 0 W
  cases hz : (t1 == 0 && t2 == 0) with
  | true =>
    rw [hz] at hq
    have HR : Hid (R = 1) := Lib.hid (by
      simp only [Bool.and_eq_true, beq_iff_eq] at hz
      rw [hR, hz.1, hz.2, if_pos rfl])
    clear hz hR
    go_enter Tryz.func155, Tryz.ntmps155
    go_wp2_with fail
    go_ret
    exact ⟨by rw [HR.out]; rfl, (Below.refl _ w).alloc (Nat.le_refl _) _⟩
  | false =>
    rw [hz] at hq
    rw [if_neg (by
      intro h
      simp only [Prod.mk.injEq] at h
      simp [h.1, h.2] at hz)] at hR
    clear hz
    by_cases h8 : (8 : Int) < n
    · have HR : Hid (R = 4) := Lib.hid (by rw [hR, if_pos (by omega)])
      clear hR
      go_enter Tryz.func155, Tryz.ntmps155
      go_wp2_with fail
      go_ret
      exact ⟨by rw [HR.out]; rfl, (Below.refl _ w).alloc (Nat.le_refl _) _⟩
    · rw [if_neg (by omega)] at hR
      have HR := Lib.hid hR
      clear hR
      have hVA := Lib.hid (fun W => valid_any author W hau)
      go_enter Tryz.func155, Tryz.ntmps155
      go_wp2_with fail
      go_loopw [16] (fun i wr => ∃ k : Nat, k ≤ n ∧ i = .int .i64 k ∧ Hid (Below w.heap.size w wr) ∧ Hid (PR pars k) ∧ w.heap.size < wr.heap.size ∧ Hid (wr.heap[w.heap.size]? = some (.cells #[.int .i64 kind, .string ⟨data.toArray⟩, .slice ea ne ec, .int .u64 t1, .int .u64 t2, .slice pa n pc, .string ⟨author.toArray⟩, .int .i64 time, .string ⟨msg.toArray⟩] 100 (0, 0)))) (fun i _ => n - (intOf i).toNat)
      case atStart => exact ⟨0, by omega, rfl, Lib.hid ((Below.refl _ w).alloc (Nat.le_refl _) _), Lib.hid (PR.start pars), by simp, Lib.hid (World.alloc_heap_new w _)⟩
      case round =>
        obtain ⟨k, hk, rfl, HB, HP, hws, HX⟩ := hrel
        by_cases hlt : k < n
        · have h1 : k < pars.length := by rw [← HN.out]; exact hlt
          obtain ⟨b0, o0, hpa, hb0, c0, c1⟩ := (HD.out.below HB.out (Nat.le_refl _)) k h1
          subst hpa
          have HST := Lib.hid (HP.out.step h1)
          obtain ⟨A1, cc1, hA1, hsl⟩ := dslice_hi (some ⟨b0, o0, none⟩) n pc k (by omega)
          have HCN : Hid (∀ x y W, Below wr.heap.size wr W → Calls Tryz.prog 179 #[.slice A1 k cc1, .agg #[.int .u64 x, .int .u64 y]] W fun e w' => e = .returned (.bool (decide ((x, y) ∈ pars.take k))) ∧ Below W.heap.size W w') := Lib.hid (fun x y W hW => by
            have h2 := hA1 _ _ _ (HD.out.below HB.out (Nat.le_refl _))
            have h3 := containsD_any A1 (pars.take k) cc1 x y W (((h2.mono HB.out.size).below hW (Nat.le_refl _)).mono hW.size) (by rw [List.length_take]; omega)
            rwa [List.length_take, Nat.min_eq_left (by omega)] at h3)
          generalize pars[k] = dk at c0 c1 HST
          obtain ⟨x, y⟩ := dk
          simp only at c0 c1
          have hqq := fun W => eql_dig x y 0 0 W
          have e5 : wr.cell? ⟨w.heap.size, 5, none⟩ = some (.slice (some ⟨b0, o0, none⟩) n pc) := by rw [Lib.cell_of_heap HX.out]; rfl
          cases hz : (x == 0 && y == 0) with
          | true =>
            rw [hz] at hqq
            have HRR : Hid (R = 1) := Lib.hid (by
              simp only [Bool.and_eq_true, beq_iff_eq] at hz
              have : parGo [] pars = 1 := by rw [HST.out, hz.1, hz.2, if_pos rfl]
              rw [HR.out, this, if_pos (by decide)])
            clear hz HST hA1
            go_wp2_with fail
            go_ret
            exact ⟨by rw [HRR.out]; rfl, HB.out.alloc (by omega) _⟩
          | false =>
            rw [hz] at hqq
            have HST2 : Hid (parGo [] pars = if (x, y) ∈ pars.take k then 7 else parGo (pars.take (k + 1)) (pars.drop (k + 1))) := Lib.hid (by
              rw [HST.out, if_neg (by
                intro h
                simp only [Prod.mk.injEq] at h
                simp [h.1, h.2] at hz)])
            clear hz HST hA1
            have HC2 := Lib.hid (HCN.out x y)
            clear HCN
            cases hm : decide ((x, y) ∈ pars.take k) with
            | true =>
              have HRR : Hid (R = 7) := Lib.hid (by
                have : parGo [] pars = 7 := by rw [HST2.out, if_pos (by simpa using hm)]
                rw [HR.out, this, if_pos (by decide)])
              have HC3 : Hid (∀ W, Below wr.heap.size wr W → Calls Tryz.prog 179 #[.slice A1 k cc1, .agg #[.int .u64 x, .int .u64 y]] W fun e w' => e = .returned (.bool true) ∧ Below W.heap.size W w') := Lib.hid (by
                have := HC2.out
                rwa [hm] at this)
              clear hm HC2 HST2
              go_wp2_with fail
              have HW9 : Hid (Below wr.heap.size wr (wr.alloc (.cells #[.int .u64 x, .int .u64 y] 35))) := Lib.hid ((Below.refl _ wr).alloc (Nat.le_refl _) _)
              have g0 : (wr.alloc (.cells #[.int .u64 x, .int .u64 y] 35)).cell? ⟨wr.heap.size, 0, none⟩ = some (.int .u64 x) := by simp
              have g1 : (wr.alloc (.cells #[.int .u64 x, .int .u64 y] 35)).cell? ⟨wr.heap.size, 1, none⟩ = some (.int .u64 y) := by simp
              have g5 := cell_a1 e5 (.cells #[.int .u64 x, .int .u64 y] 35)
              have HXA : Hid ((wr.alloc (.cells #[.int .u64 x, .int .u64 y] 35)).heap[w.heap.size]? = some (.cells #[.int .i64 kind, .string ⟨data.toArray⟩, .slice ea ne ec, .int .u64 t1, .int .u64 t2, .slice (some ⟨b0, o0, none⟩) n pc, .string ⟨author.toArray⟩, .int .i64 time, .string ⟨msg.toArray⟩] 100 (0, 0))) := Lib.hid ((Below.heap_alloc _ _ _ hws).trans HX.out)
              generalize wr.alloc (.cells #[.int .u64 x, .int .u64 y] 35) = x9 at HW9 g0 g1 g5 HXA ⊢
              have f0 := cell_regrown g0
              have f1 := cell_regrown g1
              have f5 := cell_regrown g5
              have HA := Lib.hid (fun d os => Calls.regrown_of (w := x9) (d := d) (os := os) (HC3.out _ (HW9.out.trans ((below_regrown x9 d os).mono HW9.out.size))))
              refine wp_region_quiet_below (by kernel_rfl) (by kernel_rfl) ?_
              repeat (any_goals (first | go_big_quiet_step (with_reducible exact HA.out _ _) | quiet_step (with_reducible exact HA.out _ _)))
              refine wpQuiet_nil ?_
              intro w2 hw2
              have HB2 : Hid (Below w.heap.size w w2) := Lib.hid ((HB.out.trans (HW9.out.mono HB.out.size)).trans ((below_rg hw2).mono (Nat.le_trans HB.out.size HW9.out.size)))
              have HX2 := Lib.hid (((below_rg hw2).block w.heap.size (Nat.lt_of_lt_of_le hws HW9.out.size)).trans HXA.out)
              have hw2s : w.heap.size < w2.heap.size := Nat.lt_of_lt_of_le hws (Nat.le_trans HW9.out.size (below_rg hw2).size)
              clear hw2 HA f0 f1 f5 g0 g1 g5 HC3 HXA
              go_wp2_with fail
              go_ret
              exact ⟨by rw [HRR.out]; rfl, HB2.out⟩
            | false =>
              have HRR : Hid (PR pars (k + 1)) := Lib.hid (by
                unfold PR
                rw [HST2.out, if_neg (by simpa using hm)])
              have HC3 : Hid (∀ W, Below wr.heap.size wr W → Calls Tryz.prog 179 #[.slice A1 k cc1, .agg #[.int .u64 x, .int .u64 y]] W fun e w' => e = .returned (.bool false) ∧ Below W.heap.size W w') := Lib.hid (by
                have := HC2.out
                rwa [hm] at this)
              clear hm HC2 HST2
              go_wp2_with fail
              have HW9 : Hid (Below wr.heap.size wr (wr.alloc (.cells #[.int .u64 x, .int .u64 y] 35))) := Lib.hid ((Below.refl _ wr).alloc (Nat.le_refl _) _)
              have g0 : (wr.alloc (.cells #[.int .u64 x, .int .u64 y] 35)).cell? ⟨wr.heap.size, 0, none⟩ = some (.int .u64 x) := by simp
              have g1 : (wr.alloc (.cells #[.int .u64 x, .int .u64 y] 35)).cell? ⟨wr.heap.size, 1, none⟩ = some (.int .u64 y) := by simp
              have g5 := cell_a1 e5 (.cells #[.int .u64 x, .int .u64 y] 35)
              have HXA : Hid ((wr.alloc (.cells #[.int .u64 x, .int .u64 y] 35)).heap[w.heap.size]? = some (.cells #[.int .i64 kind, .string ⟨data.toArray⟩, .slice ea ne ec, .int .u64 t1, .int .u64 t2, .slice (some ⟨b0, o0, none⟩) n pc, .string ⟨author.toArray⟩, .int .i64 time, .string ⟨msg.toArray⟩] 100 (0, 0))) := Lib.hid ((Below.heap_alloc _ _ _ hws).trans HX.out)
              generalize wr.alloc (.cells #[.int .u64 x, .int .u64 y] 35) = x9 at HW9 g0 g1 g5 HXA ⊢
              have f0 := cell_regrown g0
              have f1 := cell_regrown g1
              have f5 := cell_regrown g5
              have HA := Lib.hid (fun d os => Calls.regrown_of (w := x9) (d := d) (os := os) (HC3.out _ (HW9.out.trans ((below_regrown x9 d os).mono HW9.out.size))))
              refine wp_region_quiet_below (by kernel_rfl) (by kernel_rfl) ?_
              repeat (any_goals (first | go_big_quiet_step (with_reducible exact HA.out _ _) | quiet_step (with_reducible exact HA.out _ _)))
              refine wpQuiet_nil ?_
              intro w2 hw2
              have HB2 : Hid (Below w.heap.size w w2) := Lib.hid ((HB.out.trans (HW9.out.mono HB.out.size)).trans ((below_rg hw2).mono (Nat.le_trans HB.out.size HW9.out.size)))
              have HX2 := Lib.hid (((below_rg hw2).block w.heap.size (Nat.lt_of_lt_of_le hws HW9.out.size)).trans HXA.out)
              have hw2s : w.heap.size < w2.heap.size := Nat.lt_of_lt_of_le hws (Nat.le_trans HW9.out.size (below_rg hw2).size)
              clear hw2 HA f0 f1 f5 g0 g1 g5 HC3 HXA
              go_wp2_with fail
              go_roundw
              case rel => exact ⟨k + 1, by omega, by go_num, HB2, HRR, hw2s, HX2⟩
              case measure => simp [intOf]; omega
        · have HP0 := Lib.hid (HP.out.fin (by rw [← HN.out]; omega))
          have HR2 : Hid (R = if nameB author = false then 6 else if time < 0 ∨ 1099511627776 < time then 2 else if 200 < msg.length then 4 else 0) := Lib.hid (by rw [HR.out, HP0.out, if_neg (by simp)])
          have e6 : wr.cell? ⟨w.heap.size, 6, none⟩ = some (.string ⟨author.toArray⟩) := by rw [Lib.cell_of_heap HX.out]; rfl
          have e7 : wr.cell? ⟨w.heap.size, 7, none⟩ = some (.int .i64 time) := by rw [Lib.cell_of_heap HX.out]; rfl
          have e8 : wr.cell? ⟨w.heap.size, 8, none⟩ = some (.string ⟨msg.toArray⟩) := by rw [Lib.cell_of_heap HX.out]; rfl
          clear HR HP0 HP
          cases hv : nameB author with
          | false =>
            rw [hv] at hVA
            have HRR : Hid (R = 6) := Lib.hid (by rw [HR2.out, hv, if_pos rfl])
            clear hv HR2
            go_wp2_with fail
            refine (hVA.out _).mono ?_
            rintro e w' ⟨rfl, rfl⟩
            go_wp2_with fail
            go_ret
            exact ⟨by rw [HRR.out]; rfl, HB.out⟩
          | true =>
            rw [hv] at hVA
            have HR3 : Hid (R = if time < 0 ∨ 1099511627776 < time then 2 else if 200 < msg.length then 4 else 0) := Lib.hid (by rw [HR2.out, hv, if_neg (by simp)])
            clear hv HR2
            by_cases ht : time < 0 ∨ 1099511627776 < time
            · have HRR : Hid (R = 2) := Lib.hid (by rw [HR3.out, if_pos ht])
              clear HR3
              go_wp2_with fail
              refine (hVA.out _).mono ?_
              rintro e w' ⟨rfl, rfl⟩
              go_wp2_with fail
              all_goals first
                | (exfalso; omega)
                | (go_ret; exact ⟨by rw [HRR.out]; rfl, HB.out⟩)
            · have HR4 : Hid (R = if 200 < msg.length then 4 else 0) := Lib.hid (by rw [HR3.out, if_neg ht])
              have t1' : decide (time < 0) = false := by simp; omega
              have t2' : decide (1099511627776 < time) = false := by simp; omega
              clear HR3 ht
              by_cases hm : (200 : Int) < msg.length
              · have HRR : Hid (R = 4) := Lib.hid (by rw [HR4.out, if_pos (by omega)])
                clear HR4
                go_wp2_with fail
                refine (hVA.out _).mono ?_
                rintro e w' ⟨rfl, rfl⟩
                go_wp2_with fail
                go_ret
                exact ⟨by rw [HRR.out]; rfl, HB.out⟩
              · have HRR : Hid (R = 0) := Lib.hid (by rw [HR4.out, if_neg (by omega)])
                clear HR4
                go_wp2_with fail
                refine (hVA.out _).mono ?_
                rintro e w' ⟨rfl, rfl⟩
                go_wp2_with fail
                go_ret
                exact ⟨by rw [HRR.out]; rfl, HB.out⟩

end Go.Proofs.YtdedfkljaeloiaaGreatDoor

/- object.check. -/
namespace Go.Proofs.YtdedfkljaeloiaaGreatDoor
open Go.RowKit
set_option linter.unusedVariables false

theorem neq_dig0 (x y : Int) (W : World) : (binOp .neq 35 (.agg #[.int .u64 x, .int .u64 y]) (.agg #[.int .u64 0, .int .u64 0])).run Tryz.prog W = .ok (.bool (!(x == 0 && y == 0))) W := neq_dig x y 0 0 W
theorem hasC_is (o : Ob) : hasC o = (!(o.tree.1 == 0 && o.tree.2 == 0) || decide (0 < o.pars.length) || !(o.author == []) || !(o.time == 0) || !(o.msg == [])) := by
  obtain ⟨kind, data, ents, ⟨t1, t2⟩, pars, author, time, msg⟩ := o
  unfold hasC
  have e1 : decide (((t1, t2) : Int × Int) = (0, 0)) = (t1 == 0 && t2 == 0) := by
    rw [Bool.eq_iff_iff]; simp
  have e2 : ∀ l : List UInt8, decide (0 < l.length) = !(l == []) := fun l => by cases l <;> simp
  have e3 : decide (time = 0) = (time == 0) := by rw [Bool.eq_iff_iff]; simp
  simp only [e1, e2, e3]

set_option maxRecDepth 100000 in
set_option maxHeartbeats 4000000 in
theorem check_any (o : Ob) (ea : Option Addr) (ec : Nat) (pa : Option Addr) (pc : Nat) (w : World) (he : Ents w.heap.size w ea o.ents) (hd : Digs w.heap.size w pa o.pars) (hpc : o.pars.length ≤ pc) (hen : (o.ents.length : Int) ≤ 9223372036854775807) (hen2 : ∀ e ∈ o.ents, (e.name.length : Int) ≤ 9223372036854775807) (hn : (o.pars.length : Int) ≤ 9223372036854775807) (hda : (o.data.length : Int) ≤ 9223372036854775807) (hau : (o.author.length : Int) ≤ 9223372036854775807) (hms : (o.msg.length : Int) ≤ 9223372036854775807) :
    Calls Tryz.prog 107 #[o.val ea ec pa pc] w fun e w' => e = .returned (.int .i64 (checkS o)) ∧ Below w.heap.size w w' := by
  have HE : Hid (∀ W, Below w.heap.size w W → Calls Tryz.prog 154 #[.slice ea o.ents.length ec] W fun e w' => e = .returned (.int .i64 (entsE o.ents)) ∧ Below W.heap.size W w') := Lib.hid (fun W hW => checkEntries_any ea o.ents ec W ((he.below hW (Nat.le_refl _)).mono hW.size) hen hen2)
  have HC : Hid (∀ W, Below w.heap.size w W → Calls Tryz.prog 155 #[o.val ea ec pa pc] W fun e w' => e = .returned (.int .i64 (commitE o)) ∧ Below W.heap.size W w') := Lib.hid (fun W hW => checkCommit_any o ea ec pa pc W ((hd.below hW (Nat.le_refl _)).mono hW.size) hpc hn hau hms)
  obtain ⟨R, hR⟩ : ∃ R, R = checkS o := ⟨_, rfl⟩
  rw [← hR]
  obtain ⟨bc, hbc⟩ : ∃ bc, bc = hasC o := ⟨_, rfl⟩
  have hR2 : R = if o.kind = 1 ∨ o.kind = 4 then (if 0 < o.ents.length ∨ bc = true then 1 else 0) else if o.kind = 2 then (if 0 < o.data.length ∨ bc = true then 1 else entsE o.ents) else if o.kind = 3 then (if 0 < o.data.length ∨ 0 < o.ents.length then 1 else commitE o) else 9 := by rw [hR, hbc]; rfl
  rw [hasC_is] at hbc
  have e2 : (0 < o.data.length) = ((!(o.data == [])) = true) := by cases o.data <;> simp
  simp only [e2] at hR2
  generalize entsE o.ents = re at HE hR2
  generalize commitE o = rc at HC hR2
  obtain ⟨kind, data, ents, ⟨t1, t2⟩, pars, author, time, msg⟩ := o
  simp only at hpc hen hn hda hau hms HE hR2 hbc
  change Hid (∀ W, Below w.heap.size w W → Calls Tryz.prog 155 #[.agg #[.int .i64 kind, .string ⟨data.toArray⟩, .slice ea ents.length ec, .int .u64 t1, .int .u64 t2, .slice pa pars.length pc, .string ⟨author.toArray⟩, .int .i64 time, .string ⟨msg.toArray⟩]] W fun e w' => e = .returned (.int .i64 rc) ∧ Below W.heap.size W w') at HC
  change Calls Tryz.prog 107 #[.agg #[.int .i64 kind, .string ⟨data.toArray⟩, .slice ea ents.length ec, .int .u64 t1, .int .u64 t2, .slice pa pars.length pc, .string ⟨author.toArray⟩, .int .i64 time, .string ⟨msg.toArray⟩]] w _
  generalize ents.length = ne at HE HC hR2 hen ⊢
  generalize pars.length = n at HC hn hpc hbc ⊢
  have HR := Lib.hid hR2
  have HBC := Lib.hid hbc
  clear hR2 hbc hR he hd hen2 e2
  have hq := fun W => neq_dig0 t1 t2 W
  go_enter Tryz.func107, Tryz.ntmps107
  go_upto_region 3 with fail
  go_cut [5] from 13 to 37 (fun x wx => x = .bool bc ∧ wx = w.alloc (.cells #[.int .i64 kind, .string ⟨data.toArray⟩, .slice ea ne ec, .int .u64 t1, .int .u64 t2, .slice pa n pc, .string ⟨author.toArray⟩, .int .i64 time, .string ⟨msg.toArray⟩] 100))
  case first =>
    cases h1 : (t1 == 0 && t2 == 0) with
    | false =>
      rw [h1] at hq HBC
      have HB : Hid (bc = true) := Lib.hid (by rw [HBC.out]; simp)
      go_wp2_with fail
      go_meet
      case rel => exact ⟨by rw [HB.out], rfl⟩
    | true =>
      rw [h1] at hq HBC
      cases h2 : decide (0 < n) with
      | true =>
        rw [h2] at HBC
        have HB : Hid (bc = true) := Lib.hid (by rw [HBC.out]; simp)
        go_wp2_with fail
        go_meet
        case rel => exact ⟨by rw [HB.out], rfl⟩
      | false =>
        rw [h2] at HBC
        cases h3 : (author == []) with
        | false =>
          rw [h3] at HBC
          have HB : Hid (bc = true) := Lib.hid (by rw [HBC.out]; simp)
          go_wp2_with fail
          go_meet
          case rel => exact ⟨by rw [HB.out], rfl⟩
        | true =>
          rw [h3] at HBC
          cases h4 : (time == 0) with
          | false =>
            rw [h4] at HBC
            have HB : Hid (bc = true) := Lib.hid (by rw [HBC.out]; simp)
            have h4' : (time != 0) = true := by simpa using h4
            go_wp2_with fail
            go_meet
            case rel => exact ⟨by rw [HB.out], rfl⟩
          | true =>
            rw [h4] at HBC
            have ht0 : time = 0 := by simpa using h4
            subst ht0
            clear h4
            have HB : Hid (bc = !msg.isEmpty) := Lib.hid (by rw [HBC.out]; cases msg <;> simp)
            go_wp2_with fail
            go_meet
            case rel => exact ⟨by rw [HB.out], rfl⟩
  case rest =>
    obtain ⟨rfl, rfl⟩ := hcut
    have HB0 : Hid (Below w.heap.size w (w.alloc (.cells #[.int .i64 kind, .string ⟨data.toArray⟩, .slice ea ne ec, .int .u64 t1, .int .u64 t2, .slice pa n pc, .string ⟨author.toArray⟩, .int .i64 time, .string ⟨msg.toArray⟩] 100))) := Lib.hid ((Below.refl _ w).alloc (Nat.le_refl _) _)
    clear HBC hq
    by_cases hk1 : kind = 1
    · subst hk1
      cases hne : decide (0 < ne) with
      | true =>
        have hne' : 0 < ne := by simpa using hne
        have HRR : Hid (R = 1) := Lib.hid (by rw [HR.out]; simp [hne'])
        clear HR
        go_wp2_with fail
        go_ret
        exact ⟨by rw [HRR.out]; rfl, HB0.out⟩
      | false =>
        have hne' : ne = 0 := by simpa using hne
        subst hne'
        clear hne
        cases bc with
        | true =>
          have HRR : Hid (R = 1) := Lib.hid (by rw [HR.out]; simp [])
          clear HR
          go_wp2_with fail
          go_ret
          exact ⟨by rw [HRR.out]; rfl, HB0.out⟩
        | false =>
          have HRR : Hid (R = 0) := Lib.hid (by rw [HR.out]; simp [])
          clear HR
          go_wp2_with fail
          go_ret
          exact ⟨by rw [HRR.out]; rfl, HB0.out⟩
    · have hkb1 : (kind == 1) = false := by simpa using hk1
      by_cases hk4 : kind = 4
      · subst hk4
        cases hne : decide (0 < ne) with
        | true =>
          have hne' : 0 < ne := by simpa using hne
          have HRR : Hid (R = 1) := Lib.hid (by rw [HR.out]; simp [hne'])
          clear HR
          go_wp2_with fail
          go_ret
          exact ⟨by rw [HRR.out]; rfl, HB0.out⟩
        | false =>
          have hne' : ne = 0 := by simpa using hne
          subst hne'
          clear hne
          cases bc with
          | true =>
            have HRR : Hid (R = 1) := Lib.hid (by rw [HR.out]; simp [])
            clear HR
            go_wp2_with fail
            go_ret
            exact ⟨by rw [HRR.out]; rfl, HB0.out⟩
          | false =>
            have HRR : Hid (R = 0) := Lib.hid (by rw [HR.out]; simp [])
            clear HR
            go_wp2_with fail
            go_ret
            exact ⟨by rw [HRR.out]; rfl, HB0.out⟩
      · have hkb4 : (kind == 4) = false := by simpa using hk4
        by_cases hk2 : kind = 2
        · subst hk2
          cases hde : data.isEmpty with
          | false =>
            have HRR : Hid (R = 1) := Lib.hid (by rw [HR.out]; simp [hde])
            clear HR
            go_wp2_with fail
            go_ret
            exact ⟨by rw [HRR.out]; rfl, HB0.out⟩
          | true =>
            cases bc with
            | true =>
              have HRR : Hid (R = 1) := Lib.hid (by rw [HR.out]; simp [])
              clear HR
              go_wp2_with fail
              go_ret
              exact ⟨by rw [HRR.out]; rfl, HB0.out⟩
            | false =>
              have HRR : Hid (R = re) := Lib.hid (by rw [HR.out]; simp [hde])
              clear HR
              go_wp2_with fail
              refine (HE.out _ HB0.out).mono ?_
              rintro e w' ⟨rfl, hb⟩
              have HB2 := Lib.hid hb
              clear hb
              go_wp2_with fail
              go_ret
              exact ⟨by rw [HRR.out]; rfl, HB0.out.trans (HB2.out.mono HB0.out.size)⟩
        · have hkb2 : (kind == 2) = false := by simpa using hk2
          by_cases hk3 : kind = 3
          · subst hk3
            cases hde : data.isEmpty with
            | false =>
              have HRR : Hid (R = 1) := Lib.hid (by rw [HR.out]; simp [hde])
              clear HR
              go_wp2_with fail
              go_ret
              exact ⟨by rw [HRR.out]; rfl, HB0.out⟩
            | true =>
              cases hne : decide (0 < ne) with
              | true =>
                have hne' : 0 < ne := by simpa using hne
                have HRR : Hid (R = 1) := Lib.hid (by rw [HR.out]; simp [hne'])
                clear HR
                go_wp2_with fail
                go_ret
                exact ⟨by rw [HRR.out]; rfl, HB0.out⟩
              | false =>
                have hne' : ne = 0 := by simpa using hne
                subst hne'
                clear hne
                have HRR : Hid (R = rc) := Lib.hid (by rw [HR.out]; simp [hde])
                clear HR
                go_wp2_with fail
                refine (HC.out _ HB0.out).mono ?_
                rintro e w' ⟨rfl, hb⟩
                have HB2 := Lib.hid hb
                clear hb
                go_wp2_with fail
                go_ret
                exact ⟨by rw [HRR.out]; rfl, HB0.out.trans (HB2.out.mono HB0.out.size)⟩
          · have hkb3 : (kind == 3) = false := by simpa using hk3
            have HRR : Hid (R = 9) := Lib.hid (by rw [HR.out]; simp [hk1, hk4, hk2, hk3])
            clear HR
            go_wp2_with fail
            go_ret
            exact ⟨by rw [HRR.out]; rfl, HB0.out⟩

end Go.Proofs.YtdedfkljaeloiaaGreatDoor

/- object.writer's methods. -/
namespace Go.Proofs.YtdedfkljaeloiaaGreatDoor
open Go.RowKit Go.Shelf
set_option linter.unusedVariables false

/-- A writer with a text, and all that was there when it began. -/
structure WR (w w0 : World) (b : Nat) (l : List UInt8) (bad : Bool) (wr : World) : Prop where
  cell : ∃ v, wr.heap[b]? = some (.cells #[v, .bool bad] 178 (0, 0)) ∧ wr.ownsRow w.heap.size 5 1 v l.length (Lib.byteCells l) ∧ v.ownBlock ≠ some b
  bel : Below w.heap.size w wr
  kept : Kept b w0 wr
  le : w.heap.size ≤ b
theorem row_kind {w : World} {B : Nat} {v : Value} {n : Nat} {xs : List Value} (h : w.ownsRow B 5 1 v n xs) : ∀ g, v.ownBlock = some g → ∃ c fz, w.heap[g]? = some (.cells c 5 fz) := Lib.ownsRowF_kind (World.ownsRowF_of h)
theorem kept_below {b : Nat} {w W X : World} (h : Kept b w W) (hb : Below W.heap.size W X) : Kept b w X := fun k o hk hkb ho => by
  have h1 := h k o hk hkb ho
  exact (hb.block k (Array.getElem?_eq_some_iff.1 h1).1).trans h1
theorem WR.below {w w0 wr x : World} {b : Nat} {l : List UInt8} {bad : Bool} (h : WR w w0 b l bad wr) (hb : Below wr.heap.size wr x) : WR w w0 b l bad x := by
  obtain ⟨⟨v, h1, h2, h3⟩, h4, h5, h6⟩ := h
  refine ⟨⟨v, (hb.block b (Array.getElem?_eq_some_iff.1 h1).1).trans h1, h2.kept (row := none) ⟨hb.os, hb.tape, hb.output, hb.size, fun k hk _ => hb.block k hk⟩ ?_, h3⟩, h4.trans (hb.mono h4.size), kept_below h5 hb, h6⟩
  cases h2 : v.ownBlock with
  | none => exact .inl rfl
  | some k => exact .inr (by simp)
theorem WR.block {w w0 wr : World} {b : Nat} {l : List UInt8} {bad : Bool} (h : WR w w0 b l bad wr) {k : Nat} {cs : Array Value} {t : TypeId} {fz : Nat × Nat} (hk : w0.heap[k]? = some (.cells cs t fz)) (hkb : k ≠ b) (ht : t ≠ 5) : wr.heap[k]? = some (.cells cs t fz) :=
  h.kept k _ hk (fun e => hkb (Option.some.inj e)) (fun c f e => by cases e; exact ht rfl)
/-- Behind an append to the text and the store of the new slice. -/
theorem WR.put {w w0 wr x : World} {b : Nat} {l l' : List UInt8} {bad : Bool} {v v' : Value} (h : WR w w0 b l bad wr) (hv : wr.heap[b]? = some (.cells #[v, .bool bad] 178 (0, 0))) (ho : wr.ownsRow w.heap.size 5 1 v l.length (Lib.byteCells l)) (hne : v.ownBlock ≠ some b)
    (hg : wr.grownBy x v.ownBlock) (ho' : x.ownsRow w.heap.size 5 1 v' l'.length (Lib.byteCells l')) : WR w w0 b l' bad (x.setCell ⟨b, 0, none⟩ v') := by
  have hb : b < wr.heap.size := (Array.getElem?_eq_some_iff.1 hv).1
  have hbx : x.heap[b]? = some (.cells #[v, .bool bad] 178 (0, 0)) := (hg.block b hb (fun e => hne e.symm)).trans hv
  have hne' : v'.ownBlock ≠ some b := fun e => by
    obtain ⟨c, fz, hc⟩ := row_kind ho' b e
    rw [hbx] at hc
    cases hc
  refine ⟨⟨v', ?_, ho'.kept (gset _ _ _ _) (.inr hne'), hne'⟩, (h.bel.grown hg h.bel.size (fun k hk => (ho.lt k hk).1)).setCell h.le _, (h.kept.grown hg (row_kind ho)).setCell ⟨b, 0, none⟩ rfl _, h.le⟩
  simp [World.setCell, Array.getElem?_modify, hbx]
/-- Behind a store of the mark. -/
theorem WR.mark {w w0 wr : World} {b : Nat} {l : List UInt8} {bad : Bool} (h : WR w w0 b l bad wr) (bad' : Bool) : WR w w0 b l bad' (wr.setCell ⟨b, 1, none⟩ (.bool bad')) := by
  obtain ⟨⟨v, h1, h2, h3⟩, h4, h5, h6⟩ := h
  refine ⟨⟨v, ?_, h2.kept (gset _ _ _ _) (.inr h3), h3⟩, h4.setCell h6 _, h5.setCell ⟨b, 1, none⟩ rfl _, h6⟩
  simp [World.setCell, Array.getElem?_modify, h1]

theorem putInt_in (n : Int) (h0 : 0 ≤ n) (h1 : n ≤ 1099511627776) (w : World) : Calls Tryz.prog 71 #[.int .i64 n] w fun e w' => e = .returned (.tuple #[.string ⟨(Cw.enc n.toNat).toArray⟩, .int .i64 0]) ∧ Below w.heap.size w w' := by
  have h := putInt_any n w
  have : putI n = (Cw.enc n.toNat, 0) := by unfold putI; rw [if_pos ((Cw.inR_iff n).2 ⟨h0, h1⟩)]
  rw [this] at h
  exact h

set_option maxRecDepth 100000 in
set_option maxHeartbeats 1000000 in
theorem wnumber_any {w w0 wr : World} {b : Nat} {l : List UInt8} {bad : Bool} (h : WR w w0 b l bad wr) (n : Int) (h0 : 0 ≤ n) (h1 : n ≤ 1099511627776) (hl : (l.length : Int) ≤ 70000000000000) :
    Calls Tryz.prog 108 #[.pointer (some ⟨b, 0, none⟩), .int .i64 n] wr fun e w' => e = .returned (.tuple #[]) ∧ Hid (WR w w0 b (l ++ Cw.enc n.toNat) bad w') ∧ Hid (Kept b wr w') := by
  have HP := Lib.hid (fun W => putInt_in n h0 h1 W)
  have hel := enc_length n.toNat
  generalize Cw.enc n.toNat = E at HP hel ⊢
  obtain ⟨i0, hi, hz0, hz1, hz2⟩ := info_parts infoByte
  have HZ0 := Lib.hid hz0
  have HZ1 := Lib.hid hz1
  have HZ2 := Lib.hid hz2
  clear hz0 hz1 hz2 h0 h1
  have HW := Lib.hid h
  have HK : Hid (WR w wr b l bad wr) := Lib.hid ⟨h.cell, h.bel, Lib.OthersKept.refl _ _ _, h.le⟩
  clear h
  go_enter Tryz.func108, Tryz.ntmps108
  go_wp2_with fail
  refine (HP.out _).mono ?_
  rintro e x1 ⟨rfl, hb1⟩
  have HW1 := Lib.hid (HW.out.below hb1)
  have HK1 := Lib.hid (HK.out.below hb1)
  clear hb1 HW HK
  obtain ⟨v, hv, hown, hne⟩ := HW1.out.cell
  have c0 : x1.cell? ⟨b, 0, none⟩ = some v := by rw [Lib.cell_of_heap hv]; rfl
  have c1 : x1.cell? ⟨b, 1, none⟩ = some (.bool bad) := by rw [Lib.cell_of_heap hv]; rfl
  have f0 : x1.frozen? ⟨b, 0, none⟩ = false := Lib.frozen_of_heap hv 0
  have f1 : x1.frozen? ⟨b, 1, none⟩ = false := Lib.frozen_of_heap hv 1
  have HV0 := Lib.hid hv
  have HO0 := Lib.hid hown
  have HNE := Lib.hid hne
  have hxs : w.heap.size ≤ x1.heap.size := HW1.out.bel.size
  clear hv hown hne
  have hEl : (⟨E.toArray⟩ : ByteArray).size = E.length := ba_len E
  have HEl := Lib.hid hEl
  clear hEl
  cases bad with
  | true =>
    have HV2 : Hid ((x1.setCell ⟨b, 1, none⟩ (.bool true)).heap[b]? = some (.cells #[v, .bool true] 178 (0, 0))) := Lib.hid (by simp [World.setCell, Array.getElem?_modify, HV0.out])
    go_wp2_with (at_builtin; refine Lib.wpList_append_own_string _ rfl _ _ 137 9 rfl w.heap.size 5 i0 Tryz.underlying137 Tryz.underlying9 hi HZ0.out HZ1.out HZ2.out _ _ _ rfl (HO0.out.kept (gset _ _ _ _) (.inr HNE.out)) ⟨E.toArray⟩ rfl ?_ ?_ ?_ ?_)
    · rw [HEl.out]; unfold maxLen; omega
    · rw [HEl.out]; omega
    · simpa using hxs
    · intro v' x3 ho hg _
      rw [strCells_eq, ← byteCells_append, ← List.length_append] at ho
      have HOn := Lib.hid ho
      obtain ⟨ao, cap, rfl, _⟩ := ownsRow_sliceN ho
      have hbk : x3.heap[b]? = some (.cells #[v, .bool true] 178 (0, 0)) := (hg.block b (by simpa using (Array.getElem?_eq_some_iff.1 HV0.out).1) (fun e => HNE.out e.symm)).trans HV2.out
      have d0 : x3.cell? ⟨b, 0, none⟩ = some v := by rw [Lib.cell_of_heap hbk]; rfl
      have d1 : x3.frozen? ⟨b, 0, none⟩ = false := Lib.frozen_of_heap hbk 0
      have HF1 := Lib.hid ((HW1.out.mark true).put HV2.out (HO0.out.kept (gset _ _ _ _) (.inr HNE.out)) HNE.out hg HOn.out)
      have HF2 := Lib.hid ((HK1.out.mark true).put HV2.out (HO0.out.kept (gset _ _ _ _) (.inr HNE.out)) HNE.out hg HOn.out)
      rw [List.length_append] at HF1 HF2
      clear ho hg hbk HV0 HO0 HV2 HW1 HK1
      go_wp2_with fail
      go_end0
      exact ⟨rfl, HF1, Lib.hid HF2.out.kept⟩
  | false =>
    have HV2 : Hid ((x1.setCell ⟨b, 1, none⟩ (.bool false)).heap[b]? = some (.cells #[v, .bool false] 178 (0, 0))) := Lib.hid (by simp [World.setCell, Array.getElem?_modify, HV0.out])
    go_wp2_with (at_builtin; refine Lib.wpList_append_own_string _ rfl _ _ 137 9 rfl w.heap.size 5 i0 Tryz.underlying137 Tryz.underlying9 hi HZ0.out HZ1.out HZ2.out _ _ _ rfl (HO0.out.kept (gset _ _ _ _) (.inr HNE.out)) ⟨E.toArray⟩ rfl ?_ ?_ ?_ ?_)
    · rw [HEl.out]; unfold maxLen; omega
    · rw [HEl.out]; omega
    · simpa using hxs
    · intro v' x3 ho hg _
      rw [strCells_eq, ← byteCells_append, ← List.length_append] at ho
      have HOn := Lib.hid ho
      obtain ⟨ao, cap, rfl, _⟩ := ownsRow_sliceN ho
      have hbk : x3.heap[b]? = some (.cells #[v, .bool false] 178 (0, 0)) := (hg.block b (by simpa using (Array.getElem?_eq_some_iff.1 HV0.out).1) (fun e => HNE.out e.symm)).trans HV2.out
      have d0 : x3.cell? ⟨b, 0, none⟩ = some v := by rw [Lib.cell_of_heap hbk]; rfl
      have d1 : x3.frozen? ⟨b, 0, none⟩ = false := Lib.frozen_of_heap hbk 0
      have HF1 := Lib.hid ((HW1.out.mark false).put HV2.out (HO0.out.kept (gset _ _ _ _) (.inr HNE.out)) HNE.out hg HOn.out)
      have HF2 := Lib.hid ((HK1.out.mark false).put HV2.out (HO0.out.kept (gset _ _ _ _) (.inr HNE.out)) HNE.out hg HOn.out)
      rw [List.length_append] at HF1 HF2
      clear ho hg hbk HV0 HO0 HV2 HW1 HK1
      go_wp2_with fail
      go_end0
      exact ⟨rfl, HF1, Lib.hid HF2.out.kept⟩

theorem putText_in (T : List UInt8) (h : T.length ≤ 65536) (w : World) : Calls Tryz.prog 73 #[.string ⟨T.toArray⟩] w fun e w' => e = .returned (.tuple #[.string ⟨(putX T).toArray⟩, .int .i64 0]) ∧ Below w.heap.size w w' := by
  have h1 := putText_any ⟨T.toArray⟩ w (by rw [ba_len]; omega)
  have : putT T = (putX T, 0) := if_pos h
  simp only [this] at h1
  exact h1

set_option maxRecDepth 100000 in
set_option maxHeartbeats 1000000 in
theorem wstring_any {w w0 wr : World} {b : Nat} {l : List UInt8} {bad : Bool} (h : WR w w0 b l bad wr) (s : List UInt8) (h1 : s.length ≤ 65536) (hl : (l.length : Int) ≤ 70000000000000) :
    Calls Tryz.prog 109 #[.pointer (some ⟨b, 0, none⟩), .string ⟨s.toArray⟩] wr fun e w' => e = .returned (.tuple #[]) ∧ Hid (WR w w0 b (l ++ putX s) bad w') ∧ Hid (Kept b wr w') := by
  have HP := Lib.hid (fun W => putText_in s h1 W)
  have hel : (putX s).length ≤ 65546 := by have := enc_length s.length; rw [putX, List.length_append]; omega
  generalize putX s = E at HP hel ⊢
  obtain ⟨i0, hi, hz0, hz1, hz2⟩ := info_parts infoByte
  have HZ0 := Lib.hid hz0
  have HZ1 := Lib.hid hz1
  have HZ2 := Lib.hid hz2
  clear hz0 hz1 hz2 h1
  have HW := Lib.hid h
  have HK : Hid (WR w wr b l bad wr) := Lib.hid ⟨h.cell, h.bel, Lib.OthersKept.refl _ _ _, h.le⟩
  clear h
  go_enter Tryz.func109, Tryz.ntmps109
  go_wp2_with fail
  refine (HP.out _).mono ?_
  rintro e x1 ⟨rfl, hb1⟩
  have HW1 := Lib.hid (HW.out.below hb1)
  have HK1 := Lib.hid (HK.out.below hb1)
  clear hb1 HW HK
  obtain ⟨v, hv, hown, hne⟩ := HW1.out.cell
  have c0 : x1.cell? ⟨b, 0, none⟩ = some v := by rw [Lib.cell_of_heap hv]; rfl
  have c1 : x1.cell? ⟨b, 1, none⟩ = some (.bool bad) := by rw [Lib.cell_of_heap hv]; rfl
  have f0 : x1.frozen? ⟨b, 0, none⟩ = false := Lib.frozen_of_heap hv 0
  have f1 : x1.frozen? ⟨b, 1, none⟩ = false := Lib.frozen_of_heap hv 1
  have HV0 := Lib.hid hv
  have HO0 := Lib.hid hown
  have HNE := Lib.hid hne
  have hxs : w.heap.size ≤ x1.heap.size := HW1.out.bel.size
  clear hv hown hne
  have hEl : (⟨E.toArray⟩ : ByteArray).size = E.length := ba_len E
  have HEl := Lib.hid hEl
  clear hEl
  cases bad with
  | true =>
    have HV2 : Hid ((x1.setCell ⟨b, 1, none⟩ (.bool true)).heap[b]? = some (.cells #[v, .bool true] 178 (0, 0))) := Lib.hid (by simp [World.setCell, Array.getElem?_modify, HV0.out])
    go_wp2_with (at_builtin; refine Lib.wpList_append_own_string _ rfl _ _ 137 9 rfl w.heap.size 5 i0 Tryz.underlying137 Tryz.underlying9 hi HZ0.out HZ1.out HZ2.out _ _ _ rfl (HO0.out.kept (gset _ _ _ _) (.inr HNE.out)) ⟨E.toArray⟩ rfl ?_ ?_ ?_ ?_)
    · rw [HEl.out]; unfold maxLen; omega
    · rw [HEl.out]; omega
    · simpa using hxs
    · intro v' x3 ho hg _
      rw [strCells_eq, ← byteCells_append, ← List.length_append] at ho
      have HOn := Lib.hid ho
      obtain ⟨ao, cap, rfl, _⟩ := ownsRow_sliceN ho
      have hbk : x3.heap[b]? = some (.cells #[v, .bool true] 178 (0, 0)) := (hg.block b (by simpa using (Array.getElem?_eq_some_iff.1 HV0.out).1) (fun e => HNE.out e.symm)).trans HV2.out
      have d0 : x3.cell? ⟨b, 0, none⟩ = some v := by rw [Lib.cell_of_heap hbk]; rfl
      have d1 : x3.frozen? ⟨b, 0, none⟩ = false := Lib.frozen_of_heap hbk 0
      have HF1 := Lib.hid ((HW1.out.mark true).put HV2.out (HO0.out.kept (gset _ _ _ _) (.inr HNE.out)) HNE.out hg HOn.out)
      have HF2 := Lib.hid ((HK1.out.mark true).put HV2.out (HO0.out.kept (gset _ _ _ _) (.inr HNE.out)) HNE.out hg HOn.out)
      rw [List.length_append] at HF1 HF2
      clear ho hg hbk HV0 HO0 HV2 HW1 HK1
      go_wp2_with fail
      go_end0
      exact ⟨rfl, HF1, Lib.hid HF2.out.kept⟩
  | false =>
    have HV2 : Hid ((x1.setCell ⟨b, 1, none⟩ (.bool false)).heap[b]? = some (.cells #[v, .bool false] 178 (0, 0))) := Lib.hid (by simp [World.setCell, Array.getElem?_modify, HV0.out])
    go_wp2_with (at_builtin; refine Lib.wpList_append_own_string _ rfl _ _ 137 9 rfl w.heap.size 5 i0 Tryz.underlying137 Tryz.underlying9 hi HZ0.out HZ1.out HZ2.out _ _ _ rfl (HO0.out.kept (gset _ _ _ _) (.inr HNE.out)) ⟨E.toArray⟩ rfl ?_ ?_ ?_ ?_)
    · rw [HEl.out]; unfold maxLen; omega
    · rw [HEl.out]; omega
    · simpa using hxs
    · intro v' x3 ho hg _
      rw [strCells_eq, ← byteCells_append, ← List.length_append] at ho
      have HOn := Lib.hid ho
      obtain ⟨ao, cap, rfl, _⟩ := ownsRow_sliceN ho
      have hbk : x3.heap[b]? = some (.cells #[v, .bool false] 178 (0, 0)) := (hg.block b (by simpa using (Array.getElem?_eq_some_iff.1 HV0.out).1) (fun e => HNE.out e.symm)).trans HV2.out
      have d0 : x3.cell? ⟨b, 0, none⟩ = some v := by rw [Lib.cell_of_heap hbk]; rfl
      have d1 : x3.frozen? ⟨b, 0, none⟩ = false := Lib.frozen_of_heap hbk 0
      have HF1 := Lib.hid ((HW1.out.mark false).put HV2.out (HO0.out.kept (gset _ _ _ _) (.inr HNE.out)) HNE.out hg HOn.out)
      have HF2 := Lib.hid ((HK1.out.mark false).put HV2.out (HO0.out.kept (gset _ _ _ _) (.inr HNE.out)) HNE.out hg HOn.out)
      rw [List.length_append] at HF1 HF2
      clear ho hg hbk HV0 HO0 HV2 HW1 HK1
      go_wp2_with fail
      go_end0
      exact ⟨rfl, HF1, Lib.hid HF2.out.kept⟩

theorem putText_big (T : List UInt8) (h : 65536 < T.length) (hT : (T.length : Int) ≤ 9223372036854775807) (w : World) : Calls Tryz.prog 73 #[.string ⟨T.toArray⟩] w fun e w' => e = .returned (.tuple #[.string ⟨#[]⟩, .int .i64 4]) ∧ Below w.heap.size w w' := by
  have h1 := putText_any ⟨T.toArray⟩ w (by rw [ba_len]; omega)
  have : putT T = ([], 4) := if_neg (by omega)
  simp only [this] at h1
  exact h1

set_option maxRecDepth 100000 in
set_option maxHeartbeats 1000000 in
theorem wstring_big {w w0 wr : World} {b : Nat} {l : List UInt8} (h : WR w w0 b l false wr) (s : List UInt8) (h1 : 65536 < s.length) (hs : (s.length : Int) ≤ 9223372036854775807) (hl : (l.length : Int) ≤ 70000000000000) :
    Calls Tryz.prog 109 #[.pointer (some ⟨b, 0, none⟩), .string ⟨s.toArray⟩] wr fun e w' => e = .returned (.tuple #[]) ∧ Hid (WR w w0 b l true w') := by
  have HP := Lib.hid (fun W => putText_big s h1 hs W)
  obtain ⟨E, hE⟩ : ∃ E : List UInt8, E = [] := ⟨_, rfl⟩
  have hel : E.length ≤ 65546 := by rw [hE]; simp
  have HE := Lib.hid hE
  rw [show (⟨#[]⟩ : ByteArray) = ⟨E.toArray⟩ by rw [hE]] at HP
  clear hE
  obtain ⟨i0, hi, hz0, hz1, hz2⟩ := info_parts infoByte
  have HZ0 := Lib.hid hz0
  have HZ1 := Lib.hid hz1
  have HZ2 := Lib.hid hz2
  clear hz0 hz1 hz2 h1 hs
  have HW := Lib.hid h
  have HK : Hid (WR w wr b l false wr) := Lib.hid ⟨h.cell, h.bel, Lib.OthersKept.refl _ _ _, h.le⟩
  clear h
  go_enter Tryz.func109, Tryz.ntmps109
  go_wp2_with fail
  refine (HP.out _).mono ?_
  rintro e x1 ⟨rfl, hb1⟩
  have HW1 := Lib.hid (HW.out.below hb1)
  have HK1 := Lib.hid (HK.out.below hb1)
  clear hb1 HW HK
  obtain ⟨v, hv, hown, hne⟩ := HW1.out.cell
  have c0 : x1.cell? ⟨b, 0, none⟩ = some v := by rw [Lib.cell_of_heap hv]; rfl
  have c1 : x1.cell? ⟨b, 1, none⟩ = some (.bool false) := by rw [Lib.cell_of_heap hv]; rfl
  have f0 : x1.frozen? ⟨b, 0, none⟩ = false := Lib.frozen_of_heap hv 0
  have f1 : x1.frozen? ⟨b, 1, none⟩ = false := Lib.frozen_of_heap hv 1
  have HV0 := Lib.hid hv
  have HO0 := Lib.hid hown
  have HNE := Lib.hid hne
  have hxs : w.heap.size ≤ x1.heap.size := HW1.out.bel.size
  clear hv hown hne
  have hEl : (⟨E.toArray⟩ : ByteArray).size = E.length := ba_len E
  have HEl := Lib.hid hEl
  clear hEl
  have HV2 : Hid ((x1.setCell ⟨b, 1, none⟩ (.bool true)).heap[b]? = some (.cells #[v, .bool true] 178 (0, 0))) := Lib.hid (by simp [World.setCell, Array.getElem?_modify, HV0.out])
  go_wp2_with (at_builtin; refine Lib.wpList_append_own_string _ rfl _ _ 137 9 rfl w.heap.size 5 i0 Tryz.underlying137 Tryz.underlying9 hi HZ0.out HZ1.out HZ2.out _ _ _ rfl (HO0.out.kept (gset _ _ _ _) (.inr HNE.out)) ⟨E.toArray⟩ rfl ?_ ?_ ?_ ?_)
  · rw [HEl.out]; unfold maxLen; omega
  · rw [HEl.out]; omega
  · simpa using hxs
  · intro v' x3 ho hg _
    rw [strCells_eq, ← byteCells_append, ← List.length_append] at ho
    have HOn := Lib.hid ho
    obtain ⟨ao, cap, rfl, _⟩ := ownsRow_sliceN ho
    have hbk : x3.heap[b]? = some (.cells #[v, .bool true] 178 (0, 0)) := (hg.block b (by simpa using (Array.getElem?_eq_some_iff.1 HV0.out).1) (fun e => HNE.out e.symm)).trans HV2.out
    have d0 : x3.cell? ⟨b, 0, none⟩ = some v := by rw [Lib.cell_of_heap hbk]; rfl
    have d1 : x3.frozen? ⟨b, 0, none⟩ = false := Lib.frozen_of_heap hbk 0
    have HF1 := Lib.hid ((HW1.out.mark true).put HV2.out (HO0.out.kept (gset _ _ _ _) (.inr HNE.out)) HNE.out hg HOn.out)
    have HF2 := Lib.hid ((HK1.out.mark true).put HV2.out (HO0.out.kept (gset _ _ _ _) (.inr HNE.out)) HNE.out hg HOn.out)
    rw [List.length_append] at HF1 HF2
    clear ho hg hbk HV0 HO0 HV2 HW1 HK1
    go_wp2_with fail
    go_end0
    refine ⟨rfl, Lib.hid ?_⟩
    have h9 := HF1.out
    have hE := HE.out
    subst hE
    rw [List.append_nil] at h9
    exact h9

end Go.Proofs.YtdedfkljaeloiaaGreatDoor

/- object.writer.digest. -/
namespace Go.Proofs.YtdedfkljaeloiaaGreatDoor
open Go.RowKit Go.Shelf
set_option linter.unusedVariables false

theorem cell_byte (x : Int) (h0 : 0 ≤ x) (h1 : x < 256) : Lib.byteCells [UInt8.ofNat x.toNat] = [Value.int .u8 x] := by
  simp [Lib.byteCells]
  omega
def bePart (x y : Int) : Nat → List UInt8
  | 0 => []
  | 1 => be 8 x
  | _ => be 8 x ++ be 8 y
theorem bePart_length (x y : Int) (k : Nat) : (bePart x y k).length ≤ 16 := by
  match k with
  | 0 => simp [bePart]
  | 1 => simp [bePart, be_length]
  | _ + 2 => simp [bePart, be_length]

set_option maxRecDepth 100000 in
set_option maxHeartbeats 2000000 in
theorem wdigest_any {w w0 wr : World} {b : Nat} {l : List UInt8} {bad : Bool} (h : WR w w0 b l bad wr) (x y : Int) (hx : 0 ≤ x) (hy : 0 ≤ y) (hl : (l.length : Int) ≤ 70000000000000) :
    Calls Tryz.prog 110 #[.pointer (some ⟨b, 0, none⟩), .agg #[.int .u64 x, .int .u64 y]] wr fun e w' => e = .returned (.tuple #[]) ∧ Hid (WR w w0 b (l ++ beD (x, y)) bad w') ∧ Hid (Kept b wr w') := by
  obtain ⟨i0, hi, hz0, hz1, hz2⟩ := info_parts infoByte
  have HZ0 := Lib.hid hz0
  have HZ1 := Lib.hid hz1
  have HZ2 := Lib.hid hz2
  clear hz0 hz1 hz2
  have HW := Lib.hid h
  have HK : Hid (WR w wr b l bad wr) := Lib.hid ⟨h.cell, h.bel, Lib.OthersKept.refl _ _ _, h.le⟩
  clear h
  obtain ⟨ws, rfl⟩ : ∃ ws : World, ws = wr := ⟨_, rfl⟩
  go_enter Tryz.func110, Tryz.ntmps110
  go_wp2_with fail
  go_loopw [8] (fun i wr => ∃ k : Nat, k ≤ 2 ∧ i = .int .i64 k ∧ Hid (WR w w0 b (l ++ bePart x y k) bad wr) ∧ Hid (WR w ws b (l ++ bePart x y k) bad wr)) (fun i _ => 2 - (intOf i).toNat)
  case atStart => exact ⟨0, by omega, rfl, Lib.hid (by simpa [bePart] using HW.out.below ((Below.refl _ ws).alloc (Nat.le_refl _) _)), Lib.hid (by simpa [bePart] using HK.out.below ((Below.refl _ ws).alloc (Nat.le_refl _) _))⟩
  case round =>
    obtain ⟨k, hk, rfl, HW1, HK1⟩ := hrel
    obtain ⟨wo, rfl⟩ : ∃ wo : World, wo = wr := ⟨_, rfl⟩
    by_cases hlt : k < 2
    · obtain ⟨n, hn, hn0, HN⟩ : ∃ n : Int, (∀ W, (Instr.index 35 (.agg #[.int .u64 x, .int .u64 y]) (.int .i64 (k : Int))).run Tryz.prog W = .ok (.int .u64 n) W) ∧ 0 ≤ n ∧ Hid (bePart x y (k + 1) = bePart x y k ++ be 8 n) := by
        rcases (show k = 0 ∨ k = 1 by omega) with rfl | rfl
        · exact ⟨x, fun W => by kernel_rfl, hx, Lib.hid (by simp [bePart])⟩
        · exact ⟨y, fun W => by kernel_rfl, hy, Lib.hid rfl⟩
      have hpl := bePart_length x y k
      obtain ⟨L0, hL0⟩ : ∃ L0, L0 = l ++ bePart x y k := ⟨_, rfl⟩
      have hL0l : (L0.length : Int) ≤ 70000000000100 := by rw [hL0, List.length_append]; omega
      have HE : Hid (l ++ bePart x y (k + 1) = L0 ++ be 8 n) := Lib.hid (by rw [HN.out, hL0]; simp)
      rw [← hL0] at HW1 HK1
      clear hL0 HN hpl
      have dk : decide ((k : Int) < 2) = true := by simp; omega
      go_wp2_with fail
      go_loopw [6] (fun s wr => ∃ (j : Nat) (p : List UInt8), j ≤ 8 ∧ s = .int .i64 (8 * (j : Int) - 8) ∧ p.length + j = 8 ∧ Hid (p ++ be j n = be 8 n) ∧ Hid (WR w w0 b (L0 ++ p) bad wr) ∧ Hid (WR w ws b (L0 ++ p) bad wr)) (fun s _ => (intOf s + 8).toNat)
      case atStart => exact ⟨8, [], by omega, rfl, by simp, Lib.hid rfl, by rw [List.append_nil]; exact HW1, by rw [List.append_nil]; exact HK1⟩
      case round =>
        obtain ⟨j, p, hj, rfl, hp, HP, HW2, HK2⟩ := hrel
        cases j with
        | zero =>
          have HPE : Hid (L0 ++ p = l ++ bePart x y (k + 1)) := Lib.hid (by rw [HE.out, ← HP.out]; simp [be])
          rw [HPE.out] at HW2 HK2
          go_wp2_with fail
          go_roundw
          case rel => exact ⟨k + 1, by omega, by go_num, HW2, HK2⟩
          case measure => simp [intOf]; omega
        | succ i =>
          have hi8 : 8 * ((i + 1 : Nat) : Int) - 8 = 8 * (i : Int) := by omega
          rw [hi8]
          obtain ⟨v, hv, hown, hne⟩ := HW2.out.cell
          have c0 : wr.cell? ⟨b, 0, none⟩ = some v := by rw [Lib.cell_of_heap hv]; rfl
          have c0' := fun z => cell_a1 c0 z
          obtain ⟨z, hz⟩ : ∃ z, z = n / 2 ^ (8 * i) := ⟨_, rfl⟩
          have hsh : n / 2 ^ (8 * (i : Int)).toNat = z := by
            rw [hz]
            congr 2
          obtain ⟨c, hc⟩ : ∃ c, c = z % 256 := ⟨_, rfl⟩
          have hcv : IntKind.u8.wrap z = c := by rw [hc]; simp [IntKind.wrap, IntKind.bits, IntKind.signed]
          have hc0 : 0 ≤ c := by omega
          have hc1 : c < 256 := by omega
          have HP2 : Hid ((p ++ [UInt8.ofNat c.toNat]) ++ be i n = be 8 n) := Lib.hid (by rw [← HP.out, be, ← hz, ← hc, List.append_assoc]; rfl)
          have HV := Lib.hid hv
          have HO := Lib.hid hown
          have HNE := Lib.hid hne
          have hLp : (L0 ++ p).length = L0.length + p.length := List.length_append
          have hLb : ((L0 ++ p).length : Int) ≤ 70000000000200 := by rw [hLp]; omega
          have hws := HW2.out.bel.size
          have hbw : b < wr.heap.size := (Array.getElem?_eq_some_iff.1 hv).1
          clear hc hz hv hown hne HP hLp
          obtain ⟨L1, hL1⟩ : ∃ L1, L1 = L0 ++ p := ⟨_, rfl⟩
          have HL1 : Hid (L0 ++ (p ++ [UInt8.ofNat c.toNat]) = L1 ++ [UInt8.ofNat c.toNat]) := Lib.hid (by rw [hL1, List.append_assoc])
          rw [← hL1] at HW2 HK2 HO hLb
          clear hL1
          have hil : i ≤ 7 := by omega
          have hb8 : (0 : Int) ≤ 8 * (i : Int) := by omega
          have hb9 : 8 * (i : Int) ≤ 64 := by omega
          go_wp2_with fail
          go_region_law
            (first
            | (refine step_append_lies _ (by rfl) (.tmp 19) (.tmp 24) _ (by rfl) w.heap.size 5 i0 _ 1 1 Tryz.underlying137 hi HZ0.out HZ1.out HZ2.out rfl (by omega) _ L1.length (Lib.byteCells L1) (by rfl) (HO.out.alloc _).drew ⟨wr.heap.size, 0, none⟩ 1 1 [.int .u8 c] (by rfl) (by rfl) (World.news_of_block (cs := #[.int .u8 c]) (t := 5) (fr := (0, 0)) (heap_alloc_new wr _)) (by simp [Value.oneCell']) (by omega) (by unfold maxLen; omega) (by omega) (by simp; omega) _ rfl ?_; intro g cap x3 hown1 hgrow1 hat1 hlt1; (have hbk : x3.heap[b]? = some (.cells #[v, .bool bad] 178 (0, 0)) := (hgrow1.block b (by simp; omega) (fun e => HNE.out e.symm)).trans ((Below.heap_alloc _ _ _ hbw).trans HV.out)); (have d0 : x3.cell? ⟨b, 0, none⟩ = some v := by rw [Lib.cell_of_heap hbk]; rfl); (have d1 : x3.frozen? ⟨b, 0, none⟩ = false := Lib.frozen_of_heap hbk 0))
            | fail)
          all_goals
            have hb1 : Below wr.heap.size wr (wr.alloc (.cells #[.int .u8 c] 5)).drew := ((Below.refl _ wr).alloc (Nat.le_refl _) _).drew
            have HOn : Hid (x3.ownsRow w.heap.size 5 1 (.slice (some ⟨g, 0, none⟩) (L1.length + 1) cap) (L1 ++ [UInt8.ofNat c.toNat]).length (Lib.byteCells (L1 ++ [UInt8.ofNat c.toNat]))) := Lib.hid (by
              rw [byteCells_append, cell_byte c hc0 hc1, List.length_append]
              exact hown1)
            have HV1 : Hid ((wr.alloc (.cells #[.int .u8 c] 5)).drew.heap[b]? = some (.cells #[v, .bool bad] 178 (0, 0))) := Lib.hid ((Below.heap_alloc _ _ _ hbw).trans HV.out)
            have HF1 := Lib.hid ((HW2.out.below hb1).put HV1.out (HO.out.alloc _).drew HNE.out hgrow1 HOn.out)
            have HF2 := Lib.hid ((HK2.out.below hb1).put HV1.out (HO.out.alloc _).drew HNE.out hgrow1 HOn.out)
            rw [← HL1.out] at HF1 HF2
            clear hown1 hgrow1 hat1 hlt1 hb1 HOn HV1 hbk
            go_wp2_with fail
            go_roundw
            case rel => exact ⟨i, p ++ [UInt8.ofNat c.toNat], by omega, rfl, by simp; omega, HP2, HF1, HF2⟩
            case measure => simp [intOf]; omega
    · obtain rfl : k = 2 := by omega
      go_wp2_with fail
      go_end0
      exact ⟨rfl, HW1, Lib.hid HK1.out.kept⟩

end Go.Proofs.YtdedfkljaeloiaaGreatDoor

/- object.Encode. -/
namespace Go.Proofs.YtdedfkljaeloiaaGreatDoor
open Go.RowKit Go.Shelf
set_option linter.unusedVariables false

theorem bytes_back (l : List UInt8) : (l.map fun c => (c.toNat : Int)).map (fun c => UInt8.ofNat c.toNat) = l := by
  rw [List.map_map]
  conv => rhs; rw [← List.map_id l]
  apply List.map_congr_left
  intro c _
  simp
theorem fold_push : ∀ (ns : List Int) (r : ByteArray), (ns.foldl (fun r n => r.push (UInt8.ofNat n.toNat)) r).data.toList = r.data.toList ++ ns.map fun c => UInt8.ofNat c.toNat
  | [], r => by simp
  | n :: ns, r => by
    rw [List.foldl_cons, fold_push ns, List.map_cons]
    simp [ByteArray.push]
theorem conv_row {W : World} {B : Nat} {v : Value} {l : List UInt8} (h : W.ownsRow B 5 1 v l.length (Lib.byteCells l)) (h0 : l ≠ []) : (convert 137 9 v).run Tryz.prog W = .ok (.string ⟨l.toArray⟩) W := by
  obtain ⟨g, cap, rfl, _, _⟩ := h.form (List.length_pos_iff.2 h0)
  rw [run_convert_bytes_string W 137 9 5 (some ⟨g, 0, none⟩) l.length cap Tryz.underlying137 Tryz.underlying5 Tryz.underlying9]
  have e : Lib.byteCells l = (l.map fun c => (c.toNat : Int)).map (Value.int .u8) := by simp [Lib.byteCells]
  have hl := run_loadCells_list (P := Tryz.prog) W ⟨g, 0, none⟩ ((l.map fun c => (c.toNat : Int)).map (Value.int .u8)) (fun j u hj => h.cells (g := g) rfl j u (by rw [e]; exact hj))
  rw [List.length_map, List.length_map] at hl
  rw [run_bytesToString W ⟨g, 0, none⟩ l.length cap (l.map fun c => (c.toNat : Int)) hl]
  congr 2
  refine ba_eq ?_
  rw [fold_push, bytes_back]
  rfl

theorem bodyO_ne (o : Ob) : bodyO o ≠ [] := by
  unfold bodyO
  intro h
  have := List.append_eq_nil_iff.1 h
  exact enc_ne _ this.1
theorem entX_take (es : List Ent) (k : Nat) (h : k < es.length) : (es.take (k + 1)).flatMap entX = (es.take k).flatMap entX ++ entX es[k] := by
  rw [List.take_succ_eq_append_getElem h, List.flatMap_append]
  simp
theorem beD_take (ds : List (Int × Int)) (k : Nat) (h : k < ds.length) : (ds.take (k + 1)).flatMap beD = (ds.take k).flatMap beD ++ beD ds[k] := by
  rw [List.take_succ_eq_append_getElem h, List.flatMap_append]
  simp
theorem entX_length (e : Ent) (h : e.name.length ≤ 24) : (entX e).length ≤ 60 := by
  have h1 := enc_length e.name.length
  have h2 := enc_length (dirN e.dir)
  rw [entX, putX, List.length_append, List.length_append, List.length_append, beD_length]
  omega
theorem entXs_length : ∀ (es : List Ent), (∀ e ∈ es, e.name.length ≤ 24) → (es.flatMap entX).length ≤ 60 * es.length
  | [], _ => by simp
  | e :: es, h => by
    have h1 := entX_length e (h e (List.mem_cons_self ..))
    have h2 := entXs_length es (fun x hx => h x (List.mem_cons_of_mem _ hx))
    rw [List.flatMap_cons, List.length_append, List.length_cons]
    omega
theorem beDs_length : ∀ (ds : List (Int × Int)), (ds.flatMap beD).length = 16 * ds.length
  | [] => rfl
  | d :: ds => by
    rw [List.flatMap_cons, List.length_append, beD_length, beDs_length ds, List.length_cons]
    omega

/-- What an object's value needs. -/
structure ObIn (w : World) (o : Ob) (ea : Option Addr) (ec : Nat) (pa : Option Addr) (pc : Nat) : Prop where
  ents : Ents w.heap.size w ea o.ents
  pars : Digs w.heap.size w pa o.pars
  pcap : o.pars.length ≤ pc
  elen : (o.ents.length : Int) ≤ 9223372036854775807
  enam : ∀ e ∈ o.ents, (e.name.length : Int) ≤ 9223372036854775807
  edig : ∀ e ∈ o.ents, 0 ≤ e.d.1 ∧ 0 ≤ e.d.2
  plen : (o.pars.length : Int) ≤ 9223372036854775807
  pdig : ∀ d ∈ o.pars, 0 ≤ d.1 ∧ 0 ≤ d.2
  tdig : 0 ≤ o.tree.1 ∧ 0 ≤ o.tree.2
  dlen : (o.data.length : Int) ≤ 9223372036854775807
  alen : (o.author.length : Int) ≤ 9223372036854775807
  mlen : (o.msg.length : Int) ≤ 9223372036854775807
theorem ObIn.below {w W : World} {o : Ob} {ea : Option Addr} {ec : Nat} {pa : Option Addr} {pc : Nat} (h : ObIn w o ea ec pa pc) (hW : Below w.heap.size w W) : ObIn W o ea ec pa pc :=
  ⟨(h.ents.below hW (Nat.le_refl _)).mono hW.size, (h.pars.below hW (Nat.le_refl _)).mono hW.size, h.pcap, h.elen, h.enam, h.edig, h.plen, h.pdig, h.tdig, h.dlen, h.alen, h.mlen⟩
theorem check2 {o : Ob} (h : checkS o = 0) (hk : o.kind = 2) : o.ents.length ≤ 200 ∧ ∀ e ∈ o.ents, nameB e.name = true := by
  unfold checkS at h
  rw [if_neg (by omega), if_pos hk] at h
  split at h
  · cases h
  · unfold entsE at h
    split at h
    · cases h
    · exact ⟨by omega, entGo_name h⟩
theorem check3 {o : Ob} (h : checkS o = 0) (hk : o.kind = 3) : commitE o = 0 := by
  unfold checkS at h
  rw [if_neg (by omega), if_neg (by omega), if_pos hk] at h
  split at h
  · cases h
  · exact h
theorem commitE_zero {o : Ob} (h : commitE o = 0) : o.pars.length ≤ 8 ∧ nameB o.author = true ∧ 0 ≤ o.time ∧ o.time ≤ 1099511627776 ∧ o.msg.length ≤ 200 := by
  unfold commitE at h
  split at h
  · cases h
  · split at h
    · cases h
    · split at h
      · rename_i h1; exact absurd h h1
      · split at h
        · cases h
        · split at h
          · cases h
          · split at h
            · cases h
            · rename_i h1 h2 h3 h4 h5
              exact ⟨by omega, by simpa using h3, by omega, by omega, by omega⟩

set_option maxRecDepth 100000 in
set_option maxHeartbeats 4000000 in
theorem encode_any (o : Ob) (ea : Option Addr) (ec : Nat) (pa : Option Addr) (pc : Nat) (w : World) (h : ObIn w o ea ec pa pc) :
    Calls Tryz.prog 80 #[o.val ea ec pa pc] w fun e w' => e = .returned (.tuple #[.string ⟨(encodeS o).1.toArray⟩, .int .i64 (encodeS o).2]) ∧ Below w.heap.size w w' := by
  obtain ⟨R, E, hRE⟩ : ∃ R E, encodeS o = (R, E) := ⟨_, _, rfl⟩
  rw [hRE]
  have HC : Hid (∀ W, Below w.heap.size w W → Calls Tryz.prog 107 #[o.val ea ec pa pc] W fun e w' => e = .returned (.int .i64 (checkS o)) ∧ Below W.heap.size W w') := Lib.hid (fun W hW => by
    have h2 := h.below hW
    have := h2.elen
    have := h2.plen
    have := h2.dlen
    exact check_any o ea ec pa pc W h2.ents h2.pars h2.pcap (by omega) h2.enam (by omega) (by omega) h2.alen h2.mlen)
  obtain ⟨BO, hBO⟩ : ∃ BO, BO = bodyO o := ⟨_, rfl⟩
  have HBN : Hid (BO ≠ []) := Lib.hid (by rw [hBO]; exact bodyO_ne o)
  have hR2 : (R, E) = if checkS o ≠ 0 then ([], checkS o) else if 65536 < BO.length then ([], 4) else (BO, 0) := by rw [← hRE, hBO]; rfl
  obtain ⟨y, hy⟩ : ∃ y, y = checkS o := ⟨_, rfl⟩
  rw [← hy] at HC hR2
  have HBO := Lib.hid hBO
  have HIN := Lib.hid h
  have HY := Lib.hid hy
  clear hRE hBO h hy
  obtain ⟨kind, data, ents, ⟨t1, t2⟩, pars, author, time, msg⟩ := o
  obtain ⟨ne, hne⟩ : ∃ ne, ne = ents.length := ⟨_, rfl⟩
  obtain ⟨n, hn⟩ : ∃ n, n = pars.length := ⟨_, rfl⟩
  change Hid (∀ W, Below w.heap.size w W → Calls Tryz.prog 107 #[.agg #[.int .i64 kind, .string ⟨data.toArray⟩, .slice ea ents.length ec, .int .u64 t1, .int .u64 t2, .slice pa pars.length pc, .string ⟨author.toArray⟩, .int .i64 time, .string ⟨msg.toArray⟩]] W fun e w' => e = .returned (.int .i64 y) ∧ Below W.heap.size W w') at HC
  change Calls Tryz.prog 80 #[.agg #[.int .i64 kind, .string ⟨data.toArray⟩, .slice ea ents.length ec, .int .u64 t1, .int .u64 t2, .slice pa pars.length pc, .string ⟨author.toArray⟩, .int .i64 time, .string ⟨msg.toArray⟩]] w _
  rw [← hne, ← hn] at HC ⊢
  have HNE := Lib.hid hne
  have HNN := Lib.hid hn
  clear hne hn
  by_cases hy0 : y = 0
  · subst hy0
    rw [if_neg (by simp)] at hR2
    have HRE := Lib.hid hR2
    clear hR2
    have HB0 : Hid (Below w.heap.size w (w.alloc (.cells #[.int .i64 kind, .string ⟨data.toArray⟩, .slice ea ne ec, .int .u64 t1, .int .u64 t2, .slice pa n pc, .string ⟨author.toArray⟩, .int .i64 time, .string ⟨msg.toArray⟩] 100))) := Lib.hid ((Below.refl _ w).alloc (Nat.le_refl _) _)
    have hkd := checkS_kind HY.out.symm
    simp only at hkd
    have hdl := HIN.out.dlen
    simp only at hdl
    go_enter Tryz.func80, Tryz.ntmps80
    go_wp2_with fail
    refine (HC.out _ HB0.out).mono ?_
    rintro e x1 ⟨rfl, hb1⟩
    have hbox := hb1.block w.heap.size (by simp)
    rw [World.alloc_heap_new w _] at hbox
    have HBX := Lib.hid hbox
    have HB1 := Lib.hid (HB0.out.trans (hb1.mono HB0.out.size))
    have hx1 : w.heap.size < x1.heap.size := (Array.getElem?_eq_some_iff.1 hbox).1
    have c0 : x1.cell? ⟨w.heap.size, 0, none⟩ = some (.int .i64 kind) := by rw [Lib.cell_of_heap hbox]; rfl
    have c0' := fun z => cell_a1 c0 z
    clear hb1 hbox HB0 HC
    go_wp2_with fail
    obtain ⟨w0, hw0⟩ : ∃ w0, w0 = x1.alloc (.cells #[.slice none 0 0, .bool false] 178) := ⟨_, rfl⟩
    have HWR0 : Hid (WR w w0 x1.heap.size [] false w0) := Lib.hid (by
      rw [hw0]
      exact ⟨⟨.slice none 0 0, World.alloc_heap_new _ _, World.ownsRow_nil _ _ _ _, by simp [Value.ownBlock]⟩, HB1.out.alloc HB1.out.size _, Lib.OthersKept.refl _ _ _, HB1.out.size⟩)
    have HBX0 : Hid (w0.heap[w.heap.size]? = some (.cells #[.int .i64 kind, .string ⟨data.toArray⟩, .slice ea ne ec, .int .u64 t1, .int .u64 t2, .slice pa n pc, .string ⟨author.toArray⟩, .int .i64 time, .string ⟨msg.toArray⟩] 100 (0, 0))) := Lib.hid (by rw [hw0, Below.heap_alloc _ _ _ hx1]; exact HBX.out)
    rw [← hw0]
    clear hw0 c0 c0' HBX
    refine (wnumber_any HWR0.out kind (by omega) (by omega) (by simp)).mono ?_
    rintro e x2 ⟨rfl, HWR2, _⟩
    rw [List.nil_append] at HWR2
    have hbx2 := HWR2.out.block HBX0.out (by omega) (by decide)
    have d0 : x2.cell? ⟨w.heap.size, 0, none⟩ = some (.int .i64 kind) := by rw [Lib.cell_of_heap hbx2]; rfl
    have d1 : x2.cell? ⟨w.heap.size, 1, none⟩ = some (.string ⟨data.toArray⟩) := by rw [Lib.cell_of_heap hbx2]; rfl
    have d2 : x2.cell? ⟨w.heap.size, 2, none⟩ = some (.slice ea ne ec) := by rw [Lib.cell_of_heap hbx2]; rfl
    have d3 : x2.cell? ⟨w.heap.size, 3, none⟩ = some (.int .u64 t1) := by rw [Lib.cell_of_heap hbx2]; rfl
    have d4 : x2.cell? ⟨w.heap.size, 4, none⟩ = some (.int .u64 t2) := by rw [Lib.cell_of_heap hbx2]; rfl
    have hel := enc_length kind.toNat
    clear hbx2
    by_cases hk2 : kind = 2
    · subst hk2
      obtain ⟨hn200, hnames⟩ := check2 HY.out.symm rfl
      have HNM := Lib.hid hnames
      simp only at hn200
      rw [← HNE.out] at hn200
      have HBE : Hid (BO = (Cw.enc 2 ++ Cw.enc ne) ++ ents.flatMap entX) := Lib.hid (by rw [HBO.out]; unfold bodyO; rw [if_pos rfl, HNE.out, List.append_assoc]; rfl)
      have hPl := enc_length ne
      clear hnames hkd
      go_wp2_with fail
      refine (wnumber_any HWR2.out (ne : Int) (by omega) (by omega) (by omega)).mono ?_
      rintro e x3 ⟨rfl, HWR3, _⟩
      rw [Int.toNat_natCast] at HWR3
      obtain ⟨P2, hP2⟩ : ∃ P2, P2 = Cw.enc 2 ++ Cw.enc ne := ⟨_, rfl⟩
      have hP2l : P2.length ≤ 20 := by rw [hP2, List.length_append]; have := enc_length 2; omega
      have HWR3' : Hid (WR w w0 x1.heap.size P2 false x3) := Lib.hid (by rw [hP2]; exact HWR3.out)
      rw [← hP2] at HBE
      have hbx3 := HWR3.out.block HBX0.out (by omega) (by decide)
      have e2 : x3.cell? ⟨w.heap.size, 2, none⟩ = some (.slice ea ne ec) := by rw [Lib.cell_of_heap hbx3]; rfl
      clear hbx3 d0 d1 d2 d3 d4 HWR3 hP2 HWR2
      go_wp2_with fail
      go_loopw [39] (fun i wr => ∃ k : Nat, k ≤ ne ∧ i = .int .i64 k ∧ Hid (WR w w0 x1.heap.size (P2 ++ (ents.take k).flatMap entX) false wr)) (fun i _ => ne - (intOf i).toNat)
      case atStart => exact ⟨0, by omega, rfl, Lib.hid (by simpa using HWR3'.out)⟩
      case round =>
        obtain ⟨k, hk, rfl, HWK⟩ := hrel
        by_cases hlt : k < ne
        · have h1 : k < ents.length := by rw [← HNE.out]; exact hlt
          obtain ⟨b0, o0, rfl, hb0, g0, g1, g2, g3⟩ := (HIN.out.ents.below HWK.out.bel (Nat.le_refl _)) k h1
          simp only at g0 g1 g2 g3
          have HT := Lib.hid (entX_take ents k h1)
          have hnm := nameB_length (HNM.out _ (List.getElem_mem h1))
          have hdg := HIN.out.edig _ (List.getElem_mem h1)
          have hLl : ((P2 ++ (ents.take k).flatMap entX).length : Int) ≤ 100000 := by
            rw [List.length_append]
            have := entXs_length (ents.take k) (fun e he => (nameB_length (HNM.out e (List.mem_of_mem_take he))).2)
            rw [List.length_take] at this
            omega
          generalize ents[k] = en at g0 g1 g2 g3 HT hnm hdg
          obtain ⟨nm, dir, q1, q2⟩ := en
          simp only at g0 g1 g2 g3 hnm hdg
          have HT2 : Hid (P2 ++ (ents.take (k + 1)).flatMap entX = (((P2 ++ (ents.take k).flatMap entX) ++ putX nm) ++ Cw.enc (dirN dir)) ++ beD (q1, q2)) := Lib.hid (by rw [HT.out]; simp [entX])
          generalize P2 ++ (ents.take k).flatMap entX = LK at HWK hLl HT2
          have hbw : x1.heap.size < wr.heap.size := by
            obtain ⟨v, hv, _⟩ := HWK.out.cell
            exact (Array.getElem?_eq_some_iff.1 hv).1
          clear HT
          go_wp2_with fail
          have HWA := Lib.hid (HWK.out.below ((Below.refl _ wr).alloc (Nat.le_refl _) (.cells #[.string ⟨nm.toArray⟩, .bool dir, .int .u64 q1, .int .u64 q2] 111)))
          have HEB := Lib.hid (World.alloc_heap_new wr (.cells #[.string ⟨nm.toArray⟩, .bool dir, .int .u64 q1, .int .u64 q2] 111))
          generalize wr.alloc (.cells #[.string ⟨nm.toArray⟩, .bool dir, .int .u64 q1, .int .u64 q2] 111) = wa at HWA HEB ⊢
          refine (wstring_any HWA.out nm (by omega) (by omega)).mono ?_
          rintro e x4 ⟨rfl, HW4, HK4⟩
          have hb4 := HK4.out _ _ HEB.out (fun e => by have := Option.some.inj e; omega) (fun c f e => by cases e)
          have HE4 := Lib.hid hb4
          have r1 : x4.cell? ⟨wr.heap.size, 1, none⟩ = some (.bool dir) := by rw [Lib.cell_of_heap hb4]; rfl
          clear hb4 HWA HEB HK4 g0 g1 g2 g3
          have hpx : (putX nm).length ≤ 40 := by have := enc_length nm.length; rw [putX, List.length_append]; omega
          have hL4 : ((LK ++ putX nm).length : Int) ≤ 200000 := by rw [List.length_append]; omega
          cases dir with
          | true =>
            go_wp2_with fail
            refine (wnumber_any HW4.out 1 (by omega) (by omega) (by omega)).mono ?_
            rintro e x5 ⟨rfl, HW5, HK5⟩
            have hb5 := HK5.out _ _ HE4.out (fun e => by have := Option.some.inj e; omega) (fun c f e => by cases e)
            have s2 : x5.cell? ⟨wr.heap.size, 2, none⟩ = some (.int .u64 q1) := by rw [Lib.cell_of_heap hb5]; rfl
            have s3 : x5.cell? ⟨wr.heap.size, 3, none⟩ = some (.int .u64 q2) := by rw [Lib.cell_of_heap hb5]; rfl
            clear hb5 HK5 HE4 r1 HW4
            have hen := enc_length 1
            have HW5' : Hid (WR w w0 x1.heap.size ((LK ++ putX nm) ++ Cw.enc (dirN true)) false x5) := HW5
            go_wp2_with fail
            refine (wdigest_any HW5'.out q1 q2 hdg.1 hdg.2 (by rw [List.length_append]; have := enc_length (dirN true); omega)).mono ?_
            rintro e x6 ⟨rfl, HW6, _⟩
            rw [← HT2.out] at HW6
            clear s2 s3 HW5 HW5'
            go_wp2_with fail
            go_roundw
            case rel => exact ⟨k + 1, by omega, by go_num, HW6⟩
            case measure => simp [intOf]; omega
          | false =>
            go_wp2_with fail
            refine (wnumber_any HW4.out 0 (by omega) (by omega) (by omega)).mono ?_
            rintro e x5 ⟨rfl, HW5, HK5⟩
            have hb5 := HK5.out _ _ HE4.out (fun e => by have := Option.some.inj e; omega) (fun c f e => by cases e)
            have s2 : x5.cell? ⟨wr.heap.size, 2, none⟩ = some (.int .u64 q1) := by rw [Lib.cell_of_heap hb5]; rfl
            have s3 : x5.cell? ⟨wr.heap.size, 3, none⟩ = some (.int .u64 q2) := by rw [Lib.cell_of_heap hb5]; rfl
            clear hb5 HK5 HE4 r1 HW4
            have hen := enc_length 0
            have HW5' : Hid (WR w w0 x1.heap.size ((LK ++ putX nm) ++ Cw.enc (dirN false)) false x5) := HW5
            go_wp2_with fail
            refine (wdigest_any HW5'.out q1 q2 hdg.1 hdg.2 (by rw [List.length_append]; have := enc_length (dirN false); omega)).mono ?_
            rintro e x6 ⟨rfl, HW6, _⟩
            rw [← HT2.out] at HW6
            clear s2 s3 HW5 HW5'
            go_wp2_with fail
            go_roundw
            case rel => exact ⟨k + 1, by omega, by go_num, HW6⟩
            case measure => simp [intOf]; omega
        · have HBF : Hid (P2 ++ (ents.take k).flatMap entX = BO) := Lib.hid (by rw [HBE.out, List.take_of_length_le (by rw [← HNE.out]; omega)])
          rw [HBF.out] at HWK
          clear HBF e2
          obtain ⟨v, hv, hown, hne⟩ := HWK.out.cell
          have HOw := Lib.hid hown
          have c0 : wr.cell? ⟨x1.heap.size, 0, none⟩ = some v := by rw [Lib.cell_of_heap hv]; rfl
          have c1 : wr.cell? ⟨x1.heap.size, 1, none⟩ = some (.bool false) := by rw [Lib.cell_of_heap hv]; rfl
          obtain ⟨g, cap, rfl, _, _⟩ := hown.form (List.length_pos_iff.2 HBN.out)
          have HBf := Lib.hid HWK.out.bel
          clear hv hown hne
          by_cases h65 : (65536 : Int) < BO.length
          · have HF : Hid (R = [] ∧ E = 4) := Lib.hid (by have := HRE.out; rw [if_pos (by omega)] at this; simpa using this)
            clear HRE
            go_wp2_with fail
            go_ret2
            rw [HF.out.1, HF.out.2]
            exact ⟨rfl, HBf.out⟩
          · have HF : Hid (R = BO ∧ E = 0) := Lib.hid (by have := HRE.out; rw [if_neg (by omega)] at this; simpa using this)
            have hcv := conv_row HOw.out HBN.out
            clear HRE
            go_wp2_with fail
            go_ret2
            rw [HF.out.1, HF.out.2]
            exact ⟨rfl, HBf.out⟩
    · by_cases hk3 : kind = 3
      · subst hk3
        obtain ⟨hn8, hnma, ht0, ht1, hml⟩ := commitE_zero (check3 HY.out.symm rfl)
        have hal := nameB_length hnma
        simp only at hn8 ht0 ht1 hml hal
        rw [← HNN.out] at hn8
        have hw1 := HIN.out.tdig
        simp only at hw1
        have HBE : Hid (BO = ((((Cw.enc 3 ++ beD (t1, t2)) ++ Cw.enc n) ++ pars.flatMap beD) ++ putX author) ++ Cw.enc time.toNat ++ putX msg) := Lib.hid (by rw [HBO.out]; unfold bodyO; rw [if_neg (by simp), if_pos rfl, HNN.out]; simp)
        have hPl := enc_length n
        have hTl := enc_length time.toNat
        have hAl : (putX author).length ≤ 40 := by have := enc_length author.length; rw [putX, List.length_append]; omega
        have hbd := beD_length (t1, t2)
        clear hk2 hkd hnma
        go_wp2_with fail
        refine (wdigest_any HWR2.out t1 t2 hw1.1 hw1.2 (by omega)).mono ?_
        rintro e x3 ⟨rfl, HWR3, _⟩
        have hbx3 := HWR3.out.block HBX0.out (by omega) (by decide)
        have e5 : x3.cell? ⟨w.heap.size, 5, none⟩ = some (.slice pa n pc) := by rw [Lib.cell_of_heap hbx3]; rfl
        clear hbx3 d0 d1 d2 d3 d4 HWR2
        have hen3 := enc_length 3
        have hl3 : ((Cw.enc (3 : Int).toNat ++ beD (t1, t2)).length : Int) ≤ 100 := by rw [List.length_append, hbd]; show (((Cw.enc 3).length + 16 : Nat) : Int) ≤ 100; omega
        go_wp2_with fail
        refine (wnumber_any HWR3.out (n : Int) (by omega) (by omega) (by omega)).mono ?_
        rintro e x4 ⟨rfl, HWR4, _⟩
        rw [Int.toNat_natCast] at HWR4
        obtain ⟨P2, hP2⟩ : ∃ P2, P2 = (Cw.enc 3 ++ beD (t1, t2)) ++ Cw.enc n := ⟨_, rfl⟩
        have hP2l : P2.length ≤ 50 := by rw [hP2, List.length_append, List.length_append]; omega
        have HWR4' : Hid (WR w w0 x1.heap.size P2 false x4) := Lib.hid (by rw [hP2]; exact HWR4.out)
        rw [← hP2] at HBE
        have hbx4 := HWR4.out.block HBX0.out (by omega) (by decide)
        have e5 : x4.cell? ⟨w.heap.size, 5, none⟩ = some (.slice pa n pc) := by rw [Lib.cell_of_heap hbx4]; rfl
        clear hbx4 HWR4 hP2 HWR3 hl3 hbd hen3
        go_wp2_with fail
        go_loopw [64] (fun i wr => ∃ k : Nat, k ≤ n ∧ i = .int .i64 k ∧ Hid (WR w w0 x1.heap.size (P2 ++ (pars.take k).flatMap beD) false wr)) (fun i _ => n - (intOf i).toNat)
        case atStart => exact ⟨0, by omega, rfl, Lib.hid (by simpa using HWR4'.out)⟩
        case round =>
          obtain ⟨k, hk, rfl, HWK⟩ := hrel
          by_cases hlt : k < n
          · have h1 : k < pars.length := by rw [← HNN.out]; exact hlt
            obtain ⟨b0, o0, rfl, hb0, g0, g1⟩ := (HIN.out.pars.below HWK.out.bel (Nat.le_refl _)) k h1
            simp only at g0 g1
            have HT := Lib.hid (beD_take pars k h1)
            have hdg := HIN.out.pdig _ (List.getElem_mem h1)
            have hLl : ((P2 ++ (pars.take k).flatMap beD).length : Int) ≤ 100000 := by
              rw [List.length_append, beDs_length, List.length_take]
              omega
            generalize pars[k] = dk at g0 g1 HT hdg
            obtain ⟨q1, q2⟩ := dk
            simp only at g0 g1 hdg
            have HT2 : Hid (P2 ++ (pars.take (k + 1)).flatMap beD = (P2 ++ (pars.take k).flatMap beD) ++ beD (q1, q2)) := Lib.hid (by rw [HT.out]; simp)
            generalize P2 ++ (pars.take k).flatMap beD = LK at HWK hLl HT2
            clear HT
            go_wp2_with fail
            have HWA := Lib.hid (HWK.out.below ((Below.refl _ wr).alloc (Nat.le_refl _) (.cells #[.int .u64 q1, .int .u64 q2] 35)))
            refine (wdigest_any HWA.out q1 q2 hdg.1 hdg.2 (by omega)).mono ?_
            rintro e x6 ⟨rfl, HW6, _⟩
            rw [← HT2.out] at HW6
            clear HWA g0 g1
            go_wp2_with fail
            go_roundw
            case rel => exact ⟨k + 1, by omega, by go_num, HW6⟩
            case measure => simp [intOf]; omega
          · obtain ⟨P3, hP3⟩ : ∃ P3, P3 = P2 ++ pars.flatMap beD := ⟨_, rfl⟩
            have HBF : Hid (P2 ++ (pars.take k).flatMap beD = P3) := Lib.hid (by rw [hP3, List.take_of_length_le (by rw [← HNN.out]; omega)])
            have hP3l : P3.length ≤ 200 := by rw [hP3, List.length_append, beDs_length, ← HNN.out]; omega
            rw [HBF.out] at HWK
            rw [← hP3] at HBE
            have hbk := HWK.out.block HBX0.out (by omega) (by decide)
            have f6 : wr.cell? ⟨w.heap.size, 6, none⟩ = some (.string ⟨author.toArray⟩) := by rw [Lib.cell_of_heap hbk]; rfl
            clear HBF e5 hP3 hbk
            go_wp2_with fail
            refine (wstring_any HWK.out author (by omega) (by omega)).mono ?_
            rintro e x6 ⟨rfl, HW6, _⟩
            have hbk := HW6.out.block HBX0.out (by omega) (by decide)
            have f7 : x6.cell? ⟨w.heap.size, 7, none⟩ = some (.int .i64 time) := by rw [Lib.cell_of_heap hbk]; rfl
            clear hbk f6 HWK
            go_wp2_with fail
            refine (wnumber_any HW6.out time ht0 ht1 (by rw [List.length_append]; omega)).mono ?_
            rintro e x7 ⟨rfl, HW7, _⟩
            have hbk := HW7.out.block HBX0.out (by omega) (by decide)
            have f8 : x7.cell? ⟨w.heap.size, 8, none⟩ = some (.string ⟨msg.toArray⟩) := by rw [Lib.cell_of_heap hbk]; rfl
            clear hbk f7 HW6
            go_wp2_with fail
            refine (wstring_any HW7.out msg (by omega) (by rw [List.length_append, List.length_append]; omega)).mono ?_
            rintro e x8 ⟨rfl, HW8, _⟩
            rw [← HBE.out] at HW8
            clear f8 HW7
            obtain ⟨v, hv, hown, hne⟩ := HW8.out.cell
            have HOw := Lib.hid hown
            have c0 : x8.cell? ⟨x1.heap.size, 0, none⟩ = some v := by rw [Lib.cell_of_heap hv]; rfl
            have c1 : x8.cell? ⟨x1.heap.size, 1, none⟩ = some (.bool false) := by rw [Lib.cell_of_heap hv]; rfl
            obtain ⟨g, cap, rfl, _, _⟩ := hown.form (List.length_pos_iff.2 HBN.out)
            have HBf := Lib.hid HW8.out.bel
            clear hv hown hne
            by_cases h65 : (65536 : Int) < BO.length
            · have HF : Hid (R = [] ∧ E = 4) := Lib.hid (by have := HRE.out; rw [if_pos (by omega)] at this; simpa using this)
              clear HRE
              go_wp2_with fail
              go_ret2
              rw [HF.out.1, HF.out.2]
              exact ⟨rfl, HBf.out⟩
            · have HF : Hid (R = BO ∧ E = 0) := Lib.hid (by have := HRE.out; rw [if_neg (by omega)] at this; simpa using this)
              have hcv := conv_row HOw.out HBN.out
              clear HRE
              go_wp2_with fail
              go_ret2
              rw [HF.out.1, HF.out.2]
              exact ⟨rfl, HBf.out⟩
      · have HBE : Hid (BO = Cw.enc kind.toNat ++ putX data) := Lib.hid (by rw [HBO.out]; unfold bodyO; rw [if_neg hk2, if_neg hk3])
        have hkk : kind = 1 ∨ kind = 4 := by omega
        clear hk2 hk3 hkd
        by_cases hbig : data.length ≤ 65536
        · rcases hkk with rfl | rfl
          all_goals
            go_wp2_with fail
            refine (wstring_any HWR2.out data hbig (by omega)).mono ?_
            rintro e x3 ⟨rfl, HWR3, _⟩
            rw [← HBE.out] at HWR3
            clear d0 d1 d2 d3 d4
            obtain ⟨v, hv, hown, hne⟩ := HWR3.out.cell
            have HOw := Lib.hid hown
            have c0 : x3.cell? ⟨x1.heap.size, 0, none⟩ = some v := by rw [Lib.cell_of_heap hv]; rfl
            have c1 : x3.cell? ⟨x1.heap.size, 1, none⟩ = some (.bool false) := by rw [Lib.cell_of_heap hv]; rfl
            obtain ⟨g, cap, rfl, _, _⟩ := hown.form (List.length_pos_iff.2 HBN.out)
            have HBf := Lib.hid HWR3.out.bel
            clear hv hown hne
            by_cases h65 : (65536 : Int) < BO.length
            · have HF : Hid (R = [] ∧ E = 4) := Lib.hid (by have := HRE.out; rw [if_pos (by omega)] at this; simpa using this)
              clear HRE
              go_wp2_with fail
              go_ret2
              rw [HF.out.1, HF.out.2]
              exact ⟨rfl, HBf.out⟩
            · have HF : Hid (R = BO ∧ E = 0) := Lib.hid (by have := HRE.out; rw [if_neg (by omega)] at this; simpa using this)
              have hcv := conv_row HOw.out HBN.out
              clear HRE
              go_wp2_with fail
              go_ret2
              rw [HF.out.1, HF.out.2]
              exact ⟨rfl, HBf.out⟩
        · have HF : Hid (R = [] ∧ E = 4) := Lib.hid (by
            have := HRE.out
            rw [if_pos (by rw [HBE.out, List.length_append, putX, List.length_append]; omega)] at this
            simpa using this)
          clear HRE HBE
          rcases hkk with rfl | rfl
          all_goals
            go_wp2_with fail
            refine (wstring_big HWR2.out data (by omega) hdl (by omega)).mono ?_
            rintro e x3 ⟨rfl, HWR3⟩
            clear d0 d1 d2 d3 d4
            obtain ⟨v, hv, hown, hne⟩ := HWR3.out.cell
            have c0 : x3.cell? ⟨x1.heap.size, 0, none⟩ = some v := by rw [Lib.cell_of_heap hv]; rfl
            have c1 : x3.cell? ⟨x1.heap.size, 1, none⟩ = some (.bool true) := by rw [Lib.cell_of_heap hv]; rfl
            have HBf := Lib.hid HWR3.out.bel
            clear hv hown hne
            go_wp2_with fail
            go_ret2
            rw [HF.out.1, HF.out.2]
            exact ⟨rfl, HBf.out⟩
  · have HF : Hid (R = [] ∧ E = y) := Lib.hid (by rw [if_pos hy0] at hR2; simpa using hR2)
    have hyn : (y != 0) = true := by simpa using hy0
    clear hy0 hR2 HIN HY HBO
    go_enter Tryz.func80, Tryz.ntmps80
    go_wp2_with fail
    refine (HC.out _ ((Below.refl _ w).alloc (Nat.le_refl _) _)).mono ?_
    rintro e x1 ⟨rfl, hb1⟩
    have HB1 := Lib.hid hb1
    clear hb1
    go_wp2_with fail
    go_ret2
    rw [HF.out.1, HF.out.2]
    exact ⟨rfl, ((Below.refl _ w).alloc (Nat.le_refl _) _).trans (HB1.out.mono (by simp))⟩

end Go.Proofs.YtdedfkljaeloiaaGreatDoor
