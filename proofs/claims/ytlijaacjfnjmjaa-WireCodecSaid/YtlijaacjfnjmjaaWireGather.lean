/- wire.Gather. -/
import Derived.Test.YtlijaacjfnjmjaaWireG
import Derived.StillTailTactics
import Derived.Deep.RegionLaw
import Derived.Deep.DeepCutAuto
import Derived.Deep.CutBlock
import Derived.Deep.CutRange
namespace Go.Proofs.Ytlijaacjfnjmjaa
open Go.RowKit

set_option maxHeartbeats 400000 in
theorem valid2_bad (id off tot : Int) (a : Option Addr) (nd cd : Nat) (s : ByteArray) (w : World) (h : id < 0 ∨ 1099511627776 < id) :
    Calls Try.prog 32 #[.agg #[.int .i64 2, .int .i64 id, .int .i64 off, .int .i64 tot, .slice a nd cd, .string s]] w fun e w' => e = .returned (.bool false) ∧ w.alloc (.cells #[.int .i64 2, .int .i64 id, .int .i64 off, .int .i64 tot, .slice a nd cd, .string s] 34) = w' := by
  go_enter Try.func32, Try.ntmps32
  go_wp2
  all_goals
    go_ret
    exact ⟨rfl, rfl⟩

/-- A part is valid. -/
def v2i (id off tot : Int) (nd n : Nat) : Bool := decide (0 ≤ id ∧ id ≤ 1099511627776) && v2 off tot nd n

theorem valid2_any (id off tot : Int) (a : Option Addr) (nd cd : Nat) (T : List UInt8) (w : World) (hs : (T.length : Int) ≤ 140737488355328) :
    Calls Try.prog 32 #[.agg #[.int .i64 2, .int .i64 id, .int .i64 off, .int .i64 tot, .slice a nd cd, .string ⟨T.toArray⟩]] w fun e w' => e = .returned (.bool (v2i id off tot nd T.length)) ∧ Below w.heap.size w w' := by
  by_cases h : 0 ≤ id ∧ id ≤ 1099511627776
  · refine (valid2 id off tot a nd cd ⟨T.toArray⟩ w h.1 h.2 (by rw [ba_len]; exact hs)).mono ?_
    rintro e w' ⟨rfl, rfl⟩
    rw [ba_len]
    refine ⟨?_, (Below.refl _ w).alloc (Nat.le_refl _) _⟩
    unfold v2i; rw [decide_eq_true h]; rfl
  · refine (valid2_bad id off tot a nd cd ⟨T.toArray⟩ w (by omega)).mono ?_
    rintro e w' ⟨rfl, rfl⟩
    refine ⟨?_, (Below.refl _ w).alloc (Nat.le_refl _) _⟩
    unfold v2i; rw [decide_eq_false h]; rfl

/-- The end of gatherS. -/
def gRest (off mid mtot : Int) (data : List UInt8) (ps : List P) : Int × Int × Int × List P :=
  match gjoin (off + data.length) (off, data) (ps.drop (gfrom off ps)) with
    | none => (11, 0, 0, [])
    | some (p, k) => (0, mid, mtot, ps.take (gfrom off ps) ++ p :: ps.drop (gfrom off ps + k))

/-- What Gather returns. -/
def Gathered (w : World) (r : Int × Int × Int × List P) (e : Ending) (w' : World) : Prop :=
  ∃ a c, e = .returned (.tuple #[.agg #[.int .i64 r.2.1, .int .i64 r.2.2.1, .slice a r.2.2.2.length c], .int .i64 r.1]) ∧ Pcs w'.heap.size w' a r.2.2.2 ∧ Below w.heap.size w w' ∧ r.2.2.2.length ≤ c ∧ ∀ ad, a = some ad → w.heap.size ≤ ad.block

theorem gathered_err {w w' : World} {r : Int × Int × Int × List P} (er : Int) (h : r = (er, 0, 0, [])) (hb : Below w.heap.size w w') : Gathered w r (.returned (.tuple #[.agg #[.int .i64 0, .int .i64 0, .slice none 0 0], .int .i64 er])) w' := by
  subst h
  exact ⟨none, 0, rfl, fun i hi => by simp at hi, hb, Nat.le_refl _, fun ad h => by cases h⟩

theorem join_none {oa ob : Int} {A B : List UInt8} (w : World) (ha0 : 0 ≤ oa) (ha1 : oa ≤ 1048576) (hb0 : 0 ≤ ob) (hb1 : ob ≤ 1048576) (hA : (A.length : Int) ≤ 1048576) (hB : (B.length : Int) ≤ 1048576) (ht : ob ≤ oa + A.length) (ht' : oa ≤ ob + B.length) (h : joinS (oa, A) (ob, B) = none) :
    Calls Try.prog 34 #[.agg #[.int .i64 oa, .string ⟨A.toArray⟩], .agg #[.int .i64 ob, .string ⟨B.toArray⟩]] w fun e w' => e = .returned (.tuple #[.agg #[.int .i64 0, .string ⟨#[]⟩], .bool false]) ∧ Below w.heap.size w w' := by
  have := join_any oa ob A B w ha0 ha1 hb0 hb1 hA hB ht ht'
  rw [h] at this
  exact this
theorem join_some {oa ob ro : Int} {A B RT : List UInt8} (w : World) (ha0 : 0 ≤ oa) (ha1 : oa ≤ 1048576) (hb0 : 0 ≤ ob) (hb1 : ob ≤ 1048576) (hA : (A.length : Int) ≤ 1048576) (hB : (B.length : Int) ≤ 1048576) (ht : ob ≤ oa + A.length) (ht' : oa ≤ ob + B.length) (h : joinS (oa, A) (ob, B) = some (ro, RT)) :
    Calls Try.prog 34 #[.agg #[.int .i64 oa, .string ⟨A.toArray⟩], .agg #[.int .i64 ob, .string ⟨B.toArray⟩]] w fun e w' => e = .returned (.tuple #[.agg #[.int .i64 ro, .string ⟨RT.toArray⟩], .bool true]) ∧ Below w.heap.size w w' := by
  have := join_any oa ob A B w ha0 ha1 hb0 hb1 hA hB ht ht'
  rw [h] at this
  exact this

theorem box_kept {u x : World} (hb : Below (u.drew.alloc (.cells #[.int .i64 0, .string ⟨#[]⟩] 40)).heap.size (u.drew.alloc (.cells #[.int .i64 0, .string ⟨#[]⟩] 40)) x) :
    x.cell? ⟨u.heap.size, 0, none⟩ = some (.int .i64 0) ∧ x.cell? ⟨u.heap.size, 1, none⟩ = some (.string ⟨#[]⟩) ∧ x.frozen? ⟨u.heap.size, 0, none⟩ = false ∧ x.frozen? ⟨u.heap.size, 1, none⟩ = false :=
  ⟨(hb.cell (p := ⟨u.heap.size, 0, none⟩) (by simp)).trans (by simp [go_sem]), (hb.cell (p := ⟨u.heap.size, 1, none⟩) (by simp)).trans (by simp [go_sem]), (hb.frozen (p := ⟨u.heap.size, 0, none⟩) (by simp)).trans (by simp [go_sem]), (hb.frozen (p := ⟨u.heap.size, 1, none⟩) (by simp)).trans (by simp [go_sem])⟩

theorem and_four {a b c d G : Prop} (h : a ∧ b ∧ c ∧ d) (k : a → b → c → d → G) : G := k h.1 h.2.1 h.2.2.1 h.2.2.2

theorem gathered_ok {w y4 : World} {R : Int × Int × Int × List P} {mid mtot : Int} {qs : List P} {g mk : Nat} {t : TypeId} (hR : R = (0, mid, mtot, qs)) (hl : qs.length = mk) (hrow : y4.heap[g]? = some (.cells (pcells qs).toArray t (0, 0))) (hb : Below w.heap.size w y4) (hg : w.heap.size + 3 ≤ g) :
    Gathered w R (.returned (.tuple #[.agg #[.int .i64 mid, .int .i64 mtot, .slice (some ⟨g, 0, none⟩) mk mk], .int .i64 0])) (((y4.setCell ⟨w.heap.size + 1 + 1, 0, none⟩ (.int .i64 mid)).setCell ⟨w.heap.size + 1 + 1, 1, none⟩ (.int .i64 mtot)).setCell ⟨w.heap.size + 1 + 1, 2, none⟩ (.slice (some ⟨g, 0, none⟩) mk mk)) := by
  subst hR hl
  refine ⟨some ⟨g, 0, none⟩, qs.length, rfl, ?_, ((hb.setCell (by simp; omega) _).setCell (by simp; omega) _).setCell (by simp; omega) _, Nat.le_refl _, fun ad h => by cases h; show w.heap.size ≤ g; omega⟩
  intro i hi
  obtain ⟨b, off, he, hbs, h1, h2⟩ := Pcs.row hrow i hi
  cases he
  refine ⟨g, 0, rfl, by simpa using hbs, ?_, ?_⟩
  · simp only [Nat.zero_add] at h1 ⊢
    simp [go_sem, h1]
  · simp only [Nat.zero_add] at h2 ⊢
    simp [go_sem, h2]

/-- The cells of Gather's boxes. -/
structure GC (B : Nat) (id tot : Int) (a : Option Addr) (n c : Nat) (kind mid off mtot : Int) (ad : Option Addr) (nd cd : Nat) (data : List UInt8) (W : World) : Prop where
  w0 : W.cell? ⟨B, 0, none⟩ = some (.int .i64 id)
  w1 : W.cell? ⟨B, 1, none⟩ = some (.int .i64 tot)
  w2 : W.cell? ⟨B, 2, none⟩ = some (.slice a n c)
  m0 : W.cell? ⟨B + 1, 0, none⟩ = some (.int .i64 kind)
  m1 : W.cell? ⟨B + 1, 1, none⟩ = some (.int .i64 mid)
  m2 : W.cell? ⟨B + 1, 2, none⟩ = some (.int .i64 off)
  m3 : W.cell? ⟨B + 1, 3, none⟩ = some (.int .i64 mtot)
  m4 : W.cell? ⟨B + 1, 4, none⟩ = some (.slice ad nd cd)
  m5 : W.cell? ⟨B + 1, 5, none⟩ = some (.string ⟨data.toArray⟩)
  r0 : W.cell? ⟨B + 1 + 1, 0, none⟩ = some (.int .i64 0)
  r1 : W.cell? ⟨B + 1 + 1, 1, none⟩ = some (.int .i64 0)
  r2 : W.cell? ⟨B + 1 + 1, 2, none⟩ = some (.slice none 0 0)
  f0 : W.frozen? ⟨B + 1 + 1, 0, none⟩ = false
  f1 : W.frozen? ⟨B + 1 + 1, 1, none⟩ = false
  f2 : W.frozen? ⟨B + 1 + 1, 2, none⟩ = false
  hs : B + 3 ≤ W.heap.size

theorem GC.below {B : Nat} {id tot : Int} {a : Option Addr} {n c : Nat} {kind mid off mtot : Int} {ad : Option Addr} {nd cd : Nat} {data : List UInt8} {W W' : World} {B' : Nat}
    (h : GC B id tot a n c kind mid off mtot ad nd cd data W) (hb : Below B' W W') (hB : B + 3 ≤ B') : GC B id tot a n c kind mid off mtot ad nd cd data W' where
  w0 := (hb.cell (p := ⟨B, 0, none⟩) (by simp; omega)).trans h.w0
  w1 := (hb.cell (p := ⟨B, 1, none⟩) (by simp; omega)).trans h.w1
  w2 := (hb.cell (p := ⟨B, 2, none⟩) (by simp; omega)).trans h.w2
  m0 := (hb.cell (p := ⟨B + 1, 0, none⟩) (by simp; omega)).trans h.m0
  m1 := (hb.cell (p := ⟨B + 1, 1, none⟩) (by simp; omega)).trans h.m1
  m2 := (hb.cell (p := ⟨B + 1, 2, none⟩) (by simp; omega)).trans h.m2
  m3 := (hb.cell (p := ⟨B + 1, 3, none⟩) (by simp; omega)).trans h.m3
  m4 := (hb.cell (p := ⟨B + 1, 4, none⟩) (by simp; omega)).trans h.m4
  m5 := (hb.cell (p := ⟨B + 1, 5, none⟩) (by simp; omega)).trans h.m5
  r0 := (hb.cell (p := ⟨B + 1 + 1, 0, none⟩) (by simp; omega)).trans h.r0
  r1 := (hb.cell (p := ⟨B + 1 + 1, 1, none⟩) (by simp; omega)).trans h.r1
  r2 := (hb.cell (p := ⟨B + 1 + 1, 2, none⟩) (by simp; omega)).trans h.r2
  f0 := (hb.frozen (p := ⟨B + 1 + 1, 0, none⟩) (by simp; omega)).trans h.f0
  f1 := (hb.frozen (p := ⟨B + 1 + 1, 1, none⟩) (by simp; omega)).trans h.f1
  f2 := (hb.frozen (p := ⟨B + 1 + 1, 2, none⟩) (by simp; omega)).trans h.f2
  hs := Nat.le_trans h.hs hb.size

theorem ret_err {w x : World} {R : Int × Int × Int × List P} {er : Int} (h : R = (er, 0, 0, [])) (hb : Below w.heap.size w x) :
    Gathered w R (.returned (.tuple #[.agg #[.int .i64 0, .int .i64 0, .slice none 0 0], .int .i64 er])) (((x.setCell ⟨w.heap.size + 1 + 1, 0, none⟩ (.int .i64 0)).setCell ⟨w.heap.size + 1 + 1, 1, none⟩ (.int .i64 0)).setCell ⟨w.heap.size + 1 + 1, 2, none⟩ (.slice none 0 0)) :=
  gathered_err er h (((hb.setCell (by simp; omega) _).setCell (by simp; omega) _).setCell (by simp; omega) _)

set_option maxRecDepth 20000 in
set_option maxHeartbeats 4000000 in
theorem gather_any (id tot : Int) (a : Option Addr) (ps : List P) (c : Nat) (kind mid off mtot : Int) (ad : Option Addr) (nd cd : Nat) (data : List UInt8) (w : World)
    (hps : Pcs w.heap.size w a ps) (hcap : ps.length ≤ c) (hn : (ps.length : Int) ≤ 1048576) (hsz : ∀ p ∈ ps, p.2.length ≤ 1048576) (hdl : (data.length : Int) ≤ 1048576) :
    Calls Try.prog 18 #[.agg #[.int .i64 id, .int .i64 tot, .slice a ps.length c], .agg #[.int .i64 kind, .int .i64 mid, .int .i64 off, .int .i64 mtot, .slice ad nd cd, .string ⟨data.toArray⟩]] w
      (Gathered w (gatherS id tot ps kind mid off mtot nd data)) := by
  have HS : Hid (∀ p ∈ ps, p.2.length ≤ 1048576) := Lib.hid hsz
  clear hsz
  obtain ⟨R, hR⟩ : ∃ R, R = gatherS id tot ps kind mid off mtot nd data := ⟨_, rfl⟩
  rw [← hR]
  have HR := Lib.hid hR
  clear hR
  obtain ⟨n, hnn⟩ : ∃ n, n = ps.length := ⟨_, rfl⟩
  have HN := Lib.hid hnn
  have HVP0 := Lib.hid (fun W hp h1 h2 => validParts_any id tot a ps c W hp h1 h2)
  rw [← hnn] at hn hcap HVP0 ⊢
  clear hnn
  obtain ⟨W, hW⟩ : ∃ W : World, (((w.alloc (.cells #[.int .i64 id, .int .i64 tot, .slice a n c] 31)).alloc (.cells #[.int .i64 kind, .int .i64 mid, .int .i64 off, .int .i64 mtot, .slice ad nd cd, .string ⟨data.toArray⟩] 34)).alloc (.cells #[.int .i64 0, .int .i64 0, .slice none 0 0] 31)) = W := ⟨_, rfl⟩
  have HBW : Hid (Below w.heap.size w W) := Lib.hid (by rw [← hW]; exact (((Below.refl _ w).alloc (Nat.le_refl _) _).alloc (by simp) _).alloc (by simp; omega) _)
  have HG : Hid (GC w.heap.size id tot a n c kind mid off mtot ad nd cd data W) := Lib.hid (by
    rw [← hW]
    constructor <;> simp [go_sem])
  have HPW : Hid (Pcs w.heap.size W a ps) := Lib.hid (hps.below HBW.out (Nat.le_refl _))
  have HW := Lib.hid hW
  clear hW hps
  have HVP := Lib.hid (HVP0.out W (HPW.out.mono (by have := HG.out.hs; omega)) (by omega) (fun p hp => by have := HS.out p hp; omega))
  go_enter Try.func18, Try.ntmps18
  go_wp2_with fail
  rw [HW.out]
  refine HVP.out.mono ?_
  rintro e x ⟨rfl, hb⟩
  have HX : Hid (GC w.heap.size id tot a n c kind mid off mtot ad nd cd data x) := Lib.hid (HG.out.below hb HG.out.hs)
  have HBX : Hid (Below w.heap.size w x) := Lib.hid (HBW.out.trans (hb.mono HBW.out.size))
  have HPX : Hid (Pcs w.heap.size x a ps) := Lib.hid (HPW.out.below hb (by have := HG.out.hs; omega))
  clear hb HVP HVP0 HW HG HBW HPW W
  obtain ⟨w0, w1, w2, m0, m1, m2, m3, m4, m5, r0, r1, r2, f0, f1, f2, hs⟩ := HX.out
  cases hv : vParts id tot ps with
  | false =>
    have HF : Hid (R = (1, 0, 0, [])) := Lib.hid (by rw [HR.out, gatherS, hv]; rfl)
    clear hv
    go_wp2_with fail
    refine bodyPost_ret (v := .tuple #[.agg #[.int .i64 0, .int .i64 0, .slice none 0 0], .int .i64 1]) (by simp [results, Try.results18, go_sem, r0, r1, r2]) rfl (ret_err HF.out HBX.out)
  | true =>
    by_cases hk : kind = 2
    · subst hk
      have HR1 := Lib.hid (show R = if !v2i mid off mtot nd data.length then (1, 0, 0, []) else if 0 < ps.length ∧ (id ≠ mid ∨ tot ≠ mtot) then (11, 0, 0, []) else gRest off mid mtot data ps from by rw [HR.out, gatherS, hv]; rfl)
      have HV := Lib.hid hv
      clear hv HR
      go_wp2_with fail
      refine (valid2_any mid off mtot ad nd cd data x (by omega)).mono ?_
      rintro e y ⟨rfl, hb⟩
      clear w0 w1 w2 m0 m1 m2 m3 m4 m5 r0 r1 r2 f0 f1 f2
      have HY : Hid (GC w.heap.size id tot a n c 2 mid off mtot ad nd cd data y) := Lib.hid (HX.out.below hb hs)
      have HBY : Hid (Below w.heap.size w y) := Lib.hid (HBX.out.trans (hb.mono HBX.out.size))
      have HPY : Hid (Pcs w.heap.size y a ps) := Lib.hid (HPX.out.below hb (by omega))
      clear hb HX HBX HPX hs x
      obtain ⟨w0, w1, w2, m0, m1, m2, m3, m4, m5, r0, r1, r2, f0, f1, f2, hs⟩ := HY.out
      cases hv : v2i mid off mtot nd data.length with
      | false =>
        have HF : Hid (R = (1, 0, 0, [])) := Lib.hid (by rw [HR1.out, hv]; rfl)
        clear hv
        go_wp2_with fail
        refine bodyPost_ret (v := .tuple #[.agg #[.int .i64 0, .int .i64 0, .slice none 0 0], .int .i64 1]) (by simp [results, Try.results18, go_sem, r0, r1, r2]) rfl (ret_err HF.out HBY.out)
      | true =>
        go_upto_region 7 with fail
        go_cut [41] from 24 (fun c wx => c = .bool (decide (0 < n ∧ (id ≠ mid ∨ tot ≠ mtot))) ∧ y = wx)
        case first =>
          by_cases h0 : 0 < n
          · have g1 : decide (0 < n) = true := by simpa using h0
            by_cases hi : id = mid
            · have g2 : (id == mid) = true := by simpa using hi
              by_cases ht : tot = mtot
              · have g3 : (tot == mtot) = true := by simpa using ht
                go_wp2_with fail
                go_meet
                case rel => exact ⟨congrArg Value.bool (decide_eq_false (by omega)).symm, rfl⟩
              · have g3 : (tot == mtot) = false := by simpa using ht
                go_wp2_with fail
                go_meet
                case rel => exact ⟨congrArg Value.bool (by rw [decide_eq_true (by omega : 0 < n ∧ (id ≠ mid ∨ tot ≠ mtot))]; simpa [bne] using g3), rfl⟩
            · have g2 : (id == mid) = false := by simpa using hi
              go_wp2_with fail
              go_meet
              case rel => exact ⟨congrArg Value.bool (decide_eq_true (by omega)).symm, rfl⟩
          · have g1 : decide (0 < n) = false := by simpa using h0
            go_wp2_with fail
            go_meet
            case rel => exact ⟨congrArg Value.bool (decide_eq_false (by omega)).symm, rfl⟩
        case rest =>
        obtain ⟨rfl, rfl⟩ := hcut
        by_cases hm : 0 < n ∧ (id ≠ mid ∨ tot ≠ mtot)
        · have HF : Hid (R = (11, 0, 0, [])) := Lib.hid (by rw [HR1.out, hv, ← HN.out, if_pos hm]; rfl)
          have g1 : decide (0 < n ∧ (id ≠ mid ∨ tot ≠ mtot)) = true := decide_eq_true hm
          rw [g1]
          clear hv hm g1
          go_wp2_with fail
          refine bodyPost_ret (v := .tuple #[.agg #[.int .i64 0, .int .i64 0, .slice none 0 0], .int .i64 11]) (by simp [results, Try.results18, go_sem, r0, r1, r2]) rfl (ret_err HF.out HBY.out)
        · have HR2 := Lib.hid (show R = gRest off mid mtot data ps from by rw [HR1.out, hv, ← HN.out, if_neg hm]; rfl)
          have g1 : decide (0 < n ∧ (id ≠ mid ∨ tot ≠ mtot)) = false := decide_eq_false hm
          rw [g1]
          have hvv : (0 ≤ mid ∧ mid ≤ 1099511627776) ∧ (1 ≤ data.length ∧ data.length ≤ 65536 ∧ 1 ≤ mtot ∧ mtot ≤ 1048576 ∧ 0 ≤ off ∧ off ≤ mtot - data.length ∧ nd = 0) := by
            unfold v2i v2 at hv; simpa using hv
          clear hv HR1
          obtain ⟨⟨hv1, hv2⟩, hv3, hv4, hv5, hv6, hv7, hv8, rfl⟩ := hvv
          have HVG : Hid (0 < n → vgo mtot (-1) ps = true) := Lib.hid (fun h0 => by
            have hi : id = mid := by omega
            have ht : tot = mtot := by omega
            subst hi ht
            have := HV.out
            rwa [vParts_go (by rw [← HN.out]; exact h0) ⟨hv1, hv2, by omega, by omega⟩] at this)
          clear hm g1 HV
          obtain ⟨z, hz⟩ : ∃ z : World, y.alloc (.cells #[.int .i64 off, .string ⟨data.toArray⟩] 40) = z := ⟨_, rfl⟩
          have hzy : y.heap.size + 1 ≤ z.heap.size := by rw [← hz]; simp
          have HBYZ : Hid (Below y.heap.size y z) := Lib.hid (by rw [← hz]; exact (Below.refl _ y).alloc (Nat.le_refl _) _)
          have HZ : Hid (GC w.heap.size id tot a n c 2 mid off mtot ad 0 cd data z) := Lib.hid (HY.out.below HBYZ.out hs)
          have HBZ : Hid (Below w.heap.size w z) := Lib.hid (HBY.out.trans (HBYZ.out.mono HBY.out.size))
          have HPZ : Hid (Pcs w.heap.size z a ps) := Lib.hid (HPY.out.below HBYZ.out (by omega))
          have p0 : z.cell? ⟨y.heap.size, 0, none⟩ = some (.int .i64 off) := by rw [← hz]; simp [go_sem]
          have p1 : z.cell? ⟨y.heap.size, 1, none⟩ = some (.string ⟨data.toArray⟩) := by rw [← hz]; simp [go_sem]
          have p2 : z.frozen? ⟨y.heap.size, 0, none⟩ = false := by rw [← hz]; simp [go_sem]
          have p3 : z.frozen? ⟨y.heap.size, 1, none⟩ = false := by rw [← hz]; simp [go_sem]
          have HZE := Lib.hid hz
          clear hz
          go_upto_block 0 with fail
          rw [HZE.out]
          clear HBYZ HPY HBY HY HZE
          obtain ⟨b6, hb6⟩ : ∃ b6, b6 = y.heap.size := ⟨_, rfl⟩
          rw [← hb6] at hs hzy p0 p1 p2 p3 ⊢
          clear hb6 w0 w1 w2 m0 m1 m2 m3 m4 m5 r0 r1 r2 f0 f1 f2
          clear y
          have HFrom : Hid (∀ f, f ≤ n → (∀ i (h : i < ps.length), i < f → pend ps[i] < off) → (∀ (h : f < ps.length), ¬ pend ps[f] < off) → gfrom off ps = f) := Lib.hid (fun f h1 h2 h3 => gfrom_is (by rw [← HN.out]; exact h1) h2 h3)
          go_cut [7] from 48 to 65 (fun i wr => ∃ f : Nat, f ≤ n ∧ i = .int .i64 f ∧ Below (b6 + 1) z wr ∧ gfrom off ps = f ∧ Hid (∀ (h : f < ps.length), off ≤ pend ps[f]))
          case first =>
            go_wp2_with fail
            go_loopw [7] (fun i wr => ∃ f : Nat, f ≤ n ∧ i = .int .i64 f ∧ Below (b6 + 1) z wr ∧ Hid (∀ i (h : i < ps.length), i < f → pend ps[i] < off)) (fun i _ => n - (intOf i).toNat)
            case atStart => exact ⟨0, by omega, rfl, Below.refl _ _, Lib.hid (fun i _ h => by omega)⟩
            case round =>
              obtain ⟨f, hf, rfl, hbel, HFF⟩ := hrel
              have HB := Lib.hid hbel
              have HQ : Hid (GC w.heap.size id tot a n c 2 mid off mtot ad 0 cd data wr) := Lib.hid (HZ.out.below hbel (by omega))
              have HPR : Hid (Pcs w.heap.size wr a ps) := Lib.hid (HPZ.out.below hbel (by omega))
              have hwr : b6 + 1 ≤ wr.heap.size := Nat.le_trans hzy hbel.size
              have q0 := (hbel.cell (p := ⟨b6, 0, none⟩) (by simp)).trans p0
              have q1 := (hbel.cell (p := ⟨b6, 1, none⟩) (by simp)).trans p1
              have q2 := (hbel.frozen (p := ⟨b6, 0, none⟩) (by simp)).trans p2
              have q3 := (hbel.frozen (p := ⟨b6, 1, none⟩) (by simp)).trans p3
              have HBR : Hid (Below w.heap.size w wr) := Lib.hid (HBZ.out.trans (hbel.mono (by omega)))
              clear hbel
              by_cases hlt : f < n
              · have g0 : decide (f < n) = true := by simpa using hlt
                have hlt' : f < ps.length := by rw [← HN.out]; exact hlt
                obtain ⟨b, o1, rfl, hbl, hc, hd⟩ := HPR.out f hlt'
                obtain ⟨o, ho⟩ : ∃ o, o = ps[f].1 := ⟨_, rfl⟩
                obtain ⟨T, hT⟩ : ∃ T, T = ps[f].2 := ⟨_, rfl⟩
                have hvp := vgo_all (HVG.out (by omega)) ps[f] (List.getElem_mem hlt')
                have hTl : (T.length : Int) ≤ 1048576 := by have := HS.out ps[f] (List.getElem_mem hlt'); rw [hT]; omega
                rw [← ho] at hc
                rw [← hT] at hd
                have hpe : pend ps[f] = o + T.length := by rw [ho, hT]
                have ho0 : 0 ≤ o := by rw [ho]; exact hvp.1
                have ho1 : o ≤ 1048576 := by have := hvp.2.2.1; rw [hpe] at this; omega
                have HPE := Lib.hid hpe
                clear ho hT hvp hpe
                have HE := Lib.hid (fun (d : Nat) (os : Array Obj) => Calls.regrown_of (w := wr) (d := d) (os := os) (endL o T _ ho0 ho1 hTl))
                have k0 := cell_regrown HQ.out.w2
                have k1 := cell_regrown hc
                have k2 := cell_regrown hd
                have k3 := cell_regrown q0
                go_wp2_with fail
                refine wp_region_quiet_below (by kernel_rfl) (by kernel_rfl) ?_
                repeat (any_goals (first | go_big_quiet_step (exact HE.out _ _) | quiet_step (exact HE.out _ _)))
                refine wpQuiet_nil ?_
                intro x2 hx2
                have hb2 := below_rg hx2
                clear hx2 HE k0 k1 k2 k3
                by_cases hlo : o + (T.length : Int) < off
                · go_wp2_with fail
                  go_roundw
                  case rel => exact ⟨f + 1, by omega, by go_num, HB.out.trans (hb2.mono (by omega)), Lib.hid (fun i hi hif => by
                      by_cases hif' : i < f
                      · exact HFF.out i hi hif'
                      · obtain rfl : i = f := by omega
                        rw [HPE.out]; exact hlo)⟩
                  case measure => simp [intOf]; omega
                · have HGF := HFrom.out f hf HFF.out (fun _ => by rw [HPE.out]; omega)
                  go_wp2_with fail
                  go_meet
                  case rel => exact ⟨f, hf, rfl, HB.out.trans (hb2.mono (by omega)), HGF, Lib.hid (fun _ => by rw [HPE.out]; omega)⟩
              · have g0 : decide (f < n) = false := by simpa using hlt
                obtain rfl : f = n := by omega
                have k0 := HQ.out.w2
                have HGF := HFrom.out f hf HFF.out (fun h => by rw [← HN.out] at h; omega)
                go_wp2_with fail
                go_quiet (fail)
                go_wp2_with fail
                go_meet
                case rel => exact ⟨f, hf, rfl, below_drewN HB.out _, HGF, Lib.hid (fun h => by rw [← HN.out] at h; omega)⟩
          case rest =>
          obtain ⟨f, hf, rfl, hbel, hgf, HGE⟩ := hcut
          go_upto_block 2 with fail
          obtain ⟨v, hv0⟩ : ∃ v, v = wc := ⟨_, rfl⟩
          rw [← hv0] at hbel ⊢
          clear hv0
          have HVQ : Hid (GC w.heap.size id tot a n c 2 mid off mtot ad 0 cd data v) := Lib.hid (HZ.out.below hbel (by omega))
          have HPV : Hid (Pcs w.heap.size v a ps) := Lib.hid (HPZ.out.below hbel (by omega))
          have hvs : b6 + 1 ≤ v.heap.size := Nat.le_trans hzy hbel.size
          have v0 := (hbel.cell (p := ⟨b6, 0, none⟩) (by simp)).trans p0
          have v1 := (hbel.cell (p := ⟨b6, 1, none⟩) (by simp)).trans p1
          have v2 := (hbel.frozen (p := ⟨b6, 0, none⟩) (by simp)).trans p2
          have v3 := (hbel.frozen (p := ⟨b6, 1, none⟩) (by simp)).trans p3
          have HBV : Hid (Below w.heap.size w v) := Lib.hid (HBZ.out.trans (hbel.mono (by omega)))
          clear hbel HBZ HPZ HZ p0 p1 p2 p3 hzy HFrom
          have HGF := Lib.hid hgf
          clear hgf
          go_cut [8, 9, 10] from 67 to 102 (fun i _ _ wr => ∃ (t : Nat) (po : Int) (PT : List UInt8), f ≤ t ∧ t ≤ n ∧ i = .int .i64 t ∧ Below b6 v wr ∧ b6 + 1 ≤ wr.heap.size ∧ wr.cell? ⟨b6, 0, none⟩ = some (.int .i64 po) ∧ wr.cell? ⟨b6, 1, none⟩ = some (.string ⟨PT.toArray⟩) ∧ Hid (gjoin (off + data.length) (off, data) (ps.drop f) = some ((po, PT), t - f)))
          case first =>
            go_wp2_with fail
            go_loopw [8] (fun i wr => ∃ (t : Nat) (po : Int) (PT : List UInt8), i = .int .i64 t ∧ Below b6 v wr ∧ b6 + 1 ≤ wr.heap.size ∧ wr.cell? ⟨b6, 0, none⟩ = some (.int .i64 po) ∧ wr.cell? ⟨b6, 1, none⟩ = some (.string ⟨PT.toArray⟩) ∧ wr.frozen? ⟨b6, 0, none⟩ = false ∧ wr.frozen? ⟨b6, 1, none⟩ = false ∧ GRel (off + data.length) off mtot data ps f t (po, PT)) (fun i _ => n - (intOf i).toNat)
            case atStart => exact ⟨f, off, data, rfl, Below.refl _ _, hvs, v0, v1, v2, v3, GRel.start (by rw [← HN.out]; exact hf) hv7 (Int.le_refl _) (by omega)⟩
            case round =>
              obtain ⟨t, po, PT, rfl, hbel, hwr, q0, q1, q2, q3, hrel⟩ := hrel
              have HB := Lib.hid hbel
              have HQ : Hid (GC w.heap.size id tot a n c 2 mid off mtot ad 0 cd data wr) := Lib.hid (HVQ.out.below hbel (by omega))
              have HPR : Hid (Pcs w.heap.size wr a ps) := Lib.hid (HPV.out.below hbel (by omega))
              have HBR : Hid (Below w.heap.size w wr) := Lib.hid (HBV.out.trans (hbel.mono (by omega)))
              have HGR := Lib.hid hrel
              obtain ⟨hft, htn, _, hpo0, hpo1, hpo2, hpo3⟩ := hrel
              simp only [pend] at hpo0 hpo1 hpo2 hpo3
              rw [← HN.out] at htn
              clear hbel v0 v1 v2 v3
              by_cases hlt : t < n
              · have g0 : decide (t < n) = true := by simpa using hlt
                have hlt' : t < ps.length := by rw [← HN.out]; exact hlt
                obtain ⟨b, o1, rfl, hbl, hc, hd⟩ := HPR.out t hlt'
                obtain ⟨o, ho⟩ : ∃ o, o = ps[t].1 := ⟨_, rfl⟩
                obtain ⟨T, hT⟩ : ∃ T, T = ps[t].2 := ⟨_, rfl⟩
                have hvp := vgo_all (HVG.out (by omega)) ps[t] (List.getElem_mem hlt')
                have hTl : (T.length : Int) ≤ 1048576 := by have := HS.out ps[t] (List.getElem_mem hlt'); rw [hT]; omega
                have hoe : off ≤ pend ps[t] := by
                  have h1 := HGE.out (by omega)
                  by_cases hft' : f = t
                  · subst hft'; exact h1
                  · have h2 := vgo_sorted (HVG.out (by omega)) f t hlt' (by omega)
                    have h3 : ps[t].1 ≤ pend ps[t] := by simp only [pend]; omega
                    omega
                rw [← ho] at hc
                rw [← hT] at hd
                have hpe : ps[t] = (o, T) := by rw [ho, hT]
                have hpe' : pend ps[t] = o + T.length := by rw [hpe]
                have ho0 : 0 ≤ o := by rw [ho]; exact hvp.1
                have ho2 : o + T.length ≤ mtot := by rw [← hpe']; exact hvp.2.2.1
                rw [hpe'] at hoe
                have HPE := Lib.hid hpe
                clear ho hT hvp hpe hpe'
                have k0 := HQ.out.w2
                have k1 := HQ.out.m2
                have k2 := HQ.out.m5
                by_cases hle : o ≤ off + (data.length : Int)
                · have g1 : decide (o ≤ off + (data.length : Int)) = true := by simpa using hle
                  obtain ⟨okb, ro, RT, HJ, HJC⟩ : ∃ (okb : Bool) (ro : Int) (RT : List UInt8), Hid (∀ w, Calls Try.prog 34 #[.agg #[.int .i64 po, .string ⟨PT.toArray⟩], .agg #[.int .i64 o, .string ⟨T.toArray⟩]] w fun e w' => e = .returned (.tuple #[.agg #[.int .i64 ro, .string ⟨RT.toArray⟩], .bool okb]) ∧ Below w.heap.size w w') ∧ Hid ((okb = true ∧ joinS (po, PT) (o, T) = some (ro, RT)) ∨ (okb = false ∧ joinS (po, PT) (o, T) = none)) := by
                    cases hj : joinS (po, PT) (o, T) with
                    | none => exact ⟨false, 0, [], Lib.hid (fun w => join_none w (by omega) (by omega) (by omega) (by omega) (by omega) (by omega) (by omega) (by omega) hj), Lib.hid (.inr ⟨rfl, rfl⟩)⟩
                    | some r => exact ⟨true, r.1, r.2, Lib.hid (fun w => join_some w (by omega) (by omega) (by omega) (by omega) (by omega) (by omega) (by omega) (by omega) hj), Lib.hid (.inl ⟨rfl, rfl⟩)⟩
                  go_wp2_with fail
                  go_quiet (fail)
                  go_upto_region 15 with fail
                  obtain ⟨u, hu⟩ : ∃ u, u = wr.drewN nq := ⟨_, rfl⟩
                  have hbu : Below wr.heap.size wr u := by rw [hu]; exact below_drewN (Below.refl _ _) _
                  have hus : wr.heap.size ≤ u.heap.size := hbu.size
                  rw [← hu]
                  clear hu
                  have k0 := (hbu.cell (p := ⟨w.heap.size, 2, none⟩) (by simp; omega)).trans HQ.out.w2
                  have t0 := (hbu.cell (p := ⟨b6, 0, none⟩) (by simp; omega)).trans q0
                  have t1 := (hbu.cell (p := ⟨b6, 1, none⟩) (by simp; omega)).trans q1
                  have t2 := (hbu.frozen (p := ⟨b6, 0, none⟩) (by simp; omega)).trans q2
                  have t3 := (hbu.frozen (p := ⟨b6, 1, none⟩) (by simp; omega)).trans q3
                  have hc1 := (hbu.cell (p := ⟨b, o1 + t * 2, none⟩) (by simp; omega)).trans hc
                  have hd1 := (hbu.cell (p := ⟨b, o1 + t * 2 + 1, none⟩) (by simp; omega)).trans hd
                  have HBU := Lib.hid hbu
                  clear hbu k1 k2 q0 q1 q2 q3 hc hd
                  go_cut [9, 10] from 67 to 102 (fun s9 s10 wx => ∃ g : Nat, u.heap.size ≤ g ∧ s9 = .pointer (some ⟨g, 0, none⟩) ∧ s10 = .bool okb ∧ wx.cell? ⟨g, 0, none⟩ = some (.int .i64 ro) ∧ wx.cell? ⟨g, 1, none⟩ = some (.string ⟨RT.toArray⟩) ∧ Below u.heap.size u wx)
                  case first =>
                    have k0' := fun x => cell_a1 k0 x
                    have t0' := fun x => cell_a1 t0 x
                    have t1' := fun x => cell_a1 t1 x
                    have hc1' := fun x => cell_a1 hc1 x
                    have hd1' := fun x => cell_a1 hd1 x
                    go_region_with (first | (go_at_call 34; refine (HJ.out _).mono ?_; rintro e x ⟨rfl, hb⟩; (try (refine and_four (box_kept (u := u) hb) ?_; intro e0 e1 e2 e3))))
                    all_goals
                      go_wp2_with fail
                      go_meet
                      case rel =>
                        first
                          | exact ⟨u.heap.size, Nat.le_refl _, rfl, rfl, by simp [go_sem, e0], by simp [go_sem, e1], ((((Below.refl _ u).alloc (Nat.le_refl _) _).drew.trans (hb.mono (by simp))).setCell (by simp) _).setCell (by simp) _⟩
                          | exact ⟨x.heap.size, by have := hb.size; simpa using this, rfl, rfl, by simp [go_sem], by simp [go_sem], ((Below.refl _ u).drew.trans hb).alloc (by have := hb.size; simpa using this) _⟩
                  case rest =>
                  obtain ⟨g, hg, rfl, rfl, g2, g3, hbx⟩ := hcut
                  have HX : Hid (Below wr.heap.size wr wc) := Lib.hid (HBU.out.trans (hbx.mono hus))
                  have HQX : Hid (GC w.heap.size id tot (some ⟨b, o1, none⟩) n c 2 mid off mtot ad 0 cd data wc) := Lib.hid (HQ.out.below HX.out (by omega))
                  have s0 := (hbx.cell (p := ⟨b6, 0, none⟩) (by simp; omega)).trans t0
                  have s1 := (hbx.cell (p := ⟨b6, 1, none⟩) (by simp; omega)).trans t1
                  have s2 := (hbx.frozen (p := ⟨b6, 0, none⟩) (by simp; omega)).trans t2
                  have s3 := (hbx.frozen (p := ⟨b6, 1, none⟩) (by simp; omega)).trans t3
                  have hxs : b6 + 1 ≤ wc.heap.size := Nat.le_trans hwr HX.out.size
                  have hgb : b6 < g := by omega
                  clear hbx t0 t1 t2 t3 hc1 hd1 k0 g1 g0
                  obtain ⟨_, _, _, _, _, _, _, _, _, r0, r1, r2, f0, f1, f2, _⟩ := HQX.out
                  cases okb with
                  | false =>
                    have HF : Hid (R = (11, 0, 0, [])) := Lib.hid (by
                      have hjn : joinS (po, PT) (o, T) = none := by
                        rcases HJC.out with ⟨h, _⟩ | ⟨_, h⟩
                        · exact absurd h (by decide)
                        · exact h
                      have := HGR.out.fails hlt' (by rw [HPE.out]; exact hle) (by rw [HPE.out]; exact hjn)
                      rw [HR2.out, gRest, HGF.out, this])
                    go_wp2_with fail
                    refine bodyPost_ret (v := .tuple #[.agg #[.int .i64 0, .int .i64 0, .slice none 0 0], .int .i64 11]) (by simp [results, Try.results18, go_sem, r0, r1, r2]) rfl (ret_err HF.out (HBR.out.trans (HX.out.mono (by omega))))
                  | true =>
                    have HN1 : Hid (GRel (off + data.length) off mtot data ps f (t + 1) (ro, RT)) := Lib.hid (by
                      have hjs : joinS (po, PT) (o, T) = some (ro, RT) := by
                        rcases HJC.out with ⟨_, h⟩ | ⟨h, _⟩
                        · exact h
                        · exact absurd h (by decide)
                      refine HGR.out.next hlt' (by rw [HPE.out]; exact hle) (by rw [HPE.out]; exact hjs) (by rw [HPE.out]; exact ho0) (by rw [HPE.out]; exact hoe) (by rw [HPE.out]; exact ho2))
                    go_wp2_with fail
                    go_roundw
                    case rel => exact ⟨t + 1, ro, RT, by go_num, ((HB.out.trans (HX.out.mono (by omega))).setCell (by simp) _).setCell (by simp) _, by simp; omega, by simp [go_sem, s0], by simp [go_sem, s1], by simp [go_sem, s2], by simp [go_sem, s3], HN1.out⟩
                    case measure => simp [intOf]; omega
                · have g1 : decide (o ≤ off + (data.length : Int)) = false := by simpa using hle
                  have HD := Lib.hid (HGR.out.done (fun _ => by rw [HPE.out]; exact hle))
                  go_wp2_with fail
                  go_quiet (fail)
                  go_wp2_with fail
                  go_meet
                  case rel => exact ⟨t, po, PT, hft, htn, rfl, below_drewN HB.out _, hwr, q0, q1, HD⟩
              · have g0 : decide (t < n) = false := by simpa using hlt
                obtain rfl : t = n := by omega
                have k0 := HQ.out.w2
                have HD := Lib.hid (HGR.out.done (fun h => by rw [← HN.out] at h; omega))
                go_wp2_with fail
                go_quiet (fail)
                go_wp2_with fail
                go_meet
                case rel => exact ⟨t, po, PT, hft, htn, rfl, below_drewN HB.out _, hwr, q0, q1, HD⟩
          case rest =>
          obtain ⟨t, po, PT, hft, htn, rfl, hbel, hwr, q0, q1, HD⟩ := hcut
          obtain ⟨y, hy⟩ : ∃ y, y = wc := ⟨_, rfl⟩
          rw [← hy] at hbel hwr q0 q1 ⊢
          clear hy v0 v1 v2 v3
          have HY : Hid (GC w.heap.size id tot a n c 2 mid off mtot ad 0 cd data y) := Lib.hid (HVQ.out.below hbel (by omega))
          have HPY : Hid (Pcs w.heap.size y a ps) := Lib.hid (HPV.out.below hbel (by omega))
          have HBY : Hid (Below w.heap.size w y) := Lib.hid (HBV.out.trans (hbel.mono (by omega)))
          clear hbel HVQ HPV HBV
          have HF : Hid (R = (0, mid, mtot, ps.take f ++ (po, PT) :: ps.drop t)) := Lib.hid (by
            rw [HR2.out, gRest, HGF.out, HD.out]
            simp only
            rw [show f + (t - f) = t from by omega])
          clear HR2 HD HGF HGE HVG
          obtain ⟨mk, hmk⟩ : ∃ mk : Nat, (n : Int) - ((t : Int) - (f : Int)) + 1 = (mk : Int) := ⟨n - (t - f) + 1, by omega⟩
          have hmkL : mk ≤ f + 1 + (n - t) := by omega
          have hmkG : f + 1 + (n - t) ≤ mk := by omega
          obtain ⟨info, hi1, hi2, hi3, hi4⟩ := info_parts infoPiece
          obtain ⟨w0, w1, w2, m0, m1, m2, m3, m4, m5, r0, r1, r2, f0, f1, f2, hs'⟩ := HY.out
          obtain ⟨A1, c1, hA1, hsl1⟩ := slice_hi a n c f (by omega)
          obtain ⟨A2, c2, hA2, _, hsl2⟩ := slice_lo a n c t htn hcap
          have HA1 : Hid (Pcs w.heap.size y A1 (ps.take f)) := Lib.hid (hA1 _ _ _ HPY.out)
          have HA2 : Hid (Pcs w.heap.size y A2 (ps.drop t)) := Lib.hid (hA2 _ _ _ HN.out.symm HPY.out)
          clear hA1 hA2
          have hsz2 : (Try.prog.info? 40).map (·.size) = some 2 := by rw [hi1]; simp [hi3]
          obtain ⟨X1, hX1⟩ : ∃ X1, X1 = pcells (ps.take f) := ⟨_, rfl⟩
          obtain ⟨X2, hX2⟩ : ∃ X2, X2 = pcells (ps.drop t) := ⟨_, rfl⟩
          have hX1l : X1.length = f * 2 := by rw [hX1, length_pcells, List.length_take, ← HN.out]; omega
          have hX2l : X2.length = (n - t) * 2 := by rw [hX2, length_pcells, List.length_drop, ← HN.out]
          have HX1 := Lib.hid hX1
          have HX2 := Lib.hid hX2
          clear hX1 hX2
          go_wp2_with (at_make; refine wpList_make_full _ rfl _ _ 29 rfl y.heap.size 40 info _ 2 Try.underlying29 hi1 hi2 hi3 _ _ _ _ mk rfl rfl rfl rfl (by rw [hi4]; omega) (by unfold maxLen; omega) (Nat.le_refl _) ?_)
          intro y1 hown hgrow
          obtain ⟨L, hL, hrow⟩ := made_row hown
          have hb1 := grown_below hgrow
          have HROW := Lib.hid hrow
          have HB1 := Lib.hid hb1
          have HG1 : Hid (GC w.heap.size id tot a n c 2 mid off mtot ad 0 cd data y1) := Lib.hid (HY.out.below hb1 hs')
          have e0 := (hb1.cell (p := ⟨w.heap.size, 2, none⟩) (by simp; omega)).trans w2
          have hlt1 : y.heap.size < y1.heap.size := (Array.getElem?_eq_some_iff.1 hrow).1
          clear hown hgrow hb1 hrow w0 w1 w2 m0 m1 m2 m3 m4 m5 r0 r1 r2 f0 f1 f2
          have HSRC : Hid (0 < f → (some (⟨y.heap.size, 0, none⟩ : Addr)) = some ⟨y.heap.size, 0, none⟩ ∧ ∃ ad, A1 = some ad ∧ ∀ j v, X1[j]? = some v → y1.cell? (ad.add j) = some v) := Lib.hid (fun h0 => by
            refine ⟨rfl, ?_⟩
            rw [HX1.out]
            exact (HA1.out.below HB1.out (by omega)).src (by rw [List.length_take, ← HN.out]; omega))
          go_wp2_with (refine wpList_copy_spliceN rfl (.tmp 112) (.tmp 116) 29 29 rfl 40 2 Try.underlying29 hsz2 (some ⟨y.heap.size, 0, none⟩) A1 mk mk f c1 rfl rfl y.heap.size 0 L 40 HROW.out X1 f (Nat.min_eq_left (by omega)).symm hX1l HSRC.out (by omega) (fun v hv => pcells_one (by rw [HX1.out] at hv; exact hv)) y.heap.size y HB1.out (Nat.le_refl _) ?_)
          intro y2 HROW2 hb2
          have HB2 := Lib.hid hb2
          have hLl : (splice L 0 X1).length = mk * 2 := by rw [length_splice _ _ _ (by omega)]; exact hL
          obtain ⟨x0, hx0⟩ := row_cell (k := f * 2) HROW2.out (by omega)
          obtain ⟨x1, hx1⟩ := row_cell (k := f * 2 + 1) HROW2.out (by omega)
          have hx2 := row_free (k := f * 2) HROW2.out
          have hx3 := row_free (k := f * 2 + 1) HROW2.out
          have q0' := (hb2.cell (p := ⟨b6, 0, none⟩) (by simp; omega)).trans q0
          have q1' := (hb2.cell (p := ⟨b6, 1, none⟩) (by simp; omega)).trans q1
          have hfm : f < mk := by omega
          obtain ⟨y3, hy3⟩ : ∃ y3, (y2.setCell ⟨y.heap.size, f * 2, none⟩ (.int .i64 po)).setCell ⟨y.heap.size, f * 2 + 1, none⟩ (.string ⟨PT.toArray⟩) = y3 := ⟨_, rfl⟩
          have HROW3 : Hid (y3.heap[y.heap.size]? = some (.cells (((splice L 0 X1).set (f * 2) (.int .i64 po)).set (f * 2 + 1) (.string ⟨PT.toArray⟩)).toArray 40 (0, 0))) := Lib.hid (by rw [← hy3]; exact row_set _ _ HROW2.out)
          have HB3 : Hid (Below y.heap.size y y3) := Lib.hid (by rw [← hy3]; exact (hb2.setCell (by simp) _).setCell (by simp) _)
          have HY3 := Lib.hid hy3
          clear hy3 hb2
          go_wp2_with fail
          rw [HY3.out]
          clear HY3 hx0 hx1 hx2 hx3 q0' q1' q0 q1 e0
          have z0 := (HB3.out.cell (p := ⟨w.heap.size, 2, none⟩) (by simp; omega)).trans HY.out.w2
          obtain ⟨A3, c3, _, hA3, hsl3⟩ := slice_lo (some ⟨y.heap.size, 0, none⟩) mk mk (f + 1) (by omega) (Nat.le_refl _)
          rw [show ((f + 1 : Nat) : Int) = (f : Int) + 1 from by omega] at hsl3
          have HA3 := Lib.hid hA3
          clear hA3
          have HSRC2 : Hid (0 < n - t → A3 = some (⟨y.heap.size, f * 2 + 2, none⟩ : Addr) ∧ ∃ ad, A2 = some ad ∧ ∀ j v, X2[j]? = some v → y3.drew.cell? (ad.add j) = some v) := Lib.hid (fun h0 => by
            refine ⟨?_, ?_⟩
            · rw [HA3.out _ rfl (by omega), Go.WideShapes.add_plain]; congr 2; omega
            · rw [HX2.out]
              exact (HA2.out.below HB3.out.drew (by omega)).src (by rw [List.length_drop, ← HN.out]; omega))
          have hwf : IntKind.i64.wrap ((f : Int) + 1) = (f : Int) + 1 := IntWalk.i64_in _ (by omega)
          go_region_law (refine step_copy_spliceN rfl (.tmp 125) (.tmp 129) 29 29 rfl 40 2 Try.underlying29 hsz2 A3 A2 (mk - (f + 1)) c3 (n - t) c2 rfl rfl y.heap.size (f * 2 + 2) _ 40 HROW3.out X2 (n - t) (Nat.min_eq_left (by omega)).symm hX2l HSRC2.out (by simp only [List.length_set]; omega) (fun v hv => pcells_one (by rw [HX2.out] at hv; exact hv)) y.heap.size y HB3.out.drew (Nat.le_refl _) ?_; intro y4 HROW4 hb4)
          all_goals
            have HY4 : Hid (GC w.heap.size id tot a n c 2 mid off mtot ad 0 cd data y4) := Lib.hid (HY.out.below hb4 hs')
            obtain ⟨w0, w1, w2, m0, m1, m2, m3, m4, m5, r0, r1, r2, f0, f1, f2, _⟩ := HY4.out
            go_wp2_with fail
            refine bodyPost_ret (v := .tuple #[.agg #[.int .i64 mid, .int .i64 mtot, .slice (some ⟨y.heap.size, 0, none⟩) mk mk], .int .i64 0]) (by simp [results, Try.results18, go_sem, r0, r1, r2]) rfl (gathered_ok (t := 40) HF.out (by simp only [List.length_append, List.length_take, List.length_cons, List.length_drop, ← HN.out]; omega) ?_ (HBY.out.trans (hb4.mono HBY.out.size)) hs')
            have hfin := row_final L X1 X2 (.int .i64 po) (.string ⟨PT.toArray⟩) (by omega)
            rw [hX1l] at hfin
            have hr4 := HROW4.out
            rw [hfin, HX1.out, HX2.out] at hr4
            rw [pcells_append, pcells_cons]
            exact hr4
    · have HF : Hid (R = (9, 0, 0, [])) := Lib.hid (by rw [HR.out, gatherS, hv, if_pos hk]; rfl)
      have hk' : (kind == 2) = false := by simpa using hk
      clear hv hk
      go_wp2_with fail
      refine bodyPost_ret (v := .tuple #[.agg #[.int .i64 0, .int .i64 0, .slice none 0 0], .int .i64 9]) (by simp [results, Try.results18, go_sem, r0, r1, r2]) rfl (ret_err HF.out HBX.out)

end Go.Proofs.Ytlijaacjfnjmjaa
