/- Joined texts: Plain, GetInt, RefInt, RefPut, Builder, Range, WDigits, WWriteInt, PBase, PText, PlainLaw, PLaw. -/
import Derived.Test.YtdedfkljaeloiaaGreatDoorProg
import Derived.WalkKit
import Derived.WalkSpells
import Derived.WalkLawsBesides
import Derived.Lib.Hide
import Derived.RegionTactic
import Derived.ChangeAlike
import Derived.Deep.RegionWith
import Derived.Lib.FrozenHead2
import Derived.Lib.OthersKept
import Derived.Lib.Builder
import Derived.Lib.UnsafeStr
import Derived.RangeFuncNested
import Derived.RangeFuncBound
import Derived.RangeFuncCalls
import Derived.RangeFuncLeaves
import Derived.Shelf.Abstract
import Derived.Shelf.RegionOpen
import Derived.OwnWalkIn
import Derived.TacticsInMore
import Derived.LoopNIn
import Derived.LoopIn
import Derived.Deep.QuietTactic
import Derived.BigQuiet
import Derived.Lib.QuietBelow
import Derived.Laws.StructEq
import Derived.ChangeKeysEq
import Derived.Deep.RegionLaw
import Derived.Deep.AppendLies
import Derived.Deep.DeepCutAuto
import Derived.Deep.CutBlock
import Derived.Deep.CutRange
import Derived.Laws.Concat
import Derived.Lib.IndexBytes

/- Plain functions on lists of bytes that say what the codec computes; no program in sight. -/
namespace Go.Proofs.YtdedfkljaeloiaaGreatDoor
-- short names for the walks' rewriting of slots
theorem zA {α : Type} {l : List α} {i : Nat} (h : i < l.toArray.size) : l.toArray[i] = l[i]'h := rfl
theorem zB {α : Type} (a : α) (l : List α) (i : Nat) (h : i + 1 < (a :: l).length) : (a :: l)[i + 1] = l[i]'(Nat.lt_of_succ_lt_succ h) := rfl
theorem zC {α : Type} (a : α) (l : List α) (h : 0 < (a :: l).length) : (a :: l)[0] = a := rfl
theorem zD {α : Type} (l : List α) (i : Nat) (a : α) : l.toArray.setIfInBounds i a = (l.set i a).toArray := by simp
theorem zE {α : Type} {a b : α} {l : List α} : (a :: l).set 0 b = b :: l := rfl
theorem zF {α : Type} {a b : α} {l : List α} {i : Nat} : (a :: l).set (i + 1) b = a :: l.set i b := rfl
end Go.Proofs.YtdedfkljaeloiaaGreatDoor
namespace Go.Proofs.YtdedfkljaeloiaaGreatDoor.Cw

/-- The digits of a number in base 128 (at most ten). -/
def encF : Nat → Nat → List UInt8
  | 0, _ => []
  | f + 1, n => if n < 128 then [UInt8.ofNat n] else UInt8.ofNat (n % 128 + 128) :: encF f (n / 128)
def enc (n : Nat) : List UInt8 := encF 10 n

def getGo : Nat → Nat → Int → Int → List UInt8 → Int × Int × Int
  | 0, _, _, _, _ => (0, 0, 13)
  | _ + 1, _, _, _, [] => (0, 0, 12)
  | f + 1, i, n, u, c :: r =>
    if 128 ≤ c.toNat then getGo f (i + 1) (n + ((c.toNat : Int) - 128) * u) (u * 128) r
    else if (c.toNat = 0 ∧ 0 < i) ∨ 1099511627776 < n + (c.toNat : Int) * u then (0, 0, 13)
    else (n + (c.toNat : Int) * u, (i : Int) + 1, 0)
def getI (l : List UInt8) : Int × Int × Int := getGo 6 0 0 1 l

def getT (l : List UInt8) : List UInt8 × Int × Int :=
  if (getI l).2.2 ≠ 0 then ([], 0, (getI l).2.2)
  else if 65536 < (getI l).1 then ([], 0, 13)
  else if (l.length : Int) - (getI l).2.1 < (getI l).1 then ([], 0, 12)
  else ((l.drop (getI l).2.1.toNat).take (getI l).1.toNat, (getI l).2.1 + (getI l).1, 0)

def inR (n : Int) : Bool := decide (0 ≤ n) && decide (n ≤ 1099511627776)

theorem inR_iff (n : Int) : inR n = true ↔ 0 ≤ n ∧ n ≤ 1099511627776 := by simp [inR]
theorem inR_false (n : Int) : inR n = false ↔ ¬ (0 ≤ n ∧ n ≤ 1099511627776) := by
  rw [← inR_iff]; cases inR n <;> simp

end Go.Proofs.YtdedfkljaeloiaaGreatDoor.Cw

/- What codec.GetInt and the reference's GetInt return. -/
namespace Go.Proofs.YtdedfkljaeloiaaGreatDoor
open Go.RowKit

theorem dmul (d b : Int) (h0 : 0 ≤ d) (h1 : d ≤ 255) (h2 : 0 ≤ b) (h3 : b ≤ 34359738368) : 0 ≤ d * b ∧ d * b ≤ 8761733283840 :=
  ⟨Int.mul_nonneg h0 h2, by have := Int.mul_le_mul h1 h3 h2 (by omega); omega⟩

/-- A byte of a string, as a number under a name. -/
theorem idx (s : ByteArray) (k : Nat) (hs : k < s.size) : ∃ d : Int, 0 ≤ d ∧ d ≤ 255 ∧ d = (s.data.toList.getD k 0).toNat ∧ ∀ w, (Instr.index 9 (.string s) (.int .i64 k)).run Tryz.prog w = .ok (.int .u8 d) w := by
  have e : s.data.toList.getD k 0 = s[k] := by
    have hk : k < s.data.toList.length := by simpa using hs
    simp [List.getD, Array.getElem?_eq_getElem (show k < s.data.size from hs)]; rfl
  refine ⟨s[k].toNat, by omega, by have := s[k].toNat_lt; omega, by rw [e], fun w => ?_⟩
  simp [go_sem, hs]

theorem drop_getD (l : List UInt8) (k : Nat) (h : k < l.length) : l.drop k = l.getD k 0 :: l.drop (k + 1) := by
  rw [List.drop_eq_getElem_cons h]; simp [List.getD, h]

theorem pow_le (k : Nat) (h : k < 6) : (128 : Int) ^ k ≤ 34359738368 := by
  match k, h with
  | 0, _ => decide
  | 1, _ => decide
  | 2, _ => decide
  | 3, _ => decide
  | 4, _ => decide
  | 5, _ => decide

def GetRel (s : ByteArray) (k : Nat) (a b : Int) : Prop :=
  b = 128 ^ k ∧ a < b ∧ Cw.getGo (6 - k) k a b (s.data.toList.drop k) = Cw.getI s.data.toList

theorem GetRel.go {s : ByteArray} {k : Nat} {a b d : Int} (h : GetRel s k a b) (hk : k < 6) (hs : k < s.size) (ha : 0 ≤ a) (hd : d = (s.data.toList.getD k 0).toNat) (hc : 128 ≤ d) :
    GetRel s (k + 1) (a + (d - 128) * b) (b * 128) := by
  obtain ⟨hb, hab, h⟩ := h
  have hdl : d ≤ 255 := by have := (s.data.toList.getD k 0).toNat_lt; omega
  refine ⟨by rw [hb, Int.pow_succ], ?_, ?_⟩
  · have : (d - 128) * b ≤ 127 * b := Int.mul_le_mul_of_nonneg_right (by omega) (by omega)
    omega
  · rw [drop_getD _ _ (by simpa using hs), show 6 - k = (6 - (k + 1)) + 1 from by omega] at h
    rw [← h, Cw.getGo, if_pos (by omega), hd]

theorem GetRel.bad {s : ByteArray} {k : Nat} {a b d : Int} (h : GetRel s k a b) (hk : k < 6) (hs : k < s.size) (hd : d = (s.data.toList.getD k 0).toNat) (hc : d < 128) (hx : (d = 0 ∧ 0 < k) ∨ 1099511627776 < a + d * b) :
    Cw.getI s.data.toList = (0, 0, 13) := by
  obtain ⟨_, _, h⟩ := h
  rw [drop_getD _ _ (by simpa using hs), show 6 - k = (6 - (k + 1)) + 1 from by omega] at h
  rw [← h, Cw.getGo, if_neg (by omega), if_pos]
  rcases hx with ⟨h1, h2⟩ | h2
  · exact .inl ⟨by omega, h2⟩
  · exact .inr (by rw [← hd]; exact h2)

theorem GetRel.good {s : ByteArray} {k : Nat} {a b d : Int} (h : GetRel s k a b) (hk : k < 6) (hs : k < s.size) (hd : d = (s.data.toList.getD k 0).toNat) (hc : d < 128) (hx : d ≠ 0 ∨ k = 0) (hy : a + d * b ≤ 1099511627776) :
    Cw.getI s.data.toList = (a + d * b, (k : Int) + 1, 0) := by
  obtain ⟨_, _, h⟩ := h
  rw [drop_getD _ _ (by simpa using hs), show 6 - k = (6 - (k + 1)) + 1 from by omega] at h
  rw [← h, Cw.getGo, if_neg (by omega), if_neg, hd]
  rintro (⟨h1, h2⟩ | h2)
  · omega
  · rw [← hd] at h2; omega

theorem GetRel.short {s : ByteArray} {k : Nat} {a b : Int} (h : GetRel s k a b) (hk : k < 6) (hs : s.size ≤ k) : Cw.getI s.data.toList = (0, 0, 12) := by
  obtain ⟨_, _, h⟩ := h
  rw [List.drop_eq_nil_of_le (by simpa using hs), show 6 - k = (6 - (k + 1)) + 1 from by omega] at h
  rw [← h, Cw.getGo]

theorem GetRel.out {s : ByteArray} {a b : Int} (h : GetRel s 6 a b) : Cw.getI s.data.toList = (0, 0, 13) := by
  obtain ⟨_, _, h⟩ := h
  rw [← h]; rfl

theorem GetRel.start (s : ByteArray) : GetRel s 0 0 1 := ⟨rfl, by omega, rfl⟩

def T3 (x : Int × Int × Int) : Ending := .returned (.tuple #[.int .i64 x.1, .int .i64 x.2.1, .int .i64 x.2.2])
theorem T3_of {x : Int × Int × Int} {a b c : Int} (h : x = (a, b, c)) : Ending.returned (.tuple #[.int .i64 a, .int .i64 b, .int .i64 c]) = T3 x := by rw [h]; rfl

set_option maxHeartbeats 400000 in
theorem getInt_any (s : ByteArray) (w : World) :
    Calls Tryz.prog 194 #[.string s] w fun e w' => e = T3 (Cw.getI s.data.toList) ∧ w = w' := by
  go_enter Tryz.func194, Tryz.ntmps194
  go_wp2
  go_loop [5, 6, 9] (fun n u i => ∃ (k : Nat) (a b : Int), k ≤ 6 ∧ 0 ≤ a ∧ 1 ≤ b ∧ i = .int .i64 k ∧ n = .int .i64 a ∧ u = .int .i64 b ∧ GetRel s k a b) (fun _ _ i => 6 - (intOf i).toNat)
  case atStart => exact ⟨0, 0, 1, by omega, by omega, by omega, rfl, rfl, rfl, GetRel.start s⟩
  case round =>
    obtain ⟨k, a, b, hk, ha, hb, rfl, rfl, rfl, hr⟩ := hrel
    by_cases hk6 : k < 6
    · have hb2 : b ≤ 34359738368 := by rw [hr.1]; exact pow_le k hk6
      have hab := hr.2.1
      by_cases hs : k < s.size
      · obtain ⟨d, hd0, hd, hds, hidx⟩ := idx s k hs
        have HD := Lib.hid hds
        clear hds
        have hm1 := dmul d b (by omega) hd (by omega) hb2
        by_cases hc : 128 ≤ d
        · have hm2 := dmul (d - 128) b (by omega) (by omega) (by omega) hb2
          have HN := Lib.hid (hr.go hk6 hs ha HD.out hc)
          clear hr
          go_wp2
          go_round
          case rel => exact ⟨k + 1, _, _, by omega, by omega, by omega, by go_num, rfl, rfl, HN.out⟩
          case measure => simp [intOf]; omega
        · have hc' : d < 128 := by omega
          by_cases hz : d = 0
          · by_cases hk0 : 0 < k
            · have HN := Lib.hid (T3_of (hr.bad hk6 hs HD.out hc' (.inl ⟨hz, hk0⟩)))
              clear hr
              subst hz
              go_wp2
              all_goals first | (exfalso; omega) | (go_ret3; exact ⟨HN.out, rfl⟩)
            · have hm3 : a + d * b ≤ 1099511627776 := by subst hz; have := hr.1; (obtain rfl : k = 0 := by omega); simp at this; simp; omega
              have HN := T3_of (hr.good hk6 hs HD.out hc' (by omega) hm3)
              clear hr
              subst hz
              rw [Int.zero_mul, Int.add_zero] at HN
              have HM : Hid (Ending.returned (.tuple #[.int .i64 a, .int .i64 1, .int .i64 0]) = T3 (Cw.getI s.data.toList)) := by
                obtain rfl : k = 0 := by omega
                exact HN
              have HN := Lib.hid HN
              go_wp2
              all_goals first | (exfalso; omega) | (go_ret3; first | exact ⟨HN.out, rfl⟩ | exact ⟨HM.out, rfl⟩)
          · have hz' : (d == 0) = false := by simpa using hz
            by_cases hx : 1099511627776 < a + d * b
            · have HN := Lib.hid (T3_of (hr.bad hk6 hs HD.out hc' (.inr hx)))
              clear hr
              go_wp2
              all_goals first | (exfalso; omega) | (go_ret3; exact ⟨HN.out, rfl⟩)
            · have HN := Lib.hid (T3_of (hr.good hk6 hs HD.out hc' (.inl hz) (by omega)))
              clear hr
              go_wp2
              all_goals first | (exfalso; omega) | (go_ret3; exact ⟨HN.out, rfl⟩)
      · have HN := Lib.hid (T3_of (hr.short hk6 (by omega)))
        clear hr
        go_wp2
        go_ret3
        exact ⟨HN.out, rfl⟩
    · obtain rfl : k = 6 := by omega
      have HN := Lib.hid (T3_of hr.out)
      clear hr
      go_wp2
      go_ret3
      exact ⟨HN.out, rfl⟩

end Go.Proofs.YtdedfkljaeloiaaGreatDoor

/- What the reference's GetInt returns: the same as codec.GetInt. -/
namespace Go.Proofs.YtdedfkljaeloiaaGreatDoor
open Go.RowKit

end Go.Proofs.YtdedfkljaeloiaaGreatDoor

/- What the reference's put, PutInt and Size return. -/
namespace Go.Proofs.YtdedfkljaeloiaaGreatDoor
open Go.RowKit

def EncFits (f : Nat) (n : Int) : Prop := n < 128 ^ f

theorem conv_at (W : World) (b : Nat) (c : Int) (h : W.cell? ⟨b, 0, none⟩ = some (.int .u8 c)) :
    (convert 137 9 (.slice (some ⟨b, 0, none⟩) 1 1)).run Tryz.prog W = .ok (.string ⟨#[UInt8.ofNat c.toNat]⟩) W := by
  rw [run_convert_bytes_string W 137 9 5 (some ⟨b, 0, none⟩) 1 1 Tryz.underlying137 Tryz.underlying5 Tryz.underlying9]
  have hl := run_loadCells_list (P := Tryz.prog) W ⟨b, 0, none⟩ [.int .u8 c] (fun j v hj => by
    match j, hj with
    | 0, hj => simp at hj; subst hj; simpa [Addr.add] using h)
  rw [run_bytesToString W ⟨b, 0, none⟩ 1 1 [c] hl]
  rfl

theorem conv_new (w : World) (c : Int) : (convert 137 9 (.slice (some ⟨w.heap.size, 0, none⟩) 1 1)).run Tryz.prog (w.alloc (.cells #[.int .u8 c] 5)) = .ok (.string ⟨#[UInt8.ofNat c.toNat]⟩) (w.alloc (.cells #[.int .u8 c] 5)) :=
  conv_at _ _ c (by simp)

theorem conv_new_drew (w : World) (c : Int) : (convert 137 9 (.slice (some ⟨w.heap.size, 0, none⟩) 1 1)).run Tryz.prog (w.alloc (.cells #[.int .u8 c] 5)).drew = .ok (.string ⟨#[UInt8.ofNat c.toNat]⟩) (w.alloc (.cells #[.int .u8 c] 5)).drew :=
  conv_at _ _ c (by simp)

theorem encF_small (f : Nat) (n : Int) (h : n < 128) : Cw.encF (f + 1) n.toNat = [UInt8.ofNat n.toNat] := by
  rw [Cw.encF, if_pos (by omega)]

theorem encF_great (f : Nat) (n : Int) (h : 128 ≤ n) : Cw.encF (f + 1) n.toNat = UInt8.ofNat (128 + n % 128).toNat :: Cw.encF f (n / 128).toNat := by
  rw [Cw.encF, if_neg (by omega)]
  rw [show n.toNat % 128 + 128 = (128 + n % 128).toNat from by omega, show n.toNat / 128 = (n / 128).toNat from by omega]

theorem encF_length : ∀ (f n : Nat), (Cw.encF f n).length ≤ f
  | 0, _ => Nat.le_refl _
  | f + 1, n => by
    unfold Cw.encF
    have := encF_length f (n / 128)
    split <;> simp; omega

theorem ret_int {k : IntKind} {a b : Int} (h : a = b) : Ending.returned (.int k a) = .returned (.int k b) := by rw [h]

theorem ret_str {l l' : List UInt8} {s : ByteArray} (hs : s = ⟨l.toArray⟩) (h : l = l') : Ending.returned (.string s) = .returned (.string ⟨l'.toArray⟩) := by rw [hs, h]

set_option maxHeartbeats 1000000 in
theorem refPut_any (f : Nat) : ∀ (n : Int) (w : World), f ≤ 9 → EncFits (f + 1) n → 0 ≤ n → n ≤ 140737488355328 →
    Calls Tryz.prog 100 #[.int .i64 n] w fun e w' => e = .returned (.string ⟨(Cw.encF (f + 1) n.toNat).toArray⟩) ∧ Below w.heap.size w w' := by
  induction f with
  | zero =>
    intro n w _ h h0 _
    have h1 : n < 128 := by unfold EncFits at h; simpa using h
    clear h
    have hcv := conv_new
    have HE := Lib.hid (encF_small 0 n h1)
    go_enter Tryz.func100, Tryz.ntmps100
    go_wp2_with fail
    go_ret
    exact ⟨ret_str rfl HE.out.symm, (Below.refl _ _).alloc (Nat.le_refl _) _⟩
  | succ f ih =>
    intro n w hf10 h h0 h2
    have IH := Lib.hid ih
    clear ih
    have hcv := conv_new
    by_cases h1 : n < 128
    · have HE := Lib.hid (encF_small (f + 1) n h1)
      go_enter Tryz.func100, Tryz.ntmps100
      go_wp2_with fail
      go_ret
      exact ⟨ret_str rfl HE.out.symm, (Below.refl _ _).alloc (Nat.le_refl _) _⟩
    · have HE := Lib.hid (encF_great (f + 1) n (by omega))
      have HF : Hid (EncFits (f + 1) (n / 128)) := by
        unfold EncFits at h ⊢
        rw [Int.pow_succ] at h
        exact Int.ediv_lt_of_lt_mul (by omega) h
      clear h
      have hcv2 := conv_new_drew
      obtain ⟨L, HL⟩ : ∃ L, L = Cw.encF (f + 1) (n / 128).toNat := ⟨_, rfl⟩
      have ihL : Hid (∀ w : World, Calls Tryz.prog 100 #[.int .i64 (n / 128)] w fun e w' => e = .returned (.string ⟨L.toArray⟩) ∧ Below w.heap.size w w') :=
        Lib.hid (by rw [HL]; exact fun w => IH.out (n / 128) w (by omega) HF.out (by omega) (by omega))
      have hLl : L.length ≤ 10 := by rw [HL]; exact Nat.le_trans (encF_length _ _) (by omega)
      have HL' : Hid (Cw.encF (f + 1 + 1) n.toNat = UInt8.ofNat (128 + n % 128).toNat :: L) := Lib.hid (by rw [HL]; exact HE.out)
      clear HE HL IH HF
      have hadd := fun W => run_string_add_lists (P := Tryz.prog) W [UInt8.ofNat (128 + n % 128).toNat] L (by simp) (by omega)
      go_enter Tryz.func100, Tryz.ntmps100
      go_wp2_with fail
      have hq : IntKind.i64.wrap (n.tdiv 128) = n / 128 := IntWalk.i64_quo n 128 (by omega)
      have hr : IntKind.u8.wrap (IntKind.i64.wrap (128 + n.tmod 128)) = 128 + n % 128 := by
        rw [Int.tmod_eq_emod_of_nonneg h0, IntWalk.i64_in _ (by omega)]
        exact IntWalk.u8_in _ (by omega)
      go_region_with (go_at_call 100; refine (ihL.out _).mono ?_; rintro e w' ⟨rfl, hb⟩; have hcc := fun hlt hc => conv_at w' w.heap.size (128 + n % 128) ((hb.cell (p := ⟨w.heap.size, 0, none⟩) hlt).trans hc))
      all_goals
        go_wp2
        go_ret
        refine ⟨ret_str rfl HL'.out.symm, ?_⟩
        first
          | exact ((((Below.refl _ w).alloc (Nat.le_refl _) _).drew).trans (hb.mono (by simp)))
          | exact ((Below.refl _ w).drew.trans hb).alloc (hb.size) _

/-- 'put' at every number that a length or an encodable number can be. -/
theorem refPut_ok (n : Int) (w : World) (h0 : 0 ≤ n) (h1 : n ≤ 140737488355328) :
    Calls Tryz.prog 100 #[.int .i64 n] w fun e w' => e = .returned (.string ⟨(Cw.enc n.toNat).toArray⟩) ∧ Below w.heap.size w w' :=
  refPut_any 9 n w (Nat.le_refl _) (by unfold EncFits; (have : (128 : Int) ^ (9 + 1) = 1180591620717411303424 := by decide); rw [this]; omega) h0 h1

def T2s (l : List UInt8) (e : Int) : Ending := .returned (.tuple #[.string ⟨l.toArray⟩, .int .i64 e])

/-- What PutInt returns. -/
def putI (n : Int) : List UInt8 × Int := if Cw.inR n then (Cw.enc n.toNat, 0) else ([], 2)

set_option maxHeartbeats 400000 in
theorem refPutInt_any (n : Int) (w : World) :
    Calls Tryz.prog 68 #[.int .i64 n] w fun e w' => e = T2s (putI n).1 (putI n).2 ∧ Below w.heap.size w w' := by
  by_cases h : 0 ≤ n ∧ n ≤ 1099511627776
  · have hp : putI n = (Cw.enc n.toNat, 0) := if_pos ((Cw.inR_iff n).2 h)
    obtain ⟨h0, h1⟩ := h
    rw [hp]
    clear hp
    have HP := Lib.hid (fun w => refPut_ok n w h0 (by omega))
    go_enter Tryz.func68, Tryz.ntmps68
    go_wp2_with (go_at_call 100; refine (HP.out _).mono ?_; rintro e w' ⟨rfl, hb⟩)
    go_ret2
    exact ⟨rfl, hb⟩
  · have hp : putI n = ([], 2) := if_neg (by rw [Cw.inR_iff]; exact h)
    rw [hp]
    clear hp
    by_cases h0 : n < 0
    · clear h
      go_enter Tryz.func68, Tryz.ntmps68
      go_wp2_with fail
      go_ret2
      exact ⟨rfl, Below.refl _ _⟩
    · have h1 : 1099511627776 < n := by omega
      clear h
      go_enter Tryz.func68, Tryz.ntmps68
      go_wp2_with fail
      go_ret2
      exact ⟨rfl, Below.refl _ _⟩

end Go.Proofs.YtdedfkljaeloiaaGreatDoor

/- strings.Builder: what WriteByte, WriteString and String do to a builder that the call itself has made (the shelf's contracts, turned to this dump: its copyCheck has another text on the way that is never taken). -/
namespace Go.Proofs.YtdedfkljaeloiaaGreatDoor
open Go.RowKit

theorem info72 : (Tryz.prog.info? 143).map (·.size) = some 2 := by kernel_rfl
theorem lies72 : liesAt Tryz.prog Tryz.prog.depth 143 (2 / Tryz.prog.cellsOf 143) 0 143 1 = true := by kernel_rfl
theorem infoByte : (Tryz.prog.info? 5).map (fun i => (i.zero, i.size, i.bytes)) = some (some (.int .u8 0), 1, 1) := by kernel_rfl
theorem cellsByte : Tryz.prog.cellsOf 5 = 1 := by kernel_rfl

set_option maxRecDepth 100000 in
set_option maxHeartbeats 1000000 in
theorem copyCheck_used (b : Nat) (w : World) (h0 : w.cell? ⟨b, 0, none⟩ = some (.pointer (some ⟨b, 0, none⟩))) :
    Calls Tryz.prog 103 #[.pointer (some ⟨b, 0, none⟩)] w fun e w' => e = .returned (.tuple #[]) ∧ w = w' := by
  obtain ⟨j, hj, _⟩ := Option.map_eq_some_iff.1 info72
  go_enter Tryz.func103, Tryz.ntmps103
  go_wp2
  rw [Lib.run_neq_ptr_same w _ Tryz.underlying141 hj]
  go_wp2
  go_end0
  exact ⟨rfl, rfl⟩

set_option maxRecDepth 100000 in
set_option maxHeartbeats 1000000 in
theorem copyCheck_fresh (b : Nat) (w : World) (h0 : w.cell? ⟨b, 0, none⟩ = some (.pointer none)) (hsh : w.shape? b = some (143, 2)) (hfz : w.frozen? ⟨b, 0, none⟩ = false) :
    Calls Tryz.prog 103 #[.pointer (some ⟨b, 0, none⟩)] w fun e w' => e = .returned (.tuple #[]) ∧ w.setCell ⟨b, 0, none⟩ (.pointer (some ⟨b, 0, none⟩)) = w' := by
  obtain ⟨j, hj, hjs⟩ := Option.map_eq_some_iff.1 info72
  go_enter Tryz.func103, Tryz.ntmps103
  go_wp2
  rw [Lib.run_to_unsafe w ⟨b, 0, none⟩ Tryz.underlying141 Tryz.underlying211 hj (by rw [hjs]; decide) hsh (Nat.zero_lt_succ 1)]
  simp only [Result.andThen]
  rw [Oper.upon_value]
  go_wp2
  rw [run_callFunc_extern Tryz.func149 (by kernel_rfl) (by kernel_rfl) (by kernel_rfl) (e := Extern.AbiNoEscape.same) (by kernel_rfl)]
  rw [Lib.run_noEscape]
  simp only [Result.andThen]
  rw [Oper.upon_value]
  go_wp2
  rw [Lib.run_from_unsafe w ⟨b, 0, none⟩ Tryz.underlying211 Tryz.underlying141 hj hsh lies72]
  simp only [Result.andThen]
  rw [Oper.upon_value]
  go_wp2
  go_end0
  exact ⟨rfl, rfl⟩

/-- A builder in block b, from B on, that holds the bytes l. -/
abbrev Bld (B b : Nat) (l : List UInt8) (w : World) : Prop := Lib.IsBuilderF 143 5 B b (Lib.byteCells l) w
abbrev Kept (b : Nat) (w w' : World) : Prop := Lib.OthersKept 5 (some b) w w'

theorem copyCheck_k (B b : Nat) (bs : List Value) (w : World) (h : Lib.IsBuilderF 143 5 B b bs w) :
    Calls Tryz.prog 103 #[.pointer (some ⟨b, 0, none⟩)] w fun e w' => e = .returned (.tuple #[]) ∧ (Lib.BuilderAtF 143 5 B b (.pointer (some ⟨b, 0, none⟩)) bs w' ∧ Below B w w' ∧ Kept b w w') := by
  rcases h with h | h
  · refine (copyCheck_fresh b w h.cell0 h.shape h.frozen0).mono ?_
    rintro e w' ⟨rfl, rfl⟩
    exact ⟨rfl, h.used _, (Below.refl B w).setCell (p := ⟨b, 0, none⟩) h.1 _, (Lib.OthersKept.refl _ _ w).setCell ⟨b, 0, none⟩ rfl _⟩
  · refine (copyCheck_used b w h.cell0).mono ?_
    rintro e w' ⟨rfl, rfl⟩
    exact ⟨rfl, h, Below.refl B _, Lib.OthersKept.refl _ _ _⟩

set_option maxRecDepth 100000 in
set_option maxHeartbeats 2000000 in
set_option maxRecDepth 100000 in
theorem writeByte_k (B b : Nat) (bs : List Value) (c : Int) (w : World) (h : Lib.IsBuilderF 143 5 B b bs w) (hlen : bs.length + 1 ≤ 140737488355328) (hBw : B ≤ w.heap.size) :
    Calls Tryz.prog 148 #[.pointer (some ⟨b, 0, none⟩), .int .u8 c] w fun e w' => e = .returned .nilIface ∧ (Lib.BuilderAtF 143 5 B b (.pointer (some ⟨b, 0, none⟩)) (bs ++ [.int .u8 c]) w' ∧ Below B w w' ∧ Kept b w w') := by
  obtain ⟨i0, hi, hz0, hz1, hz2⟩ := info_parts infoByte
  go_enter Tryz.func148, Tryz.ntmps148
  go_wp2_with (go_at_call 103; refine (copyCheck_k B b bs _ h).mono ?_)
  rintro e w1 ⟨rfl, h1, hb1, hk1⟩
  obtain ⟨hB, v, hbk, hown, hne⟩ := h1
  have c0 : w1.cell? ⟨b, 0, none⟩ = some (.pointer (some ⟨b, 0, none⟩)) := by rw [Lib.cell_of_heap hbk]; rfl
  have c1 : w1.cell? ⟨b, 1, none⟩ = some v := by rw [Lib.cell_of_heap hbk]; rfl
  go_wp2_with (at_builtin; refine wpList_append_ownF _ rfl _ _ 137 rfl B 5 i0 (.int .u8 0) 1 1 Tryz.underlying137 hi hz0 hz1 hz2 rfl (by decide) _ _ _ rfl (hown.alloc _) ⟨w1.heap.size, 0, none⟩ 1 1 [.int .u8 c] rfl rfl ?c1 ?c2 ?c3 ?c4 ?c5 ?_)
  case c1 =>
    intro j u hj
    match j, hj with
    | 0, hj => simp at hj; subst hj; simp [Addr.add]
  case c2 => intro u hu; simp at hu; subst hu; rfl
  case c3 => unfold maxLen; omega
  case c4 => omega
  case c5 => have := hb1.size; simp; omega
  intro v' w2 hown' hgrow _
  have hlt : b < w1.heap.size := by
    rcases Nat.lt_or_ge b w1.heap.size with h' | h'
    · exact h'
    · simp [Array.getElem?_eq_none h'] at hbk
  have hb2 : w2.heap[b]? = some (.cells #[.pointer (some ⟨b, 0, none⟩), v] 143 (0, 0)) := by
    rw [hgrow.block b (by simp; omega) (fun e => hne e.symm), Lib.alloc_old w1 _ b hlt]
    exact hbk
  have d0 : w2.cell? ⟨b, 0, none⟩ = some (.pointer (some ⟨b, 0, none⟩)) := by rw [Lib.cell_of_heap hb2]; rfl
  have d1 : w2.cell? ⟨b, 1, none⟩ = some v := by rw [Lib.cell_of_heap hb2]; rfl
  have f1 : w2.frozen? ⟨b, 1, none⟩ = false := Lib.frozen_of_heap hb2 1
  obtain ⟨g, cap, rfl⟩ : ∃ g cap, v' = .slice (some ⟨g, 0, none⟩) (bs.length + 1) cap := by
    rcases hown'.2 with ⟨_, h0⟩ | ⟨g, cap, cur, fz, hv, _⟩
    · omega
    · exact ⟨g, cap, hv⟩
  go_wp2
  go_ret
  refine ⟨rfl, ?_, ?_, ((hk1.alloc _).grown hgrow (Lib.ownsRowF_kind (hown.alloc _))).setCell ⟨b, 1, none⟩ rfl _⟩
  · exact Lib.BuilderAtF.put (T := 143) (e := 5) hB hb2 (bs' := bs ++ [.int .u8 c]) (by simpa using hown') (by decide)
  · exact ((hb1.alloc (by have := hb1.size; omega) _).grown hgrow (by have := hb1.size; simp; omega) (fun k hk => (hown.lt k hk).1)).setCell (p := ⟨b, 1, none⟩) hB _

set_option maxRecDepth 100000 in
set_option maxHeartbeats 2000000 in
set_option maxRecDepth 100000 in
theorem writeString_k (B b : Nat) (bs : List Value) (s : ByteArray) (w : World) (h : Lib.IsBuilderF 143 5 B b bs w) (hlen : bs.length + s.size ≤ 140737488355328) (hBw : B ≤ w.heap.size) :
    Calls Tryz.prog 76 #[.pointer (some ⟨b, 0, none⟩), .string s] w fun e w' => e = .returned (.tuple #[.int .i64 s.size, .nilIface]) ∧ (Lib.BuilderAtF 143 5 B b (.pointer (some ⟨b, 0, none⟩)) (bs ++ Lib.strCells s) w' ∧ Below B w w' ∧ Kept b w w') := by
  obtain ⟨i0, hi, hz0, hz1, hz2⟩ := info_parts infoByte
  go_enter Tryz.func76, Tryz.ntmps76
  go_wp2_with (go_at_call 103; refine (copyCheck_k B b bs _ h).mono ?_)
  rintro e w1 ⟨rfl, h1, hb1, hk1⟩
  obtain ⟨hB, v, hbk, hown, hne⟩ := h1
  have c0 : w1.cell? ⟨b, 0, none⟩ = some (.pointer (some ⟨b, 0, none⟩)) := by rw [Lib.cell_of_heap hbk]; rfl
  have c1 : w1.cell? ⟨b, 1, none⟩ = some v := by rw [Lib.cell_of_heap hbk]; rfl
  go_wp2_with (at_builtin; refine Lib.wpList_append_own_stringF _ rfl _ _ 137 9 rfl B 5 i0 Tryz.underlying137 Tryz.underlying9 hi hz0 hz1 hz2 _ _ _ rfl hown s rfl ?c3 ?c4 ?c5 ?_)
  case c3 => unfold maxLen; omega
  case c4 => omega
  case c5 => have := hb1.size; omega
  intro v' w2 hown' hgrow _
  have hlt : b < w1.heap.size := by
    rcases Nat.lt_or_ge b w1.heap.size with h' | h'
    · exact h'
    · simp [Array.getElem?_eq_none h'] at hbk
  have hb2 : w2.heap[b]? = some (.cells #[.pointer (some ⟨b, 0, none⟩), v] 143 (0, 0)) := by
    rw [hgrow.block b hlt (fun e => hne e.symm)]
    exact hbk
  have d0 : w2.cell? ⟨b, 0, none⟩ = some (.pointer (some ⟨b, 0, none⟩)) := by rw [Lib.cell_of_heap hb2]; rfl
  have d1 : w2.cell? ⟨b, 1, none⟩ = some v := by rw [Lib.cell_of_heap hb2]; rfl
  have f1 : w2.frozen? ⟨b, 1, none⟩ = false := Lib.frozen_of_heap hb2 1
  obtain ⟨ao, n', cap, rfl⟩ : ∃ ao n' cap, v' = .slice ao n' cap := by
    rcases hown'.2 with ⟨hv, _⟩ | ⟨g, cap, cur, fz, hv, _⟩
    · exact ⟨_, _, _, hv⟩
    · exact ⟨_, _, _, hv⟩
  go_wp2
  go_ret2
  refine ⟨rfl, ?_, ?_, (hk1.grown hgrow (Lib.ownsRowF_kind hown)).setCell ⟨b, 1, none⟩ rfl _⟩
  · exact Lib.BuilderAtF.put (T := 143) (e := 5) hB hb2 (bs' := bs ++ Lib.strCells s) (by simpa [Lib.strCells_length] using hown') (by decide)
  · exact (hb1.grown hgrow (by have := hb1.size; omega) (fun k hk => (hown.lt k hk).1)).setCell (p := ⟨b, 1, none⟩) hB _

set_option maxRecDepth 100000 in
set_option maxHeartbeats 1000000 in
set_option maxRecDepth 100000 in
/-- String of a builder that holds at least one byte. -/
theorem bldString_k (B b : Nat) (l : List UInt8) (w : World) (h : Bld B b l w) (h0 : l ≠ []) :
    Calls Tryz.prog 77 #[.pointer (some ⟨b, 0, none⟩)] w fun e w' => e = .returned (.string ⟨l.toArray⟩) ∧ (Bld B b l w' ∧ Below B w w' ∧ Kept b w w') := by
  obtain ⟨p, hp, hAt⟩ : ∃ p, (p = .pointer none ∨ p = .pointer (some ⟨b, 0, none⟩)) ∧ Lib.BuilderAtF 143 5 B b p (Lib.byteCells l) w := by
    rcases h with h | h
    · exact ⟨_, .inl rfl, h⟩
    · exact ⟨_, .inr rfl, h⟩
  obtain ⟨hB, v, hbk, hown, hne⟩ := hAt
  have hl0 : l.length ≠ 0 := by simpa using h0
  rw [Lib.byteCells_length] at hown
  obtain ⟨g, cap, cur, fz, rfl, hbg, hg, hfz, hnc, hcm, hcs, htake⟩ : ∃ g cap cur fz, v = .slice (some ⟨g, 0, none⟩) l.length cap ∧ B ≤ g ∧ w.heap[g]? = some (.cells cur 5 fz) ∧ fz.2 ≤ l.length * 1 ∧ l.length ≤ cap ∧ cap ≤ maxLen ∧ cur.size = cap * 1 ∧ cur.toList.take (l.length * 1) = Lib.byteCells l := by
    rcases hown.2 with ⟨_, hz⟩ | ⟨g, cap, cur, fz, hv, r⟩
    · exact absurd hz hl0
    · exact ⟨g, cap, cur, fz, hv, r⟩
  have c1 : w.drew.cell? ⟨b, 1, none⟩ = some (.slice (some ⟨g, 0, none⟩) l.length cap) := by
    have : w.drew.heap[b]? = some (.cells #[p, .slice (some ⟨g, 0, none⟩) l.length cap] 143 (0, 0)) := hbk
    rw [Lib.cell_of_heap this]; rfl
  have hSD : (Builtin.unsafeSliceData_ #[137] 174 #[.slice (some ⟨g, 0, none⟩) l.length cap]).run Tryz.prog w.drew = .ok (.pointer (some ⟨g, 0, none⟩)) w.drew :=
    Lib.run_unsafeSliceData_row _ _ _ _ _ _ (by omega)
  have hUS : (Builtin.unsafeString_ #[174, 3] 9 #[.pointer (some ⟨g, 0, none⟩), .int .i64 l.length]).run Tryz.prog w.drew = .ok (.string ⟨l.toArray⟩) (w.drew.freeze ⟨g, 0, none⟩ l.length) := by
    refine Lib.run_unsafeString_row w.drew 174 3 9 5 Tryz.underlying174 cellsByte g cur.size (by have hg' : w.drew.heap[g]? = some (.cells cur 5 fz) := hg; simp [World.shape?, hg']) l h0 (by omega) (by unfold maxLen at hcm; omega) ?_
    intro j x hx
    have := hown.cells (g := g) rfl j (.int .u8 x.toNat) (by simp [Lib.byteCells, hx])
    exact this
  have hkeep : Bld B b l (w.drew.freeze ⟨g, 0, none⟩ l.length) := by
    have hA : Lib.BuilderAtF 143 5 B b p (Lib.byteCells l) w.drew := ⟨hB, _, hbk, by rw [Lib.byteCells_length]; exact hown, hne⟩
    have hF := hA.froze (g := g) (cap := cap) (by rw [Lib.byteCells_length]; exact c1)
    rw [Lib.byteCells_length] at hF
    rcases hp with rfl | rfl
    · exact .inl hF
    · exact .inr hF
  go_enter Tryz.func77, Tryz.ntmps77
  go_wp2
  go_region
  all_goals (go_wp2; go_ret; exact ⟨rfl, hkeep, Lib.below_freeze (Below.drew (Below.refl B w)) (p := ⟨g, 0, none⟩) hbg _, ((Lib.OthersKept.refl _ _ w).drew).freeze ⟨g, 0, none⟩ _ ⟨cur, fz, hg⟩⟩)

end Go.Proofs.YtdedfkljaeloiaaGreatDoor

/- A range over a function whose every round goes on: the statement's law, for an iterator that may keep a cell of its own. No program in sight. -/
namespace Go.Proofs.YtdedfkljaeloiaaGreatDoor
open Go.RowKit
variable {F : Fence} {n : Nat} {P : Program}

/-- What a round's body owes: it goes on; what is no cells lies as it lay; the iterator's block lies as it lay; the invariant at one element more. -/
def roundOwes {α : Type} (bn : Nat) (I : List α → World → Prop) (xs : List α) (W : World) : Exit → Act → World → Prop
  | .normal, _, W' => KeepsOthers W W' ∧ W'.heap[bn]? = W.heap[bn]? ∧ I xs W'
  | _, _, _ => False

theorem wpIn_rangeFunc_all {α : Type} {g : Operand} {ps : Array Tmp} {assign body : Code} {Q : Exit → Act → World → Prop} {a : Act} {w : World}
    (hro : F.round = none) (h1 : 1 ≤ n) {gf : Nat} {lb : Array Value} (hg : a.eval g = .func (.func gf) #[] lb) (hFg : F.fn gf) (eg : ∀ args w, (callFunc gf args).run P w = .ok (.enter gf args) w)
    {enc : α → Value} {ok : List α → α → Prop} {bn : Nat} {bo : Obj} {xs : List α}
    (hiter : ∀ (l : Nat) (J : List α → World → Prop), (∀ s W v, J s W → J s (W.setCell ⟨bn, 0, none⟩ v)) →
      (∀ pre x W, ok pre x → J pre W → YieldAt F (n - 1 - 1) P l #[enc x] W fun e W' => e = .returned (.bool true) ∧ J (pre ++ [x]) W' ∧ W'.heap[bn]? = W.heap[bn]?) →
      ∀ W, W.heap[bn]? = some bo → J [] W → CallsIn F (n - 1) P gf (#[.func (.yield l) #[] #[]] ++ lb) W fun e W' => (∃ v, e = .returned v) ∧ J xs W')
    (hps : ps.size = 1) (hbn : bn < w.heap.size) (hb0 : w.heap[bn]? = some bo)
    (I : List α → World → Prop)
    (hIp : ∀ s W l o o', w.heap.size ≤ l → W.heap[l]? = some o → o.isCells = false → I s W → I s (W.putObj l o'))
    (hIa : ∀ s W o, I s W → I s (W.alloc o))
    (hIs : ∀ s W v, I s W → I s (W.setCell ⟨bn, 0, none⟩ v))
    (h0 : I [] w) (a₁ : α → Act)
    (hassign : ∀ (l : Nat) (x : α) (W : World) (K : Act → World → Prop), K (a₁ x) W →
      assign.wpIn (F.inRound l) (n - 1 - 1) P (Exit.then K (fun _ _ _ => False)) { tmps := (ps.zip #[enc x]).foldl (fun t (p, v) => t.setIfInBounds p v) a.tmps, defers := [] } W)
    (hbody : ∀ (l : Nat) (pre : List α) (x : α) (W : World), w.heap.size ≤ l → ok pre x → I pre W → body.wpIn (F.inRound l) (n - 1 - 1) P (roundOwes bn I (pre ++ [x]) W) (a₁ x) W)
    (hdone : ∀ (D : Nat) (W : World), w.heap.size ≤ D → I xs W → W.heap[D]? = some (.deferred (some [])) → Q .normal { a with defers := { target := .collected D, args := #[] } :: a.defers } W) :
    (Code.rangeFunc g ps assign body).wpIn F n P Q a w := by
  refine wpIn_rangeFunc ?_
  intro fn hfn
  rw [hro]
  obtain ⟨rec, hrec⟩ : ∃ rec : LoopState → Option Code → Loop, rec = fun st pe => { state := st, pending := pe, fn, tmps := a.tmps, params := ps, assign, body, defers := w.heap.size } := ⟨_, rfl⟩
  obtain ⟨W1, hW1⟩ : ∃ W1, (w.alloc (.deferred (some []))).alloc (.loop (rec .ready none)) = W1 := ⟨_, rfl⟩
  have hL1 : W1.heap[w.heap.size + 1]? = some (.loop (rec .ready none)) := by
    rw [← hW1]; have := World.alloc_heap_new (w.alloc (.deferred (some []))) (.loop (rec .ready none)); rwa [World.size_alloc] at this
  have hK1 : W1.heap[w.heap.size]? = some (.deferred (some [])) := by
    rw [← hW1]; exact (Below.heap_alloc _ _ _ (by simp)).trans (World.alloc_heap_new w _)
  have hI1 : I [] W1 := by rw [← hW1]; exact hIa _ _ _ (hIa _ _ _ h0)
  have hb1 : W1.heap[bn]? = some bo := by
    rw [← hW1]; exact (Below.heap_alloc _ _ _ (by simp; omega)).trans ((Below.heap_alloc _ _ _ hbn).trans hb0)
  refine ⟨w.heap.size + 1, [{ target := .collected w.heap.size, args := #[] }], W1, { target := .fn (.func gf) lb, args := #[.func (.yield (w.heap.size + 1)) #[] #[]] }, W1, gf,
    #[.func (.yield (w.heap.size + 1)) #[] #[]] ++ lb, W1, ?_, ?_, ?_, ?_, fun _ => h1, ?_⟩
  · rw [← hW1, hrec]; exact run_enterLoop_outer _ _ _ _ _
  · simp only [resolve, hg]
    simp [go_sem]
  · intro f' hf'; simp [Target.leads] at hf'; subst hf'; exact hFg
  · simp [invoke, go_sem, eg]
  · refine (hiter (w.heap.size + 1)
      (fun pre W => I pre W ∧ W.heap[w.heap.size + 1]? = some (.loop (rec .ready none)) ∧ W.heap[w.heap.size]? = some (.deferred (some [])))
      (fun s W v hs => ⟨hIs _ _ _ hs.1, (Below.heap_setCell W _ v _ (by simp; omega)).trans hs.2.1, (Below.heap_setCell W _ v _ (by simp; omega)).trans hs.2.2⟩)
      ?_ W1 hb1 ⟨hI1, hL1, hK1⟩).mono ?_
    · rintro pre x W hok ⟨hi, hl, hk⟩
      have hlt : w.heap.size + 1 < W.heap.size := (Array.getElem?_eq_some_iff.1 hl).1
      have hy := run_yield (P := P) (args := #[enc x]) hl (by rw [hrec]; simp [hps])
      rw [hrec] at hy
      refine ⟨fn, _, assign, body, hy, roundIn_of_wpIn hfn (hassign _ x W _ ⟨_, run_beginRound hl (by rw [hrec]), ?_⟩)⟩
      have hl2 : (W.putObj (w.heap.size + 1) (.loop { rec .ready none with state := .busy })).heap[w.heap.size + 1]? = some (.loop { rec .ready none with state := .busy }) := World.putObj_heap_same hlt
      have hk2 : (W.putObj (w.heap.size + 1) (.loop { rec .ready none with state := .busy })).heap[w.heap.size]? = some (.deferred (some [])) := (World.putObj_heap_other (by omega)).trans hk
      refine wpIn_mono (hbody _ pre x _ (by omega) hok (hIp _ _ _ _ _ (by omega) hl rfl hi)) ?_
      rintro e a3 W3 hp
      cases e with
      | normal =>
        obtain ⟨hk3, hbn3, hi3⟩ := hp
        have hl3 := hk3.same _ _ hl2 rfl
        have hr := run_endRound (P := P) none hl3
        rw [hrec] at hr hl3 ⊢
        refine ⟨_, _, hr, rfl, ⟨hIp _ _ _ _ _ (by omega) hl3 rfl hi3, World.putObj_heap_same (Array.getElem?_eq_some_iff.1 hl3).1, (World.putObj_heap_other (by omega)).trans (hk3.same _ _ hk2 rfl)⟩, ?_⟩
        rw [World.putObj_heap_other (by omega), hbn3, World.putObj_heap_other (by omega)]
      | ret => exact hp.elim
      | exit id => exact hp.elim
      | goto t => exact hp.elim
      | panic ch => exact hp.elim
      | outgrown => exact hp.elim
    · rintro e W2 ⟨⟨v, rfl⟩, hi, hl, hk⟩
      exact ⟨none, _, by have := run_endLoop (P := P) hl (by rw [hrec]; simp); rw [hrec] at this; exact this, hdone _ _ (Nat.le_refl _) (hIp _ _ _ _ _ (by omega) hl rfl hi) ((World.putObj_heap_other (by omega)).trans hk)⟩

end Go.Proofs.YtdedfkljaeloiaaGreatDoor

/- codec.digits: the iterator over the digits of a number; Size and writeInt, which range over it. -/
namespace Go.Proofs.YtdedfkljaeloiaaGreatDoor
open Go.RowKit Go.Shelf

theorem EncFits.down {f : Nat} {n : Int} (h : EncFits (f + 1) n) : EncFits f (n / 128) := by
  unfold EncFits at h ⊢
  rw [Int.pow_succ] at h
  exact Int.ediv_lt_of_lt_mul (by omega) h

theorem EncFits.ten {n : Int} (h1 : n ≤ 140737488355328) : EncFits 10 n := by
  unfold EncFits
  have : (128 : Int) ^ 10 = 1180591620717411303424 := by decide
  rw [this]; omega

attribute [local go_sem] Oper.semAt_some

/-- The digits as numbers. -/
def encZ : Nat → Int → List Int
  | 0, _ => []
  | f + 1, m => if m < 128 then [m] else (m % 128 + 128) :: encZ f (m / 128)

/-- The iterator's own cell. -/
def NBox (bn : Nat) (m : Int) (W : World) : Prop := W.heap[bn]? = some (.cells #[.int .i64 m] 3 (0, 0))

theorem NBox.cell {bn : Nat} {m : Int} {W : World} (h : NBox bn m W) : W.cell? ⟨bn, 0, none⟩ = some (.int .i64 m) := by rw [Lib.cell_of_heap h]; rfl
theorem NBox.frozen {bn : Nat} {m : Int} {W : World} (h : NBox bn m W) : W.frozen? ⟨bn, 0, none⟩ = false := Lib.frozen_of_heap h 0
theorem NBox.set {bn : Nat} {m : Int} {W : World} (h : NBox bn m W) (k : Int) : NBox bn k (W.setCell ⟨bn, 0, none⟩ (.int .i64 k)) := by
  unfold NBox at h ⊢
  simp [World.setCell, Array.getElem?_modify, h]

def okD (pre : List Int) (x : Int) : Prop := 0 ≤ x ∧ x ≤ 255 ∧ pre.length < 10

def cellN (bn : Nat) (W : World) : Int := intOf ((W.cell? ⟨bn, 0, none⟩).getD undef)
theorem NBox.cellN {bn : Nat} {m : Int} {W : World} (h : NBox bn m W) : cellN bn W = m := by unfold Go.Proofs.YtdedfkljaeloiaaGreatDoor.cellN; rw [h.cell]; rfl

def DigRel (f : Nat) (m : Int) (pre : List Int) (f' : Nat) (m' : Int) : Prop :=
  pre ++ encZ (f' + 1) m' = encZ (f + 1) m ∧ EncFits (f' + 1) m'

theorem DigRel.stop {f f' : Nat} {m m' : Int} {pre : List Int} (h : DigRel f m pre f' m') (hm : m' < 128) : pre ++ [m'] = encZ (f + 1) m := by
  rw [← h.1, encZ, if_pos hm]

theorem DigRel.go {f f' : Nat} {m m' : Int} {pre : List Int} (h : DigRel f m pre f' m') (hm : 128 ≤ m') : ∃ g, f' = g + 1 ∧ DigRel f m (pre ++ [m' % 128 + 128]) g (m' / 128) := by
  cases f' with
  | zero => have := h.2; unfold EncFits at this; simp at this; omega
  | succ g =>
    refine ⟨g, rfl, ?_, h.2.down⟩
    have e : encZ (g + 1 + 1) m' = (m' % 128 + 128) :: encZ (g + 1) (m' / 128) := if_neg (by omega)
    rw [← h.1, e]; simp

set_option maxRecDepth 100000 in
set_option maxHeartbeats 1000000 in
theorem digits1_in (F : Fence) (n : Nat) (h37 : F.fn 177) (hro : F.round = none) (hn : 1 ≤ n) (l bn : Nat) (J : List Int → World → Prop)
    (hJs : ∀ s W v, J s W → J s (W.setCell ⟨bn, 0, none⟩ v))
    (hY : ∀ pre x W, okD pre x → J pre W → YieldAt F (n - 1) Tryz.prog l #[.int .u8 x] W fun e W' => e = .returned (.bool true) ∧ J (pre ++ [x]) W' ∧ W'.heap[bn]? = W.heap[bn]?)
    (m : Int) (f : Nat) (hf : f ≤ 9) (hm0 : 0 ≤ m) (hm1 : m ≤ 140737488355328) (hfit : EncFits (f + 1) m) (W : World) (hb : NBox bn m W) (h0 : J [] W) :
    CallsIn F n Tryz.prog 177 (#[.func (.yield l) #[] #[]] ++ #[.pointer (some ⟨bn, 0, none⟩)]) W fun e W' => (∃ v, e = .returned v) ∧ J (encZ (f + 1) m) W' := by
  refine callsIn_of_wp Tryz.func177 rfl h37 ?_ hro
  simp only [Tryz.ntmps177, List.size_toArray, List.length_cons, List.length_nil, Nat.reduceAdd, Nat.reduceSub, Array.replicate_succ, Array.replicate_zero, List.push_toArray, List.append_toArray, List.nil_append, List.cons_append]
  have HY := Lib.hid hY
  have HJ := Lib.hid hJs
  clear hY hJs
  gi_wp2
  gi_loopw [3] (fun _ wr => ∃ (pre : List Int) (f' : Nat) (m' : Int), NBox bn m' wr ∧ J pre wr ∧ 0 ≤ m' ∧ m' ≤ 140737488355328 ∧ pre.length + f' ≤ 9 ∧ DigRel f m pre f' m') (fun _ wr => (cellN bn wr).toNat)
  case atStart => exact ⟨[], f, m, hb, h0, hm0, hm1, by simpa using hf, by simp, hfit⟩
  case round =>
    obtain ⟨pre, f', m', hbx, hJ', hm0', hm1', hlen, hr⟩ := hrel
    have hc := hbx.cell
    have hfz := hbx.frozen
    have HB := Lib.hid hbx
    clear hb hbx
    by_cases hm : m' < 128
    · have HR := Lib.hid (hr.stop hm)
      clear hr
      obtain ⟨fn, tmps, assign, body, hy, hR⟩ := HY.out pre m' wr ⟨hm0', by omega, by omega⟩ hJ'
      gi_wp2
      refine hR.mono ?_
      rintro e W3 ⟨rfl, hJ3, _⟩
      gi_wp2
      go_end0
      exact ⟨⟨_, rfl⟩, by rw [← HR.out]; exact hJ3⟩
    · obtain ⟨g, hfg, hr'⟩ := hr.go (by omega)
      have HR := Lib.hid hr'
      have hlen2 : pre.length + 1 + g ≤ 9 := by omega
      have HG := Lib.hid hfg
      clear hr hr' hfg
      obtain ⟨fn, tmps, assign, body, hy, hR⟩ := HY.out pre (m' % 128 + 128) wr ⟨by omega, by omega, by omega⟩ hJ'
      gi_wp2
      refine hR.mono ?_
      rintro e W3 ⟨rfl, hJ3, hb3⟩
      have hbx3 : NBox bn m' W3 := hb3.trans HB.out
      have hc3 := hbx3.cell
      have hfz3 := hbx3.frozen
      have HB3 := Lib.hid hbx3
      clear hb3 hbx3
      gi_wp2
      go_roundw
      case rel => exact ⟨pre ++ [m' % 128 + 128], g, m' / 128, HB3.out.set _, HJ.out _ _ _ hJ3, by omega, by omega, by simp; omega, HR.out⟩
      case measure => rw [(HB3.out.set (m' / 128)).cellN, HB.out.cellN]; omega

theorem digits_any (n : Int) (w : World) :
    Calls Tryz.prog 147 #[.int .i64 n] w fun e w' => e = .returned (.func (.func 177) #[] #[.pointer (some ⟨w.heap.size, 0, none⟩)]) ∧ w.alloc (.cells #[.int .i64 n] 3) = w' := by
  go_enter Tryz.func147, Tryz.ntmps147
  go_wp2
  go_ret
  exact ⟨rfl, rfl⟩

theorem encZ_length : ∀ (f : Nat) (m : Int), 0 ≤ m → (encZ f m).length = (Cw.encF f m.toNat).length
  | 0, _, _ => rfl
  | f + 1, m, h => by
    rw [encZ, Cw.encF]
    by_cases hm : m < 128
    · rw [if_pos hm, if_pos (by omega)]; rfl
    · rw [if_neg hm, if_neg (by omega), List.length_cons, List.length_cons, encZ_length f (m / 128) (by omega), show (m / 128).toNat = m.toNat / 128 from by omega]

theorem encZ_bytes : ∀ (f : Nat) (m : Int), 0 ≤ m → (encZ f m).map (Value.int .u8) = Lib.byteCells (Cw.encF f m.toNat)
  | 0, _, _ => rfl
  | f + 1, m, h => by
    rw [encZ, Cw.encF]
    by_cases hm : m < 128
    · rw [if_pos hm, if_pos (by omega)]
      simp [Lib.byteCells]; omega
    · rw [if_neg hm, if_neg (by omega), List.map_cons, encZ_bytes f (m / 128) (by omega), show (m / 128).toNat = m.toNat / 128 from by omega]
      simp [Lib.byteCells]; omega

theorem inRange_any (n : Int) (w : World) :
    Calls Tryz.prog 101 #[.int .i64 n] w fun e w' => e = .returned (.bool (Cw.inR n)) ∧ w = w' := by
  by_cases h0 : 0 ≤ n
  · have HR : Hid (Cw.inR n = decide (n ≤ 1099511627776)) := Lib.hid (by simp [Cw.inR, h0])
    go_enter Tryz.func101, Tryz.ntmps101
    go_wp2
    go_ret
    exact ⟨by rw [HR.out]; rfl, rfl⟩
  · have HR : Hid (Cw.inR n = false) := Lib.hid (by simp [Cw.inR, h0])
    go_enter Tryz.func101, Tryz.ntmps101
    go_wp2
    go_ret
    exact ⟨by rw [HR.out]; rfl, rfl⟩

end Go.Proofs.YtdedfkljaeloiaaGreatDoor

/- codec.writeInt. -/
namespace Go.Proofs.YtdedfkljaeloiaaGreatDoor
open Go.RowKit Go.Shelf
attribute [local go_sem] Oper.semAt_some

/-- A builder abides a turn of a block that holds no cells. -/
theorem bldF_put {T e : TypeId} {B b : Nat} {bs : List Value} {W : World} {l : Nat} {o o' : Obj} (h : Lib.IsBuilderF T e B b bs W) (hl : W.heap[l]? = some o) (ho : o.isCells = false) :
    Lib.IsBuilderF T e B b bs (W.putObj l o') := by
  have key : ∀ p, Lib.BuilderAtF T e B b p bs W → Lib.BuilderAtF T e B b p bs (W.putObj l o') := by
    rintro p ⟨hB, v, hbk, hown, hne⟩
    have hbl : b ≠ l := by
      intro e1; subst e1; rw [hbk] at hl; cases hl; cases ho
    refine ⟨hB, v, (World.putObj_heap_other hbl).trans hbk, hown.kept (grownBy_putObj' W l o') ?_, hne⟩
    refine Or.inr (fun e1 => ?_)
    obtain ⟨c, fz, hc⟩ := Lib.ownsRowF_kind hown l e1
    rw [hc] at hl; cases hl; cases ho
  exact h.elim (fun x => .inl (key _ x)) (fun x => .inr (key _ x))

/-- A builder abides a store into a block that is neither its own nor a row of bytes. -/
theorem bldF_set {T e : TypeId} {B b : Nat} {bs : List Value} {W : World} {k : Nat} {cs : Array Value} {t : TypeId} {fz : Nat × Nat} (h : Lib.IsBuilderF T e B b bs W) (hk : W.heap[k]? = some (.cells cs t fz)) (hkb : k ≠ b) (ht : t ≠ e) (v : Value) :
    Lib.IsBuilderF T e B b bs (W.setCell ⟨k, 0, none⟩ v) := by
  have key : ∀ p, Lib.BuilderAtF T e B b p bs W → Lib.BuilderAtF T e B b p bs (W.setCell ⟨k, 0, none⟩ v) := by
    rintro p ⟨hB, x, hbk, hown, hne⟩
    refine ⟨hB, x, (Below.heap_setCell W _ v b (fun e1 => hkb e1.symm)).trans hbk, hown.kept (row := some k) ⟨rfl, rfl, rfl, by simp [World.setCell], fun j _ hj => Below.heap_setCell _ _ _ _ (fun e1 => hj (by simp [e1]))⟩ ?_, hne⟩
    refine Or.inr (fun e1 => ?_)
    obtain ⟨c, fz', hc⟩ := Lib.ownsRowF_kind hown k e1
    rw [hc] at hk; cases hk; exact ht rfl
  exact h.elim (fun x => .inl (key _ x)) (fun x => .inr (key _ x))

theorem bldF_lt {T e : TypeId} {B b : Nat} {bs : List Value} {W : World} (h : Lib.IsBuilderF T e B b bs W) : b < W.heap.size := h.elim (·.lt) (·.lt)
theorem bldF_le {T e : TypeId} {B b : Nat} {bs : List Value} {W : World} (h : Lib.IsBuilderF T e B b bs W) : B ≤ b := h.elim (·.1) (·.1)

/-- The invariant of writeInt's loop. -/
structure WInv (w : World) (B b : Nat) (bs : List Value) (pre : List Int) (W : World) : Prop where
  bld : Lib.IsBuilderF 143 5 B b (bs ++ pre.map (Value.int .u8)) W
  below : Below B w W
  kept : Kept b w W
  par : W.heap[w.heap.size]? = some (.cells #[.pointer (some ⟨b, 0, none⟩)] 141 (0, 0))
  box : ∃ v, W.heap[w.heap.size + 1]? = some (.cells #[v] 3 (0, 0))

theorem WInv.putObj {w W : World} {B b : Nat} {bs : List Value} {pre : List Int} (h : WInv w B b bs pre W) (hBw : B ≤ w.heap.size) {l : Nat} {o : Obj} (o' : Obj) (hl : w.heap.size ≤ l) (ho : W.heap[l]? = some o) (hc : o.isCells = false) : WInv w B b bs pre (W.putObj l o') := by
  have h1 : w.heap.size ≠ l := by intro e; rw [← e, h.par] at ho; cases ho; cases hc
  have h2 : w.heap.size + 1 ≠ l := by
    intro e; obtain ⟨v, hv⟩ := h.box; rw [← e, hv] at ho; cases ho; cases hc
  refine ⟨bldF_put h.bld ho hc, ?_, ?_, (World.putObj_heap_other h1).trans h.par, ?_⟩
  · exact h.below.trans ⟨rfl, rfl, rfl, by simp, fun k hk => World.putObj_heap_other (by omega)⟩
  · intro k x hk hb hx
    have := (Array.getElem?_eq_some_iff.1 hk).1
    exact (World.putObj_heap_other (by omega)).trans (h.kept k x hk hb hx)
  · obtain ⟨v, hv⟩ := h.box
    exact ⟨v, (World.putObj_heap_other h2).trans hv⟩

theorem WInv.alloc {w W : World} {B b : Nat} {bs : List Value} {pre : List Int} (h : WInv w B b bs pre W) (hBw : B ≤ w.heap.size) (o : Obj) : WInv w B b bs pre (W.alloc o) := by
  refine ⟨h.bld.alloc o, h.below.alloc (Nat.le_trans hBw h.below.size) o, h.kept.alloc o, ?_, ?_⟩
  · exact (Below.heap_alloc W o _ (Array.getElem?_eq_some_iff.1 h.par).1).trans h.par
  · obtain ⟨v, hv⟩ := h.box
    exact ⟨v, (Below.heap_alloc W o _ (Array.getElem?_eq_some_iff.1 hv).1).trans hv⟩

theorem WInv.set {w W : World} {B b : Nat} {bs : List Value} {pre : List Int} (h : WInv w B b bs pre W) (hBw : B ≤ w.heap.size) (hb : b < w.heap.size) (v : Value) : WInv w B b bs pre (W.setCell ⟨w.heap.size + 1, 0, none⟩ v) := by
  obtain ⟨v0, hv0⟩ := h.box
  refine ⟨bldF_set h.bld hv0 (by omega) (by decide) v, h.below.setCell (p := ⟨w.heap.size + 1, 0, none⟩) (by simp; omega) v, ?_, ?_, ?_⟩
  · intro k x hk hb' hx
    have := (Array.getElem?_eq_some_iff.1 hk).1
    exact (Below.heap_setCell W _ v k (by simp; omega)).trans (h.kept k x hk hb' hx)
  · exact (Below.heap_setCell W _ v _ (by simp)).trans h.par
  · exact ⟨v, by simp [World.setCell, Array.getElem?_modify, hv0]⟩

set_option maxRecDepth 100000 in
set_option maxHeartbeats 1000000 in
theorem writeInt_k (B b : Nat) (bs : List Value) (n : Int) (w : World) (h : Lib.IsBuilderF 143 5 B b bs w) (h0 : 0 ≤ n) (h1 : n ≤ 140737488355328) (hlen : bs.length + 10 ≤ 140737488355328) (hBw : B ≤ w.heap.size) :
    Calls Tryz.prog 102 #[.pointer (some ⟨b, 0, none⟩), .int .i64 n] w fun e w' => e = .returned (.tuple #[]) ∧ (Lib.IsBuilderF 143 5 B b (bs ++ Lib.byteCells (Cw.enc n.toNat)) w' ∧ Below B w w' ∧ Kept b w w') := by
  have hbw := bldF_lt h
  refine (callsIn_wide (n := 5)).1 ?_
  refine callsIn_of_wp_marks Tryz.func102 rfl trivial ?_ rfl
  simp only [Tryz.ntmps102, List.size_toArray, List.length_cons, List.length_nil, Nat.reduceAdd, Nat.reduceSub, Array.replicate_succ, Array.replicate_zero, List.push_toArray, List.append_toArray, List.nil_append, List.cons_append]
  have HH := Lib.hid h
  have HL := Lib.hid hlen
  clear h hlen
  gi_wp2_with (refine ⟨trivial, ?_⟩; gi_at_call 147; refine (callsIn_wide.2 (digits_any _ _)).mono ?_; rintro e w' ⟨rfl, rfl⟩)
  have hI0 : WInv w B b bs [] ((w.alloc (.cells #[.pointer (some ⟨b, 0, none⟩)] 141)).alloc (.cells #[.int .i64 n] 3)) := by
    refine ⟨by simpa using (HH.out.alloc _).alloc _, ((Below.refl B w).alloc hBw _).alloc (by simp; omega) _, ((Lib.OthersKept.refl _ _ w).alloc _).alloc _, ?_, ⟨.int .i64 n, ?_⟩⟩
    · exact (Below.heap_alloc _ _ _ (by simp)).trans (World.alloc_heap_new w _)
    · have := World.alloc_heap_new (w.alloc (.cells #[.pointer (some ⟨b, 0, none⟩)] 141)) (.cells #[.int .i64 n] 3)
      rwa [World.size_alloc] at this
  have hbx : NBox (w.heap.size + 1) n ((w.alloc (.cells #[.pointer (some ⟨b, 0, none⟩)] 141)).alloc (.cells #[.int .i64 n] 3)) := by
    have := World.alloc_heap_new (w.alloc (.cells #[.pointer (some ⟨b, 0, none⟩)] 141)) (.cells #[.int .i64 n] 3)
    rwa [World.size_alloc] at this
  have hsz : ((w.alloc (.cells #[.pointer (some ⟨b, 0, none⟩)] 141)).alloc (.cells #[.int .i64 n] 3)).heap.size = w.heap.size + 2 := by simp
  refine wpIn_rangeFunc_all (α := Int) (gf := 177) (lb := #[.pointer (some ⟨w.heap.size + 1, 0, none⟩)]) (enc := fun x => .int .u8 x) (ok := okD) (bn := w.heap.size + 1) (bo := .cells #[.int .i64 n] 3 (0, 0)) (xs := encZ 10 n)
    rfl (by omega) rfl trivial (enters_of Tryz.func177 (by kernel_rfl) rfl)
    (fun l J hJs hY W hb hJ => digits1_in Fence.wide 4 trivial rfl (by omega) l (w.heap.size + 1) J hJs hY n 9 (by omega) h0 h1 (EncFits.ten h1) W hb hJ)
    rfl (by rw [hsz]; omega) hbx (WInv w B b bs)
    (fun s W l o o' hl ho hc hi => hi.putObj hBw o' (by rw [hsz] at hl; omega) ho hc)
    (fun s W o hi => hi.alloc hBw o) (fun s W v hi => hi.set hBw hbw v) hI0
    (fun x => { tmps := #[.pointer (some ⟨b, 0, none⟩), .int .i64 n, .pointer (some ⟨w.heap.size, 0, none⟩), undef, .int .u8 x, .int .i64 n, .func (.func 177) #[] #[.pointer (some ⟨w.heap.size + 1, 0, none⟩)], .int .u8 x, undef, undef, undef], defers := [] }) ?assign ?body ?done
  case assign =>
    intro l x W K hK
    gi_wp2
    exact hK
  case body =>
    rintro l pre x W hl hok hi
    have hpar : W.cell? ⟨w.heap.size, 0, none⟩ = some (.pointer (some ⟨b, 0, none⟩)) := by rw [Lib.cell_of_heap hi.par]; rfl
    have hWB : B ≤ W.heap.size := Nat.le_trans hBw hi.below.size
    have HC : Hid ((bs ++ pre.map (Value.int .u8)).length + 1 ≤ 140737488355328) := Lib.hid (by have := hok.2.2; have := HL.out; simp; omega)
    gi_wp2_with (refine ⟨trivial, ?_⟩; gi_at_call 148; refine (CallsIn.inRound l (callsIn_wide.2 (writeByte_k B b _ _ _ hi.bld HC.out hWB))).mono ?_; rintro e W' ⟨rfl, h2, hb2, hk2⟩)
    gi_wp2
    obtain ⟨v, hv⟩ := hi.box
    refine ⟨⟨hb2.size, fun k o hk hc => ?_⟩, ?_, ?_⟩
    · refine hk2 k o hk ?_ ?_
      · intro e1; cases e1
        exact (hi.bld.elim (fun x => by obtain ⟨_, _, hbk, _⟩ := x; rw [hbk] at hk; cases hk; cases hc) (fun x => by obtain ⟨_, _, hbk, _⟩ := x; rw [hbk] at hk; cases hk; cases hc))
      · intro c fz e1; subst e1; cases hc
    · rw [hk2 _ _ hv (fun e1 => by cases e1; omega) (fun c fz e1 => by cases e1), hv]
    · refine ⟨Or.inr (by simpa using h2), hi.below.trans hb2, hi.kept.trans hk2, hk2 _ _ hi.par (fun e1 => by cases e1; omega) (fun c fz e1 => by cases e1), ⟨v, hk2 _ _ hv (fun e1 => by cases e1; omega) (fun c fz e1 => by cases e1)⟩⟩
  case done =>
    rintro D W hD hi hK
    gi_wp2
    rw [hsz] at hD
    have hi' := hi.putObj hBw (.deferred none) (by omega) hK rfl
    refine ⟨by simp, .inl ⟨_, _, rfl, run_takeDeferred hK, ?_⟩⟩
    refine ⟨_, results_none rfl _ _ _, rfl, ?_, hi'.below, hi'.kept⟩
    have := hi'.bld
    rwa [encZ_bytes 10 n h0] at this

end Go.Proofs.YtdedfkljaeloiaaGreatDoor

/- Helpers for the pool: strings, slices, digests, bytes. -/
namespace Go.Proofs.YtdedfkljaeloiaaGreatDoor
open Go.RowKit
set_option linter.unusedVariables false

theorem ret_bool {a b : Bool} (h : a = b) : Ending.returned (.bool a) = .returned (.bool b) := by rw [h]
theorem ba_len (l : List UInt8) : (⟨l.toArray⟩ : ByteArray).size = l.length := by show l.toArray.size = _; simp
/-- What lies behind a region of reads and of calls that only make memory. -/
theorem below_rg {w w' : World} (h : ∃ p : Regrown, w' = Go.Sort.grow (redrawn w p.d) p.os) : Below w.heap.size w w' := by
  obtain ⟨p, rfl⟩ := h; exact below_regrown w p.d p.os
/-- A cell behind new blocks. -/
theorem cell_a1 {w : World} {p : Addr} {v : Value} (h : w.cell? p = some v) (o : Obj) : (w.alloc o).cell? p = some v := by
  have hlt : p.block < w.heap.size := by
    unfold World.cell? at h
    cases ho : w.heap[p.block]? with
    | none => simp [ho] at h
    | some o => exact (Array.getElem?_eq_some_iff.1 ho).1
  exact (((Below.refl w.heap.size w).alloc (Nat.le_refl _) o).cell hlt).trans h
theorem cell_a2 {w : World} {p : Addr} {v : Value} (h : w.cell? p = some v) (o o' : Obj) : ((w.alloc o).alloc o').cell? p = some v := cell_a1 (cell_a1 h o) o'
theorem cell_a3 {w : World} {p : Addr} {v : Value} (h : w.cell? p = some v) (o o' o'' : Obj) : (((w.alloc o).alloc o').alloc o'').cell? p = some v := cell_a1 (cell_a2 h o o') o''
theorem ba_eq {t : ByteArray} {l : List UInt8} (h : t.data.toList = l) : t = ⟨l.toArray⟩ := by
  subst h; cases t; simp
theorem infoU64 : (Tryz.prog.info? 33).map (fun i => (i.zero, i.size, i.bytes)) = some (some (.int .u64 0), 1, 8) := by kernel_rfl
theorem cellsU64 : Tryz.prog.cellsOf 33 = 1 := by kernel_rfl
theorem plainU64 : Tryz.prog.plainKey 33 = true := by kernel_rfl
theorem neq_dig (x y x' y' : Int) (W : World) : (binOp .neq 35 (.agg #[.int .u64 x, .int .u64 y]) (.agg #[.int .u64 x', .int .u64 y'])).run Tryz.prog W = .ok (.bool (!(x == x' && y == y'))) W := by
  obtain ⟨i0, hi0, _, hs, _⟩ := info_parts infoU64
  rw [run_neq_struct]
  have h := run_equalIn_array W 9999 #[.int .u64 x, .int .u64 y] #[.int .u64 x', .int .u64 y'] Tryz.underlying35 hi0
  rw [cellsU64, show List.range 2 = [0, 1] from rfl] at h
  have h2 : (Op.equalIn 10000 35 (.agg #[.int .u64 x, .int .u64 y]) (.agg #[.int .u64 x', .int .u64 y'])).run Tryz.prog W = _ := h
  rw [h2]
  have p0 : ∀ (a b : Int) (V : World), (part 33 #[.int .u64 a, .int .u64 b] (0 * 1)).run Tryz.prog V = .ok (.int .u64 a) V := fun a b V => run_part_plain V plainU64 rfl
  have p1 : ∀ (a b : Int) (V : World), (part 33 #[.int .u64 a, .int .u64 b] (1 * 1)).run Tryz.prog V = .ok (.int .u64 b) V := fun a b V => run_part_plain V plainU64 rfl
  have q : ∀ (a b : Int) (V : World), (Op.equalIn 9999 33 (.int .u64 a) (.int .u64 b)).run Tryz.prog V = .ok (a == b) V := fun a b V => run_equalIn_int V 9998 _ _ _ a b Tryz.underlying33
  simp only [Op.eqItems, Sem.run_bind, p0, q, Result.andThen_ok]
  have p1' : ∀ (a b : Int) (V : World), (part 33 #[.int .u64 a, .int .u64 b] 1).run Tryz.prog V = .ok (.int .u64 b) V := p1
  by_cases h1 : x = x' <;> by_cases h3 : y = y' <;> simp [h1, h3, p1', q]
/-- A slice of digests that lies below block B. -/
def Digs (B : Nat) (W : World) (a : Option Addr) (ds : List (Int × Int)) : Prop :=
  ∀ i (h : i < ds.length), ∃ b off, a = some ⟨b, off, none⟩ ∧ b < B ∧ W.cell? ⟨b, off + i * 2, none⟩ = some (.int .u64 ds[i].1) ∧ W.cell? ⟨b, off + i * 2 + 1, none⟩ = some (.int .u64 ds[i].2)
theorem Digs.below {B B' : Nat} {W W' : World} {a : Option Addr} {ds : List (Int × Int)} (h : Digs B W a ds) (hb : Below B' W W') (hB : B ≤ B') : Digs B W' a ds := by
  intro i hi
  obtain ⟨b, off, ha, hlt, hc, hd⟩ := h i hi
  exact ⟨b, off, ha, hlt, (hb.cell (p := ⟨b, off + i * 2, none⟩) (by simp; omega)).trans hc, (hb.cell (p := ⟨b, off + i * 2 + 1, none⟩) (by simp; omega)).trans hd⟩
theorem Digs.mono {B B' : Nat} {W : World} {a : Option Addr} {ds : List (Int × Int)} (h : Digs B W a ds) (hB : B ≤ B') : Digs B' W a ds := by
  intro i hi
  obtain ⟨b, off, ha, hlt, hc⟩ := h i hi
  exact ⟨b, off, ha, by omega, hc⟩
theorem Digs.nil (B : Nat) (W : World) (a : Option Addr) : Digs B W a [] := fun i h => by simp at h
theorem take_eq_step {α : Type} {l m : List α} {k : Nat} (h : l.take k = m.take k) (hl : k < l.length) (hm : k < m.length) (he : l[k] = m[k]) : l.take (k + 1) = m.take (k + 1) := by
  rw [List.take_succ_eq_append_getElem hl, List.take_succ_eq_append_getElem hm, h, he]
theorem ownsRow_sliceN {w : World} {base : Nat} {e : TypeId} {z : Nat} {v : Value} {n : Nat} {xs : List Value} (h : w.ownsRow base e z v n xs) : ∃ a cap, v = .slice a n cap ∧ n ≤ cap := by
  rcases h.2 with ⟨rfl, rfl⟩ | ⟨g, cap, cur, rfl, _, _, h1, _⟩
  · exact ⟨_, _, rfl, Nat.le_refl _⟩
  · exact ⟨_, _, rfl, h1⟩
theorem ex_mid (A : List UInt8) (i j : Nat) : (⟨A.toArray⟩ : ByteArray).extract i j = ⟨((A.drop i).take (j - i)).toArray⟩ := ba_eq (by rw [Lib.extract_data])
theorem sl_mid (A : List UInt8) (i j : Nat) (h : i ≤ j) (hj : j ≤ A.length) (W : World) : (Instr.slice 9 (.string ⟨A.toArray⟩) (some (.int .i64 i)) (some (.int .i64 j)) none).run Tryz.prog W = .ok (.string ⟨((A.drop i).take (j - i)).toArray⟩) W := by
  rw [run_slice_string W 9 ⟨A.toArray⟩ .i64 .i64 i j Tryz.underlying9 (by omega) (by omega) (by rw [ba_len]; omega)]
  have : (⟨A.toArray⟩ : ByteArray).extract ((i : Int)).toNat ((j : Int)).toNat = ⟨((A.drop i).take (j - i)).toArray⟩ := ba_eq (by
    rw [Lib.extract_data, Int.toNat_natCast, Int.toNat_natCast])
  rw [this]
theorem sl_hi (B : List UInt8) (n : Nat) (h : n ≤ B.length) (W : World) : (Instr.slice 9 (.string ⟨B.toArray⟩) none (some (.int .i64 n)) none).run Tryz.prog W = .ok (.string ⟨(B.take n).toArray⟩) W := by
  rw [run_slice_string_h (P := Tryz.prog) W (t := 9) ⟨B.toArray⟩ Tryz.underlying9 .i64 n (by omega) (by rw [ba_len]; omega)]
  have : (⟨B.toArray⟩ : ByteArray).extract 0 ((n : Int)).toNat = ⟨(B.take n).toArray⟩ := ba_eq (by rw [Lib.extract_data, List.drop_zero, Nat.sub_zero, Int.toNat_natCast])
  rw [this]
theorem sl_lo (B : List UInt8) (n : Nat) (h : n ≤ B.length) (W : World) : (Instr.slice 9 (.string ⟨B.toArray⟩) (some (.int .i64 n)) none none).run Tryz.prog W = .ok (.string ⟨(B.drop n).toArray⟩) W := by
  rw [run_slice_string_l (P := Tryz.prog) W (t := 9) ⟨B.toArray⟩ Tryz.underlying9 .i64 n (by omega) (by rw [ba_len]; omega)]
  have : (⟨B.toArray⟩ : ByteArray).extract ((n : Int)).toNat (⟨B.toArray⟩ : ByteArray).size = ⟨(B.drop n).toArray⟩ := ba_eq (by rw [Lib.extract_to_end, Int.toNat_natCast])
  rw [this]
def fstep (x : Int) (c : UInt8) : Int := bits .or .u64 (IntKind.u64.wrap (x * 256)) (IntKind.u64.wrap (c.toNat : Int))
/-- The number whose bytes are given. -/
def fixS (l : List UInt8) : Int := l.foldl fstep 0
def dig1 (h : Int) (c : UInt8) : Int := IntKind.u64.wrap (bits .xor .u64 h (IntKind.u64.wrap (c.toNat : Int)) * 1099511628211)
def dig2 (h : Int) (c : UInt8) : Int := bits .xor .u64 (IntKind.u64.wrap (h * 1099511628211)) (IntKind.u64.wrap (c.toNat : Int))
/-- The digest of a text. -/
def digS (l : List UInt8) : Int × Int :=
  if l.foldl dig1 14695981039346656037 = 0 ∧ l.foldl dig2 14695981039346656037 = 0 then (0, 1) else (l.foldl dig1 14695981039346656037, l.foldl dig2 14695981039346656037)
theorem foldl_take {α β : Type} (f : β → α → β) (b : β) (l : List α) (k : Nat) (h : k < l.length) : (l.take (k + 1)).foldl f b = f ((l.take k).foldl f b) l[k] := by
  rw [List.take_succ_eq_append_getElem h, List.foldl_append]; rfl
theorem int_u64 {a b : Int} (h : a = b) : Value.int .u64 a = .int .u64 b := by rw [h]
theorem st1_any (h b : Int) (w : World) :
    Calls Tryz.prog 124 #[.int .u64 h, .int .u64 b] w fun e w' => e = .returned (.int .u64 (IntKind.u64.wrap (bits BinOp.xor IntKind.u64 h b * 1099511628211))) ∧ w = w' := by
  go_enter Tryz.func124, Tryz.ntmps124
  go_wp2_with fail
  go_ret
  exact ⟨rfl, rfl⟩
theorem st2_any (h b : Int) (w : World) :
    Calls Tryz.prog 125 #[.int .u64 h, .int .u64 b] w fun e w' => e = .returned (.int .u64 (bits BinOp.xor IntKind.u64 (IntKind.u64.wrap (h * 1099511628211)) b)) ∧ w = w' := by
  go_enter Tryz.func125, Tryz.ntmps125
  go_wp2_with fail
  go_ret
  exact ⟨rfl, rfl⟩
set_option maxHeartbeats 1000000 in
theorem hash1_any (L : List UInt8) (w : World) (hs : (L.length : Int) ≤ 140737488355328) :
    Calls Tryz.prog 123 #[.string ⟨L.toArray⟩, .func (.func 124) #[] #[]] w fun e w' => e = .returned (.int .u64 (L.foldl dig1 14695981039346656037)) ∧ w = w' := by
  have HF := Lib.hid st1_any
  obtain ⟨g, hg⟩ : ∃ g : List UInt8 → Int, g = fun l => l.foldl dig1 14695981039346656037 := ⟨_, rfl⟩
  have HG : Hid (∀ k (h : k < L.length), g (L.take (k + 1)) = dig1 (g (L.take k)) L[k]) := Lib.hid (fun k h => by rw [hg]; exact foldl_take _ _ _ _ h)
  have HG0 : Hid (g (L.take 0) = 14695981039346656037) := Lib.hid (by rw [hg]; rfl)
  have HGL : Hid (L.foldl dig1 14695981039346656037 = g L) := Lib.hid (by rw [hg])
  rw [HGL.out]
  clear hg HGL
  go_enter Tryz.func123, Tryz.ntmps123
  go_wp2_with fail
  go_loop [5, 9] (fun n i => ∃ (k : Nat) (x : Int), k ≤ L.length ∧ i = .int .i64 k ∧ n = .int .u64 x ∧ Hid (x = g (L.take k))) (fun _ i => L.length - (intOf i).toNat)
  case atStart => exact ⟨0, _, by omega, rfl, rfl, Lib.hid HG0.out.symm⟩
  case round =>
    obtain ⟨k, x, hk, rfl, rfl, HX⟩ := hrel
    by_cases hlt : k < L.length
    · have HN : Hid (g (L.take (k + 1)) = dig1 x L[k]) := Lib.hid (by rw [HX.out]; exact HG.out k hlt)
      go_wp2_with fail
      refine (HF.out _ _ _).mono ?_
      rintro e w' ⟨rfl, rfl⟩
      go_wp2_with fail
      go_round
      case rel => exact ⟨k + 1, _, by omega, by go_num, rfl, Lib.hid (by rw [HN.out]; rfl)⟩
      case measure => simp [intOf]; omega
    · have HN : Hid (x = g L) := Lib.hid (by rw [HX.out, List.take_of_length_le (by omega)])
      go_wp2_with fail
      go_ret
      exact ⟨by rw [← HN.out]; rfl, rfl⟩
set_option maxHeartbeats 1000000 in
theorem hash2_any (L : List UInt8) (w : World) (hs : (L.length : Int) ≤ 140737488355328) :
    Calls Tryz.prog 123 #[.string ⟨L.toArray⟩, .func (.func 125) #[] #[]] w fun e w' => e = .returned (.int .u64 (L.foldl dig2 14695981039346656037)) ∧ w = w' := by
  have HF := Lib.hid st2_any
  obtain ⟨g, hg⟩ : ∃ g : List UInt8 → Int, g = fun l => l.foldl dig2 14695981039346656037 := ⟨_, rfl⟩
  have HG : Hid (∀ k (h : k < L.length), g (L.take (k + 1)) = dig2 (g (L.take k)) L[k]) := Lib.hid (fun k h => by rw [hg]; exact foldl_take _ _ _ _ h)
  have HG0 : Hid (g (L.take 0) = 14695981039346656037) := Lib.hid (by rw [hg]; rfl)
  have HGL : Hid (L.foldl dig2 14695981039346656037 = g L) := Lib.hid (by rw [hg])
  rw [HGL.out]
  clear hg HGL
  go_enter Tryz.func123, Tryz.ntmps123
  go_wp2_with fail
  go_loop [5, 9] (fun n i => ∃ (k : Nat) (x : Int), k ≤ L.length ∧ i = .int .i64 k ∧ n = .int .u64 x ∧ Hid (x = g (L.take k))) (fun _ i => L.length - (intOf i).toNat)
  case atStart => exact ⟨0, _, by omega, rfl, rfl, Lib.hid HG0.out.symm⟩
  case round =>
    obtain ⟨k, x, hk, rfl, rfl, HX⟩ := hrel
    by_cases hlt : k < L.length
    · have HN : Hid (g (L.take (k + 1)) = dig2 x L[k]) := Lib.hid (by rw [HX.out]; exact HG.out k hlt)
      go_wp2_with fail
      refine (HF.out _ _ _).mono ?_
      rintro e w' ⟨rfl, rfl⟩
      go_wp2_with fail
      go_round
      case rel => exact ⟨k + 1, _, by omega, by go_num, rfl, Lib.hid (by rw [HN.out]; rfl)⟩
      case measure => simp [intOf]; omega
    · have HN : Hid (x = g L) := Lib.hid (by rw [HX.out, List.take_of_length_le (by omega)])
      go_wp2_with fail
      go_ret
      exact ⟨by rw [← HN.out]; rfl, rfl⟩
theorem eql_dig (x y x' y' : Int) (W : World) : (binOp .eql 35 (.agg #[.int .u64 x, .int .u64 y]) (.agg #[.int .u64 x', .int .u64 y'])).run Tryz.prog W = .ok (.bool (x == x' && y == y')) W := by
  obtain ⟨i0, hi0, _, hs, _⟩ := info_parts infoU64
  rw [run_eql_struct]
  have h := run_equalIn_array W 9999 #[.int .u64 x, .int .u64 y] #[.int .u64 x', .int .u64 y'] Tryz.underlying35 hi0
  rw [cellsU64, show List.range 2 = [0, 1] from rfl] at h
  have h2 : (Op.equalIn 10000 35 (.agg #[.int .u64 x, .int .u64 y]) (.agg #[.int .u64 x', .int .u64 y'])).run Tryz.prog W = _ := h
  rw [h2]
  have p0 : ∀ (a b : Int) (V : World), (Go.part 33 #[.int .u64 a, .int .u64 b] (0 * 1)).run Tryz.prog V = .ok (.int .u64 a) V := fun a b V => run_part_plain V plainU64 rfl
  have p1 : ∀ (a b : Int) (V : World), (Go.part 33 #[.int .u64 a, .int .u64 b] (1 * 1)).run Tryz.prog V = .ok (.int .u64 b) V := fun a b V => run_part_plain V plainU64 rfl
  have q : ∀ (a b : Int) (V : World), (Op.equalIn 9999 33 (.int .u64 a) (.int .u64 b)).run Tryz.prog V = .ok (a == b) V := fun a b V => run_equalIn_int V 9998 _ _ _ a b Tryz.underlying33
  simp only [Op.eqItems, Sem.run_bind, p0, q, Result.andThen_ok]
  have p1' : ∀ (a b : Int) (V : World), (Go.part 33 #[.int .u64 a, .int .u64 b] 1).run Tryz.prog V = .ok (.int .u64 b) V := p1
  by_cases h1 : x = x' <;> by_cases h3 : y = y' <;> simp [h1, h3, p1', q]
set_option maxHeartbeats 1000000 in
theorem of_any (L : List UInt8) (w : World) (hs : (L.length : Int) ≤ 140737488355328) :
    Calls Tryz.prog 86 #[.string ⟨L.toArray⟩] w fun e w' => e = .returned (.agg #[.int .u64 (digS L).1, .int .u64 (digS L).2]) ∧ Below w.heap.size w w' := by
  have H1 := Lib.hid (fun w => hash1_any L w hs)
  have H2 := Lib.hid (fun w => hash2_any L w hs)
  have HD : Hid (digS L = if L.foldl dig1 14695981039346656037 = 0 ∧ L.foldl dig2 14695981039346656037 = 0 then (0, 1) else (L.foldl dig1 14695981039346656037, L.foldl dig2 14695981039346656037)) := Lib.hid rfl
  obtain ⟨R, hR⟩ : ∃ R, R = digS L := ⟨_, rfl⟩
  rw [← hR] at HD ⊢
  clear hR
  generalize L.foldl dig1 14695981039346656037 = x at H1 HD
  generalize L.foldl dig2 14695981039346656037 = y at H2 HD
  by_cases hz : x = 0 ∧ y = 0
  · obtain ⟨rfl, rfl⟩ := hz
    have HF : Hid (R = (0, 1)) := Lib.hid (by rw [HD.out]; rfl)
    have hq := fun W => eql_dig 0 0 0 0 W
    simp only [beq_self_eq_true, Bool.and_self] at hq
    go_enter Tryz.func86, Tryz.ntmps86
    go_wp2_with fail
    refine (H1.out _).mono ?_
    rintro e w1 ⟨rfl, rfl⟩
    go_wp2_with fail
    refine (H2.out _).mono ?_
    rintro e w1 ⟨rfl, rfl⟩
    go_wp2_with fail
    refine bodyPost_ret (v := .agg #[.int .u64 0, .int .u64 1]) (by simp [results, Tryz.results86, go_sem]) rfl ⟨by rw [HF.out], ?_⟩
    exact ((Below.refl _ w).alloc (Nat.le_refl _) _).alloc (by simp) _
  · have HF : Hid (R = (x, y)) := Lib.hid (by rw [HD.out, if_neg hz])
    have hq := fun W => eql_dig x y 0 0 W
    have hv : (x == 0 && y == 0) = false := by
      by_cases h1 : x = 0 <;> by_cases h3 : y = 0 <;> simp [h1, h3] at hz ⊢
    rw [hv] at hq
    clear hz hv
    go_enter Tryz.func86, Tryz.ntmps86
    go_wp2_with fail
    refine (H1.out _).mono ?_
    rintro e w1 ⟨rfl, rfl⟩
    go_wp2_with fail
    refine (H2.out _).mono ?_
    rintro e w1 ⟨rfl, rfl⟩
    go_wp2_with fail
    refine bodyPost_ret (v := .agg #[.int .u64 x, .int .u64 y]) (by simp [results, Tryz.results86, go_sem]) rfl ⟨by rw [HF.out], ?_⟩
    exact ((Below.refl _ w).alloc (Nat.le_refl _) _).alloc (by simp) _
def dcells (ds : List (Int × Int)) : List Value := ds.flatMap fun d => [.int .u64 d.1, .int .u64 d.2]
theorem dcells_append (a b : List (Int × Int)) : dcells (a ++ b) = dcells a ++ dcells b := by simp [dcells]
theorem dcells_at : ∀ (ds : List (Int × Int)) (i : Nat) (h : i < ds.length), (dcells ds)[i * 2]? = some (.int .u64 ds[i].1) ∧ (dcells ds)[i * 2 + 1]? = some (.int .u64 ds[i].2)
  | [], i, h => by simp at h
  | d :: ds, 0, h => by simp [dcells]
  | d :: ds, i + 1, h => by
    have h' : i < ds.length := by simpa using h
    have e : dcells (d :: ds) = [.int .u64 d.1, .int .u64 d.2] ++ dcells ds := by simp [dcells]
    have g : ∀ j, (dcells (d :: ds))[(i + 1) * 2 + j]? = (dcells ds)[i * 2 + j]? := fun j => by
      rw [e, List.getElem?_append_right (by simp; omega)]
      congr 1
      simp
      omega
    have := dcells_at ds i h'
    simp only [List.getElem_cons_succ]
    exact ⟨(g 0).trans this.1, (g 1).trans this.2⟩
theorem ownsRow_digs {w : World} {base : Nat} {a : Option Addr} {cap : Nat} {ds : List (Int × Int)} (h : w.ownsRow base 35 2 (.slice a ds.length cap) ds.length (dcells ds)) : Digs w.heap.size w a ds := by
  intro i hi
  rcases h.2 with ⟨h1, h2⟩ | ⟨g, cap', cur, h1, _, hg, _⟩
  · omega
  · cases h1
    obtain ⟨c0, c1⟩ := dcells_at ds i hi
    refine ⟨g, 0, rfl, (Array.getElem?_eq_some_iff.1 hg).1, ?_, ?_⟩
    · have := h.cells (g := g) rfl _ _ c0; rwa [Go.WideShapes.add_plain] at this
    · have := h.cells (g := g) rfl _ _ c1; rwa [Go.WideShapes.add_plain, ← Nat.add_assoc] at this
theorem infoDig : (Tryz.prog.info? 35).map (fun i => (i.zero, i.size, i.bytes)) = some (some (.agg #[.int .u64 0, .int .u64 0]), 2, 16) := by kernel_rfl
theorem gcell2 {u w' : World} {row : Option Nat} (hg : u.grownBy w' row) {b : Nat} (hb : b < u.heap.size) (hr : row ≠ some b) (j : Nat) : w'.cell? ⟨b, j, none⟩ = u.cell? ⟨b, j, none⟩ ∧ w'.frozen? ⟨b, j, none⟩ = u.frozen? ⟨b, j, none⟩ := by
  have hk := hg.block b hb (fun h => hr h.symm)
  exact ⟨World.cell?_of_block (a := ⟨b, j, none⟩) hk, World.frozen?_of_block (a := ⟨b, j, none⟩) hk⟩
theorem gset (x : World) (b j : Nat) (v : Value) : x.grownBy (x.setCell ⟨b, j, none⟩ v) (some b) := ⟨rfl, rfl, rfl, by simp, fun k _ hk => Below.heap_setCell _ _ _ k (fun e => hk (by rw [e]))⟩
theorem gtrans {x y z : World} {r : Option Nat} (h1 : x.grownBy y r) (h2 : y.grownBy z r) : x.grownBy z r :=
  ⟨h2.os.trans h1.os, h2.tape.trans h1.tape, h2.output.trans h1.output, Nat.le_trans h1.size h2.size, fun k hk hr => (h2.block k (Nat.lt_of_lt_of_le hk h1.size) hr).trans (h1.block k hk hr)⟩
theorem wrap_u64 (n : Int) : IntKind.u64.wrap n = n % 18446744073709551616 := by
  simp [IntKind.wrap, IntKind.bits, IntKind.signed]
theorem fstep_eq (x : Int) (c : UInt8) : fstep x c = (x * 256) % 18446744073709551616 + c.toNat := by
  have hc := c.toNat_lt
  have hc' : (c.toNat : Int) % 18446744073709551616 = c.toNat := by omega
  unfold fstep bits
  simp only [wrap_u64, hc']
  obtain ⟨q, hq⟩ : ∃ q : Nat, (x * 256) % 18446744073709551616 = ((q * 256 : Nat) : Int) := ⟨((x * 256) % 18446744073709551616 / 256).toNat, by omega⟩
  have hq2 : q * 256 < 18446744073709551616 := by omega
  rw [hq]
  have e1 : (BitVec.ofInt IntKind.u64.bits ((q * 256 : Nat) : Int)).toNat = q * 256 := by
    simp only [IntKind.bits, BitVec.ofInt_natCast, BitVec.toNat_ofNat]
    exact Nat.mod_eq_of_lt hq2
  have e2 : (BitVec.ofInt IntKind.u64.bits ((c.toNat : Nat) : Int)).toNat = c.toNat := by
    simp only [IntKind.bits, BitVec.ofInt_natCast, BitVec.toNat_ofNat]
    exact Nat.mod_eq_of_lt (by omega)
  rw [BitVec.toNat_or, e1, e2]
  have e3 : q * 256 ||| c.toNat = q * 256 + c.toNat := by
    have := Nat.shiftLeft_add_eq_or_of_lt (i := 8) (b := c.toNat) (by omega) q
    rw [Nat.shiftLeft_eq] at this
    exact this.symm
  rw [e3]
  omega
/-- The number whose bytes are given, as a natural number. -/
def fixN (l : List UInt8) : Nat := l.foldl (fun n c => n * 256 + c.toNat) 0
theorem fix_go (l : List UInt8) : ∀ (n : Nat), (n + 1) * 256 ^ l.length ≤ 18446744073709551616 → l.foldl fstep (n : Int) = ((l.foldl (fun n c => n * 256 + c.toNat) n : Nat) : Int) := by
  induction l with
  | nil => intro n _; rfl
  | cons c l ih =>
    intro n h
    have hc := c.toNat_lt
    rw [List.length_cons, Nat.pow_succ] at h
    have hp : 1 ≤ 256 ^ l.length := Nat.one_le_pow _ _ (by omega)
    have h2 : (n * 256 + c.toNat + 1) * 256 ^ l.length ≤ 18446744073709551616 := by
      refine Nat.le_trans (Nat.mul_le_mul_right _ (show n * 256 + c.toNat + 1 ≤ (n + 1) * 256 by omega)) ?_
      rw [Nat.mul_assoc, Nat.mul_comm 256]; exact h
    have h3 : n * 256 + c.toNat + 1 ≤ 18446744073709551616 := Nat.le_trans (Nat.le_mul_of_pos_right _ hp) h2
    simp only [List.foldl_cons]
    rw [← ih _ h2, fstep_eq]
    congr 1
    rw [Int.emod_eq_of_lt (by omega) (by omega)]
    simp
theorem fix_is (l : List UInt8) (h : l.length ≤ 8) : fixS l = (fixN l : Int) := by
  refine fix_go l 0 ?_
  rw [Nat.zero_add, Nat.one_mul]
  exact Nat.le_trans (Nat.pow_le_pow_right (by omega) h) (by decide)
theorem fixN_go (l : List UInt8) : ∀ n : Nat, l.foldl (fun n c => n * 256 + c.toNat) n < (n + 1) * 256 ^ l.length := by
  induction l with
  | nil => intro n; simp
  | cons c l ih =>
    intro n
    have hc := c.toNat_lt
    rw [List.foldl_cons, List.length_cons, Nat.pow_succ]
    refine Nat.lt_of_lt_of_le (ih _) ?_
    rw [Nat.mul_comm (256 ^ l.length), ← Nat.mul_assoc]
    exact Nat.mul_le_mul_right _ (by omega)
theorem fixN_lt (l : List UInt8) : fixN l < 256 ^ l.length := by
  have := fixN_go l 0
  rwa [Nat.zero_add, Nat.one_mul] at this
theorem Digs.kept {w w' : World} {a : Option Addr} {ds : List (Int × Int)} {row : Option Nat} (h : Digs w.heap.size w a ds) (hg : w.grownBy w' row) (hne : 0 < ds.length → ∀ ad, a = some ad → row ≠ some ad.block) : Digs w'.heap.size w' a ds := by
  intro i hi
  obtain ⟨b, off, rfl, hlt, h1, h2⟩ := h i hi
  have hr : row ≠ some b := hne (by omega) _ rfl
  exact ⟨b, off, rfl, Nat.lt_of_lt_of_le hlt hg.size, (hg.cell_far ⟨b, off + i * 2, none⟩ hlt (fun e => hr e.symm)).trans h1, (hg.cell_far ⟨b, off + i * 2 + 1, none⟩ hlt (fun e => hr e.symm)).trans h2⟩
theorem sl_int (A : List UInt8) (i j : Int) (h0 : 0 ≤ i) (h : i ≤ j) (hj : j ≤ A.length) (W : World) : (Instr.slice 9 (.string ⟨A.toArray⟩) (some (.int .i64 i)) (some (.int .i64 j)) none).run Tryz.prog W = .ok (.string ⟨((A.drop i.toNat).take (j.toNat - i.toNat)).toArray⟩) W := by
  have := sl_mid A i.toNat j.toNat (by omega) (by omega) W
  rwa [Int.toNat_of_nonneg h0, Int.toNat_of_nonneg (by omega)] at this
theorem wrap_i64 {n : Int} (h0 : 0 ≤ n) (h1 : n ≤ 9223372036854775807) : IntKind.i64.wrap n = n := by
  simp only [IntKind.wrap, IntKind.bits, IntKind.signed]
  simp
  omega
/-- So many bytes of a number, the greatest first. -/
def be : Nat → Int → List UInt8
  | 0, _ => []
  | k + 1, n => UInt8.ofNat ((n / 2 ^ (8 * k)) % 256).toNat :: be k n
theorem be_length : ∀ (k : Nat) (n : Int), (be k n).length = k
  | 0, _ => rfl
  | k + 1, n => by rw [be, List.length_cons, be_length]
theorem takeL {a : List UInt8} {n : Nat} (h : a.length = n) (b : List UInt8) : (a ++ b).take n = a := by subst h; rw [List.take_left]
theorem dropL {a : List UInt8} {n : Nat} (h : a.length = n) (b : List UInt8) : (a ++ b).drop n = b := by subst h; rw [List.drop_left]
theorem pow8 (k : Nat) : 2 ^ (8 * k) = 256 ^ k := by rw [Nat.pow_mul]
end Go.Proofs.YtdedfkljaeloiaaGreatDoor

/- codec.PutInt, PutText, GetText, and the reference's PutText, GetText. -/
namespace Go.Proofs.YtdedfkljaeloiaaGreatDoor
open Go.RowKit

theorem ba_append (l : List UInt8) (s : ByteArray) : (⟨l.toArray⟩ : ByteArray) ++ s = ⟨(l ++ s.data.toList).toArray⟩ := by
  apply ba_eq; simp [ByteArray.data_append]

theorem ba_size (s : ByteArray) : s.data.toList.length = s.size := Array.length_toList

theorem enc_ne (n : Nat) : Cw.enc n ≠ [] := by
  unfold Cw.enc; rw [Cw.encF]; split <;> simp

theorem enc_length (n : Nat) : (Cw.enc n).length ≤ 10 := encF_length 10 n

theorem fresh_bld (w : World) : Lib.IsBuilderF 143 5 w.heap.size w.heap.size [] (w.alloc (.cells #[.pointer none, .slice none 0 0] 143)) :=
  Lib.IsBuilderF.of (Lib.fresh_isBuilder _ _ _)

theorem byteCells_append (a b : List UInt8) : Lib.byteCells (a ++ b) = Lib.byteCells a ++ Lib.byteCells b := by simp [Lib.byteCells]
theorem strCells_eq (s : ByteArray) : Lib.strCells s = Lib.byteCells s.data.toList := by
  simp [Lib.strCells, Lib.byteCells]

set_option maxRecDepth 100000 in
set_option maxHeartbeats 1000000 in
theorem putInt_any (n : Int) (w : World) :
    Calls Tryz.prog 71 #[.int .i64 n] w fun e w' => e = T2s (putI n).1 (putI n).2 ∧ Below w.heap.size w w' := by
  by_cases h : Cw.inR n = true
  · have hp : putI n = (Cw.enc n.toNat, 0) := if_pos h
    obtain ⟨h0, h1⟩ := (Cw.inR_iff n).1 h
    rw [hp]
    have HI : Hid (∀ w : World, Calls Tryz.prog 101 #[.int .i64 n] w fun e w' => e = .returned (.bool true) ∧ w = w') :=
      Lib.hid (fun w => by have := inRange_any n w; rwa [h] at this)
    clear h hp
    go_enter Tryz.func71, Tryz.ntmps71
    go_wp2_with (go_at_call 101; refine (HI.out _).mono ?_; rintro e w' ⟨rfl, rfl⟩)
    refine (writeInt_k w.heap.size w.heap.size [] n _ (fresh_bld w) h0 (by omega) (by simp) (by simp)).mono ?_
    rintro e w1 ⟨rfl, hb1, hbel1, _⟩
    rw [List.nil_append] at hb1
    go_wp2_with fail
    refine (bldString_k w.heap.size w.heap.size (Cw.enc n.toNat) w1 hb1 (enc_ne _)).mono ?_
    rintro e w2 ⟨rfl, _, hbel2, _⟩
    go_wp2_with fail
    go_ret2
    exact ⟨rfl, (((Below.refl _ w).alloc (Nat.le_refl _) _).trans hbel1).trans hbel2⟩
  · have h' : Cw.inR n = false := by simpa using h
    have hp : putI n = ([], 2) := if_neg h
    have HI : Hid (∀ w : World, Calls Tryz.prog 101 #[.int .i64 n] w fun e w' => e = .returned (.bool false) ∧ w = w') :=
      Lib.hid (fun w => by have := inRange_any n w; rwa [h'] at this)
    rw [hp]
    clear h h' hp
    go_enter Tryz.func71, Tryz.ntmps71
    go_wp2_with (go_at_call 101; refine (HI.out _).mono ?_; rintro e w' ⟨rfl, rfl⟩)
    go_ret2
    exact ⟨rfl, Below.refl _ _⟩

/-- What PutText returns. -/
def putT (l : List UInt8) : List UInt8 × Int := if l.length ≤ 65536 then (Cw.enc l.length ++ l, 0) else ([], 4)

set_option maxRecDepth 100000 in
set_option maxHeartbeats 1000000 in
theorem putText_any (s : ByteArray) (w : World) (hs : (s.size : Int) ≤ 9223372036854775807) :
    Calls Tryz.prog 73 #[.string s] w fun e w' => e = T2s (putT s.data.toList).1 (putT s.data.toList).2 ∧ Below w.heap.size w w' := by
  by_cases h : (s.size : Int) ≤ 65536
  · have hp : putT s.data.toList = (Cw.enc s.size ++ s.data.toList, 0) := by
      unfold putT; rw [ba_size, if_pos (by omega)]
    rw [hp]
    clear hp
    have hel := enc_length s.size
    go_enter Tryz.func73, Tryz.ntmps73
    go_wp2_with fail
    refine (writeInt_k w.heap.size w.heap.size [] s.size _ (fresh_bld w) (by omega) (by omega) (by simp) (by simp)).mono ?_
    rintro e w1 ⟨rfl, hb1, hbel1, _⟩
    rw [List.nil_append, Int.toNat_natCast] at hb1
    go_wp2_with fail
    refine (writeString_k w.heap.size w.heap.size _ s w1 hb1 (by rw [Lib.byteCells_length]; omega) (by have := hbel1.size; simp at this; omega)).mono ?_
    rintro e w2 ⟨rfl, hb2, hbel2, _⟩
    rw [strCells_eq, ← byteCells_append] at hb2
    go_wp2_with fail
    refine (bldString_k w.heap.size w.heap.size (Cw.enc s.size ++ s.data.toList) w2 (.inr hb2) (by simp [enc_ne])).mono ?_
    rintro e w3 ⟨rfl, _, hbel3, _⟩
    go_wp2_with fail
    go_ret2
    exact ⟨rfl, ((((Below.refl _ w).alloc (Nat.le_refl _) _).trans hbel1).trans hbel2).trans hbel3⟩
  · have hp : putT s.data.toList = ([], 4) := by
      unfold putT; rw [ba_size, if_neg (by omega)]
    rw [hp]
    clear hp
    go_enter Tryz.func73, Tryz.ntmps73
    go_wp2_with fail
    go_ret2
    exact ⟨rfl, Below.refl _ _⟩

set_option maxRecDepth 100000 in
set_option maxHeartbeats 1000000 in
theorem refPutText_any (s : ByteArray) (w : World) (hs : (s.size : Int) ≤ 9223372036854775807) :
    Calls Tryz.prog 69 #[.string s] w fun e w' => e = T2s (putT s.data.toList).1 (putT s.data.toList).2 ∧ Below w.heap.size w w' := by
  by_cases h : (s.size : Int) ≤ 65536
  · have hp : putT s.data.toList = (Cw.enc s.size ++ s.data.toList, 0) := by
      unfold putT; rw [ba_size, if_pos (by omega)]
    rw [hp]
    clear hp
    have hel := enc_length s.size
    have hadd : ∀ W, (Op.stringOp .add ⟨(Cw.enc s.size).toArray⟩ s).run Tryz.prog W = .ok (.string ⟨(Cw.enc s.size ++ s.data.toList).toArray⟩) W := by
      intro W
      rw [run_string_add_sum W _ _ (by rw [ba_len]; omega), ba_append]
    go_enter Tryz.func69, Tryz.ntmps69
    go_wp2_with fail
    refine (refPut_ok s.size _ (by omega) (by omega)).mono ?_
    rw [Int.toNat_natCast]
    rintro e w1 ⟨rfl, hbel1⟩
    go_wp2_with fail
    go_ret2
    exact ⟨rfl, hbel1⟩
  · have hp : putT s.data.toList = ([], 4) := by
      unfold putT; rw [ba_size, if_neg (by omega)]
    rw [hp]
    clear hp
    go_enter Tryz.func69, Tryz.ntmps69
    go_wp2_with fail
    go_ret2
    exact ⟨rfl, Below.refl _ _⟩

/-- What a read number is: in range, and its bytes are there. -/
theorem getGo_bounds : ∀ (f i : Nat) (n u : Int) (l : List UInt8), 0 ≤ n → 0 ≤ u → (Cw.getGo f i n u l).2.2 = 0 →
    0 ≤ (Cw.getGo f i n u l).1 ∧ (Cw.getGo f i n u l).1 ≤ 1099511627776 ∧ (i : Int) + 1 ≤ (Cw.getGo f i n u l).2.1 ∧ (Cw.getGo f i n u l).2.1 ≤ i + l.length ∧ (Cw.getGo f i n u l).2.1 ≤ i + f
  | 0, _, _, _, _, _, _, h => by simp [Cw.getGo] at h
  | _ + 1, _, _, _, [], _, _, h => by simp [Cw.getGo] at h
  | f + 1, i, n, u, c :: r, hn, hu, h => by
    rw [Cw.getGo] at h ⊢
    by_cases hc : 128 ≤ c.toNat
    · rw [if_pos hc] at h ⊢
      have h1 : 0 ≤ n + ((c.toNat : Int) - 128) * u := by have := Int.mul_nonneg (show 0 ≤ (c.toNat : Int) - 128 by omega) hu; omega
      have := getGo_bounds f (i + 1) _ _ r h1 (by omega) h
      simp only [List.length_cons]; omega
    · rw [if_neg hc] at h ⊢
      by_cases hx : (c.toNat = 0 ∧ 0 < i) ∨ 1099511627776 < n + (c.toNat : Int) * u
      · rw [if_pos hx] at h; simp at h
      · rw [if_neg hx]
        have h1 : 0 ≤ (c.toNat : Int) * u := Int.mul_nonneg (by omega) hu
        simp only [List.length_cons]
        refine ⟨by omega, by omega, by omega, by omega, by omega⟩

theorem getI_bounds {l : List UInt8} {n k : Int} (h : Cw.getI l = (n, k, 0)) : 0 ≤ n ∧ n ≤ 1099511627776 ∧ 1 ≤ k ∧ k ≤ l.length ∧ k ≤ 6 := by
  have := getGo_bounds 6 0 0 1 l (by omega) (by omega) (by show (Cw.getI l).2.2 = 0; rw [h])
  have e : Cw.getGo 6 0 0 1 l = (n, k, 0) := h
  rw [e] at this
  simp at this; omega

theorem getGo_err : ∀ (f i : Nat) (n u : Int) (l : List UInt8), (Cw.getGo f i n u l).2.2 ≠ 0 → Cw.getGo f i n u l = (0, 0, 12) ∨ Cw.getGo f i n u l = (0, 0, 13)
  | 0, _, _, _, _, _ => .inr rfl
  | _ + 1, _, _, _, [], _ => .inl rfl
  | f + 1, i, n, u, c :: r, h => by
    rw [Cw.getGo] at h ⊢
    by_cases hc : 128 ≤ c.toNat
    · rw [if_pos hc] at h ⊢
      exact getGo_err f _ _ _ r h
    · rw [if_neg hc] at h ⊢
      by_cases hx : (c.toNat = 0 ∧ 0 < i) ∨ 1099511627776 < n + (c.toNat : Int) * u
      · rw [if_pos hx]; exact .inr rfl
      · rw [if_neg hx] at h; exact absurd rfl h

/-- GetInt, its result under names. -/
theorem getInt_is {s : ByteArray} {n k er : Int} (h : Cw.getI s.data.toList = (n, k, er)) (w : World) :
    Calls Tryz.prog 194 #[.string s] w fun e w' => e = .returned (.tuple #[.int .i64 n, .int .i64 k, .int .i64 er]) ∧ w = w' := by
  have := getInt_any s w; rw [h] at this; exact this
def T3s (x : List UInt8 × Int × Int) : Ending := .returned (.tuple #[.string ⟨x.1.toArray⟩, .int .i64 x.2.1, .int .i64 x.2.2])

/-- The cases of GetText. -/
theorem getT_cases (l : List UInt8) : ∃ n k er, Cw.getI l = (n, k, er) ∧
    ((er ≠ 0 ∧ Cw.getT l = ([], 0, er)) ∨
     (er = 0 ∧ 65536 < n ∧ Cw.getT l = ([], 0, 13)) ∨
     (er = 0 ∧ n ≤ 65536 ∧ (l.length : Int) - k < n ∧ Cw.getT l = ([], 0, 12)) ∨
     (er = 0 ∧ n ≤ 65536 ∧ n ≤ (l.length : Int) - k ∧ Cw.getT l = ((l.drop k.toNat).take n.toNat, k + n, 0))) := by
  obtain ⟨n, k, er, h⟩ : ∃ n k er, Cw.getI l = (n, k, er) := ⟨_, _, _, rfl⟩
  refine ⟨n, k, er, h, ?_⟩
  unfold Cw.getT
  rw [h]
  by_cases he : er = 0
  · right
    rw [if_neg (by simpa using he)]
    by_cases hn : 65536 < n
    · left; exact ⟨he, hn, if_pos hn⟩
    · right
      rw [if_neg hn]
      by_cases hl : (l.length : Int) - k < n
      · left; exact ⟨he, by omega, hl, if_pos hl⟩
      · right; exact ⟨he, by omega, by omega, if_neg hl⟩
  · left; exact ⟨he, if_pos he⟩

set_option maxRecDepth 100000 in
set_option maxHeartbeats 1000000 in
theorem getText_any (s : ByteArray) (w : World) (hs : (s.size : Int) ≤ 140737488355328) :
    Calls Tryz.prog 195 #[.string s] w fun e w' => e = T3s (Cw.getT s.data.toList) ∧ w = w' := by
  obtain ⟨n, k, er, h, hc⟩ := getT_cases s.data.toList
  have HG := Lib.hid (getInt_is h)
  rw [ba_size] at hc
  rcases hc with ⟨he, hr⟩ | ⟨rfl, hn, hr⟩ | ⟨rfl, hn, hl, hr⟩ | ⟨rfl, hn, hl, hr⟩
  · rw [hr]
    clear h hr
    have he' : (er != 0) = true := by simpa using he
    go_enter Tryz.func195, Tryz.ntmps195
    go_wp2_with (go_at_call 194; refine (HG.out _).mono ?_; rintro e w' ⟨rfl, rfl⟩)
    go_ret3
    exact ⟨rfl, rfl⟩
  · rw [hr]
    clear h hr
    go_enter Tryz.func195, Tryz.ntmps195
    go_wp2_with (go_at_call 194; refine (HG.out _).mono ?_; rintro e w' ⟨rfl, rfl⟩)
    go_ret3
    exact ⟨rfl, rfl⟩
  · have hb := getI_bounds h
    rw [ba_size] at hb
    rw [hr]
    clear h hr
    go_enter Tryz.func195, Tryz.ntmps195
    go_wp2_with (go_at_call 194; refine (HG.out _).mono ?_; rintro e w' ⟨rfl, rfl⟩)
    go_ret3
    exact ⟨rfl, rfl⟩
  · have hb := getI_bounds h
    rw [ba_size] at hb
    obtain ⟨t, ht, hsl⟩ : ∃ t : ByteArray, t = ⟨((s.data.toList.drop k.toNat).take n.toNat).toArray⟩ ∧ ∀ W, (Instr.slice 9 (.string s) (some (.int .i64 k)) (some (.int .i64 (k + n))) none).run Tryz.prog W = .ok (.string t) W := by
      refine ⟨s.extract k.toNat (k + n).toNat, ba_eq ?_, fun W => run_slice_string W 9 s .i64 .i64 k (k + n) Tryz.underlying9 (by omega) (by omega) (by omega)⟩
      rw [Lib.extract_data, show (k + n).toNat - k.toNat = n.toNat from by omega]
    have HR : Hid (Ending.returned (.tuple #[.string t, .int .i64 (k + n), .int .i64 0]) = T3s (Cw.getT s.data.toList)) := Lib.hid (by rw [hr, ht]; rfl)
    clear h hr ht
    go_enter Tryz.func195, Tryz.ntmps195
    go_wp2_with (go_at_call 194; refine (HG.out _).mono ?_; rintro e w' ⟨rfl, rfl⟩)
    go_ret3
    exact ⟨HR.out, rfl⟩

end Go.Proofs.YtdedfkljaeloiaaGreatDoor

/- Plain laws of numbers as bytes: what was put can be got again; what can be got was put; a proper beginning is too short. -/
namespace Go.Proofs.YtdedfkljaeloiaaGreatDoor.Cw

theorem toNat_ofNat (n : Nat) (h : n < 256) : (UInt8.ofNat n).toNat = n := by simp; omega

theorem encF_lo {f n : Nat} (h : n < 128) : encF (f + 1) n = [UInt8.ofNat n] := if_pos h
theorem encF_hi {f n : Nat} (h : 128 ≤ n) : encF (f + 1) n = UInt8.ofNat (n % 128 + 128) :: encF f (n / 128) := if_neg (by omega)

theorem getGo_enc : ∀ (g f i m : Nat) (a u : Int) (rest : List UInt8), m < 128 ^ g → m < 128 ^ f → 1 ≤ g → 1 ≤ f → (i = 0 ∨ 1 ≤ m) → 0 ≤ u → a + m * u ≤ 1099511627776 →
    getGo f i a u (encF g m ++ rest) = (a + m * u, (i : Int) + (encF g m).length, 0)
  | 0, _, _, _, _, _, _, _, _, h, _, _, _, _ => by omega
  | _ + 1, 0, _, _, _, _, _, _, _, _, h, _, _, _ => by omega
  | g + 1, f + 1, i, m, a, u, rest, hg, hf, _, _, hi, hu, hm => by
    by_cases h : m < 128
    · rw [encF_lo h, List.cons_append, List.nil_append, getGo, toNat_ofNat m (by omega), if_neg (by omega), if_neg]
      · simp
      · rintro (⟨h1, h2⟩ | h2) <;> omega
    · have h' : 128 ≤ m := by omega
      rw [encF_hi h', List.cons_append, getGo, toNat_ofNat _ (by omega), if_pos (by omega)]
      have e : a + ((m % 128 + 128 : Nat) - 128 : Int) * u + ((m / 128 : Nat) : Int) * (u * 128) = a + m * u := by
        have h1 : ((m % 128 + 128 : Nat) - 128 : Int) = ((m % 128 : Nat) : Int) := by omega
        have h2 : ((m : Nat) : Int) = ((m % 128 : Nat) : Int) + 128 * ((m / 128 : Nat) : Int) := by omega
        rw [h1]
        conv => rhs; rw [h2]
        rw [Int.add_mul, Int.mul_comm u 128, ← Int.mul_assoc, Int.mul_comm (m / 128 : Nat) 128]
        omega
      have hg' : 1 ≤ g := by
        rcases Nat.eq_zero_or_pos g with h0 | h0
        · subst h0; simp at hg; omega
        · exact h0
      have hf' : 1 ≤ f := by
        rcases Nat.eq_zero_or_pos f with h0 | h0
        · subst h0; simp at hf; omega
        · exact h0
      rw [getGo_enc g f (i + 1) (m / 128) _ (u * 128) rest (by rw [Nat.pow_succ] at hg; exact Nat.div_lt_of_lt_mul (by rw [Nat.mul_comm]; exact hg)) (by rw [Nat.pow_succ] at hf; exact Nat.div_lt_of_lt_mul (by rw [Nat.mul_comm]; exact hf)) hg' hf' (.inr (by omega)) (by omega) (by rw [e]; exact hm), e]
      simp only [List.length_cons]
      congr 2; omega

theorem getI_enc (n : Nat) (h : n ≤ 1099511627776) (rest : List UInt8) : getI (enc n ++ rest) = ((n : Int), ((enc n).length : Int), 0) := by
  have := getGo_enc 10 6 0 n 0 1 rest (by (have : (128 : Nat) ^ 10 = 1180591620717411303424 := by decide); omega) (by (have : (128 : Nat) ^ 6 = 4398046511104 := by decide); omega) (by omega) (by omega) (.inl rfl) (by omega) (by omega)
  unfold getI enc
  rw [this]; simp

theorem getGo_short : ∀ (g f i m j : Nat) (a u : Int), m < 128 ^ g → m < 128 ^ f → 1 ≤ g → 1 ≤ f → j < (encF g m).length → getGo f i a u ((encF g m).take j) = (0, 0, 12)
  | 0, _, _, _, _, _, _, _, _, h, _, _ => by omega
  | _ + 1, 0, _, _, _, _, _, _, _, _, h, _ => by omega
  | g + 1, f + 1, i, m, j, a, u, hg, hf, _, _, hj => by
    cases j with
    | zero => rfl
    | succ j =>
      by_cases h : m < 128
      · rw [encF_lo h] at hj; simp at hj
      · have h' : 128 ≤ m := by omega
        rw [encF_hi h'] at hj ⊢
        rw [List.take_succ_cons, getGo, toNat_ofNat _ (by omega), if_pos (by omega)]
        have hg' : 1 ≤ g := by
          rcases Nat.eq_zero_or_pos g with h0 | h0
          · subst h0; simp at hg; omega
          · exact h0
        have hf' : 1 ≤ f := by
          rcases Nat.eq_zero_or_pos f with h0 | h0
          · subst h0; simp at hf; omega
          · exact h0
        exact getGo_short g f (i + 1) (m / 128) j _ _ (by rw [Nat.pow_succ] at hg; exact Nat.div_lt_of_lt_mul (by rw [Nat.mul_comm]; exact hg)) (by rw [Nat.pow_succ] at hf; exact Nat.div_lt_of_lt_mul (by rw [Nat.mul_comm]; exact hf)) hg' hf' (by simpa using hj)

theorem getI_short (n j : Nat) (h : n ≤ 1099511627776) (hj : j < (enc n).length) : getI ((enc n).take j) = (0, 0, 12) :=
  getGo_short 10 6 0 n j 0 1 (by (have : (128 : Nat) ^ 10 = 1180591620717411303424 := by decide); omega) (by (have : (128 : Nat) ^ 6 = 4398046511104 := by decide); omega) (by omega) (by omega) hj

theorem encF_fuel : ∀ (f g n : Nat), n < 128 ^ f → 1 ≤ f → f ≤ g → encF g n = encF f n
  | 0, _, _, _, h, _ => by omega
  | _ + 1, 0, _, _, _, h => by omega
  | f + 1, g + 1, n, hf, _, hg => by
    by_cases h : n < 128
    · rw [encF_lo h, encF_lo h]
    · have hf' : 1 ≤ f := by
        rcases Nat.eq_zero_or_pos f with h0 | h0
        · subst h0; simp at hf; omega
        · exact h0
      rw [encF_hi (by omega), encF_hi (by omega), encF_fuel f g (n / 128) (by rw [Nat.pow_succ] at hf; exact Nat.div_lt_of_lt_mul (by rw [Nat.mul_comm]; exact hf)) hf' (by omega)]

theorem ofNat_toNat (c : UInt8) : UInt8.ofNat c.toNat = c := by simp

theorem getGo_canon : ∀ (f i : Nat) (a u x k : Int) (l : List UInt8), getGo f i a u l = (x, k, 0) →
    ∃ m : Nat, x = a + m * u ∧ (0 < i → 1 ≤ m) ∧ m < 128 ^ f ∧ 1 ≤ f ∧ k = (i : Int) + (encF f m).length ∧ l.take (encF f m).length = encF f m
  | 0, _, _, _, _, _, _, h => by simp [getGo] at h
  | _ + 1, _, _, _, _, _, [], h => by simp [getGo] at h
  | f + 1, i, a, u, x, k, c :: r, h => by
    rw [getGo] at h
    by_cases hc : 128 ≤ c.toNat
    · rw [if_pos hc] at h
      obtain ⟨m, hx, h1, hm, hf, hk, hl⟩ := getGo_canon f (i + 1) _ _ x k r h
      have h1' := h1 (by omega)
      have hcl := c.toNat_lt
      have hmod : (c.toNat - 128 + 128 * m) % 128 = c.toNat - 128 := by omega
      have hdiv : (c.toNat - 128 + 128 * m) / 128 = m := by omega
      have he : encF (f + 1) (c.toNat - 128 + 128 * m) = c :: encF f m := by
        rw [encF_hi (by omega), hmod, hdiv, show c.toNat - 128 + 128 = c.toNat from by omega, ofNat_toNat]
      refine ⟨c.toNat - 128 + 128 * m, ?_, fun _ => by omega, ?_, by omega, ?_, ?_⟩
      · rw [hx]
        have h2 : ((c.toNat - 128 + 128 * m : Nat) : Int) = ((c.toNat : Int) - 128) + 128 * (m : Int) := by omega
        rw [h2, Int.add_mul, Int.mul_comm u 128, ← Int.mul_assoc, Int.mul_comm (m : Int) 128]; omega
      · rw [Nat.pow_succ]; omega
      · rw [he, hk, List.length_cons]; omega
      · rw [he, List.length_cons, List.take_succ_cons, hl]
    · rw [if_neg hc] at h
      by_cases hx : (c.toNat = 0 ∧ 0 < i) ∨ 1099511627776 < a + (c.toNat : Int) * u
      · rw [if_pos hx] at h; simp at h
      · rw [if_neg hx] at h
        have he : encF (f + 1) c.toNat = [c] := by rw [encF_lo (by omega), ofNat_toNat]
        simp only [Prod.mk.injEq, and_true] at h
        refine ⟨c.toNat, h.1.symm, fun hi => ?_, ?_, by omega, ?_, ?_⟩
        · rcases Nat.eq_zero_or_pos c.toNat with h0 | h0
          · exact absurd (.inl ⟨h0, hi⟩) hx
          · exact h0
        · rw [Nat.pow_succ]
          have : 1 ≤ 128 ^ f := Nat.one_le_pow _ _ (by omega)
          omega
        · rw [he]; simp; omega
        · rw [he]; simp

/-- What can be got has exactly the encoding that was read. -/
theorem getI_canon {l : List UInt8} {n k : Int} (h : getI l = (n, k, 0)) : 0 ≤ n ∧ k = ((enc n.toNat).length : Int) ∧ l.take (enc n.toNat).length = enc n.toNat := by
  obtain ⟨m, hx, _, hm, hf, hk, hl⟩ := getGo_canon 6 0 0 1 n k l h
  have hn : n = (m : Int) := by omega
  subst hn
  have he : enc ((m : Int)).toNat = encF 6 m := by unfold enc; rw [Int.toNat_natCast]; exact encF_fuel 6 10 m hm (by omega) (by omega)
  rw [he]
  exact ⟨by omega, by omega, hl⟩

end Go.Proofs.YtdedfkljaeloiaaGreatDoor.Cw

/- Plain laws of texts and of digests as bytes. -/
namespace Go.Proofs.YtdedfkljaeloiaaGreatDoor

theorem getT_canon {l x : List UInt8} {k : Int} (h : Cw.getT l = (x, k, 0)) : 1 ≤ k ∧ k ≤ l.length ∧ x.length ≤ 65536 ∧ l.take k.toNat = Cw.enc x.length ++ x := by
  obtain ⟨n, k', er', hI, hc⟩ := getT_cases l
  rcases hc with ⟨he, hr⟩ | ⟨_, _, hr⟩ | ⟨_, _, _, hr⟩ | ⟨he, hn, hl, hr⟩
  · rw [h] at hr; simp only [Prod.mk.injEq] at hr; exact absurd hr.2.2.symm he
  · rw [h] at hr; simp at hr
  · rw [h] at hr; simp at hr
  · subst he
    have hb := getI_bounds hI
    obtain ⟨hn0, hk, ht⟩ := Cw.getI_canon hI
    rw [h] at hr
    simp only [Prod.mk.injEq, and_true] at hr
    obtain ⟨hx, hkk⟩ := hr
    have hxl : x.length = n.toNat := by rw [hx, List.length_take, List.length_drop]; omega
    refine ⟨by omega, by omega, by omega, ?_⟩
    rw [hkk, show (k' + n).toNat = k'.toNat + n.toNat from by omega, List.take_add, ← hx, hxl]
    congr 1
    rw [hk, Int.toNat_natCast]; exact ht
theorem getT_put {x : List UInt8} (h : x.length ≤ 65536) (rest : List UInt8) : Cw.getT ((Cw.enc x.length ++ x) ++ rest) = (x, ((Cw.enc x.length ++ x).length : Int), 0) := by
  have hI := Cw.getI_enc x.length (by omega) (x ++ rest)
  unfold Cw.getT
  rw [List.append_assoc, hI]
  rw [if_neg (by simp), if_neg (by simp; omega), if_neg (by simp; omega)]
  simp only [Int.toNat_natCast]
  rw [List.drop_left, List.take_left]; simp
theorem be_head (k n : Nat) : (((n : Int) / 2 ^ (8 * k)) % 256).toNat = n / 256 ^ k % 256 := by
  have : ((2 : Int) ^ (8 * k)) = ((256 ^ k : Nat) : Int) := by rw [← pow8]; simp
  rw [this]
  omega
theorem fold_be : ∀ (k a n : Nat), (be k (n : Int)).foldl (fun n c => n * 256 + c.toNat) a = a * 256 ^ k + n % 256 ^ k
  | 0, a, n => by simp [be, Nat.mod_one]
  | k + 1, a, n => by
    rw [be, List.foldl_cons, fold_be k, be_head, Cw.toNat_ofNat _ (Nat.mod_lt _ (by decide))]
    rw [Nat.pow_succ, Nat.mod_mul, Nat.add_mul, Nat.mul_assoc, Nat.mul_comm 256, Nat.mul_comm (n / 256 ^ k % 256)]
    omega
theorem fixN_be (k n : Nat) (h : n < 256 ^ k) : fixN (be k n) = n := by
  unfold fixN
  rw [fold_be, Nat.zero_mul, Nat.zero_add, Nat.mod_eq_of_lt h]
theorem fixS_be (d : Int) (h0 : 0 ≤ d) (h1 : d < 18446744073709551616) : fixS (be 8 d) = d := by
  obtain ⟨n, rfl⟩ : ∃ n : Nat, d = (n : Int) := ⟨d.toNat, by omega⟩
  rw [fix_is _ (by rw [be_length]; exact Nat.le_refl _), fixN_be 8 n (by omega)]
theorem fold_split : ∀ (X : List UInt8) (b : Nat), X.foldl (fun n c => n * 256 + c.toNat) b = b * 256 ^ X.length + fixN X
  | [], b => by simp [fixN]
  | c :: X, b => by
    unfold fixN
    rw [List.foldl_cons, List.foldl_cons, fold_split X, fold_split X (0 * 256 + c.toNat), List.length_cons, Nat.pow_succ, Nat.zero_mul, Nat.zero_add, Nat.add_mul, Nat.mul_assoc, Nat.mul_comm 256]
    omega
theorem be_fold : ∀ (X : List UInt8) (b : Nat), be X.length ((X.foldl (fun n c => n * 256 + c.toNat) b : Nat) : Int) = X
  | [], _ => rfl
  | c :: X, b => by
    rw [List.length_cons, be, List.foldl_cons, be_fold X, be_head, fold_split]
    congr 1
    have h1 := fixN_lt X
    have h2 := c.toNat_lt
    rw [Nat.add_comm, Nat.add_mul_div_right _ _ (by exact Nat.pow_pos (by decide)), Nat.div_eq_of_lt h1, Nat.zero_add, Nat.add_comm, Nat.add_mul_mod_self_right, Nat.mod_eq_of_lt (by omega)]
    simp
theorem be_fix (X : List UInt8) (h : X.length = 8) : be 8 (fixS X) = X := by
  rw [fix_is X (by omega)]
  have := be_fold X 0
  rw [h] at this
  exact this
theorem fixS_range (X : List UInt8) (h : X.length ≤ 8) : 0 ≤ fixS X ∧ fixS X < 18446744073709551616 := by
  rw [fix_is X h]
  have h1 := fixN_lt X
  have h2 : 256 ^ X.length ≤ 256 ^ 8 := Nat.pow_le_pow_right (by decide) h
  have h3 : (256 : Nat) ^ 8 = 18446744073709551616 := by decide
  omega

end Go.Proofs.YtdedfkljaeloiaaGreatDoor
