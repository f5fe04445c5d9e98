/- What the reference's put, PutInt and Size return. -/
import Derived.Test.YtlijaacjfnjmjaaGetInt
import Derived.RegionTactic
import Derived.ChangeAlike
import Derived.Deep.RegionWith
namespace Go.Proofs.Ytlijaacjfnjmjaa
open Go.RowKit

def EncFits (f : Nat) (n : Int) : Prop := n < 128 ^ f

theorem conv_at (W : World) (b : Nat) (c : Int) (h : W.cell? ⟨b, 0, none⟩ = some (.int .u8 c)) :
    (convert 49 9 (.slice (some ⟨b, 0, none⟩) 1 1)).run Try.prog W = .ok (.string ⟨#[UInt8.ofNat c.toNat]⟩) W := by
  rw [run_convert_bytes_string W 49 9 5 (some ⟨b, 0, none⟩) 1 1 Try.underlying49 Try.underlying5 Try.underlying9]
  have hl := run_loadCells_list (P := Try.prog) W ⟨b, 0, none⟩ [.int .u8 c] (fun j v hj => by
    match j, hj with
    | 0, hj => simp at hj; subst hj; simpa [Addr.add] using h)
  rw [run_bytesToString W ⟨b, 0, none⟩ 1 1 [c] hl]
  rfl

theorem conv_new (w : World) (c : Int) : (convert 49 9 (.slice (some ⟨w.heap.size, 0, none⟩) 1 1)).run Try.prog (w.alloc (.cells #[.int .u8 c] 5)) = .ok (.string ⟨#[UInt8.ofNat c.toNat]⟩) (w.alloc (.cells #[.int .u8 c] 5)) :=
  conv_at _ _ c (by simp)

theorem conv_new_drew (w : World) (c : Int) : (convert 49 9 (.slice (some ⟨w.heap.size, 0, none⟩) 1 1)).run Try.prog (w.alloc (.cells #[.int .u8 c] 5)).drew = .ok (.string ⟨#[UInt8.ofNat c.toNat]⟩) (w.alloc (.cells #[.int .u8 c] 5)).drew :=
  conv_at _ _ c (by simp)

theorem encF_small (f : Nat) (n : Int) (h : n < 128) : Cw.encF (f + 1) n.toNat = [UInt8.ofNat n.toNat] := by
  rw [Cw.encF, if_pos (by omega)]

theorem encF_great (f : Nat) (n : Int) (h : 128 ≤ n) : Cw.encF (f + 1) n.toNat = UInt8.ofNat (128 + n % 128).toNat :: Cw.encF f (n / 128).toNat := by
  rw [Cw.encF, if_neg (by omega)]
  rw [show n.toNat % 128 + 128 = (128 + n % 128).toNat from by omega, show n.toNat / 128 = (n / 128).toNat from by omega]

theorem encF_length : ∀ (f n : Nat), (Cw.encF f n).length ≤ f
  | 0, _ => Nat.le_refl _
  | f + 1, n => by
    unfold Cw.encF
    have := encF_length f (n / 128)
    split <;> simp; omega

theorem ret_int {k : IntKind} {a b : Int} (h : a = b) : Ending.returned (.int k a) = .returned (.int k b) := by rw [h]

theorem ret_str {l l' : List UInt8} {s : ByteArray} (hs : s = ⟨l.toArray⟩) (h : l = l') : Ending.returned (.string s) = .returned (.string ⟨l'.toArray⟩) := by rw [hs, h]

set_option maxHeartbeats 1000000 in
theorem refPut_any (f : Nat) : ∀ (n : Int) (w : World), f ≤ 9 → EncFits (f + 1) n → 0 ≤ n → n ≤ 140737488355328 →
    Calls Try.prog 65 #[.int .i64 n] w fun e w' => e = .returned (.string ⟨(Cw.encF (f + 1) n.toNat).toArray⟩) ∧ Below w.heap.size w w' := by
  induction f with
  | zero =>
    intro n w _ h h0 _
    have h1 : n < 128 := by unfold EncFits at h; simpa using h
    clear h
    have hcv := conv_new
    have HE := Lib.hid (encF_small 0 n h1)
    go_enter Try.func65, Try.ntmps65
    go_wp2_with fail
    go_ret
    exact ⟨ret_str rfl HE.out.symm, (Below.refl _ _).alloc (Nat.le_refl _) _⟩
  | succ f ih =>
    intro n w hf10 h h0 h2
    have IH := Lib.hid ih
    clear ih
    have hcv := conv_new
    by_cases h1 : n < 128
    · have HE := Lib.hid (encF_small (f + 1) n h1)
      go_enter Try.func65, Try.ntmps65
      go_wp2_with fail
      go_ret
      exact ⟨ret_str rfl HE.out.symm, (Below.refl _ _).alloc (Nat.le_refl _) _⟩
    · have HE := Lib.hid (encF_great (f + 1) n (by omega))
      have HF : Hid (EncFits (f + 1) (n / 128)) := by
        unfold EncFits at h ⊢
        rw [Int.pow_succ] at h
        exact Int.ediv_lt_of_lt_mul (by omega) h
      clear h
      have hcv2 := conv_new_drew
      obtain ⟨L, HL⟩ : ∃ L, L = Cw.encF (f + 1) (n / 128).toNat := ⟨_, rfl⟩
      have ihL : Hid (∀ w : World, Calls Try.prog 65 #[.int .i64 (n / 128)] w fun e w' => e = .returned (.string ⟨L.toArray⟩) ∧ Below w.heap.size w w') :=
        Lib.hid (by rw [HL]; exact fun w => IH.out (n / 128) w (by omega) HF.out (by omega) (by omega))
      have hLl : L.length ≤ 10 := by rw [HL]; exact Nat.le_trans (encF_length _ _) (by omega)
      have HL' : Hid (Cw.encF (f + 1 + 1) n.toNat = UInt8.ofNat (128 + n % 128).toNat :: L) := Lib.hid (by rw [HL]; exact HE.out)
      clear HE HL IH HF
      have hadd := fun W => run_string_add_lists (P := Try.prog) W [UInt8.ofNat (128 + n % 128).toNat] L (by simp) (by omega)
      go_enter Try.func65, Try.ntmps65
      go_wp2_with fail
      have hq : IntKind.i64.wrap (n.tdiv 128) = n / 128 := IntWalk.i64_quo n 128 (by omega)
      have hr : IntKind.u8.wrap (IntKind.i64.wrap (128 + n.tmod 128)) = 128 + n % 128 := by
        rw [Int.tmod_eq_emod_of_nonneg h0, IntWalk.i64_in _ (by omega)]
        exact IntWalk.u8_in _ (by omega)
      go_region_with (go_at_call 65; refine (ihL.out _).mono ?_; rintro e w' ⟨rfl, hb⟩; have hcc := fun hlt hc => conv_at w' w.heap.size (128 + n % 128) ((hb.cell (p := ⟨w.heap.size, 0, none⟩) hlt).trans hc))
      all_goals
        go_wp2
        go_ret
        refine ⟨ret_str rfl HL'.out.symm, ?_⟩
        first
          | exact ((((Below.refl _ w).alloc (Nat.le_refl _) _).drew).trans (hb.mono (by simp)))
          | exact ((Below.refl _ w).drew.trans hb).alloc (hb.size) _

/-- 'put' at every number that a length or an encodable number can be. -/
theorem refPut_ok (n : Int) (w : World) (h0 : 0 ≤ n) (h1 : n ≤ 140737488355328) :
    Calls Try.prog 65 #[.int .i64 n] w fun e w' => e = .returned (.string ⟨(Cw.enc n.toNat).toArray⟩) ∧ Below w.heap.size w w' :=
  refPut_any 9 n w (Nat.le_refl _) (by unfold EncFits; have : (128 : Int) ^ (9 + 1) = 1180591620717411303424 := by decide
                                       rw [this]; omega) h0 h1

def T2s (l : List UInt8) (e : Int) : Ending := .returned (.tuple #[.string ⟨l.toArray⟩, .int .i64 e])

/-- What PutInt returns. -/
def putI (n : Int) : List UInt8 × Int := if Cw.inR n then (Cw.enc n.toNat, 0) else ([], 2)

set_option maxHeartbeats 400000 in
theorem refPutInt_any (n : Int) (w : World) :
    Calls Try.prog 64 #[.int .i64 n] w fun e w' => e = T2s (putI n).1 (putI n).2 ∧ Below w.heap.size w w' := by
  by_cases h : 0 ≤ n ∧ n ≤ 1099511627776
  · have hp : putI n = (Cw.enc n.toNat, 0) := if_pos ((Cw.inR_iff n).2 h)
    obtain ⟨h0, h1⟩ := h
    rw [hp]
    clear hp
    have HP := Lib.hid (fun w => refPut_ok n w h0 (by omega))
    go_enter Try.func64, Try.ntmps64
    go_wp2_with (go_at_call 65; refine (HP.out _).mono ?_; rintro e w' ⟨rfl, hb⟩)
    go_ret2
    exact ⟨rfl, hb⟩
  · have hp : putI n = ([], 2) := if_neg (by rw [Cw.inR_iff]; exact h)
    rw [hp]
    clear hp
    by_cases h0 : n < 0
    · clear h
      go_enter Try.func64, Try.ntmps64
      go_wp2_with fail
      go_ret2
      exact ⟨rfl, Below.refl _ _⟩
    · have h1 : 1099511627776 < n := by omega
      clear h
      go_enter Try.func64, Try.ntmps64
      go_wp2_with fail
      go_ret2
      exact ⟨rfl, Below.refl _ _⟩

end Go.Proofs.Ytlijaacjfnjmjaa
