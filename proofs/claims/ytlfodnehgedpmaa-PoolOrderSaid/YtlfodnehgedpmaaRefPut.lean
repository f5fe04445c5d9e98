/- What the reference's put, PutInt and Size return. -/
import Derived.Test.YtlfodnehgedpmaaGetInt
import Derived.RegionTactic
import Derived.ChangeAlike
import Derived.Deep.RegionWith
namespace Go.Proofs.Ytlfodnehgedpmaa
open Go.RowKit

def EncFits (f : Nat) (n : Int) : Prop := n < 128 ^ f

theorem conv_at (W : World) (b : Nat) (c : Int) (h : W.cell? ⟨b, 0, none⟩ = some (.int .u8 c)) :
    (convert 61 9 (.slice (some ⟨b, 0, none⟩) 1 1)).run Try.prog W = .ok (.string ⟨#[UInt8.ofNat c.toNat]⟩) W := by
  rw [run_convert_bytes_string W 61 9 5 (some ⟨b, 0, none⟩) 1 1 Try.underlying61 Try.underlying5 Try.underlying9]
  have hl := run_loadCells_list (P := Try.prog) W ⟨b, 0, none⟩ [.int .u8 c] (fun j v hj => by
    match j, hj with
    | 0, hj => simp at hj; subst hj; simpa [Addr.add] using h)
  rw [run_bytesToString W ⟨b, 0, none⟩ 1 1 [c] hl]
  rfl

theorem conv_new (w : World) (c : Int) : (convert 61 9 (.slice (some ⟨w.heap.size, 0, none⟩) 1 1)).run Try.prog (w.alloc (.cells #[.int .u8 c] 5)) = .ok (.string ⟨#[UInt8.ofNat c.toNat]⟩) (w.alloc (.cells #[.int .u8 c] 5)) :=
  conv_at _ _ c (by simp)

theorem conv_new_drew (w : World) (c : Int) : (convert 61 9 (.slice (some ⟨w.heap.size, 0, none⟩) 1 1)).run Try.prog (w.alloc (.cells #[.int .u8 c] 5)).drew = .ok (.string ⟨#[UInt8.ofNat c.toNat]⟩) (w.alloc (.cells #[.int .u8 c] 5)).drew :=
  conv_at _ _ c (by simp)

theorem encF_small (f : Nat) (n : Int) (h : n < 128) : Cw.encF (f + 1) n.toNat = [UInt8.ofNat n.toNat] := by
  rw [Cw.encF, if_pos (by omega)]

theorem encF_great (f : Nat) (n : Int) (h : 128 ≤ n) : Cw.encF (f + 1) n.toNat = UInt8.ofNat (128 + n % 128).toNat :: Cw.encF f (n / 128).toNat := by
  rw [Cw.encF, if_neg (by omega)]
  rw [show n.toNat % 128 + 128 = (128 + n % 128).toNat from by omega, show n.toNat / 128 = (n / 128).toNat from by omega]

theorem encF_length : ∀ (f n : Nat), (Cw.encF f n).length ≤ f
  | 0, _ => Nat.le_refl _
  | f + 1, n => by
    unfold Cw.encF
    have := encF_length f (n / 128)
    split <;> simp; omega

theorem ret_int {k : IntKind} {a b : Int} (h : a = b) : Ending.returned (.int k a) = .returned (.int k b) := by rw [h]

theorem ret_str {l l' : List UInt8} {s : ByteArray} (hs : s = ⟨l.toArray⟩) (h : l = l') : Ending.returned (.string s) = .returned (.string ⟨l'.toArray⟩) := by rw [hs, h]

def T2s (l : List UInt8) (e : Int) : Ending := .returned (.tuple #[.string ⟨l.toArray⟩, .int .i64 e])

/-- What PutInt returns. -/
def putI (n : Int) : List UInt8 × Int := if Cw.inR n then (Cw.enc n.toNat, 0) else ([], 2)

end Go.Proofs.Ytlfodnehgedpmaa
