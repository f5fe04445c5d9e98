/- slices.Index and slices.Contains at items. -/
import Derived.Test.YtgdhkcocdmdoaaaGreatRpI
namespace Go.Proofs.YtgdhkcocdmdoaaaGreat
open Go.RowKit Go.Shelf
set_option linter.unusedVariables false

theorem eql_itm (x1 x2 y1 y2 : Int) (s t : List UInt8) (W : World) : (binOp .eql 79 (.agg #[.int .u64 x1, .int .u64 x2, .string ⟨s.toArray⟩]) (.agg #[.int .u64 y1, .int .u64 y2, .string ⟨t.toArray⟩])).run Tryz.prog W = .ok (.bool ((x1 == y1 && x2 == y2) && s == t)) W := by
  rw [run_eql_struct, run_equalIn_struct W 9999 79 _ _ (by kernel_rfl) (by kernel_rfl)]
  have hf : (Tryz.prog.fieldsOf 79).toList = [{ name := "Digest", type := 32, offset := 0, embedded := false, tag := "", pkgPath := "", byteOffset := 0 }, { name := "Data", type := 9, offset := 2, embedded := false, tag := "", pkgPath := "", byteOffset := 16 }] := by kernel_rfl
  rw [hf]
  have p0 : ∀ (a b : Int) (r : ByteArray) (V : World), (Go.part 32 #[.int .u64 a, .int .u64 b, .string r] 0).run Tryz.prog V = .ok (.agg #[.int .u64 a, .int .u64 b]) V := fun a b r V => by kernel_rfl
  have p2 : ∀ (a b : Int) (r : ByteArray) (V : World), (Go.part 9 #[.int .u64 a, .int .u64 b, .string r] 2).run Tryz.prog V = .ok (.string r) V := fun a b r V => by kernel_rfl
  have q0 := fun V => eqD_run 9997 x1 x2 y1 y2 V
  have q1 := fun V => run_equalIn_string (P := Tryz.prog) V 9998 9 ⟨s.toArray⟩ ⟨t.toArray⟩ Tryz.underlying9
  have hsx : (⟨s.toArray⟩ : ByteArray).toList = s := by rw [Lib.toList_data]
  have hsy : (⟨t.toArray⟩ : ByteArray).toList = t := by rw [Lib.toList_data]
  rw [hsx, hsy] at q1
  simp only [Op.eqFields, Sem.run_bind, Sem.run_ite, p0, p2, q0, q1, Result.andThen_ok]
  cases h1 : (x1 == y1 && x2 == y2) <;> cases h2 : (s == t) <;> simp

def IxR (xs : List Itm) (x : Itm) (n : Int) : Prop := (0 ≤ n ∧ x ∈ xs) ∨ (n = -1 ∧ x ∉ xs)
def GotIx (w : World) (xs : List Itm) (x : Itm) (e : Ending) (w' : World) : Prop := ∃ n : Int, e = .returned (.int .i64 n) ∧ IxR xs x n ∧ Below w.heap.size w w'
end Go.Proofs.YtgdhkcocdmdoaaaGreat
