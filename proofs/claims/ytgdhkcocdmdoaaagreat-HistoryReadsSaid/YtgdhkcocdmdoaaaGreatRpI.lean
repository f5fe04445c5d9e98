/- The reference's Same of objects. -/
import Derived.Test.YtgdhkcocdmdoaaaGreatRpH
namespace Go.Proofs.YtgdhkcocdmdoaaaGreat
open Go.RowKit Go.Shelf
set_option linter.unusedVariables false

theorem neq_ent (xn yn : List UInt8) (xb yb : Bool) (x1 x2 y1 y2 : Int) (W : World) : (binOp .neq 106 (.agg #[.string ⟨xn.toArray⟩, .bool xb, .int .u64 x1, .int .u64 x2]) (.agg #[.string ⟨yn.toArray⟩, .bool yb, .int .u64 y1, .int .u64 y2])).run Tryz.prog W = .ok (.bool (!((xn == yn && xb == yb) && (x1 == y1 && x2 == y2)))) W := by
  rw [run_neq_struct, run_equalIn_struct W 9999 106 _ _ (by kernel_rfl) (by kernel_rfl)]
  have hf : (Tryz.prog.fieldsOf 106).toList = [{ name := "Name", type := 9, offset := 0, embedded := false, tag := "", pkgPath := "", byteOffset := 0 }, { name := "Dir", type := 4, offset := 1, embedded := false, tag := "", pkgPath := "", byteOffset := 16 }, { name := "Digest", type := 32, offset := 2, embedded := false, tag := "", pkgPath := "", byteOffset := 24 }] := by kernel_rfl
  rw [hf]
  have p0 : ∀ (s : ByteArray) (c : Bool) (a b : Int) (V : World), (Go.part 9 #[.string s, .bool c, .int .u64 a, .int .u64 b] 0).run Tryz.prog V = .ok (.string s) V := fun s c a b V => by kernel_rfl
  have p1 : ∀ (s : ByteArray) (c : Bool) (a b : Int) (V : World), (Go.part 4 #[.string s, .bool c, .int .u64 a, .int .u64 b] 1).run Tryz.prog V = .ok (.bool c) V := fun s c a b V => by kernel_rfl
  have p2 : ∀ (s : ByteArray) (c : Bool) (a b : Int) (V : World), (Go.part 32 #[.string s, .bool c, .int .u64 a, .int .u64 b] 2).run Tryz.prog V = .ok (.agg #[.int .u64 a, .int .u64 b]) V := fun s c a b V => by kernel_rfl
  have q0 := fun V => run_equalIn_string (P := Tryz.prog) V 9998 9 ⟨xn.toArray⟩ ⟨yn.toArray⟩ Tryz.underlying9
  have q1 := fun V => run_equalIn_bool' (P := Tryz.prog) V 9998 4 xb yb Tryz.underlying4
  have q2 := fun V => eqD_run 9997 x1 x2 y1 y2 V
  have hsx : (⟨xn.toArray⟩ : ByteArray).toList = xn := by rw [Lib.toList_data]
  have hsy : (⟨yn.toArray⟩ : ByteArray).toList = yn := by rw [Lib.toList_data]
  rw [hsx, hsy] at q0
  simp only [Op.eqFields, Sem.run_bind, Sem.run_ite, p0, p1, p2, q0, q1, q2, Result.andThen_ok]
  cases h1 : (xn == yn) <;> cases h2 : (xb == yb) <;> cases h3 : (x1 == y1 && x2 == y2) <;> simp

end Go.Proofs.YtgdhkcocdmdoaaaGreat
