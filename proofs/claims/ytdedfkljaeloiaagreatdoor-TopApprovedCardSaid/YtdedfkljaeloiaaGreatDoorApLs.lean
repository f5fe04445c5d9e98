/- strings.HasPrefix, HasSuffix, LastIndexByte, laid by the kit's tool. -/
import Derived.Shelf.Strings.Prefix
import Derived.Shelf.Strings.LastIndex
import Derived.Test.YtdedfkljaeloiaaGreatDoorProg
namespace Go.Proofs
open Go.Shelf
def Tryz.hasPre_ren : Go.Shelf.Ren := ⟨fun | 99 => 61 | 206 => 94 | n => n, fun | 9 => 9 | 4 => 4 | 3 => 3 | n => n, fun | n => n⟩
theorem Tryz.hasPre : Go.Proofs.Lays.n99 Tryz.prog Tryz.hasPre_ren := {
  mixed := by kernel_rfl
  f99 := Tryz.func61.trans (congrArg some (by kernel_rfl))
  f206 := Tryz.func94.trans (congrArg some (by kernel_rfl))
  t3 := Tryz.underlying3
  a3 := Tryz.isAgg3
  z3 := Tryz.sizeOf3
  v3 := Tryz.zeroValue3
  t4 := Tryz.underlying4
  a4 := Tryz.isAgg4
  z4 := Tryz.sizeOf4
  v4 := Tryz.zeroValue4
  t9 := Tryz.underlying9
  a9 := Tryz.isAgg9
  z9 := Tryz.sizeOf9
  v9 := Tryz.zeroValue9 }
def Tryz.hasSuf_ren : Go.Shelf.Ren := ⟨fun | 100 => 62 | 207 => 95 | n => n, fun | 9 => 9 | 4 => 4 | 3 => 3 | n => n, fun | n => n⟩
theorem Tryz.hasSuf : Go.Proofs.Lays.n100 Tryz.prog Tryz.hasSuf_ren := {
  mixed := by kernel_rfl
  f100 := Tryz.func62.trans (congrArg some (by kernel_rfl))
  f207 := Tryz.func95.trans (congrArg some (by kernel_rfl))
  t3 := Tryz.underlying3
  a3 := Tryz.isAgg3
  z3 := Tryz.sizeOf3
  v3 := Tryz.zeroValue3
  t4 := Tryz.underlying4
  a4 := Tryz.isAgg4
  z4 := Tryz.sizeOf4
  v4 := Tryz.zeroValue4
  t9 := Tryz.underlying9
  a9 := Tryz.isAgg9
  z9 := Tryz.sizeOf9
  v9 := Tryz.zeroValue9 }
def Tryz.lastIdx_ren : Go.Shelf.Ren := ⟨fun | 149 => 93 | 222 => 140 | n => n, fun | 9 => 9 | 5 => 5 | 3 => 3 | 4 => 4 | n => n, fun | n => n⟩
theorem Tryz.lastIdx : Go.Proofs.Lays.n149 Tryz.prog Tryz.lastIdx_ren := {
  mixed := by kernel_rfl
  f149 := Tryz.func93.trans (congrArg some (by kernel_rfl))
  f222 := Tryz.func140.trans (congrArg some (by kernel_rfl))
  t3 := Tryz.underlying3
  a3 := Tryz.isAgg3
  z3 := Tryz.sizeOf3
  v3 := Tryz.zeroValue3
  t4 := Tryz.underlying4
  a4 := Tryz.isAgg4
  z4 := Tryz.sizeOf4
  v4 := Tryz.zeroValue4
  t5 := Tryz.underlying5
  a5 := Tryz.isAgg5
  z5 := Tryz.sizeOf5
  v5 := Tryz.zeroValue5
  t9 := Tryz.underlying9
  a9 := Tryz.isAgg9
  z9 := Tryz.sizeOf9
  v9 := Tryz.zeroValue9 }
end Go.Proofs
