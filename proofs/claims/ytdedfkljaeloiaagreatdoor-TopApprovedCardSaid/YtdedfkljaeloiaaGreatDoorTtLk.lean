/- maps.Keys at maps of files and of lists of files, laid by the kit's tool. -/
import Derived.Shelf.SlIter.Stops
import Derived.Shelf.SlIter.Keys
import Derived.Test.YtdedfkljaeloiaaGreatDoorProg
namespace Go.Proofs
open Go.Shelf
def Tryz.keysF_ren : Go.Shelf.Ren := ⟨fun | 7 => 50 | 10 => 82 | n => n, fun | 23 => 103 | 26 => 9 | 3 => 55 | 28 => 72 | 0 => 0 | 27 => 71 | 33 => 65 | 4 => 4 | n => n, fun | n => n⟩
theorem Tryz.keysF : Go.Proofs.SlLaysZ.n7 Tryz.prog Tryz.keysF_ren := {
  mixed := by kernel_rfl
  f7 := ⟨Tryz.f50.name, by decide, Tryz.func50.trans (congrArg some (by kernel_rfl))⟩
  f10 := ⟨Tryz.f82.name, by decide, Tryz.func82.trans (congrArg some (by kernel_rfl))⟩
  t0 := Tryz.underlying0
  a0 := Tryz.isAgg0
  z0 := Tryz.sizeOf0
  v0 := Tryz.zeroValue0
  t4 := Tryz.underlying4
  a4 := Tryz.isAgg4
  z4 := Tryz.sizeOf4
  v4 := Tryz.zeroValue4
  t23 := Tryz.underlying103
  a23 := Tryz.isAgg103
  z23 := Tryz.sizeOf103
  v23 := Tryz.zeroValue103
  t26 := Tryz.underlying9
  a26 := Tryz.isAgg9
  z26 := Tryz.sizeOf9
  v26 := Tryz.zeroValue9
  t27 := Tryz.underlying71
  a27 := Tryz.isAgg71
  z27 := Tryz.sizeOf71
  v27 := Tryz.zeroValue71
  t28 := Tryz.underlying72
  a28 := Tryz.isAgg72
  z28 := Tryz.sizeOf72
  v28 := Tryz.zeroValue72
  t33 := Tryz.underlying65
  a33 := Tryz.isAgg65
  z33 := Tryz.sizeOf65
  v33 := Tryz.zeroValue65 }
def Tryz.keysB_ren : Go.Shelf.Ren := ⟨fun | 7 => 52 | 10 => 83 | n => n, fun | 23 => 102 | 26 => 9 | 3 => 23 | 28 => 72 | 0 => 0 | 27 => 71 | 33 => 65 | 4 => 4 | n => n, fun | n => n⟩
theorem Tryz.keysB : Go.Proofs.SlLaysZ.n7 Tryz.prog Tryz.keysB_ren := {
  mixed := by kernel_rfl
  f7 := ⟨Tryz.f52.name, by decide, Tryz.func52.trans (congrArg some (by kernel_rfl))⟩
  f10 := ⟨Tryz.f83.name, by decide, Tryz.func83.trans (congrArg some (by kernel_rfl))⟩
  t0 := Tryz.underlying0
  a0 := Tryz.isAgg0
  z0 := Tryz.sizeOf0
  v0 := Tryz.zeroValue0
  t4 := Tryz.underlying4
  a4 := Tryz.isAgg4
  z4 := Tryz.sizeOf4
  v4 := Tryz.zeroValue4
  t23 := Tryz.underlying102
  a23 := Tryz.isAgg102
  z23 := Tryz.sizeOf102
  v23 := Tryz.zeroValue102
  t26 := Tryz.underlying9
  a26 := Tryz.isAgg9
  z26 := Tryz.sizeOf9
  v26 := Tryz.zeroValue9
  t27 := Tryz.underlying71
  a27 := Tryz.isAgg71
  z27 := Tryz.sizeOf71
  v27 := Tryz.zeroValue71
  t28 := Tryz.underlying72
  a28 := Tryz.isAgg72
  z28 := Tryz.sizeOf72
  v28 := Tryz.zeroValue72
  t33 := Tryz.underlying65
  a33 := Tryz.isAgg65
  z33 := Tryz.sizeOf65
  v33 := Tryz.zeroValue65 }
end Go.Proofs
