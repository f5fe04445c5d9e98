/- slices.Reverse at digests, laid by the kit's tool. -/
import Derived.Shelf.SlicesQ.Reverse
import Derived.Test.YtfdahmicigpnoaaGreatProg
namespace Go.Proofs
open Go.Shelf
def Tryz.revD_ren : Go.Shelf.Ren := ⟨fun | 35 => 192 | n => n, fun | 22 => 24 | 23 => 41 | 3 => 3 | 4 => 4 | 0 => 0 | n => n, fun | n => n⟩
theorem Tryz.revD : Go.Proofs.SlLaysE0.n35 Tryz.prog Tryz.revD_ren := {
  mixed := by kernel_rfl
  f35 := ⟨Tryz.f192.name, by decide, Tryz.func192.trans (congrArg some (by kernel_rfl))⟩
  t0 := Tryz.underlying0
  a0 := Tryz.isAgg0
  z0 := Tryz.sizeOf0
  v0 := Tryz.zeroValue0
  t3 := Tryz.underlying3
  a3 := Tryz.isAgg3
  z3 := Tryz.sizeOf3
  v3 := Tryz.zeroValue3
  t4 := Tryz.underlying4
  a4 := Tryz.isAgg4
  z4 := Tryz.sizeOf4
  v4 := Tryz.zeroValue4
  t22 := Tryz.underlying24
  a22 := Tryz.isAgg24
  z22 := Tryz.sizeOf24
  v22 := Tryz.zeroValue24 }
end Go.Proofs
