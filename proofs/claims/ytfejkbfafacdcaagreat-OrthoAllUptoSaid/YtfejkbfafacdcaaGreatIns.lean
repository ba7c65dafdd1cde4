import Derived.Test.YtfejkbfafacdcaaGreatEf
import Derived.Test.YtfejkbfafacdcaaGreatChecked
/- slices.Insert in this program is the library's. -/
namespace Go.Proofs.YtfejkbfafacdcaaGreat
open Go.Shelf Go.Eng
def O1 : Ren := ⟨fun | 21 => 94 | 27 => 115 | 28 => 116 | 35 => 131 | 39 => 136 | n => n, fun | 22 => 27 | n => n, fun n => n⟩

theorem KL : Lays2.n21 Tryz.prog O1 := {
  mixed := by kernel_rfl,
  f21 := Tryz.func94.trans (congrArg some (by kernel_rfl)),
  f27 := Tryz.func115.trans (congrArg some (by kernel_rfl)),
  f28 := Tryz.func116.trans (congrArg some (by kernel_rfl)),
  f35 := Tryz.func131.trans (congrArg some (by kernel_rfl)),
  f39 := Tryz.func136.trans (congrArg some (by kernel_rfl)),
  t0 := Tryz.underlying0,
  a0 := Tryz.isAgg0,
  z0 := Tryz.sizeOf0,
  v0 := Tryz.zeroValue0,
  t3 := Tryz.underlying3,
  a3 := Tryz.isAgg3,
  z3 := Tryz.sizeOf3,
  v3 := Tryz.zeroValue3,
  t4 := Tryz.underlying4,
  a4 := Tryz.isAgg4,
  z4 := Tryz.sizeOf4,
  v4 := Tryz.zeroValue4,
  t22 := Tryz.underlying27,
  a22 := Tryz.isAgg27,
  z22 := Tryz.sizeOf27,
  v22 := Tryz.zeroValue27,
  i3 := by kernel_rfl }
end Go.Proofs.YtfejkbfafacdcaaGreat
