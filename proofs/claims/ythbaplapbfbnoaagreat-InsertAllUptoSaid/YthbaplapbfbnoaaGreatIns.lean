import Derived.Test.YthbaplapbfbnoaaGreatEf
import Derived.Test.YthbaplapbfbnoaaGreatChecked
/- slices.Insert in this program is the library's. -/
namespace Go.Proofs.YthbaplapbfbnoaaGreat
open Go.Shelf Go.Eng
def XG : Ren := ⟨fun | 21 => 96 | 27 => 118 | 28 => 119 | 35 => 131 | 39 => 142 | n => n, fun | 22 => 36 | n => n, fun n => n⟩

theorem SM : Lays2.n21 Tryz.prog XG := {
  mixed := by kernel_rfl,
  f21 := Tryz.func96.trans (congrArg some (by kernel_rfl)),
  f27 := Tryz.func118.trans (congrArg some (by kernel_rfl)),
  f28 := Tryz.func119.trans (congrArg some (by kernel_rfl)),
  f35 := Tryz.func131.trans (congrArg some (by kernel_rfl)),
  f39 := Tryz.func142.trans (congrArg some (by kernel_rfl)),
  t0 := Tryz.underlying0,
  a0 := Tryz.isAgg0,
  z0 := Tryz.sizeOf0,
  v0 := Tryz.zeroValue0,
  t3 := Tryz.underlying3,
  a3 := Tryz.isAgg3,
  z3 := Tryz.sizeOf3,
  v3 := Tryz.zeroValue3,
  t4 := Tryz.underlying4,
  a4 := Tryz.isAgg4,
  z4 := Tryz.sizeOf4,
  v4 := Tryz.zeroValue4,
  t22 := Tryz.underlying36,
  a22 := Tryz.isAgg36,
  z22 := Tryz.sizeOf36,
  v22 := Tryz.zeroValue36,
  i3 := by kernel_rfl }
end Go.Proofs.YthbaplapbfbnoaaGreat
