import Derived.Test.YtlffogombmhmfaaGreatEf
import Derived.Test.YtlffogombmhmfaaGreatChecked
/- slices.Insert in this program is the library's. -/
namespace Go.Proofs.YtlffogombmhmfaaGreat
open Go.Shelf Go.Eng
def Qi : Ren := ⟨fun | 21 => 112 | 27 => 130 | 28 => 131 | 35 => 143 | 39 => 148 | n => n, fun | 22 => 50 | n => n, fun n => n⟩

theorem L5 : Lays2.n21 Tryz.prog Qi := {
  mixed := by kernel_rfl,
  f21 := Tryz.func112.trans (congrArg some (by kernel_rfl)),
  f27 := Tryz.func130.trans (congrArg some (by kernel_rfl)),
  f28 := Tryz.func131.trans (congrArg some (by kernel_rfl)),
  f35 := Tryz.func143.trans (congrArg some (by kernel_rfl)),
  f39 := Tryz.func148.trans (congrArg some (by kernel_rfl)),
  t0 := Tryz.underlying0,
  a0 := Tryz.isAgg0,
  z0 := Tryz.sizeOf0,
  v0 := Tryz.zeroValue0,
  t3 := Tryz.underlying3,
  a3 := Tryz.isAgg3,
  z3 := Tryz.sizeOf3,
  v3 := Tryz.zeroValue3,
  t4 := Tryz.underlying4,
  a4 := Tryz.isAgg4,
  z4 := Tryz.sizeOf4,
  v4 := Tryz.zeroValue4,
  t22 := Tryz.underlying50,
  a22 := Tryz.isAgg50,
  z22 := Tryz.sizeOf50,
  v22 := Tryz.zeroValue50,
  i3 := by kernel_rfl }
end Go.Proofs.YtlffogombmhmfaaGreat
