import Derived.Test.YtomcmognemechaaGreatEe
import Derived.Test.YtomcmognemechaaGreatChecked
/- slices.Insert in this program is the library's. -/
namespace Go.Proofs.YtomcmognemechaaGreat
open Go.Shelf Go.Eng
def insRen : Ren := ⟨fun | 21 => 84 | 27 => 107 | 28 => 108 | 35 => 123 | 39 => 128 | n => n, fun | 22 => 25 | n => n, fun n => n⟩

theorem insLays : Lays2.n21 Tryz.prog insRen := {
  mixed := by kernel_rfl,
  f21 := Tryz.func84.trans (congrArg some (by kernel_rfl)),
  f27 := Tryz.func107.trans (congrArg some (by kernel_rfl)),
  f28 := Tryz.func108.trans (congrArg some (by kernel_rfl)),
  f35 := Tryz.func123.trans (congrArg some (by kernel_rfl)),
  f39 := Tryz.func128.trans (congrArg some (by kernel_rfl)),
  t0 := Tryz.underlying0,
  a0 := Tryz.isAgg0,
  z0 := Tryz.sizeOf0,
  v0 := Tryz.zeroValue0,
  t3 := Tryz.underlying3,
  a3 := Tryz.isAgg3,
  z3 := Tryz.sizeOf3,
  v3 := Tryz.zeroValue3,
  t4 := Tryz.underlying4,
  a4 := Tryz.isAgg4,
  z4 := Tryz.sizeOf4,
  v4 := Tryz.zeroValue4,
  t22 := Tryz.underlying25,
  a22 := Tryz.isAgg25,
  z22 := Tryz.sizeOf25,
  v22 := Tryz.zeroValue25,
  i3 := by kernel_rfl }
end Go.Proofs.YtomcmognemechaaGreat
