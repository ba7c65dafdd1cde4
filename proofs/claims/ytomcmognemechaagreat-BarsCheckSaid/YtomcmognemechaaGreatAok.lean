import Derived.Test.YtomcmognemechaaGreatTab
import Derived.Test.YtomcmognemechaaGreatIns
/- The engine's program is this program. -/
namespace Go.Proofs.YtomcmognemechaaGreat
open Go.Eng
noncomputable def plainA : AProg := ⟨Tryz.prog, fun g => getP all (at_ g), fun _ _ _ _ => none⟩
theorem entered84 : Entered Tryz.prog 84 := ⟨Tryz.f84, Tryz.func84, by kernel_rfl, by kernel_rfl⟩
theorem insert : InsOk Tryz.prog [84] := ins_ok insLays rfl entered84
theorem mixed : Tryz.prog.follows .mixedOrders = true := by kernel_rfl
theorem aok : AOk Tryz.prog [84] plainA := ⟨rfl, insert, mixed, (fun _ _ _ _ _ h => nomatch h), fun g af h => table_ok all_ok g af h⟩
end Go.Proofs.YtomcmognemechaaGreat
