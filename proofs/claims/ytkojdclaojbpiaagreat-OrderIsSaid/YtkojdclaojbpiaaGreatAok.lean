import Derived.Test.YtkojdclaojbpiaaGreatTab
import Derived.Test.YtkojdclaojbpiaaGreatIns
/- The engine's program is this program. -/
namespace Go.Proofs.YtkojdclaojbpiaaGreat
open Go.Eng
noncomputable def plainA : AProg := ⟨Tryz.prog, fun g => getP all (at_ g), fun _ _ _ _ => none⟩
theorem entered75 : Entered Tryz.prog 75 := ⟨Tryz.f75, Tryz.func75, by kernel_rfl, by kernel_rfl⟩
theorem insert : InsOk Tryz.prog [75] := ins_ok insLays rfl entered75
theorem mixed : Tryz.prog.follows .mixedOrders = true := by kernel_rfl
theorem aok : AOk Tryz.prog [75] plainA := ⟨rfl, insert, mixed, (fun _ _ _ _ _ h => nomatch h), fun g af h => table_ok all_ok g af h⟩
end Go.Proofs.YtkojdclaojbpiaaGreat
