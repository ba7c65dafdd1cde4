import Derived.Test.YthbaplapbfbnoaaGreatTab
import Derived.Test.YthbaplapbfbnoaaGreatIns
/- The engine's program is this program. -/
namespace Go.Proofs.YthbaplapbfbnoaaGreat
open Go.Eng
noncomputable def WG : aN := ⟨Tryz.prog, fun g => ah all (at_ g), fun _ _ _ _ => none⟩
theorem K5 : fI Tryz.prog 96 := ⟨Tryz.f96, Tryz.func96, by kernel_rfl, by kernel_rfl⟩
theorem insert : ri Tryz.prog [96] := WH SM rfl K5
theorem mixed : Tryz.prog.follows .mixedOrders = true := by kernel_rfl
theorem aok : GR Tryz.prog [96] WG := ⟨rfl, insert, mixed, (fun _ _ _ _ _ h => nomatch h), fun g af h => DT NU g af h⟩
end Go.Proofs.YthbaplapbfbnoaaGreat
