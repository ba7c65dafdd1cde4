import Derived.Test.YtfejkbfafacdcaaGreatTab
import Derived.Test.YtfejkbfafacdcaaGreatIns
/- The engine's program is this program. -/
namespace Go.Proofs.YtfejkbfafacdcaaGreat
open Go.Eng
noncomputable def NW : aG := ⟨Tryz.prog, fun g => ao all (at_ g), fun _ _ _ _ => none⟩
theorem Ep : gD Tryz.prog 94 := ⟨Tryz.f94, Tryz.func94, by kernel_rfl, by kernel_rfl⟩
theorem insert : nH Tryz.prog [94] := NX KL rfl Ep
theorem mixed : Tryz.prog.follows .mixedOrders = true := by kernel_rfl
theorem aok : BB Tryz.prog [94] NW := ⟨rfl, insert, mixed, (fun _ _ _ _ _ h => nomatch h), fun g af h => yU G7 g af h⟩
end Go.Proofs.YtfejkbfafacdcaaGreat
