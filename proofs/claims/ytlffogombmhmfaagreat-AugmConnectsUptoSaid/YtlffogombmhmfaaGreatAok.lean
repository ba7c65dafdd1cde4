import Derived.Test.YtlffogombmhmfaaGreatTab
import Derived.Test.YtlffogombmhmfaaGreatIns
/- The engine's program is this program. -/
namespace Go.Proofs.YtlffogombmhmfaaGreat
open Go.Eng
noncomputable def Pe : aG := ⟨Tryz.prog, fun g => ak all (at_ g), fun _ _ _ _ => none⟩
theorem B9 : er Tryz.prog 112 := ⟨Tryz.f112, Tryz.func112, by kernel_rfl, by kernel_rfl⟩
theorem insert : nz Tryz.prog [112] := Pf L5 rfl B9
theorem mixed : Tryz.prog.follows .mixedOrders = true := by kernel_rfl
theorem XW : zw Tryz.prog [112] Pe := ⟨rfl, insert, mixed, (fun _ _ _ _ _ h => nomatch h), fun g af h => zx HZ g af h⟩
end Go.Proofs.YtlffogombmhmfaaGreat
