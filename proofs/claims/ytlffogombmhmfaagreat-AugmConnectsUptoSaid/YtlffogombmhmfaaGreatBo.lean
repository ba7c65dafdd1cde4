import Derived.Test.YtlffogombmhmfaaGreatAok
/- What 'begun' of layer 21 comes to. -/
namespace Go.Proofs.YtlffogombmhmfaaGreat
open Go.Eng
def fo : Fact := ⟨4, [], [], 0, .bool true, [], 9000⟩
theorem oko : xE Tryz.prog fo := zy (m := 100000) XW fo (by kernel_rfl)
end Go.Proofs.YtlffogombmhmfaaGreat
