import Derived.Test.YtfejkbfafacdcaaGreatAok
/- What 'begun' of layer 26 comes to. -/
namespace Go.Proofs.YtfejkbfafacdcaaGreat
open Go.Eng
def fo : Fact := ⟨4, [], [], 0, .bool true, [], 9000⟩
theorem oko : xf Tryz.prog fo := yV (m := 100000) aok fo (by kernel_rfl)
end Go.Proofs.YtfejkbfafacdcaaGreat
