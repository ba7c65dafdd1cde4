import Derived.Test.YthbaplapbfbnoaaGreatAok
/- What 'begun' of layer 19 comes to. -/
namespace Go.Proofs.YthbaplapbfbnoaaGreat
open Go.Eng
def fo : Fact := ⟨4, [], [], 0, .bool true, [], 9000⟩
theorem oko : NV Tryz.prog fo := DU (m := 100000) aok fo (by kernel_rfl)
end Go.Proofs.YthbaplapbfbnoaaGreat
