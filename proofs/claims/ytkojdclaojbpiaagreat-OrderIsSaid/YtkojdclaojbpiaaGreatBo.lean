import Derived.Test.YtkojdclaojbpiaaGreatAok
/- What 'begun' of layer 22 comes to. -/
namespace Go.Proofs.YtkojdclaojbpiaaGreat
open Go.Eng
def fo : Fact := ⟨5, [], [], 0, .bool true, [], 5000⟩
theorem oko : FactOk Tryz.prog fo := fact_of_run (m := 100000) aok fo (by kernel_rfl)
end Go.Proofs.YtkojdclaojbpiaaGreat
