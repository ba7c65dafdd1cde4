import Derived.Test.YtkojdclaojbpiaaGreatAok
/- What 'begun' of layer 26 comes to. -/
namespace Go.Proofs.YtkojdclaojbpiaaGreat
open Go.Eng
def fb : Fact := ⟨11, [], [], 0, .bool true, [], 5000⟩
theorem okb : FactOk Tryz.prog fb := fact_of_run (m := 100000) aok fb (by kernel_rfl)
end Go.Proofs.YtkojdclaojbpiaaGreat
