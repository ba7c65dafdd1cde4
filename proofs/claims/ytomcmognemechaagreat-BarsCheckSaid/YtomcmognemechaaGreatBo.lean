import Derived.Test.YtomcmognemechaaGreatAok
/- What 'begun' of layer 24 comes to. -/
namespace Go.Proofs.YtomcmognemechaaGreat
open Go.Eng
def fo : Fact := ⟨4, [], [], 0, .bool true, [], 9000⟩
theorem oko : FactOk Tryz.prog fo := fact_of_run (m := 100000) aok fo (by kernel_rfl)
end Go.Proofs.YtomcmognemechaaGreat
