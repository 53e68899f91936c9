/- Texts of this claim, joined (the program as a whole, and the law of one row). -/
import Derived.Test.YtoknknbmfmddbaaGreatDoorGS1
set_option autoImplicit false
set_option linter.unusedVariables false
set_option linter.unusedSectionVars false
set_option linter.unusedSimpArgs false
set_option maxRecDepth 1000000
set_option maxHeartbeats 0
/- Facts of the whole program that the last steps share. -/
noncomputable section
namespace Go.Proofs.YtoknknbmfmddbaaGreatDoor
open Go Go.Ab
theorem zbm3:Tryz.prog.mainIs=some (((true, "74ee233624f9c7640c94c9ee0c0133277b2d4373be3a083beef12791a1ad00fd"):Bool×String).1,((true, "74ee233624f9c7640c94c9ee0c0133277b2d4373be3a083beef12791a1ad00fd"):Bool×String).2.toList):=by kernel_rfl
theorem zbkK:false=Tryz.prog.looks []:=by kernel_rfl
theorem zbe4:Tryz.prog.wantsStandIn 25=false:=by kernel_rfl
theorem zbkO:Tryz.prog.wantsStandIn 60=false:=by kernel_rfl
end Go.Proofs.YtoknknbmfmddbaaGreatDoor
end
