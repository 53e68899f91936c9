/- Texts of this claim, joined (the program as a whole, and the law of one row). -/
import Derived.Test.YtljlfiomikifjaaGreatDoorGS1
set_option autoImplicit false
set_option linter.unusedVariables false
set_option linter.unusedSectionVars false
set_option linter.unusedSimpArgs false
set_option maxRecDepth 1000000
set_option maxHeartbeats 0
/- Facts of the whole program that the last steps share. -/
noncomputable section
namespace Go.Proofs.YtljlfiomikifjaaGreatDoor
open Go Go.Ab
theorem zbnA:Tryz.prog.mainIs=some (((true, "861ebbef4966670a0eb0c9c41206da01dc65dfca3f3f8d204dcc0dc94759f7ff"):Bool×String).1,((true, "861ebbef4966670a0eb0c9c41206da01dc65dfca3f3f8d204dcc0dc94759f7ff"):Bool×String).2.toList):=by kernel_rfl
theorem zbmw:false=Tryz.prog.looks []:=by kernel_rfl
theorem zbgN:Tryz.prog.wantsStandIn 23=false:=by kernel_rfl
theorem zblw:Tryz.prog.wantsStandIn 43=false:=by kernel_rfl
end Go.Proofs.YtljlfiomikifjaaGreatDoor
end
