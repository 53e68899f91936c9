/- AbsorptionOrder: For every input the law returns true, and the input reads afterwards as it read before: the card. -/
import Derived.Test.YtljlfiomikifjaaGreatDoorGS2
import Derived.Test.YtljlfiomikifjaaGreatDoorGS3
import Derived.Test.YtljlfiomikifjaaGreatDoorCards
import Derived.Test.YtljlfiomikifjaaGreatDoorTie
set_option autoImplicit false
set_option maxRecDepth 1000000
set_option linter.unusedVariables false
namespace Go.Proofs.YtljlfiomikifjaaGreatDoor
open Go Go.Ab Go.RowKit Go.ChangeShapes Go.WideShapes
theorem zPt : Tryz.prog.funcNamed "lineage/lineagelaw09.AbsorptionOrder" = some 4 := by kernel_rfl
theorem absorptionOrder_holds : Rows.AbsorptionOrderCardSaid :=
  Claim7.holds_tied_plain_at .later [] [.data, .data, .data, .data, .pinned] true (true, "861ebbef4966670a0eb0c9c41206da01dc65dfca3f3f8d204dcc0dc94759f7ff") false
    zUk (fun _ h => by cases h) (by kernel_rfl) (fun _ h => by cases h) absorptionOrder_row_tie rfl ⟨rfl, rfl⟩ zbfj rfl
    (fun f fn hf hfn => by
      obtain rfl : f = 4 := Option.some.inj (zPt.symm.trans hf) |>.symm
      obtain rfl : fn = Tryz.f4 := (Option.some.inj (Tryz.func4.symm.trans hfn)).symm
      exact ⟨zbeq, fun j t ht => by
        have ht' : t ∈ Tryz.f4.params.toList := by
          have := Array.mem_of_getElem? ht
          simpa using this
        rw [show Tryz.f4.params.toList = [23, 23, 23] by kernel_rfl] at ht'
        simp only [List.mem_cons, List.not_mem_nil, or_false] at ht'
        rcases ht' with rfl | rfl | rfl
        · exact z34
        · exact z34
        · exact z34
        ⟩)
    (by kernel_rfl)
#print axioms absorptionOrder_holds
end Go.Proofs.YtljlfiomikifjaaGreatDoor
