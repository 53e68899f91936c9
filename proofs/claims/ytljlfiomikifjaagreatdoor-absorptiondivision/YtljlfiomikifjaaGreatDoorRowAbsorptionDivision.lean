/- AbsorptionDivision: For every input the law returns true, and the input reads afterwards as it read before: the card. -/
import Derived.Test.YtljlfiomikifjaaGreatDoorGS2
import Derived.Test.YtljlfiomikifjaaGreatDoorGS3
import Derived.Test.YtljlfiomikifjaaGreatDoorCards
import Derived.Test.YtljlfiomikifjaaGreatDoorTie
set_option autoImplicit false
set_option maxRecDepth 1000000
set_option linter.unusedVariables false
namespace Go.Proofs.YtljlfiomikifjaaGreatDoor
open Go Go.Ab Go.RowKit Go.ChangeShapes Go.WideShapes
theorem zJp : Tryz.prog.funcNamed "lineage/lineagelaw09.AbsorptionDivision" = some 3 := by kernel_rfl
theorem absorptionDivision_holds : Rows.AbsorptionDivisionCardSaid :=
  Claim7.holds_tied_plain_at .later [] [.data, .data, .data, .data, .pinned] true (true, "861ebbef4966670a0eb0c9c41206da01dc65dfca3f3f8d204dcc0dc94759f7ff") false
    zLF (fun _ h => by cases h) (by kernel_rfl) (fun _ h => by cases h) absorptionDivision_row_tie rfl ⟨rfl, rfl⟩ z92 rfl
    (fun f fn hf hfn => by
      obtain rfl : f = 3 := Option.some.inj (zJp.symm.trans hf) |>.symm
      obtain rfl : fn = Tryz.f3 := (Option.some.inj (Tryz.func3.symm.trans hfn)).symm
      exact ⟨z8V, fun j t ht => by
        have ht' : t ∈ Tryz.f3.params.toList := by
          have := Array.mem_of_getElem? ht
          simpa using this
        rw [show Tryz.f3.params.toList = [23, 23, 5, 5] by kernel_rfl] at ht'
        simp only [List.mem_cons, List.not_mem_nil, or_false] at ht'
        rcases ht' with rfl | rfl | rfl | rfl
        · exact z4L
        · exact z4L
        · exact z7h
        · exact z7h
        ⟩)
    (by kernel_rfl)
#print axioms absorptionDivision_holds
end Go.Proofs.YtljlfiomikifjaaGreatDoor
