/- AbsorptionOperations: For every input the law returns true, and the input reads afterwards as it read before: the card. -/
import Derived.Test.YtljlfiomikifjaaGreatDoorGS2
import Derived.Test.YtljlfiomikifjaaGreatDoorGS3
import Derived.Test.YtljlfiomikifjaaGreatDoorCards
import Derived.Test.YtljlfiomikifjaaGreatDoorTie
set_option autoImplicit false
set_option maxRecDepth 1000000
set_option linter.unusedVariables false
namespace Go.Proofs.YtljlfiomikifjaaGreatDoor
open Go Go.Ab Go.RowKit Go.ChangeShapes Go.WideShapes
theorem zLy : Tryz.prog.funcNamed "lineage/lineagelaw09.AbsorptionOperations" = some 11 := by kernel_rfl
theorem absorptionOperations_holds : Rows.AbsorptionOperationsCardSaid :=
  Claim7.holds_tied_plain_at .later [] [.data, .data, .data, .data, .pinned] true (true, "861ebbef4966670a0eb0c9c41206da01dc65dfca3f3f8d204dcc0dc94759f7ff") false
    zPT (fun _ h => by cases h) (by kernel_rfl) (fun _ h => by cases h) absorptionOperations_row_tie rfl ⟨rfl, rfl⟩ zbnA rfl
    (fun f fn hf hfn => by
      obtain rfl : f = 11 := Option.some.inj (zLy.symm.trans hf) |>.symm
      obtain rfl : fn = Tryz.f11 := (Option.some.inj (Tryz.func11.symm.trans hfn)).symm
      exact ⟨zbmw, fun j t ht => by
        have ht' : t ∈ Tryz.f11.params.toList := by
          have := Array.mem_of_getElem? ht
          simpa using this
        rw [show Tryz.f11.params.toList = [23, 23, 43] by kernel_rfl] at ht'
        simp only [List.mem_cons, List.not_mem_nil, or_false] at ht'
        rcases ht' with rfl | rfl | rfl
        · exact zbgN
        · exact zbgN
        · exact zblw
        ⟩)
    (by kernel_rfl)
#print axioms absorptionOperations_holds
end Go.Proofs.YtljlfiomikifjaaGreatDoor
