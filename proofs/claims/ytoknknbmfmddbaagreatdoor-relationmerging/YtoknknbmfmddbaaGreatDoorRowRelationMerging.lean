/- RelationMerging: For every input the law returns true, and the input reads afterwards as it read before: the card. -/
import Derived.Test.YtoknknbmfmddbaaGreatDoorGS2
import Derived.Test.YtoknknbmfmddbaaGreatDoorGS3
import Derived.Test.YtoknknbmfmddbaaGreatDoorCards
import Derived.Test.YtoknknbmfmddbaaGreatDoorTie
set_option autoImplicit false
set_option maxRecDepth 1000000
set_option linter.unusedVariables false
namespace Go.Proofs.YtoknknbmfmddbaaGreatDoor
open Go Go.Ab Go.RowKit Go.ChangeShapes Go.WideShapes
theorem zOz : Tryz.prog.funcNamed "lineage/lineagelaw29.RelationMerging" = some 7 := by kernel_rfl
theorem relationMerging_holds : Rows.RelationMergingCardSaid :=
  Claim7.holds_tied_plain_at .later [] [.data, .data, .data, .data, .pinned] true (true, "74ee233624f9c7640c94c9ee0c0133277b2d4373be3a083beef12791a1ad00fd") false
    zRQ (fun _ h => by cases h) (by kernel_rfl) (fun _ h => by cases h) relationMerging_row_tie rfl ⟨rfl, rfl⟩ zbcH rfl
    (fun f fn hf hfn => by
      obtain rfl : f = 7 := Option.some.inj (zOz.symm.trans hf) |>.symm
      obtain rfl : fn = Tryz.f7 := (Option.some.inj (Tryz.func7.symm.trans hfn)).symm
      exact ⟨zbbU, fun j t ht => by
        have ht' : t ∈ Tryz.f7.params.toList := by
          have := Array.mem_of_getElem? ht
          simpa using this
        rw [show Tryz.f7.params.toList = [25, 5] by kernel_rfl] at ht'
        simp only [List.mem_cons, List.not_mem_nil, or_false] at ht'
        rcases ht' with rfl | rfl
        · exact zbct
        · exact zbdk
        ⟩)
    (by kernel_rfl)
#print axioms relationMerging_holds
end Go.Proofs.YtoknknbmfmddbaaGreatDoor
