/- RelationLookup: For every input the law returns true, and the input reads afterwards as it read before: the card. -/
import Derived.Test.YtoknknbmfmddbaaGreatDoorGS2
import Derived.Test.YtoknknbmfmddbaaGreatDoorGS3
import Derived.Test.YtoknknbmfmddbaaGreatDoorCards
import Derived.Test.YtoknknbmfmddbaaGreatDoorTie
set_option autoImplicit false
set_option maxRecDepth 1000000
set_option linter.unusedVariables false
namespace Go.Proofs.YtoknknbmfmddbaaGreatDoor
open Go Go.Ab Go.RowKit Go.ChangeShapes Go.WideShapes
theorem zPA : Tryz.prog.funcNamed "lineage/lineagelaw29.RelationLookup" = some 9 := by kernel_rfl
theorem relationLookup_holds : Rows.RelationLookupCardSaid :=
  Claim7.holds_tied_plain_at .later [] [.data, .data, .data, .data, .pinned] true (true, "74ee233624f9c7640c94c9ee0c0133277b2d4373be3a083beef12791a1ad00fd") false
    zRK (fun _ h => by cases h) (by kernel_rfl) (fun _ h => by cases h) relationLookup_row_tie rfl ⟨rfl, rfl⟩ z9B rfl
    (fun f fn hf hfn => by
      obtain rfl : f = 9 := Option.some.inj (zPA.symm.trans hf) |>.symm
      obtain rfl : fn = Tryz.f9 := (Option.some.inj (Tryz.func9.symm.trans hfn)).symm
      exact ⟨z87, fun j t ht => by
        have ht' : t ∈ Tryz.f9.params.toList := by
          have := Array.mem_of_getElem? ht
          simpa using this
        rw [show Tryz.f9.params.toList = [25, 34] by kernel_rfl] at ht'
        simp only [List.mem_cons, List.not_mem_nil, or_false] at ht'
        rcases ht' with rfl | rfl
        · exact z8a
        · exact z8g
        ⟩)
    (by kernel_rfl)
#print axioms relationLookup_holds
end Go.Proofs.YtoknknbmfmddbaaGreatDoor
