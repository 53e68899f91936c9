/- RelationSubstitution: For every input the law returns true, and the input reads afterwards as it read before: the card. -/
import Derived.Test.YtoknknbmfmddbaaGreatDoorGS2
import Derived.Test.YtoknknbmfmddbaaGreatDoorGS3
import Derived.Test.YtoknknbmfmddbaaGreatDoorCards
import Derived.Test.YtoknknbmfmddbaaGreatDoorTie
set_option autoImplicit false
set_option maxRecDepth 1000000
set_option linter.unusedVariables false
namespace Go.Proofs.YtoknknbmfmddbaaGreatDoor
open Go Go.Ab Go.RowKit Go.ChangeShapes Go.WideShapes
theorem zJL : Tryz.prog.funcNamed "lineage/lineagelaw29.RelationSubstitution" = some 8 := by kernel_rfl
theorem relationSubstitution_holds : Rows.RelationSubstitutionCardSaid :=
  Claim7.holds_tied_plain_at .later [] [.data, .data, .data, .data, .pinned] true (true, "74ee233624f9c7640c94c9ee0c0133277b2d4373be3a083beef12791a1ad00fd") false
    zNV (fun _ h => by cases h) (by kernel_rfl) (fun _ h => by cases h) relationSubstitution_row_tie rfl ⟨rfl, rfl⟩ zbm3 rfl
    (fun f fn hf hfn => by
      obtain rfl : f = 8 := Option.some.inj (zJL.symm.trans hf) |>.symm
      obtain rfl : fn = Tryz.f8 := (Option.some.inj (Tryz.func8.symm.trans hfn)).symm
      exact ⟨zbkK, fun j t ht => by
        have ht' : t ∈ Tryz.f8.params.toList := by
          have := Array.mem_of_getElem? ht
          simpa using this
        rw [show Tryz.f8.params.toList = [25, 25, 60] by kernel_rfl] at ht'
        simp only [List.mem_cons, List.not_mem_nil, or_false] at ht'
        rcases ht' with rfl | rfl | rfl
        · exact zbe4
        · exact zbe4
        · exact zbkO
        ⟩)
    (by kernel_rfl)
#print axioms relationSubstitution_holds
end Go.Proofs.YtoknknbmfmddbaaGreatDoor
