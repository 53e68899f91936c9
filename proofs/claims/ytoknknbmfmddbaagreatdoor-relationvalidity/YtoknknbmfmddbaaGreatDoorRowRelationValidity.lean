/- RelationValidity: For every input the law returns true, and the input reads afterwards as it read before: the card. -/
import Derived.Test.YtoknknbmfmddbaaGreatDoorGS2
import Derived.Test.YtoknknbmfmddbaaGreatDoorGS3
import Derived.Test.YtoknknbmfmddbaaGreatDoorCards
import Derived.Test.YtoknknbmfmddbaaGreatDoorTie
set_option autoImplicit false
set_option maxRecDepth 1000000
set_option linter.unusedVariables false
namespace Go.Proofs.YtoknknbmfmddbaaGreatDoor
open Go Go.Ab Go.RowKit Go.ChangeShapes Go.WideShapes
theorem zLQ : Tryz.prog.funcNamed "lineage/lineagelaw29.RelationValidity" = some 3 := by kernel_rfl
theorem relationValidity_holds : Rows.RelationValidityCardSaid :=
  Claim7.holds_tied_plain_at .later [] [.data, .data, .data, .data, .pinned] true (true, "74ee233624f9c7640c94c9ee0c0133277b2d4373be3a083beef12791a1ad00fd") false
    zN6 (fun _ h => by cases h) (by kernel_rfl) (fun _ h => by cases h) relationValidity_row_tie rfl ⟨rfl, rfl⟩ zbci rfl
    (fun f fn hf hfn => by
      obtain rfl : f = 3 := Option.some.inj (zLQ.symm.trans hf) |>.symm
      obtain rfl : fn = Tryz.f3 := (Option.some.inj (Tryz.func3.symm.trans hfn)).symm
      exact ⟨zbbB, fun j t ht => by
        have ht' : t ∈ Tryz.f3.params.toList := by
          have := Array.mem_of_getElem? ht
          simpa using this
        rw [show Tryz.f3.params.toList = [25, 25] by kernel_rfl] at ht'
        simp only [List.mem_cons, List.not_mem_nil, or_false] at ht'
        rcases ht' with rfl | rfl
        · exact z6s
        · exact z6s
        ⟩)
    (by kernel_rfl)
#print axioms relationValidity_holds
end Go.Proofs.YtoknknbmfmddbaaGreatDoor
