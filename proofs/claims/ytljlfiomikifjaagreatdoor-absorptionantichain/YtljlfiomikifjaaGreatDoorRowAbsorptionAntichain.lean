/- AbsorptionAntichain: For every input the law returns true, and the input reads afterwards as it read before: the card. -/
import Derived.Test.YtljlfiomikifjaaGreatDoorGS2
import Derived.Test.YtljlfiomikifjaaGreatDoorGS3
import Derived.Test.YtljlfiomikifjaaGreatDoorCards
import Derived.Test.YtljlfiomikifjaaGreatDoorTie
set_option autoImplicit false
set_option maxRecDepth 1000000
set_option linter.unusedVariables false
namespace Go.Proofs.YtljlfiomikifjaaGreatDoor
open Go Go.Ab Go.RowKit Go.ChangeShapes Go.WideShapes
theorem zNY : Tryz.prog.funcNamed "lineage/lineagelaw09.AbsorptionAntichain" = some 9 := by kernel_rfl
theorem absorptionAntichain_holds : Rows.AbsorptionAntichainCardSaid :=
  Claim7.holds_tied_plain_at .later [] [.data, .data, .data, .data, .pinned] true (true, "861ebbef4966670a0eb0c9c41206da01dc65dfca3f3f8d204dcc0dc94759f7ff") false
    zQZ (fun _ h => by cases h) (by kernel_rfl) (fun _ h => by cases h) absorptionAntichain_row_tie rfl ⟨rfl, rfl⟩ zbkH rfl
    (fun f fn hf hfn => by
      obtain rfl : f = 9 := Option.some.inj (zNY.symm.trans hf) |>.symm
      obtain rfl : fn = Tryz.f9 := (Option.some.inj (Tryz.func9.symm.trans hfn)).symm
      exact ⟨zbis, fun j t ht => by
        have ht' : t ∈ Tryz.f9.params.toList := by
          have := Array.mem_of_getElem? ht
          simpa using this
        rw [show Tryz.f9.params.toList = [23] by kernel_rfl] at ht'
        simp only [List.mem_cons, List.not_mem_nil, or_false] at ht'
        rcases ht' with rfl
        · exact zbjv
        ⟩)
    (by kernel_rfl)
#print axioms absorptionAntichain_holds
end Go.Proofs.YtljlfiomikifjaaGreatDoor
