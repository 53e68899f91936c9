/-
  DERIVED. GIVEN WITH THE SEED: THE CARDS: each row of YtljlfiomikifjaaGreatDoorRows.lean that lists a variable, with what it lists TIED to the program's text (the seventh form; the later family's looks); each row that meets fmt, with fmt's text TOLD by the authors' own Lean function (tested against real Go, not proved from fmt's source: count such statements apart). THE CARD IS WHAT COUNTS. Prove the row's statement (the work); the ties are given (YtljlfiomikifjaaGreatDoorTie.lean); close each card by the builder's one call (the guide's Derived/Test/ToyasCard.lean, 'card_holds'). Laid BY PROGRAM, IN A SANDBOX (cutbox-door.mjs). By AI agents, Wed Nov 11 2026. No macro, syntax, notation, axiom, sorry.
-/
import Derived.Test.YtljlfiomikifjaaGreatDoorRows
import GoSem.ClaimSeven
namespace Go.Proofs.YtljlfiomikifjaaGreatDoor
namespace Rows

/-- THE TIED CARD OF 'lineagelaw09.AbsorptionDivision'. -/
def absorptionDivisionCard : Claim7 := { stood := { row := absorptionDivisionRow, standIns := [], harness := (true, "861ebbef4966670a0eb0c9c41206da01dc65dfca3f3f8d204dcc0dc94759f7ff"), looks := false }, kinds := [], alts := [], laidByText := true, laidKinds := [.data, .data, .data, .data, .pinned], laidTests := true, laidLooks := .later }
def AbsorptionDivisionCardSaid : Prop := Claim7.holds Tryz.pinned (.plain (OpenSpec.ofChange absorptionDivisionSpec)) absorptionDivisionCard

/-- THE TIED CARD OF 'lineagelaw09.AbsorptionOrder'. -/
def absorptionOrderCard : Claim7 := { stood := { row := absorptionOrderRow, standIns := [], harness := (true, "861ebbef4966670a0eb0c9c41206da01dc65dfca3f3f8d204dcc0dc94759f7ff"), looks := false }, kinds := [], alts := [], laidByText := true, laidKinds := [.data, .data, .data, .data, .pinned], laidTests := true, laidLooks := .later }
def AbsorptionOrderCardSaid : Prop := Claim7.holds Tryz.pinned (.plain (OpenSpec.ofChange absorptionOrderSpec)) absorptionOrderCard

/-- THE TIED CARD OF 'lineagelaw09.AbsorptionWitnesses'. -/
def absorptionWitnessesCard : Claim7 := { stood := { row := absorptionWitnessesRow, standIns := [], harness := (true, "861ebbef4966670a0eb0c9c41206da01dc65dfca3f3f8d204dcc0dc94759f7ff"), looks := false }, kinds := [], alts := [], laidByText := true, laidKinds := [.data, .data, .data, .data, .pinned], laidTests := true, laidLooks := .later }
def AbsorptionWitnessesCardSaid : Prop := Claim7.holds Tryz.pinned (.plain (OpenSpec.ofChange absorptionWitnessesSpec)) absorptionWitnessesCard

/-- THE TIED CARD OF 'lineagelaw09.AbsorptionWorlds'. -/
def absorptionWorldsCard : Claim7 := { stood := { row := absorptionWorldsRow, standIns := [], harness := (true, "861ebbef4966670a0eb0c9c41206da01dc65dfca3f3f8d204dcc0dc94759f7ff"), looks := false }, kinds := [], alts := [], laidByText := true, laidKinds := [.data, .data, .data, .data, .pinned], laidTests := true, laidLooks := .later }
def AbsorptionWorldsCardSaid : Prop := Claim7.holds Tryz.pinned (.plain (OpenSpec.ofChange absorptionWorldsSpec)) absorptionWorldsCard

/-- THE TIED CARD OF 'lineagelaw09.AbsorptionSubstitution'. -/
def absorptionSubstitutionCard : Claim7 := { stood := { row := absorptionSubstitutionRow, standIns := [], harness := (true, "861ebbef4966670a0eb0c9c41206da01dc65dfca3f3f8d204dcc0dc94759f7ff"), looks := false }, kinds := [], alts := [], laidByText := true, laidKinds := [.data, .data, .data, .data, .pinned], laidTests := true, laidLooks := .later }
def AbsorptionSubstitutionCardSaid : Prop := Claim7.holds Tryz.pinned (.plain (OpenSpec.ofChange absorptionSubstitutionSpec)) absorptionSubstitutionCard

/-- THE TIED CARD OF 'lineagelaw09.AbsorptionNormalForm'. -/
def absorptionNormalFormCard : Claim7 := { stood := { row := absorptionNormalFormRow, standIns := [], harness := (true, "861ebbef4966670a0eb0c9c41206da01dc65dfca3f3f8d204dcc0dc94759f7ff"), looks := false }, kinds := [], alts := [], laidByText := true, laidKinds := [.data, .data, .data, .data, .pinned], laidTests := true, laidLooks := .later }
def AbsorptionNormalFormCardSaid : Prop := Claim7.holds Tryz.pinned (.plain (OpenSpec.ofChange absorptionNormalFormSpec)) absorptionNormalFormCard

/-- THE TIED CARD OF 'lineagelaw09.AbsorptionAntichain'. -/
def absorptionAntichainCard : Claim7 := { stood := { row := absorptionAntichainRow, standIns := [], harness := (true, "861ebbef4966670a0eb0c9c41206da01dc65dfca3f3f8d204dcc0dc94759f7ff"), looks := false }, kinds := [], alts := [], laidByText := true, laidKinds := [.data, .data, .data, .data, .pinned], laidTests := true, laidLooks := .later }
def AbsorptionAntichainCardSaid : Prop := Claim7.holds Tryz.pinned (.plain (OpenSpec.ofChange absorptionAntichainSpec)) absorptionAntichainCard

/-- THE TIED CARD OF 'lineagelaw09.AbsorptionLaws'. -/
def absorptionLawsCard : Claim7 := { stood := { row := absorptionLawsRow, standIns := [], harness := (true, "861ebbef4966670a0eb0c9c41206da01dc65dfca3f3f8d204dcc0dc94759f7ff"), looks := false }, kinds := [], alts := [], laidByText := true, laidKinds := [.data, .data, .data, .data, .pinned], laidTests := true, laidLooks := .later }
def AbsorptionLawsCardSaid : Prop := Claim7.holds Tryz.pinned (.plain (OpenSpec.ofChange absorptionLawsSpec)) absorptionLawsCard

/-- THE TIED CARD OF 'lineagelaw09.AbsorptionOperations'. -/
def absorptionOperationsCard : Claim7 := { stood := { row := absorptionOperationsRow, standIns := [], harness := (true, "861ebbef4966670a0eb0c9c41206da01dc65dfca3f3f8d204dcc0dc94759f7ff"), looks := false }, kinds := [], alts := [], laidByText := true, laidKinds := [.data, .data, .data, .data, .pinned], laidTests := true, laidLooks := .later }
def AbsorptionOperationsCardSaid : Prop := Claim7.holds Tryz.pinned (.plain (OpenSpec.ofChange absorptionOperationsSpec)) absorptionOperationsCard

/-- THE SECOND FORM's CARD OF 'lineagelaw09.AbsorptionDivision'. -/
def absorptionDivisionUptoCard : Claim7 := { stood := { row := absorptionDivisionUptoRow, standIns := [], harness := (true, "861ebbef4966670a0eb0c9c41206da01dc65dfca3f3f8d204dcc0dc94759f7ff"), looks := false }, kinds := [], alts := [], laidByText := true, laidKinds := [.data, .data, .data, .data, .pinned], laidTests := true, laidLooks := .later }
def AbsorptionDivisionUptoCardSaid : Prop := Claim7.holds Tryz.pinned (.plain (OpenSpec.upto absorptionDivisionSpec)) absorptionDivisionUptoCard

/-- THE SECOND FORM's CARD OF 'lineagelaw09.AbsorptionOrder'. -/
def absorptionOrderUptoCard : Claim7 := { stood := { row := absorptionOrderUptoRow, standIns := [], harness := (true, "861ebbef4966670a0eb0c9c41206da01dc65dfca3f3f8d204dcc0dc94759f7ff"), looks := false }, kinds := [], alts := [], laidByText := true, laidKinds := [.data, .data, .data, .data, .pinned], laidTests := true, laidLooks := .later }
def AbsorptionOrderUptoCardSaid : Prop := Claim7.holds Tryz.pinned (.plain (OpenSpec.upto absorptionOrderSpec)) absorptionOrderUptoCard

/-- THE SECOND FORM's CARD OF 'lineagelaw09.AbsorptionWitnesses'. -/
def absorptionWitnessesUptoCard : Claim7 := { stood := { row := absorptionWitnessesUptoRow, standIns := [], harness := (true, "861ebbef4966670a0eb0c9c41206da01dc65dfca3f3f8d204dcc0dc94759f7ff"), looks := false }, kinds := [], alts := [], laidByText := true, laidKinds := [.data, .data, .data, .data, .pinned], laidTests := true, laidLooks := .later }
def AbsorptionWitnessesUptoCardSaid : Prop := Claim7.holds Tryz.pinned (.plain (OpenSpec.upto absorptionWitnessesSpec)) absorptionWitnessesUptoCard

/-- THE SECOND FORM's CARD OF 'lineagelaw09.AbsorptionWorlds'. -/
def absorptionWorldsUptoCard : Claim7 := { stood := { row := absorptionWorldsUptoRow, standIns := [], harness := (true, "861ebbef4966670a0eb0c9c41206da01dc65dfca3f3f8d204dcc0dc94759f7ff"), looks := false }, kinds := [], alts := [], laidByText := true, laidKinds := [.data, .data, .data, .data, .pinned], laidTests := true, laidLooks := .later }
def AbsorptionWorldsUptoCardSaid : Prop := Claim7.holds Tryz.pinned (.plain (OpenSpec.upto absorptionWorldsSpec)) absorptionWorldsUptoCard

/-- THE SECOND FORM's CARD OF 'lineagelaw09.AbsorptionSubstitution'. -/
def absorptionSubstitutionUptoCard : Claim7 := { stood := { row := absorptionSubstitutionUptoRow, standIns := [], harness := (true, "861ebbef4966670a0eb0c9c41206da01dc65dfca3f3f8d204dcc0dc94759f7ff"), looks := false }, kinds := [], alts := [], laidByText := true, laidKinds := [.data, .data, .data, .data, .pinned], laidTests := true, laidLooks := .later }
def AbsorptionSubstitutionUptoCardSaid : Prop := Claim7.holds Tryz.pinned (.plain (OpenSpec.upto absorptionSubstitutionSpec)) absorptionSubstitutionUptoCard

/-- THE SECOND FORM's CARD OF 'lineagelaw09.AbsorptionNormalForm'. -/
def absorptionNormalFormUptoCard : Claim7 := { stood := { row := absorptionNormalFormUptoRow, standIns := [], harness := (true, "861ebbef4966670a0eb0c9c41206da01dc65dfca3f3f8d204dcc0dc94759f7ff"), looks := false }, kinds := [], alts := [], laidByText := true, laidKinds := [.data, .data, .data, .data, .pinned], laidTests := true, laidLooks := .later }
def AbsorptionNormalFormUptoCardSaid : Prop := Claim7.holds Tryz.pinned (.plain (OpenSpec.upto absorptionNormalFormSpec)) absorptionNormalFormUptoCard

/-- THE SECOND FORM's CARD OF 'lineagelaw09.AbsorptionAntichain'. -/
def absorptionAntichainUptoCard : Claim7 := { stood := { row := absorptionAntichainUptoRow, standIns := [], harness := (true, "861ebbef4966670a0eb0c9c41206da01dc65dfca3f3f8d204dcc0dc94759f7ff"), looks := false }, kinds := [], alts := [], laidByText := true, laidKinds := [.data, .data, .data, .data, .pinned], laidTests := true, laidLooks := .later }
def AbsorptionAntichainUptoCardSaid : Prop := Claim7.holds Tryz.pinned (.plain (OpenSpec.upto absorptionAntichainSpec)) absorptionAntichainUptoCard

/-- THE SECOND FORM's CARD OF 'lineagelaw09.AbsorptionLaws'. -/
def absorptionLawsUptoCard : Claim7 := { stood := { row := absorptionLawsUptoRow, standIns := [], harness := (true, "861ebbef4966670a0eb0c9c41206da01dc65dfca3f3f8d204dcc0dc94759f7ff"), looks := false }, kinds := [], alts := [], laidByText := true, laidKinds := [.data, .data, .data, .data, .pinned], laidTests := true, laidLooks := .later }
def AbsorptionLawsUptoCardSaid : Prop := Claim7.holds Tryz.pinned (.plain (OpenSpec.upto absorptionLawsSpec)) absorptionLawsUptoCard

/-- THE SECOND FORM's CARD OF 'lineagelaw09.AbsorptionOperations'. -/
def absorptionOperationsUptoCard : Claim7 := { stood := { row := absorptionOperationsUptoRow, standIns := [], harness := (true, "861ebbef4966670a0eb0c9c41206da01dc65dfca3f3f8d204dcc0dc94759f7ff"), looks := false }, kinds := [], alts := [], laidByText := true, laidKinds := [.data, .data, .data, .data, .pinned], laidTests := true, laidLooks := .later }
def AbsorptionOperationsUptoCardSaid : Prop := Claim7.holds Tryz.pinned (.plain (OpenSpec.upto absorptionOperationsSpec)) absorptionOperationsUptoCard
end Rows
end Go.Proofs.YtljlfiomikifjaaGreatDoor
