/-
  DERIVED. GIVEN WITH THE SEED: THE CARDS: each row of YtoknknbmfmddbaaGreatDoorRows.lean that lists a variable, with what it lists TIED to the program's text (the seventh form; the later family's looks); each row that meets fmt, with fmt's text TOLD by the authors' own Lean function (tested against real Go, not proved from fmt's source: count such statements apart). THE CARD IS WHAT COUNTS. Prove the row's statement (the work); the ties are given (YtoknknbmfmddbaaGreatDoorTie.lean); close each card by the builder's one call (the guide's Derived/Test/ToyasCard.lean, 'card_holds'). Laid BY PROGRAM, IN A SANDBOX (cutbox-door.mjs). By AI agents, Wed Nov 11 2026. No macro, syntax, notation, axiom, sorry.
-/
import Derived.Test.YtoknknbmfmddbaaGreatDoorRows
import GoSem.ClaimSeven
namespace Go.Proofs.YtoknknbmfmddbaaGreatDoor
namespace Rows

/-- THE TIED CARD OF 'lineagelaw29.RelationValidity'. -/
def relationValidityCard : Claim7 := { stood := { row := relationValidityRow, standIns := [], harness := (true, "74ee233624f9c7640c94c9ee0c0133277b2d4373be3a083beef12791a1ad00fd"), looks := false }, kinds := [], alts := [], laidByText := true, laidKinds := [.data, .data, .data, .data, .pinned], laidTests := true, laidLooks := .later }
def RelationValidityCardSaid : Prop := Claim7.holds Tryz.pinned (.plain (OpenSpec.ofChange relationValiditySpec)) relationValidityCard

/-- THE TIED CARD OF 'lineagelaw29.RelationNames'. -/
def relationNamesCard : Claim7 := { stood := { row := relationNamesRow, standIns := [], harness := (true, "74ee233624f9c7640c94c9ee0c0133277b2d4373be3a083beef12791a1ad00fd"), looks := false }, kinds := [], alts := [], laidByText := true, laidKinds := [.data, .data, .data, .data, .pinned], laidTests := true, laidLooks := .later }
def RelationNamesCardSaid : Prop := Claim7.holds Tryz.pinned (.plain (OpenSpec.ofChange relationNamesSpec)) relationNamesCard

/-- THE TIED CARD OF 'lineagelaw29.RelationAddition'. -/
def relationAdditionCard : Claim7 := { stood := { row := relationAdditionRow, standIns := [], harness := (true, "74ee233624f9c7640c94c9ee0c0133277b2d4373be3a083beef12791a1ad00fd"), looks := false }, kinds := [], alts := [], laidByText := true, laidKinds := [.data, .data, .data, .data, .pinned], laidTests := true, laidLooks := .later }
def RelationAdditionCardSaid : Prop := Claim7.holds Tryz.pinned (.plain (OpenSpec.ofChange relationAdditionSpec)) relationAdditionCard

/-- THE TIED CARD OF 'lineagelaw29.RelationNormalization'. -/
def relationNormalizationCard : Claim7 := { stood := { row := relationNormalizationRow, standIns := [], harness := (true, "74ee233624f9c7640c94c9ee0c0133277b2d4373be3a083beef12791a1ad00fd"), looks := false }, kinds := [], alts := [], laidByText := true, laidKinds := [.data, .data, .data, .data, .pinned], laidTests := true, laidLooks := .later }
def RelationNormalizationCardSaid : Prop := Claim7.holds Tryz.pinned (.plain (OpenSpec.ofChange relationNormalizationSpec)) relationNormalizationCard

/-- THE TIED CARD OF 'lineagelaw29.RelationMerging'. -/
def relationMergingCard : Claim7 := { stood := { row := relationMergingRow, standIns := [], harness := (true, "74ee233624f9c7640c94c9ee0c0133277b2d4373be3a083beef12791a1ad00fd"), looks := false }, kinds := [], alts := [], laidByText := true, laidKinds := [.data, .data, .data, .data, .pinned], laidTests := true, laidLooks := .later }
def RelationMergingCardSaid : Prop := Claim7.holds Tryz.pinned (.plain (OpenSpec.ofChange relationMergingSpec)) relationMergingCard

/-- THE TIED CARD OF 'lineagelaw29.RelationSubstitution'. -/
def relationSubstitutionCard : Claim7 := { stood := { row := relationSubstitutionRow, standIns := [], harness := (true, "74ee233624f9c7640c94c9ee0c0133277b2d4373be3a083beef12791a1ad00fd"), looks := false }, kinds := [], alts := [], laidByText := true, laidKinds := [.data, .data, .data, .data, .pinned], laidTests := true, laidLooks := .later }
def RelationSubstitutionCardSaid : Prop := Claim7.holds Tryz.pinned (.plain (OpenSpec.ofChange relationSubstitutionSpec)) relationSubstitutionCard

/-- THE TIED CARD OF 'lineagelaw29.RelationLookup'. -/
def relationLookupCard : Claim7 := { stood := { row := relationLookupRow, standIns := [], harness := (true, "74ee233624f9c7640c94c9ee0c0133277b2d4373be3a083beef12791a1ad00fd"), looks := false }, kinds := [], alts := [], laidByText := true, laidKinds := [.data, .data, .data, .data, .pinned], laidTests := true, laidLooks := .later }
def RelationLookupCardSaid : Prop := Claim7.holds Tryz.pinned (.plain (OpenSpec.ofChange relationLookupSpec)) relationLookupCard

/-- THE SECOND FORM's CARD OF 'lineagelaw29.RelationValidity'. -/
def relationValidityUptoCard : Claim7 := { stood := { row := relationValidityUptoRow, standIns := [], harness := (true, "74ee233624f9c7640c94c9ee0c0133277b2d4373be3a083beef12791a1ad00fd"), looks := false }, kinds := [], alts := [], laidByText := true, laidKinds := [.data, .data, .data, .data, .pinned], laidTests := true, laidLooks := .later }
def RelationValidityUptoCardSaid : Prop := Claim7.holds Tryz.pinned (.plain (OpenSpec.upto relationValiditySpec)) relationValidityUptoCard

/-- THE SECOND FORM's CARD OF 'lineagelaw29.RelationNames'. -/
def relationNamesUptoCard : Claim7 := { stood := { row := relationNamesUptoRow, standIns := [], harness := (true, "74ee233624f9c7640c94c9ee0c0133277b2d4373be3a083beef12791a1ad00fd"), looks := false }, kinds := [], alts := [], laidByText := true, laidKinds := [.data, .data, .data, .data, .pinned], laidTests := true, laidLooks := .later }
def RelationNamesUptoCardSaid : Prop := Claim7.holds Tryz.pinned (.plain (OpenSpec.upto relationNamesSpec)) relationNamesUptoCard

/-- THE SECOND FORM's CARD OF 'lineagelaw29.RelationAddition'. -/
def relationAdditionUptoCard : Claim7 := { stood := { row := relationAdditionUptoRow, standIns := [], harness := (true, "74ee233624f9c7640c94c9ee0c0133277b2d4373be3a083beef12791a1ad00fd"), looks := false }, kinds := [], alts := [], laidByText := true, laidKinds := [.data, .data, .data, .data, .pinned], laidTests := true, laidLooks := .later }
def RelationAdditionUptoCardSaid : Prop := Claim7.holds Tryz.pinned (.plain (OpenSpec.upto relationAdditionSpec)) relationAdditionUptoCard

/-- THE SECOND FORM's CARD OF 'lineagelaw29.RelationNormalization'. -/
def relationNormalizationUptoCard : Claim7 := { stood := { row := relationNormalizationUptoRow, standIns := [], harness := (true, "74ee233624f9c7640c94c9ee0c0133277b2d4373be3a083beef12791a1ad00fd"), looks := false }, kinds := [], alts := [], laidByText := true, laidKinds := [.data, .data, .data, .data, .pinned], laidTests := true, laidLooks := .later }
def RelationNormalizationUptoCardSaid : Prop := Claim7.holds Tryz.pinned (.plain (OpenSpec.upto relationNormalizationSpec)) relationNormalizationUptoCard

/-- THE SECOND FORM's CARD OF 'lineagelaw29.RelationMerging'. -/
def relationMergingUptoCard : Claim7 := { stood := { row := relationMergingUptoRow, standIns := [], harness := (true, "74ee233624f9c7640c94c9ee0c0133277b2d4373be3a083beef12791a1ad00fd"), looks := false }, kinds := [], alts := [], laidByText := true, laidKinds := [.data, .data, .data, .data, .pinned], laidTests := true, laidLooks := .later }
def RelationMergingUptoCardSaid : Prop := Claim7.holds Tryz.pinned (.plain (OpenSpec.upto relationMergingSpec)) relationMergingUptoCard

/-- THE SECOND FORM's CARD OF 'lineagelaw29.RelationSubstitution'. -/
def relationSubstitutionUptoCard : Claim7 := { stood := { row := relationSubstitutionUptoRow, standIns := [], harness := (true, "74ee233624f9c7640c94c9ee0c0133277b2d4373be3a083beef12791a1ad00fd"), looks := false }, kinds := [], alts := [], laidByText := true, laidKinds := [.data, .data, .data, .data, .pinned], laidTests := true, laidLooks := .later }
def RelationSubstitutionUptoCardSaid : Prop := Claim7.holds Tryz.pinned (.plain (OpenSpec.upto relationSubstitutionSpec)) relationSubstitutionUptoCard

/-- THE SECOND FORM's CARD OF 'lineagelaw29.RelationLookup'. -/
def relationLookupUptoCard : Claim7 := { stood := { row := relationLookupUptoRow, standIns := [], harness := (true, "74ee233624f9c7640c94c9ee0c0133277b2d4373be3a083beef12791a1ad00fd"), looks := false }, kinds := [], alts := [], laidByText := true, laidKinds := [.data, .data, .data, .data, .pinned], laidTests := true, laidLooks := .later }
def RelationLookupUptoCardSaid : Prop := Claim7.holds Tryz.pinned (.plain (OpenSpec.upto relationLookupSpec)) relationLookupUptoCard
end Rows
end Go.Proofs.YtoknknbmfmddbaaGreatDoor
