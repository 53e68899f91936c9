/-
  DERIVED. GIVEN WITH THE SEED: THE CARDS: each row of YtnolcogncjijpaaGreatDoorRows.lean that lists a variable, with what it lists TIED to the program's text (the seventh form; the later family's looks); each row that meets fmt, with fmt's text TOLD by the authors' own Lean function (tested against real Go, not proved from fmt's source: count such statements apart). THE CARD IS WHAT COUNTS. Prove the row's statement (the work); the ties are given (YtnolcogncjijpaaGreatDoorTie.lean); close each card by the builder's one call (the guide's Derived/Test/ToyasCard.lean, 'card_holds'). Laid BY PROGRAM, IN A SANDBOX (cutbox-door.mjs). By AI agents, Wed Nov 11 2026. No macro, syntax, notation, axiom, sorry.
-/
import Derived.Test.YtnolcogncjijpaaGreatDoorRows
import GoSem.ClaimSeven
namespace Go.Proofs.YtnolcogncjijpaaGreatDoor
namespace Rows

/-- THE TIED CARD OF 'lineagelaw05.AnnotationOperations'. -/
def annotationOperationsCard : Claim7 := { stood := { row := annotationOperationsRow, standIns := [], harness := (true, "cb06c8cb28777d85586a1e43865128d6cf98388139daba7099a51cc0dc58b21d"), looks := false }, kinds := [], alts := [], laidByText := true, laidKinds := [.data, .data, .data, .data, .pinned], laidTests := true, laidLooks := .later }
def AnnotationOperationsCardSaid : Prop := Claim7.holds Tryz.pinned (.plain (OpenSpec.ofChange annotationOperationsSpec)) annotationOperationsCard

/-- THE TIED CARD OF 'lineagelaw05.AnnotationRing'. -/
def annotationRingCard : Claim7 := { stood := { row := annotationRingRow, standIns := [], harness := (true, "cb06c8cb28777d85586a1e43865128d6cf98388139daba7099a51cc0dc58b21d"), looks := false }, kinds := [], alts := [], laidByText := true, laidKinds := [.data, .data, .data, .data, .pinned], laidTests := true, laidLooks := .later }
def AnnotationRingCardSaid : Prop := Claim7.holds Tryz.pinned (.plain (OpenSpec.ofChange annotationRingSpec)) annotationRingCard

/-- THE TIED CARD OF 'lineagelaw05.AnnotationSimplification'. -/
def annotationSimplificationCard : Claim7 := { stood := { row := annotationSimplificationRow, standIns := [], harness := (true, "cb06c8cb28777d85586a1e43865128d6cf98388139daba7099a51cc0dc58b21d"), looks := false }, kinds := [], alts := [], laidByText := true, laidKinds := [.data, .data, .data, .data, .pinned], laidTests := true, laidLooks := .later }
def AnnotationSimplificationCardSaid : Prop := Claim7.holds Tryz.pinned (.plain (OpenSpec.ofChange annotationSimplificationSpec)) annotationSimplificationCard

/-- THE TIED CARD OF 'lineagelaw05.AnnotationTests'. -/
def annotationTestsCard : Claim7 := { stood := { row := annotationTestsRow, standIns := [], harness := (true, "cb06c8cb28777d85586a1e43865128d6cf98388139daba7099a51cc0dc58b21d"), looks := false }, kinds := [], alts := [], laidByText := true, laidKinds := [.data, .data, .data, .data, .pinned], laidTests := true, laidLooks := .later }
def AnnotationTestsCardSaid : Prop := Claim7.holds Tryz.pinned (.plain (OpenSpec.ofChange annotationTestsSpec)) annotationTestsCard

/-- THE TIED CARD OF 'lineagelaw05.AnnotationOrder'. -/
def annotationOrderCard : Claim7 := { stood := { row := annotationOrderRow, standIns := [], harness := (true, "cb06c8cb28777d85586a1e43865128d6cf98388139daba7099a51cc0dc58b21d"), looks := false }, kinds := [], alts := [], laidByText := true, laidKinds := [.data, .data, .data, .data, .pinned], laidTests := true, laidLooks := .later }
def AnnotationOrderCardSaid : Prop := Claim7.holds Tryz.pinned (.plain (OpenSpec.ofChange annotationOrderSpec)) annotationOrderCard

/-- THE TIED CARD OF 'lineagelaw05.AnnotationSubstitution'. -/
def annotationSubstitutionCard : Claim7 := { stood := { row := annotationSubstitutionRow, standIns := [], harness := (true, "cb06c8cb28777d85586a1e43865128d6cf98388139daba7099a51cc0dc58b21d"), looks := false }, kinds := [], alts := [], laidByText := true, laidKinds := [.data, .data, .data, .data, .pinned], laidTests := true, laidLooks := .later }
def AnnotationSubstitutionCardSaid : Prop := Claim7.holds Tryz.pinned (.plain (OpenSpec.ofChange annotationSubstitutionSpec)) annotationSubstitutionCard

/-- THE TIED CARD OF 'lineagelaw05.AnnotationHomomorphism'. -/
def annotationHomomorphismCard : Claim7 := { stood := { row := annotationHomomorphismRow, standIns := [], harness := (true, "cb06c8cb28777d85586a1e43865128d6cf98388139daba7099a51cc0dc58b21d"), looks := false }, kinds := [], alts := [], laidByText := true, laidKinds := [.data, .data, .data, .data, .pinned], laidTests := true, laidLooks := .later }
def AnnotationHomomorphismCardSaid : Prop := Claim7.holds Tryz.pinned (.plain (OpenSpec.ofChange annotationHomomorphismSpec)) annotationHomomorphismCard

/-- THE TIED CARD OF 'lineagelaw05.AnnotationValidity'. -/
def annotationValidityCard : Claim7 := { stood := { row := annotationValidityRow, standIns := [], harness := (true, "cb06c8cb28777d85586a1e43865128d6cf98388139daba7099a51cc0dc58b21d"), looks := false }, kinds := [], alts := [], laidByText := true, laidKinds := [.data, .data, .data, .data, .pinned], laidTests := true, laidLooks := .later }
def AnnotationValidityCardSaid : Prop := Claim7.holds Tryz.pinned (.plain (OpenSpec.ofChange annotationValiditySpec)) annotationValidityCard

/-- THE SECOND FORM's CARD OF 'lineagelaw05.AnnotationOperations'. -/
def annotationOperationsUptoCard : Claim7 := { stood := { row := annotationOperationsUptoRow, standIns := [], harness := (true, "cb06c8cb28777d85586a1e43865128d6cf98388139daba7099a51cc0dc58b21d"), looks := false }, kinds := [], alts := [], laidByText := true, laidKinds := [.data, .data, .data, .data, .pinned], laidTests := true, laidLooks := .later }
def AnnotationOperationsUptoCardSaid : Prop := Claim7.holds Tryz.pinned (.plain (OpenSpec.upto annotationOperationsSpec)) annotationOperationsUptoCard

/-- THE SECOND FORM's CARD OF 'lineagelaw05.AnnotationRing'. -/
def annotationRingUptoCard : Claim7 := { stood := { row := annotationRingUptoRow, standIns := [], harness := (true, "cb06c8cb28777d85586a1e43865128d6cf98388139daba7099a51cc0dc58b21d"), looks := false }, kinds := [], alts := [], laidByText := true, laidKinds := [.data, .data, .data, .data, .pinned], laidTests := true, laidLooks := .later }
def AnnotationRingUptoCardSaid : Prop := Claim7.holds Tryz.pinned (.plain (OpenSpec.upto annotationRingSpec)) annotationRingUptoCard

/-- THE SECOND FORM's CARD OF 'lineagelaw05.AnnotationSimplification'. -/
def annotationSimplificationUptoCard : Claim7 := { stood := { row := annotationSimplificationUptoRow, standIns := [], harness := (true, "cb06c8cb28777d85586a1e43865128d6cf98388139daba7099a51cc0dc58b21d"), looks := false }, kinds := [], alts := [], laidByText := true, laidKinds := [.data, .data, .data, .data, .pinned], laidTests := true, laidLooks := .later }
def AnnotationSimplificationUptoCardSaid : Prop := Claim7.holds Tryz.pinned (.plain (OpenSpec.upto annotationSimplificationSpec)) annotationSimplificationUptoCard

/-- THE SECOND FORM's CARD OF 'lineagelaw05.AnnotationTests'. -/
def annotationTestsUptoCard : Claim7 := { stood := { row := annotationTestsUptoRow, standIns := [], harness := (true, "cb06c8cb28777d85586a1e43865128d6cf98388139daba7099a51cc0dc58b21d"), looks := false }, kinds := [], alts := [], laidByText := true, laidKinds := [.data, .data, .data, .data, .pinned], laidTests := true, laidLooks := .later }
def AnnotationTestsUptoCardSaid : Prop := Claim7.holds Tryz.pinned (.plain (OpenSpec.upto annotationTestsSpec)) annotationTestsUptoCard

/-- THE SECOND FORM's CARD OF 'lineagelaw05.AnnotationOrder'. -/
def annotationOrderUptoCard : Claim7 := { stood := { row := annotationOrderUptoRow, standIns := [], harness := (true, "cb06c8cb28777d85586a1e43865128d6cf98388139daba7099a51cc0dc58b21d"), looks := false }, kinds := [], alts := [], laidByText := true, laidKinds := [.data, .data, .data, .data, .pinned], laidTests := true, laidLooks := .later }
def AnnotationOrderUptoCardSaid : Prop := Claim7.holds Tryz.pinned (.plain (OpenSpec.upto annotationOrderSpec)) annotationOrderUptoCard

/-- THE SECOND FORM's CARD OF 'lineagelaw05.AnnotationSubstitution'. -/
def annotationSubstitutionUptoCard : Claim7 := { stood := { row := annotationSubstitutionUptoRow, standIns := [], harness := (true, "cb06c8cb28777d85586a1e43865128d6cf98388139daba7099a51cc0dc58b21d"), looks := false }, kinds := [], alts := [], laidByText := true, laidKinds := [.data, .data, .data, .data, .pinned], laidTests := true, laidLooks := .later }
def AnnotationSubstitutionUptoCardSaid : Prop := Claim7.holds Tryz.pinned (.plain (OpenSpec.upto annotationSubstitutionSpec)) annotationSubstitutionUptoCard

/-- THE SECOND FORM's CARD OF 'lineagelaw05.AnnotationHomomorphism'. -/
def annotationHomomorphismUptoCard : Claim7 := { stood := { row := annotationHomomorphismUptoRow, standIns := [], harness := (true, "cb06c8cb28777d85586a1e43865128d6cf98388139daba7099a51cc0dc58b21d"), looks := false }, kinds := [], alts := [], laidByText := true, laidKinds := [.data, .data, .data, .data, .pinned], laidTests := true, laidLooks := .later }
def AnnotationHomomorphismUptoCardSaid : Prop := Claim7.holds Tryz.pinned (.plain (OpenSpec.upto annotationHomomorphismSpec)) annotationHomomorphismUptoCard

/-- THE SECOND FORM's CARD OF 'lineagelaw05.AnnotationValidity'. -/
def annotationValidityUptoCard : Claim7 := { stood := { row := annotationValidityUptoRow, standIns := [], harness := (true, "cb06c8cb28777d85586a1e43865128d6cf98388139daba7099a51cc0dc58b21d"), looks := false }, kinds := [], alts := [], laidByText := true, laidKinds := [.data, .data, .data, .data, .pinned], laidTests := true, laidLooks := .later }
def AnnotationValidityUptoCardSaid : Prop := Claim7.holds Tryz.pinned (.plain (OpenSpec.upto annotationValiditySpec)) annotationValidityUptoCard
end Rows
end Go.Proofs.YtnolcogncjijpaaGreatDoor
