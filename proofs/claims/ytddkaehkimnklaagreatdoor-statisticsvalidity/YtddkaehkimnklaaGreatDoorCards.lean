/-
  DERIVED. GIVEN WITH THE SEED: THE CARDS: each row of YtddkaehkimnklaaGreatDoorRows.lean that lists a variable, with what it lists TIED to the program's text (the seventh form; the later family's looks); each row that meets fmt, with fmt's text TOLD by the authors' own Lean function (tested against real Go, not proved from fmt's source: count such statements apart). THE CARD IS WHAT COUNTS. Prove the row's statement (the work); the ties are given (YtddkaehkimnklaaGreatDoorTie.lean); close each card by the builder's one call (the guide's Derived/Test/ToyasCard.lean, 'card_holds'). Laid BY PROGRAM, IN A SANDBOX (cutbox-door.mjs). By AI agents, Wed Nov 11 2026. No macro, syntax, notation, axiom, sorry.
-/
import Derived.Test.YtddkaehkimnklaaGreatDoorRows
import GoSem.ClaimSeven
namespace Go.Proofs.YtddkaehkimnklaaGreatDoor
namespace Rows

/-- THE TIED CARD OF 'lineagelaw37.StatisticsGather'. -/
def statisticsGatherCard : Claim7 := { stood := { row := statisticsGatherRow, standIns := [], harness := (true, "bf0c0a4381aaf4fd3c266189531b2c7d7155b8fe72277c5f3dbcc7d3b4dee894"), looks := false }, kinds := [], alts := [], laidByText := true, laidKinds := [.data, .data, .data, .data, .pinned], laidTests := true, laidLooks := .later }
def StatisticsGatherCardSaid : Prop := Claim7.holds Tryz.pinned (.plain (OpenSpec.ofChange statisticsGatherSpec)) statisticsGatherCard

/-- THE TIED CARD OF 'lineagelaw37.StatisticsOrder'. -/
def statisticsOrderCard : Claim7 := { stood := { row := statisticsOrderRow, standIns := [], harness := (true, "bf0c0a4381aaf4fd3c266189531b2c7d7155b8fe72277c5f3dbcc7d3b4dee894"), looks := false }, kinds := [], alts := [], laidByText := true, laidKinds := [.data, .data, .data, .data, .pinned], laidTests := true, laidLooks := .later }
def StatisticsOrderCardSaid : Prop := Claim7.holds Tryz.pinned (.plain (OpenSpec.ofChange statisticsOrderSpec)) statisticsOrderCard

/-- THE TIED CARD OF 'lineagelaw37.StatisticsSelectivity'. -/
def statisticsSelectivityCard : Claim7 := { stood := { row := statisticsSelectivityRow, standIns := [], harness := (true, "bf0c0a4381aaf4fd3c266189531b2c7d7155b8fe72277c5f3dbcc7d3b4dee894"), looks := false }, kinds := [], alts := [], laidByText := true, laidKinds := [.data, .data, .data, .data, .pinned], laidTests := true, laidLooks := .later }
def StatisticsSelectivityCardSaid : Prop := Claim7.holds Tryz.pinned (.plain (OpenSpec.ofChange statisticsSelectivitySpec)) statisticsSelectivityCard

/-- THE TIED CARD OF 'lineagelaw37.StatisticsEstimate'. -/
def statisticsEstimateCard : Claim7 := { stood := { row := statisticsEstimateRow, standIns := [], harness := (true, "bf0c0a4381aaf4fd3c266189531b2c7d7155b8fe72277c5f3dbcc7d3b4dee894"), looks := false }, kinds := [], alts := [], laidByText := true, laidKinds := [.data, .data, .data, .data, .pinned], laidTests := true, laidLooks := .later }
def StatisticsEstimateCardSaid : Prop := Claim7.holds Tryz.pinned (.plain (OpenSpec.ofChange statisticsEstimateSpec)) statisticsEstimateCard

/-- THE TIED CARD OF 'lineagelaw37.StatisticsComplement'. -/
def statisticsComplementCard : Claim7 := { stood := { row := statisticsComplementRow, standIns := [], harness := (true, "bf0c0a4381aaf4fd3c266189531b2c7d7155b8fe72277c5f3dbcc7d3b4dee894"), looks := false }, kinds := [], alts := [], laidByText := true, laidKinds := [.data, .data, .data, .data, .pinned], laidTests := true, laidLooks := .later }
def StatisticsComplementCardSaid : Prop := Claim7.holds Tryz.pinned (.plain (OpenSpec.ofChange statisticsComplementSpec)) statisticsComplementCard

/-- THE TIED CARD OF 'lineagelaw37.StatisticsValidity'. -/
def statisticsValidityCard : Claim7 := { stood := { row := statisticsValidityRow, standIns := [], harness := (true, "bf0c0a4381aaf4fd3c266189531b2c7d7155b8fe72277c5f3dbcc7d3b4dee894"), looks := false }, kinds := [], alts := [], laidByText := true, laidKinds := [.data, .data, .data, .data, .pinned], laidTests := true, laidLooks := .later }
def StatisticsValidityCardSaid : Prop := Claim7.holds Tryz.pinned (.plain (OpenSpec.ofChange statisticsValiditySpec)) statisticsValidityCard

/-- THE TIED CARD OF 'lineagelaw37.StatisticsRanges'. -/
def statisticsRangesCard : Claim7 := { stood := { row := statisticsRangesRow, standIns := [], harness := (true, "bf0c0a4381aaf4fd3c266189531b2c7d7155b8fe72277c5f3dbcc7d3b4dee894"), looks := false }, kinds := [], alts := [], laidByText := true, laidKinds := [.data, .data, .data, .data, .pinned], laidTests := true, laidLooks := .later }
def StatisticsRangesCardSaid : Prop := Claim7.holds Tryz.pinned (.plain (OpenSpec.ofChange statisticsRangesSpec)) statisticsRangesCard

/-- THE SECOND FORM's CARD OF 'lineagelaw37.StatisticsGather'. -/
def statisticsGatherUptoCard : Claim7 := { stood := { row := statisticsGatherUptoRow, standIns := [], harness := (true, "bf0c0a4381aaf4fd3c266189531b2c7d7155b8fe72277c5f3dbcc7d3b4dee894"), looks := false }, kinds := [], alts := [], laidByText := true, laidKinds := [.data, .data, .data, .data, .pinned], laidTests := true, laidLooks := .later }
def StatisticsGatherUptoCardSaid : Prop := Claim7.holds Tryz.pinned (.plain (OpenSpec.upto statisticsGatherSpec)) statisticsGatherUptoCard

/-- THE SECOND FORM's CARD OF 'lineagelaw37.StatisticsOrder'. -/
def statisticsOrderUptoCard : Claim7 := { stood := { row := statisticsOrderUptoRow, standIns := [], harness := (true, "bf0c0a4381aaf4fd3c266189531b2c7d7155b8fe72277c5f3dbcc7d3b4dee894"), looks := false }, kinds := [], alts := [], laidByText := true, laidKinds := [.data, .data, .data, .data, .pinned], laidTests := true, laidLooks := .later }
def StatisticsOrderUptoCardSaid : Prop := Claim7.holds Tryz.pinned (.plain (OpenSpec.upto statisticsOrderSpec)) statisticsOrderUptoCard

/-- THE SECOND FORM's CARD OF 'lineagelaw37.StatisticsSelectivity'. -/
def statisticsSelectivityUptoCard : Claim7 := { stood := { row := statisticsSelectivityUptoRow, standIns := [], harness := (true, "bf0c0a4381aaf4fd3c266189531b2c7d7155b8fe72277c5f3dbcc7d3b4dee894"), looks := false }, kinds := [], alts := [], laidByText := true, laidKinds := [.data, .data, .data, .data, .pinned], laidTests := true, laidLooks := .later }
def StatisticsSelectivityUptoCardSaid : Prop := Claim7.holds Tryz.pinned (.plain (OpenSpec.upto statisticsSelectivitySpec)) statisticsSelectivityUptoCard

/-- THE SECOND FORM's CARD OF 'lineagelaw37.StatisticsEstimate'. -/
def statisticsEstimateUptoCard : Claim7 := { stood := { row := statisticsEstimateUptoRow, standIns := [], harness := (true, "bf0c0a4381aaf4fd3c266189531b2c7d7155b8fe72277c5f3dbcc7d3b4dee894"), looks := false }, kinds := [], alts := [], laidByText := true, laidKinds := [.data, .data, .data, .data, .pinned], laidTests := true, laidLooks := .later }
def StatisticsEstimateUptoCardSaid : Prop := Claim7.holds Tryz.pinned (.plain (OpenSpec.upto statisticsEstimateSpec)) statisticsEstimateUptoCard

/-- THE SECOND FORM's CARD OF 'lineagelaw37.StatisticsComplement'. -/
def statisticsComplementUptoCard : Claim7 := { stood := { row := statisticsComplementUptoRow, standIns := [], harness := (true, "bf0c0a4381aaf4fd3c266189531b2c7d7155b8fe72277c5f3dbcc7d3b4dee894"), looks := false }, kinds := [], alts := [], laidByText := true, laidKinds := [.data, .data, .data, .data, .pinned], laidTests := true, laidLooks := .later }
def StatisticsComplementUptoCardSaid : Prop := Claim7.holds Tryz.pinned (.plain (OpenSpec.upto statisticsComplementSpec)) statisticsComplementUptoCard

/-- THE SECOND FORM's CARD OF 'lineagelaw37.StatisticsValidity'. -/
def statisticsValidityUptoCard : Claim7 := { stood := { row := statisticsValidityUptoRow, standIns := [], harness := (true, "bf0c0a4381aaf4fd3c266189531b2c7d7155b8fe72277c5f3dbcc7d3b4dee894"), looks := false }, kinds := [], alts := [], laidByText := true, laidKinds := [.data, .data, .data, .data, .pinned], laidTests := true, laidLooks := .later }
def StatisticsValidityUptoCardSaid : Prop := Claim7.holds Tryz.pinned (.plain (OpenSpec.upto statisticsValiditySpec)) statisticsValidityUptoCard

/-- THE SECOND FORM's CARD OF 'lineagelaw37.StatisticsRanges'. -/
def statisticsRangesUptoCard : Claim7 := { stood := { row := statisticsRangesUptoRow, standIns := [], harness := (true, "bf0c0a4381aaf4fd3c266189531b2c7d7155b8fe72277c5f3dbcc7d3b4dee894"), looks := false }, kinds := [], alts := [], laidByText := true, laidKinds := [.data, .data, .data, .data, .pinned], laidTests := true, laidLooks := .later }
def StatisticsRangesUptoCardSaid : Prop := Claim7.holds Tryz.pinned (.plain (OpenSpec.upto statisticsRangesSpec)) statisticsRangesUptoCard
end Rows
end Go.Proofs.YtddkaehkimnklaaGreatDoor
