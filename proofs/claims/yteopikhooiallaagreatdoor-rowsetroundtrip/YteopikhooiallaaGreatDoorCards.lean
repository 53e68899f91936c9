/-
  DERIVED. GIVEN WITH THE SEED: THE CARDS: each row of YteopikhooiallaaGreatDoorRows.lean that lists a variable, with what it lists TIED to the program's text (the seventh form; the later family's looks); each row that meets fmt, with fmt's text TOLD by the authors' own Lean function (tested against real Go, not proved from fmt's source: count such statements apart). THE CARD IS WHAT COUNTS. Prove the row's statement (the work); the ties are given (YteopikhooiallaaGreatDoorTie.lean); close each card by the builder's one call (the guide's Derived/Test/ToyasCard.lean, 'card_holds'). Laid BY PROGRAM, IN A SANDBOX (cutbox-door.mjs). By AI agents, Wed Nov 11 2026. No macro, syntax, notation, axiom, sorry.
-/
import Derived.Test.YteopikhooiallaaGreatDoorRows
import GoSem.ClaimSeven
namespace Go.Proofs.YteopikhooiallaaGreatDoor
namespace Rows

/-- THE TIED CARD OF 'lineagelaw02.RowsetFamilies'. -/
def rowsetFamiliesCard : Claim7 := { stood := { row := rowsetFamiliesRow, standIns := [], harness := (true, "c8b8dcb21513a75ab96d048caf3b8c0122b0d45d626b6e575ad7b8bfc63ccc93"), looks := true }, kinds := [], alts := [], laidByText := true, laidKinds := [.data, .data, .data], laidTests := true, laidLooks := .later }
def RowsetFamiliesCardSaid : Prop := Claim7.holds Tryz.pinned (.plain (OpenSpec.ofChange rowsetFamiliesSpec)) rowsetFamiliesCard

/-- THE TIED CARD OF 'lineagelaw02.RowsetText'. -/
def rowsetTextCard : Claim7 := { stood := { row := rowsetTextRow, standIns := [], harness := (true, "c8b8dcb21513a75ab96d048caf3b8c0122b0d45d626b6e575ad7b8bfc63ccc93"), looks := true }, kinds := [], alts := [], laidByText := true, laidKinds := [.data, .data, .data, .sentinel, .sentinel], laidTests := true, laidLooks := .later }
def RowsetTextCardSaid : Prop := Claim7.holds Tryz.pinned (.plain (OpenSpec.ofChange rowsetTextSpec)) rowsetTextCard

/-- THE TIED CARD OF 'lineagelaw02.RowsetRoundTrip'. -/
def rowsetRoundTripCard : Claim7 := { stood := { row := rowsetRoundTripRow, standIns := [], harness := (true, "c8b8dcb21513a75ab96d048caf3b8c0122b0d45d626b6e575ad7b8bfc63ccc93"), looks := true }, kinds := [], alts := [], laidByText := true, laidKinds := [.data, .data, .data, .sentinel, .sentinel], laidTests := true, laidLooks := .later }
def RowsetRoundTripCardSaid : Prop := Claim7.holds Tryz.pinned (.plain (OpenSpec.ofChange rowsetRoundTripSpec)) rowsetRoundTripCard

/-- THE SECOND FORM's CARD OF 'lineagelaw02.RowsetFamilies'. -/
def rowsetFamiliesUptoCard : Claim7 := { stood := { row := rowsetFamiliesUptoRow, standIns := [], harness := (true, "c8b8dcb21513a75ab96d048caf3b8c0122b0d45d626b6e575ad7b8bfc63ccc93"), looks := true }, kinds := [], alts := [], laidByText := true, laidKinds := [.data, .data, .data], laidTests := true, laidLooks := .later }
def RowsetFamiliesUptoCardSaid : Prop := Claim7.holds Tryz.pinned (.plain (OpenSpec.upto rowsetFamiliesSpec)) rowsetFamiliesUptoCard

/-- THE SECOND FORM's CARD OF 'lineagelaw02.RowsetText'. -/
def rowsetTextUptoCard : Claim7 := { stood := { row := rowsetTextUptoRow, standIns := [], harness := (true, "c8b8dcb21513a75ab96d048caf3b8c0122b0d45d626b6e575ad7b8bfc63ccc93"), looks := true }, kinds := [], alts := [], laidByText := true, laidKinds := [.data, .data, .data, .sentinel, .sentinel], laidTests := true, laidLooks := .later }
def RowsetTextUptoCardSaid : Prop := Claim7.holds Tryz.pinned (.plain (OpenSpec.upto rowsetTextSpec)) rowsetTextUptoCard

/-- THE SECOND FORM's CARD OF 'lineagelaw02.RowsetRoundTrip'. -/
def rowsetRoundTripUptoCard : Claim7 := { stood := { row := rowsetRoundTripUptoRow, standIns := [], harness := (true, "c8b8dcb21513a75ab96d048caf3b8c0122b0d45d626b6e575ad7b8bfc63ccc93"), looks := true }, kinds := [], alts := [], laidByText := true, laidKinds := [.data, .data, .data, .sentinel, .sentinel], laidTests := true, laidLooks := .later }
def RowsetRoundTripUptoCardSaid : Prop := Claim7.holds Tryz.pinned (.plain (OpenSpec.upto rowsetRoundTripSpec)) rowsetRoundTripUptoCard
end Rows
end Go.Proofs.YteopikhooiallaaGreatDoor
