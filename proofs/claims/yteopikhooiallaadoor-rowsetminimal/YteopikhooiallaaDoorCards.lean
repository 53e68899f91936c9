/-
  DERIVED. GIVEN WITH THE SEED: THE CARDS: each row of YteopikhooiallaaDoorRows.lean that lists a variable, with what it lists TIED to the program's text (the seventh form; the later family's looks); each row that meets fmt, with fmt's text TOLD by the authors' own Lean function (tested against real Go, not proved from fmt's source: count such statements apart). THE CARD IS WHAT COUNTS. Prove the row's statement (the work); the ties are given (YteopikhooiallaaDoorTie.lean); close each card by the builder's one call (the guide's Derived/Test/ToyasCard.lean, 'card_holds'). Laid BY PROGRAM, IN A SANDBOX (cutbox-door.mjs). By AI agents, Wed Nov 11 2026. No macro, syntax, notation, axiom, sorry.
-/
import Derived.Test.YteopikhooiallaaDoorRows
import GoSem.ClaimSeven
namespace Go.Proofs.YteopikhooiallaaDoor
namespace Rows

/-- THE TIED CARD OF 'lineagelaw02.RowsetOrder'. -/
def rowsetOrderCard : Claim7 := { stood := { row := rowsetOrderRow, standIns := [], harness := (true, "a649b3460f3ae812cd850f15a3f36ddb5b3c7ed771d4bca4ad86c3de1a0cfaac"), looks := false }, kinds := [], alts := [], laidByText := true, laidKinds := [.data, .data, .data], laidTests := true, laidLooks := .later }
def RowsetOrderCardSaid : Prop := Claim7.holds Tryd.pinned (.plain (OpenSpec.ofChange rowsetOrderSpec)) rowsetOrderCard

/-- THE TIED CARD OF 'lineagelaw02.RowsetMinimal'. -/
def rowsetMinimalCard : Claim7 := { stood := { row := rowsetMinimalRow, standIns := [], harness := (true, "a649b3460f3ae812cd850f15a3f36ddb5b3c7ed771d4bca4ad86c3de1a0cfaac"), looks := false }, kinds := [], alts := [], laidByText := true, laidKinds := [.data, .data, .data], laidTests := true, laidLooks := .later }
def RowsetMinimalCardSaid : Prop := Claim7.holds Tryd.pinned (.plain (OpenSpec.ofChange rowsetMinimalSpec)) rowsetMinimalCard

/-- THE TIED CARD OF 'lineagelaw02.RowsetSets'. -/
def rowsetSetsCard : Claim7 := { stood := { row := rowsetSetsRow, standIns := [], harness := (true, "a649b3460f3ae812cd850f15a3f36ddb5b3c7ed771d4bca4ad86c3de1a0cfaac"), looks := false }, kinds := [], alts := [], laidByText := true, laidKinds := [.data, .data, .data], laidTests := true, laidLooks := .later }
def RowsetSetsCardSaid : Prop := Claim7.holds Tryd.pinned (.plain (OpenSpec.ofChange rowsetSetsSpec)) rowsetSetsCard

/-- THE TIED CARD OF 'lineagelaw02.RowsetAlgebra'. -/
def rowsetAlgebraCard : Claim7 := { stood := { row := rowsetAlgebraRow, standIns := [], harness := (true, "a649b3460f3ae812cd850f15a3f36ddb5b3c7ed771d4bca4ad86c3de1a0cfaac"), looks := false }, kinds := [], alts := [], laidByText := true, laidKinds := [.data, .data, .data], laidTests := true, laidLooks := .later }
def RowsetAlgebraCardSaid : Prop := Claim7.holds Tryd.pinned (.plain (OpenSpec.ofChange rowsetAlgebraSpec)) rowsetAlgebraCard

/-- THE TIED CARD OF 'lineagelaw02.RowsetProduct'. -/
def rowsetProductCard : Claim7 := { stood := { row := rowsetProductRow, standIns := [], harness := (true, "a649b3460f3ae812cd850f15a3f36ddb5b3c7ed771d4bca4ad86c3de1a0cfaac"), looks := false }, kinds := [], alts := [], laidByText := true, laidKinds := [.data, .data, .data], laidTests := true, laidLooks := .later }
def RowsetProductCardSaid : Prop := Claim7.holds Tryd.pinned (.plain (OpenSpec.ofChange rowsetProductSpec)) rowsetProductCard

/-- THE SECOND FORM's CARD OF 'lineagelaw02.RowsetOrder'. -/
def rowsetOrderUptoCard : Claim7 := { stood := { row := rowsetOrderUptoRow, standIns := [], harness := (true, "a649b3460f3ae812cd850f15a3f36ddb5b3c7ed771d4bca4ad86c3de1a0cfaac"), looks := false }, kinds := [], alts := [], laidByText := true, laidKinds := [.data, .data, .data], laidTests := true, laidLooks := .later }
def RowsetOrderUptoCardSaid : Prop := Claim7.holds Tryd.pinned (.plain (OpenSpec.upto rowsetOrderSpec)) rowsetOrderUptoCard

/-- THE SECOND FORM's CARD OF 'lineagelaw02.RowsetMinimal'. -/
def rowsetMinimalUptoCard : Claim7 := { stood := { row := rowsetMinimalUptoRow, standIns := [], harness := (true, "a649b3460f3ae812cd850f15a3f36ddb5b3c7ed771d4bca4ad86c3de1a0cfaac"), looks := false }, kinds := [], alts := [], laidByText := true, laidKinds := [.data, .data, .data], laidTests := true, laidLooks := .later }
def RowsetMinimalUptoCardSaid : Prop := Claim7.holds Tryd.pinned (.plain (OpenSpec.upto rowsetMinimalSpec)) rowsetMinimalUptoCard

/-- THE SECOND FORM's CARD OF 'lineagelaw02.RowsetSets'. -/
def rowsetSetsUptoCard : Claim7 := { stood := { row := rowsetSetsUptoRow, standIns := [], harness := (true, "a649b3460f3ae812cd850f15a3f36ddb5b3c7ed771d4bca4ad86c3de1a0cfaac"), looks := false }, kinds := [], alts := [], laidByText := true, laidKinds := [.data, .data, .data], laidTests := true, laidLooks := .later }
def RowsetSetsUptoCardSaid : Prop := Claim7.holds Tryd.pinned (.plain (OpenSpec.upto rowsetSetsSpec)) rowsetSetsUptoCard

/-- THE SECOND FORM's CARD OF 'lineagelaw02.RowsetAlgebra'. -/
def rowsetAlgebraUptoCard : Claim7 := { stood := { row := rowsetAlgebraUptoRow, standIns := [], harness := (true, "a649b3460f3ae812cd850f15a3f36ddb5b3c7ed771d4bca4ad86c3de1a0cfaac"), looks := false }, kinds := [], alts := [], laidByText := true, laidKinds := [.data, .data, .data], laidTests := true, laidLooks := .later }
def RowsetAlgebraUptoCardSaid : Prop := Claim7.holds Tryd.pinned (.plain (OpenSpec.upto rowsetAlgebraSpec)) rowsetAlgebraUptoCard

/-- THE SECOND FORM's CARD OF 'lineagelaw02.RowsetProduct'. -/
def rowsetProductUptoCard : Claim7 := { stood := { row := rowsetProductUptoRow, standIns := [], harness := (true, "a649b3460f3ae812cd850f15a3f36ddb5b3c7ed771d4bca4ad86c3de1a0cfaac"), looks := false }, kinds := [], alts := [], laidByText := true, laidKinds := [.data, .data, .data], laidTests := true, laidLooks := .later }
def RowsetProductUptoCardSaid : Prop := Claim7.holds Tryd.pinned (.plain (OpenSpec.upto rowsetProductSpec)) rowsetProductUptoCard
end Rows
end Go.Proofs.YteopikhooiallaaDoor
