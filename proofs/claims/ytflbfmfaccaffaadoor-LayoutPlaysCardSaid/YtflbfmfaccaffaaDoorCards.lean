/-
  DERIVED. GIVEN WITH THE SEED: THE CARDS: each row of YtflbfmfaccaffaaDoorRows.lean that lists a variable, with what it lists TIED to the program's text (the seventh form; the later family's looks); each row that meets fmt, with fmt's text TOLD by the authors' own Lean function (tested against real Go, not proved from fmt's source: count such statements apart). THE CARD IS WHAT COUNTS. Prove the row's statement (the work); the ties are given (YtflbfmfaccaffaaDoorTie.lean); close each card by the builder's one call (the guide's Derived/Test/ToyasCard.lean, 'card_holds'). Laid BY PROGRAM, IN A SANDBOX (cutbox-door.mjs). By AI agents, Wed Nov 11 2026. No macro, syntax, notation, axiom, sorry.
-/
import Derived.Test.YtflbfmfaccaffaaDoorRows
import GoSem.ClaimSeven
namespace Go.Proofs.YtflbfmfaccaffaaDoor
namespace Rows

/-- THE TIED CARD OF 'portholelaw22.LayoutGrows'. -/
def layoutGrowsCard : Claim7 := { stood := { row := layoutGrowsRow, standIns := [], harness := (true, "efeca9dd3247a781c4ccf2e4c7c05227456b0d32d396abedf19e2857caf37545"), looks := false }, kinds := [], alts := [], laidByText := true, laidKinds := [.data, .data, .data], laidTests := true, laidLooks := .later }
def LayoutGrowsCardSaid : Prop := Claim7.holds Tryd.pinned (.plain (OpenSpec.ofChange layoutGrowsSpec)) layoutGrowsCard

/-- THE TIED CARD OF 'portholelaw22.LayoutBack'. -/
def layoutBackCard : Claim7 := { stood := { row := layoutBackRow, standIns := [], harness := (true, "efeca9dd3247a781c4ccf2e4c7c05227456b0d32d396abedf19e2857caf37545"), looks := false }, kinds := [], alts := [], laidByText := true, laidKinds := [.data, .data, .data], laidTests := true, laidLooks := .later }
def LayoutBackCardSaid : Prop := Claim7.holds Tryd.pinned (.plain (OpenSpec.ofChange layoutBackSpec)) layoutBackCard

/-- THE TIED CARD OF 'portholelaw22.LayoutPanes'. -/
def layoutPanesCard : Claim7 := { stood := { row := layoutPanesRow, standIns := [], harness := (true, "efeca9dd3247a781c4ccf2e4c7c05227456b0d32d396abedf19e2857caf37545"), looks := false }, kinds := [], alts := [], laidByText := true, laidKinds := [.data, .data, .data], laidTests := true, laidLooks := .later }
def LayoutPanesCardSaid : Prop := Claim7.holds Tryd.pinned (.plain (OpenSpec.ofChange layoutPanesSpec)) layoutPanesCard

/-- THE TIED CARD OF 'portholelaw22.LayoutTiles'. -/
def layoutTilesCard : Claim7 := { stood := { row := layoutTilesRow, standIns := [], harness := (true, "efeca9dd3247a781c4ccf2e4c7c05227456b0d32d396abedf19e2857caf37545"), looks := false }, kinds := [], alts := [], laidByText := true, laidKinds := [.data, .data, .data], laidTests := true, laidLooks := .later }
def LayoutTilesCardSaid : Prop := Claim7.holds Tryd.pinned (.plain (OpenSpec.ofChange layoutTilesSpec)) layoutTilesCard

/-- THE TIED CARD OF 'portholelaw22.LayoutKnown'. -/
def layoutKnownCard : Claim7 := { stood := { row := layoutKnownRow, standIns := [], harness := (true, "efeca9dd3247a781c4ccf2e4c7c05227456b0d32d396abedf19e2857caf37545"), looks := false }, kinds := [], alts := [], laidByText := true, laidKinds := [.data, .data, .data], laidTests := true, laidLooks := .later }
def LayoutKnownCardSaid : Prop := Claim7.holds Tryd.pinned (.plain (OpenSpec.ofChange layoutKnownSpec)) layoutKnownCard

/-- THE TIED CARD OF 'portholelaw22.LayoutPlays'. -/
def layoutPlaysCard : Claim7 := { stood := { row := layoutPlaysRow, standIns := [], harness := (true, "efeca9dd3247a781c4ccf2e4c7c05227456b0d32d396abedf19e2857caf37545"), looks := false }, kinds := [], alts := [], laidByText := true, laidKinds := [.data, .data, .data], laidTests := true, laidLooks := .later }
def LayoutPlaysCardSaid : Prop := Claim7.holds Tryd.pinned (.plain (OpenSpec.ofChange layoutPlaysSpec)) layoutPlaysCard

/-- THE SECOND FORM's CARD OF 'portholelaw22.LayoutGrows'. -/
def layoutGrowsUptoCard : Claim7 := { stood := { row := layoutGrowsUptoRow, standIns := [], harness := (true, "efeca9dd3247a781c4ccf2e4c7c05227456b0d32d396abedf19e2857caf37545"), looks := false }, kinds := [], alts := [], laidByText := true, laidKinds := [.data, .data, .data], laidTests := true, laidLooks := .later }
def LayoutGrowsUptoCardSaid : Prop := Claim7.holds Tryd.pinned (.plain (OpenSpec.upto layoutGrowsSpec)) layoutGrowsUptoCard

/-- THE SECOND FORM's CARD OF 'portholelaw22.LayoutBack'. -/
def layoutBackUptoCard : Claim7 := { stood := { row := layoutBackUptoRow, standIns := [], harness := (true, "efeca9dd3247a781c4ccf2e4c7c05227456b0d32d396abedf19e2857caf37545"), looks := false }, kinds := [], alts := [], laidByText := true, laidKinds := [.data, .data, .data], laidTests := true, laidLooks := .later }
def LayoutBackUptoCardSaid : Prop := Claim7.holds Tryd.pinned (.plain (OpenSpec.upto layoutBackSpec)) layoutBackUptoCard

/-- THE SECOND FORM's CARD OF 'portholelaw22.LayoutPanes'. -/
def layoutPanesUptoCard : Claim7 := { stood := { row := layoutPanesUptoRow, standIns := [], harness := (true, "efeca9dd3247a781c4ccf2e4c7c05227456b0d32d396abedf19e2857caf37545"), looks := false }, kinds := [], alts := [], laidByText := true, laidKinds := [.data, .data, .data], laidTests := true, laidLooks := .later }
def LayoutPanesUptoCardSaid : Prop := Claim7.holds Tryd.pinned (.plain (OpenSpec.upto layoutPanesSpec)) layoutPanesUptoCard

/-- THE SECOND FORM's CARD OF 'portholelaw22.LayoutTiles'. -/
def layoutTilesUptoCard : Claim7 := { stood := { row := layoutTilesUptoRow, standIns := [], harness := (true, "efeca9dd3247a781c4ccf2e4c7c05227456b0d32d396abedf19e2857caf37545"), looks := false }, kinds := [], alts := [], laidByText := true, laidKinds := [.data, .data, .data], laidTests := true, laidLooks := .later }
def LayoutTilesUptoCardSaid : Prop := Claim7.holds Tryd.pinned (.plain (OpenSpec.upto layoutTilesSpec)) layoutTilesUptoCard

/-- THE SECOND FORM's CARD OF 'portholelaw22.LayoutKnown'. -/
def layoutKnownUptoCard : Claim7 := { stood := { row := layoutKnownUptoRow, standIns := [], harness := (true, "efeca9dd3247a781c4ccf2e4c7c05227456b0d32d396abedf19e2857caf37545"), looks := false }, kinds := [], alts := [], laidByText := true, laidKinds := [.data, .data, .data], laidTests := true, laidLooks := .later }
def LayoutKnownUptoCardSaid : Prop := Claim7.holds Tryd.pinned (.plain (OpenSpec.upto layoutKnownSpec)) layoutKnownUptoCard

/-- THE SECOND FORM's CARD OF 'portholelaw22.LayoutPlays'. -/
def layoutPlaysUptoCard : Claim7 := { stood := { row := layoutPlaysUptoRow, standIns := [], harness := (true, "efeca9dd3247a781c4ccf2e4c7c05227456b0d32d396abedf19e2857caf37545"), looks := false }, kinds := [], alts := [], laidByText := true, laidKinds := [.data, .data, .data], laidTests := true, laidLooks := .later }
def LayoutPlaysUptoCardSaid : Prop := Claim7.holds Tryd.pinned (.plain (OpenSpec.upto layoutPlaysSpec)) layoutPlaysUptoCard
end Rows
end Go.Proofs.YtflbfmfaccaffaaDoor
