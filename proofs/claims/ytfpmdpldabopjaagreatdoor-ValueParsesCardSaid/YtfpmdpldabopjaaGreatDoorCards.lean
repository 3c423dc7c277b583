/-
  DERIVED. GIVEN WITH THE SEED: THE CARDS: each row of YtfpmdpldabopjaaGreatDoorRows.lean that lists a variable, with what it lists TIED to the program's text (the seventh form; the later family's looks); each row that meets fmt, with fmt's text TOLD by the authors' own Lean function (tested against real Go, not proved from fmt's source: count such statements apart). THE CARD IS WHAT COUNTS. Prove the row's statement (the work); the ties are given (YtfpmdpldabopjaaGreatDoorTie.lean); close each card by the builder's one call (the guide's Derived/Test/ToyasCard.lean, 'card_holds'). Laid BY PROGRAM, IN A SANDBOX (cutbox-door.mjs). By AI agents, Wed Nov 11 2026. No macro, syntax, notation, axiom, sorry.
-/
import Derived.Test.YtfpmdpldabopjaaGreatDoorRows
import GoSem.ClaimSeven
namespace Go.Proofs.YtfpmdpldabopjaaGreatDoor
namespace Rows

/-- THE TIED CARD OF 'amortcostlaw10.ValueTypes'. -/
def valueTypesCard : Claim7 := { stood := { row := valueTypesRow, standIns := [], harness := (true, "008496c57e22ecb7dacca3f4dc05a980230e68cd2e5fbaadf8ead550cc111ad9"), looks := true }, kinds := [], alts := [], laidByText := true, laidKinds := [.data, .data, .data], laidTests := true, laidLooks := .later }
def ValueTypesCardSaid : Prop := Claim7.holds Tryz.pinned (.plain (OpenSpec.ofChange valueTypesSpec)) valueTypesCard

/-- THE TIED CARD OF 'amortcostlaw10.ValueFormats'. -/
def valueFormatsCard : Claim7 := { stood := { row := valueFormatsRow, standIns := [], harness := (true, "008496c57e22ecb7dacca3f4dc05a980230e68cd2e5fbaadf8ead550cc111ad9"), looks := true }, kinds := [], alts := [], laidByText := true, laidKinds := [.data, .data, .data], laidTests := true, laidLooks := .later }
def ValueFormatsCardSaid : Prop := Claim7.holds Tryz.pinned (.plain (OpenSpec.ofChange valueFormatsSpec)) valueFormatsCard

/-- THE TIED CARD OF 'amortcostlaw15.IndexDegrees'. -/
def indexDegreesCard : Claim7 := { stood := { row := indexDegreesRow, standIns := [], harness := (true, "008496c57e22ecb7dacca3f4dc05a980230e68cd2e5fbaadf8ead550cc111ad9"), looks := true }, kinds := [], alts := [], laidByText := true, laidKinds := [.data, .data, .data], laidTests := true, laidLooks := .later }
def IndexDegreesCardSaid : Prop := Claim7.holds Tryz.pinned (.plain (OpenSpec.ofChange indexDegreesSpec)) indexDegreesCard

/-- THE TIED CARD OF 'amortcostlaw15.IndexFormats'. -/
def indexFormatsCard : Claim7 := { stood := { row := indexFormatsRow, standIns := [], harness := (true, "008496c57e22ecb7dacca3f4dc05a980230e68cd2e5fbaadf8ead550cc111ad9"), looks := true }, kinds := [], alts := [], laidByText := true, laidKinds := [.data, .data, .data], laidTests := true, laidLooks := .later }
def IndexFormatsCardSaid : Prop := Claim7.holds Tryz.pinned (.plain (OpenSpec.ofChange indexFormatsSpec)) indexFormatsCard

/-- THE TIED CARD OF 'amortcostlaw10.ValueNodes'. -/
def valueNodesCard : Claim7 := { stood := { row := valueNodesRow, standIns := [], harness := (true, "008496c57e22ecb7dacca3f4dc05a980230e68cd2e5fbaadf8ead550cc111ad9"), looks := true }, kinds := [], alts := [], laidByText := true, laidKinds := [.data, .data, .data], laidTests := true, laidLooks := .later }
def ValueNodesCardSaid : Prop := Claim7.holds Tryz.pinned (.plain (OpenSpec.ofChange valueNodesSpec)) valueNodesCard

/-- THE TIED CARD OF 'amortcostlaw15.IndexParses'. -/
def indexParsesCard : Claim7 := { stood := { row := indexParsesRow, standIns := [], harness := (true, "008496c57e22ecb7dacca3f4dc05a980230e68cd2e5fbaadf8ead550cc111ad9"), looks := true }, kinds := [], alts := [], laidByText := true, laidKinds := [.data, .data, .data, .sentinel, .sentinel], laidTests := true, laidLooks := .later }
def IndexParsesCardSaid : Prop := Claim7.holds Tryz.pinned (.plain (OpenSpec.ofChange indexParsesSpec)) indexParsesCard

/-- THE TIED CARD OF 'amortcostlaw15.IndexBack'. -/
def indexBackCard : Claim7 := { stood := { row := indexBackRow, standIns := [], harness := (true, "008496c57e22ecb7dacca3f4dc05a980230e68cd2e5fbaadf8ead550cc111ad9"), looks := true }, kinds := [], alts := [], laidByText := true, laidKinds := [.data, .data, .data, .sentinel, .sentinel], laidTests := true, laidLooks := .later }
def IndexBackCardSaid : Prop := Claim7.holds Tryz.pinned (.plain (OpenSpec.ofChange indexBackSpec)) indexBackCard

/-- THE TIED CARD OF 'amortcostlaw10.ValueParses'. -/
def valueParsesCard : Claim7 := { stood := { row := valueParsesRow, standIns := [], harness := (true, "008496c57e22ecb7dacca3f4dc05a980230e68cd2e5fbaadf8ead550cc111ad9"), looks := true }, kinds := [], alts := [], laidByText := true, laidKinds := [.data, .data, .data, .sentinel, .sentinel], laidTests := true, laidLooks := .later }
def ValueParsesCardSaid : Prop := Claim7.holds Tryz.pinned (.plain (OpenSpec.ofChange valueParsesSpec)) valueParsesCard

/-- THE TIED CARD OF 'amortcostlaw10.ValueBack'. -/
def valueBackCard : Claim7 := { stood := { row := valueBackRow, standIns := [], harness := (true, "008496c57e22ecb7dacca3f4dc05a980230e68cd2e5fbaadf8ead550cc111ad9"), looks := true }, kinds := [], alts := [], laidByText := true, laidKinds := [.data, .data, .data, .sentinel, .sentinel], laidTests := true, laidLooks := .later }
def ValueBackCardSaid : Prop := Claim7.holds Tryz.pinned (.plain (OpenSpec.ofChange valueBackSpec)) valueBackCard

/-- THE TIED CARD OF 'amortcostlaw15.IndexLists'. -/
def indexListsCard : Claim7 := { stood := { row := indexListsRow, standIns := [], harness := (true, "008496c57e22ecb7dacca3f4dc05a980230e68cd2e5fbaadf8ead550cc111ad9"), looks := true }, kinds := [], alts := [], laidByText := true, laidKinds := [.data, .data, .data], laidTests := true, laidLooks := .later }
def IndexListsCardSaid : Prop := Claim7.holds Tryz.pinned (.plain (OpenSpec.ofChange indexListsSpec)) indexListsCard

/-- THE TIED CARD OF 'amortcostlaw15.IndexComplete'. -/
def indexCompleteCard : Claim7 := { stood := { row := indexCompleteRow, standIns := [], harness := (true, "008496c57e22ecb7dacca3f4dc05a980230e68cd2e5fbaadf8ead550cc111ad9"), looks := true }, kinds := [], alts := [], laidByText := true, laidKinds := [.data, .data, .data], laidTests := true, laidLooks := .later }
def IndexCompleteCardSaid : Prop := Claim7.holds Tryz.pinned (.plain (OpenSpec.ofChange indexCompleteSpec)) indexCompleteCard

/-- THE TIED CARD OF 'amortcostlaw15.IndexUnits'. -/
def indexUnitsCard : Claim7 := { stood := { row := indexUnitsRow, standIns := [], harness := (true, "008496c57e22ecb7dacca3f4dc05a980230e68cd2e5fbaadf8ead550cc111ad9"), looks := true }, kinds := [], alts := [], laidByText := true, laidKinds := [.data, .data, .data], laidTests := true, laidLooks := .later }
def IndexUnitsCardSaid : Prop := Claim7.holds Tryz.pinned (.plain (OpenSpec.ofChange indexUnitsSpec)) indexUnitsCard

/-- THE SECOND FORM's CARD OF 'amortcostlaw10.ValueTypes'. -/
def valueTypesUptoCard : Claim7 := { stood := { row := valueTypesUptoRow, standIns := [], harness := (true, "008496c57e22ecb7dacca3f4dc05a980230e68cd2e5fbaadf8ead550cc111ad9"), looks := true }, kinds := [], alts := [], laidByText := true, laidKinds := [.data, .data, .data], laidTests := true, laidLooks := .later }
def ValueTypesUptoCardSaid : Prop := Claim7.holds Tryz.pinned (.plain (OpenSpec.upto valueTypesSpec)) valueTypesUptoCard

/-- THE SECOND FORM's CARD OF 'amortcostlaw10.ValueFormats'. -/
def valueFormatsUptoCard : Claim7 := { stood := { row := valueFormatsUptoRow, standIns := [], harness := (true, "008496c57e22ecb7dacca3f4dc05a980230e68cd2e5fbaadf8ead550cc111ad9"), looks := true }, kinds := [], alts := [], laidByText := true, laidKinds := [.data, .data, .data], laidTests := true, laidLooks := .later }
def ValueFormatsUptoCardSaid : Prop := Claim7.holds Tryz.pinned (.plain (OpenSpec.upto valueFormatsSpec)) valueFormatsUptoCard

/-- THE SECOND FORM's CARD OF 'amortcostlaw15.IndexDegrees'. -/
def indexDegreesUptoCard : Claim7 := { stood := { row := indexDegreesUptoRow, standIns := [], harness := (true, "008496c57e22ecb7dacca3f4dc05a980230e68cd2e5fbaadf8ead550cc111ad9"), looks := true }, kinds := [], alts := [], laidByText := true, laidKinds := [.data, .data, .data], laidTests := true, laidLooks := .later }
def IndexDegreesUptoCardSaid : Prop := Claim7.holds Tryz.pinned (.plain (OpenSpec.upto indexDegreesSpec)) indexDegreesUptoCard

/-- THE SECOND FORM's CARD OF 'amortcostlaw15.IndexFormats'. -/
def indexFormatsUptoCard : Claim7 := { stood := { row := indexFormatsUptoRow, standIns := [], harness := (true, "008496c57e22ecb7dacca3f4dc05a980230e68cd2e5fbaadf8ead550cc111ad9"), looks := true }, kinds := [], alts := [], laidByText := true, laidKinds := [.data, .data, .data], laidTests := true, laidLooks := .later }
def IndexFormatsUptoCardSaid : Prop := Claim7.holds Tryz.pinned (.plain (OpenSpec.upto indexFormatsSpec)) indexFormatsUptoCard

/-- THE SECOND FORM's CARD OF 'amortcostlaw10.ValueNodes'. -/
def valueNodesUptoCard : Claim7 := { stood := { row := valueNodesUptoRow, standIns := [], harness := (true, "008496c57e22ecb7dacca3f4dc05a980230e68cd2e5fbaadf8ead550cc111ad9"), looks := true }, kinds := [], alts := [], laidByText := true, laidKinds := [.data, .data, .data], laidTests := true, laidLooks := .later }
def ValueNodesUptoCardSaid : Prop := Claim7.holds Tryz.pinned (.plain (OpenSpec.upto valueNodesSpec)) valueNodesUptoCard

/-- THE SECOND FORM's CARD OF 'amortcostlaw15.IndexParses'. -/
def indexParsesUptoCard : Claim7 := { stood := { row := indexParsesUptoRow, standIns := [], harness := (true, "008496c57e22ecb7dacca3f4dc05a980230e68cd2e5fbaadf8ead550cc111ad9"), looks := true }, kinds := [], alts := [], laidByText := true, laidKinds := [.data, .data, .data, .sentinel, .sentinel], laidTests := true, laidLooks := .later }
def IndexParsesUptoCardSaid : Prop := Claim7.holds Tryz.pinned (.plain (OpenSpec.upto indexParsesSpec)) indexParsesUptoCard

/-- THE SECOND FORM's CARD OF 'amortcostlaw15.IndexBack'. -/
def indexBackUptoCard : Claim7 := { stood := { row := indexBackUptoRow, standIns := [], harness := (true, "008496c57e22ecb7dacca3f4dc05a980230e68cd2e5fbaadf8ead550cc111ad9"), looks := true }, kinds := [], alts := [], laidByText := true, laidKinds := [.data, .data, .data, .sentinel, .sentinel], laidTests := true, laidLooks := .later }
def IndexBackUptoCardSaid : Prop := Claim7.holds Tryz.pinned (.plain (OpenSpec.upto indexBackSpec)) indexBackUptoCard

/-- THE SECOND FORM's CARD OF 'amortcostlaw10.ValueParses'. -/
def valueParsesUptoCard : Claim7 := { stood := { row := valueParsesUptoRow, standIns := [], harness := (true, "008496c57e22ecb7dacca3f4dc05a980230e68cd2e5fbaadf8ead550cc111ad9"), looks := true }, kinds := [], alts := [], laidByText := true, laidKinds := [.data, .data, .data, .sentinel, .sentinel], laidTests := true, laidLooks := .later }
def ValueParsesUptoCardSaid : Prop := Claim7.holds Tryz.pinned (.plain (OpenSpec.upto valueParsesSpec)) valueParsesUptoCard

/-- THE SECOND FORM's CARD OF 'amortcostlaw10.ValueBack'. -/
def valueBackUptoCard : Claim7 := { stood := { row := valueBackUptoRow, standIns := [], harness := (true, "008496c57e22ecb7dacca3f4dc05a980230e68cd2e5fbaadf8ead550cc111ad9"), looks := true }, kinds := [], alts := [], laidByText := true, laidKinds := [.data, .data, .data, .sentinel, .sentinel], laidTests := true, laidLooks := .later }
def ValueBackUptoCardSaid : Prop := Claim7.holds Tryz.pinned (.plain (OpenSpec.upto valueBackSpec)) valueBackUptoCard

/-- THE SECOND FORM's CARD OF 'amortcostlaw15.IndexLists'. -/
def indexListsUptoCard : Claim7 := { stood := { row := indexListsUptoRow, standIns := [], harness := (true, "008496c57e22ecb7dacca3f4dc05a980230e68cd2e5fbaadf8ead550cc111ad9"), looks := true }, kinds := [], alts := [], laidByText := true, laidKinds := [.data, .data, .data], laidTests := true, laidLooks := .later }
def IndexListsUptoCardSaid : Prop := Claim7.holds Tryz.pinned (.plain (OpenSpec.upto indexListsSpec)) indexListsUptoCard

/-- THE SECOND FORM's CARD OF 'amortcostlaw15.IndexComplete'. -/
def indexCompleteUptoCard : Claim7 := { stood := { row := indexCompleteUptoRow, standIns := [], harness := (true, "008496c57e22ecb7dacca3f4dc05a980230e68cd2e5fbaadf8ead550cc111ad9"), looks := true }, kinds := [], alts := [], laidByText := true, laidKinds := [.data, .data, .data], laidTests := true, laidLooks := .later }
def IndexCompleteUptoCardSaid : Prop := Claim7.holds Tryz.pinned (.plain (OpenSpec.upto indexCompleteSpec)) indexCompleteUptoCard

/-- THE SECOND FORM's CARD OF 'amortcostlaw15.IndexUnits'. -/
def indexUnitsUptoCard : Claim7 := { stood := { row := indexUnitsUptoRow, standIns := [], harness := (true, "008496c57e22ecb7dacca3f4dc05a980230e68cd2e5fbaadf8ead550cc111ad9"), looks := true }, kinds := [], alts := [], laidByText := true, laidKinds := [.data, .data, .data], laidTests := true, laidLooks := .later }
def IndexUnitsUptoCardSaid : Prop := Claim7.holds Tryz.pinned (.plain (OpenSpec.upto indexUnitsSpec)) indexUnitsUptoCard
end Rows
end Go.Proofs.YtfpmdpldabopjaaGreatDoor
