/-
  DERIVED. GIVEN WITH THE SEED: THE CARDS: each row of YtddlhljflggenaaGreatDoorRows.lean that lists a variable, with what it lists TIED to the program's text (the seventh form; the later family's looks); each row that meets fmt, with fmt's text TOLD by the authors' own Lean function (tested against real Go, not proved from fmt's source: count such statements apart). THE CARD IS WHAT COUNTS. Prove the row's statement (the work); the ties are given (YtddlhljflggenaaGreatDoorTie.lean); close each card by the builder's one call (the guide's Derived/Test/ToyasCard.lean, 'card_holds'). Laid BY PROGRAM, IN A SANDBOX (cutbox-door.mjs). By AI agents, Wed Nov 11 2026. No macro, syntax, notation, axiom, sorry.
-/
import Derived.Test.YtddlhljflggenaaGreatDoorRows
import GoSem.ClaimSeven
namespace Go.Proofs.YtddlhljflggenaaGreatDoor
namespace Rows

/-- THE TIED CARD OF 'amortcostlaw15.IndexLists'. -/
def indexListsCard : Claim7 := { stood := { row := indexListsRow, standIns := [], harness := (true, "47fb50020ac64b876a24632769c33064fa09b423f5f2b8324b6909ebefbb76f7"), looks := false }, kinds := [], alts := [], laidByText := true, laidKinds := [.data, .data, .data], laidTests := true, laidLooks := .later }
def IndexListsCardSaid : Prop := Claim7.holds Tryz.pinned (.plain (OpenSpec.ofChange indexListsSpec)) indexListsCard

/-- THE TIED CARD OF 'amortcostlaw15.IndexComplete'. -/
def indexCompleteCard : Claim7 := { stood := { row := indexCompleteRow, standIns := [], harness := (true, "47fb50020ac64b876a24632769c33064fa09b423f5f2b8324b6909ebefbb76f7"), looks := false }, kinds := [], alts := [], laidByText := true, laidKinds := [.data, .data, .data], laidTests := true, laidLooks := .later }
def IndexCompleteCardSaid : Prop := Claim7.holds Tryz.pinned (.plain (OpenSpec.ofChange indexCompleteSpec)) indexCompleteCard

/-- THE TIED CARD OF 'amortcostlaw15.IndexUnits'. -/
def indexUnitsCard : Claim7 := { stood := { row := indexUnitsRow, standIns := [], harness := (true, "47fb50020ac64b876a24632769c33064fa09b423f5f2b8324b6909ebefbb76f7"), looks := false }, kinds := [], alts := [], laidByText := true, laidKinds := [.data, .data, .data], laidTests := true, laidLooks := .later }
def IndexUnitsCardSaid : Prop := Claim7.holds Tryz.pinned (.plain (OpenSpec.ofChange indexUnitsSpec)) indexUnitsCard

/-- THE SECOND FORM's CARD OF 'amortcostlaw15.IndexLists'. -/
def indexListsUptoCard : Claim7 := { stood := { row := indexListsUptoRow, standIns := [], harness := (true, "47fb50020ac64b876a24632769c33064fa09b423f5f2b8324b6909ebefbb76f7"), looks := false }, kinds := [], alts := [], laidByText := true, laidKinds := [.data, .data, .data], laidTests := true, laidLooks := .later }
def IndexListsUptoCardSaid : Prop := Claim7.holds Tryz.pinned (.plain (OpenSpec.upto indexListsSpec)) indexListsUptoCard

/-- THE SECOND FORM's CARD OF 'amortcostlaw15.IndexComplete'. -/
def indexCompleteUptoCard : Claim7 := { stood := { row := indexCompleteUptoRow, standIns := [], harness := (true, "47fb50020ac64b876a24632769c33064fa09b423f5f2b8324b6909ebefbb76f7"), looks := false }, kinds := [], alts := [], laidByText := true, laidKinds := [.data, .data, .data], laidTests := true, laidLooks := .later }
def IndexCompleteUptoCardSaid : Prop := Claim7.holds Tryz.pinned (.plain (OpenSpec.upto indexCompleteSpec)) indexCompleteUptoCard

/-- THE SECOND FORM's CARD OF 'amortcostlaw15.IndexUnits'. -/
def indexUnitsUptoCard : Claim7 := { stood := { row := indexUnitsUptoRow, standIns := [], harness := (true, "47fb50020ac64b876a24632769c33064fa09b423f5f2b8324b6909ebefbb76f7"), looks := false }, kinds := [], alts := [], laidByText := true, laidKinds := [.data, .data, .data], laidTests := true, laidLooks := .later }
def IndexUnitsUptoCardSaid : Prop := Claim7.holds Tryz.pinned (.plain (OpenSpec.upto indexUnitsSpec)) indexUnitsUptoCard
end Rows
end Go.Proofs.YtddlhljflggenaaGreatDoor
