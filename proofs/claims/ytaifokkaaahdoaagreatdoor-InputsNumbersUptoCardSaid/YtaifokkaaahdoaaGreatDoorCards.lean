/-
  DERIVED. GIVEN WITH THE SEED: THE CARDS: each row of YtaifokkaaahdoaaGreatDoorRows.lean that lists a variable, with what it lists TIED to the program's text (the seventh form; the later family's looks); each row that meets fmt, with fmt's text TOLD by the authors' own Lean function (tested against real Go, not proved from fmt's source: count such statements apart). THE CARD IS WHAT COUNTS. Prove the row's statement (the work); the ties are given (YtaifokkaaahdoaaGreatDoorTie.lean); close each card by the builder's one call (the guide's Derived/Test/ToyasCard.lean, 'card_holds'). Laid BY PROGRAM, IN A SANDBOX (cutbox-door.mjs). By AI agents, Wed Nov 11 2026. No macro, syntax, notation, axiom, sorry.
-/
import Derived.Test.YtaifokkaaahdoaaGreatDoorRows
import GoSem.ClaimSeven
namespace Go.Proofs.YtaifokkaaahdoaaGreatDoor
namespace Rows

/-- THE TIED CARD OF 'amortcostlaw38.InputsComplete'. -/
def inputsCompleteCard : Claim7 := { stood := { row := inputsCompleteRow, standIns := [], harness := (true, "347c80740dd8011cfe943110dba5dfe19915668accba1cb45e7e5bd119e23ac4"), looks := false }, kinds := [], alts := [], laidByText := true, laidKinds := [.data, .data, .data], laidTests := true, laidLooks := .later }
def InputsCompleteCardSaid : Prop := Claim7.holds Tryz.pinned (.plain (OpenSpec.ofChange inputsCompleteSpec)) inputsCompleteCard

/-- THE TIED CARD OF 'amortcostlaw38.InputsNumbers'. -/
def inputsNumbersCard : Claim7 := { stood := { row := inputsNumbersRow, standIns := [], harness := (true, "347c80740dd8011cfe943110dba5dfe19915668accba1cb45e7e5bd119e23ac4"), looks := false }, kinds := [], alts := [], laidByText := true, laidKinds := [.data, .data, .data], laidTests := true, laidLooks := .later }
def InputsNumbersCardSaid : Prop := Claim7.holds Tryz.pinned (.plain (OpenSpec.ofChange inputsNumbersSpec)) inputsNumbersCard

/-- THE TIED CARD OF 'amortcostlaw38.InputsSplit'. -/
def inputsSplitCard : Claim7 := { stood := { row := inputsSplitRow, standIns := [], harness := (true, "347c80740dd8011cfe943110dba5dfe19915668accba1cb45e7e5bd119e23ac4"), looks := false }, kinds := [], alts := [], laidByText := true, laidKinds := [.data, .data, .data], laidTests := true, laidLooks := .later }
def InputsSplitCardSaid : Prop := Claim7.holds Tryz.pinned (.plain (OpenSpec.ofChange inputsSplitSpec)) inputsSplitCard

/-- THE TIED CARD OF 'amortcostlaw38.InputsCount'. -/
def inputsCountCard : Claim7 := { stood := { row := inputsCountRow, standIns := [], harness := (true, "347c80740dd8011cfe943110dba5dfe19915668accba1cb45e7e5bd119e23ac4"), looks := false }, kinds := [], alts := [], laidByText := true, laidKinds := [.data, .data, .data], laidTests := true, laidLooks := .later }
def InputsCountCardSaid : Prop := Claim7.holds Tryz.pinned (.plain (OpenSpec.ofChange inputsCountSpec)) inputsCountCard

/-- THE SECOND FORM's CARD OF 'amortcostlaw38.InputsComplete'. -/
def inputsCompleteUptoCard : Claim7 := { stood := { row := inputsCompleteUptoRow, standIns := [], harness := (true, "347c80740dd8011cfe943110dba5dfe19915668accba1cb45e7e5bd119e23ac4"), looks := false }, kinds := [], alts := [], laidByText := true, laidKinds := [.data, .data, .data], laidTests := true, laidLooks := .later }
def InputsCompleteUptoCardSaid : Prop := Claim7.holds Tryz.pinned (.plain (OpenSpec.upto inputsCompleteSpec)) inputsCompleteUptoCard

/-- THE SECOND FORM's CARD OF 'amortcostlaw38.InputsNumbers'. -/
def inputsNumbersUptoCard : Claim7 := { stood := { row := inputsNumbersUptoRow, standIns := [], harness := (true, "347c80740dd8011cfe943110dba5dfe19915668accba1cb45e7e5bd119e23ac4"), looks := false }, kinds := [], alts := [], laidByText := true, laidKinds := [.data, .data, .data], laidTests := true, laidLooks := .later }
def InputsNumbersUptoCardSaid : Prop := Claim7.holds Tryz.pinned (.plain (OpenSpec.upto inputsNumbersSpec)) inputsNumbersUptoCard

/-- THE SECOND FORM's CARD OF 'amortcostlaw38.InputsSplit'. -/
def inputsSplitUptoCard : Claim7 := { stood := { row := inputsSplitUptoRow, standIns := [], harness := (true, "347c80740dd8011cfe943110dba5dfe19915668accba1cb45e7e5bd119e23ac4"), looks := false }, kinds := [], alts := [], laidByText := true, laidKinds := [.data, .data, .data], laidTests := true, laidLooks := .later }
def InputsSplitUptoCardSaid : Prop := Claim7.holds Tryz.pinned (.plain (OpenSpec.upto inputsSplitSpec)) inputsSplitUptoCard

/-- THE SECOND FORM's CARD OF 'amortcostlaw38.InputsCount'. -/
def inputsCountUptoCard : Claim7 := { stood := { row := inputsCountUptoRow, standIns := [], harness := (true, "347c80740dd8011cfe943110dba5dfe19915668accba1cb45e7e5bd119e23ac4"), looks := false }, kinds := [], alts := [], laidByText := true, laidKinds := [.data, .data, .data], laidTests := true, laidLooks := .later }
def InputsCountUptoCardSaid : Prop := Claim7.holds Tryz.pinned (.plain (OpenSpec.upto inputsCountSpec)) inputsCountUptoCard
end Rows
end Go.Proofs.YtaifokkaaahdoaaGreatDoor
