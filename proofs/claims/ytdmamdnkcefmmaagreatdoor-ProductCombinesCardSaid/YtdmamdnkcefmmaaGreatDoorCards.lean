/-
  DERIVED. GIVEN WITH THE SEED: THE CARDS: each row of YtdmamdnkcefmmaaGreatDoorRows.lean that lists a variable, with what it lists TIED to the program's text (the seventh form; the later family's looks); each row that meets fmt, with fmt's text TOLD by the authors' own Lean function (tested against real Go, not proved from fmt's source: count such statements apart). THE CARD IS WHAT COUNTS. Prove the row's statement (the work); the ties are given (YtdmamdnkcefmmaaGreatDoorTie.lean); close each card by the builder's one call (the guide's Derived/Test/ToyasCard.lean, 'card_holds'). Laid BY PROGRAM, IN A SANDBOX (cutbox-door.mjs). By AI agents, Wed Nov 11 2026. No macro, syntax, notation, axiom, sorry.
-/
import Derived.Test.YtdmamdnkcefmmaaGreatDoorRows
import GoSem.ClaimSeven
namespace Go.Proofs.YtdmamdnkcefmmaaGreatDoor
namespace Rows

/-- THE TIED CARD OF 'amortcostlaw17.ProductMultiplies'. -/
def productMultipliesCard : Claim7 := { stood := { row := productMultipliesRow, standIns := [], harness := (true, "ab6d9d8f300ae907b9f7db5d6b02ebe62e30a8fd4e2257acb0b346b3fba7f293"), looks := false }, kinds := [], alts := [], laidByText := true, laidKinds := [.data, .data, .data], laidTests := true, laidLooks := .later }
def ProductMultipliesCardSaid : Prop := Claim7.holds Tryz.pinned (.plain (OpenSpec.ofChange productMultipliesSpec)) productMultipliesCard

/-- THE TIED CARD OF 'amortcostlaw17.ProductValues'. -/
def productValuesCard : Claim7 := { stood := { row := productValuesRow, standIns := [], harness := (true, "ab6d9d8f300ae907b9f7db5d6b02ebe62e30a8fd4e2257acb0b346b3fba7f293"), looks := false }, kinds := [], alts := [], laidByText := true, laidKinds := [.data, .data, .data], laidTests := true, laidLooks := .later }
def ProductValuesCardSaid : Prop := Claim7.holds Tryz.pinned (.plain (OpenSpec.ofChange productValuesSpec)) productValuesCard

/-- THE TIED CARD OF 'amortcostlaw17.ProductDegrees'. -/
def productDegreesCard : Claim7 := { stood := { row := productDegreesRow, standIns := [], harness := (true, "ab6d9d8f300ae907b9f7db5d6b02ebe62e30a8fd4e2257acb0b346b3fba7f293"), looks := false }, kinds := [], alts := [], laidByText := true, laidKinds := [.data, .data, .data], laidTests := true, laidLooks := .later }
def ProductDegreesCardSaid : Prop := Claim7.holds Tryz.pinned (.plain (OpenSpec.ofChange productDegreesSpec)) productDegreesCard

/-- THE TIED CARD OF 'amortcostlaw17.ProductPowers'. -/
def productPowersCard : Claim7 := { stood := { row := productPowersRow, standIns := [], harness := (true, "ab6d9d8f300ae907b9f7db5d6b02ebe62e30a8fd4e2257acb0b346b3fba7f293"), looks := false }, kinds := [], alts := [], laidByText := true, laidKinds := [.data, .data, .data], laidTests := true, laidLooks := .later }
def ProductPowersCardSaid : Prop := Claim7.holds Tryz.pinned (.plain (OpenSpec.ofChange productPowersSpec)) productPowersCard

/-- THE TIED CARD OF 'amortcostlaw17.ProductSquares'. -/
def productSquaresCard : Claim7 := { stood := { row := productSquaresRow, standIns := [], harness := (true, "ab6d9d8f300ae907b9f7db5d6b02ebe62e30a8fd4e2257acb0b346b3fba7f293"), looks := false }, kinds := [], alts := [], laidByText := true, laidKinds := [.data, .data, .data], laidTests := true, laidLooks := .later }
def ProductSquaresCardSaid : Prop := Claim7.holds Tryz.pinned (.plain (OpenSpec.ofChange productSquaresSpec)) productSquaresCard

/-- THE TIED CARD OF 'amortcostlaw17.ProductCombines'. -/
def productCombinesCard : Claim7 := { stood := { row := productCombinesRow, standIns := [], harness := (true, "ab6d9d8f300ae907b9f7db5d6b02ebe62e30a8fd4e2257acb0b346b3fba7f293"), looks := false }, kinds := [], alts := [], laidByText := true, laidKinds := [.data, .data, .data], laidTests := true, laidLooks := .later }
def ProductCombinesCardSaid : Prop := Claim7.holds Tryz.pinned (.plain (OpenSpec.ofChange productCombinesSpec)) productCombinesCard

/-- THE TIED CARD OF 'amortcostlaw17.ProductRing'. -/
def productRingCard : Claim7 := { stood := { row := productRingRow, standIns := [], harness := (true, "ab6d9d8f300ae907b9f7db5d6b02ebe62e30a8fd4e2257acb0b346b3fba7f293"), looks := false }, kinds := [], alts := [], laidByText := true, laidKinds := [.data, .data, .data], laidTests := true, laidLooks := .later }
def ProductRingCardSaid : Prop := Claim7.holds Tryz.pinned (.plain (OpenSpec.ofChange productRingSpec)) productRingCard

/-- THE SECOND FORM's CARD OF 'amortcostlaw17.ProductMultiplies'. -/
def productMultipliesUptoCard : Claim7 := { stood := { row := productMultipliesUptoRow, standIns := [], harness := (true, "ab6d9d8f300ae907b9f7db5d6b02ebe62e30a8fd4e2257acb0b346b3fba7f293"), looks := false }, kinds := [], alts := [], laidByText := true, laidKinds := [.data, .data, .data], laidTests := true, laidLooks := .later }
def ProductMultipliesUptoCardSaid : Prop := Claim7.holds Tryz.pinned (.plain (OpenSpec.upto productMultipliesSpec)) productMultipliesUptoCard

/-- THE SECOND FORM's CARD OF 'amortcostlaw17.ProductValues'. -/
def productValuesUptoCard : Claim7 := { stood := { row := productValuesUptoRow, standIns := [], harness := (true, "ab6d9d8f300ae907b9f7db5d6b02ebe62e30a8fd4e2257acb0b346b3fba7f293"), looks := false }, kinds := [], alts := [], laidByText := true, laidKinds := [.data, .data, .data], laidTests := true, laidLooks := .later }
def ProductValuesUptoCardSaid : Prop := Claim7.holds Tryz.pinned (.plain (OpenSpec.upto productValuesSpec)) productValuesUptoCard

/-- THE SECOND FORM's CARD OF 'amortcostlaw17.ProductDegrees'. -/
def productDegreesUptoCard : Claim7 := { stood := { row := productDegreesUptoRow, standIns := [], harness := (true, "ab6d9d8f300ae907b9f7db5d6b02ebe62e30a8fd4e2257acb0b346b3fba7f293"), looks := false }, kinds := [], alts := [], laidByText := true, laidKinds := [.data, .data, .data], laidTests := true, laidLooks := .later }
def ProductDegreesUptoCardSaid : Prop := Claim7.holds Tryz.pinned (.plain (OpenSpec.upto productDegreesSpec)) productDegreesUptoCard

/-- THE SECOND FORM's CARD OF 'amortcostlaw17.ProductPowers'. -/
def productPowersUptoCard : Claim7 := { stood := { row := productPowersUptoRow, standIns := [], harness := (true, "ab6d9d8f300ae907b9f7db5d6b02ebe62e30a8fd4e2257acb0b346b3fba7f293"), looks := false }, kinds := [], alts := [], laidByText := true, laidKinds := [.data, .data, .data], laidTests := true, laidLooks := .later }
def ProductPowersUptoCardSaid : Prop := Claim7.holds Tryz.pinned (.plain (OpenSpec.upto productPowersSpec)) productPowersUptoCard

/-- THE SECOND FORM's CARD OF 'amortcostlaw17.ProductSquares'. -/
def productSquaresUptoCard : Claim7 := { stood := { row := productSquaresUptoRow, standIns := [], harness := (true, "ab6d9d8f300ae907b9f7db5d6b02ebe62e30a8fd4e2257acb0b346b3fba7f293"), looks := false }, kinds := [], alts := [], laidByText := true, laidKinds := [.data, .data, .data], laidTests := true, laidLooks := .later }
def ProductSquaresUptoCardSaid : Prop := Claim7.holds Tryz.pinned (.plain (OpenSpec.upto productSquaresSpec)) productSquaresUptoCard

/-- THE SECOND FORM's CARD OF 'amortcostlaw17.ProductCombines'. -/
def productCombinesUptoCard : Claim7 := { stood := { row := productCombinesUptoRow, standIns := [], harness := (true, "ab6d9d8f300ae907b9f7db5d6b02ebe62e30a8fd4e2257acb0b346b3fba7f293"), looks := false }, kinds := [], alts := [], laidByText := true, laidKinds := [.data, .data, .data], laidTests := true, laidLooks := .later }
def ProductCombinesUptoCardSaid : Prop := Claim7.holds Tryz.pinned (.plain (OpenSpec.upto productCombinesSpec)) productCombinesUptoCard

/-- THE SECOND FORM's CARD OF 'amortcostlaw17.ProductRing'. -/
def productRingUptoCard : Claim7 := { stood := { row := productRingUptoRow, standIns := [], harness := (true, "ab6d9d8f300ae907b9f7db5d6b02ebe62e30a8fd4e2257acb0b346b3fba7f293"), looks := false }, kinds := [], alts := [], laidByText := true, laidKinds := [.data, .data, .data], laidTests := true, laidLooks := .later }
def ProductRingUptoCardSaid : Prop := Claim7.holds Tryz.pinned (.plain (OpenSpec.upto productRingSpec)) productRingUptoCard
end Rows
end Go.Proofs.YtdmamdnkcefmmaaGreatDoor
