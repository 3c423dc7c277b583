/- ValueTypes: what the card asks of the row. -/
import Derived.Test.YtfpmdpldabopjaaGreatDoorCards
import Derived.KernelRfl
import Derived.SevenTiedAt
namespace Go.Proofs.YtfpmdpldabopjaaGreatDoor
open Go
namespace valueTypes
theorem wf : Rows.valueTypesRow.wfByText (OpenSpec.ofChange Rows.valueTypesSpec) = true := by kernel_rfl
theorem goes : false = Rows.valueTypesRow.goesBy Tryz.prog := by kernel_rfl
theorem named : Tryz.prog.funcNamed "amortcost/amortcostlaw10.ValueTypes" = some 3 := by kernel_rfl
end valueTypes
end Go.Proofs.YtfpmdpldabopjaaGreatDoor
