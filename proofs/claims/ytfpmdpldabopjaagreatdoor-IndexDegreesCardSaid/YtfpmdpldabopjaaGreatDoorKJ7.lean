/- IndexDegrees: what the card asks of the row. -/
import Derived.Test.YtfpmdpldabopjaaGreatDoorCards
import Derived.KernelRfl
import Derived.SevenTiedAt
namespace Go.Proofs.YtfpmdpldabopjaaGreatDoor
open Go
namespace indexDegrees
theorem wf : Rows.indexDegreesRow.wfByText (OpenSpec.ofChange Rows.indexDegreesSpec) = true := by kernel_rfl
theorem goes : false = Rows.indexDegreesRow.goesBy Tryz.prog := by kernel_rfl
theorem named : Tryz.prog.funcNamed "amortcost/amortcostlaw15.IndexDegrees" = some 5 := by kernel_rfl
theorem want : ([22, 28, 37].all fun u => !Tryz.prog.wantsStandIn u) = true := by kernel_rfl
end indexDegrees
end Go.Proofs.YtfpmdpldabopjaaGreatDoor
