/- ValueNodes: what the card asks of the row. -/
import Derived.Test.YtfpmdpldabopjaaGreatDoorCards
import Derived.KernelRfl
import Derived.SevenTiedAt
namespace Go.Proofs.YtfpmdpldabopjaaGreatDoor
open Go
namespace valueNodes
theorem wf : Rows.valueNodesRow.wfByText (OpenSpec.ofChange Rows.valueNodesSpec) = true := by kernel_rfl
theorem goes : false = Rows.valueNodesRow.goesBy Tryz.prog := by kernel_rfl
theorem named : Tryz.prog.funcNamed "amortcost/amortcostlaw10.ValueNodes" = some 7 := by kernel_rfl
theorem want : ([22, 25, 28].all fun u => !Tryz.prog.wantsStandIn u) = true := by kernel_rfl
end valueNodes
end Go.Proofs.YtfpmdpldabopjaaGreatDoor
