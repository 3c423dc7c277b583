/- ValueBack: what the card asks of the row. -/
import Derived.Test.YtfpmdpldabopjaaGreatDoorCards
import Derived.KernelRfl
import Derived.SevenTiedAt
namespace Go.Proofs.YtfpmdpldabopjaaGreatDoor
open Go
namespace valueBack
theorem wf : Rows.valueBackRow.wfByText (OpenSpec.ofChange Rows.valueBackSpec) = true := by kernel_rfl
theorem goes : false = Rows.valueBackRow.goesBy Tryz.prog := by kernel_rfl
theorem named : Tryz.prog.funcNamed "amortcost/amortcostlaw10.ValueBack" = some 11 := by kernel_rfl
theorem want : ([22, 25, 28].all fun u => !Tryz.prog.wantsStandIn u) = true := by kernel_rfl
end valueBack
end Go.Proofs.YtfpmdpldabopjaaGreatDoor
