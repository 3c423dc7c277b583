/- IndexBack: what the card asks of the row. -/
import Derived.Test.YtfpmdpldabopjaaGreatDoorCards
import Derived.KernelRfl
import Derived.SevenTiedAt
namespace Go.Proofs.YtfpmdpldabopjaaGreatDoor
open Go
namespace indexBack
theorem wf : Rows.indexBackRow.wfByText (OpenSpec.ofChange Rows.indexBackSpec) = true := by kernel_rfl
theorem goes : false = Rows.indexBackRow.goesBy Tryz.prog := by kernel_rfl
theorem named : Tryz.prog.funcNamed "amortcost/amortcostlaw15.IndexBack" = some 9 := by kernel_rfl
theorem want : ([22, 28, 37].all fun u => !Tryz.prog.wantsStandIn u) = true := by kernel_rfl
end indexBack
end Go.Proofs.YtfpmdpldabopjaaGreatDoor
