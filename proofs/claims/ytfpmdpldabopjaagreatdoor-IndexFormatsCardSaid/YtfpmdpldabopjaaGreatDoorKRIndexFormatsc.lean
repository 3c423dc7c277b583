/- IndexFormats: what the card asks of the row. -/
import Derived.Test.YtfpmdpldabopjaaGreatDoorCards
import Derived.KernelRfl
import Derived.SevenTiedAt
namespace Go.Proofs.YtfpmdpldabopjaaGreatDoor
open Go
namespace indexFormats
theorem wf : Rows.indexFormatsRow.wfByText (OpenSpec.ofChange Rows.indexFormatsSpec) = true := by kernel_rfl
theorem goes : false = Rows.indexFormatsRow.goesBy Tryz.prog := by kernel_rfl
theorem named : Tryz.prog.funcNamed "amortcost/amortcostlaw15.IndexFormats" = some 6 := by kernel_rfl
theorem want : ([22, 28, 37].all fun u => !Tryz.prog.wantsStandIn u) = true := by kernel_rfl
end indexFormats
end Go.Proofs.YtfpmdpldabopjaaGreatDoor
