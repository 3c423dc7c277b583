/- IndexParses: what the card asks of the row. -/
import Derived.Test.YtfpmdpldabopjaaGreatDoorCards
import Derived.KernelRfl
import Derived.SevenTiedAt
namespace Go.Proofs.YtfpmdpldabopjaaGreatDoor
open Go
namespace indexParses
theorem wf : Rows.indexParsesRow.wfByText (OpenSpec.ofChange Rows.indexParsesSpec) = true := by kernel_rfl
theorem goes : false = Rows.indexParsesRow.goesBy Tryz.prog := by kernel_rfl
theorem named : Tryz.prog.funcNamed "amortcost/amortcostlaw15.IndexParses" = some 8 := by kernel_rfl
theorem want : ([22, 28, 9].all fun u => !Tryz.prog.wantsStandIn u) = true := by kernel_rfl
end indexParses
end Go.Proofs.YtfpmdpldabopjaaGreatDoor
