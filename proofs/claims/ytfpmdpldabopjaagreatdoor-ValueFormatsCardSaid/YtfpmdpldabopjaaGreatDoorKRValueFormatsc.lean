/- ValueFormats: what the card asks of the row. -/
import Derived.Test.YtfpmdpldabopjaaGreatDoorCards
import Derived.KernelRfl
import Derived.SevenTiedAt
namespace Go.Proofs.YtfpmdpldabopjaaGreatDoor
open Go
namespace valueFormats
theorem wf : Rows.valueFormatsRow.wfByText (OpenSpec.ofChange Rows.valueFormatsSpec) = true := by kernel_rfl
theorem goes : false = Rows.valueFormatsRow.goesBy Tryz.prog := by kernel_rfl
theorem named : Tryz.prog.funcNamed "amortcost/amortcostlaw10.ValueFormats" = some 4 := by kernel_rfl
theorem want : ([22, 25, 28].all fun u => !Tryz.prog.wantsStandIn u) = true := by kernel_rfl
end valueFormats
end Go.Proofs.YtfpmdpldabopjaaGreatDoor
