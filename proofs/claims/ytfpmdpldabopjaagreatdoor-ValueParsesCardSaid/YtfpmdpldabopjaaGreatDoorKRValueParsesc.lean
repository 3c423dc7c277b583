import Derived.Test.YtfpmdpldabopjaaGreatDoorCards
import Derived.KernelRfl
import Derived.SevenTiedAt
namespace Go.Proofs.YtfpmdpldabopjaaGreatDoor
open Go
namespace valueParses
theorem wf : Rows.valueParsesRow.wfByText (OpenSpec.ofChange Rows.valueParsesSpec) = true := by kernel_rfl
theorem goes : false = Rows.valueParsesRow.goesBy Tryz.prog := by kernel_rfl
theorem named : Tryz.prog.funcNamed "amortcost/amortcostlaw10.ValueParses" = some 10 := by kernel_rfl
theorem want : ([22, 28, 9].all fun u => !Tryz.prog.wantsStandIn u) = true := by kernel_rfl
end valueParses
end Go.Proofs.YtfpmdpldabopjaaGreatDoor
