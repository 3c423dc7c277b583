import Derived.Test.YtddlhljflggenaaGreatDoorCards
import Derived.KernelRfl
import Derived.SevenTiedAt
set_option linter.unusedSimpArgs false
set_option linter.unusedVariables false
namespace Go.Proofs.YtddlhljflggenaaGreatDoor
open Go
namespace indexComplete
theorem wf : Rows.indexCompleteRow.wfByText (OpenSpec.ofChange Rows.indexCompleteSpec) = true := by kernel_rfl
theorem goes : false = Rows.indexCompleteRow.goesBy Tryz.prog := by kernel_rfl
theorem named : Tryz.prog.funcNamed "amortcost/amortcostlaw15.IndexComplete" = some 4 := by kernel_rfl
theorem want : ([22, 25, 35, 3].all fun u => !Tryz.prog.wantsStandIn u) = true := by kernel_rfl
end indexComplete
end Go.Proofs.YtddlhljflggenaaGreatDoor
