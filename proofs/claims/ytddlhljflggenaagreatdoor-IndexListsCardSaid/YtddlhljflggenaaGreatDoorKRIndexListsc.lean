import Derived.Test.YtddlhljflggenaaGreatDoorCards
import Derived.KernelRfl
import Derived.SevenTiedAt
set_option linter.unusedSimpArgs false
set_option linter.unusedVariables false
namespace Go.Proofs.YtddlhljflggenaaGreatDoor
open Go
namespace indexLists
theorem wf : Rows.indexListsRow.wfByText (OpenSpec.ofChange Rows.indexListsSpec) = true := by kernel_rfl
theorem goes : false = Rows.indexListsRow.goesBy Tryz.prog := by kernel_rfl
theorem named : Tryz.prog.funcNamed "amortcost/amortcostlaw15.IndexLists" = some 3 := by kernel_rfl
theorem want : ([22, 25, 3].all fun u => !Tryz.prog.wantsStandIn u) = true := by kernel_rfl
end indexLists
end Go.Proofs.YtddlhljflggenaaGreatDoor
