import Derived.Test.YtddlhljflggenaaGreatDoorCards
import Derived.KernelRfl
import Derived.SevenTiedAt
set_option linter.unusedSimpArgs false
set_option linter.unusedVariables false
namespace Go.Proofs.YtddlhljflggenaaGreatDoor
open Go
namespace indexUnits
theorem wf : Rows.indexUnitsRow.wfByText (OpenSpec.ofChange Rows.indexUnitsSpec) = true := by kernel_rfl
theorem goes : false = Rows.indexUnitsRow.goesBy Tryz.prog := by kernel_rfl
theorem named : Tryz.prog.funcNamed "amortcost/amortcostlaw15.IndexUnits" = some 5 := by kernel_rfl
theorem want : ([22, 25].all fun u => !Tryz.prog.wantsStandIn u) = true := by kernel_rfl
end indexUnits
end Go.Proofs.YtddlhljflggenaaGreatDoor
