import Derived.Test.YtddlhljflggenaaGreatDoorRows
import Derived.Test.YtddlhljflggenaaGreatDoorAbsJF
set_option linter.unusedSimpArgs false
set_option linter.unusedVariables false
namespace Go.Proofs.YtddlhljflggenaaGreatDoor
open Go Go.Abs
namespace indexUnits
theorem j5 : jt5 Tryz.prog 5 Tryz.f5 Rows.indexUnitsSpec Rows.indexUnitsRow = true := by kernel_rfl
theorem j6 : jt6 Tryz.prog 5 Tryz.f5 Rows.indexUnitsSpec Rows.indexUnitsRow = true := by kernel_rfl
theorem j9 : jt9 Tryz.prog 5 Tryz.f5 Rows.indexUnitsSpec Rows.indexUnitsRow = true := by kernel_rfl
theorem j10 : zf4 Tryz.prog 5 Tryz.f5 Rows.indexUnitsSpec Rows.indexUnitsRow = true := by kernel_rfl
theorem j11 : zf5 Tryz.prog 5 Tryz.f5 Rows.indexUnitsSpec Rows.indexUnitsRow = true := by kernel_rfl
end indexUnits
end Go.Proofs.YtddlhljflggenaaGreatDoor
