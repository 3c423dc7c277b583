import Derived.Test.YtddlhljflggenaaGreatDoorRows
import Derived.Test.YtddlhljflggenaaGreatDoorAbsJF
set_option linter.unusedSimpArgs false
set_option linter.unusedVariables false
namespace Go.Proofs.YtddlhljflggenaaGreatDoor
open Go Go.Abs
namespace indexUnits
theorem j0 : jt0 Tryz.prog 5 Tryz.f5 Rows.indexUnitsSpec Rows.indexUnitsRow = true := by kernel_rfl
theorem j1 : jt1 Tryz.prog 5 Tryz.f5 Rows.indexUnitsSpec Rows.indexUnitsRow = true := by kernel_rfl
theorem j2 : jt2 Tryz.prog 5 Tryz.f5 Rows.indexUnitsSpec Rows.indexUnitsRow = true := by kernel_rfl
theorem j3 : jt3 Tryz.prog 5 Tryz.f5 Rows.indexUnitsSpec Rows.indexUnitsRow = true := by kernel_rfl
theorem j4 : jt4 Tryz.prog 5 Tryz.f5 Rows.indexUnitsSpec Rows.indexUnitsRow = true := by kernel_rfl
theorem j7 : jt7 Tryz.prog 5 Tryz.f5 Rows.indexUnitsSpec Rows.indexUnitsRow = true := by kernel_rfl
theorem j8 : jt8 Tryz.prog 5 Tryz.f5 Rows.indexUnitsSpec Rows.indexUnitsRow = true := by kernel_rfl
end indexUnits
end Go.Proofs.YtddlhljflggenaaGreatDoor
