import Derived.Test.YtaifokkaaahdoaaGreatDoorRows
import Derived.Test.YtaifokkaaahdoaaGreatDoorAbsJF
set_option linter.unusedSimpArgs false
set_option linter.unusedVariables false
set_option linter.unusedSectionVars false
set_option maxRecDepth 8000
namespace Go.Proofs.YtaifokkaaahdoaaGreatDoor
open Go Go.Abs
namespace inputsComplete
theorem j5:jt5 Tryz.prog 3 Tryz.f3 Rows.inputsCompleteSpec Rows.inputsCompleteRow=true:=by kernel_rfl
theorem j6:jt6 Tryz.prog 3 Tryz.f3 Rows.inputsCompleteSpec Rows.inputsCompleteRow=true:=by kernel_rfl
theorem j9:jt9 Tryz.prog 3 Tryz.f3 Rows.inputsCompleteSpec Rows.inputsCompleteRow=true:=by kernel_rfl
theorem j10:zow Tryz.prog 3 Tryz.f3 Rows.inputsCompleteSpec Rows.inputsCompleteRow=true:=by kernel_rfl
theorem j11:zox Tryz.prog 3 Tryz.f3 Rows.inputsCompleteSpec Rows.inputsCompleteRow=true:=by kernel_rfl
end inputsComplete
end Go.Proofs.YtaifokkaaahdoaaGreatDoor
