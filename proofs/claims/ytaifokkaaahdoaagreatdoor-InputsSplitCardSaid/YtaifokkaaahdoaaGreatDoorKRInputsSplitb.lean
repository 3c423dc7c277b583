import Derived.Test.YtaifokkaaahdoaaGreatDoorRows
import Derived.Test.YtaifokkaaahdoaaGreatDoorAbsJF
set_option linter.unusedSimpArgs false
set_option linter.unusedVariables false
set_option maxRecDepth 8000
namespace Go.Proofs.YtaifokkaaahdoaaGreatDoor
open Go Go.Abs
namespace inputsSplit
theorem j5:jt5 Tryz.prog 5 Tryz.f5 Rows.inputsSplitSpec Rows.inputsSplitRow=true:=by kernel_rfl
theorem j6:jt6 Tryz.prog 5 Tryz.f5 Rows.inputsSplitSpec Rows.inputsSplitRow=true:=by kernel_rfl
theorem j9:jt9 Tryz.prog 5 Tryz.f5 Rows.inputsSplitSpec Rows.inputsSplitRow=true:=by kernel_rfl
theorem j10:zi5 Tryz.prog 5 Tryz.f5 Rows.inputsSplitSpec Rows.inputsSplitRow=true:=by kernel_rfl
theorem j11:zi6 Tryz.prog 5 Tryz.f5 Rows.inputsSplitSpec Rows.inputsSplitRow=true:=by kernel_rfl
end inputsSplit
end Go.Proofs.YtaifokkaaahdoaaGreatDoor
