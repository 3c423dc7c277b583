import Derived.Test.YtaifokkaaahdoaaGreatDoorRows
import Derived.Test.YtaifokkaaahdoaaGreatDoorAbsJF
set_option linter.unusedSimpArgs false
set_option linter.unusedVariables false
set_option linter.unusedSectionVars false
set_option maxRecDepth 8000
namespace Go.Proofs.YtaifokkaaahdoaaGreatDoor
open Go
namespace inputsNumbersUpto
theorem j5:jt5 Tryz.prog 4 Tryz.f4 (Rows.OpenSpec.upto Rows.inputsNumbersSpec).bare Rows.inputsNumbersUptoRow=true:=by kernel_rfl
theorem j6:jt6 Tryz.prog 4 Tryz.f4 (Rows.OpenSpec.upto Rows.inputsNumbersSpec).bare Rows.inputsNumbersUptoRow=true:=by kernel_rfl
theorem j9:jt9 Tryz.prog 4 Tryz.f4 (Rows.OpenSpec.upto Rows.inputsNumbersSpec).bare Rows.inputsNumbersUptoRow=true:=by kernel_rfl
theorem j10:zpT Tryz.prog 4 Tryz.f4 (Rows.OpenSpec.upto Rows.inputsNumbersSpec).bare Rows.inputsNumbersUptoRow=true:=by kernel_rfl
theorem j11:zpU Tryz.prog 4 Tryz.f4 (Rows.OpenSpec.upto Rows.inputsNumbersSpec).bare Rows.inputsNumbersUptoRow=true:=by kernel_rfl
end inputsNumbersUpto
end Go.Proofs.YtaifokkaaahdoaaGreatDoor
