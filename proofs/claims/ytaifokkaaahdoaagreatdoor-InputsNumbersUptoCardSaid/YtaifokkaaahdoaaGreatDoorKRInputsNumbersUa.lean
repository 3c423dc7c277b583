import Derived.Test.YtaifokkaaahdoaaGreatDoorRows
import Derived.Test.YtaifokkaaahdoaaGreatDoorAbsJF
set_option linter.unusedSimpArgs false
set_option linter.unusedVariables false
set_option linter.unusedSectionVars false
set_option maxRecDepth 8000
namespace Go.Proofs.YtaifokkaaahdoaaGreatDoor
open Go
namespace inputsNumbersUpto
theorem j0:jt0 Tryz.prog 4 Tryz.f4 (Rows.OpenSpec.upto Rows.inputsNumbersSpec).bare Rows.inputsNumbersUptoRow=true:=by kernel_rfl
theorem j1:jt1 Tryz.prog 4 Tryz.f4 (Rows.OpenSpec.upto Rows.inputsNumbersSpec).bare Rows.inputsNumbersUptoRow=true:=by kernel_rfl
theorem j2:jt2 Tryz.prog 4 Tryz.f4 (Rows.OpenSpec.upto Rows.inputsNumbersSpec).bare Rows.inputsNumbersUptoRow=true:=by kernel_rfl
theorem j3:jt3 Tryz.prog 4 Tryz.f4 (Rows.OpenSpec.upto Rows.inputsNumbersSpec).bare Rows.inputsNumbersUptoRow=true:=by kernel_rfl
theorem j4:jt4 Tryz.prog 4 Tryz.f4 (Rows.OpenSpec.upto Rows.inputsNumbersSpec).bare Rows.inputsNumbersUptoRow=true:=by kernel_rfl
theorem j7:jt7 Tryz.prog 4 Tryz.f4 (Rows.OpenSpec.upto Rows.inputsNumbersSpec).bare Rows.inputsNumbersUptoRow=true:=by kernel_rfl
theorem j8:jt8 Tryz.prog 4 Tryz.f4 (Rows.OpenSpec.upto Rows.inputsNumbersSpec).bare Rows.inputsNumbersUptoRow=true:=by kernel_rfl
end inputsNumbersUpto
end Go.Proofs.YtaifokkaaahdoaaGreatDoor
