import Derived.Test.YtdmamdnkcefmmaaGreatDoorRows
import Derived.Test.YtdmamdnkcefmmaaGreatDoorAbsJF
set_option linter.unusedSimpArgs false
set_option linter.unusedVariables false
set_option maxRecDepth 8000
namespace Go.Proofs.YtdmamdnkcefmmaaGreatDoor
open Go Go.Abs
namespace productValues
theorem j5:jt5 Tryz.prog 4 Tryz.f4 Rows.productValuesSpec Rows.productValuesRow=true:=by kernel_rfl
theorem j6:jt6 Tryz.prog 4 Tryz.f4 Rows.productValuesSpec Rows.productValuesRow=true:=by kernel_rfl
theorem j9:jt9 Tryz.prog 4 Tryz.f4 Rows.productValuesSpec Rows.productValuesRow=true:=by kernel_rfl
theorem j10:zpv Tryz.prog 4 Tryz.f4 Rows.productValuesSpec Rows.productValuesRow=true:=by kernel_rfl
theorem j11:zpw Tryz.prog 4 Tryz.f4 Rows.productValuesSpec Rows.productValuesRow=true:=by kernel_rfl
end productValues
end Go.Proofs.YtdmamdnkcefmmaaGreatDoor
