import Derived.Test.YtdmamdnkcefmmaaGreatDoorRows
import Derived.Test.YtdmamdnkcefmmaaGreatDoorAbsJF
set_option linter.unusedSimpArgs false
set_option linter.unusedVariables false
set_option maxRecDepth 8000
namespace Go.Proofs.YtdmamdnkcefmmaaGreatDoor
open Go Go.Abs
namespace productDegrees
theorem j5:jt5 Tryz.prog 5 Tryz.f5 Rows.productDegreesSpec Rows.productDegreesRow=true:=by kernel_rfl
theorem j6:jt6 Tryz.prog 5 Tryz.f5 Rows.productDegreesSpec Rows.productDegreesRow=true:=by kernel_rfl
theorem j9:jt9 Tryz.prog 5 Tryz.f5 Rows.productDegreesSpec Rows.productDegreesRow=true:=by kernel_rfl
theorem j10:znM Tryz.prog 5 Tryz.f5 Rows.productDegreesSpec Rows.productDegreesRow=true:=by kernel_rfl
theorem j11:znN Tryz.prog 5 Tryz.f5 Rows.productDegreesSpec Rows.productDegreesRow=true:=by kernel_rfl
end productDegrees
end Go.Proofs.YtdmamdnkcefmmaaGreatDoor
