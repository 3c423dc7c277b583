import Derived.Test.YtdmamdnkcefmmaaGreatDoorRows
import Derived.Test.YtdmamdnkcefmmaaGreatDoorAbsJF
set_option linter.unusedSimpArgs false
set_option linter.unusedVariables false
set_option linter.unusedSectionVars false
set_option maxRecDepth 8000
namespace Go.Proofs.YtdmamdnkcefmmaaGreatDoor
open Go
namespace productCombines
theorem j0:jt0 Tryz.prog 8 Tryz.f8 Rows.productCombinesSpec Rows.productCombinesRow=true:=by kernel_rfl
theorem j1:jt1 Tryz.prog 8 Tryz.f8 Rows.productCombinesSpec Rows.productCombinesRow=true:=by kernel_rfl
theorem j2:jt2 Tryz.prog 8 Tryz.f8 Rows.productCombinesSpec Rows.productCombinesRow=true:=by kernel_rfl
theorem j3:jt3 Tryz.prog 8 Tryz.f8 Rows.productCombinesSpec Rows.productCombinesRow=true:=by kernel_rfl
theorem j4:jt4 Tryz.prog 8 Tryz.f8 Rows.productCombinesSpec Rows.productCombinesRow=true:=by kernel_rfl
theorem j7:jt7 Tryz.prog 8 Tryz.f8 Rows.productCombinesSpec Rows.productCombinesRow=true:=by kernel_rfl
theorem j8:jt8 Tryz.prog 8 Tryz.f8 Rows.productCombinesSpec Rows.productCombinesRow=true:=by kernel_rfl
end productCombines
end Go.Proofs.YtdmamdnkcefmmaaGreatDoor
