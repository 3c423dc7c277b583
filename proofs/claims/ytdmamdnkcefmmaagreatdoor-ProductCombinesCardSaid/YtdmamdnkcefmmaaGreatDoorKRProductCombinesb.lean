import Derived.Test.YtdmamdnkcefmmaaGreatDoorRows
import Derived.Test.YtdmamdnkcefmmaaGreatDoorAbsJF
set_option linter.unusedSimpArgs false
set_option linter.unusedVariables false
set_option linter.unusedSectionVars false
set_option maxRecDepth 8000
namespace Go.Proofs.YtdmamdnkcefmmaaGreatDoor
open Go
namespace productCombines
theorem j5:jt5 Tryz.prog 8 Tryz.f8 Rows.productCombinesSpec Rows.productCombinesRow=true:=by kernel_rfl
theorem j6:jt6 Tryz.prog 8 Tryz.f8 Rows.productCombinesSpec Rows.productCombinesRow=true:=by kernel_rfl
theorem j9:jt9 Tryz.prog 8 Tryz.f8 Rows.productCombinesSpec Rows.productCombinesRow=true:=by kernel_rfl
theorem j10:Us Tryz.prog 8 Tryz.f8 Rows.productCombinesSpec Rows.productCombinesRow=true:=by kernel_rfl
theorem j11:Ut Tryz.prog 8 Tryz.f8 Rows.productCombinesSpec Rows.productCombinesRow=true:=by kernel_rfl
end productCombines
end Go.Proofs.YtdmamdnkcefmmaaGreatDoor
