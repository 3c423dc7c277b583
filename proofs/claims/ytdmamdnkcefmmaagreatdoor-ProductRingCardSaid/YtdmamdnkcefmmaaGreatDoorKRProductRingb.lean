import Derived.Test.YtdmamdnkcefmmaaGreatDoorRows
import Derived.Test.YtdmamdnkcefmmaaGreatDoorAbsJF
set_option linter.unusedSimpArgs false
set_option linter.unusedVariables false
set_option maxRecDepth 8000
namespace Go.Proofs.YtdmamdnkcefmmaaGreatDoor
open Go
namespace productRing
theorem j5:jt5 Tryz.prog 9 Tryz.f9 Rows.productRingSpec Rows.productRingRow=true:=by kernel_rfl
theorem j6:jt6 Tryz.prog 9 Tryz.f9 Rows.productRingSpec Rows.productRingRow=true:=by kernel_rfl
theorem j9:jt9 Tryz.prog 9 Tryz.f9 Rows.productRingSpec Rows.productRingRow=true:=by kernel_rfl
theorem j10:zpc Tryz.prog 9 Tryz.f9 Rows.productRingSpec Rows.productRingRow=true:=by kernel_rfl
theorem j11:zpd Tryz.prog 9 Tryz.f9 Rows.productRingSpec Rows.productRingRow=true:=by kernel_rfl
end productRing
end Go.Proofs.YtdmamdnkcefmmaaGreatDoor
