import Derived.Test.YtdmamdnkcefmmaaGreatDoorRows
import Derived.Test.YtdmamdnkcefmmaaGreatDoorAbsJF
set_option linter.unusedSimpArgs false
set_option linter.unusedVariables false
set_option maxRecDepth 8000
namespace Go.Proofs.YtdmamdnkcefmmaaGreatDoor
open Go Go.Abs
namespace productSquares
theorem j5:jt5 Tryz.prog 7 Tryz.f7 Rows.productSquaresSpec Rows.productSquaresRow=true:=by kernel_rfl
theorem j6:jt6 Tryz.prog 7 Tryz.f7 Rows.productSquaresSpec Rows.productSquaresRow=true:=by kernel_rfl
theorem j9:jt9 Tryz.prog 7 Tryz.f7 Rows.productSquaresSpec Rows.productSquaresRow=true:=by kernel_rfl
theorem j10:zos Tryz.prog 7 Tryz.f7 Rows.productSquaresSpec Rows.productSquaresRow=true:=by kernel_rfl
theorem j11:zot Tryz.prog 7 Tryz.f7 Rows.productSquaresSpec Rows.productSquaresRow=true:=by kernel_rfl
end productSquares
end Go.Proofs.YtdmamdnkcefmmaaGreatDoor
