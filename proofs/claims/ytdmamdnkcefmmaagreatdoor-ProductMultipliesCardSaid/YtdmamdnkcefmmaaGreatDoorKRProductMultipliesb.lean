import Derived.Test.YtdmamdnkcefmmaaGreatDoorRows
import Derived.Test.YtdmamdnkcefmmaaGreatDoorAbsJF
set_option linter.unusedSimpArgs false
set_option linter.unusedVariables false
set_option maxRecDepth 8000
namespace Go.Proofs.YtdmamdnkcefmmaaGreatDoor
open Go
namespace productMultiplies
theorem j5:jt5 Tryz.prog 3 Tryz.f3 Rows.productMultipliesSpec Rows.productMultipliesRow=true:=by kernel_rfl
theorem j6:jt6 Tryz.prog 3 Tryz.f3 Rows.productMultipliesSpec Rows.productMultipliesRow=true:=by kernel_rfl
theorem j9:jt9 Tryz.prog 3 Tryz.f3 Rows.productMultipliesSpec Rows.productMultipliesRow=true:=by kernel_rfl
theorem j10:zpU Tryz.prog 3 Tryz.f3 Rows.productMultipliesSpec Rows.productMultipliesRow=true:=by kernel_rfl
theorem j11:zpV Tryz.prog 3 Tryz.f3 Rows.productMultipliesSpec Rows.productMultipliesRow=true:=by kernel_rfl
end productMultiplies
end Go.Proofs.YtdmamdnkcefmmaaGreatDoor
