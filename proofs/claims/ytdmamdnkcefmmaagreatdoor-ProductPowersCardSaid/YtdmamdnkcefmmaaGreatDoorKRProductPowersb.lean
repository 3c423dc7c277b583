import Derived.Test.YtdmamdnkcefmmaaGreatDoorRows
import Derived.Test.YtdmamdnkcefmmaaGreatDoorAbsJF
set_option linter.unusedSimpArgs false
set_option linter.unusedVariables false
set_option maxRecDepth 8000
namespace Go.Proofs.YtdmamdnkcefmmaaGreatDoor
open Go
namespace productPowers
theorem j5:jt5 Tryz.prog 6 Tryz.f6 Rows.productPowersSpec Rows.productPowersRow=true:=by kernel_rfl
theorem j6:jt6 Tryz.prog 6 Tryz.f6 Rows.productPowersSpec Rows.productPowersRow=true:=by kernel_rfl
theorem j9:jt9 Tryz.prog 6 Tryz.f6 Rows.productPowersSpec Rows.productPowersRow=true:=by kernel_rfl
theorem j10:zqS Tryz.prog 6 Tryz.f6 Rows.productPowersSpec Rows.productPowersRow=true:=by kernel_rfl
theorem j11:zqT Tryz.prog 6 Tryz.f6 Rows.productPowersSpec Rows.productPowersRow=true:=by kernel_rfl
end productPowers
end Go.Proofs.YtdmamdnkcefmmaaGreatDoor
