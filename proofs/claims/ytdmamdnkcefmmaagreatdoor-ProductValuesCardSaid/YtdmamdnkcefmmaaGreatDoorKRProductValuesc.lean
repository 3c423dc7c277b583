import Derived.Test.YtdmamdnkcefmmaaGreatDoorCards
import Derived.KernelRfl
import Derived.SevenTiedAt
set_option linter.unusedSimpArgs false
set_option linter.unusedVariables false
set_option maxRecDepth 8000
namespace Go.Proofs.YtdmamdnkcefmmaaGreatDoor
open Go
namespace productValues
theorem wf:Rows.productValuesRow.wfByText (OpenSpec.ofChange Rows.productValuesSpec)=true:=by kernel_rfl
theorem goes:false=Rows.productValuesRow.goesBy Tryz.prog:=by kernel_rfl
theorem named : Tryz.prog.funcNamed "amortcost/amortcostlaw17.ProductValues" = some 4 := by kernel_rfl
theorem want:([22,25,28,28,40].all λu=>!Tryz.prog.wantsStandIn u)=true:=by kernel_rfl
end productValues
end Go.Proofs.YtdmamdnkcefmmaaGreatDoor
