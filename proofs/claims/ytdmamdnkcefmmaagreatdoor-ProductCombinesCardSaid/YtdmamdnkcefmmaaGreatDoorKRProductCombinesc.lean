import Derived.Test.YtdmamdnkcefmmaaGreatDoorCards
import Derived.KernelRfl
import Derived.SevenTiedAt
set_option linter.unusedSimpArgs false
set_option linter.unusedVariables false
set_option linter.unusedSectionVars false
set_option maxRecDepth 8000
namespace Go.Proofs.YtdmamdnkcefmmaaGreatDoor
open Go
namespace productCombines
theorem wf:Rows.productCombinesRow.wfByText (OpenSpec.ofChange Rows.productCombinesSpec)=true:=by kernel_rfl
theorem goes:false=Rows.productCombinesRow.goesBy Tryz.prog:=by kernel_rfl
theorem named : Tryz.prog.funcNamed "amortcost/amortcostlaw17.ProductCombines" = some 8 := by kernel_rfl
theorem want:([22,25,31,31].all λu=>!Tryz.prog.wantsStandIn u)=true:=by kernel_rfl
end productCombines
end Go.Proofs.YtdmamdnkcefmmaaGreatDoor
