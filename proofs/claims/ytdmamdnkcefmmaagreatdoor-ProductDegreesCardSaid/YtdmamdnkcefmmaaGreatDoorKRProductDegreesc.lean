import Derived.Test.YtdmamdnkcefmmaaGreatDoorCards
import Derived.KernelRfl
import Derived.SevenTiedAt
set_option linter.unusedSimpArgs false
set_option linter.unusedVariables false
set_option maxRecDepth 8000
namespace Go.Proofs.YtdmamdnkcefmmaaGreatDoor
open Go
namespace productDegrees
theorem wf:Rows.productDegreesRow.wfByText (OpenSpec.ofChange Rows.productDegreesSpec)=true:=by kernel_rfl
theorem goes:false=Rows.productDegreesRow.goesBy Tryz.prog:=by kernel_rfl
theorem named : Tryz.prog.funcNamed "amortcost/amortcostlaw17.ProductDegrees" = some 5 := by kernel_rfl
theorem want:([22,25,28,28].all fun u=>!Tryz.prog.wantsStandIn u)=true:=by kernel_rfl
end productDegrees
end Go.Proofs.YtdmamdnkcefmmaaGreatDoor
