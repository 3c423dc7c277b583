import Derived.Test.YtdmamdnkcefmmaaGreatDoorCards
import Derived.KernelRfl
import Derived.SevenTiedAt
set_option linter.unusedSimpArgs false
set_option linter.unusedVariables false
set_option maxRecDepth 8000
namespace Go.Proofs.YtdmamdnkcefmmaaGreatDoor
open Go
namespace productRing
theorem wf:Rows.productRingRow.wfByText (OpenSpec.ofChange Rows.productRingSpec)=true:=by kernel_rfl
theorem goes:false=Rows.productRingRow.goesBy Tryz.prog:=by kernel_rfl
theorem named : Tryz.prog.funcNamed "amortcost/amortcostlaw17.ProductRing" = some 9 := by kernel_rfl
theorem want:([22,25,28,28,28].all λu=>!Tryz.prog.wantsStandIn u)=true:=by kernel_rfl
end productRing
end Go.Proofs.YtdmamdnkcefmmaaGreatDoor
