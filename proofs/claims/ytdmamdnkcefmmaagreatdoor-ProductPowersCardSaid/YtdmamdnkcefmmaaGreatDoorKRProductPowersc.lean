import Derived.Test.YtdmamdnkcefmmaaGreatDoorCards
import Derived.KernelRfl
import Derived.SevenTiedAt
set_option linter.unusedSimpArgs false
set_option linter.unusedVariables false
set_option maxRecDepth 8000
namespace Go.Proofs.YtdmamdnkcefmmaaGreatDoor
open Go
namespace productPowers
theorem wf:Rows.productPowersRow.wfByText (OpenSpec.ofChange Rows.productPowersSpec)=true:=by kernel_rfl
theorem goes:false=Rows.productPowersRow.goesBy Tryz.prog:=by kernel_rfl
theorem named : Tryz.prog.funcNamed "amortcost/amortcostlaw17.ProductPowers" = some 6 := by kernel_rfl
theorem want:([22,25,28,3].all λu=>!Tryz.prog.wantsStandIn u)=true:=by kernel_rfl
end productPowers
end Go.Proofs.YtdmamdnkcefmmaaGreatDoor
