import Derived.Test.YtdmamdnkcefmmaaGreatDoorCards
import Derived.KernelRfl
import Derived.SevenTiedAt
set_option linter.unusedSimpArgs false
set_option linter.unusedVariables false
set_option maxRecDepth 8000
namespace Go.Proofs.YtdmamdnkcefmmaaGreatDoor
open Go
namespace productSquares
theorem wf:Rows.productSquaresRow.wfByText (OpenSpec.ofChange Rows.productSquaresSpec)=true:=by kernel_rfl
theorem goes:false=Rows.productSquaresRow.goesBy Tryz.prog:=by kernel_rfl
theorem named : Tryz.prog.funcNamed "amortcost/amortcostlaw17.ProductSquares" = some 7 := by kernel_rfl
theorem want:([22,25,28].all λu=>!Tryz.prog.wantsStandIn u)=true:=by kernel_rfl
end productSquares
end Go.Proofs.YtdmamdnkcefmmaaGreatDoor
