import Derived.Test.YtaifokkaaahdoaaGreatDoorCards
import Derived.KernelRfl
import Derived.SevenTiedAt
set_option linter.unusedSimpArgs false
set_option linter.unusedVariables false
set_option linter.unusedSectionVars false
set_option maxRecDepth 8000
namespace Go.Proofs.YtaifokkaaahdoaaGreatDoor
open Go
namespace inputsComplete
theorem wf:Rows.inputsCompleteRow.wfByText (OpenSpec.ofChange Rows.inputsCompleteSpec)=true:=by kernel_rfl
theorem goes:false=Rows.inputsCompleteRow.goesBy Tryz.prog:=by kernel_rfl
theorem named : Tryz.prog.funcNamed "amortcost/amortcostlaw38.InputsComplete" = some 3 := by kernel_rfl
theorem want:([22,25,28,29].all λu=>!Tryz.prog.wantsStandIn u)=true:=by kernel_rfl
end inputsComplete
end Go.Proofs.YtaifokkaaahdoaaGreatDoor
