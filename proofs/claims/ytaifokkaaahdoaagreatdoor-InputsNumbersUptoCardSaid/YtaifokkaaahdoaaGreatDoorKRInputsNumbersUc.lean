import Derived.Test.YtaifokkaaahdoaaGreatDoorCards
import Derived.KernelRfl
import Derived.SevenTiedAt
set_option linter.unusedSimpArgs false
set_option linter.unusedVariables false
set_option linter.unusedSectionVars false
set_option maxRecDepth 8000
namespace Go.Proofs.YtaifokkaaahdoaaGreatDoor
open Go
namespace inputsNumbersUpto
theorem wf:Rows.inputsNumbersUptoRow.wfByText (Rows.OpenSpec.upto Rows.inputsNumbersSpec)=true:=by kernel_rfl
theorem goes:false=Rows.inputsNumbersUptoRow.goesBy Tryz.prog:=by kernel_rfl
theorem named : Tryz.prog.funcNamed "amortcost/amortcostlaw38.InputsNumbers" = some 4 := by kernel_rfl
theorem want:([22,25,3,3].all λu=>!Tryz.prog.wantsStandIn u)=true:=by kernel_rfl
end inputsNumbersUpto
end Go.Proofs.YtaifokkaaahdoaaGreatDoor
