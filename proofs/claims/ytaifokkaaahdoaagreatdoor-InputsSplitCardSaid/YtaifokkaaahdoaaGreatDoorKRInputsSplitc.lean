import Derived.Test.YtaifokkaaahdoaaGreatDoorCards
import Derived.KernelRfl
import Derived.SevenTiedAt
set_option linter.unusedSimpArgs false
set_option linter.unusedVariables false
set_option maxRecDepth 8000
namespace Go.Proofs.YtaifokkaaahdoaaGreatDoor
open Go
namespace inputsSplit
theorem wf:Rows.inputsSplitRow.wfByText (OpenSpec.ofChange Rows.inputsSplitSpec)=true:=by kernel_rfl
theorem goes:false=Rows.inputsSplitRow.goesBy Tryz.prog:=by kernel_rfl
theorem named : Tryz.prog.funcNamed "amortcost/amortcostlaw38.InputsSplit" = some 5 := by kernel_rfl
theorem want:([22,25,25,3,29].all λu=>!Tryz.prog.wantsStandIn u)=true:=by kernel_rfl
end inputsSplit
end Go.Proofs.YtaifokkaaahdoaaGreatDoor
