import Derived.Test.YtaifokkaaahdoaaGreatDoorCards
import Derived.KernelRfl
import Derived.SevenTiedAt
set_option linter.unusedSimpArgs false
set_option linter.unusedVariables false
set_option linter.unusedSectionVars false
set_option maxRecDepth 8000
namespace Go.Proofs.YtaifokkaaahdoaaGreatDoor
namespace card
theorem main: Tryz.prog.mainIs = some (true, "347c80740dd8011cfe943110dba5dfe19915668accba1cb45e7e5bd119e23ac4".toList) := by kernel_rfl
theorem looks:false=Tryz.prog.looks []:=by kernel_rfl
theorem want:([22,25,28,29].all λu=>!Tryz.prog.wantsStandIn u)=true:=by kernel_rfl
end card
end Go.Proofs.YtaifokkaaahdoaaGreatDoor
