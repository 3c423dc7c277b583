import Derived.Test.YtdmamdnkcefmmaaGreatDoorCards
import Derived.KernelRfl
import Derived.SevenTiedAt
set_option linter.unusedSimpArgs false
set_option linter.unusedVariables false
set_option linter.unusedSectionVars false
set_option maxRecDepth 8000
namespace Go.Proofs.YtdmamdnkcefmmaaGreatDoor
namespace card
theorem main: Tryz.prog.mainIs = some (true, "ab6d9d8f300ae907b9f7db5d6b02ebe62e30a8fd4e2257acb0b346b3fba7f293".toList) := by kernel_rfl
theorem looks:false=Tryz.prog.looks []:=by kernel_rfl
theorem want:([22,25,28,40].all λu=>!Tryz.prog.wantsStandIn u)=true:=by kernel_rfl
end card
end Go.Proofs.YtdmamdnkcefmmaaGreatDoor
