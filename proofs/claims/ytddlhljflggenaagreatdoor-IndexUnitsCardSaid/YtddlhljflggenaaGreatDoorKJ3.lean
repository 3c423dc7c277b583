import Derived.Test.YtddlhljflggenaaGreatDoorCards
import Derived.KernelRfl
import Derived.SevenTiedAt
set_option linter.unusedSimpArgs false
set_option linter.unusedVariables false
namespace Go.Proofs.YtddlhljflggenaaGreatDoor
open Go
namespace card
theorem main : Tryz.prog.mainIs = some (true, "47fb50020ac64b876a24632769c33064fa09b423f5f2b8324b6909ebefbb76f7".toList) := by kernel_rfl
theorem looks : false = Tryz.prog.looks [] := by kernel_rfl
theorem want : ([22, 25, 35].all fun u => !Tryz.prog.wantsStandIn u) = true := by kernel_rfl
end card
end Go.Proofs.YtddlhljflggenaaGreatDoor
