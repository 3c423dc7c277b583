import Derived.Test.YtfpmdpldabopjaaGreatDoorCards
import Derived.KernelRfl
import Derived.SevenTiedAt
namespace Go.Proofs.YtfpmdpldabopjaaGreatDoor
open Go
namespace card
theorem main : Tryz.prog.mainIs = some (true, "008496c57e22ecb7dacca3f4dc05a980230e68cd2e5fbaadf8ead550cc111ad9".toList) := by kernel_rfl
theorem looks : true = Tryz.prog.looks [] := by kernel_rfl
theorem want : ([22, 25, 28].all fun u => !Tryz.prog.wantsStandIn u) = true := by kernel_rfl
end card
end Go.Proofs.YtfpmdpldabopjaaGreatDoor
