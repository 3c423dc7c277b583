import Derived.Test.YtfpmdpldabopjaaGreatDoorIT
import Derived.Test.YtfpmdpldabopjaaGreatDoorKTz
namespace Go.Proofs.YtfpmdpldabopjaaGreatDoor
open Go Go.Abs
set_option maxRecDepth 100000
end Go.Proofs.YtfpmdpldabopjaaGreatDoor
