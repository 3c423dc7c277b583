/- ValueNodes: the row's cells, in parts. -/
import Derived.Test.YtfpmdpldabopjaaGreatDoorRows
import Derived.Test.YtfpmdpldabopjaaGreatDoorA3
namespace Go.Proofs.YtfpmdpldabopjaaGreatDoor
open Go Go.Abs
namespace valueNodes
theorem j5 : jt5 Tryz.prog 7 Tryz.f7 Rows.valueNodesSpec Rows.valueNodesRow = true := by kernel_rfl
theorem j6 : jt6 Tryz.prog 7 Tryz.f7 Rows.valueNodesSpec Rows.valueNodesRow = true := by kernel_rfl
theorem j9 : jt9 Tryz.prog 7 Tryz.f7 Rows.valueNodesSpec Rows.valueNodesRow = true := by kernel_rfl
theorem j10 : jt10 Tryz.prog 7 Tryz.f7 Rows.valueNodesSpec Rows.valueNodesRow = true := by kernel_rfl
theorem j11 : jt11 Tryz.prog 7 Tryz.f7 Rows.valueNodesSpec Rows.valueNodesRow = true := by kernel_rfl
end valueNodes
end Go.Proofs.YtfpmdpldabopjaaGreatDoor
