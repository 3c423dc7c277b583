import Derived.Test.YtfpmdpldabopjaaGreatDoorRows
import Derived.Test.YtfpmdpldabopjaaGreatDoorA3
namespace Go.Proofs.YtfpmdpldabopjaaGreatDoor
open Go Go.Abs
namespace valueParses
theorem j5 : jt5 Tryz.prog 10 Tryz.f10 Rows.valueParsesSpec Rows.valueParsesRow = true := by kernel_rfl
theorem j6 : jt6 Tryz.prog 10 Tryz.f10 Rows.valueParsesSpec Rows.valueParsesRow = true := by kernel_rfl
theorem j9 : jt9 Tryz.prog 10 Tryz.f10 Rows.valueParsesSpec Rows.valueParsesRow = true := by kernel_rfl
theorem j10 : jt10 Tryz.prog 10 Tryz.f10 Rows.valueParsesSpec Rows.valueParsesRow = true := by kernel_rfl
theorem j11 : jt11 Tryz.prog 10 Tryz.f10 Rows.valueParsesSpec Rows.valueParsesRow = true := by kernel_rfl
end valueParses
end Go.Proofs.YtfpmdpldabopjaaGreatDoor
