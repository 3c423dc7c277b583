import Derived.Test.YtfpmdpldabopjaaGreatDoorRows
import Derived.Test.YtfpmdpldabopjaaGreatDoorA3
namespace Go.Proofs.YtfpmdpldabopjaaGreatDoor
open Go Go.Abs
namespace valueParses
theorem j0 : jt0 Tryz.prog 10 Tryz.f10 Rows.valueParsesSpec Rows.valueParsesRow = true := by kernel_rfl
theorem j1 : jt1 Tryz.prog 10 Tryz.f10 Rows.valueParsesSpec Rows.valueParsesRow = true := by kernel_rfl
theorem j2 : jt2 Tryz.prog 10 Tryz.f10 Rows.valueParsesSpec Rows.valueParsesRow = true := by kernel_rfl
theorem j3 : jt3 Tryz.prog 10 Tryz.f10 Rows.valueParsesSpec Rows.valueParsesRow = true := by kernel_rfl
theorem j4 : jt4 Tryz.prog 10 Tryz.f10 Rows.valueParsesSpec Rows.valueParsesRow = true := by kernel_rfl
theorem j7 : jt7 Tryz.prog 10 Tryz.f10 Rows.valueParsesSpec Rows.valueParsesRow = true := by kernel_rfl
theorem j8 : jt8 Tryz.prog 10 Tryz.f10 Rows.valueParsesSpec Rows.valueParsesRow = true := by kernel_rfl
end valueParses
end Go.Proofs.YtfpmdpldabopjaaGreatDoor
