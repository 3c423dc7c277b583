/- ValueTypes: awake, and the law. -/
import Derived.Test.YtfpmdpldabopjaaGreatDoorKBa
import Derived.Test.YtfpmdpldabopjaaGreatDoorKVb
namespace Go.Proofs.YtfpmdpldabopjaaGreatDoor
open Go Go.Abs
set_option linter.unusedSimpArgs false
set_option linter.unusedVariables false
set_option maxRecDepth 8000
theorem kdata_nil : KData [] := by
  refine ⟨by simp, fun D hD => by simp at hD⟩
def v37 : AV := .agg [.int .i64 3, .int .i64 7, .snil]
def t10 : AV := .agg [.int .i64 1, .int .i64 0, .snil]
end Go.Proofs.YtfpmdpldabopjaaGreatDoor
