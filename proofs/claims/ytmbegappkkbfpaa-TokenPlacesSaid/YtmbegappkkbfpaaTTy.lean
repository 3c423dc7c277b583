/- Strings among the arguments. -/
import Derived.Test.YtmbegappkkbfpaaAbsT
import Derived.Test.YtmbegappkkbfpaaProg
import Derived.KernelRfl
namespace Go.Proofs.Ytmbegappkkbfpaa
open Go Go.Abs
theorem strTypes : plainTypes Try.prog [9] = true := by kernel_rfl
end Go.Proofs.Ytmbegappkkbfpaa
