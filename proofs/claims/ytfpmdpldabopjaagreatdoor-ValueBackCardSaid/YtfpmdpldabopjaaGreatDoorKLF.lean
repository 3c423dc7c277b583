/- The table of powers of ten lies where the row says. -/
import Derived.Test.YtfpmdpldabopjaaGreatDoorKSH
import Derived.Test.YtfpmdpldabopjaaGreatDoorRows
import Derived.LaidSub
import Derived.MakeChecks
import Derived.Lib.AppendIntMem
namespace Go.Proofs.YtfpmdpldabopjaaGreatDoor
open Go Go.Abs Go.RowKit
theorem laidF_of {l : List (String × DataW Unit)} {W : World} (h : laidMetH Tryz.prog l W) (h2 : l.filter (fun x => x.1 == "internal/strconv.uint64pow10") = [("internal/strconv.uint64pow10", Lib.tabData .u64 Lib.pow10Tab)]) :
    ∀ w', Below W.heap.size W w' → LF w' := by
  have h1 := h.filter (fun x => x.1 == "internal/strconv.uint64pow10")
  rw [h2, Go.MakeChecks.laidMetH_plain _ _ _ rfl] at h1
  exact Lib.tabBelow_of_tabIs (Lib.tabIs_of_head (g := 0) (t := 240) (e := 189) (n := 20) (by kernel_rfl) (by kernel_rfl) Tryz.underlying240 (by kernel_rfl) (by kernel_rfl) (by kernel_rfl) h1)
end Go.Proofs.YtfpmdpldabopjaaGreatDoor
