/- Names of constructors. -/
import Derived.Test.YtfpmdpldabopjaaGreatDoorKVa
import Derived.Test.YtfpmdpldabopjaaGreatDoorKYb
namespace Go.Proofs.YtfpmdpldabopjaaGreatDoor
open Go Go.Abs
set_option linter.unusedSimpArgs false
set_option linter.unusedVariables false
def conName (data : List Dat) (t : VT) (c : Int) : List UInt8 := match data[t.num.toNat]? with
  | some D => match D.cons[c.toNat]? with
    | some C => C.name
    | none => []
  | none => []
theorem con_bound {data : List Dat} (hk : KData data) (t : VT) (c : Int) : (conName data t c).length ≤ 40 := by
  unfold conName
  split
  · rename_i D hD
    split
    · rename_i C hC
      exact ((hk.2 D (List.mem_of_getElem? hD)).2.2 C (List.mem_of_getElem? hC)).1
    · simp
  · simp
end Go.Proofs.YtfpmdpldabopjaaGreatDoor
