import Derived.Test.YtddlhljflggenaaGreatDoorKRIndexUnits
import Derived.Test.YtddlhljflggenaaGreatDoorKJ3
import Derived.Test.YtddlhljflggenaaGreatDoorKRIndexUnitsc
set_option linter.unusedSimpArgs false
set_option linter.unusedVariables false
namespace Go.Proofs.YtddlhljflggenaaGreatDoor
open Go
namespace indexUnits
theorem proved : Rows.IndexUnitsCardSaid :=
 Claim7.holds_tied_plain_at .later [] [.data, .data, .data] true (true, "47fb50020ac64b876a24632769c33064fa09b423f5f2b8324b6909ebefbb76f7") false
  over (fun _ h => by cases h) wf (fun _ h => by cases h) indexUnits_row_tie rfl ⟨rfl, rfl⟩ card.main rfl
  (fun f fn hf hfn => by
   obtain rfl : f = 5 := Option.some.inj (named.symm.trans hf) |>.symm
   obtain rfl : fn = Tryz.f5 := (Option.some.inj (Tryz.func5.symm.trans hfn)).symm
   exact ⟨card.looks, fun j t ht => by
    rw [Tryz.params5] at ht
    have hm : t ∈ [22, 25] := by simpa using Array.mem_of_getElem? ht
    exact (show Tryz.prog.wantsStandIn t = false by simpa using List.all_eq_true.1 want t hm)⟩)
  goes
#print axioms proved
end indexUnits
end Go.Proofs.YtddlhljflggenaaGreatDoor
