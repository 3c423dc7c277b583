/- IndexParses: the card. -/
import Derived.Test.YtfpmdpldabopjaaGreatDoorKRIndexParses
import Derived.Test.YtfpmdpldabopjaaGreatDoorKJ3
import Derived.Test.YtfpmdpldabopjaaGreatDoorKRIndexParsesc
namespace Go.Proofs.YtfpmdpldabopjaaGreatDoor
open Go
namespace indexParses
theorem proved : Rows.IndexParsesCardSaid :=
  Claim7.holds_tied_plain_at .later [] [.data, .data, .data, .sentinel, .sentinel] true (true, "008496c57e22ecb7dacca3f4dc05a980230e68cd2e5fbaadf8ead550cc111ad9") true
    over (fun _ h => by cases h) wf (fun _ h => by cases h) indexParses_row_tie rfl ⟨rfl, rfl⟩ card.main rfl
    (fun f fn hf hfn => by
      obtain rfl : f = 8 := Option.some.inj (named.symm.trans hf) |>.symm
      obtain rfl : fn = Tryz.f8 := (Option.some.inj (Tryz.func8.symm.trans hfn)).symm
      exact ⟨card.looks, fun j t ht => by
        rw [Tryz.params8] at ht
        have hm : t ∈ [22, 28, 9] := by simpa using Array.mem_of_getElem? ht
        exact (show Tryz.prog.wantsStandIn t = false by simpa using List.all_eq_true.1 want t hm)⟩)
    goes
#print axioms proved
end indexParses
end Go.Proofs.YtfpmdpldabopjaaGreatDoor
