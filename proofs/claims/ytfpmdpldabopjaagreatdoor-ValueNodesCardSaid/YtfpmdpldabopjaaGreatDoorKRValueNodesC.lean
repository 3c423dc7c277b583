/- ValueNodes: the card. -/
import Derived.Test.YtfpmdpldabopjaaGreatDoorKRValueNodes
import Derived.Test.YtfpmdpldabopjaaGreatDoorKJ3
import Derived.Test.YtfpmdpldabopjaaGreatDoorKRValueNodesc
namespace Go.Proofs.YtfpmdpldabopjaaGreatDoor
open Go
namespace valueNodes
theorem proved : Rows.ValueNodesCardSaid :=
  Claim7.holds_tied_plain_at .later [] [.data, .data, .data] true (true, "008496c57e22ecb7dacca3f4dc05a980230e68cd2e5fbaadf8ead550cc111ad9") true
    over (fun _ h => by cases h) wf (fun _ h => by cases h) valueNodes_row_tie rfl ⟨rfl, rfl⟩ card.main rfl
    (fun f fn hf hfn => by
      obtain rfl : f = 7 := Option.some.inj (named.symm.trans hf) |>.symm
      obtain rfl : fn = Tryz.f7 := (Option.some.inj (Tryz.func7.symm.trans hfn)).symm
      exact ⟨card.looks, fun j t ht => by
        rw [Tryz.params7] at ht
        have hm : t ∈ [22, 25, 28] := by simpa using Array.mem_of_getElem? ht
        exact (show Tryz.prog.wantsStandIn t = false by simpa using List.all_eq_true.1 want t hm)⟩)
    goes
#print axioms proved
end valueNodes
end Go.Proofs.YtfpmdpldabopjaaGreatDoor
