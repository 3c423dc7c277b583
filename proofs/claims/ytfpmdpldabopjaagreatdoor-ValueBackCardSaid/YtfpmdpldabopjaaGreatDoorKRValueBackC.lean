/- ValueBack: the card. -/
import Derived.Test.YtfpmdpldabopjaaGreatDoorKRValueBack
import Derived.Test.YtfpmdpldabopjaaGreatDoorKJ3
import Derived.Test.YtfpmdpldabopjaaGreatDoorKRValueBackc
namespace Go.Proofs.YtfpmdpldabopjaaGreatDoor
open Go
namespace valueBack
theorem proved : Rows.ValueBackCardSaid :=
  Claim7.holds_tied_plain_at .later [] [.data, .data, .data, .sentinel, .sentinel] true (true, "008496c57e22ecb7dacca3f4dc05a980230e68cd2e5fbaadf8ead550cc111ad9") true
    over (fun _ h => by cases h) wf (fun _ h => by cases h) valueBack_row_tie rfl ⟨rfl, rfl⟩ card.main rfl
    (fun f fn hf hfn => by
      obtain rfl : f = 11 := Option.some.inj (named.symm.trans hf) |>.symm
      obtain rfl : fn = Tryz.f11 := (Option.some.inj (Tryz.func11.symm.trans hfn)).symm
      exact ⟨card.looks, fun j t ht => by
        rw [Tryz.params11] at ht
        have hm : t ∈ [22, 25, 28] := by simpa using Array.mem_of_getElem? ht
        exact (show Tryz.prog.wantsStandIn t = false by simpa using List.all_eq_true.1 want t hm)⟩)
    goes
#print axioms proved
end valueBack
end Go.Proofs.YtfpmdpldabopjaaGreatDoor
