/- IndexBack: the card. -/
import Derived.Test.YtfpmdpldabopjaaGreatDoorKRIndexBack
import Derived.Test.YtfpmdpldabopjaaGreatDoorKJ3
import Derived.Test.YtfpmdpldabopjaaGreatDoorKRIndexBackc
namespace Go.Proofs.YtfpmdpldabopjaaGreatDoor
open Go
namespace indexBack
theorem proved : Rows.IndexBackCardSaid :=
  Claim7.holds_tied_plain_at .later [] [.data, .data, .data, .sentinel, .sentinel] true (true, "008496c57e22ecb7dacca3f4dc05a980230e68cd2e5fbaadf8ead550cc111ad9") true
    over (fun _ h => by cases h) wf (fun _ h => by cases h) indexBack_row_tie rfl ⟨rfl, rfl⟩ card.main rfl
    (fun f fn hf hfn => by
      obtain rfl : f = 9 := Option.some.inj (named.symm.trans hf) |>.symm
      obtain rfl : fn = Tryz.f9 := (Option.some.inj (Tryz.func9.symm.trans hfn)).symm
      exact ⟨card.looks, fun j t ht => by
        rw [Tryz.params9] at ht
        have hm : t ∈ [22, 28, 37] := by simpa using Array.mem_of_getElem? ht
        exact (show Tryz.prog.wantsStandIn t = false by simpa using List.all_eq_true.1 want t hm)⟩)
    goes
#print axioms proved
end indexBack
end Go.Proofs.YtfpmdpldabopjaaGreatDoor
