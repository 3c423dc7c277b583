/- ValueFormats: the card. -/
import Derived.Test.YtfpmdpldabopjaaGreatDoorKRValueFormats
import Derived.Test.YtfpmdpldabopjaaGreatDoorKJ3
import Derived.Test.YtfpmdpldabopjaaGreatDoorKRValueFormatsc
namespace Go.Proofs.YtfpmdpldabopjaaGreatDoor
open Go
namespace valueFormats
theorem proved : Rows.ValueFormatsCardSaid :=
  Claim7.holds_tied_plain_at .later [] [.data, .data, .data] true (true, "008496c57e22ecb7dacca3f4dc05a980230e68cd2e5fbaadf8ead550cc111ad9") true
    over (fun _ h => by cases h) wf (fun _ h => by cases h) valueFormats_row_tie rfl ⟨rfl, rfl⟩ card.main rfl
    (fun f fn hf hfn => by
      obtain rfl : f = 4 := Option.some.inj (named.symm.trans hf) |>.symm
      obtain rfl : fn = Tryz.f4 := (Option.some.inj (Tryz.func4.symm.trans hfn)).symm
      exact ⟨card.looks, fun j t ht => by
        rw [Tryz.params4] at ht
        have hm : t ∈ [22, 25, 28] := by simpa using Array.mem_of_getElem? ht
        exact (show Tryz.prog.wantsStandIn t = false by simpa using List.all_eq_true.1 want t hm)⟩)
    goes
#print axioms proved
end valueFormats
end Go.Proofs.YtfpmdpldabopjaaGreatDoor
