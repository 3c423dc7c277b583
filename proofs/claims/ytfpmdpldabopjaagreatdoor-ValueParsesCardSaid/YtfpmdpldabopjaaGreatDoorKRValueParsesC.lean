import Derived.Test.YtfpmdpldabopjaaGreatDoorKRValueParses
import Derived.Test.YtfpmdpldabopjaaGreatDoorKJ3
import Derived.Test.YtfpmdpldabopjaaGreatDoorKRValueParsesc
namespace Go.Proofs.YtfpmdpldabopjaaGreatDoor
open Go
namespace valueParses
theorem proved : Rows.ValueParsesCardSaid :=
 Claim7.holds_tied_plain_at .later [] [.data, .data, .data, .sentinel, .sentinel] true (true, "008496c57e22ecb7dacca3f4dc05a980230e68cd2e5fbaadf8ead550cc111ad9") true
  over (fun _ h => by cases h) wf (fun _ h => by cases h) valueParses_row_tie rfl ⟨rfl, rfl⟩ card.main rfl
  (fun f fn hf hfn => by
   obtain rfl : f = 10 := Option.some.inj (named.symm.trans hf) |>.symm
   obtain rfl : fn = Tryz.f10 := (Option.some.inj (Tryz.func10.symm.trans hfn)).symm
   exact ⟨card.looks, fun j t ht => by
    rw [Tryz.params10] at ht
    have hm : t ∈ [22, 28, 9] := by simpa using Array.mem_of_getElem? ht
    exact (show Tryz.prog.wantsStandIn t = false by simpa using List.all_eq_true.1 want t hm)⟩)
  goes
#print axioms proved
end valueParses
end Go.Proofs.YtfpmdpldabopjaaGreatDoor
