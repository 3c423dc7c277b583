import Derived.Test.YtdmamdnkcefmmaaGreatDoorKRProductRing
import Derived.Test.YtdmamdnkcefmmaaGreatDoorKJ3
import Derived.Test.YtdmamdnkcefmmaaGreatDoorKRProductRingc
set_option linter.unusedSimpArgs false
set_option linter.unusedVariables false
set_option maxRecDepth 8000
namespace Go.Proofs.YtdmamdnkcefmmaaGreatDoor
open Go
namespace productRing
theorem proved:Rows.ProductRingCardSaid:=
 Claim7.holds_tied_plain_at .later [] [.data, .data, .data] true (true, "ab6d9d8f300ae907b9f7db5d6b02ebe62e30a8fd4e2257acb0b346b3fba7f293") false
  over (λ_ h=>by cases h) wf (λ_ h=>by cases h) productRing_row_tie rfl ⟨rfl,rfl⟩ card.main rfl
  (λf fn hf hfn=>by
   obtain rfl:f=9:=Option.some.inj (named.symm.trans hf) |>.symm
   obtain rfl:fn=Tryz.f9:=(Option.some.inj (Tryz.func9.symm.trans hfn)).symm
   exact⟨card.looks,λj t ht=>by
    rw[Tryz.params9]at ht
    have hm:t∈[22,25,28,28,28]:=by simpa using Array.mem_of_getElem? ht
    exact (show Tryz.prog.wantsStandIn t=false by simpa using List.all_eq_true.1 want t hm)⟩)
  goes
#print axioms proved
end productRing
end Go.Proofs.YtdmamdnkcefmmaaGreatDoor
