import Derived.Test.YtdmamdnkcefmmaaGreatDoorKRProductCombines
import Derived.Test.YtdmamdnkcefmmaaGreatDoorKJ3
import Derived.Test.YtdmamdnkcefmmaaGreatDoorKRProductCombinesc
set_option linter.unusedSimpArgs false
set_option linter.unusedVariables false
set_option linter.unusedSectionVars false
set_option maxRecDepth 8000
namespace Go.Proofs.YtdmamdnkcefmmaaGreatDoor
open Go
namespace productCombines
theorem proved:Rows.ProductCombinesCardSaid:=
 Claim7.holds_tied_plain_at .later [] [.data, .data, .data] true (true, "ab6d9d8f300ae907b9f7db5d6b02ebe62e30a8fd4e2257acb0b346b3fba7f293") false
  over (λ_ h=>by cases h) wf (λ_ h=>by cases h) productCombines_row_tie rfl ⟨rfl,rfl⟩ card.main rfl
  (λf fn hf hfn=>by
   obtain rfl:f=8:=Option.some.inj (named.symm.trans hf) |>.symm
   obtain rfl:fn=Tryz.f8:=(Option.some.inj (Tryz.func8.symm.trans hfn)).symm
   exact⟨card.looks,λj t ht=>by
    rw[Tryz.params8]at ht
    have hm:t∈[22,25,31,31]:=by simpa using Array.mem_of_getElem? ht
    exact (show Tryz.prog.wantsStandIn t=false by simpa using List.all_eq_true.1 want t hm)⟩)
  goes
#print axioms proved
end productCombines
end Go.Proofs.YtdmamdnkcefmmaaGreatDoor
