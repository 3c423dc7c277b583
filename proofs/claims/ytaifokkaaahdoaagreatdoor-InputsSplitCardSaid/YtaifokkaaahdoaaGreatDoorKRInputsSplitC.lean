import Derived.Test.YtaifokkaaahdoaaGreatDoorKRInputsSplit
import Derived.Test.YtaifokkaaahdoaaGreatDoorKJ3
import Derived.Test.YtaifokkaaahdoaaGreatDoorKRInputsSplitc
set_option linter.unusedSimpArgs false
set_option linter.unusedVariables false
set_option maxRecDepth 8000
namespace Go.Proofs.YtaifokkaaahdoaaGreatDoor
open Go
namespace inputsSplit
theorem proved:Rows.InputsSplitCardSaid:=
 Claim7.holds_tied_plain_at .later [] [.data, .data, .data] true (true, "347c80740dd8011cfe943110dba5dfe19915668accba1cb45e7e5bd119e23ac4") false
  over (λ_ h=>by cases h) wf (λ_ h=>by cases h) inputsSplit_row_tie rfl ⟨rfl,rfl⟩ card.main rfl
  (λf fn hf hfn=>by
   obtain rfl:f=5:=Option.some.inj (named.symm.trans hf) |>.symm
   obtain rfl:fn=Tryz.f5:=(Option.some.inj (Tryz.func5.symm.trans hfn)).symm
   exact⟨card.looks,λj t ht=>by
    rw[Tryz.params5]at ht
    have hm:t∈[22,25,25,3,29]:=by simpa using Array.mem_of_getElem? ht
    exact (show Tryz.prog.wantsStandIn t=false by simpa using List.all_eq_true.1 want t hm)⟩)
  goes
#print axioms proved
end inputsSplit
end Go.Proofs.YtaifokkaaahdoaaGreatDoor
