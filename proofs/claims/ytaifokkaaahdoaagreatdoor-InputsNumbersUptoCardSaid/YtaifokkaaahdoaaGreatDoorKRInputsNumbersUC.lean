import Derived.Test.YtaifokkaaahdoaaGreatDoorKRInputsNumbersU
import Derived.Test.YtaifokkaaahdoaaGreatDoorKRInputsNumbersUc
import Derived.Test.YtaifokkaaahdoaaGreatDoorKJ3
set_option linter.unusedSimpArgs false
set_option linter.unusedVariables false
set_option linter.unusedSectionVars false
set_option maxRecDepth 8000
namespace Go.Proofs.YtaifokkaaahdoaaGreatDoor
open Go
namespace inputsNumbersUpto
theorem proved:Rows.InputsNumbersUptoCardSaid:=
 Claim7.holds_tied_plain_at .later [] [.data, .data, .data] true (true, "347c80740dd8011cfe943110dba5dfe19915668accba1cb45e7e5bd119e23ac4") false
  over (λ_ h=>by cases h) wf (λ_ h=>by cases h) inputsNumbersUpto_row_tie rfl ⟨rfl,rfl⟩ card.main rfl
  (λf fn hf hfn=>by
   obtain rfl:f=4:=Option.some.inj (named.symm.trans hf) |>.symm
   obtain rfl:fn=Tryz.f4:=(Option.some.inj (Tryz.func4.symm.trans hfn)).symm
   exact⟨card.looks,λj t ht=>by
    rw[Tryz.params4]at ht
    have hm:t∈[22,25,3,3]:=by simpa using Array.mem_of_getElem? ht
    exact (show Tryz.prog.wantsStandIn t=false by simpa using List.all_eq_true.1 want t hm)⟩)
  goes
#print axioms proved
end inputsNumbersUpto
end Go.Proofs.YtaifokkaaahdoaaGreatDoor
