import Derived.Test.YtaifokkaaahdoaaGreatDoorAbsQ1
import Derived.Test.YtaifokkaaahdoaaGreatDoorAbsT
import Derived.Test.YtaifokkaaahdoaaGreatDoorKNum
import Derived.Test.YtaifokkaaahdoaaGreatDoorLA1
import Derived.Test.YtaifokkaaahdoaaGreatDoorLE3
import Derived.Test.YtaifokkaaahdoaaGreatDoorProg
import Derived.KernelRfl
set_option linter.unusedSimpArgs false
set_option linter.unusedVariables false
set_option linter.unusedSectionVars false
set_option maxRecDepth 100000
namespace Go.Proofs.YtaifokkaaahdoaaGreatDoor
theorem zlw:zhm tP [22,57,55,59,23,25,28,26,29,2,3,9]=true:=by kernel_rfl
theorem ce3:tP.cellsOf 3=1:=by kernel_rfl
theorem ce9:tP.cellsOf 9=1:=by kernel_rfl
theorem zwy:tP.cellsOf 23=1:=by kernel_rfl
theorem zGn:tP.cellsOf 55=1:=by kernel_rfl
theorem zGm:tP.cellsOf 25=3:=by kernel_rfl
theorem zGo:tP.cellsOf 57=3:=by kernel_rfl
theorem zGp:tP.cellsOf 59=2:=by kernel_rfl
def zFm(c:Con):Prop:=∀x∈c.args,zbw x
def zFf(l:List Dat):Prop:=l.length≤9223372036854775807∧∀D∈l,∀c∈D.cons,∀x∈c.args,zbw x
end Go.Proofs.YtaifokkaaahdoaaGreatDoor
