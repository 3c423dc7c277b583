import Derived.Test.YtaifokkaaahdoaaGreatDoorKGY2
import Derived.Test.YtaifokkaaahdoaaGreatDoorAbsT
import Derived.Test.YtaifokkaaahdoaaGreatDoorKNum
import Derived.Test.YtaifokkaaahdoaaGreatDoorKGT1
import Derived.Test.YtaifokkaaahdoaaGreatDoorLE4
import Derived.Test.YtaifokkaaahdoaaGreatDoorProg
import Derived.KernelRfl
set_option linter.unusedSimpArgs false
set_option linter.unusedVariables false
set_option linter.unusedSectionVars false
set_option maxRecDepth 8000
namespace Go.Proofs.YtaifokkaaahdoaaGreatDoor
open Go Go.Abs
set_option maxRecDepth 100000
theorem zj9:zgu tP [22,57,55,59,23,25,28,26,29,2,3,9]=true:=by kernel_rfl
theorem ce3:tP.cellsOf 3=1:=by kernel_rfl
theorem ce2:tP.cellsOf 2=1:=by kernel_rfl
theorem ce9:tP.cellsOf 9=1:=by kernel_rfl
theorem zBI:tP.cellsOf 26=1:=by kernel_rfl
theorem zty:tP.cellsOf 23=1:=by kernel_rfl
theorem zBK:tP.cellsOf 55=1:=by kernel_rfl
theorem zBJ:tP.cellsOf 28=3:=by kernel_rfl
theorem zBH:tP.cellsOf 25=3:=by kernel_rfl
theorem zBL:tP.cellsOf 57=3:=by kernel_rfl
theorem zBM:tP.cellsOf 59=2:=by kernel_rfl
theorem zCH(n:Nat)(a:AV)(h:zcv tP n 29 [a]):∃x:{l:List Int // l.length≤9223372036854775807},a=.sl (ints x.1) .none:=by
 obtain⟨es,n1,_,hes,hm,hel⟩:=zFH Tryz.underlying29 h;obtain⟨k,hk⟩:=zuI (cs:=λx:Int=>[AV.int .i64 x]) (λc hc=>by
  obtain⟨m,hm,_⟩:=zFG Tryz.underlying2 (hel c hc);exact⟨m,hm⟩)
 simp at hes;refine⟨⟨k,?_⟩,by rw[hes,hk];rfl⟩;rw[hk]at hm;simpa[maxLen]using hm
def zAP(c:Con):Prop:=∀x∈c.args,zbm x
def zAH(l:List Dat):Prop:=l.length≤9223372036854775807∧∀D∈l,∀c∈D.cons,∀x∈c.args,zbm x
end Go.Proofs.YtaifokkaaahdoaaGreatDoor
