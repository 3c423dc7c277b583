import Derived.Test.YtdmamdnkcefmmaaGreatDoorAbsQ1
import Derived.Test.YtdmamdnkcefmmaaGreatDoorProg
set_option linter.unusedSimpArgs false
set_option linter.unusedVariables false
set_option linter.unusedSectionVars false
set_option linter.defProp false
set_option maxRecDepth 8000
namespace Go.Proofs.YtdmamdnkcefmmaaGreatDoor
noncomputable abbrev tP:=Tryz.prog
def bd(f:Func):Code:=f.body.getD .skip
def acb{P:Program}{H:or}{f:FuncId}{fn:Func}{args:List AV}{K:AV→or→Prop}{X:Prop}(M:Nat→List Bool)(hf:P.funcs[f]?=some fn)(h:HSc H→X)(hb:fn.body=some (bd fn):=by kernel_rfl)(e:awp P M (bd fn) (uq P fn.results.toList K) (args++List.replicate (fn.ntmps-args.length) .unk) H=X:=by kernel_rfl):ge P f args H K:=
 zao (M:=M) hf hb λhs=>Eq.mpr e (h hs)
end Go.Proofs.YtdmamdnkcefmmaaGreatDoor
