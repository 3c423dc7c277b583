import Derived.Test.YtdmamdnkcefmmaaGreatDoorKTz
set_option linter.unusedSimpArgs false
set_option linter.unusedVariables false
set_option linter.unusedSectionVars false
set_option linter.defProp false
set_option maxRecDepth 100000
namespace Go.Proofs.YtdmamdnkcefmmaaGreatDoor
def zMd:∀(n:Nat) (l:List AV),vQ tP n 28 l→∃v:IT,l=v.cs:=by
 intro n;induction n using Nat.strongRecOn with
 |_ n ih=>
  intro l h;obtain⟨n',hn,hl,hf⟩:=DJ Tryz.underlying28 h;have hc:tP.cellsOf 28=2:=by kernel_rfl
  have kA:tP.cellsOf 3=1:=by kernel_rfl
  have hc26:tP.cellsOf 26=1:=by kernel_rfl
  rw[hc]at hl
  match l,hl with
  |[b,c],_=>simp[kA,hc26]at hf;obtain⟨h2,h3⟩:=hf;obtain⟨m,hm,_⟩:=F7 Tryz.underlying3 h2;obtain⟨es,n2,ig,gm,_,ja⟩:=Ce Tryz.underlying26 h3;obtain⟨ks,iK⟩:=AY (cs:=IT.cs) (λc hc=>ih n2 (by omega) c (ja c hc));simp at hm gm;exact⟨.mk m ks,by simp[IT.cs,IT.ZC,hm,gm,iK]⟩
end Go.Proofs.YtdmamdnkcefmmaaGreatDoor
