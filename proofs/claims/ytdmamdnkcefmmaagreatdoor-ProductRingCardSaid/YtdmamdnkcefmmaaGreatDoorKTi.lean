import Derived.Test.YtdmamdnkcefmmaaGreatDoorIT
import Derived.Test.YtdmamdnkcefmmaaGreatDoorKTz
set_option linter.unusedSimpArgs false
set_option linter.unusedVariables false
set_option maxRecDepth 100000
namespace Go.Proofs.YtdmamdnkcefmmaaGreatDoor
theorem zo7:zic tP [28,3,26]=true:=by kernel_rfl
theorem zpb:∀(n:Nat) (l:List AV),zbM tP n 28 l→∃v:IT,l=v.cs:=by
 intro n;induction n using Nat.strongRecOn with
 |_ n ih=>
  intro l h;obtain⟨n',hn,hl,hf⟩:=zkF Tryz.underlying28 h;have hc:tP.cellsOf 28=2:=by kernel_rfl
  have iF:tP.cellsOf 3=1:=by kernel_rfl
  have hc26:tP.cellsOf 26=1:=by kernel_rfl
  rw[hc]at hl
  match l,hl with
  |[b,c],_=>simp[iF,hc26]at hf;obtain⟨h2,h3⟩:=hf;obtain⟨m,hm,_⟩:=zkE Tryz.underlying3 h2;obtain⟨es,n2,jR,eO,_,gP⟩:=zip Tryz.underlying26 h3;obtain⟨ks,fP⟩:=zgf (cs:=IT.cs) (λc hc=>ih n2 (by omega) c (gP c hc));simp at hm eO;exact⟨.mk m ks,by simp[IT.cs,IT.css_map,hm,eO,fP]⟩
end Go.Proofs.YtdmamdnkcefmmaaGreatDoor
