import Derived.Test.YtdmamdnkcefmmaaGreatDoorIT
import Derived.Test.YtdmamdnkcefmmaaGreatDoorKTz
set_option linter.unusedSimpArgs false
set_option linter.unusedVariables false
set_option maxRecDepth 100000
namespace Go.Proofs.YtdmamdnkcefmmaaGreatDoor
theorem zxK:zia tP [28,3,26]=true:=by kernel_rfl
theorem zxP:∀ (n:Nat) (l:List AV),zbM tP n 28 l→∃ v:IT,l=v.cs:=by
 intro n;induction n using Nat.strongRecOn with
 | _ n ih=>
  intro l h;obtain⟨n',hn,hl,hf⟩:=zkN Tryz.underlying28 h;have hc:tP.cellsOf 28=2:=by kernel_rfl
  have d7:tP.cellsOf 3=1:=by kernel_rfl
  have hc26:tP.cellsOf 26=1:=by kernel_rfl
  rw[hc]at hl
  match l,hl with
  | [b,c],_=>simp[d7,hc26]at hf;obtain⟨h2,h3⟩:=hf;obtain⟨m,hm,_⟩:=zkM Tryz.underlying3 h2;obtain⟨es,n2,gE,aZ,_,dy⟩:=ziq Tryz.underlying26 h3;obtain⟨ks,cg⟩:=zgl (cs:=IT.cs) (λc hc=>ih n2 (by omega) c (dy c hc));simp at hm aZ;exact⟨.mk m ks,by simp[IT.cs,IT.css_map,hm,aZ,cg]⟩
end Go.Proofs.YtdmamdnkcefmmaaGreatDoor
