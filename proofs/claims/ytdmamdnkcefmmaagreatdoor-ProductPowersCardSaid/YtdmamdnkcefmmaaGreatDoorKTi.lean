import Derived.Test.YtdmamdnkcefmmaaGreatDoorIT
import Derived.Test.YtdmamdnkcefmmaaGreatDoorKTz
set_option linter.unusedSimpArgs false
set_option linter.unusedVariables false
set_option maxRecDepth 100000
namespace Go.Proofs.YtdmamdnkcefmmaaGreatDoor
theorem zIN:ziC tP [28,3,26]=true:=by kernel_rfl
theorem zIT:∀(n:Nat) (l:List AV),zbW tP n 28 l→∃v:IT,l=v.cs:=by
 intro n;induction n using Nat.strongRecOn with
 |_ n ih=>
  intro l h;obtain⟨n',hn,hl,hf⟩:=zls Tryz.underlying28 h;have hc:tP.cellsOf 28=2:=by kernel_rfl
  have je:tP.cellsOf 3=1:=by kernel_rfl
  have hc26:tP.cellsOf 26=1:=by kernel_rfl
  rw[hc]at hl
  match l,hl with
  |[b,c],_=>simp[je,hc26]at hf;obtain⟨h2,h3⟩:=hf;obtain⟨m,hm,_⟩:=ziQ Tryz.underlying3 h2;obtain⟨es,n2,l6,eX,_,iG⟩:=ziR Tryz.underlying26 h3;obtain⟨ks,gh⟩:=zgJ (cs:=IT.cs) (λc hc=>ih n2 (by omega) c (iG c hc));simp at hm eX;exact⟨.mk m ks,by simp[IT.cs,IT.css_map,hm,eX,gh]⟩
end Go.Proofs.YtdmamdnkcefmmaaGreatDoor
