import Derived.Test.YtdmamdnkcefmmaaGreatDoorIT
import Derived.Test.YtdmamdnkcefmmaaGreatDoorKTz
set_option linter.unusedSimpArgs false
set_option linter.unusedVariables false
set_option maxRecDepth 8000
namespace Go.Proofs.YtdmamdnkcefmmaaGreatDoor
open Go Go.Abs
set_option maxRecDepth 100000
theorem zxj:zh1 tP [28,3,26]=true:=by kernel_rfl
theorem zxo:∀ (n:Nat) (l:List AV),zbE tP n 28 l→∃ v:IT,l=v.cs:=by
 intro n;induction n using Nat.strongRecOn with
 | _ n ih=>
  intro l h;obtain⟨n',hn,hl,hf⟩:=zid Tryz.underlying28 h;have hc:tP.cellsOf 28=2:=by kernel_rfl
  have ec:tP.cellsOf 3=1:=by kernel_rfl
  have hc26:tP.cellsOf 26=1:=by kernel_rfl
  rw[hc]at hl
  match l,hl with
  | [b,c],_=>simp[ec,hc26]at hf;obtain⟨h2,h3⟩:=hf;obtain⟨m,hm,_⟩:=zgG Tryz.underlying3 h2;obtain⟨es,n2,fR,ba,_,cF⟩:=zgH Tryz.underlying26 h3;obtain⟨ks,bY⟩:=zfs (cs:=IT.cs) (λc hc=>ih n2 (by omega) c (cF c hc));simp at hm ba;exact⟨.mk m ks,by simp[IT.cs,IT.css_map,hm,ba,bY]⟩
end Go.Proofs.YtdmamdnkcefmmaaGreatDoor
