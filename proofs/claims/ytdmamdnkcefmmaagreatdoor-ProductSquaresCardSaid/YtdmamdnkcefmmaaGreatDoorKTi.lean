import Derived.Test.YtdmamdnkcefmmaaGreatDoorIT
import Derived.Test.YtdmamdnkcefmmaaGreatDoorKTz
set_option linter.unusedSimpArgs false
set_option linter.unusedVariables false
set_option maxRecDepth 8000
namespace Go.Proofs.YtdmamdnkcefmmaaGreatDoor
open Go Go.Abs
set_option maxRecDepth 100000
theorem zEG:zhA tP [28,3,26]=true:=by kernel_rfl
theorem zEM:∀ (n:Nat) (l:List AV),zbI tP n 28 l→∃ v:IT,l=v.cs:=by
 intro n;induction n using Nat.strongRecOn with
 | _ n ih=>
  intro l h;obtain⟨n',hn,hl,hf⟩:=zj4 Tryz.underlying28 h;have hc:tP.cellsOf 28=2:=by kernel_rfl
  have dE:tP.cellsOf 3=1:=by kernel_rfl
  have hc26:tP.cellsOf 26=1:=by kernel_rfl
  rw[hc]at hl
  match l,hl with
  | [b,c],_=>simp[dE,hc26]at hf;obtain⟨h2,h3⟩:=hf;obtain⟨m,hm,_⟩:=zj3 Tryz.underlying3 h2;obtain⟨es,n2,fV,aX,_,cY⟩:=zhQ Tryz.underlying26 h3;obtain⟨ks,bV⟩:=zfV (cs:=IT.cs) (λc hc=>ih n2 (by omega) c (cY c hc));simp at hm aX;exact⟨.mk m ks,by simp[IT.cs,IT.css_map,hm,aX,bV]⟩
end Go.Proofs.YtdmamdnkcefmmaaGreatDoor
