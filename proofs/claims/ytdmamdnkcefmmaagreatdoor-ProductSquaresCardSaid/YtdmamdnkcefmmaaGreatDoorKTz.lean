import Derived.Test.YtdmamdnkcefmmaaGreatDoorKGT2
import Derived.Test.YtdmamdnkcefmmaaGreatDoorAbsT
import Derived.Test.YtdmamdnkcefmmaaGreatDoorKNum
import Derived.Test.YtdmamdnkcefmmaaGreatDoorProg
import Derived.KernelRfl
set_option linter.unusedSimpArgs false
set_option linter.unusedVariables false
set_option maxRecDepth 8000
namespace Go.Proofs.YtdmamdnkcefmmaaGreatDoor
open Go Go.Abs
set_option maxRecDepth 100000
theorem zyp:zhA tP [22,103,101,105,23,25,40,38,2,3,9]=true:=by kernel_rfl
theorem ce3:tP.cellsOf 3=1:=by kernel_rfl
theorem ce9:tP.cellsOf 9=1:=by kernel_rfl
theorem zu9:tP.cellsOf 23=1:=by kernel_rfl
theorem zDO:tP.cellsOf 101=1:=by kernel_rfl
theorem zDR:tP.cellsOf 25=3:=by kernel_rfl
theorem zDP:tP.cellsOf 103=3:=by kernel_rfl
theorem zDQ:tP.cellsOf 105=2:=by kernel_rfl
theorem zyg:∀ (n:Nat) (l:List AV),zbI tP n 25 l→∃ v:VT,l=v.cs:=by
 intro n;induction n using Nat.strongRecOn with
 | _ n ih=>
  intro l h;obtain⟨n',hn,hl,hf⟩:=zj4 Tryz.underlying25 h;rw[zDR]at hl
  match l,hl with
  | [a,b,c],_=>simp[ce3,zu9]at hf;obtain⟨h1,h2,h3⟩:=hf;obtain⟨k,hk,_⟩:=zj3 Tryz.underlying3 h1;obtain⟨m,hm,_⟩:=zj3 Tryz.underlying3 h2;obtain⟨es,n2,fV,aX,_,cY⟩:=zhQ Tryz.underlying23 h3;obtain⟨ks,bV⟩:=zfV (cs:=VT.cs) (λc hc=>ih n2 (by omega) c (cY c hc));simp at hk hm aX;exact⟨.mk k m ks,by simp[VT.cs,VT.css_map,hk,hm,aX,bV]⟩
theorem zD1 (n:Nat) (l:List AV) (h:zbI tP n 105 l):∃ c:Con,l=c.cs:=by
 obtain⟨n',hn,hl,hf⟩:=zj4 Tryz.underlying105 h;rw[zDQ]at hl
 match l,hl with
 | [a,b],_=>simp[ce9,zu9]at hf;obtain⟨h1,h2⟩:=hf;obtain⟨s,hs,_⟩:=zyh Tryz.underlying9 h1;obtain⟨es,n2,fV,aX,_,cY⟩:=zhQ Tryz.underlying23 h2;obtain⟨ks,bV⟩:=zfV (cs:=VT.cs) (λc hc=>zyg n2 c (cY c hc));simp at hs aX;exact⟨⟨s,ks⟩,by simp[Con.cs,VT.css_map,hs,aX,bV]⟩
theorem zD6 (n:Nat) (l:List AV) (h:zbI tP n 103 l):∃ d:Dat,l=d.cs:=by
 obtain⟨n',hn,hl,hf⟩:=zj4 Tryz.underlying103 h;rw[zDP]at hl
 match l,hl with
 | [a,b,c],_=>simp[ce9,ce3,zDO]at hf;obtain⟨h1,h2,h3⟩:=hf;obtain⟨s,hs,_⟩:=zyh Tryz.underlying9 h1;obtain⟨m,hm,_⟩:=zj3 Tryz.underlying3 h2;obtain⟨es,n2,fV,aX,_,cY⟩:=zhQ Tryz.underlying101 h3;obtain⟨ks,bV⟩:=zfV (cs:=Con.cs) (λc hc=>zD1 n2 c (cY c hc));simp at hs hm aX;exact⟨⟨s,m,ks⟩,by simp[Dat.cs,hs,hm,aX,bV]⟩
theorem zD8 (n:Nat) (a:AV) (h:zbI tP n 22 [a]):∃ x:{l:List Dat // l.length≤9223372036854775807},a=.sl (x.1.map Dat.cs) .none:=by obtain⟨es,n1,_,aX,hm,cY⟩:=zhQ Tryz.underlying22 h;obtain⟨k,hk⟩:=zfV (cs:=Dat.cs) (λc hc=>zD6 n1 c (cY c hc));simp at aX;refine⟨⟨k,?_⟩,by rw[aX,hk]⟩;rw[hk]at hm;simpa[maxLen]using hm
end Go.Proofs.YtdmamdnkcefmmaaGreatDoor
