import Derived.Test.YtdmamdnkcefmmaaGreatDoorAbsQ1
import Derived.Test.YtdmamdnkcefmmaaGreatDoorAbsT
import Derived.Test.YtdmamdnkcefmmaaGreatDoorKNum
import Derived.Test.YtdmamdnkcefmmaaGreatDoorProg
import Derived.KernelRfl
set_option linter.unusedSimpArgs false
set_option linter.unusedVariables false
set_option maxRecDepth 100000
namespace Go.Proofs.YtdmamdnkcefmmaaGreatDoor
theorem zAj:zia tP [22,103,101,105,23,25,40,38,2,3,9]=true:=by kernel_rfl
theorem ce3:tP.cellsOf 3=1:=by kernel_rfl
theorem ce9:tP.cellsOf 9=1:=by kernel_rfl
theorem zw4:tP.cellsOf 23=1:=by kernel_rfl
theorem zGg:tP.cellsOf 101=1:=by kernel_rfl
theorem zGj:tP.cellsOf 25=3:=by kernel_rfl
theorem zGh:tP.cellsOf 103=3:=by kernel_rfl
theorem zGi:tP.cellsOf 105=2:=by kernel_rfl
theorem zAc:∀ (n:Nat) (l:List AV),zbM tP n 25 l→∃ v:VT,l=v.cs:=by
 intro n;induction n using Nat.strongRecOn with
 | _ n ih=>
  intro l h;obtain⟨n',hn,hl,hf⟩:=zkN Tryz.underlying25 h;rw[zGj]at hl
  match l,hl with
  | [a,b,c],_=>simp[ce3,zw4]at hf;obtain⟨h1,h2,h3⟩:=hf;obtain⟨k,hk,_⟩:=zkM Tryz.underlying3 h1;obtain⟨m,hm,_⟩:=zkM Tryz.underlying3 h2;obtain⟨es,n2,gE,aZ,_,dy⟩:=ziq Tryz.underlying23 h3;obtain⟨ks,cg⟩:=zgl (cs:=VT.cs) (λc hc=>ih n2 (by omega) c (dy c hc));simp at hk hm aZ;exact⟨.mk k m ks,by simp[VT.cs,VT.css_map,hk,hm,aZ,cg]⟩
theorem zGt (n:Nat) (l:List AV) (h:zbM tP n 105 l):∃ c:Con,l=c.cs:=by
 obtain⟨n',hn,hl,hf⟩:=zkN Tryz.underlying105 h;rw[zGi]at hl
 match l,hl with
 | [a,b],_=>simp[ce9,zw4]at hf;obtain⟨h1,h2⟩:=hf;obtain⟨s,hs,_⟩:=zAd Tryz.underlying9 h1;obtain⟨es,n2,gE,aZ,_,dy⟩:=ziq Tryz.underlying23 h2;obtain⟨ks,cg⟩:=zgl (cs:=VT.cs) (λc hc=>zAc n2 c (dy c hc));simp at hs aZ;exact⟨⟨s,ks⟩,by simp[Con.cs,VT.css_map,hs,aZ,cg]⟩
theorem zGx (n:Nat) (l:List AV) (h:zbM tP n 103 l):∃ d:Dat,l=d.cs:=by
 obtain⟨n',hn,hl,hf⟩:=zkN Tryz.underlying103 h;rw[zGh]at hl
 match l,hl with
 | [a,b,c],_=>simp[ce9,ce3,zGg]at hf;obtain⟨h1,h2,h3⟩:=hf;obtain⟨s,hs,_⟩:=zAd Tryz.underlying9 h1;obtain⟨m,hm,_⟩:=zkM Tryz.underlying3 h2;obtain⟨es,n2,gE,aZ,_,dy⟩:=ziq Tryz.underlying101 h3;obtain⟨ks,cg⟩:=zgl (cs:=Con.cs) (λc hc=>zGt n2 c (dy c hc));simp at hs hm aZ;exact⟨⟨s,m,ks⟩,by simp[Dat.cs,hs,hm,aZ,cg]⟩
theorem zGz (n:Nat) (a:AV) (h:zbM tP n 22 [a]):∃ x:{l:List Dat // l.length≤9223372036854775807},a=.sl (x.1.map Dat.cs) .none:=by obtain⟨es,n1,_,aZ,hm,dy⟩:=ziq Tryz.underlying22 h;obtain⟨k,hk⟩:=zgl (cs:=Dat.cs) (λc hc=>zGx n1 c (dy c hc));simp at aZ;refine⟨⟨k,?_⟩,by rw[aZ,hk]⟩;rw[hk]at hm;simpa[maxLen]using hm
end Go.Proofs.YtdmamdnkcefmmaaGreatDoor
