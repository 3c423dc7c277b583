import Derived.Test.YtdmamdnkcefmmaaGreatDoorAbsQ1
import Derived.Test.YtdmamdnkcefmmaaGreatDoorAbsT
import Derived.Test.YtdmamdnkcefmmaaGreatDoorKNum
import Derived.Test.YtdmamdnkcefmmaaGreatDoorProg
import Derived.KernelRfl
set_option linter.unusedSimpArgs false
set_option linter.unusedVariables false
set_option maxRecDepth 100000
namespace Go.Proofs.YtdmamdnkcefmmaaGreatDoor
theorem zzo:zic tP [22,103,101,105,23,25,40,38,2,3,9]=true:=by kernel_rfl
theorem ce3:tP.cellsOf 3=1:=by kernel_rfl
theorem ce9:tP.cellsOf 9=1:=by kernel_rfl
theorem zv1:tP.cellsOf 23=1:=by kernel_rfl
theorem zFc:tP.cellsOf 101=1:=by kernel_rfl
theorem zFf:tP.cellsOf 25=3:=by kernel_rfl
theorem zFd:tP.cellsOf 103=3:=by kernel_rfl
theorem zFe:tP.cellsOf 105=2:=by kernel_rfl
theorem zzf:∀(n:Nat) (l:List AV),zbM tP n 25 l→∃v:VT,l=v.cs:=by
 intro n;induction n using Nat.strongRecOn with
 |_ n ih=>
  intro l h;obtain⟨n',hn,hl,hf⟩:=zkF Tryz.underlying25 h;rw[zFf]at hl
  match l,hl with
  |[a,b,c],_=>simp[ce3,zv1]at hf;obtain⟨h1,h2,h3⟩:=hf;obtain⟨k,hk,_⟩:=zkE Tryz.underlying3 h1;obtain⟨m,hm,_⟩:=zkE Tryz.underlying3 h2;obtain⟨es,n2,jR,eO,_,gP⟩:=zip Tryz.underlying23 h3;obtain⟨ks,fP⟩:=zgf (cs:=VT.cs) (λc hc=>ih n2 (by omega) c (gP c hc));simp at hk hm eO;exact⟨.mk k m ks,by simp[VT.cs,VT.css_map,hk,hm,eO,fP]⟩
theorem zFp(n:Nat)(l:List AV)(h:zbM tP n 105 l):∃c:Con,l=c.cs:=by
 obtain⟨n',hn,hl,hf⟩:=zkF Tryz.underlying105 h;rw[zFe]at hl
 match l,hl with
 |[a,b],_=>simp[ce9,zv1]at hf;obtain⟨h1,h2⟩:=hf;obtain⟨s,hs,_⟩:=zzg Tryz.underlying9 h1;obtain⟨es,n2,jR,eO,_,gP⟩:=zip Tryz.underlying23 h2;obtain⟨ks,fP⟩:=zgf (cs:=VT.cs) (λc hc=>zzf n2 c (gP c hc));simp at hs eO;exact⟨⟨s,ks⟩,by simp[Con.cs,VT.css_map,hs,eO,fP]⟩
theorem zFv(n:Nat)(l:List AV)(h:zbM tP n 103 l):∃d:Dat,l=d.cs:=by
 obtain⟨n',hn,hl,hf⟩:=zkF Tryz.underlying103 h;rw[zFd]at hl
 match l,hl with
 |[a,b,c],_=>simp[ce9,ce3,zFc]at hf;obtain⟨h1,h2,h3⟩:=hf;obtain⟨s,hs,_⟩:=zzg Tryz.underlying9 h1;obtain⟨m,hm,_⟩:=zkE Tryz.underlying3 h2;obtain⟨es,n2,jR,eO,_,gP⟩:=zip Tryz.underlying101 h3;obtain⟨ks,fP⟩:=zgf (cs:=Con.cs) (λc hc=>zFp n2 c (gP c hc));simp at hs hm eO;exact⟨⟨s,m,ks⟩,by simp[Dat.cs,hs,hm,eO,fP]⟩
theorem zFx(n:Nat)(a:AV)(h:zbM tP n 22 [a]):∃x:{l:List Dat // l.length≤9223372036854775807},a=.sl (x.1.map Dat.cs) .none:=by obtain⟨es,n1,_,eO,hm,gP⟩:=zip Tryz.underlying22 h;obtain⟨k,hk⟩:=zgf (cs:=Dat.cs) (λc hc=>zFv n1 c (gP c hc));simp at eO;refine⟨⟨k,?_⟩,by rw[eO,hk]⟩;rw[hk]at hm;simpa[maxLen]using hm
end Go.Proofs.YtdmamdnkcefmmaaGreatDoor
