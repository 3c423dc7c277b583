import Derived.Test.YtdmamdnkcefmmaaGreatDoorKY4
import Derived.Test.YtdmamdnkcefmmaaGreatDoorAbsT
import Derived.Test.YtdmamdnkcefmmaaGreatDoorKNum
import Derived.Test.YtdmamdnkcefmmaaGreatDoorProg
import Derived.KernelRfl
set_option linter.unusedSimpArgs false
set_option linter.unusedVariables false
set_option maxRecDepth 100000
namespace Go.Proofs.YtdmamdnkcefmmaaGreatDoor
theorem zsS:ziC tP [22,103,101,105,23,25,40,38,2,3,9]=true:=by kernel_rfl
theorem ce3:tP.cellsOf 3=1:=by kernel_rfl
theorem ce9:tP.cellsOf 9=1:=by kernel_rfl
theorem zyj:tP.cellsOf 23=1:=by kernel_rfl
theorem zHY:tP.cellsOf 101=1:=by kernel_rfl
theorem zH1:tP.cellsOf 25=3:=by kernel_rfl
theorem zHZ:tP.cellsOf 103=3:=by kernel_rfl
theorem zH0:tP.cellsOf 105=2:=by kernel_rfl
theorem zBE:∀(n:Nat) (l:List AV),zbW tP n 25 l→∃v:VT,l=v.cs:=by
 intro n;induction n using Nat.strongRecOn with
 |_ n ih=>
  intro l h;obtain⟨n',hn,hl,hf⟩:=zls Tryz.underlying25 h;rw[zH1]at hl
  match l,hl with
  |[a,b,c],_=>simp[ce3,zyj]at hf;obtain⟨h1,h2,h3⟩:=hf;obtain⟨k,hk,_⟩:=ziQ Tryz.underlying3 h1;obtain⟨m,hm,_⟩:=ziQ Tryz.underlying3 h2;obtain⟨es,n2,l6,eX,_,iG⟩:=ziR Tryz.underlying23 h3;obtain⟨ks,gh⟩:=zgJ (cs:=VT.cs) (λc hc=>ih n2 (by omega) c (iG c hc));simp at hk hm eX;exact⟨.mk k m ks,by simp[VT.cs,VT.css_map,hk,hm,eX,gh]⟩
theorem zIb(n:Nat)(l:List AV)(h:zbW tP n 105 l):∃c:Con,l=c.cs:=by
 obtain⟨n',hn,hl,hf⟩:=zls Tryz.underlying105 h;rw[zH0]at hl
 match l,hl with
 |[a,b],_=>simp[ce9,zyj]at hf;obtain⟨h1,h2⟩:=hf;obtain⟨s,hs,_⟩:=zBF Tryz.underlying9 h1;obtain⟨es,n2,l6,eX,_,iG⟩:=ziR Tryz.underlying23 h2;obtain⟨ks,gh⟩:=zgJ (cs:=VT.cs) (λc hc=>zBE n2 c (iG c hc));simp at hs eX;exact⟨⟨s,ks⟩,by simp[Con.cs,VT.css_map,hs,eX,gh]⟩
theorem zIf(n:Nat)(l:List AV)(h:zbW tP n 103 l):∃d:Dat,l=d.cs:=by
 obtain⟨n',hn,hl,hf⟩:=zls Tryz.underlying103 h;rw[zHZ]at hl
 match l,hl with
 |[a,b,c],_=>simp[ce9,ce3,zHY]at hf;obtain⟨h1,h2,h3⟩:=hf;obtain⟨s,hs,_⟩:=zBF Tryz.underlying9 h1;obtain⟨m,hm,_⟩:=ziQ Tryz.underlying3 h2;obtain⟨es,n2,l6,eX,_,iG⟩:=ziR Tryz.underlying101 h3;obtain⟨ks,gh⟩:=zgJ (cs:=Con.cs) (λc hc=>zIb n2 c (iG c hc));simp at hs hm eX;exact⟨⟨s,m,ks⟩,by simp[Dat.cs,hs,hm,eX,gh]⟩
theorem zIh(n:Nat)(a:AV)(h:zbW tP n 22 [a]):∃x:{l:List Dat // l.length≤9223372036854775807},a=.sl (x.1.map Dat.cs) .none:=by obtain⟨es,n1,_,eX,hm,iG⟩:=ziR Tryz.underlying22 h;obtain⟨k,hk⟩:=zgJ (cs:=Dat.cs) (λc hc=>zIf n1 c (iG c hc));simp at eX;refine⟨⟨k,?_⟩,by rw[eX,hk]⟩;rw[hk]at hm;simpa[maxLen]using hm
end Go.Proofs.YtdmamdnkcefmmaaGreatDoor
