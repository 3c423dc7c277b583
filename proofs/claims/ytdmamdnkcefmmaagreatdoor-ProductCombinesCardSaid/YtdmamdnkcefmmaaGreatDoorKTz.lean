import Derived.Test.YtdmamdnkcefmmaaGreatDoorAbsT
set_option linter.unusedSimpArgs false
set_option linter.unusedVariables false
set_option linter.unusedSectionVars false
set_option linter.defProp false
set_option maxRecDepth 100000
namespace Go.Proofs.YtdmamdnkcefmmaaGreatDoor
def zEn:F6 tP [22,103,101,105,23,25,40,38,2,3,9]=true:=by kernel_rfl
def ce3:tP.cellsOf 3=1:=by kernel_rfl
def ce9:tP.cellsOf 9=1:=by kernel_rfl
def zAs:tP.cellsOf 23=1:=by kernel_rfl
def zK4:tP.cellsOf 101=1:=by kernel_rfl
def zK7:tP.cellsOf 25=3:=by kernel_rfl
def zK5:tP.cellsOf 103=3:=by kernel_rfl
def zK6:tP.cellsOf 105=2:=by kernel_rfl
def zEg:∀(n:Nat) (l:List AV),vQ tP n 25 l→∃v:VT,l=v.cs:=by
 intro n;induction n using Nat.strongRecOn with
 |_ n ih=>
  intro l h;obtain⟨n',hn,hl,hf⟩:=DJ Tryz.underlying25 h;rw[zK7]at hl
  match l,hl with
  |[a,b,c],_=>simp[ce3,zAs]at hf;obtain⟨h1,h2,h3⟩:=hf;obtain⟨k,hk,_⟩:=F7 Tryz.underlying3 h1;obtain⟨m,hm,_⟩:=F7 Tryz.underlying3 h2;obtain⟨es,n2,ig,gm,_,ja⟩:=Ce Tryz.underlying23 h3;obtain⟨ks,iK⟩:=AY (cs:=VT.cs) (λc hc=>ih n2 (by omega) c (ja c hc));simp at hk hm gm;exact⟨.mk k m ks,by simp[VT.cs,VT.ZC,hk,hm,gm,iK]⟩
def zLj(n:Nat)(l:List AV)(h:vQ tP n 105 l):∃c:Con,l=c.cs:=by
 obtain⟨n',hn,hl,hf⟩:=DJ Tryz.underlying105 h;rw[zK6]at hl
 match l,hl with
 |[a,b],_=>simp[ce9,zAs]at hf;obtain⟨h1,h2⟩:=hf;obtain⟨s,hs,_⟩:=zEh Tryz.underlying9 h1;obtain⟨es,n2,ig,gm,_,ja⟩:=Ce Tryz.underlying23 h2;obtain⟨ks,iK⟩:=AY (cs:=VT.cs) (λc hc=>zEg n2 c (ja c hc));simp at hs gm;exact⟨⟨s,ks⟩,by simp[Con.cs,VT.ZC,hs,gm,iK]⟩
def zLu(n:Nat)(l:List AV)(h:vQ tP n 103 l):∃d:Dat,l=d.cs:=by
 obtain⟨n',hn,hl,hf⟩:=DJ Tryz.underlying103 h;rw[zK5]at hl
 match l,hl with
 |[a,b,c],_=>simp[ce9,ce3,zK4]at hf;obtain⟨h1,h2,h3⟩:=hf;obtain⟨s,hs,_⟩:=zEh Tryz.underlying9 h1;obtain⟨m,hm,_⟩:=F7 Tryz.underlying3 h2;obtain⟨es,n2,ig,gm,_,ja⟩:=Ce Tryz.underlying101 h3;obtain⟨ks,iK⟩:=AY (cs:=Con.cs) (λc hc=>zLj n2 c (ja c hc));simp at hs hm gm;exact⟨⟨s,m,ks⟩,by simp[Dat.cs,hs,hm,gm,iK]⟩
def zLw(n:Nat)(a:AV)(h:vQ tP n 22 [a]):∃x:{l:List Dat // l.length≤9223372036854775807},a=.sl (x.1.map Dat.cs) .none:=by obtain⟨es,n1,_,gm,hm,ja⟩:=Ce Tryz.underlying22 h;obtain⟨k,hk⟩:=AY (cs:=Dat.cs) (λc hc=>zLu n1 c (ja c hc));simp at gm;refine⟨⟨k,?_⟩,by rw[gm,hk]⟩;rw[hk]at hm;simpa[maxLen]using hm
end Go.Proofs.YtdmamdnkcefmmaaGreatDoor
