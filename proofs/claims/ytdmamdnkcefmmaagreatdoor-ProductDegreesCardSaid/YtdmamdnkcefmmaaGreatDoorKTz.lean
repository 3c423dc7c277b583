import Derived.Test.YtdmamdnkcefmmaaGreatDoorAbsQ1
import Derived.Test.YtdmamdnkcefmmaaGreatDoorAbsT
import Derived.Test.YtdmamdnkcefmmaaGreatDoorKNum
import Derived.Test.YtdmamdnkcefmmaaGreatDoorProg
import Derived.KernelRfl
set_option linter.unusedSimpArgs false
set_option linter.unusedVariables false
set_option maxRecDepth 8000
namespace Go.Proofs.YtdmamdnkcefmmaaGreatDoor
open Go Go.Abs
set_option maxRecDepth 100000
theorem zxn:zhj tP [22,103,101,105,23,25,40,38,2,3,9]=true:=by kernel_rfl
theorem ce3:tP.cellsOf 3=1:=by kernel_rfl
theorem ce9:tP.cellsOf 9=1:=by kernel_rfl
theorem zua:tP.cellsOf 23=1:=by kernel_rfl
theorem zCz:tP.cellsOf 101=1:=by kernel_rfl
theorem zCC:tP.cellsOf 25=3:=by kernel_rfl
theorem zCA:tP.cellsOf 103=3:=by kernel_rfl
theorem zCB:tP.cellsOf 105=2:=by kernel_rfl
theorem zxe:∀ (n:Nat) (l:List AV),zbA tP n 25 l→∃ v:VT,l=v.cs:=by
 intro n
 induction n using Nat.strongRecOn with
 | _ n ih=>
  intro l h
  obtain⟨n',hn,hl,hf⟩:=zjE Tryz.underlying25 h
  rw[zCC]at hl
  match l,hl with
  | [a,b,c],_=>
   simp[ce3,zua]at hf
   obtain⟨h1,h2,h3⟩:=hf
   obtain⟨k,hk,_⟩:=zjD Tryz.underlying3 h1
   obtain⟨m,hm,_⟩:=zjD Tryz.underlying3 h2
   obtain⟨es,n2,hn2,hes,_,hel⟩:=zhx Tryz.underlying23 h3
   obtain⟨ks,hks⟩:=zfN (cs:=VT.cs) (fun c hc=>ih n2 (by omega) c (hel c hc))
   simp at hk hm hes
   exact⟨.mk k m ks,by simp[VT.cs,VT.css_map,hk,hm,hes,hks]⟩
theorem zCM (n:Nat) (l:List AV) (h:zbA tP n 105 l):∃ c:Con,l=c.cs:=by
 obtain⟨n',hn,hl,hf⟩:=zjE Tryz.underlying105 h
 rw[zCB]at hl
 match l,hl with
 | [a,b],_=>
  simp[ce9,zua]at hf
  obtain⟨h1,h2⟩:=hf
  obtain⟨s,hs,_⟩:=zxf Tryz.underlying9 h1
  obtain⟨es,n2,hn2,hes,_,hel⟩:=zhx Tryz.underlying23 h2
  obtain⟨ks,hks⟩:=zfN (cs:=VT.cs) (fun c hc=>zxe n2 c (hel c hc))
  simp at hs hes
  exact⟨⟨s,ks⟩,by simp[Con.cs,VT.css_map,hs,hes,hks]⟩
theorem zCR (n:Nat) (l:List AV) (h:zbA tP n 103 l):∃ d:Dat,l=d.cs:=by
 obtain⟨n',hn,hl,hf⟩:=zjE Tryz.underlying103 h
 rw[zCA]at hl
 match l,hl with
 | [a,b,c],_=>
  simp[ce9,ce3,zCz]at hf
  obtain⟨h1,h2,h3⟩:=hf
  obtain⟨s,hs,_⟩:=zxf Tryz.underlying9 h1
  obtain⟨m,hm,_⟩:=zjD Tryz.underlying3 h2
  obtain⟨es,n2,hn2,hes,_,hel⟩:=zhx Tryz.underlying101 h3
  obtain⟨ks,hks⟩:=zfN (cs:=Con.cs) (fun c hc=>zCM n2 c (hel c hc))
  simp at hs hm hes
  exact⟨⟨s,m,ks⟩,by simp[Dat.cs,hs,hm,hes,hks]⟩
theorem zCT (n:Nat) (a:AV) (h:zbA tP n 22 [a]):∃ x:{l:List Dat // l.length≤9223372036854775807},a=.sl (x.1.map Dat.cs) .none:=by
 obtain⟨es,n1,_,hes,hm,hel⟩:=zhx Tryz.underlying22 h
 obtain⟨k,hk⟩:=zfN (cs:=Dat.cs) (fun c hc=>zCR n1 c (hel c hc))
 simp at hes
 refine⟨⟨k,?_⟩,by rw[hes,hk]⟩
 rw[hk]at hm
 simpa[maxLen]using hm
end Go.Proofs.YtdmamdnkcefmmaaGreatDoor
