import Derived.Test.YtdmamdnkcefmmaaGreatDoorAbsQ1
import Derived.Test.YtdmamdnkcefmmaaGreatDoorAbsT
import Derived.Test.YtdmamdnkcefmmaaGreatDoorKNum
import Derived.Test.YtdmamdnkcefmmaaGreatDoorProg
import Derived.KernelRfl
set_option linter.unusedSimpArgs false
set_option linter.unusedVariables false
set_option maxRecDepth 8000
namespace Go.Proofs.YtdmamdnkcefmmaaGreatDoor
open Go Go.Abs
set_option maxRecDepth 100000
theorem zrD:zh1 tP [22,103,101,105,23,25,40,38,2,3,9]=true:=by kernel_rfl
theorem ce3:tP.cellsOf 3=1:=by kernel_rfl
theorem ce2:tP.cellsOf 2=1:=by kernel_rfl
theorem ce9:tP.cellsOf 9=1:=by kernel_rfl
theorem zFT:tP.cellsOf 38=1:=by kernel_rfl
theorem zwy:tP.cellsOf 23=1:=by kernel_rfl
theorem zFP:tP.cellsOf 101=1:=by kernel_rfl
theorem zFU:tP.cellsOf 40=3:=by kernel_rfl
theorem zFS:tP.cellsOf 25=3:=by kernel_rfl
theorem zFQ:tP.cellsOf 103=3:=by kernel_rfl
theorem zFR:tP.cellsOf 105=2:=by kernel_rfl
theorem zzL:∀ (n:Nat) (l:List AV),zbE tP n 25 l→∃ v:VT,l=v.cs:=by
 intro n;induction n using Nat.strongRecOn with
 | _ n ih=>
  intro l h;obtain⟨n',hn,hl,hf⟩:=zid Tryz.underlying25 h;rw[zFS]at hl
  match l,hl with
  | [a,b,c],_=>simp[ce3,zwy]at hf;obtain⟨h1,h2,h3⟩:=hf;obtain⟨k,hk,_⟩:=zgG Tryz.underlying3 h1;obtain⟨m,hm,_⟩:=zgG Tryz.underlying3 h2;obtain⟨es,n2,fR,ba,_,cF⟩:=zgH Tryz.underlying23 h3;obtain⟨ks,bY⟩:=zfs (cs:=VT.cs) (λc hc=>ih n2 (by omega) c (cF c hc));simp at hk hm ba;exact⟨.mk k m ks,by simp[VT.cs,VT.css_map,hk,hm,ba,bY]⟩
theorem zJH:∀ (n:Nat) (l:List AV),zbE tP n 40 l→∃ v:VT,l=v.cs:=by
 intro n;induction n using Nat.strongRecOn with
 | _ n ih=>
  intro l h;obtain⟨n',hn,hl,hf⟩:=zid Tryz.underlying40 h;rw[zFU]at hl
  match l,hl with
  | [a,b,c],_=>simp[ce2,ce3,zFT]at hf;obtain⟨h1,h2,h3⟩:=hf;obtain⟨k,hk,_⟩:=zgG Tryz.underlying3 h1;obtain⟨m,hm,_⟩:=zgG Tryz.underlying2 h2;obtain⟨es,n2,fR,ba,_,cF⟩:=zgH Tryz.underlying38 h3;obtain⟨ks,bY⟩:=zfs (cs:=VT.cs) (λc hc=>ih n2 (by omega) c (cF c hc));simp at hk hm ba;exact⟨.mk k m ks,by simp[VT.cs,VT.css_map,hk,hm,ba,bY]⟩
theorem zF3 (n:Nat) (l:List AV) (h:zbE tP n 105 l):∃ c:Con,l=c.cs:=by
 obtain⟨n',hn,hl,hf⟩:=zid Tryz.underlying105 h;rw[zFR]at hl
 match l,hl with
 | [a,b],_=>simp[ce9,zwy]at hf;obtain⟨h1,h2⟩:=hf;obtain⟨s,hs,_⟩:=zzM Tryz.underlying9 h1;obtain⟨es,n2,fR,ba,_,cF⟩:=zgH Tryz.underlying23 h2;obtain⟨ks,bY⟩:=zfs (cs:=VT.cs) (λc hc=>zzL n2 c (cF c hc));simp at hs ba;exact⟨⟨s,ks⟩,by simp[Con.cs,VT.css_map,hs,ba,bY]⟩
theorem zF7 (n:Nat) (l:List AV) (h:zbE tP n 103 l):∃ d:Dat,l=d.cs:=by
 obtain⟨n',hn,hl,hf⟩:=zid Tryz.underlying103 h;rw[zFQ]at hl
 match l,hl with
 | [a,b,c],_=>simp[ce9,ce3,zFP]at hf;obtain⟨h1,h2,h3⟩:=hf;obtain⟨s,hs,_⟩:=zzM Tryz.underlying9 h1;obtain⟨m,hm,_⟩:=zgG Tryz.underlying3 h2;obtain⟨es,n2,fR,ba,_,cF⟩:=zgH Tryz.underlying101 h3;obtain⟨ks,bY⟩:=zfs (cs:=Con.cs) (λc hc=>zF3 n2 c (cF c hc));simp at hs hm ba;exact⟨⟨s,m,ks⟩,by simp[Dat.cs,hs,hm,ba,bY]⟩
theorem zF8 (n:Nat) (a:AV) (h:zbE tP n 22 [a]):∃ x:{l:List Dat // l.length≤9223372036854775807},a=.sl (x.1.map Dat.cs) .none:=by obtain⟨es,n1,_,ba,hm,cF⟩:=zgH Tryz.underlying22 h;obtain⟨k,hk⟩:=zfs (cs:=Dat.cs) (λc hc=>zF7 n1 c (cF c hc));simp at ba;refine⟨⟨k,?_⟩,by rw[ba,hk]⟩;rw[hk]at hm;simpa[maxLen]using hm
end Go.Proofs.YtdmamdnkcefmmaaGreatDoor
