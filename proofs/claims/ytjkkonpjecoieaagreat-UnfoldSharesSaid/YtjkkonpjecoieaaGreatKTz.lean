import Derived.Test.YtjkkonpjecoieaaGreatAbsQ1
import Derived.Test.YtjkkonpjecoieaaGreatAbsT
import Derived.Test.YtjkkonpjecoieaaGreatKNum
import Derived.Test.YtjkkonpjecoieaaGreatProg
import Derived.KernelRfl
set_option linter.unusedSimpArgs false
set_option linter.unusedVariables false
namespace Go.Proofs.YtjkkonpjecoieaaGreat
open Go Go.Abs
set_option maxRecDepth 100000
theorem zqM:zhX tP [22,74,72,93,23,25,28,26,2,3,9]=true:=by kernel_rfl
theorem ce3:tP.cellsOf 3=1:=by kernel_rfl
theorem ce2:tP.cellsOf 2=1:=by kernel_rfl
theorem ce9:tP.cellsOf 9=1:=by kernel_rfl
theorem zDI:tP.cellsOf 26=1:=by kernel_rfl
theorem zvo:tP.cellsOf 23=1:=by kernel_rfl
theorem zDK:tP.cellsOf 72=1:=by kernel_rfl
theorem zDJ:tP.cellsOf 28=3:=by kernel_rfl
theorem zDH:tP.cellsOf 25=3:=by kernel_rfl
theorem zDL:tP.cellsOf 74=3:=by kernel_rfl
theorem zDM:tP.cellsOf 93=2:=by kernel_rfl
theorem zyi:∀ (n:Nat) (l:List AV),zbF tP n 25 l→∃ v:VT,l=v.cs:=by
 intro n
 induction n using Nat.strongRecOn with
 | _ n ih=>
  intro l h
  obtain⟨n',hn,hl,hf⟩:=zic Tryz.underlying25 h
  rw[zDH]at hl
  match l,hl with
  | [a,b,c],_=>
   simp[ce3,zvo]at hf
   obtain⟨h1,h2,h3⟩:=hf
   obtain⟨k,hk,_⟩:=zgH Tryz.underlying3 h1
   obtain⟨m,hm,_⟩:=zgH Tryz.underlying3 h2
   obtain⟨es,n2,hn2,hes,_,hel⟩:=zgI Tryz.underlying23 h3
   obtain⟨ks,hks⟩:=zfq (cs:=VT.cs) (fun c hc=>ih n2 (by omega) c (hel c hc))
   simp at hk hm hes
   exact⟨.mk k m ks,by simp[VT.cs,VT.css_map,hk,hm,hes,hks]⟩
theorem zG3:∀ (n:Nat) (l:List AV),zbF tP n 28 l→∃ v:VT,l=v.cs:=by
 intro n
 induction n using Nat.strongRecOn with
 | _ n ih=>
  intro l h
  obtain⟨n',hn,hl,hf⟩:=zic Tryz.underlying28 h
  rw[zDJ]at hl
  match l,hl with
  | [a,b,c],_=>
   simp[ce2,ce3,zDI]at hf
   obtain⟨h1,h2,h3⟩:=hf
   obtain⟨k,hk,_⟩:=zgH Tryz.underlying3 h1
   obtain⟨m,hm,_⟩:=zgH Tryz.underlying2 h2
   obtain⟨es,n2,hn2,hes,_,hel⟩:=zgI Tryz.underlying26 h3
   obtain⟨ks,hks⟩:=zfq (cs:=VT.cs) (fun c hc=>ih n2 (by omega) c (hel c hc))
   simp at hk hm hes
   exact⟨.mk k m ks,by simp[VT.cs,VT.css_map,hk,hm,hes,hks]⟩
theorem zDS (n:Nat) (l:List AV) (h:zbF tP n 93 l):∃ c:Con,l=c.cs:=by
 obtain⟨n',hn,hl,hf⟩:=zic Tryz.underlying93 h
 rw[zDM]at hl
 match l,hl with
 | [a,b],_=>
  simp[ce9,zvo]at hf
  obtain⟨h1,h2⟩:=hf
  obtain⟨s,hs,_⟩:=zyj Tryz.underlying9 h1
  obtain⟨es,n2,hn2,hes,_,hel⟩:=zgI Tryz.underlying23 h2
  obtain⟨ks,hks⟩:=zfq (cs:=VT.cs) (fun c hc=>zyi n2 c (hel c hc))
  simp at hs hes
  exact⟨⟨s,ks⟩,by simp[Con.cs,VT.css_map,hs,hes,hks]⟩
theorem zDY (n:Nat) (l:List AV) (h:zbF tP n 74 l):∃ d:Dat,l=d.cs:=by
 obtain⟨n',hn,hl,hf⟩:=zic Tryz.underlying74 h
 rw[zDL]at hl
 match l,hl with
 | [a,b,c],_=>
  simp[ce9,ce3,zDK]at hf
  obtain⟨h1,h2,h3⟩:=hf
  obtain⟨s,hs,_⟩:=zyj Tryz.underlying9 h1
  obtain⟨m,hm,_⟩:=zgH Tryz.underlying3 h2
  obtain⟨es,n2,hn2,hes,_,hel⟩:=zgI Tryz.underlying72 h3
  obtain⟨ks,hks⟩:=zfq (cs:=Con.cs) (fun c hc=>zDS n2 c (hel c hc))
  simp at hs hm hes
  exact⟨⟨s,m,ks⟩,by simp[Dat.cs,hs,hm,hes,hks]⟩
theorem zDZ (n:Nat) (a:AV) (h:zbF tP n 22 [a]):∃ x:{l:List Dat // l.length≤9223372036854775807},a=.sl (x.1.map Dat.cs) .none:=by
 obtain⟨es,n1,_,hes,hm,hel⟩:=zgI Tryz.underlying22 h
 obtain⟨k,hk⟩:=zfq (cs:=Dat.cs) (fun c hc=>zDY n1 c (hel c hc))
 simp at hes
 refine⟨⟨k,?_⟩,by rw[hes,hk]⟩
 rw[hk]at hm
 simpa[maxLen]using hm
end Go.Proofs.YtjkkonpjecoieaaGreat
