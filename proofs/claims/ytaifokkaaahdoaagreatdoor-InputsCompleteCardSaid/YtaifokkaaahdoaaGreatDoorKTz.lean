import Derived.Test.YtaifokkaaahdoaaGreatDoorKGY2
import Derived.Test.YtaifokkaaahdoaaGreatDoorAbsT
import Derived.Test.YtaifokkaaahdoaaGreatDoorKNum
import Derived.Test.YtaifokkaaahdoaaGreatDoorKGT1
import Derived.Test.YtaifokkaaahdoaaGreatDoorLE4
import Derived.Test.YtaifokkaaahdoaaGreatDoorProg
import Derived.KernelRfl
set_option linter.unusedSimpArgs false
set_option linter.unusedVariables false
set_option linter.unusedSectionVars false
set_option maxRecDepth 8000
namespace Go.Proofs.YtaifokkaaahdoaaGreatDoor
open Go Go.Abs
set_option maxRecDepth 100000
theorem zk0:zks tP [22,57,55,59,23,25,28,26,29,2,3,9]=true:=by kernel_rfl
theorem ce3:tP.cellsOf 3=1:=by kernel_rfl
theorem ce2:tP.cellsOf 2=1:=by kernel_rfl
theorem ce9:tP.cellsOf 9=1:=by kernel_rfl
theorem zCs:tP.cellsOf 26=1:=by kernel_rfl
theorem zt5:tP.cellsOf 23=1:=by kernel_rfl
theorem zCu:tP.cellsOf 55=1:=by kernel_rfl
theorem zCt:tP.cellsOf 28=3:=by kernel_rfl
theorem zCr:tP.cellsOf 25=3:=by kernel_rfl
theorem zCv:tP.cellsOf 57=3:=by kernel_rfl
theorem zCw:tP.cellsOf 59=2:=by kernel_rfl
theorem zob{es:List (List AV)}(h:∀c∈es,∃v:VT,c=v.cs∧zaW v):∃ks:List VT,es=VT.css ks∧zci ks:=by
 obtain⟨xs,hx⟩:=zhI (cs:=λx:{v:VT // zaW v}=>x.1.cs) λc hc=>by obtain⟨v,h1,h2⟩:=h c hc;exact⟨⟨v,h2⟩,h1⟩
 refine⟨xs.map λx=>x.1,by rw[VT.css_map,hx,List.map_map];rfl,zuu λv hv=>?_⟩;obtain⟨x,_,rfl⟩:=List.mem_map.1 hv;exact x.2
theorem zxa:∀(n:Nat) (l:List AV),zbz tP n 25 l→∃v:VT,l=v.cs∧zaW v:=by
 intro n;induction n using Nat.strongRecOn with
 |_ n ih=>
  intro l h;obtain⟨n',hn,hl,hf⟩:=zkV Tryz.underlying25 h;rw[zCr]at hl
  match l,hl with
  |[a,b,c],_=>simp[ce3,zt5]at hf;obtain⟨h1,h2,h3⟩:=hf;obtain⟨k,hk,_⟩:=zgU Tryz.underlying3 h1;obtain⟨m,hm,_⟩:=zgU Tryz.underlying3 h2;obtain⟨es,n2,hn2,hes,hml,hel⟩:=zgV Tryz.underlying23 h3;obtain⟨ks,hks,hfit⟩:=zob (λc hc=>ih n2 (by omega) c (hel c hc));simp at hk hm hes;rw[hks,VT.css_len]at hml;exact⟨.mk k m ks,by simp[VT.cs,hk,hm,hes,hks],by rw[zaW];exact⟨by simpa[maxLen]using hml,hfit⟩⟩
theorem zGD:∀(n:Nat) (l:List AV),zbz tP n 28 l→∃v:VT,l=v.cs∧zaW v:=by
 intro n;induction n using Nat.strongRecOn with
 |_ n ih=>
  intro l h;obtain⟨n',hn,hl,hf⟩:=zkV Tryz.underlying28 h;rw[zCt]at hl
  match l,hl with
  |[a,b,c],_=>simp[ce2,ce3,zCs]at hf;obtain⟨h1,h2,h3⟩:=hf;obtain⟨k,hk,_⟩:=zgU Tryz.underlying3 h1;obtain⟨m,hm,_⟩:=zgU Tryz.underlying2 h2;obtain⟨es,n2,hn2,hes,hml,hel⟩:=zgV Tryz.underlying26 h3;obtain⟨ks,hks,hfit⟩:=zob (λc hc=>ih n2 (by omega) c (hel c hc));simp at hk hm hes;rw[hks,VT.css_len]at hml;exact⟨.mk k m ks,by simp[VT.cs,hk,hm,hes,hks],by rw[zaW];exact⟨by simpa[maxLen]using hml,hfit⟩⟩
theorem zDx(n:Nat)(a:AV)(h:zbz tP n 29 [a]):∃x:{l:List Int // l.length≤9223372036854775807},a=.sl (ints x.1) .none:=by
 obtain⟨es,n1,_,hes,hm,hel⟩:=zgV Tryz.underlying29 h;obtain⟨k,hk⟩:=zhI (cs:=λx:Int=>[AV.int .i64 x]) (λc hc=>by
  obtain⟨m,hm,_⟩:=zgU Tryz.underlying2 (hel c hc);exact⟨m,hm⟩)
 simp at hes;refine⟨⟨k,?_⟩,by rw[hes,hk];rfl⟩;rw[hk]at hm;simpa[maxLen]using hm
def znC(c:Con):Prop:=∀x∈c.args,zaW x
theorem zCE(n:Nat)(l:List AV)(h:zbz tP n 59 l):∃c:{c:Con // znC c},l=c.1.cs:=by
 obtain⟨n',hn,hl,hf⟩:=zkV Tryz.underlying59 h;rw[zCw]at hl
 match l,hl with
 |[a,b],_=>simp[ce9,zt5]at hf;obtain⟨h1,h2⟩:=hf;obtain⟨s,hs,_⟩:=zxb Tryz.underlying9 h1;obtain⟨es,n2,hn2,hes,_,hel⟩:=zgV Tryz.underlying23 h2;obtain⟨ks,hks,hfit⟩:=zob (λc hc=>zxa n2 c (hel c hc));simp at hs hes;exact⟨⟨⟨s,ks⟩,λx hx=>zfC hfit x hx⟩,by simp[Con.cs,hs,hes,hks]⟩
def ztp(d:Dat):Prop:=∀c∈d.cons,znC c
theorem zCT(n:Nat)(l:List AV)(h:zbz tP n 57 l):∃d:{d:Dat // ztp d},l=d.1.cs:=by
 obtain⟨n',hn,hl,hf⟩:=zkV Tryz.underlying57 h;rw[zCv]at hl
 match l,hl with
 |[a,b,c],_=>simp[ce9,ce3,zCu]at hf;obtain⟨h1,h2,h3⟩:=hf;obtain⟨s,hs,_⟩:=zxb Tryz.underlying9 h1;obtain⟨m,hm,_⟩:=zgU Tryz.underlying3 h2;obtain⟨es,n2,hn2,hes,_,hel⟩:=zgV Tryz.underlying55 h3;obtain⟨ks,hks⟩:=zhI (cs:=λx:{c:Con // znC c}=>x.1.cs) (λc hc=>zCE n2 c (hel c hc));simp at hs hm hes;refine⟨⟨⟨s,m,ks.map λx=>x.1⟩,λc hc=>?_⟩,by simp[Dat.cs,hs,hm,hes,hks,List.map_map,Function.comp_def]⟩;obtain⟨x,_,rfl⟩:=List.mem_map.1 hc;exact x.2
def zto(l:List Dat):Prop:=l.length≤9223372036854775807∧∀D∈l,∀c∈D.cons,∀x∈c.args,zaW x
theorem zCW(n:Nat)(a:AV)(h:zbz tP n 22 [a]):∃x:{l:List Dat // zto l},a=.sl (x.1.map Dat.cs) .none:=by
 obtain⟨es,n1,_,hes,hm,hel⟩:=zgV Tryz.underlying22 h;obtain⟨k,hk⟩:=zhI (cs:=λx:{d:Dat // ztp d}=>x.1.cs) (λc hc=>zCT n1 c (hel c hc));simp at hes;refine⟨⟨k.map λx=>x.1,?_,λD hD=>?_⟩,by rw[hes,hk,List.map_map];rfl⟩
 ·rw[hk]at hm;simpa[maxLen]using hm
 ·obtain⟨x,_,rfl⟩:=List.mem_map.1 hD;exact x.2
end Go.Proofs.YtaifokkaaahdoaaGreatDoor
