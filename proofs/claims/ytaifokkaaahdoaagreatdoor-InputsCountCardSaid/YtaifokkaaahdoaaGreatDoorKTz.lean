import Derived.Test.YtaifokkaaahdoaaGreatDoorKY5
import Derived.Test.YtaifokkaaahdoaaGreatDoorAbsT
import Derived.Test.YtaifokkaaahdoaaGreatDoorKNum
import Derived.Test.YtaifokkaaahdoaaGreatDoorKY11
import Derived.Test.YtaifokkaaahdoaaGreatDoorLE2
import Derived.Test.YtaifokkaaahdoaaGreatDoorProg
import Derived.KernelRfl
set_option linter.unusedSimpArgs false
set_option linter.unusedVariables false
set_option maxRecDepth 8000
namespace Go.Proofs.YtaifokkaaahdoaaGreatDoor
open Go Go.Abs
set_option maxRecDepth 100000
theorem zes:zjY tP [22,57,55,59,23,25,28,26,29,2,3,9]=true:=by kernel_rfl
theorem ce3:tP.cellsOf 3=1:=by kernel_rfl
theorem ce9:tP.cellsOf 9=1:=by kernel_rfl
theorem ztr:tP.cellsOf 23=1:=by kernel_rfl
theorem zB7:tP.cellsOf 55=1:=by kernel_rfl
theorem zB6:tP.cellsOf 25=3:=by kernel_rfl
theorem zB8:tP.cellsOf 57=3:=by kernel_rfl
theorem zB9:tP.cellsOf 59=2:=by kernel_rfl
theorem ztS{es:List (List AV)}(h:∀c∈es,∃v:VT,c=v.cs∧za1 v):∃ks:List VT,es=VT.css ks∧zcw ks:=by
 obtain⟨xs,hx⟩:=zhk (cs:=λx:{v:VT // za1 v}=>x.1.cs) λc hc=>by obtain⟨v,h1,h2⟩:=h c hc;exact⟨⟨v,h2⟩,h1⟩
 refine⟨xs.map λx=>x.1,by rw[VT.css_map,hx,List.map_map];rfl,znJ λv hv=>?_⟩;obtain⟨x,_,rfl⟩:=List.mem_map.1 hv;exact x.2
theorem zkg:∀(n:Nat) (l:List AV),zbv tP n 25 l→∃v:VT,l=v.cs∧za1 v:=by
 intro n;induction n using Nat.strongRecOn with
 |_ n ih=>
  intro l h;obtain⟨n',hn,hl,hf⟩:=zpx Tryz.underlying25 h;rw[zB6]at hl
  match l,hl with
  |[a,b,c],_=>simp[ce3,ztr]at hf;obtain⟨h1,h2,h3⟩:=hf;obtain⟨k,hk,_⟩:=zgC Tryz.underlying3 h1;obtain⟨m,hm,_⟩:=zgC Tryz.underlying3 h2;obtain⟨es,n2,hn2,hes,hml,hel⟩:=zhY Tryz.underlying23 h3;obtain⟨ks,hks,hfit⟩:=ztS (λc hc=>ih n2 (by omega) c (hel c hc));simp at hk hm hes;rw[hks,VT.css_len]at hml;exact⟨.mk k m ks,by simp[VT.cs,hk,hm,hes,hks],by rw[za1];exact⟨by simpa[maxLen]using hml,hfit⟩⟩
theorem zus(n:Nat)(a:AV)(h:zbv tP n 29 [a]):∃x:{l:List Int // l.length≤9223372036854775807},a=.sl (ints x.1) .none:=by
 obtain⟨es,n1,_,hes,hm,hel⟩:=zhY Tryz.underlying29 h;obtain⟨k,hk⟩:=zhk (cs:=λx:Int=>[AV.int .i64 x]) (λc hc=>by
  obtain⟨m,hm,_⟩:=zgC Tryz.underlying2 (hel c hc);exact⟨m,hm⟩)
 simp at hes;refine⟨⟨k,?_⟩,by rw[hes,hk];rfl⟩;rw[hk]at hm;simpa[maxLen]using hm
def zm9(c:Con):Prop:=∀x∈c.args,za1 x
theorem zCg(n:Nat)(l:List AV)(h:zbv tP n 59 l):∃c:{c:Con // zm9 c},l=c.1.cs:=by
 obtain⟨n',hn,hl,hf⟩:=zpx Tryz.underlying59 h;rw[zB9]at hl
 match l,hl with
 |[a,b],_=>simp[ce9,ztr]at hf;obtain⟨h1,h2⟩:=hf;obtain⟨s,hs,_⟩:=zwI Tryz.underlying9 h1;obtain⟨es,n2,hn2,hes,_,hel⟩:=zhY Tryz.underlying23 h2;obtain⟨ks,hks,hfit⟩:=ztS (λc hc=>zkg n2 c (hel c hc));simp at hs hes;exact⟨⟨⟨s,ks⟩,λx hx=>zhb hfit x hx⟩,by simp[Con.cs,hs,hes,hks]⟩
def zsN(d:Dat):Prop:=∀c∈d.cons,zm9 c
theorem zCs(n:Nat)(l:List AV)(h:zbv tP n 57 l):∃d:{d:Dat // zsN d},l=d.1.cs:=by
 obtain⟨n',hn,hl,hf⟩:=zpx Tryz.underlying57 h;rw[zB8]at hl
 match l,hl with
 |[a,b,c],_=>simp[ce9,ce3,zB7]at hf;obtain⟨h1,h2,h3⟩:=hf;obtain⟨s,hs,_⟩:=zwI Tryz.underlying9 h1;obtain⟨m,hm,_⟩:=zgC Tryz.underlying3 h2;obtain⟨es,n2,hn2,hes,_,hel⟩:=zhY Tryz.underlying55 h3;obtain⟨ks,hks⟩:=zhk (cs:=λx:{c:Con // zm9 c}=>x.1.cs) (λc hc=>zCg n2 c (hel c hc));simp at hs hm hes;refine⟨⟨⟨s,m,ks.map λx=>x.1⟩,λc hc=>?_⟩,by simp[Dat.cs,hs,hm,hes,hks,List.map_map,Function.comp_def]⟩;obtain⟨x,_,rfl⟩:=List.mem_map.1 hc;exact x.2
def zm6(l:List Dat):Prop:=l.length≤9223372036854775807∧∀D∈l,∀c∈D.cons,∀x∈c.args,za1 x
theorem ztF(n:Nat)(a:AV)(h:zbv tP n 22 [a]):∃x:{l:List Dat // zm6 l},a=.sl (x.1.map Dat.cs) .none:=by
 obtain⟨es,n1,_,hes,hm,hel⟩:=zhY Tryz.underlying22 h;obtain⟨k,hk⟩:=zhk (cs:=λx:{d:Dat // zsN d}=>x.1.cs) (λc hc=>zCs n1 c (hel c hc));simp at hes;refine⟨⟨k.map λx=>x.1,?_,λD hD=>?_⟩,by rw[hes,hk,List.map_map];rfl⟩
 ·rw[hk]at hm;simpa[maxLen]using hm
 ·obtain⟨x,_,rfl⟩:=List.mem_map.1 hD;exact x.2
end Go.Proofs.YtaifokkaaahdoaaGreatDoor
