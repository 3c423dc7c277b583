import Derived.Test.YtdmamdnkcefmmaaGreatDoorVO
set_option linter.unusedSimpArgs false
set_option linter.unusedVariables false
set_option maxRecDepth 8000
namespace Go.Proofs.YtdmamdnkcefmmaaGreatDoor

inductive IT where
 |mk (num:Int) (kids:List IT)

mutual
def IT.cs:IT→List AV
 |.mk n ks=>[.int .i64 n,.sl (IT.css ks) .none]
def IT.css:List IT→List (List AV)
 |[]=>[]
 |v::vs=>IT.cs v::IT.css vs
end
mutual
def IT.nodes:IT→Nat
 |.mk _ ks=>IT.nodesL ks+1
def IT.nodesL:List IT→Nat
 |[]=>0
 |v::vs=>IT.nodes v+IT.nodesL vs
end
theorem IT.css_map:∀ ks:List IT,IT.css ks=ks.map IT.cs
 |[]=>rfl
 |v::vs=>by simp[IT.css,IT.css_map vs]
theorem IT.nodes_pos:∀ v:IT,0<v.nodes
 |.mk _ _=>by simp[IT.nodes]
theorem IT.nodesL_app:∀ (a b:List IT),IT.nodesL (a++b)=IT.nodesL a+IT.nodesL b
 |[],b=>by simp[IT.nodesL]
 |v::a,b=>by simp[IT.nodesL,IT.nodesL_app a b];omega
@[simp] theorem IT.cs_len(v:IT):v.cs.length=2:=by cases v;simp[IT.cs]
@[simp] theorem IT.css_len(ks:List IT):(IT.css ks).length=ks.length:=by simp[IT.css_map]
@[simp] theorem IT.cs_take(v:IT):v.cs.take 2=v.cs:=by cases v;simp[IT.cs]
@[simp] theorem IT.cs_known(v:IT):v.cs.all AV.known=true:=by cases v;simp[IT.cs,AV.known]
@[simp] theorem IT.cs_scA(v:IT)(n:Nat):v.cs.all (AV.scA n)=true:=by cases v;simp[IT.cs,AV.scA,AV.scB]
@[simp] theorem IT.css_at{ks:List IT}{i:Nat}(h:i<ks.length):(IT.css ks)[i]?.getD []=(ks[i]).cs:=by simp[IT.css_map,h]
@[simp] theorem IT.css_get{ks:List IT}{i:Nat}(h:i<(IT.css ks).length):(IT.css ks)[i]=(ks[i]'(by simpa using h)).cs:=by simp[IT.css_map]
theorem IT.css_getD{ks:List IT}{i:Nat}(h:i<ks.length):(IT.css ks).getD i []=(ks[i]).cs:=by simp[IT.css_map,List.getD_eq_getElem?_getD,h]
theorem IT.kid_lt{n:Int}{ks:List IT}{i:Nat}(h:i<ks.length):(ks[i]).nodes<(IT.mk n ks).nodes:=by
 have h1:IT.nodesL ks=IT.nodesL (ks.take i)+((ks[i]).nodes+IT.nodesL (ks.drop (i+1))):=by
  conv=>lhs;rw[←aT i ks,IT.nodesL_app,ag h]
  rw[IT.nodesL]
 simp only[IT.nodes];omega
theorem IT.len_le:∀ ks:List IT,ks.length≤IT.nodesL ks
 |[]=>by simp
 |v::vs=>by have:=IT.len_le vs;have:=v.nodes_pos;simp[IT.nodesL];omega
theorem IT.nodesL_take{ks:List IT}{i:Nat}(h:i<ks.length):IT.nodesL (ks.take (i+1))=IT.nodesL (ks.take i)+(ks[i]).nodes:=by rw[af h,IT.nodesL_app];simp[IT.nodesL]
theorem IT.nodesL_take_le(ks:List IT)(i:Nat):IT.nodesL (ks.take i)≤IT.nodesL ks:=by
 conv=>rhs;rw[←aT i ks,IT.nodesL_app]
 omega
/- The guard on a value's nodes: what is left of a number behind it, and whether it was enough. -/
mutual
def IT.val:IT→Int→Bool × Int
 |.mk _ ks,n=>if n-1<0 then (false,n-1) else IT.valL ks (n-1)
def IT.valL:List IT→Int→Bool × Int
 |[],n=>(true,n)
 | v::vs,n=>match IT.val v n with
  |(true,m)=>IT.valL vs m
  |(false,m)=>(false,m)
end
mutual
theorem IT.val_spec:∀ (v:IT) (n:Int),0≤n→((IT.val v n).1=true→(IT.val v n).2=n-v.nodes∧0≤(IT.val v n).2)∧-1≤(IT.val v n).2∧(IT.val v n).2≤n
 |.mk m ks,n,h=>by
  simp only[IT.val,IT.nodes];split
  ·simp;omega
  ·have:=IT.valL_spec ks (n-1) (by omega);refine⟨λht=>?_,by omega,by omega⟩;have:=this.1 ht;omega
theorem IT.valL_spec:∀ (ks:List IT) (n:Int),0≤n→((IT.valL ks n).1=true→(IT.valL ks n).2=n-IT.nodesL ks∧0≤(IT.valL ks n).2)∧-1≤(IT.valL ks n).2∧(IT.valL ks n).2≤n
 |[],n,h=>by simp[IT.valL,IT.nodesL];omega
 |v::vs,n,h=>by
  have h1:=IT.val_spec v n h;simp only[IT.valL,IT.nodesL];split
  ·rename_i m hm;rw[hm]at h1;have h2:=h1.1 rfl;simp only at h2;have h3:=IT.valL_spec vs m h2.2;refine⟨λht=>?_,by omega,by omega⟩;have:=h3.1 ht;omega
  ·rename_i m hm;rw[hm]at h1;simp only at h1;exact⟨by simp,by omega,by omega⟩
end
theorem IT.valL_drop{ks:List IT}{i:Nat}(h:i<ks.length)(n:Int):IT.valL (ks.drop i) n=match IT.val ks[i] n with
  |(true,m)=>IT.valL (ks.drop (i+1)) m
  |(false,m)=>(false,m):=by rw[ag h,IT.valL]
mutual
def IT.cmp:IT→IT→Int
 |.mk n ks,.mk n' ks'=>cor (icmp n n') (cor (icmp ks.length ks'.length) (IT.cmpL ks ks'))
def IT.cmpL:List IT→List IT→Int
 |v::vs,w::ws=>cor (IT.cmp v w) (IT.cmpL vs ws)
 |[],[]=>0
 |[],_::_=>-1
 |_::_,[]=>1
end
mutual
def IT.same:IT→IT→Bool
 |.mk n ks,.mk n' ks'=>n == n' && IT.sameL ks ks'
def IT.sameL:List IT→List IT→Bool
 |v::vs,w::ws=>IT.same v w && IT.sameL vs ws
 |[],[]=>true
 |[],_::_=>false
 |_::_,[]=>false
end
mutual
theorem IT.cmp_anti:∀ v w:IT,IT.cmp v w=- IT.cmp w v
 |.mk n ks,.mk n' ks'=>by simp only[IT.cmp];exact zfn (zht _ _) (zfn (zht _ _) (IT.cmpL_anti ks ks'))
theorem IT.cmpL_anti:∀ v w:List IT,IT.cmpL v w=- IT.cmpL w v
 |v::vs,w::ws=>by simp only[IT.cmpL];exact zfn (IT.cmp_anti v w) (IT.cmpL_anti vs ws)
 |[],[]=>by simp[IT.cmpL]
 |[],_::_=>by simp[IT.cmpL]
 |_::_,[]=>by simp[IT.cmpL]
end
mutual
theorem IT.cmp_rng:∀ v w:IT,IT.cmp v w=-1∨IT.cmp v w=0∨IT.cmp v w=1
 |.mk n ks,.mk n' ks'=>by simp only[IT.cmp];exact zfo (zhu _ _) (zfo (zhu _ _) (IT.cmpL_rng ks ks'))
theorem IT.cmpL_rng:∀ v w:List IT,IT.cmpL v w=-1∨IT.cmpL v w=0∨IT.cmpL v w=1
 |v::vs,w::ws=>by simp only[IT.cmpL];exact zfo (IT.cmp_rng v w) (IT.cmpL_rng vs ws)
 |[],[]=>by simp[IT.cmpL]
 |[],_::_=>by simp[IT.cmpL]
 |_::_,[]=>by simp[IT.cmpL]
end
theorem IT.sameL_len:∀ v w:List IT,IT.sameL v w=true→v.length=w.length
 |v::vs,w::ws=>by simp only[IT.sameL,ai,List.length_cons];intro h;have:=IT.sameL_len vs ws h.2;omega
 |[],[]=>by simp
 |[],_::_=>by simp[IT.sameL]
 |_::_,[]=>by simp[IT.sameL]
mutual
theorem IT.cmp_zero:∀ v w:IT,IT.cmp v w=0↔IT.same v w=true
 |.mk n ks,.mk n' ks'=>by
  have h:=IT.cmpL_zero ks ks';simp only[IT.cmp,IT.same,zhh,zo5,ai,a6,h];constructor
  ·rintro⟨b,_,c⟩;exact⟨b,c⟩
  ·rintro⟨b,c⟩;exact⟨b,by have:=IT.sameL_len _ _ c;omega,c⟩
theorem IT.cmpL_zero:∀ v w:List IT,IT.cmpL v w=0↔IT.sameL v w=true
 |v::vs,w::ws=>by simp only[IT.cmpL,IT.sameL,zhh,ai,IT.cmp_zero v w,IT.cmpL_zero vs ws]
 |[],[]=>by simp[IT.cmpL,IT.sameL]
 |[],_::_=>by simp[IT.cmpL,IT.sameL]
 |_::_,[]=>by simp[IT.cmpL,IT.sameL]
end
mutual
theorem IT.cmp_tri:∀ v w x:IT,Tri (IT.cmp v w) (IT.cmp w x) (IT.cmp v x)
 |.mk n ks,.mk n' ks',.mk n'' ks''=>by simp only[IT.cmp];exact(Tri.icmp _ _ _).cor ((Tri.icmp _ _ _).cor (IT.cmpL_tri ks ks' ks''))
theorem IT.cmpL_tri:∀ v w x:List IT,Tri (IT.cmpL v w) (IT.cmpL w x) (IT.cmpL v x)
 |v::vs,w::ws,x::xs=>by simp only[IT.cmpL];exact(IT.cmp_tri v w x).cor (IT.cmpL_tri vs ws xs)
 |[],[],[]=>by simp[IT.cmpL,Tri]
 |[],[],_::_=>by simp[IT.cmpL,Tri]
 |[],_::_,[]=>by simp[IT.cmpL,Tri]
 |[],_::_,_::_=>by simp[IT.cmpL,Tri]
 |_::_,[],[]=>by simp[IT.cmpL,Tri]
 |_::_,[],_::_=>by simp[IT.cmpL,Tri]
 |_::_,_::_,[]=>by simp[IT.cmpL,Tri]
end
theorem IT.cmpL_drop{a b:List IT}{i:Nat}(ha:i<a.length)(hb:i<b.length):IT.cmpL (a.drop i) (b.drop i)=cor (IT.cmp a[i] b[i]) (IT.cmpL (a.drop (i+1)) (b.drop (i+1))):=by rw[ag ha,ag hb,IT.cmpL]
theorem IT.sameL_drop{a b:List IT}{i:Nat}(ha:i<a.length)(hb:i<b.length):IT.sameL (a.drop i) (b.drop i)=(IT.same a[i] b[i] && IT.sameL (a.drop (i+1)) (b.drop (i+1))):=by rw[ag ha,ag hb,IT.sameL]
end Go.Proofs.YtdmamdnkcefmmaaGreatDoor
