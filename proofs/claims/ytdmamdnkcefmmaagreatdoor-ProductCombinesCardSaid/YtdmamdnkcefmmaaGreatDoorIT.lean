import Derived.Test.YtdmamdnkcefmmaaGreatDoorVO
set_option linter.unusedSimpArgs false
set_option linter.unusedVariables false
set_option linter.unusedSectionVars false
set_option linter.defProp false
set_option maxRecDepth 8000
namespace Go.Proofs.YtdmamdnkcefmmaaGreatDoor

inductive IT where
 |mk (num:Int) (kids:List IT)

mutual
def IT.cs:IT→List AV
 |.mk n ks=>[.int .i64 n,.sl (IT.css ks) .none]
def IT.css:List IT→List (List AV)
 |[]=>[]
 |v::vs=>IT.cs v::IT.css vs
end
mutual
def IT.ZO:IT→Nat
 |.mk _ ks=>IT.ZA ks+1
def IT.ZA:List IT→Nat
 |[]=>0
 |v::vs=>IT.ZO v+IT.ZA vs
end
theorem IT.ZC:∀ ks:List IT,IT.css ks=ks.map IT.cs
 |[]=>rfl
 |v::vs=>by simp[IT.css,IT.ZC vs]
def IT.ZB:∀ v:IT,0<v.ZO
 |.mk _ _=>by simp[IT.ZO]
theorem IT.ZF:∀ (a b:List IT),IT.ZA (a++b)=IT.ZA a+IT.ZA b
 |[],b=>by simp[IT.ZA]
 |v::a,b=>by simp[IT.ZA,IT.ZF a b];omega
@[simp] theorem IT.cs_len(v:IT):v.cs.length=2:=by cases v;simp[IT.cs]
@[simp] theorem IT.css_len(ks:List IT):(IT.css ks).length=ks.length:=by simp[IT.ZC]
@[simp] theorem IT.cs_take(v:IT):v.cs.take 2=v.cs:=by cases v;simp[IT.cs]
@[simp] theorem IT.cs_known(v:IT):v.cs.all AV.ZP=true:=by cases v;simp[IT.cs,AV.ZP]
@[simp] theorem IT.cs_scA(v:IT)(n:Nat):v.cs.all (AV.ZH n)=true:=by cases v;simp[IT.cs,AV.ZH,AV.ZI]
@[simp] theorem IT.css_get{ks:List IT}{i:Nat}(h:i<(IT.css ks).length):(IT.css ks)[i]=(ks[i]'(by simpa using h)).cs:=by simp[IT.ZC]
def IT.ZM{n:Int}{ks:List IT}{i:Nat}(h:i<ks.length):(ks[i]).ZO<(IT.mk n ks).ZO:=by
 have h1:IT.ZA ks=IT.ZA (ks.take i)+((ks[i]).ZO+IT.ZA (ks.drop (i+1))):=by
  conv=>lhs;rw[←aJ i ks,IT.ZF,ai h]
  rw[IT.ZA]
 simp only[IT.ZO];omega
theorem IT.ZQ:∀ ks:List IT,ks.length≤IT.ZA ks
 |[]=>by simp
 |v::vs=>by have:=IT.ZQ vs;have:=v.ZB;simp[IT.ZA];omega
def IT.ZE{ks:List IT}{i:Nat}(h:i<ks.length):IT.ZA (ks.take (i+1))=IT.ZA (ks.take i)+(ks[i]).ZO:=by rw[ag h,IT.ZF];simp[IT.ZA]
def IT.ZD(ks:List IT)(i:Nat):IT.ZA (ks.take i)≤IT.ZA ks:=by
 conv=>rhs;rw[←aJ i ks,IT.ZF]
 omega
/- The guard on a value's ZO: what is left of a number behind it, and whether it was enough. -/
mutual
def IT.val:IT→Int→Bool × Int
 |.mk _ ks,n=>if n-1<0 then (false,n-1) else IT.valL ks (n-1)
def IT.valL:List IT→Int→Bool × Int
 |[],n=>(true,n)
 | v::vs,n=>match IT.val v n with
  |(true,m)=>IT.valL vs m
  |(false,m)=>(false,m)
end
mutual
theorem IT.val_spec:∀ (v:IT) (n:Int),0≤n→((IT.val v n).1=true→(IT.val v n).2=n-v.ZO∧0≤(IT.val v n).2)∧-1≤(IT.val v n).2∧(IT.val v n).2≤n
 |.mk m ks,n,h=>by
  simp only[IT.val,IT.ZO];split
  ·simp;omega
  ·have:=IT.valL_spec ks (n-1) (by omega);refine⟨λht=>?_,by omega,by omega⟩;have:=this.1 ht;omega
theorem IT.valL_spec:∀ (ks:List IT) (n:Int),0≤n→((IT.valL ks n).1=true→(IT.valL ks n).2=n-IT.ZA ks∧0≤(IT.valL ks n).2)∧-1≤(IT.valL ks n).2∧(IT.valL ks n).2≤n
 |[],n,h=>by simp[IT.valL,IT.ZA];omega
 |v::vs,n,h=>by
  have h1:=IT.val_spec v n h;simp only[IT.valL,IT.ZA];split
  ·rename_i m hm;rw[hm]at h1;have h2:=h1.1 rfl;simp only at h2;have h3:=IT.valL_spec vs m h2.2;refine⟨λht=>?_,by omega,by omega⟩;have:=h3.1 ht;omega
  ·rename_i m hm;rw[hm]at h1;simp only at h1;exact⟨by simp,by omega,by omega⟩
end
mutual
def IT.cmp:IT→IT→Int
 |.mk n ks,.mk n' ks'=>cor (icmp n n') (cor (icmp ks.length ks'.length) (IT.ZK ks ks'))
def IT.ZK:List IT→List IT→Int
 |v::vs,w::ws=>cor (IT.cmp v w) (IT.ZK vs ws)
 |[],[]=>0
 |[],_::_=>-1
 |_::_,[]=>1
end
mutual
def IT.same:IT→IT→Bool
 |.mk n ks,.mk n' ks'=>n == n' && IT.ZL ks ks'
def IT.ZL:List IT→List IT→Bool
 |v::vs,w::ws=>IT.same v w && IT.ZL vs ws
 |[],[]=>true
 |[],_::_=>false
 |_::_,[]=>false
end
mutual
theorem IT.ZN:∀ v w:IT,IT.cmp v w=- IT.cmp w v
 |.mk n ks,.mk n' ks'=>by simp only[IT.cmp];exact Br (E8 _ _) (Br (E8 _ _) (IT.cmpL_anti ks ks'))
theorem IT.cmpL_anti:∀ v w:List IT,IT.ZK v w=- IT.ZK w v
 |v::vs,w::ws=>by simp only[IT.ZK];exact Br (IT.ZN v w) (IT.cmpL_anti vs ws)
 |[],[]=>by simp[IT.ZK]
 |[],_::_=>by simp[IT.ZK]
 |_::_,[]=>by simp[IT.ZK]
end
mutual
theorem IT.cmp_rng:∀ v w:IT,IT.cmp v w=-1∨IT.cmp v w=0∨IT.cmp v w=1
 |.mk n ks,.mk n' ks'=>by simp only[IT.cmp];exact Bs (E9 _ _) (Bs (E9 _ _) (IT.cmpL_rng ks ks'))
theorem IT.cmpL_rng:∀ v w:List IT,IT.ZK v w=-1∨IT.ZK v w=0∨IT.ZK v w=1
 |v::vs,w::ws=>by simp only[IT.ZK];exact Bs (IT.cmp_rng v w) (IT.cmpL_rng vs ws)
 |[],[]=>by simp[IT.ZK]
 |[],_::_=>by simp[IT.ZK]
 |_::_,[]=>by simp[IT.ZK]
end
theorem IT.sameL_len:∀ v w:List IT,IT.ZL v w=true→v.length=w.length
 |v::vs,w::ws=>by simp only[IT.ZL,ap,List.length_cons];intro h;have:=IT.sameL_len vs ws h.2;omega
 |[],[]=>by simp
 |[],_::_=>by simp[IT.ZL]
 |_::_,[]=>by simp[IT.ZL]
mutual
theorem IT.cmp_zero:∀ v w:IT,IT.cmp v w=0↔IT.same v w=true
 |.mk n ks,.mk n' ks'=>by
  have h:=IT.cmpL_zero ks ks';simp only[IT.cmp,IT.same,Fa,Jy,ap,bt,h];constructor
  ·rintro⟨b,_,c⟩;exact⟨b,c⟩
  ·rintro⟨b,c⟩;exact⟨b,by have:=IT.sameL_len _ _ c;omega,c⟩
theorem IT.cmpL_zero:∀ v w:List IT,IT.ZK v w=0↔IT.ZL v w=true
 |v::vs,w::ws=>by simp only[IT.ZK,IT.ZL,Fa,ap,IT.cmp_zero v w,IT.cmpL_zero vs ws]
 |[],[]=>by simp[IT.ZK,IT.ZL]
 |[],_::_=>by simp[IT.ZK,IT.ZL]
 |_::_,[]=>by simp[IT.ZK,IT.ZL]
end
mutual
theorem IT.cmp_tri:∀ v w x:IT,Tri (IT.cmp v w) (IT.cmp w x) (IT.cmp v x)
 |.mk n ks,.mk n' ks',.mk n'' ks''=>by simp only[IT.cmp];exact(Tri.icmp _ _ _).cor ((Tri.icmp _ _ _).cor (IT.cmpL_tri ks ks' ks''))
theorem IT.cmpL_tri:∀ v w x:List IT,Tri (IT.ZK v w) (IT.ZK w x) (IT.ZK v x)
 |v::vs,w::ws,x::xs=>by simp only[IT.ZK];exact(IT.cmp_tri v w x).cor (IT.cmpL_tri vs ws xs)
 |[],[],[]=>by simp[IT.ZK,Tri]
 |[],[],_::_=>by simp[IT.ZK,Tri]
 |[],_::_,[]=>by simp[IT.ZK,Tri]
 |[],_::_,_::_=>by simp[IT.ZK,Tri]
 |_::_,[],[]=>by simp[IT.ZK,Tri]
 |_::_,[],_::_=>by simp[IT.ZK,Tri]
 |_::_,_::_,[]=>by simp[IT.ZK,Tri]
end
def IT.cmpL_drop{a b:List IT}{i:Nat}(ha:i<a.length)(hb:i<b.length):IT.ZK (a.drop i) (b.drop i)=cor (IT.cmp a[i] b[i]) (IT.ZK (a.drop (i+1)) (b.drop (i+1))):=by rw[ai ha,ai hb,IT.ZK]
end Go.Proofs.YtdmamdnkcefmmaaGreatDoor
