import Derived.Test.YtdmamdnkcefmmaaGreatDoorVT
set_option linter.unusedSimpArgs false
set_option linter.unusedVariables false
set_option linter.unusedSectionVars false
set_option linter.defProp false
set_option maxRecDepth 8000
namespace Go.Proofs.YtdmamdnkcefmmaaGreatDoor
def icmp(a b:Int):Int:=if a<b then -1 else if b<a then 1 else 0
def cor(a b:Int):Int:=if a=0 then b else a
def E8(a b:Int):icmp a b=- icmp b a:=by unfold icmp;split <;> split <;> first|omega|(split <;> omega)
def Jy(a b:Int):icmp a b=0↔a=b:=by unfold icmp;split <;> first|omega|(split <;> omega)
def E9(a b:Int):icmp a b=-1∨icmp a b=0∨icmp a b=1:=by unfold icmp;split <;> first|omega|(split <;> omega)
def Yq(a:Int):icmp a a=0:=(Jy a a).mpr rfl
def Yr{a b:Int}(h:a≠b):icmp a b=if a<b then -1 else 1:=by unfold icmp;split <;> first|omega|(split <;> omega)
def Br{a a' b b':Int}(h:a=- b)(h':a'=- b'):cor a a'=- cor b b':=by unfold cor;split <;> split <;> omega
def Fa(a b:Int):cor a b=0↔a=0∧b=0:=by unfold cor;split <;> omega
def Bs{a b:Int}(h:a=-1∨a=0∨a=1)(h':b=-1∨b=0∨b=1):cor a b=-1∨cor a b=0∨cor a b=1:=by unfold cor;split <;> omega
def Jz{a b:Int}(h:a≠0):cor a b=a:=by simp[cor,h]
def Qf{a b:Int}(h:a=0):cor a b=b:=by simp[cor,h]
def Tri(a b c:Int):Prop:=a≤0→b≤0→c≤0∧(c=0→a=0∧b=0)
theorem Tri.icmp(x y z:Int):Tri (icmp x y) (icmp y z) (icmp x z):=by unfold Tri Go.Proofs.YtdmamdnkcefmmaaGreatDoor.icmp;intro h1 h2;split at h1 <;> split at h2 <;> (try split at h1) <;> (try split at h2) <;> split <;> (try split) <;> omega
theorem Tri.cor{a b c a' b' c':Int}(h:Tri a b c)(h':Tri a' b' c'):Tri (cor a a') (cor b b') (cor c c'):=by unfold Tri Go.Proofs.YtdmamdnkcefmmaaGreatDoor.cor at *;intro h1 h2;by_cases ha:a=0 <;> by_cases hb:b=0 <;> by_cases hc:c=0 <;> simp only[ha,hb,hc,br,ba]at*<;> first|omega|(simp_all;done)|(have:=h' h1 h2;simp_all;omega)
mutual
def VT.cmp:VT→VT→Int
 |.mk k n ks,.mk k' n' ks'=>cor (icmp k k') (cor (icmp n n') (cor (icmp ks.length ks'.length) (VT.ZK ks ks')))
def VT.ZK:List VT→List VT→Int
 |v::vs,w::ws=>cor (VT.cmp v w) (VT.ZK vs ws)
 |[],[]=>0
 |[],_::_=>-1
 |_::_,[]=>1
end
mutual
def VT.same:VT→VT→Bool
 |.mk k n ks,.mk k' n' ks'=>k == k' && n == n' && VT.ZL ks ks'
def VT.ZL:List VT→List VT→Bool
 |v::vs,w::ws=>VT.same v w && VT.ZL vs ws
 |[],[]=>true
 |[],_::_=>false
 |_::_,[]=>false
end
mutual
theorem VT.ZN:∀ v w:VT,VT.cmp v w=- VT.cmp w v
 |.mk k n ks,.mk k' n' ks'=>by simp only[VT.cmp];exact Br (E8 _ _) (Br (E8 _ _) (Br (E8 _ _) (VT.cmpL_anti ks ks')))
theorem VT.cmpL_anti:∀ v w:List VT,VT.ZK v w=- VT.ZK w v
 |v::vs,w::ws=>by simp only[VT.ZK];exact Br (VT.ZN v w) (VT.cmpL_anti vs ws)
 |[],[]=>by simp[VT.ZK]
 |[],_::_=>by simp[VT.ZK]
 |_::_,[]=>by simp[VT.ZK]
end
mutual
theorem VT.cmp_rng:∀ v w:VT,VT.cmp v w=-1∨VT.cmp v w=0∨VT.cmp v w=1
 |.mk k n ks,.mk k' n' ks'=>by simp only[VT.cmp];exact Bs (E9 _ _) (Bs (E9 _ _) (Bs (E9 _ _) (VT.cmpL_rng ks ks')))
theorem VT.cmpL_rng:∀ v w:List VT,VT.ZK v w=-1∨VT.ZK v w=0∨VT.ZK v w=1
 |v::vs,w::ws=>by simp only[VT.ZK];exact Bs (VT.cmp_rng v w) (VT.cmpL_rng vs ws)
 |[],[]=>by simp[VT.ZK]
 |[],_::_=>by simp[VT.ZK]
 |_::_,[]=>by simp[VT.ZK]
end
theorem VT.sameL_len:∀ v w:List VT,VT.ZL v w=true→v.length=w.length
 |v::vs,w::ws=>by simp only[VT.ZL,ap,List.length_cons];intro h;have:=VT.sameL_len vs ws h.2;omega
 |[],[]=>by simp
 |[],_::_=>by simp[VT.ZL]
 |_::_,[]=>by simp[VT.ZL]
mutual
theorem VT.cmp_zero:∀ v w:VT,VT.cmp v w=0↔VT.same v w=true
 |.mk k n ks,.mk k' n' ks'=>by
  have h:=VT.cmpL_zero ks ks';simp only[VT.cmp,VT.same,Fa,Jy,ap,bt,and_assoc,h];constructor
  ·rintro⟨a,b,_,c⟩;exact⟨a,b,c⟩
  ·rintro⟨a,b,c⟩;exact⟨a,b,by have:=VT.sameL_len _ _ c;omega,c⟩
theorem VT.cmpL_zero:∀ v w:List VT,VT.ZK v w=0↔VT.ZL v w=true
 |v::vs,w::ws=>by simp only[VT.ZK,VT.ZL,Fa,ap,VT.cmp_zero v w,VT.cmpL_zero vs ws]
 |[],[]=>by simp[VT.ZK,VT.ZL]
 |[],_::_=>by simp[VT.ZK,VT.ZL]
 |_::_,[]=>by simp[VT.ZK,VT.ZL]
end
mutual
theorem VT.cmp_tri:∀ v w x:VT,Tri (VT.cmp v w) (VT.cmp w x) (VT.cmp v x)
 |.mk k n ks,.mk k' n' ks',.mk k'' n'' ks''=>by simp only[VT.cmp];exact(Tri.icmp _ _ _).cor ((Tri.icmp _ _ _).cor ((Tri.icmp _ _ _).cor (VT.cmpL_tri ks ks' ks'')))
theorem VT.cmpL_tri:∀ v w x:List VT,Tri (VT.ZK v w) (VT.ZK w x) (VT.ZK v x)
 |v::vs,w::ws,x::xs=>by simp only[VT.ZK];exact(VT.cmp_tri v w x).cor (VT.cmpL_tri vs ws xs)
 |[],[],[]=>by simp[VT.ZK,Tri]
 |[],[],_::_=>by simp[VT.ZK,Tri]
 |[],_::_,[]=>by simp[VT.ZK,Tri]
 |[],_::_,_::_=>by simp[VT.ZK,Tri]
 |_::_,[],[]=>by simp[VT.ZK,Tri]
 |_::_,[],_::_=>by simp[VT.ZK,Tri]
 |_::_,_::_,[]=>by simp[VT.ZK,Tri]
end
end Go.Proofs.YtdmamdnkcefmmaaGreatDoor
