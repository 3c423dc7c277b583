import Derived.Test.YtdmamdnkcefmmaaGreatDoorVT
set_option linter.unusedSimpArgs false
set_option linter.unusedVariables false
set_option maxRecDepth 8000
namespace Go.Abs
open Go
def icmp (a b:Int):Int:=if a<b then -1 else if b<a then 1 else 0
def cor (a b:Int):Int:=if a=0 then b else a
theorem zgL (a b:Int):icmp a b=- icmp b a:=by unfold icmp;split <;> split <;> first | omega | (split <;> omega)
theorem znH (a b:Int):icmp a b=0↔a=b:=by unfold icmp;split <;> first | omega | (split <;> omega)
theorem zgM (a b:Int):icmp a b=-1∨icmp a b=0∨icmp a b=1:=by unfold icmp;split <;> first | omega | (split <;> omega)
theorem zeW {a a' b b':Int} (h:a=- b) (h':a'=- b'):cor a a'=- cor b b':=by unfold cor;split <;> split <;> omega
theorem zgz (a b:Int):cor a b=0↔a=0∧b=0:=by unfold cor;split <;> omega
theorem zeX {a b:Int} (h:a=-1∨a=0∨a=1) (h':b=-1∨b=0∨b=1):cor a b=-1∨cor a b=0∨cor a b=1:=by unfold cor;split <;> omega
theorem zuk {a b:Int} (h:a≠0):cor a b=a:=by simp[cor,h]
theorem zul {a b:Int} (h:a=0):cor a b=b:=by simp[cor,h]
def Tri (a b c:Int):Prop:=a≤0→b≤0→c≤0∧(c=0→a=0∧b=0)
theorem Tri.icmp (x y z:Int):Tri (icmp x y) (icmp y z) (icmp x z):=by
 unfold Tri Go.Abs.icmp
 intro h1 h2
 split at h1 <;> split at h2 <;> (try split at h1) <;> (try split at h2) <;> split <;> (try split) <;> omega
theorem Tri.cor {a b c a' b' c':Int} (h:Tri a b c) (h':Tri a' b' c'):Tri (cor a a') (cor b b') (cor c c'):=by
 unfold Tri Go.Abs.cor at *
 intro h1 h2
 by_cases ha:a=0 <;> by_cases hb:b=0 <;> by_cases hc:c=0 <;> simp only[ha,hb,hc,if_true,if_false]at*<;> first | omega | (simp_all;done) | (have:=h' h1 h2;simp_all;omega)
mutual
def VT.cmp:VT→VT→Int
 | .mk k n ks,.mk k' n' ks'=>cor (icmp k k') (cor (icmp n n') (cor (icmp ks.length ks'.length) (VT.cmpL ks ks')))
def VT.cmpL:List VT→List VT→Int
 | v::vs,w::ws=>cor (VT.cmp v w) (VT.cmpL vs ws)
 | [],[]=>0
 | [],_::_=>-1
 | _::_,[]=>1
end
mutual
def VT.same:VT→VT→Bool
 | .mk k n ks,.mk k' n' ks'=>k == k' && n == n' && VT.sameL ks ks'
def VT.sameL:List VT→List VT→Bool
 | v::vs,w::ws=>VT.same v w && VT.sameL vs ws
 | [],[]=>true
 | [],_::_=>false
 | _::_,[]=>false
end
mutual
theorem VT.cmp_anti:∀ v w:VT,VT.cmp v w=- VT.cmp w v
 | .mk k n ks,.mk k' n' ks'=>by
  simp only[VT.cmp]
  exact zeW (zgL _ _) (zeW (zgL _ _) (zeW (zgL _ _) (VT.cmpL_anti ks ks')))
theorem VT.cmpL_anti:∀ v w:List VT,VT.cmpL v w=- VT.cmpL w v
 | v::vs,w::ws=>by simp only[VT.cmpL];exact zeW (VT.cmp_anti v w) (VT.cmpL_anti vs ws)
 | [],[]=>by simp[VT.cmpL]
 | [],_::_=>by simp[VT.cmpL]
 | _::_,[]=>by simp[VT.cmpL]
end
mutual
theorem VT.cmp_rng:∀ v w:VT,VT.cmp v w=-1∨VT.cmp v w=0∨VT.cmp v w=1
 | .mk k n ks,.mk k' n' ks'=>by
  simp only[VT.cmp]
  exact zeX (zgM _ _) (zeX (zgM _ _) (zeX (zgM _ _) (VT.cmpL_rng ks ks')))
theorem VT.cmpL_rng:∀ v w:List VT,VT.cmpL v w=-1∨VT.cmpL v w=0∨VT.cmpL v w=1
 | v::vs,w::ws=>by simp only[VT.cmpL];exact zeX (VT.cmp_rng v w) (VT.cmpL_rng vs ws)
 | [],[]=>by simp[VT.cmpL]
 | [],_::_=>by simp[VT.cmpL]
 | _::_,[]=>by simp[VT.cmpL]
end
theorem VT.sameL_len:∀ v w:List VT,VT.sameL v w=true→v.length=w.length
 | v::vs,w::ws=>by simp only[VT.sameL,Bool.and_eq_true,List.length_cons];intro h;have:=VT.sameL_len vs ws h.2;omega
 | [],[]=>by simp
 | [],_::_=>by simp[VT.sameL]
 | _::_,[]=>by simp[VT.sameL]
mutual
theorem VT.cmp_zero:∀ v w:VT,VT.cmp v w=0↔VT.same v w=true
 | .mk k n ks,.mk k' n' ks'=>by
  have h:=VT.cmpL_zero ks ks'
  simp only[VT.cmp,VT.same,zgz,znH,Bool.and_eq_true,beq_iff_eq,and_assoc,h]
  constructor
  ·rintro⟨a,b,_,c⟩;exact⟨a,b,c⟩
  ·rintro⟨a,b,c⟩;exact⟨a,b,by have:=VT.sameL_len _ _ c;omega,c⟩
theorem VT.cmpL_zero:∀ v w:List VT,VT.cmpL v w=0↔VT.sameL v w=true
 | v::vs,w::ws=>by simp only[VT.cmpL,VT.sameL,zgz,Bool.and_eq_true,VT.cmp_zero v w,VT.cmpL_zero vs ws]
 | [],[]=>by simp[VT.cmpL,VT.sameL]
 | [],_::_=>by simp[VT.cmpL,VT.sameL]
 | _::_,[]=>by simp[VT.cmpL,VT.sameL]
end
mutual
theorem VT.cmp_tri:∀ v w x:VT,Tri (VT.cmp v w) (VT.cmp w x) (VT.cmp v x)
 | .mk k n ks,.mk k' n' ks',.mk k'' n'' ks''=>by
  simp only[VT.cmp]
  exact (Tri.icmp _ _ _).cor ((Tri.icmp _ _ _).cor ((Tri.icmp _ _ _).cor (VT.cmpL_tri ks ks' ks'')))
theorem VT.cmpL_tri:∀ v w x:List VT,Tri (VT.cmpL v w) (VT.cmpL w x) (VT.cmpL v x)
 | v::vs,w::ws,x::xs=>by simp only[VT.cmpL];exact (VT.cmp_tri v w x).cor (VT.cmpL_tri vs ws xs)
 | [],[],[]=>by simp[VT.cmpL,Tri]
 | [],[],_::_=>by simp[VT.cmpL,Tri]
 | [],_::_,[]=>by simp[VT.cmpL,Tri]
 | [],_::_,_::_=>by simp[VT.cmpL,Tri]
 | _::_,[],[]=>by simp[VT.cmpL,Tri]
 | _::_,[],_::_=>by simp[VT.cmpL,Tri]
 | _::_,_::_,[]=>by simp[VT.cmpL,Tri]
end
theorem VT.cmpL_drop {a b:List VT} {i:Nat} (ha:i<a.length) (hb:i<b.length):VT.cmpL (a.drop i) (b.drop i)=cor (VT.cmp a[i] b[i]) (VT.cmpL (a.drop (i+1)) (b.drop (i+1))):=by
 rw[List.drop_eq_getElem_cons ha,List.drop_eq_getElem_cons hb,VT.cmpL]
theorem VT.sameL_drop {a b:List VT} {i:Nat} (ha:i<a.length) (hb:i<b.length):VT.sameL (a.drop i) (b.drop i)=(VT.same a[i] b[i] && VT.sameL (a.drop (i+1)) (b.drop (i+1))):=by
 rw[List.drop_eq_getElem_cons ha,List.drop_eq_getElem_cons hb,VT.sameL]
end Go.Abs
