import Derived.Test.YtdmamdnkcefmmaaGreatDoorKGRb
set_option linter.unusedSectionVars false
set_option linter.unusedSimpArgs false
set_option linter.unusedVariables false
set_option linter.defProp false
set_option maxRecDepth 100000
namespace Go.Proofs.YtdmamdnkcefmmaaGreatDoor
def I4(l:List Nat)(i:Nat)(h:i<l.length):tQ l=tQ (l.take i)+1000000000 ^ i*(l[i]+1000000000*tQ (l.drop (i+1))):=by
 conv=>lhs;rw[←aJ i l,yq,ai h,tQ]
 rw[a7,bo (by omega)]
def zMq(l:List Nat)(n:Nat)(h:l.length=n+2):tQ l=tQ (l.take n)+1000000000 ^ n*(l[n]+1000000000*l[n+1]):=by rw[I4 l n (by omega),yH l (n+1) (by omega),aS (by omega)];simp[tQ]
def zMr(l:List Nat)(n:Nat)(h:l.length=n+3):tQ l=tQ (l.take n)+1000000000 ^ n*(l[n]+1000000000*(l[n+1]+1000000000*l[n+2])):=by rw[I4 l n (by omega),yH l (n+1) (by omega),yH l (n+2) (by omega),aS (by omega)];simp[tQ]
def Bp(l:List Nat)(h:∀x∈l,x<1000000000)(n:Nat)(hn:n≤l.length):tQ (l.take n)<1000000000 ^ n:=by have:=wr (l.take n) (λx hx=>h x (bq hx));rwa [a7,bo hn]at this
section
variable {P lo lo' x head top next U V:Nat} (hU:U=lo+P*(x+1000000000*head)) (hV:V=lo'+P*(next+1000000000*top)) (gR:lo<P) (iE:lo'<P) (hx:x<1000000000) (hn:next<1000000000) (ht:1≤top) (iT:U<1000000000*V)
include hU hV gR iE hx hn ht iT
theorem PX(q:Nat):q*V=q*lo'+P*(q*next)+1000000000*(P*(q*top)):=by rw[hV];grind
theorem g_U:U=lo+P*x+1000000000*(P*head):=by rw[hU];grind
theorem zLS:U / V*V≤U:=Nat.div_mul_le_self U V
theorem PY:0<V:=by have:P*1≤P*(next+1000000000*top):=bf _ (by omega);omega
theorem zLR:U / V<1000000000:=dv (by rw[bh];exact iT)
theorem zLQ:U / V≤head / top:=by refine dA λh=>?_;have h2:=(cw (by omega)).1 h;have e1:=PX hU hV gR iE hx hn ht iT (U / V);have e2:=g_U hU hV gR iE hx hn ht iT;have e3:=zLS hU hV gR iE hx hn ht iT;have e4:P*(head+1)≤P*(U / V*top):=bf _ h2;have e5:P*(x+1)≤P*1000000000:=bf _ (by omega);rw[Nat.mul_succ]at e4 e5;generalize P*(U / V*top)=a at *;generalize P*(U / V*next)=b at *;generalize U / V*lo'=c at *;generalize U / V*V=d at *;generalize P*head=g at *;generalize P*x=k at *;omega
theorem XI:head<1000000000*top+1000000000:=by
 refine Nat.lt_of_not_le λh=>?_;have e2:=g_U hU hV gR iE hx hn ht iT;have e4:P*(1000000000*top+1000000000)≤P*head:=Nat.mul_le_mul_left _ h;have e5:P*(next+1)≤P*1000000000:=Nat.mul_le_mul_left _ (by omega);have e6:V=lo'+P*next+1000000000*(P*top):=by rw[hV];grind
 have e7:P*(1000000000*top+1000000000)=1000000000*(P*top)+1000000000*P:=by grind
 rw[Nat.mul_succ]at e5;generalize P*head=g at *;generalize P*x=k at *;generalize P*next=b at *
 generalize P*top=c at *;omega
theorem XJ{g r:Nat}(hg:g*top+r=head)(hq:U / V≤g)(h:1000000000≤g∨r*1000000000+x<g*next):1≤g∧U / V≤g-1:=by
 rcases h with h|h
 ·have:=zLR hU hV gR iE hx hn ht iT;omega
 ·have h1:g≠0:=by rintro rfl;omega
  refine⟨by omega,?_⟩;have lX:=PY hU hV gR iE hx hn ht iT;have:U / V<g:=by
   rw[Nat.div_lt_iff_lt_mul lX];have e1:=PX hU hV gR iE hx hn ht iT g;have e2:=g_U hU hV gR iE hx hn ht iT;have e3:P*(r*1000000000+x+1)≤P*(g*next):=Nat.mul_le_mul_left _ h;have e4:P*head=P*(g*top)+P*r:=by rw[←hg];grind
   have e5:P*(r*1000000000+x+1)=1000000000*(P*r)+P*x+P:=by grind
   rw[e1,e2];generalize P*(g*top)=a at *;generalize P*(g*next)=b at *;generalize g*lo'=c at *;generalize P*r=d at *;generalize P*x=k at *;omega
  omega
theorem XK{g r:Nat}(hg:g*top+r=head)(h:¬(r<1000000000∧(1000000000≤g∨r*1000000000+x<g*next))):g<1000000000∧g≤U / V+1:=by
 have hh:=XI hU hV gR iE hx hn ht iT;have lX:=PY hU hV gR iE hx hn ht iT;have qX:g<1000000000:=by
  refine cE λhb=>?_;have e1:1000000000*top≤g*top:=aD _ hb;have:r<1000000000:=by omega
  exact h ⟨this,.inl hb⟩
 refine⟨qX,?_⟩;have fS:g*next≤r*1000000000+x:=by
  by_cases hr:r<1000000000
  ·exact dA λhb=>h ⟨hr,.inr hb⟩
  ·have:g*next≤999999999*999999999:=aZ (by omega) (by omega)
   omega
 have key:g*V<U+V:=by
  have e1:g*V=g*lo'+P*(g*next)+1000000000*(P*(g*top)):=PX hU hV gR iE hx hn ht iT g;have e2:=g_U hU hV gR iE hx hn ht iT;have e3:P*(g*next)≤P*(r*1000000000+x):=Nat.mul_le_mul_left _ fS;have e4:P*head=P*(g*top)+P*r:=by rw[←hg];grind
  have e5:P*(r*1000000000+x)=1000000000*(P*r)+P*x:=by grind
  have e6:g*lo'≤g*P:=Nat.mul_le_mul_left _ (by omega);have e7:g*P≤999999999*P:=Nat.mul_le_mul_right _ (by omega);have e8:P*(1:Nat)≤P*top:=Nat.mul_le_mul_left _ ht;have e9:V=lo'+P*next+1000000000*(P*top):=by rw[hV];grind
  have hP:0<P:=by omega
  rw[e1];generalize g*P=gP at *;generalize P*(g*top)=a at *;generalize P*(g*next)=b at *;generalize g*lo'=c at *;generalize P*r=d at *;generalize P*x=k at *;generalize P*next=m at *
  generalize P*top=n at *;omega
 have h3:U<(U / V+1)*V:=by have:=Nat.lt_div_mul_add (a:=U) lX;rw[bD];exact this
 have h4:g*V<(U / V+2)*V:=by rw[show U / V+2=U / V+1+1 by omega,bD];omega
 have:=Nat.lt_of_mul_lt_mul_right h4;omega
end
def zNs{U V g:Nat}(hV:0<V)(h1:U / V≤g)(h:g*V≤U):g=U / V:=
 Nat.le_antisymm ((Nat.le_div_iff_mul_le hV).2 h) h1
def zNr{U V g:Nat}(hV:0<V)(h2:g≤U / V+1)(h:U<g*V):g=U / V+1:=by have:=(cw hV).2 h;omega
def XL(A:List Nat)(lA:∀ x∈A,x<1000000000)(ha:A.length≤2000)(m:Nat)(hm:m≤1000000000)(H:or)(K:Kt)(hK:∀ R:List Nat,R.length=A.length+1→(∀ x∈R,x<1000000000)→tQ R=tQ A*m→K (.ms H.length 0 (A.length+1) (A.length+1)) (H++[.cells (us R)])):
  ge tP 225 [.sl (tX A) .none,.int .u64 m] H K:=by
 refine zYB λhs=>?_;have hsc:∀O:List Nat,HSc (H++[.cells (us O)]):=λO=>hs.append (by simp[AB.sc,us,AV.ZH,AV.ZI]);simp[XC,wi A.length (by omega),vo];rw[AC];refine⟨⟨by omega,by omega,by omega⟩,?_⟩;refine zYz (Inv:=λq t6 t15 H'=>∃(i c:Nat) (O:List Nat),i≤A.length∧A.length-i=q∧t15=I6 i∧t6=.int .u64 c∧c<1000000000∧O.length=A.length+1∧(∀x∈O,x<1000000000)∧tQ (O.take i)+c*1000000000 ^ i=tQ (A.take i)*m∧H'=H++[.cells (us O)]) A.length ?_ ?_
 ·intro _;exact⟨0,0,_,by omega,rfl,rfl,rfl,by omega,by simp,by simp,by simp[tQ],rfl⟩
 ·rintro q t6 t15 H' ⟨i,c,O,hi,rfl,rfl,rfl,hc,i8,hO,hv,rfl⟩ fG fz fM Kb fB;by_cases fy:i<A.length
  ·have mA:=lA A[i] (ae fy);have oo:i<O.length:=by omega
   have kC:A[i]*m≤999999999*1000000000:=aZ (by omega) hm;obtain⟨p,hp⟩:∃p,p=A[i]*m:=⟨_,rfl⟩;have w0:IntKind.u64.wrap ((A[i]:Nat):Int)=A[i]:=uE (by omega);have w1:IntKind.u64.wrap (((A[i]:Nat):Int)*(m:Int))=(p:Int):=by rw[hp,←Int.natCast_mul];exact uE (by omega)
   obtain⟨s,f9⟩:∃s,s=p+c:=⟨_,rfl⟩;have w2:IntKind.u64.wrap ((p:Int)+(c:Int))=(s:Int):=by rw[f9,←Int.natCast_add];exact uE (by omega)
   obtain⟨x,c',gG,gf,gL,e1,e2⟩:=AA s (by omega);simp only[PQ];simp[fy,w0,w1,w2,e1,e2,gL,wi i (by omega),Bo O i x oo,i8];refine⟨by omega,by omega,?_⟩;refine fB _ _ ⟨A.length-(i+1),by omega,Back.here (by simp) (hsc _) (by simp[IX,ux,AV.sc,AV.ZH,AV.ZI,AV.ZJ]) ⟨_,_,rfl,i+1,c',O.set i x,by omega,rfl,by simp,rfl,by omega,by simp[i8],zn hO gG,?_,rfl⟩⟩;rw[wH (O.set i x) i (by simpa using oo),wH A i fy,List.take_set_of_le (Nat.le_refl _),List.getElem_set_self,Nat.pow_succ];rw[f9,hp]at gf;generalize tQ (O.take i)=a at *;generalize tQ (A.take i)=b at *;generalize 1000000000 ^ i=P at *;grind
  ·obtain rfl:i=A.length:=by omega
   rw[az]at hv;have oo:A.length<O.length:=by omega
   simp only[PQ];simp[v8 (show c<4294967296 by omega),Bo O A.length c oo,i8];refine⟨by omega,?_⟩;refine hK _ (by simp[i8]) (zn hO hc) ?_;rw[I4 (O.set A.length c) A.length (by simpa using oo),dD (af _),dY,aS (by simp;omega),←hv];simp[tQ,bh]
def C0{k:AV→Prop}(X S Y:List Nat)(i:Nat)(h:i<S.length):vH false 1 (X.length+i) (us (X++(S++Y))) k=k (.int .u32 ((S[i]:Nat):Int)):=by rw[EW _ _ (by simp;omega)];congr 3;rw[List.getElem_append_right (by omega)];simp[eD h]
def I5{k:AV→Prop}(S Y:List Nat)(i:Nat)(h:i<S.length):vH false 1 i (us (S++Y)) k=k (.int .u32 ((S[i]:Nat):Int)):=by rw[EW _ _ (by simp;omega)];congr 3;simp[eD h]
def I7(X S Y:List Nat)(i x:Nat)(h:i<S.length):List.take (X.length+i) (us (X++(S++Y)))++AV.int .u32 (x:Int)::List.drop (X.length+i+1) (us (X++(S++Y)))=us (X++(S.set i x++Y)):=by rw[Bo _ _ _ (by simp;omega)];congr 1;rw[au _ _ (by omega)];congr 1;rw[show X.length+i-X.length=i by omega,aY _ _ h]
def wI(z:Int)(h1:-4000000000000000000≤z)(h2:z≤4000000000000000000):IntKind.i64.wrap z=z:=um (by omega) (by omega)
def XM{S:List Nat}{i x:Nat}(h:i<S.length):tQ ((S.set i x).take (i+1))=tQ (S.take i)+x*1000000000 ^ i:=by rw[wH (S.set i x) i (by simpa using h),dD (af _),dY]
def AE{S:List Nat}{n:Nat}(h:S.length=n+1):tQ S=tQ (S.take n)+1000000000 ^ n*S[n]:=by rw[I4 S n (by omega),aS (by omega)];simp[tQ]
def I8{S R:List Nat}{i n:Nat}(hd:S.drop i=R.drop i)(hS:S.length=n)(hR:R.length=n)(h:i<n):S[i]=R[i]:=by have h1:=ai (l:=S) (i:=i) (by omega);have h2:=ai (l:=R) (i:=i) (by omega);rw[hd,h2]at h1;exact(fe h1).1.symm
def XN{S R:List Nat}{i x:Nat}(hd:S.drop i=R.drop i):(S.set i x).drop (i+1)=R.drop (i+1):=by rw[List.drop_set_of_lt (by omega),←ck,hd,ck]
section
variable (X R Y VL VT:List Nat) (n:Nat) (hR:R.length=n+1) (hV:VL.length=n) (lR:∀ x∈R,x<1000000000) (lV:∀ x∈VL,x<1000000000)
 (hX:X.length≤1000000) (hn:n≤1000000) (iu iv cu cv:Nat) (H:or) (hs:HSc H) (qu:iu<H.length) (hv:H[iv]?=some (.cells (us (VL++VT)))) (fI:iu≠iv)
include hR hV lR lV hX hn hs qu hv fI
theorem zNt(S:List Nat)(hS:S.length=n+1)(lS:∀ x∈S,x<1000000000)(b g:Nat)(hb:b≤1000000000)(hg:g<1000000000)(hSn:S[n]<b)(hRn:S[n]=R[n])(iW:tQ (S.take n)+g*tQ VL=tQ (R.take n)+b*1000000000 ^ n)(jJ:g=tQ R / tQ VL+1)(lX:0<tQ VL)(K:Kt)(hK:∀ R':List Nat,R'.length=n+1→(∀ x∈R',x<1000000000)→tQ R'=tQ R % tQ VL→K (.int .u32 ((tQ R / tQ VL:Nat):Int)) (H.set iu (.cells (us (X++(R'++Y)))))):
  PV (.ms iu X.length (n+1) cu) (.ms iv 0 n cv) (I6 n) (.int .u64 g) (I6 ((S[n]:Int)-b)) (.int .u32 0) (I6 n) I0 (H.set iu (.cells (us (X++(S++Y))))) K:=by
 have g1:∀c:AB,(H.set iu c)[iu]?=some c:=λc=>by rw[ak (by omega)]
 have g2:∀c:AB,(H.set iu c)[iv]?=some (.cells (us (VL++VT))):=λc=>by rw[aj (by omega)];exact hv
 have hsc:∀ T:List Nat,HSc (H.set iu (.cells (us (X++(T++Y))))):=λT=>hs.set (by simp[AB.sc,us,AV.ZH,AV.ZI]);refine zYL (Inv:=λq t15 t136 H'=>∃ (i c:Nat) (T:List Nat),i≤n∧n-i=q∧t136=I6 i∧t15=.int .u32 c∧c≤1∧T.length=n+1∧(∀ x∈T,x<1000000000)∧T.drop i=S.drop i ∧
  tQ (T.take i)+c*1000000000 ^ i=tQ (S.take i)+tQ (VL.take i)∧H'=H.set iu (.cells (us (X++(T++Y))))) n ?_ ?_
 ·intro _;exact⟨0,0,S,by omega,rfl,rfl,rfl,by omega,hS,lS,rfl,by simp[tQ],rfl⟩
 ·rintro q t15 t136 H' ⟨i,c,T,hi,rfl,rfl,rfl,hc,hT,lT,hd,he,rfl⟩ fG fz fM Kb fB;by_cases fy:i<n
  ·have qv:i<T.length:=by omega
   have mY:i<VL.length:=by omega
   have x1:=lT T[i] (ae qv);have x2:=lV VL[i] (ae mY);have x3:=I8 hd hT hS (by omega);have w1:IntKind.u32.wrap (((T[i]:Nat):Int)+(VL[i]:Nat))=((T[i]+VL[i]:Nat):Int):=by rw[←Int.natCast_add];exact v8 (by omega)
   obtain⟨s,f9⟩:∃s,s=T[i]+VL[i]+c:=⟨_,rfl⟩;have w2:IntKind.u32.wrap (((T[i]+VL[i]:Nat):Int)+(c:Int))=(s:Int):=by rw[f9,←Int.natCast_add];exact v8 (by omega)
   obtain⟨x,c',gG,gf,e1,e2⟩:=PJ s (by omega);have hgT:=λk=>C0 (k:=k) X T Y i qv;have qY:=λk=>I5 (k:=k) VL VT i mY;have fN:=I7 X T Y i x qv;simp only[PW];simp[fy,g1,g2,hgT,qY,w1];rw[show ((T[i]:Nat):Int)+(VL[i]:Nat)=((T[i]+VL[i]:Nat):Int) from (Int.natCast_add _ _).symm,w2];simp[e1,e2,fN,wi i (by omega)];refine⟨by omega,by omega,?_⟩;refine fB _ _ ⟨n-(i+1),by omega,Back.here (by simp) (hsc _) (by simp[I2,ux,AV.sc,AV.ZH,AV.ZI,AV.ZJ];have:=(List.getElem?_eq_some_iff.1 hv).1;omega) ⟨_,_,rfl,i+1,c',T.set i x,by omega,rfl,by simp,rfl,by omega,by simp[hT],zn lT gG,XN hd,?_,rfl⟩⟩;rw[XM qv,wH S i (by omega),wH VL i mY,←x3,Nat.pow_succ];rw[f9]at gf;generalize tQ (T.take i)=a at *;generalize tQ (S.take i)=a2 at *;generalize tQ (VL.take i)=a3 at *;generalize 1000000000 ^ i=P at *;grind
  ·obtain rfl:i=n:=by omega
   have qv:i<T.length:=by omega
   have hTn:T[i]=S[i]:=I8 hd hT hS (by omega);have t1:=Bp T lT i (by omega);have t2:=ci (tQ R) lX;have t3:tQ VL<1000000000 ^ i:=by have:=wr VL lV;rwa [hV]at this
   have t4:=AE hR;have t5:=cP (tQ R) (tQ VL);rw[show VL.take i=VL from List.take_of_length_le (by omega)]at he;obtain⟨d,kS⟩:∃d,b=R[i]+d:=⟨b-R[i],by omega⟩;have qY:g*tQ VL=tQ VL*(tQ R / tQ VL)+tQ VL:=by rw[jJ,bD,bh]
   have rT:c=1∧d=1∧tQ (T.take i)=tQ R % tQ VL:=by
    rw[kS,bp]at iW;rw[bh (1000000000 ^ i) R[i]]at t4;have jX:d≠0:=by omega
    have hc01:c=0∨c=1:=by omega
    have hdP:d=1∨2*1000000000 ^ i≤d*1000000000 ^ i:=by
     by_cases h:d=1
     ·exact .inl h
     ·exact .inr (aD _ (by omega))
    have hdP1:1*1000000000 ^ i≤d*1000000000 ^ i:=aD _ (by omega);generalize 1000000000 ^ i=P at *;generalize R[i]*P=rP at *;generalize tQ (T.take i)=tT at *;generalize tQ (S.take i)=tS at *;generalize tQ (R.take i)=tR at *;generalize tQ VL*(tQ R / tQ VL)=qV at *;generalize g*tQ VL=gV at *;rcases hc01 with rfl|rfl
    ·rw[eU]at he;omega
    ·rcases hdP with rfl | h
     ·refine⟨rfl,rfl,?_⟩;omega
     ·omega
   obtain⟨rfl,rfl,hTv⟩:=rT;have jz:1≤g:=by rw[jJ];exact Nat.le_add_left _ _
   have e1:g-1=tQ R / tQ VL:=by rw[jJ];simp
   have w2:IntKind.i64.wrap ((S[i]:Int)-b+1)=0:=by rw[wI _ (by omega) (by omega)];omega
   have w3:IntKind.u64.wrap ((g:Int)-1)=((g-1:Nat):Int):=by rw[show (g:Int)-1=((g-1:Nat):Int) by omega];exact uE (by omega)
   have w4:IntKind.u32.wrap ((g-1:Nat):Int)=((g-1:Nat):Int):=v8 (by omega);have w5:IntKind.i64.wrap 1=1:=um (by omega) (by omega);have w6:IntKind.u32.wrap 0=0:=rfl;have fN:=I7 X T Y i 0 qv;rw[show ((0:Nat):Int)=0 from rfl]at fN;simp only[PW];simp[g1,w5,w2,w3,w4,w6,fN];refine⟨by omega,by omega,?_⟩;rw[e1];refine hK (T.set i 0) (by simp[hT]) (zn lT (by omega)) ?_;rw[AE (n:=i) (by simp[hT]),dD (af _),hTv];simp
theorem XO(g:Nat)(hg:g<1000000000)(lX:0<tQ VL)(rU:tQ R / tQ VL≤g)(sI:g≤tQ R / tQ VL+1)(K:Kt)(hu:H[iu]?=some (.cells (us (X++(R++Y)))))(hK:∀ R':List Nat,R'.length=n+1→(∀ x∈R',x<1000000000)→tQ R'=tQ R % tQ VL→K (.int .u32 ((tQ R / tQ VL:Nat):Int)) (H.set iu (.cells (us (X++(R'++Y)))))):
  PT (.ms iu X.length (n+1) cu) (.ms iv 0 n cv) (I6 n) (.int .u64 g) I0 (I6 n) I0 H K:=by
 have g1:∀c:AB,(H.set iu c)[iu]?=some c:=λc=>by rw[ak (by omega)]
 have g2:∀c:AB,(H.set iu c)[iv]?=some (.cells (us (VL++VT))):=λc=>by rw[aj (by omega)];exact hv
 have hsc:∀ T:List Nat,HSc (H.set iu (.cells (us (X++(T++Y))))):=λT=>hs.set (by simp[AB.sc,us,AV.ZH,AV.ZI]);have hivl:=(ac.1 hv).1;refine zYJ (Inv:=λq t11 t78 H'=>∃ (i b:Nat) (S:List Nat),i≤n∧n-i=q∧t78=I6 i∧t11=I6 b∧b≤1000000000∧S.length=n+1∧(∀ x∈S,x<1000000000)∧S.drop i=R.drop i ∧
  tQ (S.take i)+g*tQ (VL.take i)=tQ (R.take i)+b*1000000000 ^ i∧H'=H.set iu (.cells (us (X++(S++Y))))) n ?_ ?_
 ·intro _;refine⟨0,0,R,by omega,rfl,rfl,rfl,by omega,hR,lR,rfl,by simp[tQ],?_⟩;exact(aU λj=>by
   by_cases hj:j=iu
   ·subst hj;rw[ak qu,hu]
   ·rw[aj (by omega)])
 ·rintro q t11 t78 H' ⟨i,b,S,hi,rfl,rfl,rfl,hb,hS,lS,hd,he,rfl⟩ fG fz fM Kb fB;by_cases fy:i<n
  ·have ju:i<S.length:=by omega
   have mY:i<VL.length:=by omega
   have x1:=lS S[i] (ae ju);have x2:=lV VL[i] (ae mY);have x3:=I8 hd hS hR (by omega);have kC:g*VL[i]≤999999999*999999999:=aZ (by omega) (by omega);obtain⟨m,hm⟩:∃m,m=g*VL[i]:=⟨_,rfl⟩;have w0:IntKind.i64.wrap ((S[i]:Nat):Int)=S[i]:=wI _ (by omega) (by omega);have w1:IntKind.i64.wrap (((S[i]:Nat):Int)-(b:Int))=((S[i]:Nat):Int)-b:=wI _ (by omega) (by omega);have w2:IntKind.u64.wrap ((VL[i]:Nat):Int)=VL[i]:=uE (by omega);have w3:IntKind.u64.wrap ((g:Int)*(VL[i]:Nat))=(m:Int):=by rw[hm,←Int.natCast_mul];exact uE (by omega)
   obtain⟨x,c,gG,gf,gL,e1,e2⟩:=AA m (by omega);have w4:IntKind.i64.wrap (x:Int)=x:=wI _ (by omega) (by omega);have w5:IntKind.i64.wrap (c:Int)=c:=wI _ (by omega) (by omega);have w6:IntKind.i64.wrap (((S[i]:Nat):Int)-b-(x:Int))=((S[i]:Nat):Int)-b-x:=wI _ (by omega) (by omega);have qw:=λk=>C0 (k:=k) X S Y i ju;have qY:=λk=>I5 (k:=k) VL VT i mY;simp only[I3];simp[fy,g1,g2,qw,qY,w0,w1,w2,w3,e1,e2,w4,w5,w6];obtain⟨z,hz⟩:∃z:Int,z=((S[i]:Nat):Int)-b-x:=⟨_,rfl⟩;rw[←hz];refine⟨by omega,?_⟩;refine zYK (Inv:=λq t11 t13 H'=>∃k:Nat,k≤2∧2-k=q∧t11=I6 ((c:Int)+k)∧t13=I6 (z+1000000000*k)∧z+1000000000*k<1000000000∧H'=H.set iu (.cells (us (X++(S++Y))))) 2 ?_ ?_
   ·intro _;exact⟨0,by omega,rfl,by simp,by simp,by omega,rfl⟩
   ·rintro q t11 t13 H' ⟨k,hk,rfl,rfl,rfl,hzk,rfl⟩ gw jj mi Kb2 gv;by_cases oq:z+1000000000*(k:Int)<0
    ·have w7:IntKind.i64.wrap (z+1000000000*(k:Int)+1000000000)=z+1000000000*((k+1:Nat):Int):=by rw[wI _ (by omega) (by omega)];omega
     have w8:IntKind.i64.wrap ((c:Int)+k+1)=(c:Int)+((k+1:Nat):Int):=by rw[wI _ (by omega) (by omega)];omega
     simp only[PU];simp only[zKk,oq,dT,zKq,PF,w7,w8];exact gv _ _ ⟨2-(k+1),by omega,Back.here (by simp) (hsc _) (by simp[IZ,ux,AV.sc,AV.ZH,AV.ZI,AV.ZJ];omega) ⟨_,_,rfl,k+1,by omega,rfl,rfl,rfl,by omega,rfl⟩⟩
    ·obtain⟨y,hy⟩:∃ y:Nat,z+1000000000*(k:Int)=y:=⟨(z+1000000000*(k:Int)).toNat,by omega⟩;have w7:IntKind.u32.wrap (y:Int)=y:=v8 (by omega);have fN:=I7 X S Y i y ju;have ot:(c:Int)+k=((c+k:Nat):Int):=by omega
     simp only[PU];rw[hy,ot];have hny:¬((y:Int)<0):=by omega
     simp[hny,w7,g1,fN,wi i (by omega),fy];refine⟨by omega,by omega,?_⟩;refine fB _ _ ⟨n-(i+1),by omega,Back.here (by simp) (hsc _) (by simp[IY,ux,AV.sc,AV.ZH,AV.ZI,AV.ZJ];omega) ⟨_,_,rfl,i+1,c+k,S.set i y,by omega,rfl,by simp,by simp,by omega,by simp[hS],zn lS (by omega),XN hd,?_,rfl⟩⟩;have jD:y+g*VL[i]+b=R[i]+(c+k)*1000000000:=by rw[←hm];omega
     rw[XM ju,wH R i (by omega),wH VL i mY,Nat.pow_succ];clear fB gv qw qY fN e1 e2 hsc gw fG g1 g2 hK;generalize tQ (S.take i)=a at *;generalize tQ (R.take i)=a2 at *;generalize tQ (VL.take i)=a3 at *;generalize 1000000000 ^ i=P at *;generalize R[i]=r at *;generalize VL[i]=v at *;have h1:(y+g*v+b)*P=(r+(c+k)*1000000000)*P:=by rw[jD]
     grind
  ·obtain rfl:i=n:=by omega
   have ju:i<S.length:=by omega
   have x1:=lS S[i] (ae ju);have x3:=I8 hd hS hR (by omega);rw[show VL.take i=VL from List.take_of_length_le (by omega)]at he;have w0:IntKind.i64.wrap ((S[i]:Nat):Int)=S[i]:=wI _ (by omega) (by omega);have w1:IntKind.i64.wrap (((S[i]:Nat):Int)-(b:Int))=((S[i]:Nat):Int)-b:=wI _ (by omega) (by omega);have w2:IntKind.u32.wrap (g:Int)=g:=v8 (by omega);have qw:=λk=>C0 (k:=k) X S Y i ju;have sV:=AE hR;by_cases gW:b≤S[i]
   ·obtain⟨y,hy⟩:∃ y:Nat,S[i]=y+b:=⟨S[i]-b,by omega⟩;have w3:((S[i]:Nat):Int)-(b:Int)=y:=by omega
    have w4:IntKind.u32.wrap (y:Int)=y:=v8 (by omega);have fN:=I7 X S Y i y ju;have lv:tQ (S.set i y)+g*tQ VL=tQ R:=by rw[AE (n:=i) (by simp[hS]),List.take_set_of_le (Nat.le_refl _),List.getElem_set_self,sV,←x3,hy];clear fB qw fN hsc fG g1 g2 hK;generalize tQ (S.take i)=a at *;generalize tQ (R.take i)=a2 at *;generalize 1000000000 ^ i=P at *;grind
    have jJ:=zNs lX rU (by omega);simp only[I3];have w5:IntKind.i64.wrap (y:Int)=y:=wI _ (by omega) (by omega);simp[g1,qw,w0,w1,w3,w4,w5,w2,fN];refine⟨by omega,by omega,?_⟩;have:=hK (S.set i y) (by simp[hS]) (zn lS (by omega)) (by
     have:=cP (tQ R) (tQ VL);rw[jJ,bh]at lv;omega)
    rw[←jJ]at this;exact this
   ·have fT:S[i]<b:=by omega
    have oq:¬(0≤((S[i]:Nat):Int)-(b:Int)):=by omega
    have jJ:g=tQ R / tQ VL+1:=by refine zNr lX sI ?_;have t1:=Bp S lS i (by omega);have t2:(S[i]+1)*1000000000 ^ i≤b*1000000000 ^ i:=aD _ fT;rw[bD]at t2;rw[←x3,bh]at sV;omega
    simp only[I3];simp[g1,qw,w0,w1,gW];refine⟨by omega,?_⟩;exact zNt X R Y VL VT i hR hV lR lV hX hn iu iv cu cv H hs qu hv fI S hS lS b g hb hg fT x3 he jJ lX K hK
end
def zNu(X R Y VL VT:List Nat)(n n1 n2:Nat)(h1:n1+1=n)(h2:n2+2=n)(hR:R.length=n+1)(hV:VL.length=n)(lR:∀ x∈R,x<1000000000)(lV:∀ x∈VL,x<1000000000)(mZ:VL[n1]'(by omega)≠0)(iT:tQ R<1000000000*tQ VL)(hX:X.length≤1000000)(hn:n≤1000000)(iu iv cu cv:Nat)(H:or)(hu:H[iu]?=some (.cells (us (X++(R++Y)))))(hv:H[iv]?=some (.cells (us (VL++VT))))(fI:iu≠iv)(K:Kt)(hK:∀ R':List Nat,R'.length=n+1→(∀ x∈R',x<1000000000)→tQ R'=tQ R % tQ VL→K (.int .u32 ((tQ R / tQ VL:Nat):Int)) (H.set iu (.cells (us (X++(R'++Y)))))):
  ge tP 226 [.ms iu X.length (n+1) cu,.ms iv 0 n cv] H K:=by
 refine zYQ λhs=>?_;have qu:=(ac.1 hu).1;have hivl:=(ac.1 hv).1;have b1:n1<VL.length:=by omega
 have b2:n2<VL.length:=by omega
 have c0:n<R.length:=by omega
 have c1:n1<R.length:=by omega
 have c2:n2<R.length:=by omega
 have d1:=lV VL[n1] (ae b1);have d2:=lV VL[n2] (ae b2);have e0:=lR R[n] (ae c0);have e1:=lR R[n1] (ae c1);have e2:=lR R[n2] (ae c2);have mB:tQ VL=tQ (VL.take n2)+1000000000 ^ n2*(VL[n2]+1000000000*VL[n1]):=by rw[zMq VL n2 (by omega)];simp only[show n2+1=n1 by omega]
 have ou:tQ R=tQ (R.take n2)+1000000000 ^ n2*(R[n2]+1000000000*(R[n1]+1000000000*R[n])):=by rw[zMr R n2 (by omega)];simp only[show n2+1=n1 by omega,show n2+2=n by omega]
 have l1:=Bp R lR n2 (by omega);have l2:=Bp VL lV n2 (by omega);obtain⟨head,hhead⟩:∃h,h=R[n1]+1000000000*R[n]:=⟨_,rfl⟩;rw[←hhead]at ou;obtain⟨top,nT⟩:∃h,h=VL[n1]:=⟨_,rfl⟩;obtain⟨next,hnx⟩:∃h,h=VL[n2]:=⟨_,rfl⟩;obtain⟨x,hx⟩:∃h,h=R[n2]:=⟨_,rfl⟩;have nU:1≤top:=by rw[nT];omega
 rw[←nT,←hnx]at mB;rw[←hx]at ou;have lX:=PY ou mB l1 l2 (by omega) (by omega) nU iT;have hh:=XI ou mB l1 l2 (by omega) (by omega) nU iT;have w1:IntKind.i64.wrap ((n:Int)-1)=(n1:Int):=by rw[wI _ (by omega) (by omega)];omega
 have w2:IntKind.i64.wrap ((n:Int)-2)=(n2:Int):=by rw[wI _ (by omega) (by omega)];omega
 have hgR:=λk=>C0 (k:=k) X R Y n c0;have hgR1:=λk=>C0 (k:=k) X R Y n1 c1;have hgR2:=λk=>C0 (k:=k) X R Y n2 c2;have hgV1:=λk=>I5 (k:=k) VL VT n1 b1;have hgV2:=λk=>I5 (k:=k) VL VT n2 b2;have w3:IntKind.u64.wrap ((VL[n1]:Nat):Int)=(top:Int):=by rw[nT];exact uE (by omega)
 have w4:IntKind.u64.wrap ((VL[n2]:Nat):Int)=(next:Int):=by rw[hnx];exact uE (by omega)
 have w5:IntKind.u64.wrap ((R[n]:Nat):Int)=((R[n]:Nat):Int):=uE (by omega);have w6:IntKind.u64.wrap (((R[n]:Nat):Int)*1000000000)=((R[n]*1000000000:Nat):Int):=by rw[show ((R[n]:Nat):Int)*1000000000=((R[n]*1000000000:Nat):Int) by omega];exact uE (by omega)
 have w7:IntKind.u64.wrap ((R[n1]:Nat):Int)=((R[n1]:Nat):Int):=uE (by omega);have w8:IntKind.u64.wrap (((R[n]:Nat):Int)*1000000000+((R[n1]:Nat):Int))=(head:Int):=by rw[show ((R[n]:Nat):Int)*1000000000+((R[n1]:Nat):Int)=(head:Int) by omega];exact uE (by omega)
 have w9:IntKind.u64.wrap ((R[n2]:Nat):Int)=(x:Int):=by rw[hx];exact uE (by omega)
 obtain⟨r,g,i9,ij,f1,f2⟩:=CV head top (by omega) (by omega);simp only[XH];simp[w1,w2,w3,w4,w5,w6,w7,w8,f1,f2,hu,hv,hgR,hgR1,hgV1,hgV2];refine⟨by omega,by omega,by omega,by omega,?_⟩;have i7:g=head / top:=by rw[ij,du _ _ (by omega),bB i9];omega
 have oW:g<2000000000:=by
  have q1:1000000000*1≤1000000000*top:=bf _ nU;have q2:top*g<top*2000000000:=by omega
  exact cn q2
 have jJ:tQ R / tQ VL≤g:=by rw[i7];exact zLQ ou mB l1 l2 (by omega) (by omega) nU iT
 refine zYM (Inv:=λq t9 t10 H'=>∃g r:Nat,g=q∧t9=.int .u64 g∧t10=.int .u64 r∧g*top+r=head∧tQ R / tQ VL≤g∧g<2000000000∧r<2000000000∧H'=H) g ?_ ?_
 ·intro _;exact⟨g,r,rfl,rfl,rfl,by rw[bh];omega,jJ,oW,by omega,rfl⟩
 ·rintro q t9 t10 H' ⟨g,r,rfl,rfl,rfl,gE,jJ,oW,hr,rfl⟩ fG fz fM Kb fB;have hm1:g*next≤2000000000*1000000000:=aZ (by omega) (by omega)
  have w10:IntKind.u64.wrap ((g:Int)*(next:Int))=(g:Int)*(next:Int):=by rw[←Int.natCast_mul];exact uE (by omega)
  have w11:r<1000000000→IntKind.u64.wrap ((r:Int)*1000000000)=((r*1000000000:Nat):Int):=λh=>by rw[show (r:Int)*1000000000=((r*1000000000:Nat):Int) by omega];exact uE (by omega)
  have w12:r<1000000000→IntKind.u64.wrap ((r:Int)*1000000000+(x:Int))=((r*1000000000+x:Nat):Int):=λh=>by rw[show (r:Int)*1000000000+(x:Int)=((r*1000000000+x:Nat):Int) by omega];exact uE (by omega)
  have w13:1≤g→IntKind.u64.wrap ((g:Int)-1)=((g-1:Nat):Int):=λh=>by rw[show (g:Int)-1=((g-1:Nat):Int) by omega];exact uE (by omega)
  have w14:IntKind.u64.wrap ((r:Int)+(top:Int))=((r+top:Nat):Int):=by rw[←Int.natCast_add];exact uE (by omega)
  generalize hB:CZ (.ms iu X.length (n+1) cu) (.ms iv 0 n cv) (I6 n) (.int .u64 top) (.int .u64 next) (.int .u64 g) (.int .u64 r) H' K Kb=PP;by_cases pu:r<1000000000
  ·have qZ:(r:Int)<1000000000:=by omega
   by_cases qX:1000000000≤g
   ·have rV:(1000000000:Int)≤(g:Int):=by omega
    obtain⟨k1,k2⟩:=XJ ou mB l1 l2 (by omega) (by omega) nU iT gE jJ (.inl qX);rw[←hB];unfold CZ;simp[qZ,rV,w13 (by omega),w14];refine fB _ _ ⟨g-1,by omega,Back.here (by simp) hs (by simp[EZ,ux,AV.sc,AV.ZH,AV.ZI,AV.ZJ];omega) ⟨_,_,rfl,g-1,r+top,rfl,rfl,by simp,?_,k2,by omega,by omega,rfl⟩⟩;obtain⟨g',rfl⟩:∃g',g=g'+1:=⟨g-1,by omega⟩;rw[bY,←gE,bD];omega
   ·have rV:¬ (1000000000:Int)≤(g:Int):=by omega
    by_cases hc:r*1000000000+x<g*next
    ·have sW:(r:Int)*1000000000+(x:Int)<(g:Int)*(next:Int):=by rw[←Int.natCast_mul];omega
     obtain⟨k1,k2⟩:=XJ ou mB l1 l2 (by omega) (by omega) nU iT gE jJ (.inr hc);rw[←hB];unfold CZ;simp[qZ,rV,w10,w11 pu,w12 pu,w2,w9,hu,hgR2,sW,w13 (by omega),w14];refine⟨by omega,?_⟩;refine fB _ _ ⟨g-1,by omega,Back.here (by simp) hs (by simp[EZ,ux,AV.sc,AV.ZH,AV.ZI,AV.ZJ];omega) ⟨_,_,rfl,g-1,r+top,rfl,rfl,by simp,?_,k2,by omega,by omega,rfl⟩⟩;obtain⟨g',rfl⟩:∃g',g=g'+1:=⟨g-1,by omega⟩;rw[bY,←gE,bD];omega
    ·have sW:¬ (r:Int)*1000000000+(x:Int)<(g:Int)*(next:Int):=by rw[←Int.natCast_mul];omega
     obtain⟨k1,k2⟩:=XK ou mB l1 l2 (by omega) (by omega) nU iT gE (by omega);rw[←hB];unfold CZ;simp[qZ,rV,w10,w11 pu,w12 pu,w2,w9,hu,hgR2,sW];refine⟨by omega,?_⟩;exact XO X R Y VL VT n hR hV lR lV hX hn iu iv cu cv H' hs qu hv fI g k1 lX jJ k2 K hu hK
  ·have qZ:¬ (r:Int)<1000000000:=by omega
   obtain⟨k1,k2⟩:=XK ou mB l1 l2 (by omega) (by omega) nU iT gE (λh=>pu h.1);rw[←hB];unfold CZ;simp[qZ];exact XO X R Y VL VT n hR hV lR lV hX hn iu iv cu cv H' hs qu hv fI g k1 lX jJ k2 K hu hK
def PZ{l:List Nat}(n:Nat)(hn:n≤l.length):tQ l=tQ (l.take n)+1000000000 ^ n*tQ (l.drop n):=by
 conv=>lhs;rw[←aJ n l,yq]
 rw[a7,bo hn]
def zMp{l:List Nat}{n k:Nat}(hn:n≤l.length)(h:tQ l<1000000000 ^ n*k):tQ (l.drop n)<k:=by have:=PZ n hn;exact cn (a:=1000000000 ^ n) (by omega)
def XP{b n1:Nat}(h:(lim b).length=n1+1):(lim b)[n1]≠0:=by intro h0;have e:=AE h;rw[h0,Nat.mul_zero,Nat.add_zero,uN]at e;have h1:=Bp (lim b) (uZ b) n1 (by omega);rw[←e]at h1;have:=wx h1;omega
def zPh(U:List Nat)(j n:Nat)(h:j+(n+1)≤U.length):U=U.take j++((U.drop j).take (n+1)++U.drop (j+(n+1))):=by rw[←ck,aJ,aJ]
def zLF{a b s q u:Nat}(hs:0<s)(hb:0<b)(h:u+b*s*q=a*s)(hu:u<b*s):q=a / b∧u / s=a % b:=by
 have h1:s ∣ u:=by
  have e:u=a*s-b*s*q:=by omega
  rw[e,show b*s*q=(b*q)*s by grind,←Nat.sub_mul];exact Nat.dvd_mul_left s _
 obtain⟨r,rfl⟩:=h1;have h2:r+b*q=a:=by
  have:(r+b*q)*s=a*s:=by rw[←h];grind
  exact Nat.eq_of_mul_eq_mul_right hs this
 have h3:r<b:=by rw[bh b s]at hu;exact cn hu
 rw[Nat.mul_div_cancel_left _ hs];subst h2;exact⟨by rw[du _ _ hb,bB h3,aX],by rw[cW,bC h3]⟩
def zOq{k:AV→Prop}{id len cap h:Nat}(hc:h≤cap)(hk:k (.ms id 0 h cap)):uF 1 1 (.ms id 0 len cap) none (some (I6 h)) k:=by simp only[uF,PD,Xc,Int.toNat_natCast];refine⟨by omega,⟨by omega,hc⟩,?_⟩;split <;> simpa using hk
def zOr{k:AV→Prop}{id len cap l h:Nat}(h1:l≤h)(h2:h≤cap)(h3:l<cap)(hk:k (.ms id l (h-l) (cap-l))):uF 1 1 (.ms id 0 len cap) (some (I6 l)) (some (I6 h)) k:=by simp only[uF,PD,Int.toNat_natCast];refine⟨by omega,by omega,⟨h1,h2⟩,?_⟩;rw[aG (by omega)];simpa using hk
def zLH(a b n n1 n2 sc la d:Nat)(hn:n=n1+1)(ig:n1=n2+1)(hn9:n≤la)(hla9:la≤900)(hd:d=la-n)(gk:0<b)(iX:1≤sc)(gw:sc≤1000000000)(hala:a<1000000000 ^ la)(iY:1000000000 ^ n1≤b)(UL VL Q0:List Nat)(sX:UL.length=la+1)(hU:∀ x∈UL,x<1000000000)(q7:tQ UL=a*sc)(m0:VL.length=n)(mj:∀ x∈VL,x<1000000000)(kI:tQ VL=b*sc)(lw:VL[n1]'(by omega)≠0)(hQ0l:Q0.length=d+1)(hQ0d:∀ x∈Q0,x<1000000000)(H:or)(hs:HSc H)(K:Kt)(hK:K (.tup [.sl (tX (lim (a / b))) .none,.sl (tX (lim (a % b))) .none]) H):
  Pn (I6 n) (.int .u64 sc) (.ms H.length 0 (la+1) (la+1)) (.ms (H.length+1) 0 n (n+1)) (.ms (H.length+2) 0 (d+1) (d+1)) (I6 d) (H++[AB.cells (us UL),AB.cells (us (VL++[0])),AB.cells (us Q0)]) (Out H.length K):=by
 have hVpos:0<b*sc:=fa (by omega) iX;have hsc:∀ U Q:List Nat,HSc (H++[AB.cells (us U),AB.cells (us (VL++[0])),AB.cells (us Q)]):=λU Q=>hs.append (by simp[AB.sc,us,AV.ZH,AV.ZI]);refine zXv (Inv:=λq t13 H'=>∃ (i:Nat) (U Q:List Nat),i≤d+1∧i=q∧t13=I6 ((i:Int)-1)∧U.length=la+1∧(∀ x∈U,x<1000000000)∧Q.length=d+1∧(∀ x∈Q,x<1000000000) ∧
  tQ U+b*sc*(1000000000 ^ i*tQ (Q.drop i))=a*sc∧tQ (U.drop i)<b*sc∧H'=H++[AB.cells (us U),AB.cells (us (VL++[0])),AB.cells (us Q)]) (d+1) ?_ ?_
 ·intro _;refine⟨d+1,UL,Q0,by omega,rfl,by simp,by omega,hU,hQ0l,hQ0d,by rw[aS (by omega),tQ,Nat.mul_zero,Nat.mul_zero,Nat.add_zero];exact q7,?_,rfl⟩;refine zMp (by omega) ?_;rw[q7];have q1:a*sc<1000000000 ^ la*sc:=ek hala iX;have q2:1000000000 ^ la=1000000000 ^ (d+1)*1000000000 ^ n1:=by rw[←dU];congr 1;omega
  have q3:1000000000 ^ (d+1)*(1000000000 ^ n1*sc)≤1000000000 ^ (d+1)*(b*sc):=bf _ (aD _ iY);rw[q2,ee]at q1;omega
 ·rintro q t13 H' ⟨i,U,Q,hi,rfl,rfl,sX,q8,m5,ow,he,fy,rfl⟩ fG fz fM Kb fB;by_cases h0:i=0
  ·subst h0;rw[bA]at fy he;rw[Nat.pow_zero,c9]at he;obtain⟨r1,r2⟩:=zLF (a:=a) (b:=b) (s:=sc) iX (by omega) he fy;simp only[Po];simp;rw[←sX];refine IP U q8 (by omega) (by simp) ?_;have hUs:(lim (tQ U)).length≤1000:=by
    have:=wx (n:=tQ U) (k:=n) (by
     have h2:=wr VL mj;rw[m0,kI]at h2;omega)
    omega
   refine Xy (lim (tQ U)) (uZ _) hUs sc iX (by omega) gw _ _ ?_;rw[uN,r2];simp;rw[←m5];refine IP Q ow (by omega) (by simp[aR]) ?_;rw[r1];simp[au];exact⟨⟨rfl,rfl⟩,Out.tup (bs:=[.sl (tX (lim (a / b))) .none,.sl (tX (lim (a % b))) .none]) hs hK ⟨slV,slV,trivial⟩⟩
  ·obtain⟨j,rfl⟩:∃ j,i=j+1:=⟨i-1,by omega⟩;have ej:((j+1:Nat):Int)-1=(j:Int):=by omega
   have w6:IntKind.i64.wrap ((j:Int)+(n:Int))=((j+n:Nat):Int):=by rw[wI _ (by omega) (by omega)];omega
   have w7:IntKind.i64.wrap (((j+n:Nat):Int)+1)=((j+n+1:Nat):Int):=by rw[wI _ (by omega) (by omega)];omega
   have w8:IntKind.i64.wrap ((j:Int)-1)=(j:Int)-1:=wI _ (by omega) (by omega);rw[ej];simp only[Po,zKi,PC,PF,w6,w7];rw[aN (by simp)];refine zOr (by omega) (by omega) (by omega) ?_;have nJ:=zPh U j n (by omega);obtain⟨X,hX⟩:∃X,X=U.take j:=⟨_,rfl⟩;obtain⟨R,hR⟩:∃R,R=(U.drop j).take (n+1):=⟨_,rfl⟩;obtain⟨Y,hY⟩:∃Y,Y=U.drop (j+(n+1)):=⟨_,rfl⟩;rw[←hX,←hR,←hY]at nJ;have rW:X.length=j:=by rw[hX];simp;omega
   have iN:R.length=n+1:=by rw[hR];simp;omega
   have hRd:∀x∈R,x<1000000000:=λx hx=>q8 x (by rw[nJ];simp[hx]);have hjU:j<U.length:=by omega
   have hVn2:=wr VL mj;rw[m0,kI]at hVn2
   -- what stands above the digits in view is 0
   have rX:tQ Y=0:=by have e1:=PZ (l:=U.drop (j+1)) n (by simp;omega);rw[ck,show j+1+n=j+(n+1) by omega,←hY]at e1;refine cg λh=>?_;have:1000000000 ^ n*1≤1000000000 ^ n*tQ Y:=bf _ h;omega
   have hdropU:tQ (U.drop j)=tQ R:=by have e1:=PZ (l:=U.drop j) (n+1) (by simp;omega);rw[ck,←hY,rX,←hR,Nat.mul_zero,Nat.add_zero]at e1;exact e1
   have iT:tQ R<1000000000*tQ VL:=by rw[←hdropU,yH U j hjU,kI];have:=q8 U[j] (ae hjU);omega
   have hq:tQ R / (b*sc)<1000000000:=dv (by rw[kI]at iT;rw[bh];exact iT);rw[show j+n+1-j=n+1 by omega,nJ];have kF:=λK'=>zNu X R Y VL [0] n n1 n2 (by omega) (by omega) iN m0 hRd mj lw iT (by omega) (by omega) H.length (H.length+1) (la+1-j) (n+1) (H++[AB.cells (us (X++(R++Y))),AB.cells (us (VL++[0])),AB.cells (us Q)]) (by simp) (by simp[aR]) (by omega) K';rw[rW]at kF;refine kF _ λR' hR'l hR'd pv=>?_;rw[kI]at pv ⊢;have fW:(H++[AB.cells (us (X++(R++Y))),AB.cells (us (VL++[0])),AB.cells (us Q)]).set H.length (AB.cells (us (X++(R'++Y))))=H++[AB.cells (us (X++(R'++Y))),AB.cells (us (VL++[0])),AB.cells (us Q)]:=by rw[au _ _ (by omega)];simp
   rw[fW];obtain⟨qd,hqd⟩:∃qd,qd=tQ R / (b*sc):=⟨_,rfl⟩;rw[←hqd]at hq ⊢;have rY:j<Q.length:=by omega
   simp[aR,w8,Bo Q j qd rY,au,m5];have hYl:Y.length=la+1-(j+(n+1)):=by rw[hY];simp;omega
   have hUval:tQ U=tQ X+1000000000 ^ j*tQ R:=by
    conv=>lhs;rw[nJ,yq,yq,rX,rW]
    simp
   have hXd:∀x∈X,x<1000000000:=λx hx=>q8 x (by rw[nJ];simp[hx]);have hYd:∀x∈Y,x<1000000000:=λx hx=>q8 x (by rw[nJ];simp[hx]);have hdm:=cP (tQ R) (b*sc);rw[←hqd,←pv]at hdm;have hmod:tQ R'<b*sc:=by rw[pv];exact ci _ hVpos
   refine⟨by omega,by omega,?_⟩;refine fB _ _ ⟨j,by omega,Back.here (by simp) (hsc _ _) (by simp[HV,ux,AV.sc,AV.ZH,AV.ZI,AV.ZJ]) ⟨_,rfl,j,X++(R'++Y),Q.set j qd,by omega,rfl,rfl,by simp;omega,?_,by simp[m5],zn ow hq,?_,?_,rfl⟩⟩
   ·intro x hx;rcases bg.1 hx with hx | hx
    ·exact hXd x hx
    ·rcases bg.1 hx with hx | hx
     ·exact hR'd x hx
     ·exact hYd x hx
   ·rw[yq,yq,rX,rW,yH (Q.set j qd) j (by simpa using rY),List.getElem_set_self,List.drop_set_of_lt (by omega),Nat.mul_zero,Nat.add_zero];rw[hUval,Nat.pow_succ]at he;clear fB kF hsc fG;generalize 1000000000 ^ j=P at *;generalize tQ (Q.drop (j+1))=Z at *;generalize tQ X=x at *;generalize tQ R'=r' at *;generalize b*sc=v at *;rw[←he,←hdm];grind
   ·rw[show j=X.length from rW.symm,List.drop_left,yq,rX];simpa using hmod
def zLG(a b:Nat)(ha:(lim a).length≤900)(hb:1000000000≤b)(sY:b≤a)(H:or)(K:Kt)(hK:K (.tup [.sl (tX (lim (a / b))) .none,.sl (tX (lim (a % b))) .none]) H):
  ge tP 199 [.sl (tX (lim a)) .none,.sl (tX (lim b)) .none] H K:=by
 refine ge.out (Pr λhs=>?_);have hlab:(lim b).length≤(lim a).length:=dA λh=>by have:=ES h;omega
 have pw:1<(lim b).length:=CW (k:=1) (by omega);have lA:=uZ a;have lB:=uZ b;have vA:=uN a;have vB:=uN b;have iY:=EQ (n:=b) (by omega);obtain⟨n1,gx⟩:∃n1,(lim b).length=n1+1:=⟨(lim b).length-1,by omega⟩;obtain⟨n2,ig⟩:∃n2,n1=n2+1:=⟨n1-1,by omega⟩;rw[gx,bY]at iY;simp only[HW];refine IU a b (by omega) (by omega) _ _ ?_;have ki:¬(vI a b<0):=by
  unfold vI;split
  ·omega
  ·split <;> simp
 generalize hA:lim a=A at *;generalize hB:lim b=B at *;have mZ:B[n1]'(by omega)≠0:=by have:=XP (b:=b) (n1:=n1) (by rw[hB];exact gx);simp only[hB]at this;exact this
 obtain⟨n,hn⟩:∃n,n=n1+1:=⟨_,rfl⟩;rw[←hn]at gx;obtain⟨la,jL⟩:∃la,A.length=la:=⟨_,rfl⟩;have htlt:=lB B[n1] (ae (by omega));obtain⟨top,nT⟩:∃t,t=B[n1]'(by omega):=⟨_,rfl⟩;rw[←nT]at mZ htlt;have hn1b:n1<B.length:=by omega
 have c1:((B.length:Int) == 1)=false:=by rw[gx];simp;omega
 have w1:IntKind.i64.wrap ((n:Int)-1)=(n1:Int):=by rw[wI _ (by omega) (by omega)];omega
 have w2:IntKind.u64.wrap ((B[n1]:Nat):Int)=(top:Int):=by rw[nT];exact uE (by omega)
 have w3:IntKind.u64.wrap ((top:Int)+1)=((top+1:Nat):Int):=by rw[show (top:Int)+1=((top+1:Nat):Int) by omega];exact uE (by omega)
 obtain⟨rm,sc,i9,ij,f1,f2⟩:=CV 1000000000 (top+1) (by omega) (by omega);have f2':∀(bb:Bool) (k:AV→Prop),gt .quo bb (.int .u64 1000000000) (.int .u64 ((top+1:Nat):Int)) k=k (.int .u64 (sc:Int)):=f2;have iX:1≤sc:=by refine de ?_;rintro rfl;rw[Nat.mul_zero]at ij;omega
 have gw:sc≤1000000000:=by have:1*sc≤(top+1)*sc:=aD _ (by omega);omega
 rw[gx]at c1;have hL:(A.length:Int)=la:=by omega
 have w4:IntKind.i64.wrap ((la:Int)-(n:Int))=((la-n:Nat):Int):=by rw[wI _ (by omega) (by omega)];omega
 obtain⟨d,hd⟩:∃d,d=la-n:=⟨_,rfl⟩;rw[←hd]at w4;have w5:IntKind.i64.wrap ((d:Int)+1)=((d+1:Nat):Int):=by rw[wI _ (by omega) (by omega)];omega
 simp[ki,gx,c1,Bk hn1b,w1,w2,w3];refine⟨by omega,?_⟩;rw[show (top:Int)+1=((top+1:Nat):Int) by omega,f2'];refine XL A lA (by omega) sc gw _ _ λUL sX hU q7=>?_;refine XL B lB (by omega) sc gw _ _ λVF hVl hVd mB=>?_;rw[vA]at q7;rw[vB]at mB;have hbtop:b<1000000000 ^ n1*(top+1):=by have e:=AE (S:=B) (n:=n1) (by omega);have e2:=Bp B lB n1 (by omega);rw[vB,←nT]at e;rw[Nat.mul_succ];omega
 have px:(top+1)*sc≤1000000000:=by omega
 have hVlt:b*sc<1000000000 ^ n:=by have q1:b*sc<1000000000 ^ n1*(top+1)*sc:=ek hbtop iX;have q2:1000000000 ^ n1*((top+1)*sc)≤1000000000 ^ n1*1000000000:=bf _ px;rw[ee]at q1;rw[hn,Nat.pow_succ];omega
 have hVn:n<VF.length:=by omega
 have lX:VF[n]=0:=by have e:=AE (S:=VF) (n:=n) (by omega);rw[mB]at e;refine cg λh=>?_;have:1000000000 ^ n*1≤1000000000 ^ n*VF[n]:=bf _ h;omega
 obtain⟨VL,sZ⟩:∃VL,VL=VF.take n:=⟨_,rfl⟩;have hVF:VF=VL++[0]:=by have e:=aJ n VF;rw[ai hVn,aS (by omega),lX,←sZ]at e;exact e.symm
 have m0:VL.length=n:=by rw[sZ];simp;omega
 have mj:∀x∈VL,x<1000000000:=λx hx=>by rw[sZ]at hx;exact hVd x (bq hx)
 have kI:tQ VL=b*sc:=by rw[←mB,hVF,yq];simp[tQ]
 have lw:VL[n1]'(by omega)≠0:=by intro h0;have e:=AE (S:=VL) (n:=n1) (by omega);rw[h0,Nat.mul_zero,Nat.add_zero,kI]at e;have e2:=Bp VL mj n1 (by omega);have e3:b*1≤b*sc:=bf _ iX;omega
 rw[hVF];have iy:B.length+1=n+1:=by omega
 simp[iy,jL,w4,w5,vo];refine zOq (by omega) ⟨⟨by omega,by omega,by omega⟩,?_⟩;rw[AC];exact zLH a b n n1 n2 sc la d hn ig (by omega) (by omega) hd (by omega) iX gw (by have:=wr A lA;rwa [vA,jL]at this) iY UL VL (List.replicate (d+1) 0) (by omega) hU q7 m0 mj kI lw (by simp) (by simp) H hs K hK
def sgQ(neg:Bool)(n:Nat):Int:=if neg then -(n:Int) else n
@[simp] theorem C5(neg:Bool)(n:Nat):(sgQ neg n).natAbs=n:=by cases neg <;> simp[sgQ]
def XQ{neg:Bool}{n:Nat}(h:n≠0):decide (sgQ neg n<0)=neg:=by
 cases neg
 ·simp[sgQ]
 ·simp[sgQ];omega
def zOh{neg:Bool}{n g:Nat}(hg:g ∣ n):sgQ neg n / (g:Int)=sgQ neg (n / g):=by
 cases neg
 ·simp[sgQ]
 ·simp only[sgQ,br];rw[Int.neg_ediv_of_dvd (Int.natCast_dvd_natCast.2 hg),Int.natCast_ediv]
def zOi(a b:Bool)(m n:Nat):sgQ a m*sgQ b n=sgQ (a != b) (m*n):=by cases a <;> cases b <;> simp[sgQ,Int.neg_mul,Int.mul_neg,Int.neg_neg]
def XR(z:Int):sgQ (decide (z<0)) z.natAbs=z:=by by_cases h:z<0 <;> simp[sgQ,h] <;> omega
def frR(neg:Bool)(n d:Nat):Rat:=mkRat (sgQ neg n) d
def I9{neg:Bool}{n d:Nat}(hd:d≠0):(frR neg n d).den=d / Nat.gcd n d:=by unfold frR;rw[Rat.den_mkRat];simp[hd,di]
def E0{neg:Bool}{n d:Nat}(hd:d≠0):(frR neg n d).num=sgQ neg (n / Nat.gcd n d):=by unfold frR;rw[Rat.num_mkRat];rw[aG hd,C5,zOh (Nat.gcd_dvd_right d n),di]
def E1(neg:Bool)(d:Nat):frR neg 0 d=0:=by
 unfold frR;have:sgQ neg 0=0:=by cases neg <;> rfl
 rw[this,Rat.zero_mkRat]
def zLP{neg:Bool}{n d:Nat}(hd:d≠0):frR neg n d=0↔n=0:=by unfold frR;rw[Rat.mkRat_eq_zero hd];cases neg <;> simp[sgQ]
def E2(q:Rat):frR (decide (q.num<0)) q.num.natAbs q.den=q:=by unfold frR;rw[XR,Rat.mkRat_self]
def P0(a b:Bool)(m n d e:Nat):frR a m d*frR b n e=frR (a != b) (m*n) (d*e):=by unfold frR;rw[ef,zOi]
def P5(a b:Bool)(m n d e:Nat)(hd:d≠0)(he:e≠0):frR a m d+frR b n e=mkRat (sgQ a (m*e)+sgQ b (n*d)) (d*e):=by unfold frR;rw[Rat.mkRat_add_mkRat _ _ hd he];congr 1;cases a <;> cases b <;> simp[sgQ,Int.neg_mul]
def XS(a:Bool)(m n d e:Nat)(hd:d≠0)(he:e≠0):frR a m d+frR a n e=frR a (m*e+n*d) (d*e):=by
 rw[P5 a a m n d e hd he];unfold frR;congr 1;cases a <;> simp[sgQ]
 omega
def XT(a b:Bool)(gc:a≠b)(m n d e:Nat)(hd:d≠0)(he:e≠0)(h:n*d≤m*e):frR a m d+frR b n e=frR a (m*e-n*d) (d*e):=by rw[P5 a b m n d e hd he];unfold frR;congr 1;cases a <;> cases b <;> simp[sgQ]at gc ⊢ <;> omega
def XU(a b:Bool)(gc:a≠b)(m n d e:Nat)(hd:d≠0)(he:e≠0)(h:m*e≤n*d):frR a m d+frR b n e=frR b (n*d-m*e) (d*e):=by rw[P5 a b m n d e hd he];unfold frR;congr 1;cases a <;> cases b <;> simp[sgQ]at gc ⊢ <;> omega
def uS(q:Rat):List AV:=u0 (decide (q.num<0)) q.num.natAbs q.den
def XV:uS 0=u0 false 0 1:=rfl
def XW{neg:Bool}{n d:Nat}(hn:n≠0)(hd:d≠0):uS (frR neg n d)=u0 neg (n / Nat.gcd n d) (d / Nat.gcd n d):=by unfold uS;rw[E0 hd,I9 hd,C5,XQ];have hg:=c7 d (de hn);exact Nat.ne_of_gt (Nat.div_pos (eG (de hn) (d6 n d)) hg)
@[simp] theorem yiM(q:Rat):(uS q).length=3:=rfl
@[simp] theorem yiL(q:Rat):(∀x∈uS q,x.ZP=true)=True:=by simp[uS]
@[simp] theorem yiN(q:Rat):List.take 3 (uS q)=uS q:=rfl
def AF(z:Int):uS (z:Rat)=ue z:=by unfold uS u0 ue;rw[Rat.num_intCast,Rat.den_intCast,xA]
structure Raw where
 neg:Bool
 ns:List Nat
 ds:List Nat
def Raw.cs(r:Raw):List AV:=[.bool r.neg,.sl (tX r.ns) .none,.sl (tX r.ds) .none]
@[simp] theorem Raw.cs_len(r:Raw):r.cs.length=3:=rfl
@[simp] theorem Raw.cs_take(r:Raw):List.take 3 r.cs=r.cs:=rfl
def Raw.ok(r:Raw)(k:Nat):Prop:=(∀x∈r.ns,x<4294967296)∧(∀x∈r.ds,x<4294967296)∧r.ns.length≤k∧r.ds.length≤k
def Raw.val(r:Raw):Rat:=if tQ r.ds=0 then 0 else frR r.neg (tQ r.ns) (tQ r.ds)
def ofR(q:Rat):Raw:=⟨decide (q.num<0),lim q.num.natAbs,lim q.den⟩
def E3(q:Rat):(ofR q).cs=uS q:=rfl
def wt(q:Rat):(ofR q).val=q:=by unfold Raw.val ofR;simp only[uN];rw[aG q.den_nz,E2]
def Lim(k:Nat)(q:Rat):Prop:=(lim q.num.natAbs).length≤k∧(lim q.den).length≤k
def x7{q:Rat}{k:Nat}(h:Lim k q):(ofR q).ok k:=⟨IR _,IR _,h.1,h.2⟩
def Raw.z(r:Raw):Bool:=decide (tQ r.ns=0∨tQ r.ds=0)
def Raw.lb(r:Raw):Bool:=if r.z then false else r.neg
def Raw.ln(r:Raw):Nat:=if r.z then 0 else tQ r.ns
def Raw.ld(r:Raw):Nat:=if r.z then 1 else tQ r.ds
def Raw.ld0(r:Raw):r.ld≠0:=by
 unfold Raw.ld Raw.z;split
 ·omega
 ·rename_i h;simp at h;exact h.2
def Raw.lval_eq(r:Raw):frR r.lb r.ln r.ld=r.val:=by
 unfold Raw.lb Raw.ln Raw.ld Raw.val Raw.z;by_cases h1:tQ r.ds=0
 ·simp[h1,E1]
 ·by_cases h2:tQ r.ns=0
  ·simp[h1,h2,E1]
  ·simp[h1,h2]
def Ja{l:List Nat}(h:∀x∈l,x<4294967296):(lim (tQ l)).length≤l.length+1:=by
 have key:∀l:List Nat,(∀x∈l,x<4294967296)→tQ l+5≤5*1000000000 ^ l.length:=by
  intro l;induction l with
  |nil=>intro _;simp[tQ]
  |cons x l ih=>intro h;have h1:=ih λy hy=>h y (by simp[hy]);have h2:=h x (by simp);simp only[tQ,List.length_cons,Nat.pow_succ];have h3:1≤1000000000 ^ l.length:=dS (by decide);omega
 refine wx ?_;have:=key l h;rw[Nat.pow_succ];have h3:1≤1000000000 ^ l.length:=dS (by decide);omega
def Raw.ln_len{r:Raw}{k:Nat}(h:r.ok k):(lim r.ln).length≤k+1:=by
 unfold Raw.ln;split
 ·simp
 ·have:=Ja h.1;have:=h.2.2.1;omega
def Raw.ld_len{r:Raw}{k:Nat}(h:r.ok k):(lim r.ld).length≤k+1:=by
 unfold Raw.ld;split
 ·rw[xA];simp
 ·have:=Ja h.2.1;have:=h.2.2.2;omega
def x8(m n:Nat):(lim (m*n)).length≤(lim m).length+(lim n).length:=by refine wx ?_;have h1:=wr (lim m) (uZ m);have h2:=wr (lim n) (uZ n);rw[uN]at h1 h2;rw[dU];exact eO h1 h2
def xM{m n:Nat}(h:m≤n):(lim m).length≤(lim n).length:=by refine wx ?_;have h2:=wr (lim n) (uZ n);rw[uN]at h2;omega
def XX(m n k:Nat)(hm:(lim m).length≤k)(hn:(lim n).length≤k):(lim (m+n)).length≤k+1:=by refine wx ?_;have h1:=wr (lim m) (uZ m);have h2:=wr (lim n) (uZ n);rw[uN]at h1 h2;have h3:=bi (show 0<1000000000 by decide) hm;have h4:=bi (show 0<1000000000 by decide) hn;rw[Nat.pow_succ];omega
def XY{H:or}{K:Kt}(R:List Nat)(hs:HSc H)(hK:K (.sl (tX R) .none) H):Out H.length K (.ov H.length R.length) (H++[.vec 88 1 R.length (us R)]):=
 ⟨.sl (tX R) .none,H,[.vec 88 1 R.length (us R)],rfl,af _,hs,.one (.vfz H.length 88 1 R.length (us R) (tX R) (af _) (by simp) (by rw[IM,EV]) (by simp) (yJ R)),hK⟩
def XZ(A B:List Nat)(lA:∀x∈A,x<1000000000)(lB:∀x∈B,x<1000000000)(ha:A.length≤1000)(hb:B.length≤A.length)(cA:lim (tQ A)=A)(H:or)(K:Kt)(hs:HSc H)(hK:K (.sl (tX (lim (tQ A+tQ B))) .none) H):HO (.sl (tX A) .none) (.sl (tX B) .none) H (Out H.length K):=by
 have hsc:∀ R:List Nat,HSc (H++[.vec 88 1 R.length (us R)]):=λA=>hs.append (by simp[AB.sc,us,AV.ZH,AV.ZI]);simp[HO,wi A.length (by omega)];refine⟨⟨by omega,by omega,by omega⟩,?_⟩;refine zWa (Inv:=λq t5 t6 t22 H'=>∃ (i c:Nat) (R:List Nat),i≤A.length∧A.length-i=q∧t22=I6 i∧t6=.int .u32 c∧t5=.ov H.length R.length∧R.length=i∧(∀ x∈R,x<1000000000)∧c≤1 ∧
  tQ R+1000000000 ^ i*c=tQ (A.take i)+tQ (B.take i)∧H'=H++[.vec 88 1 R.length (us R)]) A.length ?_ ?_
 ·intro _;exact⟨0,0,[],by omega,rfl,rfl,rfl,rfl,rfl,by simp,by omega,by simp[tQ],rfl⟩
 ·rintro q t5 t6 t22 H' ⟨i,c,R,hi,rfl,rfl,rfl,rfl,iN,hR,hc,hv,rfl⟩ fG fz fM Kb fB;by_cases fy:i<A.length
  ·have lr : ∀ (s : Nat), s ≤ 2 * 999999999 + 1 → s = c + A[i] + (if h : i < B.length then B[i] else 0) →
     HM (.sl (tX A) .none) (.sl (tX B) .none) (.ov H.length R.length) (.int .u32 s) (I6 A.length) (I6 i) (H++[.vec 88 1 R.length (us R)]) (Out H.length K) Kb:=by
    intro s f9 gn;obtain⟨x,c',gG,gf,e1,e2⟩:=PJ s (by omega);simp only[HM];simp[e1,e2,uk,uI,plain,AV.pd,uj,uD,uy,wi i (by omega)];refine⟨⟨by omega,by omega⟩,?_⟩;have e3:us R++[AV.int .u32 (x:Int)]=us (R++[x]):=by simp[us]
    rw[e3];refine fB _ _ ⟨A.length-(i+1),by omega,Back.here (by simp) (by simpa using hsc (R++[x])) (by simp[HL,ux,AV.sc,AV.ZH,AV.ZI,AV.ZJ]) ⟨_,_,_,rfl,i+1,c',R++[x],by omega,rfl,rfl,rfl,by simp,by simp[iN],?_,by omega,?_,by simp⟩⟩
    ·intro y hy;rcases bg.1 hy with hy | hy
     ·exact hR y hy
     ·simp at hy;omega
    ·have tk:tQ (B.take (i+1))=tQ (B.take i)+(if h:i<B.length then B[i] else 0)*1000000000 ^ i:=by
      by_cases h:i<B.length
      ·rw[fb h,wH B i h]
      ·rw[eK h,am (by omega),am (by omega)];simp
     rw[zm,tk,wH A i fy,iN,Nat.pow_succ];generalize (if h:i<B.length then B[i] else 0)=v at *;grind
   have mA:=lA A[i] (ae fy);obtain⟨s1,f9⟩:∃s,s=A[i]+c:=⟨_,rfl⟩;have w1:IntKind.u32.wrap (((A[i]:Nat):Int)+(c:Int))=(s1:Int):=by rw[f9,←Int.natCast_add];exact v8 (by omega)
   by_cases hB:i<B.length
   ·have jP:=lB B[i] (ae hB);obtain⟨s2,gn⟩:∃ s,s=s1+B[i]:=⟨_,rfl⟩;have w2:IntKind.u32.wrap ((s1:Int)+(B[i]:Nat))=(s2:Int):=by rw[gn,←Int.natCast_add];exact v8 (by omega)
    simp[EF,fy,hB,w1,w2];exact lr s2 (by omega) (by simp[hB];omega)
   ·simp[EF,fy,hB,w1];exact lr s1 (by omega) (by simp[hB];omega)
  ·obtain rfl:i=A.length:=by omega
   rw[az,am hb]at hv;by_cases h0:c=0
   ·subst h0;simp[EF,HN];have gU:tQ R=tQ A+tQ B:=by simpa using hv
    rw[←gU]at hK;have mV:R=lim (tQ R):=by
     refine PK hR ?_;by_cases oU:A.length=0
     ·omega
     ·have h3:=EQ (n:=tQ A) (by intro h;have jC:=congrArg List.length cA;rw[h]at jC;simp at jC;omega);rw[cA]at h3;have:=CW (n:=tQ R) (k:=A.length-1) (by omega);omega
    rw[←mV]at hK;exact XY R hs hK
   ·obtain rfl:c=1:=by omega
    simp[EF,HN,uk,uI,plain,AV.pd,uj,uD,uy];refine⟨⟨by omega,by omega⟩,?_⟩;have e3:us R++[AV.int .u32 1]=us (R++[1]):=by simp[us]
    rw[e3];have gU:tQ (R++[1])=tQ A+tQ B:=by rw[zm,iN];omega
    rw[←gU]at hK;have mV:R++[1]=lim (tQ (R++[1])):=by
     refine PK (λy hy=>?_) ?_
     ·rcases bg.1 hy with hy | hy
      ·exact hR y hy
      ·simp at hy;omega
     ·have:=CW (n:=tQ (R++[1])) (k:=A.length) (by rw[zm,iN];omega);simp;omega
    rw[←mV]at hK;have:=XY (R++[1]) hs hK;simpa using this
def zWe(a b:Nat)(ha:(lim a).length≤1000)(hb:(lim b).length≤1000)(H:or)(K:Kt)(hK:K (.sl (tX (lim (a+b))) .none) H):
  ge tP 171 [.sl (tX (lim a)) .none,.sl (tX (lim b)) .none] H K:=by
 refine ge.out (zWc λhs=>?_);by_cases h:(lim a).length<(lim b).length
 ·have h':((lim a).length:Int)<((lim b).length:Int):=by omega
  simp[Pk,h];refine XZ (lim b) (lim a) (uZ b) (uZ a) hb (by omega) (by rw[uN]) _ _ hs ?_;rw[uN,uN,fh];exact hK
 ·have h':¬ ((lim a).length:Int)<((lim b).length:Int):=by omega
  simp[Pk,h];refine XZ (lim a) (lim b) (uZ a) (uZ b) ha (by omega) (by rw[uN]) _ _ hs ?_;rw[uN,uN];exact hK
def P6(a b:Nat)(ha:(lim a).length≤900)(iy:(lim b).length≤900)(gk:0<b)(H:or)(K:Kt)(hK:K (.tup [.sl (tX (lim (a / b))) .none,.sl (tX (lim (a % b))) .none]) H):
  ge tP 199 [.sl (tX (lim a)) .none,.sl (tX (lim b)) .none] H K:=by
 by_cases hB:b<1000000000
 ·exact zLI a b (by omega) gk hB H K hK
 by_cases fy:b≤a
 ·exact zLG a b ha (by omega) fy H K hK
 have fy:a<b:=by omega
 refine ge.out (Pr λhs=>?_);simp only[HW];refine IU a b (by omega) (by omega) _ _ ?_;have ki:vI a b<0:=by unfold vI;rw[aN fy];decide
 simp[ki];rw[bB fy,bC fy,EP]at hK;simp[uj,uD,uy];refine⟨yJ _,⟨by omega,by omega⟩,⟨rfl,rfl⟩,?_⟩;exact Out.tup (bs:=[.sl (tX []) .none,.sl (tX (lim a)) .none]) hs hK ⟨xd,slV,trivial⟩
def Jb{n:Nat}(h:(lim n).length≤2):n<1000000000000000000:=by have h1:=wr (lim n) (uZ n);rw[uN]at h1;have h2:=bi (show 0<1000000000 by decide) h;omega
def zLW(a b:Nat)(ha:(lim a).length≤900)(hb:(lim b).length≤900)(H:or)(K:Kt)(hK:K (.sl (tX (lim (Nat.gcd a b))) .none) H):
  ge tP 198 [.sl (tX (lim a)) .none,.sl (tX (lim b)) .none] H K:=by
 refine ge.out (zXr λhs=>?_);unfold Wk;refine zXo (Inv:=λq t0 t1 H'=>∃x y:Nat,y=q∧t0=.sl (tX (lim x)) .none∧t1=.sl (tX (lim y)) .none∧(lim x).length≤900∧(lim y).length≤900∧Nat.gcd x y=Nat.gcd a b∧H'=H) b ?_ ?_
 ·intro _;exact⟨a,b,rfl,rfl,rfl,ha,hb,rfl,rfl⟩
 ·rintro q t0 t1 H' ⟨x,y,rfl,rfl,rfl,hx,hy,hg,rfl⟩ fG fz fM Kb fB;by_cases h0:y=0
  ·subst h0;rw[ey]at hg;subst hg;simp[EJ];exact Out.one0 hs (.atom (.sl _ _)) rfl rfl hK
  have hp:0<(lim y).length:=by rw[xK h0];simp
  by_cases lu:(lim x).length≤2∧(lim y).length≤2
  ·obtain⟨gf,lx⟩:=lu;have jL:decide (((lim x).length:Int)≤2)=true:=by simp;omega
   have iI:decide (((lim y).length:Int)≤2)=true:=by simp;omega
   simp[EJ,hp,jL,iI];refine Xz x (Jb gf) _ _ ?_;simp;refine Xz y (Jb lx) _ _ ?_;simp;refine zXp (Inv:=λq t5 t7 H2=>∃x y:Nat,y=q∧t5=.int .u64 x∧t7=.int .u64 y∧x<1000000000000000000∧y<1000000000000000000∧Nat.gcd x y=Nat.gcd a b∧H2=H') y ?_ ?_
   ·intro _;exact⟨x,y,rfl,rfl,rfl,Jb gf,Jb lx,hg,rfl⟩
   ·rintro q t5 t7 H2 ⟨x,y,rfl,rfl,rfl,hx,hy,hg,rfl⟩ gw jj mi Kb2 gv;by_cases sU:y=0
    ·subst sU;rw[ey]at hg;subst hg;simp[Pm];refine PM _ (by omega) _ _ ?_;exact Out.one0 hs (.atom (.sl _ _)) rfl rfl hK
    ·obtain⟨r,c,i9,ij,e1,_⟩:=CV x y (by omega) (by omega);simp only[Pm];simp[show 0<y by omega,e1];refine gv _ _ ⟨r,by omega,Back.here (by simp) hs (by simp[HT,ux,AV.sc,AV.ZH,AV.ZI,AV.ZJ]) ⟨_,_,rfl,y,r,rfl,rfl,rfl,hy,by omega,?_,rfl⟩⟩;have nZ:r=x % y:=by rw[ij,cW,bC i9]
     rw[←hg,nZ,di x y,Nat.gcd_rec y x,di]
  ·have hm:x % y<y:=ci _ (by omega);have qJ:=xM (bH hm);have next:ge tP 199 [.sl (tX (lim x)) .none,.sl (tX (lim y)) .none] H' λt43 H=>uo t43 0 λt44=>uo t43 1 λt45=>Kb (EI (.sl (tX (lim y)) .none) t45) H:=by refine P6 x y hx hy (by omega) _ _ ?_;simp;refine fB _ _ ⟨x % y,hm,Back.here (by simp) hs (by simp[EI,ux,AV.sc,AV.ZH,AV.ZI,AV.ZJ]) ⟨_,_,rfl,y,x % y,rfl,rfl,rfl,hy,by omega,?_,rfl⟩⟩;rw[←hg,di x y,Nat.gcd_rec y x,di]
   by_cases gf:(lim x).length≤2
   ·have jL:decide (((lim x).length:Int)≤2)=true:=by simp;omega
    have iI:decide (((lim y).length:Int)≤2)=false:=by simp;omega
    simp[EJ,hp,jL,iI];simpa using next
   ·have jL:decide (((lim x).length:Int)≤2)=false:=by simp;omega
    simp[EJ,hp,jL];simpa using next
def zU{n:Nat}(h:n≠0):(((lim n).length:Int) == 0)=false:=by
 have hp:0<(lim n).length:=by rw[xK h];simp
 generalize (lim n).length=q at hp;simp;omega
def zMo(neg:Bool)(n d:Nat)(jX:d≠0)(hn:(lim n).length≤900)(hd:(lim d).length≤900)(H:or)(K:Kt)(hK:K (.agg (uS (frR neg n d))) H):
  ge tP 153 [.agg (u0 neg n d)] H K:=by
 refine ge.out (zUh λhs=>?_);by_cases kQ:n=0
 ·subst kQ;rw[E1,XV]at hK;have e1:u0 false 0 1=[.bool false,.sl [] .none,.sl [[.int .u32 1]] .none]:=by simp[u0,tX,xA]
  rw[e1]at hK;simp[Pj,u0,uk,uI,plain,AV.pd,ug,uv,xb,aa];exact Out.one hs (vK.agg (ds:=[.bool false,.sl [] .none,.sl [[.int .u32 1]] .none]) ⟨.refl _,.ZG,.sl _ _,trivial⟩) rfl (by simp[AV.ZJ,AV.ZH,AV.ZI]) hK
 rw[XW kQ jX]at hK;have hb:=zU kQ;have jz:0<Nat.gcd n d:=c7 d (by omega);have lg:(lim (Nat.gcd n d)).length≤900:=aC (xM (eG (by omega) (d6 n d))) hn;simp[Pj,u0,hb,aa];refine Xx (lim d) (by omega) _ _ ?_;by_cases kS:d=1
 ·subst kS;rw[Nat.gcd_one_right,et,et]at hK;simp[IV,aa];exact AD hs hK
 ·simp[IV,kS,aa];refine zLW n d hn hd _ _ ?_;refine Xx _ (by omega) _ _ ?_;by_cases m6:Nat.gcd n d=1
  ·rw[m6,et,et]at hK;simp[IV,m6,aa];exact AD hs hK
  ·simp[IV,m6,aa];refine P6 n _ hn lg jz _ _ ?_;simp[aa];refine P6 d _ hd lg jz _ _ ?_;simp[ug,uv,xb,AV.ZP,aa];exact AD hs hK
def zo{H J:or}{K:Kt}{q:Rat}(hs:HSc H)(hK:K (.agg (uS q)) H):Out H.length K (.agg (uS q)) (H++J):=Out.one hs .rfl' rfl rfl hK
def E4(neg:Bool)(n d:Nat)(jX:d≠0)(hn:(lim n).length≤900)(hd:(lim d).length≤900)(H:or)(K:Kt)(hK:K (.agg (uS (frR neg n d))) H):
  ge tP 114 [.agg (u0 neg n d)] H K:=by
 refine ge.out (zRq λhs=>?_);simp[VQ,u0,aa];refine zMo neg n d jX hn hd _ _ ?_;simp[uS,u0,ug,uv,xb,AV.ZP,aa];exact zo hs hK
def C6(r:Raw)(hr:r.ok 450)(H:or)(K:Kt)(hK:K (.agg (u0 r.lb r.ln r.ld)) H):ge tP 120 [.agg r.cs] H K:=by
 refine ge.out (zRN λhs=>?_);obtain⟨h1,h2,h3,h4⟩:=hr;simp[VR,Raw.cs,aa];refine ur (.sl (tX (lim (tQ r.ns))) .none) (λJ=>Xu _ h1 (by omega) _ _ ⟨rfl,rfl⟩) ?_;refine ur (.sl (tX (lim (tQ r.ds))) .none) (λJ=>Xu _ h2 (by omega) _ _ ⟨rfl,rfl⟩) ?_;by_cases ol:tQ r.ns=0
 ·have e1:u0 r.lb r.ln r.ld=[.bool false,.sl [] .none,.sl [[.int .u32 1]] .none]:=by simp[u0,Raw.lb,Raw.ln,Raw.ld,Raw.z,ol,tX,xA]
  rw[e1]at hK;simp[ol,uk,uI,plain,AV.pd,ug,uv,xb,aa];exact Out.one hs (vK.agg (ds:=[.bool false,.sl [] .none,.sl [[.int .u32 1]] .none]) ⟨.refl _,.ZG,.sl _ _,trivial⟩) rfl (by simp[AV.ZJ,AV.ZH,AV.ZI]) hK
 by_cases oX:tQ r.ds=0
 ·have e1:u0 r.lb r.ln r.ld=[.bool false,.sl [] .none,.sl [[.int .u32 1]] .none]:=by simp[u0,Raw.lb,Raw.ln,Raw.ld,Raw.z,oX,tX,xA]
  rw[e1]at hK;simp[zU ol,oX,uk,uI,plain,AV.pd,ug,uv,xb,aa];exact Out.one hs (vK.agg (ds:=[.bool false,.sl [] .none,.sl [[.int .u32 1]] .none]) ⟨.refl _,.ZG,.sl _ _,trivial⟩) rfl (by simp[AV.ZJ,AV.ZH,AV.ZI]) hK
 have e1:u0 r.lb r.ln r.ld=u0 r.neg (tQ r.ns) (tQ r.ds):=by simp[Raw.lb,Raw.ln,Raw.ld,Raw.z,ol,oX]
 rw[e1]at hK;simp[zU ol,zU oX,ug,uv,xb,AV.ZP,aa];exact AD hs hK
section
variable (t0 t1 t2 t3 t4 t5 t6 t7 t8 t9 t10 t11 t12 t15 t16 t17 t18 t19 t20 t23 t24 t25 t57 t58 t59:AV) (H:or) (K:Kt) (Kb1 Kb3 Kb4 Kb5 Kb14:Lt)
def yaQ(_:Nat):List Bool:=[]
def X0:=ul t1 H λt3 H=>tL true 3 t3 H λt6=>Aj H λt7 H=>ug [.ZG,I0,I0,.ZG,.unk,.ZG] [(0,1),(1,3),(4,1),(5,1)] [(0,t0),(1,t6),(2,t7)] λt8=>ul t8 H λt9 H=>K t9 H
def Jc:Nat→List Bool|1=>rl false [0,1,8,3,55]|400007=>rl false [0,1]|_=>[]
noncomputable def X1:=bd Tryz.f42
def E5:=t0::ux 8 (t9::t10::t11::ux 55 [])
def yaW:=Jc 1
noncomputable def yaU:=uc [1,0,0] X1
def yaT:=ud tP Jc [1,0] X1 (uq tP Tryz.f42.results.toList K)
def X2:=tM tP yaU (yaT K) (E5 t0 t9 t10 t11) H
def P7(t0 t9 t10 t11:AV)(H:or)(K:Kt)(Kb1:Lt):Prop:=gt .add false t11 I1 λt66=>Kb1 (E5 t0 t9 t10 t66) H
def Jd:=P7 t0 t9 t10 t11 H K Kb1
def P8:=gt .lss false t11 t10 λt12=>tO t12 (tW 5 t9 t11 λt13=>tL true 5 t13 H λt14=>un [I0,.ZG,(.bool false),.ZG,.ZG] H λt5 H=>ua 5 t5 t14 H λH=>NC 112 [.nilp,.ZG] H λt6 H=>tN 0 t5 λt15=>tL true 2 t15 H λt16=>ge tP 75 [t6,t16] H λt17 H=>apm H t0 λt19=>apu H (vJ t19) λt20=>apu H (tN 4 t20) λt21=>apu H (tY false 1 t21 H) λt22=>apc tP H 76 [t6] λt23=>apu H (zG I0 true t22 t23 H) λt24=>apm H t24 λt18=>apu H (uo t18 0) λt25=>apu H (uo t18 1) λt26=>apm H t25 λt7=>apm H t26 λt8=>tO t8 (apm H t0 λt28=>apu H (vJ t28) λt29=>apu H (tN 5 t29) λt30=>apu H (tL false 1 t30 H) λt31=>apm H t7 λt32=>apm H t0 λt33=>apu H (vJ t33) λt34=>apu H (tN 5 t34) λt35=>apu H (tL false 1 t35 H) λt36=>apm H t7 λt37=>apu H (tW 5 t36 t37) λt38=>apu H (tN 2 t38) λt39=>apu H (tL true 3 t39 H) λt40=>apu H (tN 2 t5) λt41=>apu H (tL true 3 t41 H) λt42=>apc tP H 77 [t40,t42] λt43=>apu H (tW 5 t31 t32) λt44=>apu H (tN 2 t44) λt45=>ua 3 t45 t43 H λH=>Jd t0 t9 t10 t11 H K Kb1) (apm H t0 λt46=>apu H (vJ t46) λt47=>apu H (tN 4 t47) λt48=>apu H (tY false 1 t48 H) λt49=>apc tP H 76 [t6] λt50=>apm H t0 λt51=>apu H (vJ t51) λt52=>apu H (tN 5 t52) λt53=>apu H (tY false 1 t53 H) λt54=>apu H (tV 1 t54) λt55=>yC t49 t50 t55 H λH=>apm H t0 λt56=>apm H t0 λt57=>apu H (vJ t57) λt58=>apu H (tN 5 t58) λt59=>apu H (tY false 1 t59 H) λt60=>apu H (tY true 5 t5 H) λt61=>apu H (uk 5 [I0,.ZG,(.bool false),.ZG,.ZG] 1 [(0,t61)]) λt62=>uj 55 5 88 t60 t62 H λt63 H=>apu H (vJ t56) λt64=>apu H (tN 5 t64) λt65=>ua 1 t65 t63 H λH=>Jd t0 t9 t10 t11 H K Kb1)) (ut [] (K · H))
def X3:=tV 1 t1 λt10=>X2 t0 t1 t10 I0 H K
def Bq:Nat→List Bool|4=>rl false [0,1,3,2,9,3,50]|14=>rl false [4,1,52,3,8]|_=>[]
noncomputable def Je:=bd Tryz.f44
noncomputable def X4:=Tryz.f44.results.toList
def E6:=t0::ux 3 (t4::t5::ux 9 (t15::t16::t17::ux 50 []))
def ybj:=Bq 4
noncomputable def ybf:=uc [1,1,1,0,1,0,0] Je
def ybd:=ud tP Bq [1,1,1,0,1,0] Je (uq tP X4 K)
def Jf:=tM tP ybf (ybd K) (E6 t0 t4 t5 t15 t16 t17) H
def P9(t0 t4 t5 t15 t16 t17:AV)(H:or)(K:Kt)(Kb4:Lt):Prop:=gt .add false t17 I1 λt54=>Kb4 (E6 t0 t4 t5 t15 t16 t54) H
def Jg:=P9 t0 t4 t5 t15 t16 t17 H K Kb4
def Jh:=ux 4 (t4::ux 52 (t57::t58::t59::ux 8 []))
def ybi:=Bq 14
noncomputable def ybe:=uc [1,1,1,1,1,0,1,0,0] Je
def ybc:=ud tP Bq [1,1,1,1,1,0,1,0] Je (uq tP X4 K)
def X5:=tM tP ybe (ybc K) (Jh t4 t57 t58 t59) H
def Qa:=gt .lss false t59 t58 λt60=>tO t60 (tW 1 t57 t59 λt61=>tL false 1 t61 H λt62=>ge tP 84 [t62,(.fn 85 [])] H λt64 H=>gt .add false t59 I1 λt65=>Kb14 (Jh t4 t57 t58 t65) H) (ge tP 87 [t4] H λt67 H=>ut [t67,I0] (K · H))
def Ji:=gt .lss false t17 t16 λt18=>tO t18 (tW 5 t15 t17 λt19=>tL true 5 t19 H λt20=>un [I0,.ZG,(.bool false),.ZG,.ZG] H λt7 H=>ua 5 t7 t20 H λH=>tN 2 t7 λt21=>tL true 3 t21 H λt22=>ge tP 80 [t22] H λt23 H=>gt .neq false t23 I0 λt24=>tO t24 (apm H t0 λt25=>apu H (vJ t25) λt26=>apu H (tN 0 t26) λt27=>apu H (tY false 1 t27 H) λt28=>apm H t0 λt29=>apu H (vJ t29) λt30=>apu H (tN 1 t30) λt31=>apu H (tY true 3 t31 H) λt32=>apu H (tN 0 t7) λt33=>apu H (tY true 2 t33 H) λt34=>apc tP H 40 [t28,t32,t34] λt35=>apm H t35 λt8=>apm H t4 λt36=>apm H t8 λt37=>apm H t4 λt38=>apm H t8 λt39=>apu H (tW 1 t38 t39) λt40=>apu H (tY false 1 t40 H) λt41=>apu H (tN 0 t7) λt42=>apu H (tY true 2 t42 H) λt43=>apc tP H 82 [t43] λt44=>apu H (tN 2 t7) λt45=>apu H (tY true 3 t45 H) λt46=>apc tP H 83 [t46] λt47=>apu H (ug [I0,.ZG,(.bool false),.ZG,.ZG] [(0,2),(2,3)] [(0,t44),(1,t47)]) λt48=>apu H (uk 5 [I0,.ZG,(.bool false),.ZG,.ZG] 1 [(0,t48)]) λt49=>uj 55 5 88 t41 t49 H λt50 H=>apu H (tW 1 t36 t37) λt51=>ua 1 t51 t50 H λH=>gt .add false t5 I1 λt53=>Jg t0 t4 t53 t15 t16 t17 H K Kb4) (Jg t0 t4 t5 t15 t16 t17 H K Kb4)) (gt .gtr false t5 (I6 1000) λt56=>tO t56 (ut [.ZG,(I6 9)] (K · H)) (tV 1 t4 λt58=>X5 t4 t4 t58 I0 H K))
def X6:=vo 24 [.ZG] (I6 7) (I6 7) H λt11 H=>vJ t0 λt13=>tN 5 t13 λt14=>tL false 1 t14 H λt15=>tV 1 t15 λt16=>Jf t0 t11 I0 t15 t16 I0 H K
def Jj:Nat→List Bool|5=>rl false [0,1,17,3,11]|_=>[]
noncomputable def X7:=bd Tryz.f75
def Jk:=t0::ux 17 (t18::t19::t20::ux 11 [])
def ydL:=Jj 5
noncomputable def ydJ:=uc [1,1,1,0,1,0,1,0,0] X7
def ydI:=ud tP Jj [1,1,1,0,1,0,1,0] X7 (uq tP Tryz.f75.results.toList K)
def X8:=tM tP ydJ (ydI K) (Jk t0 t18 t19 t20) H
def Qb:=gt .lss false t20 t19 λt21=>tO t21 (tW 2 t18 t20 λt22=>tL true 2 t22 H λt23=>un [I0,.ZG] H λt5 H=>ua 2 t5 t23 H λH=>tL true 2 t5 H λt25=>ge tP 75 [t0,t25] H λt26 H=>ge tP 128 [t0,(.int .u8 44)] H λt28 H=>gt .add false t20 I1 λt29=>Kb5 (Jk t0 t18 t19 t29) H) (ge tP 128 [t0,(.int .u8 41)] H λt31 H=>ut [] (K · H))
def X9:=ul t1 H λt3 H=>tN 0 t3 λt7=>tL false 1 t7 H λt8=>ge tP 127 [t8] H λt9 H=>ge tP 126 [t0,t9] H λt10 H=>tN 1 t3 λt11=>tL false 1 t11 H λt12=>tV 1 t12 λt13=>gt .gtr false t13 I0 λt14=>tO t14 (ge tP 128 [t0,(.int .u8 40)] H λt16 H=>tN 1 t3 λt17=>tL false 1 t17 H λt18=>tV 1 t18 λt19=>X8 t0 t18 t19 I0 H K) (ut [] (K · H))
def Jl:Nat→List Bool|3=>rl false [2,2,6,3,12]|_=>[]
noncomputable def Ya:=bd Tryz.f82
def Jm:=ux 2 (t2::t3::ux 6 (t10::t11::t12::ux 12 []))
def yeg:=Jl 3
noncomputable def yee:=uc [1,1,0,1,0,0] Ya
def yed:=ud tP Jl [1,1,0,1,0] Ya (uq tP Tryz.f82.results.toList K)
def Jn:=tM tP yee (yed K) (Jm t2 t3 t10 t11 t12) H
def Qc:=gt .lss false t12 t11 λt13=>tO t13 (tW 2 t10 t12 λt14=>tL true 2 t14 H λt15=>un [I0,.ZG] H λt5 H=>ua 2 t5 t15 H λH=>apu H (tN 1 t3) λt16=>apu H (tY false 1 t16 H) λt17=>apu H (tY true 2 t5 H) λt18=>apc tP H 82 [t18] λt19=>apu H (uk 2 [I0,.ZG] 1 [(0,t19)]) λt20=>uj 28 2 32 t17 t20 H λt21 H=>apu H (tN 1 t3) λt22=>ua 1 t22 t21 H λH=>gt .add false t12 I1 λt23=>Kb3 (Jm t2 t3 t10 t11 t23) H) (tL true 2 t3 H λt24=>ua 2 t2 t24 H λH=>tL true 2 t2 H λr0=>K r0 H)
def Yb:=ul t0 H λt1 H=>un [I0,.ZG] H λt2 H=>tN 0 t1 λt6=>tL false 1 t6 H λt7=>ug [I0,.ZG] [(0,1),(1,1)] [(0,t7)] λt8=>un [I0,.ZG] H λt3 H=>ua 2 t3 t8 H λH=>tN 1 t1 λt9=>tL false 1 t9 H λt10=>tV 1 t10 λt11=>Jn t2 t3 t10 t11 I0 H K
def yek(_:Nat):List Bool:=[]
def Yc:=ul t0 H λt1 H=>un [(.bool false),.ZG,.ZG] H λt2 H=>tL true 3 t1 H λt3=>ge tP 120 [t3] H λt4 H=>ge tP 114 [t4] H λt5 H=>ua 3 t2 t5 H λH=>tL true 3 t2 H λr0=>K r0 H
def yen(_:Nat):List Bool:=[]
def Yd:=ul t0 H λt2 H=>ul t1 H λt3 H=>tN 0 t2 λt5=>tL true 2 t5 H λt6=>tN 0 t3 λt7=>tL true 2 t7 H λt8=>ge tP 86 [t6,t8] H λt9 H=>K t9 H
def yd0(_:Nat):List Bool:=[]
def Ye:=gt .lss false t0 I0 λt7=>agm t7 false H t0 λt9 H=>agu t7 false H (gt .gtr false t9 (I6 16)) λt10 H=>tZ t7 (.bool true) t10 λt11=>agm t11 false H t1 λt13 H=>agu t11 false H (gt .lss false t13 I0) λt14 H=>tZ t11 (.bool true) t14 λt15=>agm t15 false H t1 λt17 H=>agu t15 false H (gt .gtr false t17 (I6 16)) λt18 H=>tZ t15 (.bool true) t18 λt19=>tO t19 (ut [.ZG,(.bool false)] (K · H)) (ge tP 131 [t0,t1] H λt22 H=>ut [t22,(.bool true)] (K · H))
def Jo:Nat→List Bool|3=>rl false [0,2,3,2,28]|_=>[]
noncomputable def Yf:=bd Tryz.f131
def Jp:=t0::t1::ux 3 (t5::t6::ux 28 [])
def zSs:=Jo 3
noncomputable def zSq:=uc [1,1,0,1,0,0] Yf
def zSp:=ud tP Jo [1,1,0,1,0] Yf (uq tP Tryz.f131.results.toList K)
def Yg:=tM tP zSq (zSp K) (Jp t0 t1 t5 t6) H
def Qd:=gt .add false t0 t1 λt18=>gt .leq false t6 t18 λt19=>tO t19 (ge tP 175 [t6,t0] H λt26 H=>gt .sub false t6 t1 λt30=>ge tP 175 [t0,t30] H λt31 H=>ge tP 70 [t26,t31] H λt32 H=>tW 3 t5 t6 λt33=>ua 3 t33 t32 H λH=>gt .add false t6 I1 λt21=>Kb3 (Jp t0 t1 t5 t21) H) (K t5 H)
def Yh:=gt .add false t0 t1 λt9=>gt .add false t9 I1 λt10=>ge tP 174 [t10] H λt11 H=>DN t0 t1 λt14=>Yg t0 t1 t11 t14 H K
def Jq:Nat→List Bool|3=>rl false [3,1,4,2,8]|_=>[]
noncomputable def Yi:=bd Tryz.f174
def Jr:=ux 3 (t3::ux 4 (t8::t9::ux 8 []))
def zWu:=Jq 3
noncomputable def zWs:=uc [1,1,0,1,0,0] Yi
def zWr:=ud tP Jq [1,1,0,1,0] Yi (uq tP Tryz.f174.results.toList K)
def Yj:=tM tP zWs (zWr K) (Jr t3 t8 t9) H
def Qe:=gt .lss false t9 t8 λt10=>tO t10 (ge tP 61 [I0] H λt14 H=>tW 3 t3 t9 λt15=>ua 3 t15 t14 H λH=>gt .add false t9 I1 λt16=>Kb3 (Jr t3 t8 t16) H) (K t3 H)
def Yk:=vo 56 [(.bool false),.ZG,.ZG] t0 t0 H λt6 H=>tV 1 t6 λt8=>Yj t6 t8 I0 H K
def Js:Nat→List Bool|4=>rl false [7,1,1,1,13,3,15]|_=>[]
noncomputable def Yl:=bd Tryz.f135
def Jt:=ux 7 (t7::ux 1 (t9::ux 13 (t23::t24::t25::ux 15 [])))
def zSX:=Js 4
noncomputable def zSV:=uc [1,1,1,0,1,0,0] Yl
def zSU:=ud tP Js [1,1,1,0,1,0] Yl (uq tP Tryz.f135.results.toList K)
def Ju:=tM tP zSV (zSU K) (Jt t7 t9 t23 t24 t25) H
def Ym(t7 t9 t23 t24 t25:AV)(H:or)(K:Kt)(Kb4:Lt):Prop:=gt .add false t25 I1 λt39=>Kb4 (Jt t7 t9 t23 t24 t39) H
def Jv:=Ym t7 t9 t23 t24 t25 H K Kb4
def Jw:=gt .lss false t25 t24 λt26=>tO t26 (tW 1 t23 t25 λt28=>tL false 1 t28 H λt29=>aUn .not t29 λt31=>tO t31 (tW 3 t7 t25 λt35=>tL true 3 t35 H λt36=>uk 3 [I0,I0,.ZG] 1 [(0,t36)] λt37=>uj 25 3 40 t9 t37 H λt38 H=>Jv t7 t38 t23 t24 t25 H K Kb4) (Jv t7 t9 t23 t24 t25 H K Kb4)) (K t9 H)
def Yn:=ul t1 H λt4 H=>tL true 3 t4 H λt14=>ge tP 167 [t0,t14,t2] H λt16 H=>uo t16 0 λt17=>uo t16 1 λt18=>tN 1 t4 λt20=>tL false 1 t20 H λt21=>ge tP 168 [t0,t21,t2] H λt23 H=>tV 1 t23 λt24=>Ju t17 .ZG t23 t24 I0 H K
variable {t0 t1 t2 t3 t4 t5 t6 t7 t8 t9 t10 t11 t12 t15 t16 t17 t18 t19 t20 t23 t24 t25 t57 t58 t59} {H} {K} {Kb1 Kb3 Kb4 Kb5 Kb14}
def yaS(h:HSc H→X0 t0 t1 H K):ge tP 41 [t0,t1] H K:=
 acb yaQ Tryz.func41 h
def yaV:Lo1 (λt11=>E5 t0 t9 t10 t11) (λt11 H Kb1=>P8 t0 t9 t10 t11 H K Kb1) t11 H (X2 t0 t9 t10 t11 H K):=lq1 Jc yaW
def yaX(h:HSc H→X3 t0 t1 H K):ge tP 42 [t0,t1] H K:=
 acb Jc Tryz.func42 h
def ybg:Lo1 (λt59=>Jh t4 t57 t58 t59) (λt59 H Kb14=>Qa t4 t57 t58 t59 H K Kb14) t59 H (X5 t4 t57 t58 t59 H K):=lq1 Bq ybi
def ybh:Lo2 (λt5 t17=>E6 t0 t4 t5 t15 t16 t17) (λt5 t17 H Kb4=>Ji t0 t4 t5 t15 t16 t17 H K Kb4) t5 t17 H (Jf t0 t4 t5 t15 t16 t17 H K):=lq2 Bq ybj
def ybk(h:HSc H→X6 t0 H K):ge tP 44 [t0] H K:=
 acb Bq Tryz.func44 h
def ydK:Lo1 (λt20=>Jk t0 t18 t19 t20) (λt20 H Kb5=>Qb t0 t18 t19 t20 H K Kb5) t20 H (X8 t0 t18 t19 t20 H K):=lq1 Jj ydL
def ydM(h:HSc H→X9 t0 t1 H K):ge tP 75 [t0,t1] H K:=
 acb Jj Tryz.func75 h
def yef:Lo1 (λt12=>Jm t2 t3 t10 t11 t12) (λt12 H Kb3=>Qc t2 t3 t10 t11 t12 H K Kb3) t12 H (Jn t2 t3 t10 t11 t12 H K):=lq1 Jl yeg
def yeh(h:HSc H→Yb t0 H K):ge tP 82 [t0] H K:=
 acb Jl Tryz.func82 h
def yem(h:HSc H→Yc t0 H K):ge tP 83 [t0] H K:=
 acb yek Tryz.func83 h
def yep(h:HSc H→Yd t0 t1 H K):ge tP 85 [t0,t1] H K:=
 acb yen Tryz.func85 h
def yd2(h:HSc H→Ye t0 t1 H K):ge tP 79 [t0,t1] H K:=
 acb yd0 Tryz.func79 h
def zSr:Lo1 (λt6=>Jp t0 t1 t5 t6) (λt6 H Kb3=>Qd t0 t1 t5 t6 H K Kb3) t6 H (Yg t0 t1 t5 t6 H K):=lq1 Jo zSs
def zSt(h:HSc H→Yh t0 t1 H K):ge tP 131 [t0,t1] H K:=
 acb Jo Tryz.func131 h
def zWt:Lo1 (λt9=>Jr t3 t8 t9) (λt9 H Kb3=>Qe t3 t8 t9 H K Kb3) t9 H (Yj t3 t8 t9 H K):=lq1 Jq zWu
def zWv(h:HSc H→Yk t0 H K):ge tP 174 [t0] H K:=
 acb Jq Tryz.func174 h
def zSW:Lo2 (λt9 t25=>Jt t7 t9 t23 t24 t25) (λt9 t25 H Kb4=>Jw t7 t9 t23 t24 t25 H K Kb4) t9 t25 H (Ju t7 t9 t23 t24 t25 H K):=lq2 Js zSX
def zSY(h:HSc H→Yn t0 t1 t2 H K):ge tP 135 [t0,t1,t2] H K:=
 acb Js Tryz.func135 h
end
def zPp(A B:List Nat)(lA:∀ x∈A,x<1000000000)(lB:∀ x∈B,x<1000000000)(ha:A.length≤2000)(hb:B.length≤A.length)(fS:tQ B≤tQ A)(H:or)(K:Kt)(hK:K (.sl (tX (lim (tQ A-tQ B))) .none) H):
  ge tP 173 [.sl (tX A) .none,.sl (tX B) .none] H K:=by
 refine ge.out (zWp λhs=>?_);have hsc:∀R:List Nat,HSc (H++[.vec 88 1 R.length (us R)]):=λA=>hs.append (by simp[AB.sc,us,AV.ZH,AV.ZI]);simp[We];refine⟨⟨by omega,by omega⟩,?_⟩;have tk:∀i,tQ (B.take (i+1))=tQ (B.take i)+(if h:i<B.length then B[i] else 0)*1000000000 ^ i:=by
  intro i;by_cases h:i<B.length
  ·rw[fb h,wH B i h]
  ·rw[eK h,am (by omega),am (by omega)];simp
 refine zWn (Inv:=λq t5 t6 t14 H'=>∃ (i w:Nat) (R:List Nat),i≤A.length∧A.length-i=q∧t14=I6 i∧t6=I6 w∧t5=.ov H.length R.length∧R.length=i∧(∀ x∈R,x<1000000000)∧w≤1 ∧
  tQ R+tQ (B.take i)=tQ (A.take i)+w*1000000000 ^ i∧H'=H++[.vec 88 1 R.length (us R)]) A.length ?_ ?_
 ·intro _;exact⟨0,0,[],by omega,rfl,rfl,rfl,rfl,rfl,by simp,by omega,by simp[tQ],rfl⟩
 ·rintro q t5 t6 t14 H' ⟨i,w,R,hi,rfl,rfl,rfl,rfl,iN,hR,hw,hv,rfl⟩ fG fz fM Kb fB;by_cases fy:i<A.length
  ·have mA:=lA A[i] (ae fy);have fC:∀ s:Int,s=(A[i]:Int)-(w:Int)-((if h:i<B.length then B[i] else 0:Nat):Int)→(-1000000000≤s∧s<1000000000) →
     EH (.sl (tX A) .none) (.sl (tX B) .none) (.ov H.length R.length) (I6 s) (I6 A.length) (I6 i) (H++[.vec 88 1 R.length (us R)]) (Out H.length K) Kb:=by
    intro s f9 gn;have fin:∀ (x w':Nat),x<1000000000→w'≤1→(x:Int)=s+w'*1000000000 →
      Kb (EG (.sl (tX A) .none) (.sl (tX B) .none) (.ov H.length (R.length+1)) (I6 w') (I6 A.length) (I6 ((i:Int)+1))) (H++[.vec 88 1 (R.length+1) (us (R++[x]))]):=by
     intro x w' hx pn he;refine fB _ _ ⟨A.length-(i+1),by omega,Back.here (by simp) (by simpa using hsc (R++[x])) (by simp[EG,ux,AV.sc,AV.ZH,AV.ZI,AV.ZJ]) ⟨_,_,_,rfl,i+1,w',R++[x],by omega,rfl,rfl,rfl,by simp,by simp[iN],?_,pn,?_,by simp⟩⟩
     ·intro y hy;rcases bg.1 hy with hy | hy
      ·exact hR y hy
      ·simp at hy;omega
     ·rw[zm,tk i,wH A i fy,iN,Nat.pow_succ];have hk:x+w+(if h:i<B.length then B[i] else 0)=A[i]+w'*1000000000:=by omega
      clear fB hsc fG hs;generalize (if h:i<B.length then B[i] else 0)=b at *;generalize 1000000000 ^ i=P at *;generalize tQ R=r at *;generalize tQ (B.take i)=vb at *;generalize tQ (A.take i)=va at *;generalize A[i]=a at *;have h1:(x+w+b)*P=(a+w'*1000000000)*P:=by rw[hk]
      grind
    have e3:∀x:Nat,us R++[AV.int .u32 (x:Int)]=us (R++[x]):=λx=>by simp[us]
    by_cases oq:s<0
    ·obtain⟨x,hx⟩:∃ x:Nat,s+1000000000=x:=⟨(s+1000000000).toNat,by omega⟩;have w1:IntKind.i64.wrap (s+1000000000)=(x:Int):=by rw[wI _ (by omega) (by omega)];exact hx
     have w2:IntKind.u32.wrap (x:Int)=x:=v8 (by omega);have:=fin x 1 (by omega) (by omega) (by omega);simp only[EH,HQ];simp[oq,w1,w2,uk,uI,plain,AV.pd,uj,uD,uy,wi i (by omega),e3];exact⟨⟨by omega,by omega⟩,by simpa using this⟩
    ·obtain⟨x,hx⟩:∃ x:Nat,s=x:=⟨s.toNat,by omega⟩;have w2:IntKind.u32.wrap (x:Int)=x:=v8 (by omega);have:=fin x 0 (by omega) (by omega) (by omega);rw[hx];have hneg':¬ ((x:Int)<0):=by omega
     simp only[EH,HQ];simp[hneg',w2,uk,uI,plain,AV.pd,uj,uD,uy,wi i (by omega),e3];exact⟨⟨by omega,by omega⟩,by simpa using this⟩
   have w0:IntKind.i64.wrap ((A[i]:Nat):Int)=A[i]:=wI _ (by omega) (by omega);have w1:IntKind.i64.wrap (((A[i]:Nat):Int)-(w:Int))=((A[i]:Nat):Int)-w:=wI _ (by omega) (by omega);by_cases hB:i<B.length
   ·have jP:=lB B[i] (ae hB);have w2:IntKind.i64.wrap ((B[i]:Nat):Int)=B[i]:=wI _ (by omega) (by omega);have w3:IntKind.i64.wrap (((A[i]:Nat):Int)-(w:Int)-((B[i]:Nat):Int))=((A[i]:Nat):Int)-w-((B[i]:Nat):Int):=wI _ (by omega) (by omega);have:=fC _ (by rw[fb hB]) (by omega);simp[HR,fy,hB,w0,w1,w2,w3];exact this
   ·have:=fC (((A[i]:Nat):Int)-w) (by rw[eK hB];simp) (by omega);simp[HR,fy,hB,w0,w1];exact this
  ·obtain rfl:i=A.length:=by omega
   rw[az,am (by omega)]at hv;have hRlt:=wr R hR;rw[iN]at hRlt;have rI:w=0:=by
    refine cg λh=>?_;have:w=1:=by omega
    subst this;omega
   subst rI;simp[HR];refine Xt R hR (by omega) (by simp) ?_;rw[show tQ R=tQ A-tQ B by omega];simp;exact Out.one hs (.atom (.sl _ _)) rfl rfl hK
def E7(a b:Nat)(ha:(lim a).length≤1000)(hb:(lim b).length≤1000)(H:or)(K:Kt)(hK:K (.sl (tX (lim (a*b))) .none) H):
  ge tP 121 [.sl (tX (lim a)) .none,.sl (tX (lim b)) .none] H K:=
 zMB _ _ (uZ a) (uZ b) ha hb H K (by rw[uN,uN];exact hK)
def Yo(a b:Nat)(ha:(lim a).length≤1000)(fS:b≤a)(H:or)(K:Kt)(hK:K (.sl (tX (lim (a-b))) .none) H):
  ge tP 173 [.sl (tX (lim a)) .none,.sl (tX (lim b)) .none] H K:=
 zPp _ _ (uZ a) (uZ b) (by omega) (xM fS) (by rw[uN,uN];exact fS) H K (by rw[uN,uN];exact hK)
def plB(b1:Bool)(n1 d1:Nat)(b2:Bool)(n2 d2:Nat):Bool:=if b1=b2 then b1 else if n2*d1≤n1*d2 then b1 else b2
def plN(b1:Bool)(n1 d1:Nat)(b2:Bool)(n2 d2:Nat):Nat:=if b1=b2 then n1*d2+n2*d1 else if n2*d1≤n1*d2 then n1*d2-n2*d1 else n2*d1-n1*d2
def zNj(b1:Bool)(n1 d1:Nat)(b2:Bool)(n2 d2:Nat)(h1:d1≠0)(h2:d2≠0):frR (plB b1 n1 d1 b2 n2 d2) (plN b1 n1 d1 b2 n2 d2) (d1*d2)=frR b1 n1 d1+frR b2 n2 d2:=by
 unfold plB plN;by_cases hb:b1=b2
 ·subst hb;rw[aN rfl,aN rfl,XS b1 n1 n2 d1 d2 h1 h2]
 ·rw[aG hb,aG hb];by_cases hc:n2*d1≤n1*d2
  ·rw[aN hc,aN hc,XT b1 b2 hb n1 n2 d1 d2 h1 h2 hc]
  ·rw[aG hc,aG hc,XU b1 b2 hb n1 n2 d1 d2 h1 h2 (by omega)]
def zNf{b1:Bool}{n1 d1:Nat}{b2:Bool}{n2 d2:Nat}{k:Nat}(h1:(lim n1).length≤k)(h2:(lim d1).length≤k)(h3:(lim n2).length≤k)(h4:(lim d2).length≤k):(lim (plN b1 n1 d1 b2 n2 d2)).length≤2*k+1:=by
 have e1:=x8 n1 d2;have e2:=x8 n2 d1;have e3:=XX (n1*d2) (n2*d1) (2*k) (by omega) (by omega);unfold plN;split
 ·exact e3
 ·split
  ·exact aC (xM (ff _ _)) (by omega)
  ·exact aC (xM (ff _ _)) (by omega)
def zNi(b1:Bool)(n1 d1:Nat)(b2:Bool)(n2 d2:Nat)(h1:(lim n1).length≤450)(h2:(lim d1).length≤450)(h3:(lim n2).length≤450)(h4:(lim d2).length≤450)(H:or)(K:Kt)(hK:K (.agg (u0 (plB b1 n1 d1 b2 n2 d2) (plN b1 n1 d1 b2 n2 d2) (d1*d2))) H):
  ge tP 129 [.agg (u0 b1 n1 d1),.agg (u0 b2 n2 d2)] H K:=by
 refine ge.out (zSl λhs=>?_);have e1:=x8 n1 d2;have e2:=x8 n2 d1;simp[VY,u0,aa];refine ur (.sl (tX (lim (n1*d2))) .none) (λJ=>E7 n1 d2 (by omega) (by omega) _ _ ⟨rfl,rfl⟩) ?_;try simp[aa]
 refine ur (.sl (tX (lim (n2*d1))) .none) (λJ=>E7 n2 d1 (by omega) (by omega) _ _ ⟨rfl,rfl⟩) ?_;try simp[aa]
 refine E7 d1 d2 (by omega) (by omega) _ _ ?_;simp[aa];unfold plB plN at hK;by_cases hb:b1=b2
 ·rw[aN hb,aN hb]at hK;have kb:(b1 == b2)=true:=by simpa using hb
  simp[kb,aa];refine ur (.sl (tX (lim (n1*d2+n2*d1))) .none) (λJ=>zWe _ _ (by omega) (by omega) _ _ ⟨rfl,rfl⟩) ?_;simp[ug,uv,xb,AV.ZP,aa];exact AD hs hK
 ·rw[aG hb,aG hb]at hK;have kb:(b1 == b2)=false:=by simpa using hb
  simp[kb,aa];refine IU _ _ (by omega) (by omega) _ _ ?_;by_cases hc:n2*d1≤n1*d2
  ·rw[aN hc,aN hc]at hK;have ki:(0:Int)≤vI (n1*d2) (n2*d1):=by unfold vI;rw[aG (by omega)];split <;> decide
   simp[ki,aa];refine ur (.sl (tX (lim (n1*d2-n2*d1))) .none) (λJ=>Yo _ _ (by omega) hc _ _ ⟨rfl,rfl⟩) ?_;simp[ug,uv,xb,AV.ZP,aa];exact AD hs hK
  ·rw[aG hc,aG hc]at hK;have ki:¬ (0:Int)≤vI (n1*d2) (n2*d1):=by unfold vI;rw[aN (by omega)];decide
   simp[ki,aa];refine ur (.sl (tX (lim (n2*d1-n1*d2))) .none) (λJ=>Yo _ _ (by omega) (by omega) _ _ ⟨rfl,rfl⟩) ?_;simp[ug,uv,xb,AV.ZP,aa];exact AD hs hK
def zJW(r s:Raw)(hr:r.ok 400)(gK:s.ok 400)(H:or)(K:Kt)(hK:K (.agg (uS (r.val+s.val))) H):ge tP 77 [.agg r.cs,.agg s.cs] H K:=by refine ge.out (ydR λhs=>?_);have l1:=Raw.ln_len hr;have l2:=Raw.ld_len hr;have l3:=Raw.ln_len gK;have l4:=Raw.ld_len gK;have jr:r.ok 450:=⟨hr.1,hr.2.1,by have:=hr.2.2.1;omega,by have:=hr.2.2.2;omega⟩;have gn:s.ok 450:=⟨gK.1,gK.2.1,by have:=gK.2.2.1;omega,by have:=gK.2.2.2;omega⟩;have hd:=x8 r.ld s.ld;have hn:=zNf (b1:=r.lb) (b2:=s.lb) l1 l2 l3 l4;simp[VO,aa];refine ur (.agg (u0 r.lb r.ln r.ld)) (λJ=>C6 r jr _ _ ⟨rfl,rfl⟩) ?_;refine ur (.agg (u0 s.lb s.ln s.ld)) (λJ=>C6 s gn _ _ ⟨rfl,rfl⟩) ?_;refine ur (.agg (u0 (plB r.lb r.ln r.ld s.lb s.ln s.ld) (plN r.lb r.ln r.ld s.lb s.ln s.ld) (r.ld*s.ld))) (λJ=>zNi _ _ _ _ _ _ (by omega) (by omega) (by omega) (by omega) _ _ ⟨rfl,rfl⟩) ?_;refine ur (.agg (uS (r.val+s.val))) (λJ=>E4 _ _ _ (cO r.ld0 s.ld0) (by omega) (by omega) _ _ ⟨by rw[zNj _ _ _ _ _ _ r.ld0 s.ld0,r.lval_eq,s.lval_eq],rfl⟩) ?_;simp[aa];exact zo hs hK
def Jx(r s:Raw)(hr:r.ok 400)(gK:s.ok 400)(H:or)(K:Kt)(hK:K (.agg (uS (r.val*s.val))) H):ge tP 70 [.agg r.cs,.agg s.cs] H K:=by
 refine ge.out (ydi λhs=>?_);have l1:=Raw.ln_len hr;have l2:=Raw.ld_len hr;have l3:=Raw.ln_len gK;have l4:=Raw.ld_len gK;have jr:r.ok 450:=⟨hr.1,hr.2.1,by have:=hr.2.2.1;omega,by have:=hr.2.2.2;omega⟩;have gn:s.ok 450:=⟨gK.1,gK.2.1,by have:=gK.2.2.1;omega,by have:=gK.2.2.2;omega⟩;have hd:=x8 r.ld s.ld;have hn:=x8 r.ln s.ln;simp[VN,aa];refine ur (.agg (u0 r.lb r.ln r.ld)) (λJ=>C6 r jr _ _ ⟨rfl,rfl⟩) ?_;refine ur (.agg (u0 s.lb s.ln s.ld)) (λJ=>C6 s gn _ _ ⟨rfl,rfl⟩) ?_;simp[u0,aa];refine ur (.sl (tX (lim (r.ln*s.ln))) .none) (λJ=>E7 _ _ (by omega) (by omega) _ _ ⟨rfl,rfl⟩) ?_;try simp[aa]
 refine ur (.sl (tX (lim (r.ld*s.ld))) .none) (λJ=>E7 _ _ (by omega) (by omega) _ _ ⟨rfl,rfl⟩) ?_;simp[ug,uv,xb,AV.ZP,aa];refine ur (.agg (uS (r.val*s.val))) (λJ=>E4 (r.lb != s.lb) (r.ln*s.ln) (r.ld*s.ld) (cO r.ld0 s.ld0) (by omega) (by omega) _ _ ⟨by rw[←P0,r.lval_eq,s.lval_eq],rfl⟩) ?_;simp[aa];exact zo hs hK
def zJY(r:Raw)(hr:r.ok 400)(H:or)(K:Kt)(hK:K (.agg (uS r.val)) H):ge tP 83 [.agg r.cs] H K:=by
 refine ge.out (yem λhs=>?_);have l1:=Raw.ln_len hr;have l2:=Raw.ld_len hr;have jr:r.ok 450:=⟨hr.1,hr.2.1,by have:=hr.2.2.1;omega,by have:=hr.2.2.2;omega⟩;simp[Yc,aa];refine C6 r jr _ _ ?_;try simp[aa]
 refine E4 _ _ _ r.ld0 (by omega) (by omega) _ _ ?_;rw[r.lval_eq];simp[aa];exact zo hs hK
def sgR(q:Rat):Int:=if q=0 then 0 else if q.num<0 then -1 else 1
def zOn(b:Bool)(n d:Nat)(H:or)(K:Kt)(hK:K (I6 (if n=0 then 0 else if b then -1 else 1)) H):ge tP 132 [.agg (u0 b n d)] H K:=by
 refine ge.out (zSE λhs=>?_);have hO:∀z J,z=(if n=0 then 0 else if b then -1 else (1:Int))→Out H.length K (I6 z) (H++J):=λz J h=>Out.int rfl (af _) hs (by rw[h];exact hK);by_cases h:n=0
 ·simp[Ph,u0,h];exact hO _ _ (by simp[h])
 ·simp[Ph,u0,zU h];cases b with
  |true=>simp;exact hO _ _ (by simp[h])
  |false=>simp;exact hO _ _ (by simp[h])
def zOg(r:Raw):(if r.ln=0 then 0 else if r.lb then -1 else (1:Int))=sgR r.val:=by
 have hv:=r.lval_eq;have h0:=r.ld0;by_cases h:r.ln=0
 ·rw[h,E1]at hv;simp[sgR,←hv,h]
 ·have fI:r.val≠0:=by rw[←hv];exact λh2=>h ((zLP h0).1 h2)
  have ml:decide (r.val.num<0)=r.lb:=by rw[←hv,E0 h0];refine XQ ?_;have hg:=c7 r.ld (de h);exact Nat.ne_of_gt (Nat.div_pos (eG (de h) (d6 _ _)) hg)
  rw[←ml];simp[sgR,fI,h]
def Yp(r:Raw)(hr:r.ok 400)(H:or)(K:Kt)(hK:K (I6 (sgR r.val)) H):ge tP 80 [.agg r.cs] H K:=by refine ge.out (yd6 λhs=>?_);have jr:r.ok 450:=⟨hr.1,hr.2.1,by have:=hr.2.2.1;omega,by have:=hr.2.2.2;omega⟩;simp[Wu,aa];refine C6 r jr _ _ ?_;refine zOn _ _ _ _ _ ?_;rw[zOg];exact Out.int rfl (af _) hs hK

inductive VT where
 |mk (kind num:Int) (kids:List VT)

mutual
def VT.cs:VT→List AV
 |.mk k n ks=>[.int .i64 k,.int .i64 n,.sl (VT.css ks) .none]
def VT.css:List VT→List (List AV)
 |[]=>[]
 |v::vs=>VT.cs v::VT.css vs
end
mutual
def VT.ZO:VT→Nat
 |.mk _ _ ks=>VT.ZA ks+1
def VT.ZA:List VT→Nat
 |[]=>0
 |v::vs=>VT.ZO v+VT.ZA vs
end
theorem VT.ZC:∀ ks:List VT,VT.css ks=ks.map VT.cs
 |[]=>rfl
 |v::vs=>by simp[VT.css,VT.ZC vs]
def VT.ZB:∀ v:VT,0<v.ZO
 |.mk _ _ _=>by simp[VT.ZO]
theorem VT.ZF:∀ (a b:List VT),VT.ZA (a++b)=VT.ZA a+VT.ZA b
 |[],b=>by simp[VT.ZA]
 |v::a,b=>by simp[VT.ZA,VT.ZF a b];omega
@[simp] theorem VT.cs_len(v:VT):v.cs.length=3:=by cases v;simp[VT.cs]
@[simp] theorem VT.css_len(ks:List VT):(VT.css ks).length=ks.length:=by simp[VT.ZC]
@[simp] theorem VT.cs_take(v:VT):v.cs.take 3=v.cs:=by cases v;simp[VT.cs]
@[simp] theorem VT.css_get{ks:List VT}{i:Nat}(h:i<(VT.css ks).length):(VT.css ks)[i]=(ks[i]'(by simpa using h)).cs:=by simp[VT.ZC]
def VT.ZM{k n:Int}{ks:List VT}{i:Nat}(h:i<ks.length):(ks[i]).ZO<(VT.mk k n ks).ZO:=by
 have h1:VT.ZA ks=VT.ZA (ks.take i)+((ks[i]).ZO+VT.ZA (ks.drop (i+1))):=by
  conv=>lhs;rw[←aJ i ks,VT.ZF,ai h]
  rw[VT.ZA]
 simp only[VT.ZO];omega
theorem VT.ZQ:∀ ks:List VT,ks.length≤VT.ZA ks
 |[]=>by simp
 |v::vs=>by have:=VT.ZQ vs;have:=v.ZB;simp[VT.ZA];omega
def VT.ZE{ks:List VT}{i:Nat}(h:i<ks.length):VT.ZA (ks.take (i+1))=VT.ZA (ks.take i)+(ks[i]).ZO:=by rw[ag h,VT.ZF];simp[VT.ZA]
def VT.ZD(ks:List VT)(i:Nat):VT.ZA (ks.take i)≤VT.ZA ks:=by
 conv=>rhs;rw[←aJ i ks,VT.ZF]
 omega
def VT.leaf(k:Int):Bool:=k == 6 || k == 7 || k == 8
mutual
def VT.size:VT→Nat
 |.mk k _ ks=>if VT.leaf k=true then 1 else VT.sizeL ks+1
def VT.sizeL:List VT→Nat
 |[]=>0
 |v::vs=>VT.size v+VT.sizeL vs
end
mutual
theorem VT.size_le:∀ v:VT,v.size≤v.ZO
 |.mk k n ks=>by have:=VT.sizeL_le ks;simp only[VT.size,VT.ZO];split <;> omega
theorem VT.sizeL_le:∀ ks:List VT,VT.sizeL ks≤VT.ZA ks
 |[]=>by simp[VT.sizeL,VT.ZA]
 |v::vs=>by have:=VT.size_le v;have:=VT.sizeL_le vs;simp only[VT.sizeL,VT.ZA];omega
end
/- The guard on a value's ZO: what is left of a number behind it, and whether it was enough. -/
mutual
def VT.val:VT→Int→Bool × Int
 |.mk _ _ ks,n=>if n-1<0 then (false,n-1) else VT.valL ks (n-1)
def VT.valL:List VT→Int→Bool × Int
 |[],n=>(true,n)
 | v::vs,n=>match VT.val v n with
  |(true,m)=>VT.valL vs m
  |(false,m)=>(false,m)
end
mutual
theorem VT.val_spec:∀ (v:VT) (n:Int),0≤n→((VT.val v n).1=true→(VT.val v n).2=n-v.ZO∧0≤(VT.val v n).2)∧-1≤(VT.val v n).2∧(VT.val v n).2≤n
 |.mk k m ks,n,h=>by
  simp only[VT.val,VT.ZO];split
  ·simp;omega
  ·have:=VT.valL_spec ks (n-1) (by omega);refine⟨λht=>?_,by omega,by omega⟩;have:=this.1 ht;omega
theorem VT.valL_spec:∀ (ks:List VT) (n:Int),0≤n→((VT.valL ks n).1=true→(VT.valL ks n).2=n-VT.ZA ks∧0≤(VT.valL ks n).2)∧-1≤(VT.valL ks n).2∧(VT.valL ks n).2≤n
 |[],n,h=>by simp[VT.valL,VT.ZA];omega
 |v::vs,n,h=>by
  have h1:=VT.val_spec v n h;simp only[VT.valL,VT.ZA];split
  ·rename_i m hm;rw[hm]at h1;have h2:=h1.1 rfl;simp only at h2;have h3:=VT.valL_spec vs m h2.2;refine⟨λht=>?_,by omega,by omega⟩;have:=h3.1 ht;omega
  ·rename_i m hm;rw[hm]at h1;simp only at h1;exact⟨by simp,by omega,by omega⟩
end
end Go.Proofs.YtdmamdnkcefmmaaGreatDoor
