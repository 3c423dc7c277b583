import Derived.Test.YtdmamdnkcefmmaaGreatDoorRL2
import Derived.Test.YtdmamdnkcefmmaaGreatDoorAbsQ1
import Derived.Test.YtdmamdnkcefmmaaGreatDoorKV5
set_option linter.unusedSimpArgs false
set_option linter.unusedVariables false
set_option maxRecDepth 8000
namespace Go.Proofs.YtdmamdnkcefmmaaGreatDoor
theorem zrx(L:List Nat)(hL:L.length≤1000000)(H:zaa)(K:Kt)(hK:K (.sl (zan (zbF L)) .none) H):
  ACalls tP zgk [.sl (zan L) .none] H K:=by
 refine ACalls.out (zKr λhs=>?_);simp[zzO];refine zKp (Inv:=λq t3 H'=>∃n:Nat,n≤L.length∧n=q∧t3=.int .i64 n∧H'=H∧zbF L=zbF (L.take n)) L.length ?_ ?_
 ·intro _;exact⟨L.length,by omega,rfl,by simp,rfl,by simp⟩
 ·rintro q t3 H' ⟨n,hn,rfl,rfl,rfl,eD⟩ eA d8 eC Kb ee;have fm:∀ (l:List Nat) (J:zaa),l=zbF L→Out (List.length H') K (AV.sl (zan l) (Tok.own (List.length H'))) (H'++J):=λl J hl=>Out.one hs (.atom (.sl _ _)) rfl rfl (by rw[hl];exact hK);by_cases h0:n=0
  ·subst h0;simp[zk1,zax,zaO,zaK];exact⟨zeb L,fm [] _ (by simpa[zbF]using eD.symm)⟩
  ·have hw:IntKind.i64.wrap ((n:Int)-1)=((n-1:Nat):Int):=by rw[zav (by omega) (by omega)];omega
   have d7:n-1<L.length:=by omega
   by_cases hz:L[n-1]=0
   ·simp[zk1,show 0<n by omega,hw,d7,hz];exact ee _ _ ⟨n-1,by omega,Back.here (by simp) hs (by simp[zk2,AV.sc,AV.scA,AV.scB,AV.scV]) ⟨_,rfl,n-1,by omega,rfl,rfl,rfl,by rw[eD,zyH (by omega) hn hz]⟩⟩
   ·have nW:(((L[n-1]:Nat):Int) == 0)=false:=by simp;omega
    simp[zk1,show 0<n by omega,hw,d7,nW,zax,zaO,zaK];refine⟨⟨hn,zeb L⟩,λc hc=>zeb L c (bE hc),⟨by omega,by omega⟩,?_⟩;rw[zzh];exact fm _ _ (by rw[eD,zyF (by omega) hn hz])
theorem zDh(n:Nat)(hn:n<18446744073709551616)(H:zaa)(K:Kt)(hK:K (.sl (zan (lim n)) .none) H):
  ACalls tP zhZ [.int .u64 n] H K:=by
 refine ACalls.out (zUA λhs=>?_);unfold zDg znM;refine ALoop.own 3 zbo 1 rfl ?_;show znM (.int .u64 n) (.sl [] (.own H.length)) (H++[.perm zbo 1 0]) (Out H.length K);refine zUy (Inv:=λq t0 t3 H'=>∃ (m:Nat) (A:List Nat),m=q∧t0=.int .u64 m∧t3=.sl (zan A) (.own H.length)∧lim n=A++lim m∧m<18446744073709551616 ∧
  H'=H++[.perm zbo 1 A.length]) n ?_ ?_
 ·intro _;exact⟨n,[],rfl,rfl,rfl,by simp,hn,rfl⟩
 ·rintro q t0 t3 H' ⟨m,A,rfl,rfl,rfl,hA,hm,rfl⟩ eA d8 eC Kb ee;by_cases h0:m=0
  ·subst h0;simp[zus];exact Out.one hs (.atom (.sl _ _)) rfl rfl (by simpa[hA]using hK)
  ·have hq:=zpl m;have hd:=zFD h0;have hlA:A.length+1≤1000:=by have h1:=congrArg List.length hA;have h2:=zbW (n:=n) (k:=3) (by omega);rw[zcd h0]at h1;simp at h1;omega
   simp only[zus,zou,zvo false hm,zEp .u64 (show m % 1000000000<4294967296 by omega)];simp[show 0<m by omega,zau,zaU,plain,AV.pd,zax,zaO,zaK];refine⟨⟨by omega,by omega⟩,?_⟩;have e1:((m:Int) / 1000000000)=((m / 1000000000:Nat):Int):=rfl;have e2:((m:Int) % 1000000000)=((m % 1000000000:Nat):Int):=rfl;rw[e1,e2,sN];refine ee _ _ ⟨m / 1000000000,hd,Back.here (by simp) (hs.append (by simp[AB.sc])) (by simp[znL,ux,AV.sc,AV.scA,AV.scB,AV.scV]) ⟨_,_,rfl,m / 1000000000,A++[m % 1000000000],rfl,rfl,rfl,?_,by omega,by simp⟩⟩;rw[hA,zcd h0];simp
theorem zft(A:List Nat)(x:Nat):zaq (A++[x])=zaq A+1000000000 ^ A.length*x:=by rw[zhz];simp[zaq]
theorem zzJ(L:List Nat)(ma:∀ x∈L,x<4294967296)(hL:L.length≤100000)(H:zaa)(K:Kt)(hK:K (.sl (zan (lim (zaq L))) .none) H):
  ACalls tP zjk [.sl (zan L) .none] H K:=by
 refine ACalls.out (zJ8 λhs=>?_);unfold zzI zkX;refine ALoop.own 3 zbo 1 rfl ?_;show zkX (.sl (zan L) .none) (.sl [] (.own H.length)) (.int .u64 0) (.int .i64 0) (H++[.perm zbo 1 0]) (Out H.length K);have kN:∀A:List Nat,(∀x∈A,x<1000000000)→zaq A=zaq L→A.length≤200000→zkW (.sl (zan A) (.own H.length)) (H++[.perm zbo 1 A.length]) (Out H.length K):=by intro A hA he hl;unfold zkW;refine ACalls.wk (args':=[.sl (zan A) .none]) (zrx A (by omega) _ _ ?_) ⟨.atom (.sl _ _),trivial⟩;rw[zfH A hA,he];exact Out.one hs (.atom (.sl _ _)) rfl rfl hK
 refine zJ6 (Inv:=λq t3 t4 t5 H'=>∃ (i c:Nat) (A:List Nat),i≤L.length∧L.length-i=q∧t5=.int .i64 i∧t4=.int .u64 c∧t3=.sl (zan A) (.own H.length)∧A.length=i∧(∀ x∈A,x<1000000000)∧c≤5 ∧
  zaq A+1000000000 ^ i*c=zaq (L.take i)∧H'=H++[.perm zbo 1 A.length]) L.length ?_ ?_
 ·intro _;exact⟨0,0,[],by omega,rfl,rfl,rfl,rfl,rfl,by simp,by omega,by simp[zaq],rfl⟩
 ·rintro q t3 t4 t5 H' ⟨i,c,A,hi,rfl,rfl,rfl,rfl,js,hA,hc,hv,rfl⟩ eA d8 eC Kb ee;by_cases d7:i<L.length
  ·have hx:=ma L[i] (ah d7);have w1:IntKind.u64.wrap ((L[i]:Nat):Int)=L[i]:=zbL (by omega);obtain⟨s,fx⟩:∃ s,s=c+L[i]:=⟨_,rfl⟩;have w2:IntKind.u64.wrap ((c:Int)+(L[i]:Nat))=(s:Int):=by rw[fx,←Int.natCast_add];exact zbL (by omega)
   obtain⟨x,c',fF,e8,fC,e1,e2⟩:=zhm s (by omega);simp only[zkU];simp[d7,w1,w2,e1,e2,fC,zau,zaU,plain,AV.pd,zax,zaO,zaK,wi i (by omega)];refine⟨⟨by omega,by omega⟩,?_⟩;rw[sN];refine ee _ _ ⟨L.length-(i+1),by omega,Back.here (by simp) (hs.append (by simp[AB.sc])) (by simp[zkV,ux,AV.sc,AV.scA,AV.scB,AV.scV]) ⟨_,_,_,rfl,i+1,c',A++[x],by omega,rfl,rfl,rfl,rfl,by simp[js],?_,by omega,?_,by simp⟩⟩
   ·intro y hy;rcases aX.1 hy with hy | hy
    ·exact hA y hy
    ·simp at hy;omega
   ·rw[zft,zgh L i d7,←hv,js,Nat.pow_succ];grind
  ·obtain rfl:i=L.length:=by omega
   rw[aq]at hv;by_cases h0:c=0
   ·subst h0;simp[zkU];exact kN A hA (by simpa using hv) (by omega)
   ·simp only[zkU];simp[show 0<c by omega,zec (show c<4294967296 by omega),zau,zaU,plain,AV.pd,zax,zaO,zaK];refine⟨⟨by omega,by omega⟩,?_⟩;rw[sN];have:=kN (A++[c]) (λy hy=>by
     rcases aX.1 hy with hy|hy
     ·exact hA y hy
     ·simp at hy;omega) (by rw[zft,js];exact hv) (by simp;omega)
    simpa using this
theorem zjh{A B:List Nat}(hl:A.length=B.length)(hA:∀x∈A,x<1000000000)(i:Nat)(hi:i<A.length)(hd:A.drop (i+1)=B.drop (i+1))(d7:A[i]<B[i]'(by omega)):zaq A<zaq B:=by
 have e1:∀(l:List Nat) (h:i<l.length),zaq l=zaq (l.take i)+1000000000 ^ i*(l[i]+1000000000*zaq (l.drop (i+1))):=by
  intro l h
  conv=>lhs;rw[←aT i l,zhz,ag h,zaq]
  rw[aW,bj (by omega)]
 rw[e1 A hi,e1 B (by omega),hd];have h1:=zeW (A.take i) (λx hx=>hA x (bE hx));rw[aW,bj (by omega)]at h1;generalize hZ:zaq (B.drop (i+1))=Z;generalize A[i]=a at d7 ⊢;generalize B[i]=b at d7 ⊢;have h2:1000000000 ^ i*(a+1000000000*Z+1)≤1000000000 ^ i*(b+1000000000*Z):=bp _ (by omega);rw[Nat.mul_succ]at h2;omega
def zch(a b:Nat):Int:=if a<b then -1 else if b<a then 1 else 0
theorem zJ3(a b:Nat)(ha:(lim a).length≤1000)(hb:(lim b).length≤1000)(H:zaa)(K:Kt)(hK:K (.int .i64 (zch a b)) H):
  ACalls tP zpq [.sl (zan (lim a)) .none,.sl (zan (lim b)) .none] H K:=by
 refine ACalls.out (zJ1 λhs=>?_);have hO:∀r,r=zch a b→Out H.length K (.int .i64 r) H:=λr hr=>Out.int (J:=[]) (by simp) (aa _) hs (by rw[hr];exact hK);have lA:=zci a;have lB:=zci b;have vA:=zbO a;have vB:=zbO b;by_cases en:(lim a).length=(lim b).length
 ·simp[zkQ,en];generalize hLA:lim a=A at *;generalize hLB:lim b=B at *;have je:IntKind.i64.wrap ((B.length:Int)-1)=(B.length:Int)-1:=zav (by omega) (by omega);rw[je];refine zJZ (Inv:=λq t5 H'=>∃i:Nat,i≤B.length∧i=q∧t5=.int .i64 ((i:Int)-1)∧H'=H∧A.drop i=B.drop i) B.length ?_ ?_
  ·intro _;exact⟨B.length,by omega,rfl,rfl,rfl,by rw[a7 (by omega),a7 (by omega)]⟩
  ·rintro q t5 H' ⟨i,hi,rfl,rfl,rfl,hd⟩ eA d8 eC Kb ee;by_cases h0:i=0
   ·subst h0;simp[zis];refine hO _ ?_;simp at hd;rw[←vA,←vB,hd];simp[zch]
   ·obtain⟨j,rfl⟩:∃ j,i=j+1:=⟨i-1,by omega⟩;have g7:j<A.length:=by omega
    have kO:j<B.length:=by omega
    have ej:((j+1:Nat):Int)-1=(j:Int):=by omega
    have eL:IntKind.i64.wrap ((j:Int)-1)=(j:Int)-1:=zav (by omega) (by omega);rw[ej];rcases Nat.lt_trichotomy A[j] B[j] with h|h|h
    ·have:=zjh en lA j g7 hd h;simp[zis,g7,kO,h];exact hO _ (by rw[←vA,←vB];simp[zch,this])
    ·simp[zis,g7,kO,h,eL];refine ee _ _ ⟨j,by omega,Back.here (by simp) hs (by simp[zkS,ux,AV.sc,AV.scA,AV.scB,AV.scV]) ⟨_,rfl,j,by omega,rfl,rfl,rfl,?_⟩⟩;rw[ag g7,ag kO,hd,h]
    ·have:=zjh en.symm lB j kO hd.symm h;simp[zis,g7,kO,h,bN h,dw.2 (bN h)];exact hO _ (by rw[←vA,←vB];simp[zch,this,dw.2 (bN this)])
 ·have kD:(((lim a).length:Int) != ((lim b).length:Int))=true:=by simp;omega
  by_cases d7:(lim a).length<(lim b).length
  ·have:=zjg d7;simp[zkQ,kD,d7];exact hO (-1) (by simp[zch,this])
  ·have:=zjg (show (lim b).length<(lim a).length by omega);simp[zkQ,kD,d7];exact hO 1 (by simp[zch,this,dw.2 (bN this)])
def us(l:List Nat):List AV:=l.map λ(n:Nat)=>AV.int .u32 (n:Int)
@[simp] theorem yaA(l:List Nat):(us l).length=l.length:=by simp[us]
theorem zkJ(l:List Nat):(zan l).flatten=us l:=by induction l with
 |nil=>rfl
 |cons x l ih=>simp only[zan,us,aD,List.flatten_cons]at ih ⊢;rw[ih];rfl
theorem ziq:∀ (l:List Nat),plain (us l)=some (us l)
 |[]=>rfl
 |x::l=>by simp only[us,aD,plain,AV.pd];rw[show plain (List.map (λn:Nat=>AV.int .u32 (n:Int)) l)=some (us l) from ziq l];rfl
theorem zJv(l:List Nat)(i:Nat)(h:i<l.length):(us l)[i]?=some (.int .u32 ((l[i]:Nat):Int)):=by simp[us,h]
theorem zzl(l:List Nat)(i x:Nat)(h:i<l.length):(us l).take i++[AV.int .u32 (x:Int)]++(us l).drop (i+1)=us (l.set i x):=by simp only[us,←bM,←List.map_drop];rw[bl,aA h];simp
theorem zrf(n:Nat):List.replicate n (AV.int .u32 0)=us (List.replicate n 0):=by simp[us]
theorem zEo{k:AV→Prop}(l:List Nat)(i:Nat)(h:i<l.length):zbt false 1 i (us l) k=k (.int .u32 ((l[i]:Nat):Int)):=by simp[zbt,zJv l i h]
theorem zFu(L:List Nat)(hL:∀ x∈L,x<1000000000)(hl:L.length≤100000){id:Nat}{H:zaa}{K:Kt}(d9:H[id]?=some (.cells (us L)))(hK:K (.sl (zan (lim (zaq L))) .none) (H.set id .dead)):
  ACalls tP zgk [.ms id 0 L.length L.length] H K:=by
 refine ACalls.frz id 0 L.length L.length 1 (us L) (zan L) d9 (by simp) ?_ (by simp) (zeb L) (aa _) (args':=[.sl (zan L) .none]) ⟨.one .ms,trivial⟩ ?_
 ·rw[br,am (by simp),zkJ,ziq]
 ·refine zrx L (by omega) _ _ ?_;rw[zfH L hL];exact hK
theorem zzm(O:List Nat)(i x:Nat)(h:i<O.length):List.take i (us O)++AV.int .u32 (x:Int)::List.drop (i+1) (us O)=us (O.set i x):=by rw[←zzl O i x h];simp
theorem zyt{O:List Nat}(hO:∀x∈O,x<1000000000){i x:Nat}(hx:x<1000000000):∀y∈O.set i x,y<1000000000:=by
 intro y hy;rcases bX hy with hy|rfl
 ·exact hO y hy
 ·exact hx
theorem zM4(A:List Nat)(lA:∀ x∈A,x<1000000000)(ha:A.length≤1000)(d:Nat)(g8:0<d)(hd:d<4294967296)(hdB:d≤1000000000)(H:zaa)(K:Kt)(hK:K (.tup [.sl (zan (lim (zaq A / d))) .none,.int .u64 ((zaq A % d:Nat):Int)]) H):
  ACalls tP zpH [.sl (zan A) .none,.int .u64 d] H K:=by
 refine ACalls.out (zM2 λhs=>?_);have eD:IntKind.i64.wrap ((A.length:Int)-1)=(A.length:Int)-1:=zav (by omega) (by omega);simp[zAz,zbu,eD];rw[zrf];refine⟨⟨by omega,by omega⟩,?_⟩;have hsc:∀ O:List Nat,HSc (H++[.cells (us O)]):=λO=>hs.append (by simp[AB.sc,us,AV.scA,AV.scB]);refine zM0 (Inv:=λq t7 t8 H'=>∃ (i r:Nat) (O:List Nat),i≤A.length∧i=q∧t8=.int .i64 ((i:Int)-1)∧t7=.int .u64 r∧r<d∧O.length=A.length∧(∀ x∈O,x<1000000000) ∧
  zaq (A.drop i)=d*zaq (O.drop i)+r∧H'=H++[.cells (us O)]) A.length ?_ ?_
 ·intro _;exact⟨A.length,0,_,by omega,rfl,rfl,rfl,by omega,by simp,by simp,by simp[zaq],rfl⟩
 ·rintro q t7 t8 H' ⟨i,r,O,hi,rfl,rfl,rfl,hr,kZ,hO,hv,rfl⟩ eA d8 eC Kb ee;by_cases h0:i=0
  ·subst h0;simp[zsg];rw[br,br]at hv;rw[←kZ];refine zFu O hO (by omega) (by simp) ?_;have e1:zaq A / d=zaq O:=by rw[hv,c9 g8,bQ hr];simp
   have e2:zaq A % d=r:=by rw[hv,db,bH hr]
   rw[e1,e2]at hK;simp;exact⟨⟨rfl,rfl⟩,Out.tup (bs:=[.sl (zan (lim (zaq O))) .none,.int .u64 (r:Int)]) hs hK ⟨slV,zaY rfl rfl,trivial⟩⟩
  ·obtain⟨j,rfl⟩:∃ j,i=j+1:=⟨i-1,by omega⟩;have g7:j<A.length:=by omega
   have nX:j<O.length:=by omega
   have kL:=lA A[j] (ah g7);have ej:((j+1:Nat):Int)-1=(j:Int):=by omega
   have eL:IntKind.i64.wrap ((j:Int)-1)=(j:Int)-1:=zav (by omega) (by omega);have hrB:r*1000000000≤1000000000*1000000000:=au _ (by omega);obtain⟨m,hm⟩:∃m,m=r*1000000000:=⟨_,rfl⟩;have w1:IntKind.u64.wrap ((r:Int)*1000000000)=(m:Int):=by rw[show (r:Int)*1000000000=(m:Int) by omega];exact zbL (by omega)
   have w2:IntKind.u64.wrap ((A[j]:Nat):Int)=A[j]:=zbL (by omega);obtain⟨s,fx⟩:∃s,s=m+A[j]:=⟨_,rfl⟩;have w3:IntKind.u64.wrap ((m:Int)+(A[j]:Nat))=(s:Int):=by rw[fx,←Int.natCast_add];exact zbL (by omega)
   obtain⟨x,c,fF,e8,e1,e2⟩:=zoS s d g8 (by omega);have py:c<1000000000:=by
    refine cj λh=>?_;have h1:d*1000000000≤d*c:=bp _ h;have h2:r*1000000000+1000000000≤d*1000000000:=by rw[←cp];exact au _ hr
    omega
   have w4:IntKind.u32.wrap (c:Int)=c:=zec (by omega);rw[ej];simp only[zsg];simp[g7,w1,w2,w3,e1,e2,w4,eL,zzm O j c nX,kZ];refine⟨by omega,ee _ _ ⟨j,by omega,Back.here (by simp) (hsc _) (by simp[zlP,ux,AV.sc,AV.scA,AV.scB,AV.scV]) ⟨_,_,rfl,j,x,O.set j c,by omega,rfl,rfl,rfl,fF,by simp[kZ],zyt hO py,?_,rfl⟩⟩⟩;rw[zhA A j g7,zhA (O.set j c) j (by simpa using nX),List.getElem_set_self,List.drop_set_of_lt (by omega),hv];rw[fx,hm]at e8;generalize zaq (O.drop (j+1))=Z at *;grind
theorem zrv(a b:Nat)(ha:(lim a).length≤1000)(fA:0<b)(hb:b<1000000000)(H:zaa)(K:Kt)(hK:K (.tup [.sl (zan (lim (a / b))) .none,.sl (zan (lim (a % b))) .none]) H):
  ACalls tP zhF [.sl (zan (lim a)) .none,.sl (zan (lim b)) .none] H K:=by
 refine ACalls.out (zKl λhs=>?_);have fV:lim b=[b]:=zfs (by omega) hb;simp only[zzM];refine zJ3 a b ha (by rw[fV];simp) _ _ ?_;have l5:(zch a b<0)↔a<b:=by
  unfold zch;split
  ·simp;assumption
  ·split <;> simp <;> omega
 by_cases d7:a<b
 ·simp[l5,d7];refine zrx (lim a) (by omega) _ _ ?_;rw[zfH _ (zci a),zbO];rw[bQ d7,bH d7,zwU]at hK;refine⟨⟨rfl,rfl⟩,?_⟩;exact Out.tup0 (bs:=[.sl (zan []) .none,.sl (zan (lim a)) .none]) hs hK ⟨zdS,slV,trivial⟩
 ·have w1:IntKind.u64.wrap (b:Int)=b:=zbL (by omega);have hm:a % b<b:=ck _ fA;simp[l5,d7,fV,w1];refine zM4 (lim a) (zci a) ha b fA (by omega) (by omega) _ _ ?_;rw[zbO];simp;refine zDh (a % b) (by omega) _ _ ?_;refine⟨⟨rfl,rfl⟩,?_⟩;exact Out.tup0 (bs:=[.sl (zan (lim (a / b))) .none,.sl (zan (lim (a % b))) .none]) hs hK ⟨slV,slV,trivial⟩
theorem zKg(a b:Nat)(ha:(lim a).length≤1000)(hb:b<1000000000)(H:zaa)(K:Kt)(hK:K (.sl (zan (lim (Nat.gcd a b))) .none) H):
  ACalls tP zpr [.sl (zan (lim a)) .none,.sl (zan (lim b)) .none] H K:=by
 refine ACalls.out (zKe λhs=>?_);unfold zzK;refine zKc (Inv:=λq t0 t1 H'=>∃x y:Nat,y=q∧t0=.sl (zan (lim x)) .none∧t1=.sl (zan (lim y)) .none∧(lim x).length≤1000∧y<1000000000∧Nat.gcd x y=Nat.gcd a b∧H'=H) b ?_ ?_
 ·intro _;exact⟨a,b,rfl,rfl,rfl,ha,hb,rfl,rfl⟩
 ·rintro q t0 t1 H' ⟨x,y,rfl,rfl,rfl,hx,hy,hg,rfl⟩ eA d8 eC Kb ee;by_cases h0:y=0
  ·subst h0;rw[dl]at hg;subst hg;simp[zrs];exact Out.one0 hs (.atom (.sl _ _)) rfl rfl hK
  ·have hly:lim y=[y]:=zfs h0 hy;have hm:x % y<y:=ck _ (by omega);simp[zrs,show 0<(lim y).length by rw[hly];simp];refine zrv x y hx (by omega) hy _ _ ?_;simp;refine ee _ _ ⟨x % y,hm,Back.here (by simp) hs (by simp[zkZ,ux,AV.sc,AV.scA,AV.scB,AV.scV]) ⟨_,_,rfl,y,x % y,rfl,rfl,rfl,by rw[hly];simp,by omega,?_,rfl⟩⟩;rw[←hg,dO x y,Nat.gcd_rec y x,dO]
def zam(z:Int):List AV:=[.bool (decide (z<0)),.sl (zan (lim z.natAbs)) .none,.sl (zan [1]) .none]
theorem zTV(neg:Bool)(N D:List Nat)(hN:∀ x∈N,x<4294967296)(hD:∀ x∈D,x<4294967296)(pz:N.length≤10000)(hDl:D.length≤10000)(n:Nat)(fT:(lim n).length≤900)(d:Nat)(g8:0<d)(hd:d<1000000000)(hn:zaq N=n*d)(hdv:zaq D=d)(H:zaa)(K:Kt)(hK:K (.agg (zam (if neg then -(n:Int) else n))) H):
  ACalls tP zgr [.bool neg,.sl (zan N) .none,.sl (zan D) .none] H K:=by
 refine ACalls.out (zTU λhs=>?_);have iD:lim d=[d]:=zfs (by omega) hd;simp[zC6];refine zzJ N hN (by omega) _ _ ?_;refine zzJ D hD (by omega) _ _ ?_;rw[hn,hdv];have nY:(lim (n*d)).length≤1000:=by
  have h1:=zeW (lim n) (zci n);rw[zbO]at h1;have h2:n*d<1000000000 ^ ((lim n).length+1):=by rw[Nat.pow_succ];exact dG h1 hd
  have:=zbW h2;omega
 by_cases h0:n=0
 ·subst h0;have e0:(if neg=true then -((0:Nat):Int) else ((0:Nat):Int))=0:=by cases neg <;> rfl
  rw[e0]at hK;simp[zau,zaU,plain,AV.pd,zar,zaL,zcX];have e1:zam 0=[.bool false,.sl [] .none,.sl [[.int .u32 1]] .none]:=by simp[zam,zan]
  rw[e1]at hK;exact Out.one hs (WkV.agg (ds:=[.bool false,.sl [] .none,.sl [[.int .u32 1]] .none]) ⟨.refl _,.snil,.sl _ _,trivial⟩) rfl (by simp[AV.scV,AV.scA,AV.scB]) hK
 ·have ga:0<(lim (n*d)).length:=by rw[zcd (Nat.mul_ne_zero h0 (by omega))];simp
  have hg:Nat.gcd (n*d) d=d:=Nat.gcd_eq_right (Nat.dvd_mul_left d n);have fA:(((lim (n*d)).length:Int) == 0)=false:=by generalize (lim (n*d)).length=q at ga;simp;omega
  have gb:znC (.bool neg) (.sl (zan (lim n)) .none) (.sl (zan [1]) .none) (.ptr H.length 0) (H++[.cells [.bool false,.snil,.snil]]) (Out H.length K):=by
   simp[znC,zar,zaL,zcX];have e1:zam (if neg=true then -(n:Int) else n)=[.bool neg,.sl (zan (lim n)) .none,.sl (zan [1]) .none]:=by
    cases neg
    ·simp[zam]
    ·simp[zam];omega
   rw[e1]at hK;exact Out.one hs (WkV.agg (ds:=[.bool neg,.sl (zan (lim n)) .none,.sl (zan [1]) .none]) ⟨.refl _,.sl _ _,.sl _ _,trivial⟩) rfl (by simp[AV.scV,AV.scA,AV.scB]) hK
  simp[fA,iD];rw[show ([d]:List Nat)=lim d from iD.symm];refine zKg (n*d) d nY hd _ _ ?_;rw[hg,iD];by_cases lw:d=1
  ·subst lw;simp;simpa using gb
  ·have en:((d:Int) != 1)=true:=by simp;omega
   simp[en];rw[show ([d]:List Nat)=lim d from iD.symm];refine zrv (n*d) d nY g8 hd _ _ ?_;simp;refine zrv d d (by rw[iD];simp) g8 hd _ _ ?_;rw[dQ g8,Nat.mul_div_cancel _ g8,show lim 1=[1] from zfs (by omega) (by omega)];simp;exact gb
def Sm(z:Int):Prop:=z.natAbs<1000000000 ^ 30
theorem Sm.len{z:Int}(h:Sm z):(lim z.natAbs).length≤30:=zbW h
theorem zd3:lim 1=[1]:=zfs (by omega) (by omega)
theorem zhy(n:Nat):∀x∈lim n,x<4294967296:=λx hx=>by have:=zci n x hx;omega
@[simp] theorem zHp(z:Int):(zam z).length=3:=rfl
@[simp] theorem zfC(z:Int):(zam z).all AV.known=true:=rfl
theorem zgz(z:Int)(n:Nat):(zam z).all (AV.scA n)=true:=rfl
theorem zdM{H J:zaa}{K:Kt}{z:Int}(hs:HSc H)(hK:K (.agg (zam z)) H):Out H.length K (.agg (zam z)) (H++J):=Out.one hs .rfl' rfl rfl hK
theorem zE4(neg:Bool)(n d:Nat)(hn:n*d<1000000000 ^ 100)(g8:0<d)(hd:d<1000000000){z:Int}(hz:(if neg=true then -(n:Int) else n)=z)(H:zaa)(K:Kt)(hK:K (.agg (zam z)) H):
  ACalls tP zgr [.bool neg,.sl (zan (lim (n*d))) .none,.sl (zan (lim d)) .none] H K:=by
 subst hz;have h1:=zbW hn;have h2:n<1000000000 ^ 100:=aQ (dC n g8) hn;have h3:=zbW h2;exact zTV neg _ _ (zhy _) (zhy _) (by omega) (by rw[zfs (by omega) hd];simp) n (by omega) d g8 hd (zbO _) (zbO _) H K hK
theorem zE3(neg:Bool)(n:Nat)(hn:n<1000000000 ^ 100){z:Int}(hz:(if neg=true then -(n:Int) else n)=z)(H:zaa)(K:Kt)(hK:K (.agg (zam z)) H):
  ACalls tP zgr [.bool neg,.sl (zan (lim n)) .none,.sl (zan [1]) .none] H K:=by
 have:=zE4 neg n 1 (by simpa using hn) (by omega) (by omega) hz H K hK;rwa [zd3,bv]at this
theorem zGB{a b:Nat}(ha:a<1000000000 ^ 30)(hb:b<1000000000 ^ 30):a*b<1000000000 ^ 100:=by have:=dG ha hb;rw[←dB]at this;exact bg this (a8 (by omega) (by omega))
theorem zCA(n:Nat)(hn:n<9223372036854775808)(H:zaa)(K:Kt)(hK:K (.agg (zam n)) H):ACalls tP zjP [.int .i64 n] H K:=by
 refine ACalls.out (zSx λhs=>?_);have w1:IntKind.u64.wrap (n:Int)=n:=zbL (by omega);have h0:¬((n:Int)<0):=by omega
 simp[zCz,h0,w1];refine zDh n (by omega) _ _ ?_;simp[zau,zaU,plain,AV.pd];refine ACalls.wk (args':=[.bool false,.sl (zan (lim n)) .none,.sl (zan [1]) .none]) (zE3 false n (by omega) (z:=n) (by simp) _ _ ?_) ⟨.rfl',.rfl',.atom (.sl _ _),trivial⟩;simp[zfC];exact zdM hs hK
theorem zj8:(1:Nat)<1000000000 ^ 30:=by decide
theorem zH2(a b:Int):(if (decide (a<0) != decide (b<0))=true then -((a.natAbs*b.natAbs:Nat):Int) else ((a.natAbs*b.natAbs:Nat):Int))=a*b:=by
 rw[←Int.natAbs_mul];by_cases ha:a<0 <;> by_cases hb:b<0 <;> simp[ha,hb]
 ·have:=Int.mul_pos_of_neg_of_neg ha hb;omega
 ·have:=Int.mul_nonpos_of_nonpos_of_nonneg (Int.le_of_lt ha) (by omega:0≤b);omega
 ·have:=Int.mul_nonpos_of_nonneg_of_nonpos (by omega:0≤a) (Int.le_of_lt hb);omega
 ·have:=Int.mul_nonneg (by omega:0≤a) (by omega:0≤b);omega
theorem Sm.neg{z:Int}(h:Sm z):Sm (-z):=by unfold Sm at h ⊢;rwa [Int.natAbs_neg]
theorem zC5(L:List Nat)(hL:L.length≤1000)(H:zaa)(K:Kt)(hK:K (.bool true) H):ACalls tP zjT [.sl (zan L) .none,.sl (zan L) .none] H K:=by
 refine ACalls.out (zTQ λhs=>?_);simp[zC3];refine zTO (Inv:=λq t13 H'=>∃i:Nat,i≤L.length∧L.length-i=q∧t13=.int .i64 i∧H'=H) L.length ?_ ?_
 ·intro _;exact⟨0,by omega,rfl,rfl,rfl⟩
 ·rintro q t13 H' ⟨i,hi,rfl,rfl,rfl⟩ eA d8 eC Kb ee;by_cases d7:i<L.length
  ·simp[zui,d7,wi i (by omega)];exact ee _ _ ⟨L.length-(i+1),by omega,Back.here (by simp) hs (by simp[znB,ux,AV.sc,AV.scA,AV.scB,AV.scV]) ⟨_,rfl,i+1,by omega,rfl,rfl,rfl⟩⟩
  ·simp[zui,d7];exact Out.bool (J:=[]) (by simp) (aa _) hs hK
theorem ztf(z:Int)(hz:Sm z)(H:zaa)(K:Kt)(hK:K (.bool true) H):ACalls tP zhL [.agg (zam z),.agg (zam z)] H K:=by refine ACalls.out (zQs λhs=>?_);have:=hz.len;simp[zBG,zam,ae];refine zC5 _ (by omega) _ _ ?_;simp[ae];refine zC5 _ (by simp) _ _ ?_;exact Out.bool rfl (aa _) hs hK
theorem zcP{n:Nat}(h:n<1000000000 ^ 30):Sm (n:Int):=by unfold Sm;rw[Int.natAbs_natCast];exact h
@[simp] theorem yab(z:Int):List.take 3 (zam z)=zam z:=rfl
@[simp] theorem yaa(z:Int):List.drop 3 (zam z)=[]:=rfl
@[simp] theorem zgy(z:Int):(∀x∈zam z,x.known=true)=True:=by simp[zam,AV.known]
structure AtOk (dU:List Dat) (i:IT) (t v:VT):Prop where
 tn:t.nodes≤1000
 tv:za3 dU 0 t=true
 rd:0≤rdV dU i t
 hv:zaV dU v t=true
 vn:v.nodes≤1000
 inn:i.nodes≤900
theorem AtOk.le{dU:List Dat}{i:IT}{t v:VT}(h8:∀D∈dU,D.cons.length≤8)(h:AtOk dU i t v):atV dU i t v≤1000 ^ 6:=by have h1:=zvN (N:=1000) (by omega) i t v h.vn h.rd;have h2:=zgA (h8:=h8) i t;exact ar h1 (a8 (by omega) (by omega))
def zrC:List AV:=[.bool false,.snil,.snil]
def rz(l:List Nat):List AV:=(l.map λ(z:Nat)=>zam (z:Int)).flatten
def zz(m:Nat):List AV:=(List.replicate m zrC).flatten
@[simp] theorem yaf(l:List Nat):(rz l).length=l.length*3:=by
 induction l with
 |nil=>rfl
 |cons x l ih=>simp only[rz,aD,List.flatten_cons,az,zHp,List.length_cons]at ih ⊢;omega
@[simp] theorem yaF(m:Nat):(zz m).length=m*3:=by
 induction m with
 |zero=>rfl
 |succ m ih=>simp only[zz,List.replicate_succ,List.flatten_cons,az]at ih ⊢;rw[ih];simp[zrC];omega
theorem zxI{dU:List Dat}{k n:Int}{ks:List VT}{c:Int}{l:List VT}(hk:zbw dU)(hf:zbr dU (.mk k n ks) c=some l):
  ∃ bs,(zdQ dU n.toNat).getD c.toNat []=bs∧l.length=bs.length∧l.length≤8∧zbb dU (.mk k n ks) c=some (pick l bs)∧(∀ x∈l,x.nodes≤200)∧k=5 ∧
   (∀H K,K (.sl (zbV bs) .none) H→ACalls tP zfx [.sl (dU.map Dat.cs) .none,.int .i64 n,.int .i64 c] H K) ∧
   (∀H K,K (.sl (zbV bs) .none) H→ACalls tP zgp [.sl (dU.map Dat.cs) .none,.int .i64 n,.int .i64 c] H K) ∧
   (∀j,bs.getD j false=true→l.getD j tz=.mk 5 n ks)∧0≤c∧∃(hn:n.toNat<dU.length) (hc:c.toNat<(dU[n.toNat]).cons.length),l.length=((dU[n.toNat]).cons[c.toNat]).args.length:=by
 obtain⟨k5,n0,c0,hn,hc,hv,rfl,gq⟩:=zhn hf;obtain⟨f1,f2,f3⟩:=zfq hk;have hd:=ah hn;have fg:=ah hc;obtain⟨g1,g2⟩:=f2 _ hd _ fg;have g3:=f3 _ hd;have h8:=((hk.2 _ hd).2.2 _ fg).2.1;refine⟨zcv n.toNat dU[n.toNat] (dU[n.toNat]).cons[c.toNat],by simp[zdQ,hn,hc,List.getD_eq_getElem?_getD],by simp[zcv],by simpa using h8,?_,gq,k5,λH K hK=>?_,λH K hK=>?_,λj hj=>?_,c0,hn,hc,by simp⟩
 ·simp[zbb,hf,zdQ,hn,hc,List.getD_eq_getElem?_getD,VT.num]
 ·have:=zsQ dU n.toNat c.toNat hn hc f1 g3 (by omega) (λx hx=>by have:=g2 x hx;omega) H K (by simpa[zbV,zcv,Function.comp_def]using hK);rwa [bn n0,bn c0]at this
 ·have:=zBM dU n.toNat c.toNat hn hc f1 g3 (by omega) (λx hx=>by have:=g2 x hx;omega) H K hK;rwa [bn n0,bn c0]at this
 ·have eN:j<((dU[n.toNat]).cons[c.toNat]).args.length:=by refine cj λeH=>?_;rw[List.getD_eq_getElem?_getD,List.getElem?_eq_none (by simpa[zcv]using eH)]at hj;simp at hj
  simp only[List.getD_eq_getElem?_getD,zcv,List.getElem?_map,List.getElem?_eq_getElem eN,Option.map_some,Option.getD_some]at hj ⊢;rw[zHZ hj hv,bn n0]
theorem zJt{dU:List Dat}{t:VT}(ht:za3 dU 0 t=true):za7 dU 0 t=true:=by rw[za3,ai]at ht;exact ht.2
theorem zqO:∀ l:List IT,l=(l.map λx=>[x]).flatten
 |[]=>rfl
 |x::l=>by rw[aD,List.flatten_cons,←zqO l];rfl
theorem zHs{dU:List Dat}(h8:∀ D∈dU,D.cons.length≤8){t:VT}{ks:List IT}(h:0≤rdE dU ks t 0){j:Nat}(hj:j<ks.length){c:Int}{eks:List IT}(he:ks[j]=.mk c eks):
  ∃ps,zbb dU t c=some ps∧ps.length=eks.length∧0≤rdA dU eks ps 0∧rdA dU eks ps 0≤6:=by
 rw[zqO ks]at h;have h1:=(zkn h8 t (ks.map λx=>[x]) 0 (by omega) (by omega) h).1 [ks[j]] (aC.2 ⟨ks[j],ah hj,rfl⟩);rw[he,zex]at h1;split at h1
 ·omega
 ·split at h1
  ·omega
  ·rename_i ps hp;split at h1
   ·rename_i hl;split at h1
    ·omega
    ·rename_i hc;exact⟨ps,hp,hl,by omega,by omega⟩
   ·omega
theorem zck{l:List IT}{i:Nat}(h:i<l.length):l[i].nodes≤IT.nodesL l:=by have:=IT.kid_lt (n:=0) h;simp only[IT.nodes]at this;omega
theorem zyP(f:IT→Nat)(h:IT→IT)(c:Nat):∀ l:List (IT × Nat),zaM f (l.map λw=>(h w.1,c*w.2))=c*zaM f (l.map λw=>(h w.1,w.2))
 |[]=>by simp
 |w::l=>by rw[aD,aD,zc3,zc3,zyP f h c l,ch,cd]
theorem zi1{s:List (IT×Nat)}{i:IT}{c:Nat}:∀p∈zda s i c,(∃q∈s,q.1=p.1∧q.2≤p.2)∨(0<c∧p.1=i∧c≤p.2):=by
 intro p hp;unfold zda at hp;split at hp
 ·exact .inl ⟨p,hp,rfl,aa _⟩
 ·rename_i hc;rcases zEB p hp with (h | h) | ⟨q,hq,h⟩
  ·exact .inl ⟨p,h,rfl,aa _⟩
  ·exact .inr ⟨by omega,by rw[h],by rw[h];exact aa _⟩
  ·exact .inl ⟨q,hq,by rw[h],by rw[h];simp⟩
theorem zeO:∀ (l s:List (IT × Nat)),(∀ q∈s,0<q.2)→∀ p∈zbU s l,0<p.2∧((∃ q∈s,q.1=p.1)∨∃ q∈l,0<q.2∧q.1=p.1)
 |[],s,hs,p,hp=>⟨hs p hp,.inl ⟨p,hp,rfl⟩⟩
 |x::l,s,hs,p,hp=>by
  have hp:p∈zbU (zda s x.1 x.2) l:=hp;have h1:∀q∈zda s x.1 x.2,0<q.2:=λq hq=>by
   rcases zi1 q hq with ⟨r,hr,_,h⟩|⟨h,_,h2⟩
   ·have:=hs r hr;omega
   ·omega
  obtain⟨h2,h3⟩:=zeO l _ h1 p hp;refine⟨h2,?_⟩;rcases h3 with ⟨q,hq,he⟩|⟨q,hq,h4,he⟩
  ·rcases zi1 q hq with ⟨r,hr,h5,_⟩ | ⟨h5,h6,_⟩
   ·exact .inl ⟨r,hr,by rw[h5,he]⟩
   ·exact .inr ⟨x,by simp,h5,by rw[←he,h6]⟩
  ·exact .inr ⟨q,by simp[hq],h4,he⟩
theorem zpi{s:List (IT×Nat)}{p:IT×Nat}(h:p∈s):p.2≤zaM (λ_=>1) s:=by
 induction s with
 |nil=>simp at h
 |cons q s ih=>
  rw[zc3];rcases aS.1 h with rfl|h
  ·omega
  ·have:=ih h;omega
theorem zwQ{s:List (IT×Nat)}(h:∀p∈s,0<p.2):s.length≤zaM (λ_=>1) s:=by
 induction s with
 |nil=>simp
 |cons q s ih=>have h1:=ih λp hp=>h p (by simp[hp]);have h2:=h q (by simp);rw[zc3,List.length_cons];omega
theorem zI3(f:IT→Nat)(l:List (IT×Nat))(k:Nat):zaM f (l.take k)≤zaM f l:=by have h:=zkt f (l.take k) (l.drop k);rw[aT]at h;omega
theorem ze3{dU:List Dat}(x:IT)(t:VT):∀ (a:List IT) (ts:List VT) (s:Int),a.length=ts.length→0≤s→0≤rdA dU a ts s→rdA dU (a++[x]) (ts++[t]) s=if rdV dU x t<0∨rdA dU a ts s+rdV dU x t>6 then -1 else rdA dU a ts s+rdV dU x t
 |[],[],s,_,hs,_=>by
  have e:rdA dU [] [] s=s:=by simp only[rdA]
  rw[e,List.nil_append,List.nil_append];simp only[rdA]
 |[],_::_,_,h,_,_=>by simp at h
 |_::_,[],_,h,_,_=>by simp at h
 |v::a,t'::ts,s,h,hs,hr=>by
  simp only[rdA]at hr;by_cases hc:rdV dU v t'<0∨s+rdV dU v t'>6
  ·rw[aA hc]at hr;omega
  ·rw[ap hc]at hr;have:=ze3 x t a ts (s+rdV dU v t') (by simpa using h) (by omega) hr;simp only[List.cons_append,rdA,ap hc];exact this
theorem zcu{dU:List Dat}:∀ (a:List IT) (ts:List VT) (s:Int) (k:Nat),a.length=ts.length→0≤s→0≤rdA dU a ts s→0≤rdA dU (a.take k) (ts.take k) s∧rdA dU (a.take k) (ts.take k) s≤rdA dU a ts s
 |a,ts,s,0,_,hs,hr=>by have:=zkk a ts s hs hr;simp only[List.take_zero,rdA];omega
 |[],[],s,k+1,_,hs,hr=>by simp only[List.take_nil,rdA];omega
 |[],_::_,_,_+1,h,_,_=>by simp at h
 |_::_,[],_,_+1,h,_,_=>by simp at h
 |v::a,t::ts,s,k+1,h,hs,hr=>by
  simp only[rdA]at hr;by_cases hc:rdV dU v t<0∨s+rdV dU v t>6
  ·rw[aA hc]at hr;omega
  ·rw[ap hc]at hr;have:=zcu a ts (s+rdV dU v t) k (by simpa using h) (by omega) hr;simp only[List.take_succ_cons,rdA,ap hc];exact this
theorem zdP{dU:List Dat}(h8:∀D∈dU,D.cons.length≤8)(t:VT)(a:IT)(l:List IT)(h:0≤rdE dU (a::l) t 0):0≤rdE dU [a] t 0∧0≤rdE dU l t 0∧rdE dU (a::l) t 0=rdE dU [a] t 0+rdE dU l t 0:=by
 have e:[[a],l].flatten=a::l:=by simp
 rw[←e]at h;obtain⟨h1,h2⟩:=zkn h8 _ _ 0 (by omega) (by omega) h;rw[e]at h2;refine⟨h1 [a] (by simp),h1 l (by simp),?_⟩;rw[h2];simp
theorem zqy{dU:List Dat}(h8:∀D∈dU,D.cons.length≤8)(t:VT)(a:IT)(l:List IT)(h1:0≤rdE dU [a] t 0)(h2:0≤rdE dU l t 0)(h3:rdE dU [a] t 0+rdE dU l t 0≤6):rdE dU (a::l) t 0=rdE dU [a] t 0+rdE dU l t 0:=by have e:a::l=[a]++l:=rfl;rw[e,zqx h8 _ _ _ _ (by omega) (by omega),ap (by omega),zkl l t _ h1 (by omega),zfi h2 h3]
theorem zHt{dU:List Dat}{c:Int}{ks:List IT}{t:VT}{ps:List VT}(h0:0≤c)(h8:c<8)(hp:zbb dU t c=some ps)(hl:ps.length=ks.length)(hr:0≤rdA dU ks ps 0)(h6:1+rdA dU ks ps 0≤6):rdE dU [.mk c ks] t 0=1+rdA dU ks ps 0:=by rw[zex,ap (by omega),hp];simp only;rw[aA hl,ap (by omega)];simp only[rdE];omega
theorem zdy{dU:List Dat}{c:Int}{ks:List IT}{t:VT}(h:0≤rdE dU [.mk c ks] t 0):0≤c∧c<8∧∃ps,zbb dU t c=some ps∧ps.length=ks.length∧0≤rdA dU ks ps 0∧rdE dU [.mk c ks] t 0=1+rdA dU ks ps 0:=by
 rw[zex]at h ⊢;split at h
 ·omega
 ·rename_i hc;cases hp:zbb dU t c with
  |none=>rw[hp]at h;simp at h
  |some ps=>
   rw[hp]at h;simp only at h;by_cases hl:ps.length=ks.length
   ·rw[aA hl]at h;by_cases hx:rdA dU ks ps 0<0∨0+1+rdA dU ks ps 0>6
    ·rw[aA hx]at h;omega
    ·refine⟨by omega,by omega,ps,rfl,hl,by omega,?_⟩;rw[ap hc];simp only;rw[aA hl,ap hx];simp only[rdE];omega
   ·rw[ap hl]at h;omega
theorem p3{a b:Int}(h0:0≤a)(h:a≤b):3 ^ a.toNat≤3 ^ b.toNat:=a8 (by omega) (by omega)
theorem zqo{a b:Int}(h0:0≤a)(h:0≤b):3 ^ (a+b).toNat=3 ^ a.toNat*3 ^ b.toNat:=by rw[show (a+b).toNat=a.toNat+b.toNat by omega,dB]
def zoi(dU:List Dat)(f:Nat):Prop:=∀ (t:VT) (i j:IT),i.nodes+j.nodes≤f→0≤rdV dU i t→0≤rdV dU j t→rdV dU i t+rdV dU j t≤6 →
 (∀p∈zbE dU f t i j,0<p.2∧0≤rdV dU p.1 t∧rdV dU p.1 t≤rdV dU i t+rdV dU j t∧rdV dU i t≤rdV dU p.1 t∧rdV dU j t≤rdV dU p.1 t∧p.1.nodes≤i.nodes+j.nodes)∧zaM (λ_=>1) (zbE dU f t i j)≤3 ^ (rdV dU i t+rdV dU j t).toNat
def ziT(dU:List Dat)(f:Nat):Prop:=∀ (ts:List VT) (l m:List IT),IT.nodesL l+IT.nodesL m+1≤f→l.length=ts.length→m.length=ts.length→0≤rdA dU l ts 0→0≤rdA dU m ts 0→rdA dU l ts 0+rdA dU m ts 0≤6 →
 (∀ r∈zct dU f ts l m,0<r.2∧r.1.length=ts.length∧0≤rdA dU r.1 ts 0∧rdA dU r.1 ts 0≤rdA dU l ts 0+rdA dU m ts 0∧rdA dU l ts 0≤rdA dU r.1 ts 0∧rdA dU m ts 0≤rdA dU r.1 ts 0∧IT.nodesL r.1≤IT.nodesL l+IT.nodesL m) ∧
  zbz (λ_=>1) (zct dU f ts l m)≤3 ^ (rdA dU l ts 0+rdA dU m ts 0).toNat
def ziU(dU:List Dat)(f:Nat):Prop:=∀ (t:VT) (l m:List IT),IT.nodesL l+IT.nodesL m+1≤f→0≤rdE dU l t 0→0≤rdE dU m t 0→rdE dU l t 0+rdE dU m t 0≤6 →
 (∀ p∈zbg dU f t l m,0<p.2∧zaI p.1=0∧0≤rdE dU (zaF p.1) t 0∧rdE dU (zaF p.1) t 0≤rdE dU l t 0+rdE dU m t 0∧rdE dU l t 0≤rdE dU (zaF p.1) t 0∧rdE dU m t 0≤rdE dU (zaF p.1) t 0∧IT.nodesL (zaF p.1)≤IT.nodesL l+IT.nodesL m) ∧
  zaM (λ_=>1) (zbg dU f t l m)≤3 ^ (rdE dU l t 0+rdE dU m t 0).toNat
theorem zHG(out:List (List IT×Nat))(ws:List (IT×Nat)):zbz (λ_=>1) (zdA out ws)=zbz (λ_=>1) out*zaM (λ_=>1) ws:=zHH _ (λ_=>1) (λ_=>1) ws out (λr _ w _=>by simp)
theorem zFz{dU:List Dat}{f:Nat}(hP:zoi dU f):ziT dU (f+1):=by
 intro ts l m hf hl hm hA hB h6;rw[zjj];have key:∀ k,k≤ts.length→(∀ r∈zcn dU f ts l m k,0<r.2∧0≤rdA dU r.1 (ts.take k) 0∧rdA dU r.1 (ts.take k) 0≤rdA dU (l.take k) (ts.take k) 0+rdA dU (m.take k) (ts.take k) 0∧rdA dU (l.take k) (ts.take k) 0≤rdA dU r.1 (ts.take k) 0∧rdA dU (m.take k) (ts.take k) 0≤rdA dU r.1 (ts.take k) 0 ∧
   IT.nodesL r.1≤IT.nodesL (l.take k)+IT.nodesL (m.take k))∧zbz (λ_=>1) (zcn dU f ts l m k)≤3 ^ (rdA dU (l.take k) (ts.take k) 0+rdA dU (m.take k) (ts.take k) 0).toNat:=by
  intro k;induction k with
  |zero=>intro _;refine⟨λr hr=>?_,by simp[zqA,rdA]⟩;simp[zqA]at hr;subst hr;simp[rdA,IT.nodesL]
  |succ k ih=>
   intro hk;obtain⟨ih1,ih2⟩:=ih (by omega);have h1:k<ts.length:=by omega
   have h3:k<l.length:=by omega
   have h4:k<m.length:=by omega
   have eg:zbE dU f (ts.getD k tz) (l.getD k d0) (m.getD k d0)=zbE dU f ts[k] l[k] m[k]:=by simp[List.getD_eq_getElem?_getD,h1,h3,h4]
   have a1:=zcu l ts 0 k hl (by omega) hA;have a2:=zcu l ts 0 (k+1) hl (by omega) hA;have b1:=zcu m ts 0 k hm (by omega) hB;have b2:=zcu m ts 0 (k+1) hm (by omega) hB;have ea:ts.take (k+1)=ts.take k++[ts[k]]:=af h1;have el:l.take (k+1)=l.take k++[l[k]]:=af h3;have em:m.take (k+1)=m.take k++[m[k]]:=af h4;have sl:=ze3 (dU:=dU) l[k] ts[k] (l.take k) (ts.take k) 0 (by simp;omega) (by omega) a1.1;have sm:=ze3 (dU:=dU) m[k] ts[k] (m.take k) (ts.take k) 0 (by simp;omega) (by omega) b1.1;rw[←el,←ea]at sl;rw[←em,←ea]at sm;by_cases cl:rdV dU l[k] ts[k]<0∨rdA dU (l.take k) (ts.take k) 0+rdV dU l[k] ts[k]>6
   ·rw[aA cl]at sl;omega
   ·rw[ap cl]at sl;by_cases cm:rdV dU m[k] ts[k]<0∨rdA dU (m.take k) (ts.take k) 0+rdV dU m[k] ts[k]>6
    ·rw[aA cm]at sm;omega
    ·rw[ap cm]at sm;have n1:=zck h3;have n2:=zck h4;obtain⟨gZ,kK⟩:=hP ts[k] l[k] m[k] (by omega) (by omega) (by omega) (by omega);have nl:=IT.nodesL_take h3;have nm:=IT.nodesL_take h4;rw[zie,eg];constructor
     ·intro r hr;obtain⟨q,hq,w,hw,rfl⟩:=zyd hr;obtain⟨q1,q2,q3,q4,q5,q6⟩:=ih1 q hq;obtain⟨w1,w2,w3,w4,w5,w6⟩:=gZ w hw;have lP:=zx8 k q hq;have sr:=ze3 (dU:=dU) w.1 ts[k] q.1 (ts.take k) 0 (by simp;omega) (by omega) q2;rw[←ea,ap (by omega)]at sr;simp only;rw[sr,IT.nodesL_app];simp only[IT.nodesL];exact⟨da q1 w1,by omega,by omega,by omega,by omega,by omega⟩
     ·rw[zHG,sl,sm];rw[show rdA dU (l.take k) (ts.take k) 0+rdV dU l[k] ts[k]+(rdA dU (m.take k) (ts.take k) 0+rdV dU m[k] ts[k])=(rdA dU (l.take k) (ts.take k) 0+rdA dU (m.take k) (ts.take k) 0)+(rdV dU l[k] ts[k]+rdV dU m[k] ts[k]) by omega,zqo (by omega) (by omega)];exact bx ih2 kK
 obtain⟨k1,k2⟩:=key ts.length (aa _);rw[aq,am (l:=l) (by omega),am (l:=m) (by omega)]at k1 k2;exact⟨λr hr=>by
  obtain⟨q1,q2,q3,q4,q5,q6⟩:=k1 r hr;exact⟨q1,zx8 _ r hr,q2,q3,q4,q5,q6⟩,k2⟩
theorem zFA{dU:List Dat}(h8:∀D∈dU,D.cons.length≤8){f:Nat}(hQ:ziT dU f)(hR:ziU dU f):ziU dU (f+1):=by
 intro t l m hf hl hm h6;cases l with
 |nil=>
  have e0:rdE dU [] t 0=0:=by simp only[rdE]
  have hN:=p3 (a:=0) (b:=rdE dU m t 0) (by omega) (by omega);refine⟨λp hp=>?_,by simp[zbg,e0];simpa using hN⟩;simp[zbg]at hp;subst hp;simp only[zaI,zaF,e0,IT.nodesL];exact⟨by omega,trivial,hm,by omega,by omega,by omega,by omega⟩
 |cons a l=>
  cases m with
  |nil=>
   have e0:rdE dU [] t 0=0:=by simp only[rdE]
   have hN:=p3 (a:=0) (b:=rdE dU (a::l) t 0) (by omega) (by omega);refine⟨λp hp=>?_,by simp[zbg,e0];simpa using hN⟩;simp[zbg]at hp;subst hp;simp only[zaI,zaF,e0,IT.nodesL];exact⟨by omega,trivial,hl,by omega,by omega,by omega,by omega⟩
  |cons b m=>
   have hna:=a.nodes_pos;have kD:=b.nodes_pos;obtain⟨la,ll,el⟩:=zdP h8 t a l hl;obtain⟨mb,mm,em⟩:=zdP h8 t b m hm;simp only[IT.nodesL]at hf;obtain⟨ca,pa⟩:=a;obtain⟨cb,pb⟩:=b;obtain⟨ca0,ca8,psa,ix,k0,mV,ea⟩:=zdy la;obtain⟨cb0,cb8,psb,kP,fV,mW,eb⟩:=zdy mb;obtain⟨A1,A2⟩:=hR t l (.mk cb pb::m) (by simp only[IT.nodesL];omega) ll hm (by omega);obtain⟨B1,B2⟩:=hR t (.mk ca pa::l) m (by simp only[IT.nodesL];omega) hl mm (by omega);obtain⟨C1,C2⟩:=hR t l m (by omega) ll mm (by omega);obtain⟨s,hs⟩:∃s,s=rdE dU (.mk ca pa::l) t 0+rdE dU (.mk cb pb::m) t 0:=⟨_,rfl⟩;have n1:zaM (λ_=>1) (zbU [] ((zbg dU f t l (.mk cb pb::m)).map λw=>(bef (.mk ca pa) w.1,w.2)))≤3 ^ (s-1).toNat:=by rw[zcy,zdD,aG,zkv _ (λ_=>1) (bef (.mk ca pa)) 1 (λx=>by simp),cB];exact ar A2 (p3 (by omega) (by omega))
   have n2:zaM (λ_=>1) ((zbg dU f t (.mk ca pa::l) m).map λw=>(bef (.mk cb pb) w.1,w.2))≤3 ^ (s-1).toNat:=by rw[zkv _ (λ_=>1) (bef (.mk cb pb)) 1 (λx=>by simp),cB];exact ar B2 (p3 (by omega) (by omega))
   have h3s:3 ^ s.toNat=3*3 ^ (s-1).toNat:=by rw[show s.toNat=(s-1).toNat+1 by omega,Nat.pow_succ,ba]
   -- the terms of the three dX
   have t1:∀w∈zbg dU f t l (.mk cb pb::m),0<w.2→zaI (bef (.mk ca pa) w.1)=0∧0≤rdE dU (zaF (bef (.mk ca pa) w.1)) t 0∧rdE dU (zaF (bef (.mk ca pa) w.1)) t 0≤s∧rdE dU (.mk ca pa::l) t 0≤rdE dU (zaF (bef (.mk ca pa) w.1)) t 0∧rdE dU (.mk cb pb::m) t 0≤rdE dU (zaF (bef (.mk ca pa) w.1)) t 0∧IT.nodesL (zaF (bef (.mk ca pa) w.1))≤IT.nodesL (.mk ca pa::l)+IT.nodesL (.mk cb pb::m):=by intro w hw _;obtain⟨_,_,w2,w3,w4,w5,w6⟩:=A1 w hw;have ej:=zqy h8 t (.mk ca pa) (zaF w.1) la w2 (by omega);have eb:zaF (bef (.mk ca pa) w.1)=.mk ca pa::zaF w.1:=rfl;rw[eb];simp only[IT.nodesL]at w6 ⊢;exact⟨rfl,by omega,by omega,by omega,by omega,by omega⟩
   have t2:∀w∈zbg dU f t (.mk ca pa::l) m,0<w.2→zaI (bef (.mk cb pb) w.1)=0∧0≤rdE dU (zaF (bef (.mk cb pb) w.1)) t 0∧rdE dU (zaF (bef (.mk cb pb) w.1)) t 0≤s∧rdE dU (.mk ca pa::l) t 0≤rdE dU (zaF (bef (.mk cb pb) w.1)) t 0∧rdE dU (.mk cb pb::m) t 0≤rdE dU (zaF (bef (.mk cb pb) w.1)) t 0∧IT.nodesL (zaF (bef (.mk cb pb) w.1))≤IT.nodesL (.mk ca pa::l)+IT.nodesL (.mk cb pb::m):=by intro w hw _;obtain⟨_,_,w2,w3,w4,w5,w6⟩:=B1 w hw;have ej:=zqy h8 t (.mk cb pb) (zaF w.1) mb w2 (by omega);have eb:zaF (bef (.mk cb pb) w.1)=.mk cb pb::zaF w.1:=rfl;rw[eb];simp only[IT.nodesL]at w6 ⊢;exact⟨rfl,by omega,by omega,by omega,by omega,by omega⟩
   rw[←hs];have emp:∀q∈([]:List (IT×Nat)),0<q.2:=λq hq=>by simp at hq
   have g1:=zeO ((zbg dU f t l (.mk cb pb::m)).map λw=>(bef (.mk ca pa) w.1,w.2)) [] emp;have g2:=zeO ((zbg dU f t (.mk ca pa::l) m).map λw=>(bef (.mk cb pb) w.1,w.2)) (zbU [] ((zbg dU f t l (.mk cb pb::m)).map λw=>(bef (.mk ca pa) w.1,w.2))) (λq hq=>(g1 q hq).1);have two:∀p∈zbU (zbU [] ((zbg dU f t l (.mk cb pb::m)).map λw=>(bef (.mk ca pa) w.1,w.2))) ((zbg dU f t (.mk ca pa::l) m).map λw=>(bef (.mk cb pb) w.1,w.2)),0<p.2∧zaI p.1=0∧0≤rdE dU (zaF p.1) t 0∧rdE dU (zaF p.1) t 0≤s∧rdE dU (.mk ca pa::l) t 0≤rdE dU (zaF p.1) t 0∧rdE dU (.mk cb pb::m) t 0≤rdE dU (zaF p.1) t 0∧IT.nodesL (zaF p.1)≤IT.nodesL (.mk ca pa::l)+IT.nodesL (.mk cb pb::m):=by
    intro p hp;obtain⟨h0,h|h⟩:=g2 p hp
    ·obtain⟨q,hq,he⟩:=h;obtain⟨_,h | h⟩:=g1 q hq
     ·obtain⟨x,hx,_⟩:=h;simp at hx
     ·obtain⟨x,hx,iJ,iO⟩:=h;obtain⟨w,hw,rfl⟩:=aC.1 hx;simp only at iO iJ;rw[←he,←iO];exact⟨h0,t1 w hw iJ⟩
    ·obtain⟨x,hx,iJ,iO⟩:=h;obtain⟨w,hw,rfl⟩:=aC.1 hx;simp only at iO iJ;rw[←iO];exact⟨h0,t2 w hw iJ⟩
   rw[zbg];by_cases eS:zaI (.mk ca pa)=zaI (.mk cb pb)
   ·rw[ap (by simpa using eS)];simp only[zaI]at eS;subst eS;rw[ix]at kP;cases kP;obtain⟨Q1,Q2⟩:=hQ psa pa pb (by simp only[IT.nodes]at hf;omega) k0.symm fV.symm mV mW (by omega);have t3:∀ r∈zct dU f psa pa pb,∀ w∈zbg dU f t l m,zaI (bef (.mk ca r.1) w.1)=0∧0≤rdE dU (zaF (bef (.mk ca r.1) w.1)) t 0∧rdE dU (zaF (bef (.mk ca r.1) w.1)) t 0≤s∧rdE dU (.mk ca pa::l) t 0≤rdE dU (zaF (bef (.mk ca r.1) w.1)) t 0∧rdE dU (.mk ca pb::m) t 0≤rdE dU (zaF (bef (.mk ca r.1) w.1)) t 0∧IT.nodesL (zaF (bef (.mk ca r.1) w.1))≤IT.nodesL (.mk ca pa::l)+IT.nodesL (.mk ca pb::m):=by intro r hr w hw;obtain⟨_,r1,r2,r3,r4,r5,r6⟩:=Q1 r hr;obtain⟨_,_,w2,w3,w4,w5,w6⟩:=C1 w hw;have eo:=zHt ca0 ca8 ix r1.symm r2 (by omega);have ej:=zqy h8 t (.mk ca r.1) (zaF w.1) (by omega) w2 (by omega);have eb:zaF (bef (.mk ca r.1) w.1)=.mk ca r.1::zaF w.1:=rfl;rw[eb];simp only[IT.nodesL,IT.nodes]at w6 ⊢;exact⟨rfl,by omega,by omega,by omega,by omega,by omega⟩
    simp only[zaI,zaF,ix,Option.getD_some];have g3:=zeO ((zct dU f psa pa pb).flatMap λr=>(zbg dU f t l m).map λw=>(bef (.mk ca r.1) w.1,r.2*w.2)) _ (λq hq=>(g2 q hq).1);constructor
    ·intro p hp;obtain⟨h0,h | h⟩:=g3 p hp
     ·obtain⟨q,hq,he⟩:=h;have:=(two q hq).2;rw[he]at this;exact⟨h0,this⟩
     ·obtain⟨x,hx,_,iO⟩:=h;obtain⟨r,hr,hx⟩:=bI.1 hx;obtain⟨w,hw,rfl⟩:=aC.1 hx;simp only at iO;rw[←iO];exact⟨h0,t3 r hr w hw⟩
    ·rw[zcy,zcy];have n3:zaM (λ_=>1) ((zct dU f psa pa pb).flatMap λr=>(zbg dU f t l m).map λw=>(bef (.mk ca r.1) w.1,r.2*w.2))=zbz (λ_=>1) (zct dU f psa pa pb)*zaM (λ_=>1) (zbg dU f t l m):=by
      generalize zct dU f psa pa pb=R;induction R with
      |nil=>simp
      |cons r R ih=>rw[bf,zkt,ih,zyP,zkv _ (λ_=>1) (bef (.mk ca r.1)) 1 (λx=>by simp),zin,aZ];simp
     have n4:zbz (λ_=>1) (zct dU f psa pa pb)*zaM (λ_=>1) (zbg dU f t l m)≤3 ^ (s-1).toNat:=by refine ar (bx Q2 C2) ?_;rw[←zqo (by omega) (by omega)];exact p3 (by omega) (by omega)
     rw[n3,h3s];omega
   ·rw[aA (by simpa using eS)];refine⟨two,?_⟩;rw[zcy,h3s];omega
theorem zvH:∀a,a<7→∀b,b<7→a+b≤6→zqT (a+b+1) (λk=>pcf a b k)≤3 ^ (a+b):=by decide +kernel
theorem zHg:∀a,a<7→∀b,b<7→∀k,k<13→0<pcf a b k→a≤k∧b≤k:=by
 intro a _ b _ k _ h;unfold pcf at h;split at h
 ·omega
 ·omega
theorem zFy{dU:List Dat}(h8:∀D∈dU,D.cons.length≤8){f:Nat}(hQ:ziT dU f)(hR:ziU dU f):zoi dU (f+1):=by
 intro t i j hf hi hj h6;obtain⟨k,tn,tks⟩:=t;obtain⟨n,l⟩:=i;obtain⟨n',m⟩:=j;simp only[IT.nodes]at hf;have emp:∀q∈([]:List (IT×Nat)),0<q.2:=λq hq=>by simp at hq
 rw[zbE];by_cases k6:k=6
 ·subst k6;have ev:∀(n:Int) (l:List IT),0≤rdV dU (.mk n l) (.mk 6 tn tks)→n=0∧l.length=tks.length∧rdV dU (.mk n l) (.mk 6 tn tks)=rdA dU l tks 0:=λn l h=>by
   rw[rdV]at h ⊢;simp only[VT.kind,VT.kids,aV]at h ⊢;by_cases hn:n=0
   ·by_cases hl:tks.length=l.length
    ·simp[hn,hl]
    ·simp[hn,hl]at h
   ·simp[hn]at h
  have ev2:∀l:List IT,l.length=tks.length→rdV dU (.mk 0 l) (.mk 6 tn tks)=rdA dU l tks 0:=λl h=>by rw[rdV];simp[VT.kind,VT.kids,h]
  obtain⟨i1,i2,i3⟩:=ev n l hi;obtain⟨j1,j2,j3⟩:=ev n' m hj;rw[i3]at hi h6 ⊢;rw[j3]at hj h6 ⊢;obtain⟨Q1,Q2⟩:=hQ tks l m (by omega) i2 j2 hi hj h6;simp only[VT.kind,VT.kids,aV,zaF,IT.nodes];constructor
  ·intro p hp;obtain⟨h0,h | h⟩:=zeO _ _ emp p hp
   ·obtain⟨x,hx,_⟩:=h;simp at hx
   ·obtain⟨x,hx,_,iO⟩:=h;obtain⟨r,hr,rfl⟩:=aC.1 hx;simp only at iO;obtain⟨_,r1,r2,r3,r4,r5,r6⟩:=Q1 r hr;rw[←iO,ev2 r.1 r1];simp only[IT.nodes];exact⟨h0,r2,r3,r4,r5,by omega⟩
  ·rw[zcy,zdD,aG,zku];exact Q2
 ·by_cases k7:k=7
  ·subst k7;have ev:∀(n:Int) (l:List IT),0≤rdV dU (.mk n l) (.mk 7 tn tks)→0≤n∧n≤6∧rdV dU (.mk n l) (.mk 7 tn tks)=n:=λn l h=>by
    rw[rdV]at h ⊢;simp only[VT.kind,k6,aH,aV]at h ⊢;by_cases hc:0≤n∧n≤6∧l.length=0
    ·rw[aA hc];exact⟨hc.1,hc.2.1,rfl⟩
    ·rw[ap hc]at h;omega
   obtain⟨i1,i2,i3⟩:=ev n l hi;obtain⟨j1,j2,j3⟩:=ev n' m hj;rw[i3]at hi h6 ⊢;rw[j3]at hj h6 ⊢;obtain⟨a,rfl⟩:∃a:Nat,n=a:=⟨n.toNat,by omega⟩;obtain⟨b,rfl⟩:∃b:Nat,n'=b:=⟨n'.toNat,by omega⟩;simp only[VT.kind,k6,aH,aV,zaI,IT.nodes,Int.toNat_natCast];constructor
   ·intro p hp;obtain⟨h0,h | h⟩:=zeO _ _ emp p hp
    ·obtain⟨x,hx,_⟩:=h;simp at hx
    ·obtain⟨x,hx,iJ,iO⟩:=h;obtain⟨q,hq,rfl⟩:=aC.1 hx;rw[bh]at hq;simp only at iJ iO;obtain⟨q1,q2⟩:=zHg a (by omega) b (by omega) q (by omega) iJ;have e:rdV dU (.mk (q:Int) []) (.mk 7 tn tks)=q:=by rw[rdV];simp only[VT.kind,k6,aH,aV];rw[aA ⟨by omega,by omega,rfl⟩]
     rw[←iO,e];simp only[IT.nodes,IT.nodesL];exact⟨h0,by omega,by omega,by omega,by omega,by omega⟩
   ·rw[zcy,zdD,aG,za4,zku];have:=zvH a (by omega) b (by omega) (by omega);unfold zqT at this;rw[show ((a:Int)+(b:Int)).toNat=a+b by omega];simpa using this
  ·by_cases k5:k=5
   ·subst k5;have ev:∀(n:Int) (l:List IT),0≤rdV dU (.mk n l) (.mk 5 tn tks)→n=0∧l.length≤6∧rdV dU (.mk n l) (.mk 5 tn tks)=rdE dU l (.mk 5 tn tks) 0:=λn l h=>by
     rw[zey]at h ⊢;by_cases hc:n=0∧l.length≤6
     ·rw[aA hc];exact⟨hc.1,hc.2,rfl⟩
     ·rw[ap hc]at h;omega
    obtain⟨i1,i2,i3⟩:=ev n l hi;obtain⟨j1,j2,j3⟩:=ev n' m hj;rw[i3]at hi h6 ⊢;rw[j3]at hj h6 ⊢;obtain⟨R1,R2⟩:=hR (.mk 5 tn tks) l m (by omega) hi hj h6;simp only[VT.kind,k6,k7,aH,aV,zaF,IT.nodes];constructor
    ·intro p hp;obtain⟨h0,h | h⟩:=zeO _ _ emp p hp
     ·obtain⟨x,hx,_⟩:=h;simp at hx
     ·obtain⟨x,hx,iJ,iO⟩:=h;obtain⟨_,r1,r2,r3,r4,r5,r6⟩:=R1 x hx;rw[←iO];obtain⟨⟨xn,xk⟩,xc⟩:=x;simp only[zaI,zaF]at r1 r2 r3 r4 r5 r6 ⊢;subst r1;have iT:=zkm (dU:=dU) xk (.mk 5 tn tks) 0 (by omega);have e:rdV dU (.mk 0 xk) (.mk 5 tn tks)=rdE dU xk (.mk 5 tn tks) 0:=by rw[zey,aA ⟨rfl,by omega⟩]
      rw[e];simp only[IT.nodes];exact⟨h0,r2,r3,r4,r5,by omega⟩
    ·rw[zcy,zdD,aG];exact R2
   ·have ev:∀(n:Int) (l:List IT),0≤rdV dU (.mk n l) (.mk k tn tks)→rdV dU (.mk n l) (.mk k tn tks)=0:=λn l h=>by
     rw[rdV]at h ⊢;simp only[VT.kind,k6,k7,k5,aH]at h ⊢;by_cases hc:n=0∧l.length=0
     ·rw[aA hc]
     ·rw[ap hc]at h;omega
    rw[ev n l hi,ev n' m hj];simp only[VT.kind,k6,k7,k5,aH];refine⟨λp hp=>?_,by simp⟩;simp at hp;subst hp;have e:rdV dU (.mk 0 []) (.mk k tn tks)=0:=by rw[rdV];simp[VT.kind,k6,k7,k5]
    rw[e];simp only[IT.nodes,IT.nodesL];exact⟨by omega,by omega,by omega,by omega,by omega,by omega⟩
theorem zep{dU:List Dat}(h8:∀ D∈dU,D.cons.length≤8):∀ f,zoi dU f∧ziT dU f∧ziU dU f
 |0=>⟨λt i j h=>by have:=i.nodes_pos;omega,λts l m h=>by omega,λt l m h=>by omega⟩
 |f+1=>by obtain⟨h1,h2,h3⟩:=zep h8 f;exact⟨zFy h8 h2 h3,zFz h1,zFA h8 h2 h3⟩
end Go.Proofs.YtdmamdnkcefmmaaGreatDoor
