import Derived.Test.YtdmamdnkcefmmaaGreatDoorKN4
import Derived.Test.YtdmamdnkcefmmaaGreatDoorKGR7
set_option linter.unusedSimpArgs false
set_option linter.unusedVariables false
set_option maxRecDepth 8000
namespace Go.Proofs.YtdmamdnkcefmmaaGreatDoor
def us(l:List Nat):List AV:=l.map λ(n:Nat)=>AV.int .u32 (n:Int)
@[simp] theorem yeR(l:List Nat):(us l).length=l.length:=by simp[us]
theorem zlw(l:List Nat):(zal l).flatten=us l:=by induction l with
 |nil=>rfl
 |cons x l ih=>simp only[zal,us,aF,List.flatten_cons]at ih ⊢;rw[ih];rfl
theorem ziS:∀ (l:List Nat),plain (us l)=some (us l)
 |[]=>rfl
 |x::l=>by simp only[us,aF,plain,AV.pd];rw[show plain (List.map (λn:Nat=>AV.int .u32 (n:Int)) l)=some (us l) from ziS l];rfl
theorem zLU(l:List Nat)(i:Nat)(h:i<l.length):(us l)[i]?=some (.int .u32 ((l[i]:Nat):Int)):=by simp[us,h]
theorem zsR(l:List Nat)(i x:Nat)(h:i<l.length):(us l).take i++[AV.int .u32 (x:Int)]++(us l).drop (i+1)=us (l.set i x):=by simp only[us,←bC,←List.map_drop];rw[bh,az h];simp
theorem ziT(n:Nat):List.replicate n (AV.int .u32 0)=us (List.replicate n 0):=by simp[us]
theorem zp0{k:AV→Prop}(l:List Nat)(i:Nat)(h:i<l.length):zbA false 1 i (us l) k=k (.int .u32 ((l[i]:Nat):Int)):=by simp[zbA,zLU l i h]
theorem zqs(L:List Nat)(hL:∀ x∈L,x<1000000000)(hl:L.length≤100000){id:Nat}{H:zaa}{K:Kt}(en:H[id]?=some (.cells (us L)))(hK:K (.sl (zal (lim (zao L))) .none) (H.set id .dead)):
  ACalls tP zfg [.ms id 0 L.length L.length] H K:=by
 refine ACalls.frz id 0 L.length L.length 1 (us L) (zal L) en (by simp) ?_ (by simp) (zen L) (ac _) (args':=[.sl (zal L) .none]) ⟨.one .ms,trivial⟩ ?_
 ·rw[bq,ai (by simp),zlw,ziS]
 ·refine zte L (by omega) _ _ ?_;rw[zf1 L hL];exact hK
theorem zXF(A B:List Nat)(lA:∀ x∈A,x<1000000000)(lB:∀ x∈B,x<1000000000)(ha:A.length≤1000)(hb:B.length≤1000)(H:zaa)(K:Kt)(hK:K (.sl (zal (lim (zao A*zao B))) .none) H):
  ACalls tP zdu [.sl (zal A) .none,.sl (zal B) .none] H K:=by
 refine ACalls.out (zXD λhs=>?_);have hw:IntKind.i64.wrap (IntKind.i64.wrap ((A.length:Int)+B.length)+1)=((A.length+B.length+1:Nat):Int):=by rw[zay (n:=(A.length:Int)+B.length) (by omega) (by omega),zay (by omega) (by omega)];omega
 simp[zFK,hw,zbp];have hN:((A.length:Int)+B.length+1).toNat=A.length+B.length+1:=by omega
 rw[hN,ziT];refine⟨⟨by omega,by omega,by omega⟩,?_⟩;have hsc:∀O:List Nat,HSc (H++[.cells (us O)]):=λO=>hs.append (by simp[AB.sc,us,AV.scA,AV.scB]);have kB:=zdW B lB;refine zXA (Inv:=λq t6 H'=>∃(i:Nat) (O:List Nat),i≤A.length∧A.length-i=q∧t6=.int .i64 i∧O.length=A.length+B.length+1∧(∀x∈O,x<1000000000)∧zao O=zao (A.take i)*zao B∧H'=H++[.cells (us O)]) A.length ?_ ?_
 ·intro _;exact⟨0,_,by omega,rfl,rfl,by simp,by simp,by rw[zze];simp[zao],rfl⟩
 ·rintro q t6 H' ⟨i,O,hi,rfl,rfl,iP,hO,hv,rfl⟩ eE ek eK Kb eq;by_cases ei:i<A.length
  ·have jV:=lA A[i] (af ei);simp[zwi,ei];refine zXB (Inv:=λq t7 t8 H'=>∃ (k c:Nat) (R:List Nat),k≤B.length+1∧B.length+1-k=q∧t8=.int .i64 k∧t7=.int .u64 c∧R.length=A.length+B.length+1∧(∀ x∈R,x<1000000000)∧c<1000000000∧(B.length<k→c=0) ∧
    zao R+c*1000000000 ^ (i+k)=zao O+A[i]*zao (B.take k)*1000000000 ^ i∧H'=H++[.cells (us R)]) (B.length+1) ?_ ?_
   ·intro _;exact⟨0,0,O,by omega,rfl,rfl,rfl,iP,hO,by omega,by omega,by simp[zao],rfl⟩
   ·rintro q t7 t8 H' ⟨k,c,R,hk,rfl,rfl,rfl,jk,hR,hc,mc,hr,rfl⟩ jX gw mE Kb2 fF;have jx:IntKind.i64.wrap ((i:Int)+k)=((i+k:Nat):Int):=by rw[zay (by omega) (by omega)];omega
    have ep:∀ s:Nat,s<1000000000*1000000000→(gx:i+k<R.length)→k≤B.length→s=c+R[i+k]+A[i]*(if h:k<B.length then B[k] else 0) →
      zoW (.sl (zal A) .none) (.sl (zal B) .none) (.ms H.length 0 (A.length+B.length+1) (A.length+B.length+1)) (.int .i64 i) (.int .u64 s) (.int .i64 k) (H++[.cells (us R)]) (Out H.length K) Kb Kb2:=by
     intro s e5 gx hkB fy;obtain⟨x,c',fJ,fc,fx,e1,e2⟩:=zgG s (by omega);have eW:i+k<A.length+B.length+1:=by omega
     have eQ:=zsR R (i+k) x gx;simp only[zoW];simp[jx,e1,e2,fx,wi k (by omega),eW];have eT:((i:Int)+k).toNat=i+k:=by omega
     rw[eT];refine⟨⟨by omega,by omega⟩,by omega,?_⟩;have hset':List.take (i+k) (us R)++AV.int .u32 (x:Int)::List.drop (i+k+1) (us R)=us (R.set (i+k) x):=by rw[←eQ];simp
     rw[hset'];have fz:zao (B.take (k+1))=zao (B.take k)+(if h:k<B.length then B[k] else 0)*1000000000 ^ k:=by
      by_cases h:k<B.length
      ·rw[d6 h,zdt B k h]
      ·rw[dT h,ai (by omega),ai (by omega)];simp
     have oV:=zj0 R (i+k) x gx;have gT:zao (R.set (i+k) x)+c'*1000000000 ^ (i+(k+1))=zao O+A[i]*zao (B.take (k+1))*1000000000 ^ i:=by rw[fz,show i+(k+1)=i+k+1 by omega,Nat.pow_succ];rw[Nat.pow_add]at hr oV ⊢;rw[fy]at fc;clear eQ hset' e1 e2 fx fy fz eq fF eE jX eK mE kB hK hs;generalize (if h:k<B.length then B[k] else 0)=b at *;generalize zao (R.set (i+k) x)=vS at *;generalize R[i+k]=r at *;generalize A[i]=a at *;generalize zao (List.take k B)=T at *;generalize 1000000000 ^ i=P at *;generalize 1000000000 ^ k=Q at *;generalize zao R=vR at *;generalize zao O=vO at *;grind
     have fP:c'<1000000000:=by refine bW λh=>?_;have:=bj 1000000000 h;omega
     refine fF _ _ ⟨B.length+1-(k+1),by omega,Back.here (by simp) (hsc _) (by simp[zoV,ux,AV.sc,AV.scA,AV.scB,AV.scV]) ⟨_,_,rfl,k+1,c',R.set (i+k) x,by omega,rfl,by simp,rfl,by simp[jk],?_,fP,?_,gT,rfl⟩⟩
     ·intro y hy;rcases bM hy with hy | rfl
      ·exact hR y hy
      ·exact fJ
     ·intro iX;obtain rfl:k=B.length:=by omega
      have lr:zao O+A[i]*zao (B.take (B.length+1))*1000000000 ^ i=zao (A.take (i+1))*zao B:=by rw[List.take_of_length_le (by omega),zdt A i ei,hv];grind
      rw[lr]at gT;have i7:=zdW (A.take (i+1)) (λy hy=>lA y (bu hy));rw[aT,bc (by omega)]at i7;have hp:=db i7 kB;rw[←dj]at hp;refine cY λf7=>?_;have h3:1*1000000000 ^ (i+(B.length+1))≤c'*1000000000 ^ (i+(B.length+1)):=ar _ f7;rw[show i+1+B.length=i+(B.length+1) by omega]at hp;omega
    by_cases jy:k<B.length
    ·have gx:i+k<R.length:=by omega
     have iF:=lB B[k] (af jy);have iU:=hR R[i+k] (af gx);have eT:((i:Int)+k).toNat=i+k:=by omega
     have w1:IntKind.u64.wrap ((R[i+k]:Nat):Int)=R[i+k]:=zbw (by omega);have w2:IntKind.u64.wrap ((A[i]:Nat):Int)=A[i]:=zbw (by omega);have w3:IntKind.u64.wrap ((B[k]:Nat):Int)=B[k]:=zbw (by omega);have kp:A[i]*B[k]≤999999999*999999999:=bf (by omega) (by omega);obtain⟨m,hm⟩:∃m,m=A[i]*B[k]:=⟨_,rfl⟩;have w4:IntKind.u64.wrap (((A[i]:Nat):Int)*(B[k]:Nat))=(m:Int):=by rw[hm,←Int.natCast_mul];exact zbw (by omega)
     obtain⟨s1,e5⟩:∃s,s=c+R[i+k]:=⟨_,rfl⟩;have w5:IntKind.u64.wrap ((c:Int)+(R[i+k]:Nat))=(s1:Int):=by rw[e5,←Int.natCast_add];exact zbw (by omega)
     obtain⟨s2,fy⟩:∃s,s=s1+m:=⟨_,rfl⟩;have w6:IntKind.u64.wrap ((s1:Int)+(m:Int))=(s2:Int):=by rw[fy,←Int.natCast_add];exact zbw (by omega)
     have:=ep s2 (by omega) gx (by omega) (by rw[fy,e5,hm,d6 jy]);simp[zoT,jy,jx,eT,w2,w3,w4];refine⟨⟨by omega,by omega⟩,?_⟩;rw[zp0 R _ gx];simp[w1,w2,w3,w4,w5,w6,ei,jy];exact this
    ·by_cases h0:c=0
     ·subst h0;simp[zoT,jy,wi i (by omega)];refine eq _ _ ⟨A.length-(i+1),by omega,Back.here (by simp) (hsc _) (by simp[zoU,ux,AV.sc,AV.scA,AV.scB,AV.scV]) ⟨_,rfl,i+1,R,by omega,rfl,rfl,jk,hR,?_,rfl⟩⟩;rw[List.take_of_length_le (by omega)]at hr;rw[zdt A i ei];rw[hv]at hr;grind
     ·have l9:k=B.length:=by refine Nat.le_antisymm (dI λh=>h0 (mc h)) (by omega)
      have gx:i+k<R.length:=by omega
      have iU:=hR R[i+k] (af gx);have eT:((i:Int)+k).toNat=i+k:=by omega
      have w1:IntKind.u64.wrap ((R[i+k]:Nat):Int)=R[i+k]:=zbw (by omega);obtain⟨s1,e5⟩:∃s,s=c+R[i+k]:=⟨_,rfl⟩;have w5:IntKind.u64.wrap ((c:Int)+(R[i+k]:Nat))=(s1:Int):=by rw[e5,←Int.natCast_add];exact zbw (by omega)
      have:=ep s1 (by omega) gx (by omega) (by rw[e5,dT jy];omega);simp[zoT,jy,jx,eT,show 0<c by omega];refine⟨⟨by omega,by omega⟩,?_⟩;rw[zp0 R _ gx];simp[w1,w5];exact this
  ·obtain rfl:i=A.length:=by omega
   rw[ak]at hv;simp[zwi];rw[←iP];refine zqs O hO (by omega) (by simp) ?_;rw[hv];simp;exact Out.one hs (.atom (.sl _ _)) rfl rfl hK
theorem zzE(L:List Nat)(hL:L.length≤1000000)(H:zaa)(K:Kt)(hK:K (.sl (zal (zbP L)) .none) H):
  ACalls tP zfP [.sl (zal L) .none] H K:=by
 refine ACalls.out (zQn λhs=>?_);simp[zC5];refine zQl (Inv:=λq t3 H'=>∃n:Nat,n≤L.length∧n=q∧t3=.int .i64 n∧H'=H∧zbP L=zbP (L.take n)) L.length ?_ ?_
 ·intro _;exact⟨L.length,by omega,rfl,by simp,rfl,by simp⟩
 ·rintro q t3 H' ⟨n,hn,rfl,rfl,rfl,eL⟩ eE ek eK Kb eq;have fC:∀ (l:List Nat),l=zbP L→Out (List.length H') K (AV.sl (zal l) .none) H':=λl hl=>Out.one0 hs (.atom (.sl _ _)) rfl rfl (by rw[hl];exact hK);by_cases h0:n=0
  ·subst h0;simp[zm2];exact⟨zen L,fC [] (by simpa[zbP]using eL.symm)⟩
  ·have hw:IntKind.i64.wrap ((n:Int)-1)=((n-1:Nat):Int):=by rw[zay (by omega) (by omega)];omega
   have ei:n-1<L.length:=by omega
   by_cases hz:L[n-1]=0
   ·simp[zm2,show 0<n by omega,hw,ei,hz];exact eq _ _ ⟨n-1,by omega,Back.here (by simp) hs (by simp[zm3,AV.sc,AV.scA,AV.scB,AV.scV]) ⟨_,rfl,n-1,by omega,rfl,rfl,rfl,by rw[eL,zA5 (by omega) hn hz]⟩⟩
   ·have oU:(((L[n-1]:Nat):Int) == 0)=false:=by simp;omega
    simp[zm2,show 0<n by omega,hw,ei,oU];refine⟨⟨hn,zen L⟩,?_⟩;rw[zBG];exact fC _ (by rw[eL,zA3 (by omega) hn hz])
theorem zqE(n:Nat)(hn:n<18446744073709551616)(H:zaa)(K:Kt)(hK:K (.sl (zal (lim n)) .none) H):
  ACalls tP zgO [.int .u64 n] H K:=by
 refine ACalls.out (zP0 λhs=>?_);unfold zCZ zmT;refine ALoop.own 3 zbh 1 rfl ?_;show zmT (.int .u64 n) (.sl [] (.own H.length)) (H++[.perm zbh 1 0]) (Out H.length K);refine zPY (Inv:=λq t0 t3 H'=>∃ (m:Nat) (A:List Nat),m=q∧t0=.int .u64 m∧t3=.sl (zal A) (.own H.length)∧lim n=A++lim m∧m<18446744073709551616 ∧
  H'=H++[.perm zbh 1 A.length]) n ?_ ?_
 ·intro _;exact⟨n,[],rfl,rfl,rfl,by simp,hn,rfl⟩
 ·rintro q t0 t3 H' ⟨m,A,rfl,rfl,rfl,hA,hm,rfl⟩ eE ek eK Kb eq;by_cases h0:m=0
  ·subst h0;simp[zt3];exact Out.one hs (.atom (.sl _ _)) rfl rfl (by simpa[hA]using hK)
  ·have hlA:A.length+1≤1000:=by have h1:=congrArg List.length hA;have h2:=zbT (n:=n) (k:=3) (by omega);rw[zcq h0]at h1;simp at h1;omega
   obtain⟨x,c,fJ,fc,fx,e1,e2⟩:=zgG m hm;simp only[zt3];simp[show 0<m by omega,e1,e2,fx,zaw,zaR,plain,AV.pd,zax,zaM,zaK];refine⟨⟨by omega,by omega⟩,?_⟩;rw[sN];refine eq _ _ ⟨c,by omega,Back.here (by simp) (hs.append (by simp[AB.sc])) (by simp[zmS,ux,AV.sc,AV.scA,AV.scB,AV.scV]) ⟨_,_,rfl,c,A++[x],rfl,rfl,rfl,?_,by omega,by simp⟩⟩;rw[hA,zcq h0,show m % 1000000000=x by omega,show m / 1000000000=c by omega];simp
theorem ACalls.frzV1{P:Program}{H:zaa}{f:FuncId}{K:Kt}(id e size n:Nat)(cs:List AV)(es:List (List AV))(hH:H[id]?=some (.vec e size n cs))(hp:plain cs=some es.flatten)(ek:es.length=n)(eB:∀c∈es,c.length=size)(h:ACalls P f [.sl es .none] (H.set id .dead) K):ACalls P f [.ov id n] H K:=by
 intro B w G vs hR hv;obtain⟨G',hE,jA,hd⟩:=hR.frzV hH hp ek eB;refine(h B w G' vs jA ?_).mono λe w' ⟨v,r,H',G'',k1,k2,k3,k4,k5⟩=>⟨v,r,H',G'',k1,hE.trans k2,k3,k4,k5⟩;generalize vs.toList=l at *
 match l,hv with
 |[v],⟨h1,_⟩=>exact⟨hd v h1,trivial⟩
theorem zLQ(L:List Nat)(hL:∀ x∈L,x<1000000000)(hl:L.length≤100000){id:Nat}{H:zaa}{K:Kt}(en:H[id]?=some (.vec zbh 1 L.length (us L)))(hK:K (.sl (zal (lim (zao L))) .none) (H.set id .dead)):
  ACalls tP zfP [.ov id L.length] H K:=by
 refine ACalls.frzV1 id zbh 1 L.length (us L) (zal L) en (by rw[zlw,ziS]) (by simp) (zen L) ?_;refine zzE L (by omega) _ _ ?_;rw[zf1 L hL];exact hK
theorem zBt(L:List Nat)(hL:∀ x∈L,x<1000000000)(hl:L.length≤100000){id:Nat}{H:zaa}{K:Kt}(en:H[id]?=some (.cells (us L)))(hK:K (.sl (zal (lim (zao L))) .none) (H.set id .dead)):
  ACalls tP zfP [.ms id 0 L.length L.length] H K:=by
 refine ACalls.frz id 0 L.length L.length 1 (us L) (zal L) en (by simp) ?_ (by simp) (zen L) (ac _) (args':=[.sl (zal L) .none]) ⟨.one .ms,trivial⟩ ?_
 ·rw[bq,ai (by simp),zlw,ziS]
 ·refine zzE L (by omega) _ _ ?_;rw[zf1 L hL];exact hK
theorem zkT(L:List Nat)(m3:∀ x∈L,x<4294967296)(hL:L.length≤50000)(H:zaa)(K:Kt)(hK:K (.sl (zal (lim (zao L))) .none) H):
  ACalls tP zke [.sl (zal L) .none] H K:=by
 refine ACalls.out (zQh λhs=>?_);have hsc:∀A:List Nat,HSc (H++[.vec zbh 1 A.length (us A)]):=λA=>hs.append (by simp[AB.sc,us,AV.scA,AV.scB]);simp[zC3,wi L.length (by omega)];refine⟨⟨by omega,by omega,by omega⟩,?_⟩;have k9:∀A:List Nat,(∀x∈A,x<1000000000)→zao A=zao L→A.length≤100000→zm0 (.ov H.length A.length) (H++[.vec zbh 1 A.length (us A)]) (Out H.length K):=by intro A hA he hl;unfold zm0;refine zLQ A hA hl (by simp) ?_;rw[he];simp;exact Out.one hs (.atom (.sl _ _)) rfl rfl hK
 refine zQf (Inv:=λq t3 t4 t13 H'=>∃ (i c:Nat) (A:List Nat),i≤L.length∧L.length-i=q∧t13=.int .i64 i∧t4=.int .u64 c∧t3=.ov H.length A.length∧A.length=i∧(∀ x∈A,x<1000000000)∧c≤5 ∧
  zao A+1000000000 ^ i*c=zao (L.take i)∧H'=H++[.vec zbh 1 A.length (us A)]) L.length ?_ ?_
 ·intro _;exact⟨0,0,[],by omega,rfl,rfl,rfl,rfl,rfl,by simp,by omega,by simp[zao],rfl⟩
 ·rintro q t3 t4 t13 H' ⟨i,c,A,hi,rfl,rfl,rfl,rfl,i7,hA,hc,hv,rfl⟩ eE ek eK Kb eq;by_cases ei:i<L.length
  ·have hx:=m3 L[i] (af ei);have w1:IntKind.u64.wrap ((L[i]:Nat):Int)=L[i]:=zbw (by omega);obtain⟨s,e5⟩:∃ s,s=L[i]+c:=⟨_,rfl⟩;have w2:IntKind.u64.wrap (((L[i]:Nat):Int)+(c:Int))=(s:Int):=by rw[e5,←Int.natCast_add];exact zbw (by omega)
   obtain⟨x,c',fJ,fc,fx,e1,e2⟩:=zgG s (by omega);simp only[zmY];simp[ei,w1,w2,e1,e2,fx,zaw,zaR,plain,AV.pd,zax,zaM,zaK,wi i (by omega)];refine⟨⟨by omega,by omega⟩,?_⟩;have e3:us A++[AV.int .u32 (x:Int)]=us (A++[x]):=by simp[us]
   rw[e3];refine eq _ _ ⟨L.length-(i+1),by omega,Back.here (by simp) (by simpa using hsc (A++[x])) (by simp[zmZ,ux,AV.sc,AV.scA,AV.scB,AV.scV]) ⟨_,_,_,rfl,i+1,c',A++[x],by omega,rfl,rfl,rfl,by simp,by simp[i7],?_,by omega,?_,by simp⟩⟩
   ·intro y hy;rcases aX.1 hy with hy | hy
    ·exact hA y hy
    ·simp at hy;omega
   ·rw[zeJ,zdt L i ei,←hv,i7,Nat.pow_succ];grind
  ·obtain rfl:i=L.length:=by omega
   rw[ak]at hv;by_cases h0:c=0
   ·subst h0;simp[zmY];exact k9 A hA (by simpa using hv) (by omega)
   ·simp only[zmY];simp[show 0<c by omega,zcB (show c<4294967296 by omega),zaw,zaR,plain,AV.pd,zax,zaM,zaK];refine⟨⟨by omega,by omega⟩,?_⟩;have e3:us A++[AV.int .u32 (c:Int)]=us (A++[c]):=by simp[us]
    rw[e3];have:=k9 (A++[c]) (λy hy=>by
     rcases aX.1 hy with hy|hy
     ·exact hA y hy
     ·simp at hy;omega) (by rw[zeJ,i7];exact hv) (by simp;omega)
    simpa using this
theorem zBK(O:List Nat)(i x:Nat)(h:i<O.length):List.take i (us O)++AV.int .u32 (x:Int)::List.drop (i+1) (us O)=us (O.set i x):=by rw[←zsR O i x h];simp
theorem zAR{O:List Nat}(hO:∀x∈O,x<1000000000){i x:Nat}(hx:x<1000000000):∀y∈O.set i x,y<1000000000:=by
 intro y hy;rcases bM hy with hy|rfl
 ·exact hO y hy
 ·exact hx
theorem zI4{O:List Nat}{j:Nat}(h:zao O<1000000000 ^ j):O.getD j 0=0:=by
 by_cases hj:j<O.length
 ·have e:zao O=zao (O.take j)+1000000000 ^ j*(O[j]+1000000000*zao (O.drop (j+1))):=by
   conv=>lhs;rw[←aJ j O,zh0,ag hj,zao]
   rw[aT,bc (by omega)]
  rw[List.getD_eq_getElem?_getD,List.getElem?_eq_getElem hj,Option.getD_some];refine cY λhp=>?_;have h2:1000000000 ^ j*1≤1000000000 ^ j*(O[j]+1000000000*zao (O.drop (j+1))):=bj _ (by omega);omega
 ·simp[List.getD_eq_getElem?_getD,show O.length≤j by omega]
theorem zJh(A B:List Nat)(lA:∀ x∈A,x<1000000000)(lB:∀ x∈B,x<1000000000)(ha:A.length≤1000)(hb:B.length≤1000)(H:zaa)(K:Kt)(hK:K (.sl (zal (lim (zao A*zao B))) .none) H):
  ACalls tP zdZ [.sl (zal A) .none,.sl (zal B) .none] H K:=by
 refine ACalls.out (zNH λhs=>?_);by_cases md:A=[]
 ·subst md;simp[zl8,zao]at hK ⊢;exact Out.one0 hs (.atom .snil) rfl rfl (by simpa[zal]using hK)
 by_cases ou:B=[]
 ·subst ou;have qr:((A.length:Int) == 0)=false:=by have:A.length≠0:=λh=>md (aB h);generalize A.length=q at this;simp;omega
  simp[zl8,zao,qr,md]at hK ⊢;exact Out.one0 hs (.atom .snil) rfl rfl (by simpa[zal]using hK)
 have hAl0:A.length≠0:=λh=>md (aB h);have hBl0:B.length≠0:=λh=>ou (aB h);have qr:((A.length:Int) == 0)=false:=by generalize A.length=q at hAl0;simp;omega
 have hBb:((B.length:Int) == 0)=false:=by generalize B.length=q at hBl0;simp;omega
 have hw:IntKind.i64.wrap ((A.length:Int)+B.length)=((A.length+B.length:Nat):Int):=by rw[zay (by omega) (by omega)];omega
 simp[zl8,qr,hBb,md,ou,hw,zbp];have hN:((A.length:Int)+B.length).toNat=A.length+B.length:=by omega
 rw[hN,ziT];refine⟨⟨by omega,by omega,by omega⟩,?_⟩;have hsc:∀O:List Nat,HSc (H++[.cells (us O)]):=λO=>hs.append (by simp[AB.sc,us,AV.scA,AV.scB]);have kB:=zdW B lB;refine zNE (Inv:=λq t26 H'=>∃(i:Nat) (O:List Nat),i≤A.length∧A.length-i=q∧t26=.int .i64 i∧O.length=A.length+B.length∧(∀x∈O,x<1000000000)∧zao O=zao (A.take i)*zao B∧H'=H++[.cells (us O)]) A.length ?_ ?_
 ·intro _;exact⟨0,_,by omega,rfl,rfl,by simp,by simp,by rw[zze];simp[zao],rfl⟩
 ·rintro q t26 H' ⟨i,O,hi,rfl,rfl,iP,hO,hv,rfl⟩ eE ek eK Kb eq;by_cases ei:i<A.length
  ·have jV:=lA A[i] (af ei);have i7:=zdW (A.take i) (λy hy=>lA y (bu hy));rw[aT,bc (by omega)]at i7;have m4:O.getD (i+B.length) 0=0:=by refine zI4 ?_;rw[hv,dj];exact db i7 kB
   simp[ztp,ei];refine zNF (Inv:=λq t7 t31 H'=>∃ (k c:Nat) (R:List Nat),k≤B.length∧B.length-k=q∧t31=.int .i64 k∧t7=.int .u64 c∧R.length=A.length+B.length∧(∀ x∈R,x<1000000000)∧c<1000000000∧R.getD (i+B.length) 0=0 ∧
    zao R+c*1000000000 ^ (i+k)=zao O+A[i]*zao (B.take k)*1000000000 ^ i∧H'=H++[.cells (us R)]) B.length ?_ ?_
   ·intro _;exact⟨0,0,O,by omega,rfl,rfl,rfl,iP,hO,by omega,m4,by simp[zao],rfl⟩
   ·rintro q t7 t31 H' ⟨k,c,R,hk,rfl,rfl,rfl,jk,hR,hc,pC,hr,rfl⟩ jX gw mE Kb2 fF;by_cases jy:k<B.length
    ·have jx:IntKind.i64.wrap ((i:Int)+k)=((i+k:Nat):Int):=by rw[zay (by omega) (by omega)];omega
     have gx:i+k<R.length:=by omega
     have iF:=lB B[k] (af jy);have iU:=hR R[i+k] (af gx);have eT:((i:Int)+k).toNat=i+k:=by omega
     have w1:IntKind.u64.wrap ((R[i+k]:Nat):Int)=R[i+k]:=zbw (by omega);have w2:IntKind.u64.wrap ((A[i]:Nat):Int)=A[i]:=zbw (by omega);have w3:IntKind.u64.wrap ((B[k]:Nat):Int)=B[k]:=zbw (by omega);have kp:A[i]*B[k]≤999999999*999999999:=bf (by omega) (by omega);obtain⟨m,hm⟩:∃m,m=A[i]*B[k]:=⟨_,rfl⟩;have w4:IntKind.u64.wrap (((A[i]:Nat):Int)*(B[k]:Nat))=(m:Int):=by rw[hm,←Int.natCast_mul];exact zbw (by omega)
     obtain⟨s1,e5⟩:∃s,s=m+R[i+k]:=⟨_,rfl⟩;have w5:IntKind.u64.wrap ((m:Int)+(R[i+k]:Nat))=(s1:Int):=by rw[e5,←Int.natCast_add];exact zbw (by omega)
     obtain⟨s,fy⟩:∃s,s=s1+c:=⟨_,rfl⟩;have w6:IntKind.u64.wrap ((s1:Int)+(c:Int))=(s:Int):=by rw[fy,←Int.natCast_add];exact zbw (by omega)
     obtain⟨x,c',fJ,fc,fx,e1,e2⟩:=zgG s (by omega);have eV:Kb2 (ziY (.sl (zal A) .none) (.sl (zal B) .none) (.ms H.length 0 (A.length+B.length) (A.length+B.length)) (.int .i64 i) (.int .u64 c') (.int .i64 A.length) (.int .i64 i) (.int .i64 B.length) (.int .i64 ((k:Int)+1))) (H++[.cells (us (R.set (i+k) x))]):=by
      have oV:=zj0 R (i+k) x gx;have fz:=zdt B k jy;refine fF _ _ ⟨B.length-(k+1),by omega,Back.here (by simp) (hsc _) (by simp[ziY,ux,AV.sc,AV.scA,AV.scB,AV.scV]) ⟨_,_,rfl,k+1,c',R.set (i+k) x,by omega,rfl,by simp,rfl,by simp[jk],zAR hR fJ,?_,?_,?_,rfl⟩⟩
      ·refine bW λh=>?_;have:=bj 1000000000 h;omega
      ·rw[List.getD_eq_getElem?_getD,List.getElem?_set_ne (by omega),←List.getD_eq_getElem?_getD];exact pC
      ·rw[fz,show i+(k+1)=i+k+1 by omega,Nat.pow_succ];rw[Nat.pow_add]at hr oV ⊢;rw[fy,e5,hm]at fc;clear e1 e2 fx eq fF eE jX eK mE kB hK hs pC m4 w1 w2 w3 w4 w5 w6;generalize zao (R.set (i+k) x)=vS at *;generalize R[i+k]=r at *;generalize A[i]=a at *;generalize B[k]=b at *;generalize zao (List.take k B)=T at *;generalize 1000000000 ^ i=P at *;generalize 1000000000 ^ k=Q at *;generalize zao R=vR at *;generalize zao O=vO at *;grind
     simp only[ztq];simp[jy,ei,jx,eT,w1,w2,w3,w4];refine⟨⟨by omega,by omega⟩,?_⟩;rw[zp0 R _ gx];simp[w1,w5,w6,e1,e2,fx,jx,eT,wi k (by omega),zBK R (i+k) x gx];exact⟨⟨by omega,by omega⟩,by omega,eV⟩
    ·obtain rfl:k=B.length:=by omega
     have qs:IntKind.i64.wrap ((i:Int)+B.length)=((i+B.length:Nat):Int):=by rw[zay (by omega) (by omega)];omega
     have eT:((i:Int)+B.length).toNat=i+B.length:=by omega
     have gx:i+B.length<R.length:=by omega
     have oV:=zj0 R (i+B.length) c gx;rw[List.getD_eq_getElem?_getD,List.getElem?_eq_getElem gx,Option.getD_some]at pC;rw[pC]at oV;simp only[ztq];simp[qs,eT,zcB (show c<4294967296 by omega),wi i (by omega),zBK R (i+B.length) c gx];refine⟨⟨by omega,ei⟩,by omega,?_⟩;refine eq _ _ ⟨A.length-(i+1),by omega,Back.here (by simp) (hsc _) (by simp[zl9,ux,AV.sc,AV.scA,AV.scB,AV.scV]) ⟨_,rfl,i+1,R.set (i+B.length) c,by omega,rfl,rfl,by simp[jk],zAR hR hc,?_,rfl⟩⟩;rw[List.take_of_length_le (Nat.le_refl _)]at hr;rw[zdt A i ei];rw[hv]at hr;clear eq fF eE jX eK mE kB hK hs m4 hsc;grind
  ·obtain rfl:i=A.length:=by omega
   rw[ak]at hv;simp[ztp];rw[←iP];refine zBt O hO (by omega) (by simp) ?_;rw[hv];simp;exact Out.one hs (.atom (.sl _ _)) rfl rfl hK
theorem zlx(O:List Nat)(i x:Nat)(h:i<O.length):List.take i (us O)++AV.int .u32 (x:Int)::List.drop (i+1) (us O)=us (O.set i x):=by rw[←zsR O i x h];simp
theorem zss{O:List Nat}(hO:∀x∈O,x<1000000000){i x:Nat}(hx:x<1000000000):∀y∈O.set i x,y<1000000000:=by
 intro y hy;rcases bM hy with hy|rfl
 ·exact hO y hy
 ·exact hx
theorem zME(A B:List Nat)(lA:∀ x∈A,x<1000000000)(lB:∀ x∈B,x<1000000000)(ha:A.length≤1000)(hb:B.length≤A.length)(eP:zao B≤zao A)(H:zaa)(K:Kt)(hK:K (.sl (zal (lim (zao A-zao B))) .none) H):
  ACalls tP zh7 [.sl (zal A) .none,.sl (zal B) .none] H K:=by
 refine ACalls.out (zMC λhs=>?_);simp[zB4,zbp];rw[ziT];refine⟨⟨by omega,by omega⟩,?_⟩;have hsc:∀O:List Nat,HSc (H++[.cells (us O)]):=λO=>hs.append (by simp[AB.sc,us,AV.scA,AV.scB]);have tk:∀i,zao (B.take (i+1))=zao (B.take i)+(if h:i<B.length then B[i] else 0)*1000000000 ^ i:=by
  intro i;by_cases h:i<B.length
  ·rw[d6 h,zdt B i h]
  ·rw[dT h,ai (by omega),ai (by omega)];simp
 refine zMA (Inv:=λq t6 t7 H'=>∃ (i w:Nat) (O:List Nat),i≤A.length∧A.length-i=q∧t7=.int .i64 i∧t6=.int .u32 w∧w≤1∧O.length=A.length∧(∀ x∈O,x<1000000000) ∧
  zao (O.take i)+zao (B.take i)=zao (A.take i)+w*1000000000 ^ i∧H'=H++[.cells (us O)]) A.length ?_ ?_
 ·intro _;exact⟨0,0,_,by omega,rfl,rfl,rfl,by omega,by simp,by simp,by simp[zao],rfl⟩
 ·rintro q t6 t7 H' ⟨i,w,O,hi,rfl,rfl,rfl,hw,iP,hO,hv,rfl⟩ eE ek eK Kb eq;by_cases ei:i<A.length
  ·have jV:=lA A[i] (af ei);have qt:i<O.length:=by omega
   have ep:∀ s:Nat,s≤1000000000→s=w+(if h:i<B.length then B[i] else 0) →
     ziX (.sl (zal A) .none) (.sl (zal B) .none) (.ms H.length 0 A.length A.length) (.int .i64 i) (.int .u32 s) (H++[.cells (us O)]) (Out H.length K) Kb:=by
    intro s e5 fy;have oW:1000000000 ^ (i+1)=1000000000 ^ i*1000000000:=Nat.pow_succ ..;have fin:∀ (x w':Nat),x<1000000000→w'≤1→x+s=A[i]+w'*1000000000 →
      Kb (ziW (.sl (zal A) .none) (.sl (zal B) .none) (.ms H.length 0 A.length A.length) (.int .u32 w') (.int .i64 ((i:Int)+1))) (H++[.cells (us (O.set i x))]):=by
     intro x w' hx qf he;refine eq _ _ ⟨A.length-(i+1),by omega,Back.here (by simp) (hsc _) (by simp[ziW,ux,AV.sc,AV.scA,AV.scB,AV.scV]) ⟨_,_,rfl,i+1,w',O.set i x,by omega,rfl,by simp,rfl,qf,by simp[iP],zss hO hx,?_,rfl⟩⟩;rw[zdt (O.set i x) i (by simpa using qt),tk i,zdt A i ei,List.take_set_of_le (Nat.le_refl _),List.getElem_set_self,oW];generalize (if h:i<B.length then B[i] else 0)=b at *;grind
    by_cases gK:s≤A[i]
    ·have w1:IntKind.u32.wrap (((A[i]:Nat):Int)-(s:Int))=((A[i]-s:Nat):Int):=by rw[←Int.natCast_sub gK];exact zcB (by omega)
     obtain⟨x,hx⟩:∃x,x=A[i]-s:=⟨_,rfl⟩;rw[←hx]at w1;have:=fin x 0 (by omega) (by omega) (by omega);simp only[ziX,zlO,zs7];simp[ei,gK,w1,wi i (by omega),zlx O i x qt,iP];exact⟨by omega,by simpa using this⟩
    ·have w1:IntKind.u32.wrap (((A[i]:Nat):Int)+1000000000)=((A[i]+1000000000:Nat):Int):=by rw[show ((A[i]:Nat):Int)+1000000000=((A[i]+1000000000:Nat):Int) by omega];exact zcB (by omega)
     obtain⟨x,hx⟩:∃x,x=A[i]+1000000000-s:=⟨_,rfl⟩;have w2:IntKind.u32.wrap (((A[i]:Nat):Int)+1000000000-(s:Int))=(x:Int):=by rw[show ((A[i]:Nat):Int)+1000000000-(s:Int)=(x:Int) by omega];exact zcB (by omega)
     have:=fin x 1 (by omega) (by omega) (by omega);simp only[ziX,zlO,zs7];simp[ei,gK,w1,w2,wi i (by omega),zlx O i x qt,iP];exact⟨by omega,by simpa using this⟩
   by_cases hB:i<B.length
   ·have iF:=lB B[i] (af hB);obtain⟨s,e5⟩:∃ s,s=w+B[i]:=⟨_,rfl⟩;have w1:IntKind.u32.wrap ((w:Int)+(B[i]:Nat))=(s:Int):=by rw[e5,←Int.natCast_add];exact zcB (by omega)
    have:=ep s (by omega) (by rw[e5,d6 hB]);simp[zlN,ei,hB,w1];exact this
   ·have:=ep w (by omega) (by rw[dT hB];rfl);simp[zlN,ei,hB];exact this
  ·obtain rfl:i=A.length:=by omega
   rw[ak,ai (by omega),ai (by omega)]at hv;have hOlt:=zdW O hO;rw[iP]at hOlt;have hw0:w=0:=by
    refine cY λh=>?_;have:w=1:=by omega
    subst this;omega
   subst hw0;simp[zlN];rw[←iP];refine zqs O hO (by omega) (by simp) ?_;rw[show zao O=zao A-zao B by omega];simp;exact Out.one hs (.atom (.sl _ _)) rfl rfl hK
theorem zPV(A:List Nat)(lA:∀ x∈A,x<1000000000)(ha:A.length≤1000)(d:Nat)(gA:0<d)(hd:d<4294967296)(hdB:d≤1000000000)(H:zaa)(K:Kt)(hK:K (.tup [.sl (zal (lim (zao A / d))) .none,.int .u64 ((zao A % d:Nat):Int)]) H):
  ACalls tP zro [.sl (zal A) .none,.int .u64 d] H K:=by
 refine ACalls.out (zPT λhs=>?_);have eL:IntKind.i64.wrap ((A.length:Int)-1)=(A.length:Int)-1:=zay (by omega) (by omega);simp[zCX,zbp,eL];rw[ziT];refine⟨⟨by omega,by omega⟩,?_⟩;have hsc:∀ O:List Nat,HSc (H++[.cells (us O)]):=λO=>hs.append (by simp[AB.sc,us,AV.scA,AV.scB]);refine zPR (Inv:=λq t7 t8 H'=>∃ (i r:Nat) (O:List Nat),i≤A.length∧i=q∧t8=.int .i64 ((i:Int)-1)∧t7=.int .u64 r∧r<d∧O.length=A.length∧(∀ x∈O,x<1000000000) ∧
  zao (A.drop i)=d*zao (O.drop i)+r∧H'=H++[.cells (us O)]) A.length ?_ ?_
 ·intro _;exact⟨A.length,0,_,by omega,rfl,rfl,rfl,by omega,by simp,by simp,by simp[zao],rfl⟩
 ·rintro q t7 t8 H' ⟨i,r,O,hi,rfl,rfl,rfl,hr,iP,hO,hv,rfl⟩ eE ek eK Kb eq;by_cases h0:i=0
  ·subst h0;simp[zt1];rw[bq,bq]at hv;rw[←iP];refine zqs O hO (by omega) (by simp) ?_;have e1:zao A / d=zao O:=by rw[hv,dq gA,bP hr];simp
   have e2:zao A % d=r:=by rw[hv,dp,bH hr]
   rw[e1,e2]at hK;simp;exact⟨⟨rfl,rfl⟩,Out.tup (bs:=[.sl (zal (lim (zao O))) .none,.int .u64 (r:Int)]) hs hK ⟨slV,zaV rfl rfl,trivial⟩⟩
  ·obtain⟨j,rfl⟩:∃ j,i=j+1:=⟨i-1,by omega⟩;have iO:j<A.length:=by omega
   have oX:j<O.length:=by omega
   have jV:=lA A[j] (af iO);have ej:((j+1:Nat):Int)-1=(j:Int):=by omega
   have ep:IntKind.i64.wrap ((j:Int)-1)=(j:Int)-1:=zay (by omega) (by omega);have hrB:r*1000000000≤1000000000*1000000000:=ar _ (by omega);obtain⟨m,hm⟩:∃m,m=r*1000000000:=⟨_,rfl⟩;have w1:IntKind.u64.wrap ((r:Int)*1000000000)=(m:Int):=by rw[show (r:Int)*1000000000=(m:Int) by omega];exact zbw (by omega)
   have w2:IntKind.u64.wrap ((A[j]:Nat):Int)=A[j]:=zbw (by omega);obtain⟨s,e5⟩:∃s,s=m+A[j]:=⟨_,rfl⟩;have w3:IntKind.u64.wrap ((m:Int)+(A[j]:Nat))=(s:Int):=by rw[e5,←Int.natCast_add];exact zbw (by omega)
   obtain⟨x,c,fJ,fc,e1,e2⟩:=zqx s d gA (by omega);have qu:c<1000000000:=by
    refine bW λh=>?_;have h1:d*1000000000≤d*c:=bj _ h;have h2:r*1000000000+1000000000≤d*1000000000:=by rw[←bI];exact ar _ hr
    omega
   have w4:IntKind.u32.wrap (c:Int)=c:=zcB (by omega);rw[ej];simp only[zt1];simp[iO,w1,w2,w3,e1,e2,w4,ep,zlx O j c oX,iP];refine⟨by omega,eq _ _ ⟨j,by omega,Back.here (by simp) (hsc _) (by simp[zmQ,ux,AV.sc,AV.scA,AV.scB,AV.scV]) ⟨_,_,rfl,j,x,O.set j c,by omega,rfl,rfl,rfl,fJ,by simp[iP],zss hO qu,?_,rfl⟩⟩⟩;rw[zh2 A j iO,zh2 (O.set j c) j (by simpa using oX),List.getElem_set_self,List.drop_set_of_lt (by omega),hv];rw[e5,hm]at fc;generalize zao (O.drop (j+1))=Z at *;grind
theorem ztc(a b:Nat)(ha:(lim a).length≤1000)(fL:0<b)(hb:b<1000000000)(H:zaa)(K:Kt)(hK:K (.tup [.sl (zal (lim (a / b))) .none,.sl (zal (lim (a % b))) .none]) H):
  ACalls tP zh8 [.sl (zal (lim a)) .none,.sl (zal (lim b)) .none] H K:=by
 refine ACalls.out (zMW λhs=>?_);have gf:lim b=[b]:=zfd (by omega) hb;simp only[zCa];refine zB3 a b ha (by rw[gf];simp) _ _ ?_;have kX:(zcp a b<0)↔a<b:=by
  unfold zcp;split
  ·simp;assumption
  ·split <;> simp <;> omega
 by_cases ei:a<b
 ·simp[kX,ei];refine zte (lim a) (by omega) _ _ ?_;rw[zf1 _ (zb4 a),zbq];rw[bP ei,bH ei,zza]at hK;refine⟨⟨rfl,rfl⟩,?_⟩;exact Out.tup0 (bs:=[.sl (zal []) .none,.sl (zal (lim a)) .none]) hs hK ⟨zdj,slV,trivial⟩
 ·have w1:IntKind.u64.wrap (b:Int)=b:=zbw (by omega);have hm:a % b<b:=ck _ fL;simp[kX,ei,gf,w1];refine zPV (lim a) (zb4 a) ha b fL (by omega) (by omega) _ _ ?_;rw[zbq];simp;refine zF0 (a % b) (by omega) _ _ ?_;refine⟨⟨rfl,rfl⟩,?_⟩;exact Out.tup0 (bs:=[.sl (zal (lim (a / b))) .none,.sl (zal (lim (a % b))) .none]) hs hK ⟨slV,slV,trivial⟩
theorem zMR(a b:Nat)(ha:(lim a).length≤1000)(hb:b<1000000000)(H:zaa)(K:Kt)(hK:K (.sl (zal (lim (Nat.gcd a b))) .none) H):
  ACalls tP zq5 [.sl (zal (lim a)) .none,.sl (zal (lim b)) .none] H K:=by
 refine ACalls.out (zMP λhs=>?_);unfold zB8;refine zMN (Inv:=λq t0 t1 H'=>∃x y:Nat,y=q∧t0=.sl (zal (lim x)) .none∧t1=.sl (zal (lim y)) .none∧(lim x).length≤1000∧y<1000000000∧Nat.gcd x y=Nat.gcd a b∧H'=H) b ?_ ?_
 ·intro _;exact⟨a,b,rfl,rfl,rfl,ha,hb,rfl,rfl⟩
 ·rintro q t0 t1 H' ⟨x,y,rfl,rfl,rfl,hx,hy,hg,rfl⟩ eE ek eK Kb eq;by_cases h0:y=0
  ·subst h0;rw[dx]at hg;subst hg;simp[zs9];exact Out.one0 hs (.atom (.sl _ _)) rfl rfl hK
  ·have hly:lim y=[y]:=zfd h0 hy;have hm:x % y<y:=ck _ (by omega);simp[zs9,show 0<(lim y).length by rw[hly];simp];refine ztc x y hx (by omega) hy _ _ ?_;simp;refine eq _ _ ⟨x % y,hm,Back.here (by simp) hs (by simp[zlV,ux,AV.sc,AV.scA,AV.scB,AV.scV]) ⟨_,_,rfl,y,x % y,rfl,rfl,rfl,by rw[hly];simp,by omega,?_,rfl⟩⟩;rw[←hg,dS x y,Nat.gcd_rec y x,dS]
def zai(z:Int):List AV:=[.bool (decide (z<0)),.sl (zal (lim z.natAbs)) .none,.sl (zal [1]) .none]
theorem zXx(neg:Bool)(N D:List Nat)(hN:∀ x∈N,x<4294967296)(hD:∀ x∈D,x<4294967296)(qv:N.length≤10000)(hDl:D.length≤10000)(n:Nat)(gd:(lim n).length≤900)(d:Nat)(gA:0<d)(hd:d<1000000000)(hn:zao N=n*d)(hdv:zao D=d)(H:zaa)(K:Kt)(hK:K (.agg (zai (if neg then -(n:Int) else n))) H):
  ACalls tP zdK [.bool neg,.sl (zal N) .none,.sl (zal D) .none] H K:=by
 refine ACalls.out (zXw λhs=>?_);have iS:lim d=[d]:=zfd (by omega) hd;simp[zFJ];refine zB7 N hN (by omega) _ _ ?_;refine zB7 D hD (by omega) _ _ ?_;rw[hn,hdv];have me:(lim (n*d)).length≤1000:=by
  have h1:=zdW (lim n) (zb4 n);rw[zbq]at h1;have h2:n*d<1000000000 ^ ((lim n).length+1):=by rw[Nat.pow_succ];exact db h1 hd
  have:=zbT h2;omega
 by_cases h0:n=0
 ·subst h0;have e0:(if neg=true then -((0:Nat):Int) else ((0:Nat):Int))=0:=by cases neg <;> rfl
  rw[e0]at hK;simp[zaw,zaR,plain,AV.pd,zaq,zaJ,zcE];have e1:zai 0=[.bool false,.sl [] .none,.sl [[.int .u32 1]] .none]:=by simp[zai,zal]
  rw[e1]at hK;exact Out.one hs (WkV.agg (ds:=[.bool false,.sl [] .none,.sl [[.int .u32 1]] .none]) ⟨.refl _,.snil,.sl _ _,trivial⟩) rfl (by simp[AV.scV,AV.scA,AV.scB]) hK
 ·have f7:0<(lim (n*d)).length:=by rw[zcq (Nat.mul_ne_zero h0 (by omega))];simp
  have hg:Nat.gcd (n*d) d=d:=Nat.gcd_eq_right (Nat.dvd_mul_left d n);have fL:(((lim (n*d)).length:Int) == 0)=false:=by generalize (lim (n*d)).length=q at f7;simp;omega
  have gB:zoS (.bool neg) (.sl (zal (lim n)) .none) (.sl (zal [1]) .none) (.ptr H.length 0) (H++[.cells [.bool false,.snil,.snil]]) (Out H.length K):=by
   simp[zoS,zaq,zaJ,zcE];have e1:zai (if neg=true then -(n:Int) else n)=[.bool neg,.sl (zal (lim n)) .none,.sl (zal [1]) .none]:=by
    cases neg
    ·simp[zai]
    ·simp[zai];omega
   rw[e1]at hK;exact Out.one hs (WkV.agg (ds:=[.bool neg,.sl (zal (lim n)) .none,.sl (zal [1]) .none]) ⟨.refl _,.sl _ _,.sl _ _,trivial⟩) rfl (by simp[AV.scV,AV.scA,AV.scB]) hK
  simp[fL,iS];rw[show ([d]:List Nat)=lim d from iS.symm];refine zMR (n*d) d me hd _ _ ?_;rw[hg,iS];by_cases mv:d=1
  ·subst mv;simp;simpa using gB
  ·have ey:((d:Int) != 1)=true:=by simp;omega
   simp[ey];rw[show ([d]:List Nat)=lim d from iS.symm];refine ztc (n*d) d me gA hd _ _ ?_;simp;refine ztc d d (by rw[iS];simp) gA hd _ _ ?_;rw[dX gA,Nat.mul_div_cancel _ gA,show lim 1=[1] from zfd (by omega) (by omega)];simp;exact gB
def Sm(z:Int):Prop:=z.natAbs<1000000000 ^ 30
theorem Sm.len{z:Int}(h:Sm z):(lim z.natAbs).length≤30:=zbT h
theorem zdd:lim 1=[1]:=zfd (by omega) (by omega)
theorem zhZ(n:Nat):∀x∈lim n,x<4294967296:=λx hx=>by have:=zb4 n x hx;omega
@[simp] theorem zJ1(z:Int):(zai z).length=3:=rfl
@[simp] theorem zei(z:Int):(zai z).all AV.known=true:=rfl
theorem zfW(z:Int)(n:Nat):(zai z).all (AV.scA n)=true:=rfl
theorem zcH{H J:zaa}{K:Kt}{z:Int}(hs:HSc H)(hK:K (.agg (zai z)) H):Out H.length K (.agg (zai z)) (H++J):=Out.one hs .rfl' rfl rfl hK
theorem zye(neg:Bool)(n d:Nat)(hn:n*d<1000000000 ^ 100)(gA:0<d)(hd:d<1000000000){z:Int}(hz:(if neg=true then -(n:Int) else n)=z)(H:zaa)(K:Kt)(hK:K (.agg (zai z)) H):
  ACalls tP zdK [.bool neg,.sl (zal (lim (n*d))) .none,.sl (zal (lim d)) .none] H K:=by
 subst hz;have h1:=zbT hn;have h2:n<1000000000 ^ 100:=aD (cR n gA) hn;have h3:=zbT h2;exact zXx neg _ _ (zhZ _) (zhZ _) (by omega) (by rw[zfd (by omega) hd];simp) n (by omega) d gA hd (zbq _) (zbq _) H K hK
theorem zgC(neg:Bool)(n:Nat)(hn:n<1000000000 ^ 100){z:Int}(hz:(if neg=true then -(n:Int) else n)=z)(H:zaa)(K:Kt)(hK:K (.agg (zai z)) H):
  ACalls tP zdK [.bool neg,.sl (zal (lim n)) .none,.sl (zal [1]) .none] H K:=by
 have:=zye neg n 1 (by simpa using hn) (by omega) (by omega) hz H K hK;rwa [zdd,bl]at this
theorem zx9:(1000000000:Nat) ^ 30≤1000000000 ^ 100:=a7 (by omega) (by omega)
theorem zzv{a b:Nat}(ha:a<1000000000 ^ 30)(hb:b<1000000000 ^ 30):a*b<1000000000 ^ 100:=by have:=db ha hb;rw[←dj]at this;exact aV this (a7 (by omega) (by omega))
theorem zeY(n:Nat)(hn:n<9223372036854775808)(H:zaa)(K:Kt)(hK:K (.agg (zai n)) H):ACalls tP zdJ [.int .i64 n] H K:=by
 refine ACalls.out (zVE λhs=>?_);have w1:IntKind.u64.wrap (n:Int)=n:=zbw (by omega);have h0:¬((n:Int)<0):=by omega
 simp[zE7,h0,w1];refine zF0 n (by omega) _ _ ?_;simp[zaw,zaR,plain,AV.pd];refine ACalls.wk (args':=[.bool false,.sl (zal (lim n)) .none,.sl (zal [1]) .none]) (zgC false n (by omega) (z:=n) (by simp) _ _ ?_) ⟨.rfl',.rfl',.atom (.sl _ _),trivial⟩;simp[zei];exact zcH hs hK
theorem zfx(z:Int)(hz:Sm z)(H:zaa)(K:Kt)(hK:K (.agg (zai z)) H):ACalls tP zd0 [.agg (zai z)] H K:=by refine ACalls.out (zXt λhs=>?_);simp[zFI,zai];refine zgC _ _ (aV hz zx9) (z:=z) (by split <;> simp_all <;> omega) _ _ ?_;simp;exact zcH hs hK
theorem zEH(z:Int)(hz:Sm z)(H:zaa)(K:Kt)(hK:K (.int .i64 z.sign) H):ACalls tP zih [.agg (zai z)] H K:=by
 refine ACalls.out (zUt λhs=>?_);simp[zEv,zai];refine zfx z hz _ _ ?_;simp[zai];by_cases h0:z=0
 ·subst h0;simp;exact Out.int (J:=_) rfl (ac _) hs hK
 ·have hp:0<(lim z.natAbs).length:=by rw[zcq (by omega)];simp
  have hb:(((lim z.natAbs).length:Int) == 0)=false:=by generalize (lim z.natAbs).length=q at hp;simp;omega
  simp[hb];by_cases hn:z<0
  ·simp[hn];rw[Int.sign_eq_neg_one_of_neg hn]at hK;exact Out.int (J:=_) rfl (ac _) hs hK
  ·simp[hn];rw[cW (by omega)]at hK;exact Out.int (J:=_) rfl (ac _) hs hK
theorem zj1(a b:Nat)(ha:a<1000000000 ^ 30)(hb:b<1000000000 ^ 30)(H:zaa)(K:Kt)(hK:K (.sl (zal (lim (a*b))) .none) H):ACalls tP zdu [.sl (zal (lim a)) .none,.sl (zal (lim b)) .none] H K:=by have h1:=zbT ha;have h2:=zbT hb;refine zXF (lim a) (lim b) (zb4 a) (zb4 b) (by omega) (by omega) _ _ ?_;rw[zbq,zbq];exact hK
theorem zfk:(1:Nat)<1000000000 ^ 30:=by decide
theorem zzn(H:zaa)(K:Kt)(hK:K (.sl (zal [1]) .none) H):ACalls tP zdu [.sl (zal [1]) .none,.sl (zal [1]) .none] H K:=by have:=zj1 1 1 zfk zfk H K (by rw[bl,zdd];exact hK);rwa [zdd]at this
theorem zq0(a:Nat)(ha:a<1000000000 ^ 30)(H:zaa)(K:Kt)(hK:K (.sl (zal (lim a)) .none) H):ACalls tP zdu [.sl (zal (lim a)) .none,.sl (zal [1]) .none] H K:=by have:=zj1 a 1 ha zfk H K (by rw[bl];exact hK);rwa [zdd]at this
theorem zJa(a:Nat)(ha:a<1000000000 ^ 30)(H:zaa)(K:Kt)(hK:K (.sl (zal (lim a)) .none) H):ACalls tP zdu [.sl (zal [1]) .none,.sl (zal (lim a)) .none] H K:=by have:=zj1 1 a zfk ha H K (by rw[cw];exact hK);rwa [zdd]at this
theorem zAT(a b:Int):(if (decide (a<0) != decide (b<0))=true then -((a.natAbs*b.natAbs:Nat):Int) else ((a.natAbs*b.natAbs:Nat):Int))=a*b:=by
 rw[←Int.natAbs_mul];by_cases ha:a<0 <;> by_cases hb:b<0 <;> simp[ha,hb]
 ·have:=Int.mul_pos_of_neg_of_neg ha hb;omega
 ·have:=Int.mul_nonpos_of_nonpos_of_nonneg (Int.le_of_lt ha) (by omega:0≤b);omega
 ·have:=Int.mul_nonpos_of_nonneg_of_nonpos (by omega:0≤a) (Int.le_of_lt hb);omega
 ·have:=Int.mul_nonneg (by omega:0≤a) (by omega:0≤b);omega
theorem zhn(a b:Int)(ha:Sm a)(hb:Sm b)(H:zaa)(K:Kt)(hK:K (.agg (zai (a*b))) H):ACalls tP zfi [.agg (zai a),.agg (zai b)] H K:=by refine ACalls.out (zTC λhs=>?_);simp[zEn,zai,aa];refine zaD (.agg (zai a)) (λJ=>zfx a ha _ _ ⟨rfl,rfl⟩) ?_;refine zaD (.agg (zai b)) (λJ=>zfx b hb _ _ ⟨rfl,rfl⟩) ?_;simp[zai,AV.known,aa];refine zaD (.sl (zal (lim (a.natAbs*b.natAbs))) .none) (λJ=>zj1 _ _ ha hb _ _ ⟨rfl,rfl⟩) ?_;refine zaD (.sl (zal [1]) .none) (λJ=>zzn _ _ ⟨rfl,rfl⟩) ?_;refine zaD (.agg (zai (a*b))) (λJ=>zgC _ _ (zzv ha hb) (zAT a b) _ _ ⟨rfl,rfl⟩) ?_;simp[aa];exact zcH hs hK
theorem zXk(a b:Int)(ha:Sm a)(hb:Sm b)(H:zaa)(K:Kt)(hK:K (.agg (zai (a+b))) H):ACalls tP zrU [.agg (zai a),.agg (zai b)] H K:=by
 refine ACalls.out (zXj λhs=>?_);have la:=ha.len;have lb:=hb.len;simp[zFE,zai,aa];refine zaD (.agg (zai a)) (λJ=>zfx a ha _ _ ⟨rfl,rfl⟩) ?_;refine zaD (.agg (zai b)) (λJ=>zfx b hb _ _ ⟨rfl,rfl⟩) ?_;simp[zai,AV.known,aa];refine zaD (.sl (zal (lim a.natAbs)) .none) (λJ=>zq0 _ ha _ _ ⟨rfl,rfl⟩) ?_;refine zaD (.sl (zal (lim b.natAbs)) .none) (λJ=>zq0 _ hb _ _ ⟨rfl,rfl⟩) ?_;refine zzn _ _ ?_;simp[aa];have fW:∀n:Nat,n≤a.natAbs+b.natAbs→n<1000000000 ^ 100:=by
  intro n hn;have h1:(1000000000:Nat) ^ 30+1000000000 ^ 30≤1000000000 ^ 100:=by decide
  unfold Sm at ha hb;omega
 have ig:∀x y:Int,Sm x→Sm y→y.natAbs≤x.natAbs→∀(H:zaa) (K:Kt),K (.sl (zal (lim (x.natAbs-y.natAbs))) .none) H→ACalls tP zh7 [.sl (zal (lim x.natAbs)) .none,.sl (zal (lim y.natAbs)) .none] H K:=by intro x y hx hy hxy H K hK;refine zME (lim x.natAbs) (lim y.natAbs) (zb4 _) (zb4 _) (by have:=hx.len;omega) ?_ (by rw[zbq,zbq];exact hxy) _ _ (by rw[zbq,zbq];exact hK);refine dI λh=>?_;have:=zh1 h;omega
 by_cases mF:decide (a<0)=decide (b<0)
 ·have nE:(decide (a<0) == decide (b<0))=true:=by simpa using mF
  simp[nE,aa];refine zaD (.sl (zal (lim (a.natAbs+b.natAbs))) .none) (λJ=>zMr _ _ (zb4 _) (zb4 _) (by omega) (by omega) _ _ (by rw[zbq]) (by rw[zbq]) (by rw[zbq,zbq];exact⟨rfl,rfl⟩)) ?_;refine zaD (.agg (zai (a+b))) (λJ=>zgC _ _ (fW _ (ac _)) (by
   by_cases h1:a<0 <;> by_cases h2:b<0 <;> simp[h1,h2]at mF ⊢ <;> omega) _ _ ⟨rfl,rfl⟩) ?_
  simp[aa];exact zcH hs hK
 ·have nE:(decide (a<0) == decide (b<0))=false:=by simpa using mF
  simp[nE,aa];refine zB3 _ _ (by omega) (by omega) _ _ ?_;have kX:(0≤zcp a.natAbs b.natAbs)↔b.natAbs≤a.natAbs:=by
   unfold zcp;split
   ·simp;omega
   ·split <;> simp <;> omega
  by_cases eP:b.natAbs≤a.natAbs
  ·simp[kX,eP,aa];refine zaD (.sl (zal (lim (a.natAbs-b.natAbs))) .none) (λJ=>ig a b ha hb eP _ _ ⟨rfl,rfl⟩) ?_;refine zaD (.agg (zai (a+b))) (λJ=>zgC _ _ (fW _ (by omega)) (by
    by_cases h1:a<0 <;> by_cases h2:b<0 <;> simp[h1,h2]at mF ⊢ <;> omega) _ _ ⟨rfl,rfl⟩) ?_
   simp[aa];exact zcH hs hK
  ·simp[kX,eP,aa];refine zaD (.sl (zal (lim (b.natAbs-a.natAbs))) .none) (λJ=>ig b a hb ha (by omega) _ _ ⟨rfl,rfl⟩) ?_;refine zaD (.agg (zai (a+b))) (λJ=>zgC _ _ (fW _ (by omega)) (by
    by_cases h1:a<0 <;> by_cases h2:b<0 <;> simp[h1,h2]at mF ⊢ <;> omega) _ _ ⟨rfl,rfl⟩) ?_
   simp[aa];exact zcH hs hK
theorem Sm.neg{z:Int}(h:Sm z):Sm (-z):=by unfold Sm at h ⊢;rwa [Int.natAbs_neg]
theorem zPi(q d:Nat)(hq:q*d<1000000000 ^ 30)(gA:0<d)(hd:d<1000000000)(H:zaa)(K:Kt)(hK:K (.tup [.agg (zai q),.bool true]) H):
  ACalls tP zrl [.agg (zai ((q*d:Nat):Int)),.agg (zai d)] H K:=by
 refine ACalls.out (zPh λhs=>?_);have hdS:(d:Nat)<1000000000 ^ 30:=aV hd (by decide);have ha:Sm ((q*d:Nat):Int):=by unfold Sm;rw[Int.natAbs_natCast];exact hq
 have hb:Sm (d:Int):=by unfold Sm;rw[Int.natAbs_natCast];exact hdS
 have ea:(zai ((q*d:Nat):Int))=[.bool false,.sl (zal (lim (q*d))) .none,.sl (zal [1]) .none]:=by unfold zai;rw[Int.natAbs_natCast,bg (by omega)]
 have eb:(zai (d:Int))=[.bool false,.sl (zal (lim d)) .none,.sl (zal [1]) .none]:=by unfold zai;rw[Int.natAbs_natCast,bg (by omega)]
 have iS:lim d=[d]:=zfd (by omega) hd;rw[ea,eb];simp[zCT,aa];refine zaD (.agg (zai ((q*d:Nat):Int))) (λJ=>by rw[←ea];exact zfx _ ha _ _ ⟨rfl,rfl⟩) ?_;refine zaD (.agg (zai (d:Int))) (λJ=>by rw[←eb];exact zfx _ hb _ _ ⟨rfl,rfl⟩) ?_;rw[ea,eb];simp[AV.known,aa,show (lim d).length=1 by rw[iS];rfl];refine zaD (.sl (zal (lim (q*d))) .none) (λJ=>zq0 _ hq _ _ ⟨rfl,rfl⟩) ?_;refine zaD (.sl (zal (lim d)) .none) (λJ=>zJa _ hdS _ _ ⟨rfl,rfl⟩) ?_;refine zaD (.agg (zai q)) (λJ=>zye false q d (aV hq zx9) gA hd (by simp) _ _ ⟨rfl,rfl⟩) ?_;simp[aa];exact⟨⟨rfl,rfl⟩,Out.tup (bs:=[.agg (zai q),.bool true]) hs hK ⟨zaV rfl rfl,zaV rfl rfl,trivial⟩⟩
theorem zqR(L:List Nat)(hL:L.length≤100000)(H:zaa)(K:Kt)(hK:K (.bool (decide (L=[1]))) H):ACalls tP zko [.sl (zal L) .none] H K:=by
 refine ACalls.out (zSV λhs=>?_);have hO:∀b,b=decide (L=[1])→Out H.length K (.bool b) H:=λb hb=>Out.bool (J:=[]) (by simp) (ac _) hs (by rw[hb];exact hK)
 match L with
 |[]=>simp[znH];exact hO false (by simp)
 |[x]=>
  simp[znH,zal];refine hO _ ?_;by_cases h:x=1
  ·subst h;rfl
  ·have hb:((x:Int) == 1)=false:=by simp;omega
   rw[hb];simp[h]
 |x::y::l=>
  have hb:((l.length:Int)+1+1 == 1)=false:=by simp;omega
  simp[znH,hb];exact hO false (by simp)
theorem zI3(neg:Bool)(n:Nat)(hn:(lim n).length≤1000)(H:zaa)(K:Kt)(hK:K (.agg (zai (if neg=true then -(n:Int) else n))) H):
  ACalls tP zkc [.agg [.bool neg,.sl (zal (lim n)) .none,.sl (zal [1]) .none]] H K:=by
 refine ACalls.out (zC0 λhs=>?_);by_cases h0:n=0
 ·subst h0;have e0:(if neg=true then -((0:Nat):Int) else ((0:Nat):Int))=0:=by cases neg <;> rfl
  have e1:zai 0=[.bool false,.sl [] .none,.sl [[.int .u32 1]] .none]:=by simp[zai,zal]
  rw[e0,e1]at hK;simp[zmU,zaw,zaR,plain,AV.pd,zaq,zaJ,zcE,aa];exact Out.one hs (WkV.agg (ds:=[.bool false,.sl [] .none,.sl [[.int .u32 1]] .none]) ⟨.refl _,.snil,.sl _ _,trivial⟩) rfl (by simp[AV.scV,AV.scA,AV.scB]) hK
 ·have hp:0<(lim n).length:=by rw[zcq h0];simp
  have hb:(((lim n).length:Int) == 0)=false:=by generalize (lim n).length=q at hp;simp;omega
  have e1:zai (if neg=true then -(n:Int) else n)=[.bool neg,.sl (zal (lim n)) .none,.sl (zal [1]) .none]:=by
   cases neg
   ·simp[zai]
   ·simp[zai];omega
  rw[e1]at hK;simp[zmU,hb,aa];refine zqR [1] (by simp) _ _ ?_;simp[aa];exact Out.one hs (WkV.agg (ds:=[.bool neg,.sl (zal (lim n)) .none,.sl (zal [1]) .none]) ⟨.refl _,.sl _ _,.sl _ _,trivial⟩) rfl (by simp[AV.scV,AV.scA,AV.scB]) hK
theorem zlg(neg:Bool)(n:Nat)(hn:(lim n).length≤1000){z:Int}(hz:(if neg=true then -(n:Int) else n)=z)(H:zaa)(K:Kt)(hK:K (.agg (zai z)) H):
  ACalls tP zfh [.agg [.bool neg,.sl (zal (lim n)) .none,.sl (zal [1]) .none]] H K:=by
 refine ACalls.out (zCi λhs=>?_);simp[ztk,aa];refine zI3 neg n hn _ _ ?_;rw[hz];simp[zai,zaq,zaJ,zcE,AV.known,aa];exact zcH hs hK
theorem zgK(z:Int)(hz:(lim z.natAbs).length≤1000)(H:zaa)(K:Kt)(hK:K (.agg (zai z)) H):ACalls tP zeK [.agg (zai z)] H K:=by
 refine ACalls.out (zCk λhs=>?_);simp[zto,zai,aa];refine zaD (.sl (zal (lim z.natAbs)) .none) (λJ=>zkT _ (zhZ _) (by omega) _ _ (by rw[zbq];exact⟨rfl,rfl⟩)) ?_;refine zaD (.sl (zal [1]) .none) (λJ=>zkT [1] (by simp) (by simp) _ _ (by simp[zao,zdd])) ?_;by_cases h0:z=0
 ·subst h0;have e1:zai 0=[.bool false,.sl [] .none,.sl [[.int .u32 1]] .none]:=by simp[zai,zal]
  rw[e1]at hK;simp[zaw,zaR,plain,AV.pd,zaq,zaJ,zcE,aa];exact Out.one hs (WkV.agg (ds:=[.bool false,.sl [] .none,.sl [[.int .u32 1]] .none]) ⟨.refl _,.snil,.sl _ _,trivial⟩) rfl (by simp[AV.scV,AV.scA,AV.scB]) hK
 ·have hp:0<(lim z.natAbs).length:=by rw[zcq (by omega)];simp
  have hb:(((lim z.natAbs).length:Int) == 0)=false:=by generalize (lim z.natAbs).length=q at hp;simp;omega
  simp[hb,zaq,zaJ,zcE,AV.known,aa];exact zcH hs hK
theorem zqX(n:Nat)(hn:n<9223372036854775808)(H:zaa)(K:Kt)(hK:K (.sl (zal (lim n)) .none) H):ACalls tP zh9 [.int .i64 n] H K:=by
 refine ACalls.out (zNn λhs=>?_);have w1:IntKind.u64.wrap (n:Int)=n:=zbw (by omega);have h0:¬((n:Int)<0):=by omega
 simp[zCh,h0,w1];refine zqE n (by omega) _ _ ?_;exact Out.one0 hs (.atom (.sl _ _)) rfl rfl hK
theorem zeu(n:Nat)(hn:n<9223372036854775808)(H:zaa)(K:Kt)(hK:K (.agg (zai n)) H):ACalls tP zdv [.int .i64 n] H K:=by
 refine ACalls.out (zXS λhs=>?_);have h0:decide ((n:Int)<0)=false:=by simp
 have hl:=zbT (n:=n) (k:=3) (by omega);simp[zFS,aa];refine zqX n hn _ _ ?_;simp[h0,zaw,zaR,plain,AV.pd,zaq,zaJ,zcE,AV.known,aa];refine ACalls.wk (args':=[.agg [.bool false,.sl (zal (lim n)) .none,.sl (zal [1]) .none]]) (zlg false n (by omega) (z:=n) (by simp) _ _ ?_) ⟨.agg ⟨.refl _,.refl _,.sl _ _,trivial⟩,trivial⟩;simp[zei,aa];exact zcH hs hK
theorem zh5(a b:Nat)(ha:a<1000000000 ^ 30)(hb:b<1000000000 ^ 30)(H:zaa)(K:Kt)(hK:K (.sl (zal (lim (a*b))) .none) H):ACalls tP zdZ [.sl (zal (lim a)) .none,.sl (zal (lim b)) .none] H K:=by have h1:=zbT ha;have h2:=zbT hb;refine zJh (lim a) (lim b) (zb4 a) (zb4 b) (by omega) (by omega) _ _ ?_;rw[zbq,zbq];exact hK
theorem zzo(H:zaa)(K:Kt)(hK:K (.sl (zal [1]) .none) H):ACalls tP zdZ [.sl (zal [1]) .none,.sl (zal [1]) .none] H K:=by have:=zh5 1 1 zfk zfk H K (by rw[bl,zdd];exact hK);rwa [zdd]at this
theorem zjk(a b:Int)(ha:Sm a)(hb:Sm b)(H:zaa)(K:Kt)(hK:K (.agg (zai (a*b))) H):ACalls tP zfj [.agg (zai a),.agg (zai b)] H K:=by refine ACalls.out (zFY λhs=>?_);have la:=ha.len;have lb:=hb.len;have hm:=zbT (zzv ha hb);simp[zwt,zai,aa];refine zaD (.agg (zai a)) (λJ=>zgK a (by omega) _ _ ⟨rfl,rfl⟩) ?_;refine zaD (.agg (zai b)) (λJ=>zgK b (by omega) _ _ ⟨rfl,rfl⟩) ?_;simp[zai,AV.known,aa];refine zaD (.sl (zal (lim (a.natAbs*b.natAbs))) .none) (λJ=>zh5 _ _ ha hb _ _ ⟨rfl,rfl⟩) ?_;refine zaD (.sl (zal [1]) .none) (λJ=>zzo _ _ ⟨rfl,rfl⟩) ?_;simp[zaq,zaJ,zcE,AV.known,aa];refine zaD (.agg (zai (a*b))) (λJ=>zlg _ _ (by omega) (zAT a b) _ _ ⟨rfl,rfl⟩) ?_;simp[aa];exact zcH hs hK
theorem zH8(a b:Nat)(ha:(lim a).length≤1000)(hb:(lim b).length≤1000)(H:zaa)(K:Kt)(hK:K (.int .i64 (zcp a b)) H):
  ACalls tP zkh [.sl (zal (lim a)) .none,.sl (zal (lim b)) .none] H K:=by
 refine ACalls.out (zRZ λhs=>?_);have hO:∀r,r=zcp a b→Out H.length K (.int .i64 r) H:=λr hr=>Out.int (J:=[]) (by simp) (ac _) hs (by rw[hr];exact hK);have lA:=zb4 a;have lB:=zb4 b;have vA:=zbq a;have vB:=zbq b;by_cases ey:(lim a).length=(lim b).length
 ·simp[znm,ey];generalize hLA:lim a=A at *;generalize hLB:lim b=B at *;have jB:IntKind.i64.wrap ((B.length:Int)-1)=(B.length:Int)-1:=zay (by omega) (by omega);rw[jB];refine zRX (Inv:=λq t5 H'=>∃i:Nat,i≤B.length∧i=q∧t5=.int .i64 ((i:Int)-1)∧H'=H∧A.drop i=B.drop i) B.length ?_ ?_
  ·intro _;exact⟨B.length,by omega,rfl,rfl,rfl,by rw[aW (by omega),aW (by omega)]⟩
  ·rintro q t5 H' ⟨i,hi,rfl,rfl,rfl,hd⟩ eE ek eK Kb eq;by_cases h0:i=0
   ·subst h0;simp[zi7];refine hO _ ?_;simp at hd;rw[←vA,←vB,hd];simp[zcp]
   ·obtain⟨j,rfl⟩:∃ j,i=j+1:=⟨i-1,by omega⟩;have iO:j<A.length:=by omega
    have lh:j<B.length:=by omega
    have ej:((j+1:Nat):Int)-1=(j:Int):=by omega
    have ep:IntKind.i64.wrap ((j:Int)-1)=(j:Int)-1:=zay (by omega) (by omega);rw[ej];rcases Nat.lt_trichotomy A[j] B[j] with h|h|h
    ·have:=zjZ ey lA j iO hd h;simp[zi7,iO,lh,h];exact hO _ (by rw[←vA,←vB];simp[zcp,this])
    ·simp[zi7,iO,lh,h,ep];refine eq _ _ ⟨j,by omega,Back.here (by simp) hs (by simp[zno,ux,AV.sc,AV.scA,AV.scB,AV.scV]) ⟨_,rfl,j,by omega,rfl,rfl,rfl,?_⟩⟩;rw[ag iO,ag lh,hd,h]
    ·have:=zjZ ey.symm lB j lh hd.symm h;simp[zi7,iO,lh,h,bO h,dB.2 (bO h)];exact hO _ (by rw[←vA,←vB];simp[zcp,this,dB.2 (bO this)])
 ·have lk:(((lim a).length:Int) != ((lim b).length:Int))=true:=by simp;omega
  by_cases ei:(lim a).length<(lim b).length
  ·have:=zh1 ei;simp[znm,lk,ei];exact hO (-1) (by simp[zcp,this])
  ·have:=zh1 (show (lim b).length<(lim a).length by omega);simp[znm,lk,ei];exact hO 1 (by simp[zcp,this,dB.2 (bO this)])
theorem zIo(A:List Nat)(lA:∀ x∈A,x<1000000000)(ha:A.length≤1000)(d:Nat)(gA:0<d)(hd:d<4294967296)(hdB:d≤1000000000)(H:zaa)(K:Kt)(hK:K (.tup [.sl (zal (lim (zao A / d))) .none,.int .u64 ((zao A % d:Nat):Int)]) H):
  ACalls tP zrG [.sl (zal A) .none,.int .u64 d] H K:=by
 refine ACalls.out (zT8 λhs=>?_);have eL:IntKind.i64.wrap ((A.length:Int)-1)=(A.length:Int)-1:=zay (by omega) (by omega);simp[zEy,zbp,eL];rw[ziT];refine⟨⟨by omega,by omega⟩,?_⟩;have hsc:∀ O:List Nat,HSc (H++[.cells (us O)]):=λO=>hs.append (by simp[AB.sc,us,AV.scA,AV.scB]);refine zT6 (Inv:=λq t7 t8 H'=>∃ (i r:Nat) (O:List Nat),i≤A.length∧i=q∧t8=.int .i64 ((i:Int)-1)∧t7=.int .u64 r∧r<d∧O.length=A.length∧(∀ x∈O,x<1000000000) ∧
  zao (A.drop i)=d*zao (O.drop i)+r∧H'=H++[.cells (us O)]) A.length ?_ ?_
 ·intro _;exact⟨A.length,0,_,by omega,rfl,rfl,rfl,by omega,by simp,by simp,by simp[zao],rfl⟩
 ·rintro q t7 t8 H' ⟨i,r,O,hi,rfl,rfl,rfl,hr,iP,hO,hv,rfl⟩ eE ek eK Kb eq;by_cases h0:i=0
  ·subst h0;simp[zvc];rw[bq,bq]at hv;rw[←iP];refine zBt O hO (by omega) (by simp) ?_;have e1:zao A / d=zao O:=by rw[hv,dq gA,bP hr];simp
   have e2:zao A % d=r:=by rw[hv,dp,bH hr]
   rw[e1,e2]at hK;simp;exact⟨⟨rfl,rfl⟩,Out.tup (bs:=[.sl (zal (lim (zao O))) .none,.int .u64 (r:Int)]) hs hK ⟨slV,zaV rfl rfl,trivial⟩⟩
  ·obtain⟨j,rfl⟩:∃ j,i=j+1:=⟨i-1,by omega⟩;have iO:j<A.length:=by omega
   have oX:j<O.length:=by omega
   have jV:=lA A[j] (af iO);have ej:((j+1:Nat):Int)-1=(j:Int):=by omega
   have ep:IntKind.i64.wrap ((j:Int)-1)=(j:Int)-1:=zay (by omega) (by omega);have hrB:r*1000000000≤1000000000*1000000000:=ar _ (by omega);obtain⟨m,hm⟩:∃m,m=r*1000000000:=⟨_,rfl⟩;have w1:IntKind.u64.wrap ((r:Int)*1000000000)=(m:Int):=by rw[show (r:Int)*1000000000=(m:Int) by omega];exact zbw (by omega)
   have w2:IntKind.u64.wrap ((A[j]:Nat):Int)=A[j]:=zbw (by omega);obtain⟨s,e5⟩:∃s,s=m+A[j]:=⟨_,rfl⟩;have w3:IntKind.u64.wrap ((m:Int)+(A[j]:Nat))=(s:Int):=by rw[e5,←Int.natCast_add];exact zbw (by omega)
   obtain⟨x,c,fJ,fc,e1,e2⟩:=zqx s d gA (by omega);have qu:c<1000000000:=by
    refine bW λh=>?_;have h1:d*1000000000≤d*c:=bj _ h;have h2:r*1000000000+1000000000≤d*1000000000:=by rw[←bI];exact ar _ hr
    omega
   have w4:IntKind.u32.wrap (c:Int)=c:=zcB (by omega);rw[ej];simp only[zvc];simp[iO,w1,w2,w3,e1,e2,w4,ep,zlx O j c oX,iP];refine⟨by omega,eq _ _ ⟨j,by omega,Back.here (by simp) (hsc _) (by simp[znU,ux,AV.sc,AV.scA,AV.scB,AV.scV]) ⟨_,_,rfl,j,x,O.set j c,by omega,rfl,rfl,rfl,fJ,by simp[iP],zss hO qu,?_,rfl⟩⟩⟩;rw[zh2 A j iO,zh2 (O.set j c) j (by simpa using oX),List.getElem_set_self,List.drop_set_of_lt (by omega),hv];rw[e5,hm]at fc;generalize zao (O.drop (j+1))=Z at *;grind
theorem zyz(a b:Nat)(ha:(lim a).length≤1000)(fL:0<b)(hb:b<1000000000)(H:zaa)(K:Kt)(hK:K (.tup [.sl (zal (lim (a / b))) .none,.sl (zal (lim (a % b))) .none]) H):
  ACalls tP zif [.sl (zal (lim a)) .none,.sl (zal (lim b)) .none] H K:=by
 refine ACalls.out (zS7 λhs=>?_);have gf:lim b=[b]:=zfd (by omega) hb;simp only[zEg];refine zH8 a b ha (by rw[gf];simp) _ _ ?_;have kX:(zcp a b<0)↔a<b:=by
  unfold zcp;split
  ·simp;assumption
  ·split <;> simp <;> omega
 by_cases ei:a<b
 ·simp[kX,ei];rw[bP ei,bH ei,zza]at hK;simp[zax,zaM,zaK];refine⟨zen _,⟨by omega,by omega⟩,⟨rfl,rfl⟩,?_⟩;exact Out.tup (bs:=[.sl (zal []) .none,.sl (zal (lim a)) .none]) hs hK ⟨zdj,slV,trivial⟩
 ·have w1:IntKind.u64.wrap (b:Int)=b:=zbw (by omega);have hm:a % b<b:=ck _ fL;simp[kX,ei,gf,w1];refine zIo (lim a) (zb4 a) ha b fL (by omega) (by omega) _ _ ?_;rw[zbq];simp;refine zqE (a % b) (by omega) _ _ ?_;refine⟨⟨rfl,rfl⟩,?_⟩;exact Out.tup0 (bs:=[.sl (zal (lim (a / b))) .none,.sl (zal (lim (a % b))) .none]) hs hK ⟨slV,slV,trivial⟩
end Go.Proofs.YtdmamdnkcefmmaaGreatDoor
