import Derived.Test.YtdmamdnkcefmmaaGreatDoorKGR7
import Derived.Test.YtdmamdnkcefmmaaGreatDoorKN13
import Derived.Test.YtdmamdnkcefmmaaGreatDoorKP11
import Derived.Test.YtdmamdnkcefmmaaGreatDoorAbsQ1
import Derived.Test.YtdmamdnkcefmmaaGreatDoorKI2
import Derived.Test.YtdmamdnkcefmmaaGreatDoorKNum
import Derived.Test.YtdmamdnkcefmmaaGreatDoorProg
import Derived.KernelRfl
import Derived.Test.YtdmamdnkcefmmaaGreatDoorVO
set_option linter.unusedSimpArgs false
set_option linter.unusedVariables false
set_option maxRecDepth 8000
namespace Go.Proofs.YtdmamdnkcefmmaaGreatDoor
open Go Go.Abs
theorem zxY (L:List Nat) (hL:L.length≤1000000) (H:zaa) (K:Kt) (hK:K (.sl (zak (zbA L)) .none) H) :
  ACalls tP zfv [.sl (zak L) .none] H K:=by
 refine ACalls.out (zNO λhs=>?_);simp[zBe];refine zNM (Inv:=λq t3 H'=>∃ n:Nat,n≤L.length∧n=q∧t3=.int .i64 n∧H'=H∧zbA L=zbA (L.take n)) L.length ?_ ?_
 ·intro _;exact⟨L.length,by omega,rfl,by simp,rfl,by simp⟩
 ·rintro q t3 H' ⟨n,hn,rfl,rfl,rfl,aT⟩ aM aq aO Kb aw;have bx:∀ (l:List Nat),l=zbA L→Out (List.length H') K (AV.sl (zak l) .none) H':=λl hl=>Out.one0 hs (.atom (.sl _ _)) rfl rfl (by rw[hl];exact hK);by_cases h0:n=0
  ·subst h0;simp[zl8];exact⟨zd8 L,bx [] (by simpa[zbA]using aT.symm)⟩
  ·have hw:IntKind.i64.wrap ((n:Int)-1)=((n-1:Nat):Int):=by rw[zat (by omega) (by omega)];omega
   have ap:n-1<L.length:=by omega
   by_cases hz:L[n-1]=0
   ·simp[zl8,show 0<n by omega,hw,ap,hz];exact aw _ _ ⟨n-1,by omega,Back.here (by simp) hs (by simp[zl9,AV.sc,AV.scA,AV.scB,AV.scV]) ⟨_,rfl,n-1,by omega,rfl,rfl,rfl,by rw[aT,zza (by omega) hn hz]⟩⟩
   ·have kG:(((L[n-1]:Nat):Int) == 0)=false:=by simp;omega
    simp[zl8,show 0<n by omega,hw,ap,kG];refine⟨⟨hn,zd8 L⟩,?_⟩;rw[zzN];exact bx _ (by rw[aT,zy8 (by omega) hn hz])
theorem zpj (n:Nat) (hn:n<18446744073709551616) (H:zaa) (K:Kt) (hK:K (.sl (zak (lim n)) .none) H) :
  ACalls tP zgl [.int .u64 n] H K:=by
 refine ACalls.out (zNA λhs=>?_);unfold zBa zl1;refine ALoop.own 3 za8 1 rfl ?_;show zl1 (.int .u64 n) (.sl [] (.own H.length)) (H++[.perm za8 1 0]) (Out H.length K);refine zNy (Inv:=λq t0 t3 H'=>∃ (m:Nat) (A:List Nat),m=q∧t0=.int .u64 m∧t3=.sl (zak A) (.own H.length)∧lim n=A++lim m∧m<18446744073709551616 ∧
  H'=H++[.perm za8 1 A.length]) n ?_ ?_
 ·intro _;exact⟨n,[],rfl,rfl,rfl,by simp,hn,rfl⟩
 ·rintro q t0 t3 H' ⟨m,A,rfl,rfl,rfl,hA,hm,rfl⟩ aM aq aO Kb aw;by_cases h0:m=0
  ·subst h0;simp[zsI];exact Out.one hs (.atom (.sl _ _)) rfl rfl (by simpa[hA]using hK)
  ·have hlA:A.length+1≤1000:=by have h1:=congrArg List.length hA;have h2:=zbI (n:=n) (k:=3) (by omega);rw[zcg h0]at h1;simp at h1;omega
   obtain⟨x,c,bH,bh,bC,e1,e2⟩:=zgd m hm;simp only[zsI];simp[show 0<m by omega,e1,e2,bC,zaw,zaT,plain,AV.pd,zax,zaN,zaK];refine⟨⟨by omega,by omega⟩,?_⟩;rw[sN];refine aw _ _ ⟨c,by omega,Back.here (by simp) (hs.append (by simp[AB.sc])) (by simp[zl0,ux,AV.sc,AV.scA,AV.scB,AV.scV]) ⟨_,_,rfl,c,A++[x],rfl,rfl,rfl,?_,by omega,by simp⟩⟩;rw[hA,zcg h0,show m % 1000000000=x by omega,show m / 1000000000=c by omega];simp
theorem _root_.Go.Abs.ACalls.frzV1 {P:Program} {H:zaa} {f:FuncId} {K:Kt} (id e size n:Nat) (cs:List AV) (es:List (List AV)) (hH:H[id]?=some (.vec e size n cs)) (hp:plain cs=some es.flatten) (aq:es.length=n) (aF:∀ c∈es,c.length=size)
  (h:ACalls P f [.sl es .none] (H.set id .dead) K):ACalls P f [.ov id n] H K:=by
 intro B w G vs hR hv;obtain⟨G',hE,fz,hd⟩:=hR.frzV hH hp aq aF;refine (h B w G' vs fz ?_).mono λe w' ⟨v,r,H',G'',k1,k2,k3,k4,k5⟩=>⟨v,r,H',G'',k1,hE.trans k2,k3,k4,k5⟩;generalize vs.toList=l at *
 match l,hv with
 | [v],⟨h1,_⟩=>exact⟨hd v h1,trivial⟩
theorem zJz (L:List Nat) (hL:∀ x∈L,x<1000000000) (hl:L.length≤100000) {id:Nat} {H:zaa} {K:Kt} (ar:H[id]?=some (.vec za8 1 L.length (us L))) (hK:K (.sl (zak (lim (zao L))) .none) (H.set id .dead)) :
  ACalls tP zfv [.ov id L.length] H K:=by
 refine ACalls.frzV1 id za8 1 L.length (us L) (zak L) ar (by rw[zkN,zie]) (by simp) (zd8 L) ?_;refine zxY L (by omega) _ _ ?_;rw[zfH L hL];exact hK
theorem zzA (L:List Nat) (hL:∀ x∈L,x<1000000000) (hl:L.length≤100000) {id:Nat} {H:zaa} {K:Kt} (ar:H[id]?=some (.cells (us L))) (hK:K (.sl (zak (lim (zao L))) .none) (H.set id .dead)) :
  ACalls tP zfv [.ms id 0 L.length L.length] H K:=by
 refine ACalls.frz id 0 L.length L.length 1 (us L) (zak L) ar (by simp) ?_ (by simp) (zd8 L) (Nat.le_refl _) (args':=[.sl (zak L) .none]) ⟨.one .ms,trivial⟩ ?_
 ·rw[List.drop_zero,List.take_of_length_le (by simp),zkN,zie]
 ·refine zxY L (by omega) _ _ ?_;rw[zfH L hL];exact hK
theorem zj9 (L:List Nat) (iO:∀ x∈L,x<4294967296) (hL:L.length≤50000) (H:zaa) (K:Kt) (hK:K (.sl (zak (lim (zao L))) .none) H) :
  ACalls tP zju [.sl (zak L) .none] H K:=by
 refine ACalls.out (zNI λhs=>?_);have hsc:∀ A:List Nat,HSc (H++[.vec za8 1 A.length (us A)]):=λA=>hs.append (by simp[AB.sc,us,AV.scA,AV.scB]);simp[zBc,wi L.length (by omega)];refine⟨⟨by omega,by omega,by omega⟩,?_⟩;have gk:∀ A:List Nat,(∀ x∈A,x<1000000000)→zao A=zao L→A.length≤100000→zl6 (.ov H.length A.length) (H++[.vec za8 1 A.length (us A)]) (Out H.length K):=by intro A hA he hl;unfold zl6;refine zJz A hA hl (by simp) ?_;rw[he];simp;exact Out.one hs (.atom (.sl _ _)) rfl rfl hK
 refine zNG (Inv:=λq t3 t4 t13 H'=>∃ (i c:Nat) (A:List Nat),i≤L.length∧L.length-i=q∧t13=.int .i64 i∧t4=.int .u64 c∧t3=.ov H.length A.length∧A.length=i∧(∀ x∈A,x<1000000000)∧c≤5 ∧
  zao A+1000000000 ^ i*c=zao (L.take i)∧H'=H++[.vec za8 1 A.length (us A)]) L.length ?_ ?_
 ·intro _;exact⟨0,0,[],by omega,rfl,rfl,rfl,rfl,rfl,by simp,by omega,by simp[zao],rfl⟩
 ·rintro q t3 t4 t13 H' ⟨i,c,A,hi,rfl,rfl,rfl,rfl,eN,hA,hc,hv,rfl⟩ aM aq aO Kb aw;by_cases ap:i<L.length
  ·have hx:=iO L[i] (List.getElem_mem ap);have w1:IntKind.u64.wrap ((L[i]:Nat):Int)=L[i]:=zbl (by omega);obtain⟨s,be⟩:∃ s,s=L[i]+c:=⟨_,rfl⟩;have w2:IntKind.u64.wrap (((L[i]:Nat):Int)+(c:Int))=(s:Int):=by rw[be,←Int.natCast_add];exact zbl (by omega)
   obtain⟨x,c',bH,bh,bC,e1,e2⟩:=zgd s (by omega);simp only[zl4];simp[ap,w1,w2,e1,e2,bC,zaw,zaT,plain,AV.pd,zax,zaN,zaK,wi i (by omega)];refine⟨⟨by omega,by omega⟩,?_⟩;have e3:us A++[AV.int .u32 (x:Int)]=us (A++[x]):=by simp[us]
   rw[e3];refine aw _ _ ⟨L.length-(i+1),by omega,Back.here (by simp) (by simpa using hsc (A++[x])) (by simp[zl5,ux,AV.sc,AV.scA,AV.scB,AV.scV]) ⟨_,_,_,rfl,i+1,c',A++[x],by omega,rfl,rfl,rfl,by simp,by simp[eN],?_,by omega,?_,by simp⟩⟩
   ·intro y hy;rcases List.mem_append.1 hy with hy | hy
    ·exact hA y hy
    ·simp at hy;omega
   ·rw[zeo,zdb L i ap,←hv,eN,Nat.pow_succ];grind
  ·obtain rfl:i=L.length:=by omega
   rw[List.take_length]at hv;by_cases h0:c=0
   ·subst h0;simp[zl4];exact gk A hA (by simpa using hv) (by omega)
   ·simp only[zl4];simp[show 0<c by omega,zcv (show c<4294967296 by omega),zaw,zaT,plain,AV.pd,zax,zaN,zaK];refine⟨⟨by omega,by omega⟩,?_⟩;have e3:us A++[AV.int .u32 (c:Int)]=us (A++[c]):=by simp[us]
    rw[e3];have:=gk (A++[c]) (λy hy=>by
     rcases List.mem_append.1 hy with hy | hy
     ·exact hA y hy
     ·simp at hy;omega) (by rw[zeo,eN];exact hv) (by simp;omega)
    simpa using this
theorem zzR (O:List Nat) (i x:Nat) (h:i<O.length):List.take i (us O)++AV.int .u32 (x:Int)::List.drop (i+1) (us O)=us (O.set i x):=by rw[←zrB O i x h];simp
theorem zyW {O:List Nat} (hO:∀ x∈O,x<1000000000) {i x:Nat} (hx:x<1000000000):∀ y∈O.set i x,y<1000000000:=by
 intro y hy;rcases List.mem_or_eq_of_mem_set hy with hy | rfl
 ·exact hO y hy
 ·exact hx
theorem zGS {O:List Nat} {j:Nat} (h:zao O<1000000000 ^ j):O.getD j 0=0:=by
 by_cases hj:j<O.length
 ·have e:zao O=zao (O.take j)+1000000000 ^ j*(O[j]+1000000000*zao (O.drop (j+1))):=by
   conv=>lhs;rw[←List.take_append_drop j O,zhu,List.drop_eq_getElem_cons hj,zao]
   rw[List.length_take,Nat.min_eq_left (by omega)]
  rw[List.getD_eq_getElem?_getD,List.getElem?_eq_getElem hj,Option.getD_some];refine Nat.eq_zero_of_not_pos λhp=>?_;have h2:1000000000 ^ j*1≤1000000000 ^ j*(O[j]+1000000000*zao (O.drop (j+1))):=Nat.mul_le_mul_left _ (by omega);omega
 ·simp[List.getD_eq_getElem?_getD,show O.length≤j by omega]
theorem zG3 (A B:List Nat) (lA:∀ x∈A,x<1000000000) (lB:∀ x∈B,x<1000000000) (ha:A.length≤1000) (hb:B.length≤1000) (H:zaa) (K:Kt)
  (hK:K (.sl (zak (lim (zao A*zao B))) .none) H) :
  ACalls tP zdN [.sl (zak A) .none,.sl (zak B) .none] H K:=by
 refine ACalls.out (zLh λhs=>?_);by_cases iU:A=[]
 ·subst iU;simp[zlh,zao]at hK ⊢;exact Out.one0 hs (.atom .snil) rfl rfl (by simpa[zak]using hK)
 by_cases jN:B=[]
 ·subst jN;have jY:((A.length:Int) == 0)=false:=by have:A.length≠0:=λh=>iU (List.eq_nil_of_length_eq_zero h);generalize A.length=q at this;simp;omega
  simp[zlh,zao,jY,iU]at hK ⊢;exact Out.one0 hs (.atom .snil) rfl rfl (by simpa[zak]using hK)
 have hAl0:A.length≠0:=λh=>iU (List.eq_nil_of_length_eq_zero h);have hBl0:B.length≠0:=λh=>jN (List.eq_nil_of_length_eq_zero h);have jY:((A.length:Int) == 0)=false:=by generalize A.length=q at hAl0;simp;omega
 have hBb:((B.length:Int) == 0)=false:=by generalize B.length=q at hBl0;simp;omega
 have hw:IntKind.i64.wrap ((A.length:Int)+B.length)=((A.length+B.length:Nat):Int):=by rw[zat (by omega) (by omega)];omega
 simp[zlh,jY,hBb,iU,jN,hw,zba];have hN:((A.length:Int)+B.length).toNat=A.length+B.length:=by omega
 rw[hN,zif];refine⟨⟨by omega,by omega,by omega⟩,?_⟩;have hsc:∀ O:List Nat,HSc (H++[.cells (us O)]):=λO=>hs.append (by simp[AB.sc,us,AV.scA,AV.scB]);have fA:=zdM B lB;refine zLe (Inv:=λq t26 H'=>∃ (i:Nat) (O:List Nat),i≤A.length∧A.length-i=q∧t26=.int .i64 i∧O.length=A.length+B.length∧(∀ x∈O,x<1000000000)∧zao O=zao (A.take i)*zao B∧H'=H++[.cells (us O)]) A.length ?_ ?_
 ·intro _;exact⟨0,_,by omega,rfl,rfl,by simp,by simp,by rw[zxz];simp[zao],rfl⟩
 ·rintro q t26 H' ⟨i,O,hi,rfl,rfl,dK,hO,hv,rfl⟩ aM aq aO Kb aw;by_cases ap:i<A.length
  ·have e8:=lA A[i] (List.getElem_mem ap);have eN:=zdM (A.take i) (λy hy=>lA y (List.mem_of_mem_take hy));rw[List.length_take,Nat.min_eq_left (by omega)]at eN;have iR:O.getD (i+B.length) 0=0:=by refine zGS ?_;rw[hv,Nat.pow_add];exact Nat.mul_lt_mul'' eN fA
   simp[zr4,ap];refine zLf (Inv:=λq t7 t31 H'=>∃ (k c:Nat) (R:List Nat),k≤B.length∧B.length-k=q∧t31=.int .i64 k∧t7=.int .u64 c∧R.length=A.length+B.length∧(∀ x∈R,x<1000000000)∧c<1000000000∧R.getD (i+B.length) 0=0 ∧
    zao R+c*1000000000 ^ (i+k)=zao O+A[i]*zao (B.take k)*1000000000 ^ i∧H'=H++[.cells (us R)]) B.length ?_ ?_
   ·intro _;exact⟨0,0,O,by omega,rfl,rfl,rfl,dK,hO,by omega,iR,by simp[zao],rfl⟩
   ·rintro q t7 t31 H' ⟨k,c,R,hk,rfl,rfl,rfl,ep,hR,hc,lL,hr,rfl⟩ d7 cS gp Kb2 bE;by_cases eF:k<B.length
    ·have fW:IntKind.i64.wrap ((i:Int)+k)=((i+k:Nat):Int):=by rw[zat (by omega) (by omega)];omega
     have cE:i+k<R.length:=by omega
     have dy:=lB B[k] (List.getElem_mem eF);have dO:=hR R[i+k] (List.getElem_mem cE);have eT:((i:Int)+k).toNat=i+k:=by omega
     have w1:IntKind.u64.wrap ((R[i+k]:Nat):Int)=R[i+k]:=zbl (by omega);have w2:IntKind.u64.wrap ((A[i]:Nat):Int)=A[i]:=zbl (by omega);have w3:IntKind.u64.wrap ((B[k]:Nat):Int)=B[k]:=zbl (by omega);have ff:A[i]*B[k]≤999999999*999999999:=Nat.mul_le_mul (by omega) (by omega);obtain⟨m,hm⟩:∃ m,m=A[i]*B[k]:=⟨_,rfl⟩;have w4:IntKind.u64.wrap (((A[i]:Nat):Int)*(B[k]:Nat))=(m:Int):=by rw[hm,←Int.natCast_mul];exact zbl (by omega)
     obtain⟨s1,be⟩:∃ s,s=m+R[i+k]:=⟨_,rfl⟩;have w5:IntKind.u64.wrap ((m:Int)+(R[i+k]:Nat))=(s1:Int):=by rw[be,←Int.natCast_add];exact zbl (by omega)
     obtain⟨s,c5⟩:∃ s,s=s1+c:=⟨_,rfl⟩;have w6:IntKind.u64.wrap ((s1:Int)+(c:Int))=(s:Int):=by rw[c5,←Int.natCast_add];exact zbl (by omega)
     obtain⟨x,c',bH,bh,bC,e1,e2⟩:=zgd s (by omega);have bb:Kb2 (zil (.sl (zak A) .none) (.sl (zak B) .none) (.ms H.length 0 (A.length+B.length) (A.length+B.length)) (.int .i64 i) (.int .u64 c') (.int .i64 A.length) (.int .i64 i) (.int .i64 B.length) (.int .i64 ((k:Int)+1))) (H++[.cells (us (R.set (i+k) x))]):=by
      have kH:=zjd R (i+k) x cE;have bG:=zdb B k eF;refine bE _ _ ⟨B.length-(k+1),by omega,Back.here (by simp) (hsc _) (by simp[zil,ux,AV.sc,AV.scA,AV.scB,AV.scV]) ⟨_,_,rfl,k+1,c',R.set (i+k) x,by omega,rfl,by simp,rfl,by simp[ep],zyW hR bH,?_,?_,?_,rfl⟩⟩
      ·refine Nat.lt_of_not_le λh=>?_;have:=Nat.mul_le_mul_left 1000000000 h;omega
      ·rw[List.getD_eq_getElem?_getD,List.getElem?_set_ne (by omega),←List.getD_eq_getElem?_getD];exact lL
      ·rw[bG,show i+(k+1)=i+k+1 by omega,Nat.pow_succ];rw[Nat.pow_add]at hr kH ⊢;rw[c5,be,hm]at bh;clear e1 e2 bC aw bE aM d7 aO gp fA hK hs lL iR w1 w2 w3 w4 w5 w6;generalize zao (R.set (i+k) x)=vS at *;generalize R[i+k]=r at *;generalize A[i]=a at *;generalize B[k]=b at *;generalize zao (List.take k B)=T at *;generalize 1000000000 ^ i=P at *;generalize 1000000000 ^ k=Q at *;generalize zao R=vR at *;generalize zao O=vO at *;grind
     simp only[zr5];simp[eF,ap,fW,eT,w1,w2,w3,w4];refine⟨⟨by omega,by omega⟩,?_⟩;rw[zoF R _ cE];simp[w1,w5,w6,e1,e2,bC,fW,eT,wi k (by omega),zzR R (i+k) x cE];exact⟨⟨by omega,by omega⟩,by omega,bb⟩
    ·obtain rfl:k=B.length:=by omega
     have mn:IntKind.i64.wrap ((i:Int)+B.length)=((i+B.length:Nat):Int):=by rw[zat (by omega) (by omega)];omega
     have eT:((i:Int)+B.length).toNat=i+B.length:=by omega
     have cE:i+B.length<R.length:=by omega
     have kH:=zjd R (i+B.length) c cE;rw[List.getD_eq_getElem?_getD,List.getElem?_eq_getElem cE,Option.getD_some]at lL;rw[lL]at kH;simp only[zr5];simp[mn,eT,zcv (show c<4294967296 by omega),wi i (by omega),zzR R (i+B.length) c cE];refine⟨⟨by omega,ap⟩,by omega,?_⟩;refine aw _ _ ⟨A.length-(i+1),by omega,Back.here (by simp) (hsc _) (by simp[zli,ux,AV.sc,AV.scA,AV.scB,AV.scV]) ⟨_,rfl,i+1,R.set (i+B.length) c,by omega,rfl,rfl,by simp[ep],zyW hR hc,?_,rfl⟩⟩;rw[List.take_of_length_le (Nat.le_refl _)]at hr;rw[zdb A i ap];rw[hv]at hr;clear aw bE aM d7 aO gp fA hK hs iR hsc;grind
  ·obtain rfl:i=A.length:=by omega
   rw[List.take_length]at hv;simp[zr4];rw[←dK];refine zzA O hO (by omega) (by simp) ?_;rw[hv];simp;exact Out.one hs (.atom (.sl _ _)) rfl rfl hK
theorem zpu (L:List Nat) (hL:L.length≤100000) (H:zaa) (K:Kt) (hK:K (.bool (decide (L=[1]))) H):ACalls tP zjF [.sl (zak L) .none] H K:=by
 refine ACalls.out (zQO λhs=>?_);have hO:∀ b,b=decide (L=[1])→Out H.length K (.bool b) H:=λb hb=>Out.bool (J:=[]) (by simp) (Nat.le_refl _) hs (by rw[hb];exact hK)
 match L with
 | []=>simp[zmR];exact hO false (by simp)
 | [x]=>
  simp[zmR,zak];refine hO _ ?_;by_cases h:x=1
  ·subst h;rfl
  ·have hb:((x:Int) == 1)=false:=by simp;omega
   rw[hb];simp[h]
 | x::y::l=>
  have hb:((l.length:Int)+1+1 == 1)=false:=by simp;omega
  simp[zmR,hb];exact hO false (by simp)
theorem zGR (neg:Bool) (n:Nat) (hn:(lim n).length≤1000) (H:zaa) (K:Kt) (hK:K (.agg (zai (if neg=true then -(n:Int) else n))) H) :
  ACalls tP zjt [.agg [.bool neg,.sl (zak (lim n)) .none,.sl (zak [1]) .none]] H K:=by
 refine ACalls.out (zBb λhs=>?_);by_cases h0:n=0
 ·subst h0;have e0:(if neg=true then -((0:Nat):Int) else ((0:Nat):Int))=0:=by cases neg <;> rfl
  have e1:zai 0=[.bool false,.sl [] .none,.sl [[.int .u32 1]] .none]:=by simp[zai,zak]
  rw[e0,e1]at hK;simp[zl2,zaw,zaT,plain,AV.pd,zau,zaL,zcE,Nat.add_assoc];exact Out.one hs (WkV.agg (ds:=[.bool false,.sl [] .none,.sl [[.int .u32 1]] .none]) ⟨.refl _,.snil,.sl _ _,trivial⟩) rfl (by simp[AV.scV,AV.scA,AV.scB]) hK
 ·have hp:0<(lim n).length:=by rw[zcg h0];simp
  have hb:(((lim n).length:Int) == 0)=false:=by generalize (lim n).length=q at hp;simp;omega
  have e1:zai (if neg=true then -(n:Int) else n)=[.bool neg,.sl (zak (lim n)) .none,.sl (zak [1]) .none]:=by
   cases neg
   ·simp[zai]
   ·simp[zai];omega
  rw[e1]at hK;simp[zl2,hb,Nat.add_assoc];refine zpu [1] (by simp) _ _ ?_;simp[Nat.add_assoc];exact Out.one hs (WkV.agg (ds:=[.bool neg,.sl (zak (lim n)) .none,.sl (zak [1]) .none]) ⟨.refl _,.sl _ _,.sl _ _,trivial⟩) rfl (by simp[AV.scV,AV.scA,AV.scB]) hK
theorem zkB (neg:Bool) (n:Nat) (hn:(lim n).length≤1000) {z:Int} (hz:(if neg=true then -(n:Int) else n)=z) (H:zaa) (K:Kt) (hK:K (.agg (zai z)) H) :
  ACalls tP zeW [.agg [.bool neg,.sl (zak (lim n)) .none,.sl (zak [1]) .none]] H K:=by
 refine ACalls.out (zAr λhs=>?_);simp[zr2,Nat.add_assoc];refine zGR neg n hn _ _ ?_;rw[hz];simp[zai,zau,zaL,zcE,AV.known,Nat.add_assoc];exact zbN hs hK
theorem zgj (z:Int) (hz:(lim z.natAbs).length≤1000) (H:zaa) (K:Kt) (hK:K (.agg (zai z)) H):ACalls tP zeq [.agg (zai z)] H K:=by
 refine ACalls.out (zAs λhs=>?_);simp[zr3,zai,Nat.add_assoc];refine zaB (.sl (zak (lim z.natAbs)) .none) (λJ=>zj9 _ (zht _) (by omega) _ _ (by rw[zbe];exact⟨rfl,rfl⟩)) ?_;refine zaB (.sl (zak [1]) .none) (λJ=>zj9 [1] (by simp) (by simp) _ _ (by simp[zao,zcY])) ?_;by_cases h0:z=0
 ·subst h0;have e1:zai 0=[.bool false,.sl [] .none,.sl [[.int .u32 1]] .none]:=by simp[zai,zak]
  rw[e1]at hK;simp[zaw,zaT,plain,AV.pd,zau,zaL,zcE,Nat.add_assoc];exact Out.one hs (WkV.agg (ds:=[.bool false,.sl [] .none,.sl [[.int .u32 1]] .none]) ⟨.refl _,.snil,.sl _ _,trivial⟩) rfl (by simp[AV.scV,AV.scA,AV.scB]) hK
 ·have hp:0<(lim z.natAbs).length:=by rw[zcg (by omega)];simp
  have hb:(((lim z.natAbs).length:Int) == 0)=false:=by generalize (lim z.natAbs).length=q at hp;simp;omega
  simp[hb,zau,zaL,zcE,AV.known,Nat.add_assoc];exact zbN hs hK
theorem zpz (n:Nat) (hn:n<9223372036854775808) (H:zaa) (K:Kt) (hK:K (.sl (zak (lim n)) .none) H):ACalls tP zhD [.int .i64 n] H K:=by
 refine ACalls.out (zK7 λhs=>?_);have w1:IntKind.u64.wrap (n:Int)=n:=zbl (by omega);have h0:¬ ((n:Int)<0):=by omega
 simp[zAq,h0,w1];refine zpj n (by omega) _ _ ?_;exact Out.one0 hs (.atom (.sl _ _)) rfl rfl hK
theorem zeF (n:Nat) (hn:n<9223372036854775808) (H:zaa) (K:Kt) (hK:K (.agg (zai n)) H):ACalls tP zdx [.int .i64 n] H K:=by
 refine ACalls.out (zVq λhs=>?_);have h0:decide ((n:Int)<0)=false:=by simp
 have hl:=zbI (n:=n) (k:=3) (by omega);simp[zD3,Nat.add_assoc];refine zpz n hn _ _ ?_;simp[h0,zaw,zaT,plain,AV.pd,zau,zaL,zcE,AV.known,Nat.add_assoc];refine ACalls.wk (args':=[.agg [.bool false,.sl (zak (lim n)) .none,.sl (zak [1]) .none]]) (zkB false n (by omega) (z:=n) (by simp) _ _ ?_) ⟨.agg ⟨.refl _,.refl _,.sl _ _,trivial⟩,trivial⟩;simp[zh3,Nat.add_assoc];exact zbN hs hK
theorem zhz (a b:Nat) (ha:a<1000000000 ^ 30) (hb:b<1000000000 ^ 30) (H:zaa) (K:Kt) (hK:K (.sl (zak (lim (a*b))) .none) H):ACalls tP zdN [.sl (zak (lim a)) .none,.sl (zak (lim b)) .none] H K:=by have h1:=zbI ha;have h2:=zbI hb;refine zG3 (lim a) (lim b) (zbT a) (zbT b) (by omega) (by omega) _ _ ?_;rw[zbe,zbe];exact hK
theorem zxJ (H:zaa) (K:Kt) (hK:K (.sl (zak [1]) .none) H):ACalls tP zdN [.sl (zak [1]) .none,.sl (zak [1]) .none] H K:=by have:=zhz 1 1 zeZ zeZ H K (by rw[Nat.mul_one,zcY];exact hK);rwa [zcY]at this
theorem znX (a b:Int) (ha:Sm a) (hb:Sm b) (H:zaa) (K:Kt) (hK:K (.agg (zai (a*b))) H):ACalls tP zfB [.agg (zai a),.agg (zai b)] H K:=by refine ACalls.out (zD4 λhs=>?_);have la:=ha.len;have lb:=hb.len;have hm:=zbI (zxP ha hb);simp[zuX,zai,Nat.add_assoc];refine zaB (.agg (zai a)) (λJ=>zgj a (by omega) _ _ ⟨rfl,rfl⟩) ?_;refine zaB (.agg (zai b)) (λJ=>zgj b (by omega) _ _ ⟨rfl,rfl⟩) ?_;simp[zai,AV.known,Nat.add_assoc];refine zaB (.sl (zak (lim (a.natAbs*b.natAbs))) .none) (λJ=>zhz _ _ ha hb _ _ ⟨rfl,rfl⟩) ?_;refine zaB (.sl (zak [1]) .none) (λJ=>zxJ _ _ ⟨rfl,rfl⟩) ?_;simp[zau,zaL,zcE,AV.known,Nat.add_assoc];refine zaB (.agg (zai (a*b))) (λJ=>zkB _ _ (by omega) (zyY a b) _ _ ⟨rfl,rfl⟩) ?_;simp[Nat.add_assoc];exact zbN hs hK
theorem zF0 (a b:Nat) (ha:(lim a).length≤1000) (hb:(lim b).length≤1000) (H:zaa) (K:Kt) (hK:K (.int .i64 (zce a b)) H) :
  ACalls tP zjy [.sl (zak (lim a)) .none,.sl (zak (lim b)) .none] H K:=by
 refine ACalls.out (zPB λhs=>?_);have hO:∀ r,r=zce a b→Out H.length K (.int .i64 r) H:=λr hr=>Out.int (J:=[]) (by simp) (Nat.le_refl _) hs (by rw[hr];exact hK);have lA:=zbT a;have lB:=zbT b;have vA:=zbe a;have vB:=zbe b;by_cases aD:(lim a).length=(lim b).length
 ·simp[zmu,aD];generalize hLA:lim a=A at *;generalize hLB:lim b=B at *;have eO:IntKind.i64.wrap ((B.length:Int)-1)=(B.length:Int)-1:=zat (by omega) (by omega);rw[eO];refine zPz (Inv:=λq t5 H'=>∃ i:Nat,i≤B.length∧i=q∧t5=.int .i64 ((i:Int)-1)∧H'=H∧A.drop i=B.drop i) B.length ?_ ?_
  ·intro _;exact⟨B.length,by omega,rfl,rfl,rfl,by rw[List.drop_of_length_le (by omega),List.drop_of_length_le (by omega)]⟩
  ·rintro q t5 H' ⟨i,hi,rfl,rfl,rfl,hd⟩ aM aq aO Kb aw;by_cases h0:i=0
   ·subst h0;simp[ziv];refine hO _ ?_;simp at hd;rw[←vA,←vB,hd];simp[zce]
   ·obtain⟨j,rfl⟩:∃ j,i=j+1:=⟨i-1,by omega⟩;have dJ:j<A.length:=by omega
    have gm:j<B.length:=by omega
    have ej:((j+1:Nat):Int)-1=(j:Int):=by omega
    have aP:IntKind.i64.wrap ((j:Int)-1)=(j:Int)-1:=zat (by omega) (by omega);rw[ej];rcases Nat.lt_trichotomy A[j] B[j] with h | h | h
    ·have:=zjc aD lA j dJ hd h;simp[ziv,dJ,gm,h];exact hO _ (by rw[←vA,←vB];simp[zce,this])
    ·simp[ziv,dJ,gm,h,aP];refine aw _ _ ⟨j,by omega,Back.here (by simp) hs (by simp[zmw,ux,AV.sc,AV.scA,AV.scB,AV.scV]) ⟨_,rfl,j,by omega,rfl,rfl,rfl,?_⟩⟩;rw[List.drop_eq_getElem_cons dJ,List.drop_eq_getElem_cons gm,hd,h]
    ·have:=zjc aD.symm lB j gm hd.symm h;simp[ziv,dJ,gm,h,Nat.le_of_lt h,Nat.not_lt.2 (Nat.le_of_lt h)];exact hO _ (by rw[←vA,←vB];simp[zce,this,Nat.not_lt.2 (Nat.le_of_lt this)])
 ·have ga:(((lim a).length:Int) != ((lim b).length:Int))=true:=by simp;omega
  by_cases ap:(lim a).length<(lim b).length
  ·have:=zhv ap;simp[zmu,ga,ap];exact hO (-1) (by simp[zce,this])
  ·have:=zhv (show (lim b).length<(lim a).length by omega);simp[zmu,ga,ap];exact hO 1 (by simp[zce,this,Nat.not_lt.2 (Nat.le_of_lt this)])
theorem zGg (A:List Nat) (lA:∀ x∈A,x<1000000000) (ha:A.length≤1000) (d:Nat) (dq:0<d) (hd:d<4294967296) (hdB:d≤1000000000) (H:zaa) (K:Kt)
  (hK:K (.tup [.sl (zak (lim (zao A / d))) .none,.int .u64 ((zao A % d:Nat):Int)]) H) :
  ACalls tP zqh [.sl (zak A) .none,.int .u64 d] H K:=by
 refine ACalls.out (zR5 λhs=>?_);have aT:IntKind.i64.wrap ((A.length:Int)-1)=(A.length:Int)-1:=zat (by omega) (by omega);simp[zCP,zba,aT];rw[zif];refine⟨⟨by omega,by omega⟩,?_⟩;have hsc:∀ O:List Nat,HSc (H++[.cells (us O)]):=λO=>hs.append (by simp[AB.sc,us,AV.scA,AV.scB]);refine zR3 (Inv:=λq t7 t8 H'=>∃ (i r:Nat) (O:List Nat),i≤A.length∧i=q∧t8=.int .i64 ((i:Int)-1)∧t7=.int .u64 r∧r<d∧O.length=A.length∧(∀ x∈O,x<1000000000) ∧
  zao (A.drop i)=d*zao (O.drop i)+r∧H'=H++[.cells (us O)]) A.length ?_ ?_
 ·intro _;exact⟨A.length,0,_,by omega,rfl,rfl,rfl,by omega,by simp,by simp,by simp[zao],rfl⟩
 ·rintro q t7 t8 H' ⟨i,r,O,hi,rfl,rfl,rfl,hr,dK,hO,hv,rfl⟩ aM aq aO Kb aw;by_cases h0:i=0
  ·subst h0;simp[ztV];rw[List.drop_zero,List.drop_zero]at hv;rw[←dK];refine zzA O hO (by omega) (by simp) ?_;have e1:zao A / d=zao O:=by rw[hv,Nat.mul_add_div dq,Nat.div_eq_of_lt hr];simp
   have e2:zao A % d=r:=by rw[hv,Nat.mul_add_mod,Nat.mod_eq_of_lt hr]
   rw[e1,e2]at hK;simp;exact⟨⟨rfl,rfl⟩,Out.tup (bs:=[.sl (zak (lim (zao O))) .none,.int .u64 (r:Int)]) hs hK ⟨slV,zaU rfl rfl,trivial⟩⟩
  ·obtain⟨j,rfl⟩:∃ j,i=j+1:=⟨i-1,by omega⟩;have dJ:j<A.length:=by omega
   have kI:j<O.length:=by omega
   have e8:=lA A[j] (List.getElem_mem dJ);have ej:((j+1:Nat):Int)-1=(j:Int):=by omega
   have aP:IntKind.i64.wrap ((j:Int)-1)=(j:Int)-1:=zat (by omega) (by omega);have hrB:r*1000000000≤1000000000*1000000000:=Nat.mul_le_mul_right _ (by omega);obtain⟨m,hm⟩:∃ m,m=r*1000000000:=⟨_,rfl⟩;have w1:IntKind.u64.wrap ((r:Int)*1000000000)=(m:Int):=by rw[show (r:Int)*1000000000=(m:Int) by omega];exact zbl (by omega)
   have w2:IntKind.u64.wrap ((A[j]:Nat):Int)=A[j]:=zbl (by omega);obtain⟨s,be⟩:∃ s,s=m+A[j]:=⟨_,rfl⟩;have w3:IntKind.u64.wrap ((m:Int)+(A[j]:Nat))=(s:Int):=by rw[be,←Int.natCast_add];exact zbl (by omega)
   obtain⟨x,c,bH,bh,e1,e2⟩:=zpc s d dq (by omega);have mC:c<1000000000:=by
    refine Nat.lt_of_not_le λh=>?_;have h1:d*1000000000≤d*c:=Nat.mul_le_mul_left _ h;have h2:r*1000000000+1000000000≤d*1000000000:=by rw[←Nat.succ_mul];exact Nat.mul_le_mul_right _ hr
    omega
   have w4:IntKind.u32.wrap (c:Int)=c:=zcv (by omega);rw[ej];simp only[ztV];simp[dJ,w1,w2,w3,e1,e2,w4,aP,zkO O j c kI,dK];refine⟨by omega,aw _ _ ⟨j,by omega,Back.here (by simp) (hsc _) (by simp[zm4,ux,AV.sc,AV.scA,AV.scB,AV.scV]) ⟨_,_,rfl,j,x,O.set j c,by omega,rfl,rfl,rfl,bH,by simp[dK],zra hO mC,?_,rfl⟩⟩⟩;rw[zhw A j dJ,zhw (O.set j c) j (by simpa using kI),List.getElem_set_self,List.drop_set_of_lt (by omega),hv];rw[be,hm]at bh;generalize zao (O.drop (j+1))=Z at *;grind
theorem zwU (a b:Nat) (ha:(lim a).length≤1000) (bJ:0<b) (hb:b<1000000000) (H:zaa) (K:Kt)
  (hK:K (.tup [.sl (zak (lim (a / b))) .none,.sl (zak (lim (a % b))) .none]) H) :
  ACalls tP zhI [.sl (zak (lim a)) .none,.sl (zak (lim b)) .none] H K:=by
 refine ACalls.out (zQ0 λhs=>?_);have bn:lim b=[b]:=zeT (by omega) hb;simp only[zCx];refine zF0 a b ha (by rw[bn];simp) _ _ ?_;have fU:(zce a b<0)↔a<b:=by
  unfold zce;split
  ·simp;assumption
  ·split <;> simp <;> omega
 by_cases ap:a<b
 ·simp[fU,ap];rw[Nat.div_eq_of_lt ap,Nat.mod_eq_of_lt ap,zxv]at hK;simp[zax,zaN,zaK];refine⟨zd8 _,⟨by omega,by omega⟩,⟨rfl,rfl⟩,?_⟩;exact Out.tup (bs:=[.sl (zak []) .none,.sl (zak (lim a)) .none]) hs hK ⟨zdS,slV,trivial⟩
 ·have w1:IntKind.u64.wrap (b:Int)=b:=zbl (by omega);have hm:a % b<b:=Nat.mod_lt _ bJ;simp[fU,ap,bn,w1];refine zGg (lim a) (zbT a) ha b bJ (by omega) (by omega) _ _ ?_;rw[zbe];simp;refine zpj (a % b) (by omega) _ _ ?_;refine⟨⟨rfl,rfl⟩,?_⟩;exact Out.tup0 (bs:=[.sl (zak (lim (a / b))) .none,.sl (zak (lim (a % b))) .none]) hs hK ⟨slV,slV,trivial⟩
theorem zzY (n:Nat) (hn:n<1000000000000000000) (H:zaa) (K:Kt) (hK:K (.tup [.int .u64 n,.bool true]) H):ACalls tP zjK [.sl (zak (lim n)) .none] H K:=by
 refine ACalls.out (zRZ λhs=>?_);have dT:(lim n).length≤2:=zbI (by omega);have lA:=zbT n;have vA:=zbe n;generalize lim n=L at *;simp[zCN];refine zRX (Inv:=λq t4 t9 H'=>∃ i:Nat,i≤L.length∧L.length-i=q∧t9=.int .i64 i∧t4=.int .u64 ((zao (L.drop (L.length-i)):Nat):Int)∧H'=H) L.length ?_ ?_
 ·intro _;exact⟨0,by omega,rfl,rfl,by simp[zao],rfl⟩
 ·rintro q t4 t9 H' ⟨i,hi,rfl,rfl,rfl,rfl⟩ aM aq aO Kb aw;by_cases ap:i<L.length
  ·have w1:IntKind.i64.wrap ((L.length:Int)-1)=((L.length-1:Nat):Int):=by rw[zat (by omega) (by omega)];omega
   have w2:IntKind.i64.wrap (((L.length-1:Nat):Int)-i)=((L.length-1-i:Nat):Int):=by rw[zat (by omega) (by omega)];omega
   have hj:L.length-1-i<L.length:=by omega
   have hx:=lA L[L.length-1-i] (List.getElem_mem hj);obtain⟨x,ef⟩:∃ x,x=L[L.length-1-i]:=⟨_,rfl⟩;have w3:IntKind.u64.wrap ((L[L.length-1-i]:Nat):Int)=(x:Int):=by rw[←ef];exact zbl (by omega)
   have bK:=zhw L (L.length-1-i) hj;rw[show L.length-1-i+1=L.length-i by omega,←ef]at bK;have iL:zao (L.drop (L.length-i))<1000000000:=by
    have h1:=zdM (L.drop (L.length-i)) (λy hy=>lA y (List.mem_of_mem_drop hy));have h2:(L.drop (L.length-i)).length≤1:=by simp;omega
    have h3:1000000000 ^ (L.drop (L.length-i)).length≤1000000000 ^ 1:=Nat.pow_le_pow_right (by omega) h2;omega
   have bb:zao (L.drop (L.length-(i+1)))=zao (L.drop (L.length-i))*1000000000+x:=by rw[show L.length-(i+1)=L.length-1-i by omega,bK];omega
   generalize hW:zao (L.drop (L.length-i))=W at *;have w4:IntKind.u64.wrap (18446744073709551615-(x:Int))=((18446744073709551615-x:Nat):Int):=by rw[show (18446744073709551615:Int)-x=((18446744073709551615-x:Nat):Int) by omega];exact zbl (by omega)
   obtain⟨y,mL⟩:∃ y,y=18446744073709551615-x:=⟨_,rfl⟩;rw[←mL]at w4;obtain⟨r,c,f7,eZ,lm,e1,e2⟩:=zgd y (by omega);have hc:¬ (c<W):=by omega
   have w5:IntKind.u64.wrap ((W:Int)*1000000000)=((W*1000000000:Nat):Int):=by rw[show (W:Int)*1000000000=((W*1000000000:Nat):Int) by omega];exact zbl (by omega)
   obtain⟨m,ct⟩:∃ m,m=W*1000000000:=⟨_,rfl⟩;rw[←ct]at w5;obtain⟨s,iA⟩:∃ s,s=m+x:=⟨_,rfl⟩;have w6:IntKind.u64.wrap ((m:Int)+x)=(s:Int):=by rw[iA,←Int.natCast_add];exact zbl (by omega)
   simp only[ztT];simp[ap,w1,w2,hj,w3,w4,e2,hc,w5,w6,wi i (by omega)];exact aw _ _ ⟨L.length-(i+1),by omega,Back.here (by simp) hs (by simp[zm2,ux,AV.sc,AV.scA,AV.scB,AV.scV]) ⟨_,_,rfl,i+1,by omega,rfl,rfl,by rw[bb,iA,ct],rfl⟩⟩
  ·obtain rfl:i=L.length:=by omega
   rw[Nat.sub_self,List.drop_zero,vA];simp[ztT];exact⟨⟨rfl,rfl⟩,Out.tup0 (bs:=[.int .u64 (n:Int),.bool true]) hs hK ⟨zaU rfl rfl,zaU rfl rfl,trivial⟩⟩
theorem zGq (a b:Nat) (ha:a<1000000000000000000) (hb:b<1000000000000000000) (H:zaa) (K:Kt) (hK:K (.sl (zak (lim (Nat.gcd a b))) .none) H) :
  ACalls tP zp9 [.sl (zak (lim a)) .none,.sl (zak (lim b)) .none] H K:=by
 refine ACalls.out (zQU λhs=>?_);have la:(lim a).length≤2:=zbI (by omega);have lb:(lim b).length≤2:=zbI (by omega);unfold zCs;refine zQR (Inv:=λq t0 t1 H'=>t0=.sl (zak (lim a)) .none∧t1=.sl (zak (lim b)) .none∧H'=H) 0 ?_ ?_
 ·intro _;exact⟨rfl,rfl,rfl⟩
 ·rintro q t0 t1 H' ⟨rfl,rfl,rfl⟩ aM aq aO Kb aw;by_cases h0:b=0
  ·subst h0;rw[Nat.gcd_zero_right]at hK;simp[ztB];exact Out.one0 hs (.atom (.sl _ _)) rfl rfl hK
  ·have hp:0<(lim b).length:=by rw[zcg h0];simp
   have jZ:decide (((lim a).length:Int)≤2)=true:=by simp;omega
   have bn:decide (((lim b).length:Int)≤2)=true:=by simp;omega
   simp[ztB,hp,jZ,bn];refine zzY a ha _ _ ?_;simp;refine zzY b hb _ _ ?_;simp;refine zQS (Inv:=λq t5 t7 H2=>∃ x y:Nat,y=q∧t5=.int .u64 x∧t7=.int .u64 y∧x<1000000000000000000∧y<1000000000000000000∧Nat.gcd x y=Nat.gcd a b∧H2=H') b ?_ ?_
   ·intro _;exact⟨a,b,rfl,rfl,rfl,ha,hb,rfl,rfl⟩
   ·rintro q t5 t7 H2 ⟨x,y,rfl,rfl,rfl,hx,hy,hg,rfl⟩ cv d5 ik Kb2 bE;by_cases mL:y=0
    ·subst mL;rw[Nat.gcd_zero_right]at hg;subst hg;simp[ztC];refine zpj _ (by omega) _ _ ?_;exact Out.one0 hs (.atom (.sl _ _)) rfl rfl hK
    ·obtain⟨r,c,f7,eZ,e1,_⟩:=zpc x y (by omega) (by omega);simp only[ztC];simp[show 0<y by omega,e1];refine bE _ _ ⟨r,by omega,Back.here (by simp) hs (by simp[zmS,ux,AV.sc,AV.scA,AV.scB,AV.scV]) ⟨_,_,rfl,y,r,rfl,rfl,rfl,hy,by omega,?_,rfl⟩⟩;have gT:r=x % y:=by rw[eZ,Nat.add_mul_mod_self_left,Nat.mod_eq_of_lt f7]
     rw[←hg,gT,Nat.gcd_comm x y,Nat.gcd_rec y x,Nat.gcd_comm]
def zbJ (neg:Bool) (n d:Nat):List AV:=[.bool neg,.sl (zak (lim n)) .none,.sl (zak (lim d)) .none]
@[simp] theorem ybe (b:Bool) (n d:Nat):(zbJ b n d).length=3:=rfl
@[simp] theorem ybd (b:Bool) (n d:Nat):(∀ x∈zbJ b n d,x.known=true)=True:=by simp[zbJ,AV.known]
@[simp] theorem ybf (b:Bool) (n d:Nat):List.take 3 (zbJ b n d)=zbJ b n d:=rfl
theorem zgr {H J:zaa} {K:Kt} {b:Bool} {n d:Nat} (hs:HSc H) (hK:K (.agg (zbJ b n d)) H):Out H.length K (.agg (zbJ b n d)) (H++J):=Out.one hs .rfl' rfl rfl hK
theorem zi9 {n:Nat}:lim n=[1]↔n=1:=by
 constructor
 ·intro h;have:=zbe n;rw[h]at this;simp[zao]at this;omega
 ·rintro rfl;exact zcY
theorem zGQ (neg:Bool) (n d:Nat) (fp:n≠0) (dq:d≠0) (hn:n<1000000000000000000) (hd:d<1000000000000000000) (hg:Nat.gcd n d<1000000000) (H:zaa) (K:Kt) (hK:K (.agg (zbJ neg (n / Nat.gcd n d) (d / Nat.gcd n d))) H) :
  ACalls tP zjt [.agg (zbJ neg n d)] H K:=by
 refine ACalls.out (zBb λhs=>?_);have ln:(lim n).length≤2:=zbI (by omega);have ld:(lim d).length≤2:=zbI (by omega);have hp:0<(lim n).length:=by rw[zcg fp];simp
 have hb:(((lim n).length:Int) == 0)=false:=by generalize (lim n).length=q at hp;simp;omega
 have dN:0<Nat.gcd n d:=Nat.gcd_pos_of_pos_left d (by omega);have lg:(lim (Nat.gcd n d)).length≤2:=zbI (by omega);simp[zl2,zbJ,hb,Nat.add_assoc];refine zpu (lim d) (by omega) _ _ ?_;by_cases gZ:d=1
 ·subst gZ;rw[Nat.gcd_one_right,Nat.div_one,Nat.div_one]at hK;simp[zi9,Nat.add_assoc];exact zgr hs hK
 ·simp[zi9,gZ,Nat.add_assoc];refine zGq n d hn hd _ _ ?_;refine zpu _ (by omega) _ _ ?_;by_cases eY:Nat.gcd n d=1
  ·rw[eY,Nat.div_one,Nat.div_one]at hK;simp[zi9,eY,Nat.add_assoc];exact zgr hs hK
  ·simp[zi9,eY,Nat.add_assoc];refine zwU n _ (by omega) dN hg _ _ ?_;simp[Nat.add_assoc];refine zwU d _ (by omega) dN hg _ _ ?_;simp[zau,zaL,zcE,AV.known,Nat.add_assoc];exact zgr hs hK
theorem zy7 (neg:Bool) (n d:Nat) (fp:n≠0) (dq:d≠0) (hn:n<1000000000000000000) (hd:d<1000000000000000000) (hg:Nat.gcd n d<1000000000) (H:zaa) (K:Kt) (hK:K (.agg (zbJ neg (n / Nat.gcd n d) (d / Nat.gcd n d))) H) :
  ACalls tP zeW [.agg (zbJ neg n d)] H K:=by
 refine ACalls.out (zAr λhs=>?_);simp[zr2,zbJ,Nat.add_assoc];refine zGQ neg n d fp dq hn hd hg _ _ ?_;simp[zbJ,zau,zaL,zcE,AV.known,Nat.add_assoc];exact zgr hs hK
theorem zRM (a b:Nat) (iq:a≠0) (bJ:b≠0) (ha:a<1000000000) (hb:b<1000000000) (H:zaa) (K:Kt) (hK:K (.agg (zbJ false (a / Nat.gcd a b) (b / Nat.gcd a b))) H) :
  ACalls tP zqe [.int .i64 a,.int .i64 b] H K:=by
 refine ACalls.out (zRL λhs=>?_);have h0:decide ((a:Int)<0)=false:=by simp
 have h1:decide ((b:Int)<0)=false:=by simp
 have h2:((b:Int) == 0)=false:=by simp;omega
 have hg:Nat.gcd a b<1000000000:=Nat.lt_of_le_of_lt (Nat.gcd_le_right a (by omega)) hb;simp[zCK,h2,h0,h1,Nat.add_assoc];refine zpz a (by omega) _ _ ?_;refine zpz b (by omega) _ _ ?_;simp[zau,zaL,zcE,AV.known,Nat.add_assoc];refine zy7 false a b iq bJ (by omega) (by omega) hg _ _ ?_;simp[Nat.add_assoc];exact zgr hs hK
theorem zxw (neg:Bool) (n d:Nat) (fp:n≠0) (dq:d≠0) (hn:(lim n).length≤1000) (hd:(lim d).length≤1000) (H:zaa) (K:Kt) (hK:K (.agg (zbJ neg n d)) H):ACalls tP zeq [.agg (zbJ neg n d)] H K:=by
 refine ACalls.out (zAs λhs=>?_);have hz:∀ m:Nat,m≠0→(((lim m).length:Int) == 0)=false:=λm hm=>by
  have hp:0<(lim m).length:=by rw[zcg hm];simp
  generalize (lim m).length=q at hp;simp;omega
 simp[zr3,zbJ,Nat.add_assoc];refine zaB (.sl (zak (lim n)) .none) (λJ=>zj9 _ (zht _) (by omega) _ _ (by rw[zbe];exact⟨rfl,rfl⟩)) ?_;refine zaB (.sl (zak (lim d)) .none) (λJ=>zj9 _ (zht _) (by omega) _ _ (by rw[zbe];exact⟨rfl,rfl⟩)) ?_;simp[hz n fp,hz d dq,zau,zaL,zcE,AV.known,Nat.add_assoc];exact zgr hs hK
theorem zyx (n:Nat):zbJ false n 1=zai (n:Int):=by unfold zbJ zai;rw[zcY,Int.natAbs_natCast,decide_eq_false (by omega)]
theorem zGZ (a:Nat) (ha:a<1000000000 ^ 30) (H:zaa) (K:Kt) (hK:K (.sl (zak (lim a)) .none) H):ACalls tP zdN [.sl (zak [1]) .none,.sl (zak (lim a)) .none] H K:=by have:=zhz 1 a zeZ ha H K (by rw[Nat.one_mul];exact hK);rwa [zcY]at this
theorem zE0 (c p q r:Nat) (dx:p≠0) (lM:q≠0) (dW:c≠0) (hp:p<1000000000) (hq:q<1000000000) (hcp:c*p<1000000000000000000) (hr:c*p=r*q) (H:zaa) (K:Kt) (hK:K (.agg (zai (r:Int))) H) :
  ACalls tP zfB [.agg (zai (c:Int)),.agg (zbJ false p q)] H K:=by
 refine ACalls.out (zD4 λhs=>?_);have hc:c<1000000000000000000:=Nat.lt_of_le_of_lt (Nat.le_mul_of_pos_right c (by omega)) hcp;have lc:=zbI (n:=c) (k:=2) (by omega);have lp:=zbI (n:=p) (k:=1) (by omega);have lq:=zbI (n:=q) (k:=1) (by omega);have b30:(1000000000000000000:Nat)≤1000000000 ^ 30:=by decide
 have hg:Nat.gcd (c*p) q=q:=by rw[hr];exact Nat.gcd_eq_right (Nat.dvd_mul_left q r)
 have hcp0:c*p≠0:=Nat.mul_ne_zero dW dx;rw[←zyx c];simp[zuX,zbJ,Nat.add_assoc];refine zaB (.agg (zbJ false c 1)) (λJ=>zxw false c 1 dW (by omega) (by omega) (by rw[zcY];simp) _ _ ⟨rfl,rfl⟩) ?_;refine zaB (.agg (zbJ false p q)) (λJ=>zxw false p q dx lM (by omega) (by omega) _ _ ⟨rfl,rfl⟩) ?_;simp[zbJ,AV.known,Nat.add_assoc];refine zaB (.sl (zak (lim (c*p))) .none) (λJ=>zhz _ _ (by omega) (by omega) _ _ ⟨rfl,rfl⟩) ?_;rw[zcY];refine zaB (.sl (zak (lim q)) .none) (λJ=>zGZ _ (by omega) _ _ ⟨rfl,rfl⟩) ?_;simp[zau,zaL,zcE,AV.known,Nat.add_assoc];refine zaB (.agg (zai (r:Int))) (λJ=>zy7 false (c*p) q hcp0 lM hcp (by omega) (by rw[hg];exact hq) _ _ (by
  rw[hg,Nat.div_self (by omega),hr,Nat.mul_div_cancel _ (by omega),zyx];exact⟨rfl,rfl⟩)) ?_
 simp[Nat.add_assoc];exact zbN hs hK
theorem zwB:∀ {n k:Nat},k≤n→0<chs n k
 | n,0,_=>by simp
 | n+1,k+1,h=>by have:=zwB (n:=n) (k:=k) (by omega);rw[chs];omega
theorem zw1 (n k:Nat) (hn:n≤900) (hk:k≤6) (H:zaa) (K:Kt) (hK:K (.agg (zai (chs n k))) H):ACalls tP zjz [.int .i64 n,.int .i64 k] H K:=by
 refine ACalls.out (zPN λhs=>?_);simp[zB9,Nat.add_assoc];refine zeF 1 (by omega) _ _ ?_;simp[Nat.add_assoc];have hsc:∀ z:Int,HSc (H++[.cells [.bool false,.snil,.snil],.cells (zai z)]):=λz=>hs.append (by simp[AB.sc,zai,AV.scA,AV.scB]);refine zPL (Inv:=λq t9 H'=>∃ i:Nat,i≤k∧i≤n∧k-i=q∧t9=.int .i64 i∧H'=H++[.cells [.bool false,.snil,.snil],.cells (zai ((chs n i:Nat):Int))]) k ?_ ?_
 ·intro _;exact⟨0,by omega,by omega,rfl,rfl,by simp⟩
 ·rintro q t9 H' ⟨i,hi,g9,rfl,rfl,rfl⟩ aM aq aO Kb aw;by_cases ap:i<k
  ·by_cases kq:n=i
   ·subst kq;rw[zga ap]at hK;simp[zmA,ap,Nat.add_assoc];refine zeF 0 (by omega) _ _ ?_;simp[Nat.add_assoc];exact zbN hs hK
   ·have hb:((n:Int) == (i:Int))=false:=by simp;omega
    have lC:chs n i≤900 ^ 5:=by refine Nat.le_trans (zha n i) (Nat.le_trans (Nat.pow_le_pow_left hn i) (Nat.pow_le_pow_right (by omega) (by omega)))
    have w1:IntKind.i64.wrap ((n:Int)-i)=((n-i:Nat):Int):=by rw[zat (by omega) (by omega)];omega
    obtain⟨d,hd⟩:∃ d,d=n-i:=⟨_,rfl⟩;rw[←hd]at w1;obtain⟨j,hj⟩:∃ j,j=i+1:=⟨_,rfl⟩;have w2:IntKind.i64.wrap ((i:Int)+1)=(j:Int):=by rw[wi i (by omega),hj]
    have dN:0<Nat.gcd d j:=Nat.gcd_pos_of_pos_left j (by omega);have hp:=Nat.div_mul_cancel (Nat.gcd_dvd_left d j);have hq:=Nat.div_mul_cancel (Nat.gcd_dvd_right d j);have aP:=zhb n i;rw[←hd,←hj]at aP;have hpd:=Nat.div_le_self d (Nat.gcd d j);have hqj:=Nat.div_le_self j (Nat.gcd d j);have dx:d / Nat.gcd d j≠0:=λh=>by rw[h]at hp;omega
    have lM:j / Nat.gcd d j≠0:=λh=>by rw[h]at hq;omega
    have hr:chs n i*(d / Nat.gcd d j)=chs n j*(j / Nat.gcd d j):=by refine Nat.eq_of_mul_eq_mul_right dN ?_;rw[Nat.mul_assoc,hp,Nat.mul_assoc,hq,←aP,Nat.mul_comm]
    have mM:chs n i*(d / Nat.gcd d j)<1000000000000000000:=Nat.lt_of_le_of_lt (Nat.mul_le_mul lC (Nat.le_trans hpd (show d≤900 by omega))) (by decide);simp[zmA,ap,hb,w1,w2,Nat.add_assoc];refine zaB (.agg (zbJ false (d / Nat.gcd d j) (j / Nat.gcd d j))) (λJ=>zRM d j (by omega) (by omega) (by omega) (by omega) _ _ ⟨rfl,rfl⟩) ?_;refine zaB (.agg (zai ((chs n j:Nat):Int))) (λJ=>zE0 _ _ _ _ dx lM (by have:=zwB g9;omega) (by omega) (by omega) mM hr _ _ ⟨rfl,rfl⟩) ?_;simp[Nat.add_assoc];exact aw _ _ ⟨k-(i+1),by omega,Back.here (by simp) (hsc _) (by simp[zmB,ux,AV.sc,AV.scA,AV.scB,AV.scV]) ⟨_,rfl,j,by omega,by omega,by omega,rfl,rfl⟩⟩
  ·obtain rfl:i=k:=by omega
   simp[zmA,Nat.add_assoc];exact zbN hs hK
theorem zyj {H:zaa} {K:Kt} (R:List Nat) (hs:HSc H) (hK:K (.sl (zak R) .none) H):Out H.length K (.ov H.length R.length) (H++[.vec za8 1 R.length (us R)]):=
 ⟨.sl (zak R) .none,H,[.vec za8 1 R.length (us R)],rfl,Nat.le_refl _,hs,.one (.vfz H.length za8 1 R.length (us R) (zak R) (Nat.le_refl _) (by simp) (by rw[zkN,zie]) (by simp) (zd8 R)),hK⟩
theorem zv7 (A B:List Nat) (lA:∀ x∈A,x<1000000000) (lB:∀ x∈B,x<1000000000) (ha:A.length≤1000) (hb:B.length≤A.length) (cA:lim (zao A)=A) (H:zaa) (K:Kt) (hs:HSc H)
  (hK:K (.sl (zak (lim (zao A+zao B))) .none) H):zmr (.sl (zak A) .none) (.sl (zak B) .none) H (Out H.length K):=by
 have hsc:∀ R:List Nat,HSc (H++[.vec za8 1 R.length (us R)]):=λA=>hs.append (by simp[AB.sc,us,AV.scA,AV.scB]);simp[zmr,wi A.length (by omega)];refine⟨⟨by omega,by omega,by omega⟩,?_⟩;refine zPp (Inv:=λq t5 t6 t22 H'=>∃ (i c:Nat) (R:List Nat),i≤A.length∧A.length-i=q∧t22=.int .i64 i∧t6=.int .u32 c∧t5=.ov H.length R.length∧R.length=i∧(∀ x∈R,x<1000000000)∧c≤1 ∧
  zao R+1000000000 ^ i*c=zao (A.take i)+zao (B.take i)∧H'=H++[.vec za8 1 R.length (us R)]) A.length ?_ ?_
 ·intro _;exact⟨0,0,[],by omega,rfl,rfl,rfl,rfl,rfl,by simp,by omega,by simp[zao],rfl⟩
 ·rintro q t5 t6 t22 H' ⟨i,c,R,hi,rfl,rfl,rfl,rfl,ep,hR,hc,hv,rfl⟩ aM aq aO Kb aw;by_cases ap:i<A.length
  ·have eP : ∀ (s : Nat), s ≤ 2 * 999999999 + 1 → s = c + A[i] + (if h : i < B.length then B[i] else 0) →
     zms (.sl (zak A) .none) (.sl (zak B) .none) (.ov H.length R.length) (.int .u32 s) (.int .i64 A.length) (.int .i64 i) (H++[.vec za8 1 R.length (us R)]) (Out H.length K) Kb:=by
    intro s be c5;obtain⟨x,c',bH,bh,e1,e2⟩:=zwV s (by omega);simp only[zms];simp[e1,e2,zaw,zaT,plain,AV.pd,zax,zaN,zaK,wi i (by omega)];refine⟨⟨by omega,by omega⟩,?_⟩;have e3:us R++[AV.int .u32 (x:Int)]=us (R++[x]):=by simp[us]
    rw[e3];refine aw _ _ ⟨A.length-(i+1),by omega,Back.here (by simp) (by simpa using hsc (R++[x])) (by simp[zmq,ux,AV.sc,AV.scA,AV.scB,AV.scV]) ⟨_,_,_,rfl,i+1,c',R++[x],by omega,rfl,rfl,rfl,by simp,by simp[ep],?_,by omega,?_,by simp⟩⟩
    ·intro y hy;rcases List.mem_append.1 hy with hy | hy
     ·exact hR y hy
     ·simp at hy;omega
    ·have tk:zao (B.take (i+1))=zao (B.take i)+(if h:i<B.length then B[i] else 0)*1000000000 ^ i:=by
      by_cases h:i<B.length
      ·rw[dif_pos h,zdb B i h]
      ·rw[dif_neg h,List.take_of_length_le (by omega),List.take_of_length_le (by omega)];simp
     rw[zeo,tk,zdb A i ap,ep,Nat.pow_succ];generalize (if h:i<B.length then B[i] else 0)=v at *;grind
   have e8:=lA A[i] (List.getElem_mem ap);obtain⟨s1,be⟩:∃ s,s=A[i]+c:=⟨_,rfl⟩;have w1:IntKind.u32.wrap (((A[i]:Nat):Int)+(c:Int))=(s1:Int):=by rw[be,←Int.natCast_add];exact zcv (by omega)
   by_cases hB:i<B.length
   ·have dy:=lB B[i] (List.getElem_mem hB);obtain⟨s2,c5⟩:∃ s,s=s1+B[i]:=⟨_,rfl⟩;have w2:IntKind.u32.wrap ((s1:Int)+(B[i]:Nat))=(s2:Int):=by rw[c5,←Int.natCast_add];exact zcv (by omega)
    simp[ziu,ap,hB,w1,w2];exact eP s2 (by omega) (by simp[hB];omega)
   ·simp[ziu,ap,hB,w1];exact eP s1 (by omega) (by simp[hB];omega)
  ·obtain rfl:i=A.length:=by omega
   rw[List.take_length,List.take_of_length_le hb]at hv;by_cases h0:c=0
   ·subst h0;simp[ziu,zmt];have bN:zao R=zao A+zao B:=by simpa using hv
    rw[←bN]at hK;have gn:R=lim (zao R):=by
     refine zoY hR ?_;by_cases iU:A.length=0
     ·omega
     ·have h3:=zjb (n:=zao A) (by intro h;have cM:=congrArg List.length cA;rw[h]at cM;simp at cM;omega);rw[cA]at h3;have:=zja (n:=zao R) (k:=A.length-1) (by omega);omega
    rw[←gn]at hK;exact zyj R hs hK
   ·obtain rfl:c=1:=by omega
    simp[ziu,zmt,zaw,zaT,plain,AV.pd,zax,zaN,zaK];refine⟨⟨by omega,by omega⟩,?_⟩;have e3:us R++[AV.int .u32 1]=us (R++[1]):=by simp[us]
    rw[e3];have bN:zao (R++[1])=zao A+zao B:=by rw[zeo,ep];omega
    rw[←bN]at hK;have gn:R++[1]=lim (zao (R++[1])):=by
     refine zoY (λy hy=>?_) ?_
     ·rcases List.mem_append.1 hy with hy | hy
      ·exact hR y hy
      ·simp at hy;omega
     ·have:=zja (n:=zao (R++[1])) (k:=A.length) (by rw[zeo,ep];omega);simp;omega
    rw[←gn]at hK;have:=zyj (R++[1]) hs hK;simpa using this
theorem zPt (a b:Nat) (ha:(lim a).length≤1000) (hb:(lim b).length≤1000) (H:zaa) (K:Kt) (hK:K (.sl (zak (lim (a+b))) .none) H) :
  ACalls tP zp4 [.sl (zak (lim a)) .none,.sl (zak (lim b)) .none] H K:=by
 refine ACalls.out (zPr λhs=>?_);by_cases h:(lim a).length<(lim b).length
 ·have h':((lim a).length:Int)<((lim b).length:Int):=by omega
  simp[zth,h];refine zv7 (lim b) (lim a) (zbT b) (zbT a) hb (by omega) (by rw[zbe]) _ _ hs ?_;rw[zbe,zbe,Nat.add_comm];exact hK
 ·have h':¬ ((lim a).length:Int)<((lim b).length:Int):=by omega
  simp[zth,h];refine zv7 (lim a) (lim b) (zbT a) (zbT b) ha (by omega) (by rw[zbe]) _ _ hs ?_;rw[zbe,zbe];exact hK
theorem zxK (a:Nat) (ha:a<1000000000 ^ 30) (H:zaa) (K:Kt) (hK:K (.sl (zak (lim a)) .none) H):ACalls tP zdN [.sl (zak (lim a)) .none,.sl (zak [1]) .none] H K:=by have:=zhz a 1 ha zeZ H K (by rw[Nat.mul_one];exact hK);rwa [zcY]at this
theorem zHH (a b:Nat) (ha:a<1000000000 ^ 30) (hb:b<1000000000 ^ 30) (H:zaa) (K:Kt) (hK:K (.agg (zai ((a+b:Nat):Int))) H) :
  ACalls tP zpK [.agg (zai (a:Int)),.agg (zai (b:Int))] H K:=by
 refine ACalls.out (zLJ λhs=>?_);have la:=zbI ha;have lb:=zbI hb;have d0:∀ n:Nat,decide ((n:Int)<0)=false:=λn=>by simp
 simp[zAE,zai,d0,Nat.add_assoc];refine zaB (.sl (zak (lim a)) .none) (λJ=>zxK a ha _ _ ⟨rfl,rfl⟩) ?_;try simp[Nat.add_assoc]
 refine zaB (.sl (zak (lim b)) .none) (λJ=>zxK b hb _ _ ⟨rfl,rfl⟩) ?_;try simp[Nat.add_assoc]
 refine zxJ _ _ ?_;simp[Nat.add_assoc];refine zaB (.sl (zak (lim (a+b))) .none) (λJ=>zPt a b (by omega) (by omega) _ _ ⟨rfl,rfl⟩) ?_;simp[zau,zaL,zcE,AV.known,Nat.add_assoc];have e1:zai ((a+b:Nat):Int)=[.bool false,.sl (zak (lim (a+b))) .none,.sl (zak [1]) .none]:=by simp only[zai,d0,Int.natAbs_natCast]
 have:=zbN (H:=H) (K:=K) (z:=((a+b:Nat):Int)) (J:=[.cells [.bool false,.sl (zak (lim a)) .none,.sl (zak [1]) .none],.cells [.bool false,.sl (zak (lim b)) .none,.sl (zak [1]) .none],.cells (zai ((a+b:Nat):Int))]) hs hK;rw[e1]at this;simpa using this
theorem zV0 (a b:Nat) (ha:a<1000000000 ^ 30) (hb:b<1000000000 ^ 30) (H:zaa) (K:Kt) (hK:K (.agg (zai ((a+b:Nat):Int))) H):ACalls tP zqv [.agg (zai (a:Int)),.agg (zai (b:Int))] H K:=by
 refine ACalls.out (zVZ λhs=>?_);have la:=zbI ha;have lb:=zbI hb;have lc:(lim (a+b)).length≤31:=zbI (by omega);have d0:∀ n:Nat,decide ((n:Int)<0)=false:=λn=>by simp
 have e1:∀ n:Nat,zai (n:Int)=[.bool false,.sl (zak (lim n)) .none,.sl (zak [1]) .none]:=λn=>by simp only[zai,d0,Int.natAbs_natCast]
 simp[zEe,e1,Nat.add_assoc];simp only[←e1];refine zaB (.agg (zai (a:Int))) (λJ=>zgj a (by simpa using by omega) _ _ ⟨rfl,rfl⟩) ?_;refine zaB (.agg (zai (b:Int))) (λJ=>zgj b (by simpa using by omega) _ _ ⟨rfl,rfl⟩) ?_;refine zaB (.agg (zai ((a+b:Nat):Int))) (λJ=>zHH a b ha hb _ _ ⟨rfl,rfl⟩) ?_;refine zaB (.agg (zai ((a+b:Nat):Int))) (λJ=>by
  rw[e1 (a+b)];exact zkB false (a+b) (by omega) (z:=((a+b:Nat):Int)) (by simp) _ _ ⟨by rw[e1],rfl⟩) ?_
 rw[e1 (a+b)];simp[Nat.add_assoc];have:=zbN (H:=H) (K:=K) (z:=((a+b:Nat):Int)) (J:=[.cells (zai (a:Int)),.cells (zai (b:Int)),.cells (zai ((a+b:Nat):Int))]) hs hK;rw[e1 (a+b)]at this;simpa using this
theorem zIl (a:Nat) (H:zaa) (K:Kt) (hK:K (.int .i64 (if a=0 then 0 else 1)) H):ACalls tP zpN [.agg (zai (a:Int))] H K:=by
 refine ACalls.out (zLW λhs=>?_);have d0:∀ n:Nat,decide ((n:Int)<0)=false:=λn=>by simp
 have hO:∀ z J,z=(if a=0 then (0:Int) else 1)→Out H.length K (.int .i64 z) (H++J):=λz J h=>Out.int rfl (Nat.le_refl _) hs (by rw[h];exact hK);by_cases h:a=0
 ·subst h;simp[zsg,zai];exact hO 0 _ (by simp)
 ·have hp:0<(lim a).length:=by rw[zcg h];simp
  have hb:(((lim a).length:Int) == 0)=false:=by generalize (lim a).length=q at hp;simp;omega
  simp[zsg,zai,d0,hb];exact hO 1 _ (by simp[h])
theorem zhl:∀ {L:List (List AV)},(∀ c∈L,c.length=3)→L.flatten.length=L.length*3
 | [],_=>rfl
 | c::L,h=>by rw[List.flatten_cons,List.length_append,zhl λx hx=>h x (List.mem_cons_of_mem _ hx),h c List.mem_cons_self,List.length_cons];omega
theorem zw6 {L:List (List AV)} (h3:∀ c∈L,c.length=3) {i:Nat} (hi:i<L.length) (x:List AV):L.flatten.take (i*3)++(x++L.flatten.drop (i*3+3))=(L.set i x).flatten:=by
 have e:L.flatten=(L.take i).flatten++(L[i]++(L.drop (i+1)).flatten):=by
  have h0:L=L.take i++L[i]::L.drop (i+1):=by rw[←List.drop_eq_getElem_cons hi,List.take_append_drop]
  have h1:=congrArg List.flatten h0;rwa [List.flatten_append,List.flatten_cons]at h1
 have l1:(L.take i).flatten.length=i*3:=by rw[zhl λc hc=>h3 c (List.mem_of_mem_take hc)];simp;omega
 have l2:((L.take i).flatten++L[i]).length=i*3+3:=by rw[List.length_append,l1,h3 _ (List.getElem_mem hi)]
 rw[e,List.take_left' l1,←List.append_assoc (L.take i).flatten L[i],List.drop_left' l2,List.set_eq_take_append_cons_drop,if_pos hi];simp
def zR:List AV:=[.bool false,.snil,.snil]
def zsL (n i:Nat):List (List AV):=List.replicate i (zai 0)++List.replicate (n-i) zR
theorem zEV (n i:Nat):∀ c∈zsL n i,c.length=3:=by intro c hc;rcases List.mem_append.1 hc with h | h <;> rw[List.eq_of_mem_replicate h] <;> rfl
theorem zXN {n i:Nat} (h:i<n):(zsL n i).set i (zai 0)=zsL n (i+1):=by unfold zsL;rw[List.set_append_right _ _ (by simp),List.length_replicate,Nat.sub_self,show n-i=n-(i+1)+1 by omega,List.replicate_succ,List.set_cons_zero,List.replicate_succ',List.append_assoc];rfl
theorem zJW (n:Nat) (hn:n≤100) (H:zaa) (K:Kt) (hK:HSc H→K (.ms H.length 0 n n) (H++[.cells (List.replicate n (zai 0)).flatten])):ACalls tP zp5 [.int .i64 n] H K:=by
 refine zPH λhs=>?_;simp[zB7,zba];refine⟨⟨by omega,by omega⟩,?_⟩;have h0:(List.replicate n ([.bool false,.snil,.snil]:List AV))=zsL n 0:=by simp[zsL,zR]
 rw[h0];have hsc:∀ i,HSc (H++[.cells (zsL n i).flatten]):=λi=>hs.append (by
  simp only[AB.sc,List.all_cons,List.all_nil,Bool.and_true];rw[List.all_eq_true];intro x hx;obtain⟨c,hc,hx⟩:=List.mem_flatten.1 hx;rcases List.mem_append.1 hc with h | h <;> rw[List.eq_of_mem_replicate h]at hx
  ·exact List.all_eq_true.1 (zkn _ _) x hx
  ·exact List.all_eq_true.1 (show zR.all (AV.scA _)=true by simp[zR,AV.scA,AV.scB]) x hx)
 refine zPF (Inv:=λq t9 H'=>∃ i:Nat,i≤n∧n-i=q∧t9=.int .i64 i∧H'=H++[.cells (zsL n i).flatten]) n ?_ ?_
 ·intro _;exact⟨0,by omega,rfl,rfl,rfl⟩
 ·rintro q t9 H' ⟨i,hi,rfl,rfl,rfl⟩ aM aq aO Kb aw;by_cases ap:i<n
  ·have hL:(zsL n i).length=n:=by simp[zsL];omega
   simp[ztl,ap,wi i (by omega)];refine zeF 0 (by omega) _ _ ?_;have bi:=zhl (zEV n i);have aT:=zw6 (zEV n i) (i:=i) (by omega) (zai 0);rw[zXN ap]at aT;rw[List.length_flatten]at bi;simp[zcQ,bi,hL];rw[aT];refine⟨by omega,?_⟩;exact aw _ _ ⟨n-(i+1),by omega,Back.here (by simp) (hsc _) (by simp[zmy,ux,AV.sc,AV.scA,AV.scB,AV.scV]) ⟨_,rfl,i+1,by omega,rfl,rfl,rfl⟩⟩
  ·obtain rfl:i=n:=by omega
   have:=hK hs;have e:zsL i i=List.replicate i (zai 0):=by simp[zsL]
   simp[ztl,e];exact this
theorem zHB:∀ a,a<7→∀ b,b<7→∀ k,k<13→(k≤a+b∧max a b≤k→pcf a b k=chs k a*chs a (k-b)∧pcf a b k<1000000∧chs k a<1000000∧chs a (k-b)<1000000):=by
 have:=(by decide +kernel:((List.range 7).all λa=>(List.range 7).all λb=>(List.range 13).all λk=>decide (¬ (k≤a+b∧max a b≤k)∨(pcf a b k=chs k a*chs a (k-b)∧pcf a b k<1000000∧chs k a<1000000∧chs a (k-b)<1000000)))=true);intro a ha b hb k hk h;have h1:=List.all_eq_true.mp this a (List.mem_range.mpr ha);have h2:=List.all_eq_true.mp h1 b (List.mem_range.mpr hb);have h3:=List.all_eq_true.mp h2 k (List.mem_range.mpr hk);rcases of_decide_eq_true h3 with h4 | h4
 ·exact absurd h h4
 ·exact⟨h4.1,h4.2⟩
def rwL (a b k:Nat):List (List AV):=(List.range (a+b+1)).map λj=>zai (((if j<k then pcf a b j else 0:Nat)):Int)
theorem zyM (a b k:Nat):(rwL a b k).length=a+b+1:=by simp[rwL]
theorem zq1 (a b k:Nat):∀ c∈rwL a b k,c.length=3:=by intro c hc;obtain⟨j,_,rfl⟩:=List.mem_map.1 hc;rfl
theorem zH5 (a b:Nat):List.replicate (a+b+1) (zai 0)=rwL a b (max a b):=by
 refine List.ext_getElem (by simp[rwL]) λj h1 h2=>?_;simp only[rwL,List.getElem_replicate,List.getElem_map,List.getElem_range];by_cases h:j<max a b
 ·rw[if_pos h];have:pcf a b j=0:=by simp[pcf];omega
  rw[this];rfl
 ·rw[if_neg h];rfl
theorem zH6 {a b k:Nat} (h:k≤a+b):(rwL a b k).set k (zai (pcf a b k:Int))=rwL a b (k+1):=by
 refine List.ext_getElem (by simp[rwL]) λj h1 h2=>?_;rw[List.getElem_set];simp only[rwL,List.getElem_map,List.getElem_range];by_cases hj:k=j
 ·subst hj;simp
 ·rw[if_neg hj];by_cases hk:j<k
  ·rw[if_pos hk,if_pos (by omega)]
  ·rw[if_neg hk,if_neg (by omega)]
theorem zyL (a b:Nat):rwL a b (a+b+1)=zcr (zc1 a b (a+b+1)):=by
 refine List.ext_getElem (by simp[rwL,zcr,zc1]) λj h1 h2=>?_;have hj:j<a+b+1:=by simpa[rwL]using h1
 simp[rwL,zcr,zc1,hj]
theorem zyr:∀ l:List Nat,plain (zcr l).flatten=some (zcr l).flatten
 | []=>rfl
 | z::l=>by show plain (zai (z:Int)++(zcr l).flatten)=_;exact zh2 (zdf _) (zyr l)
theorem zLT (a b:Nat) (ha:a≤6) (hb:b≤6) (H:zaa) (K:Kt) (hK:K (.sl (zcr (zc1 a b (a+b+1))) .none) H):ACalls tP zpM [.int .i64 a,.int .i64 b] H K:=by
 refine ACalls.out (zLR λhs=>?_);have w1:IntKind.i64.wrap ((a:Int)+(b:Int))=((a+b:Nat):Int):=by rw[zat (by omega) (by omega)];omega
 have w2:IntKind.i64.wrap ((a:Int)+(b:Int)+1)=((a+b+1:Nat):Int):=by rw[zat (by omega) (by omega)];omega
 have iw:(if a<b then (b:Int) else (a:Int))=((max a b:Nat):Int):=by split <;> omega
 have hmx':(if (b:Int)>(a:Int) then (b:Int) else (a:Int))=((max a b:Nat):Int):=by split <;> omega
 simp[zAF,w1,w2,iw,hmx'];refine zJW (a+b+1) (by omega) _ _ λ_=>?_;rw[zH5];have hsc:∀ i,HSc (H++[.cells (rwL a b i).flatten]):=λi=>hs.append (by
  simp only[AB.sc,List.all_cons,List.all_nil,Bool.and_true];rw[List.all_eq_true];intro x hx;obtain⟨c,hc,hx⟩:=List.mem_flatten.1 hx;obtain⟨j,_,rfl⟩:=List.mem_map.1 hc;exact List.all_eq_true.1 (zkn _ _) x hx)
 try simp only[iw,hmx']
 refine zLP (Inv:=λq t6 H'=>∃ k:Nat,max a b≤k∧k≤a+b+1∧a+b+1-k=q∧t6=.int .i64 k∧H'=H++[.cells (rwL a b k).flatten]) (a+b+1-max a b) ?_ ?_
 ·intro _;exact⟨max a b,by omega,by omega,rfl,rfl,rfl⟩
 ·rintro q t6 H' ⟨k,cH,hk,rfl,rfl,rfl⟩ aM aq aO Kb aw;by_cases ap:k≤a+b
  ·have aS:(k:Int)≤(a:Int)+(b:Int):=by omega
   obtain⟨p1,p2,p3,p4⟩:=zHB a (by omega) b (by omega) k (by omega) ⟨ap,cH⟩;have w3:IntKind.i64.wrap ((k:Int)-(b:Int))=((k-b:Nat):Int):=by rw[zat (by omega) (by omega)];omega
   simp[zse,w1,aS,w3,wi k (by omega)];refine zw1 k a (by omega) (by omega) _ _ ?_;refine zw1 a (k-b) (by omega) (by omega) _ _ ?_;refine znX _ _ (zdD (Nat.lt_trans p3 (by decide))) (zdD (Nat.lt_trans p4 (by decide))) _ _ ?_;rw[←Int.natCast_mul,←p1];have bi:=zhl (zq1 a b k);have aT:=zw6 (zq1 a b k) (i:=k) (by rw[zyM];omega) (zai (pcf a b k:Int));rw[zH6 ap]at aT;rw[List.length_flatten,zyM]at bi;simp[zcQ,bi];rw[aT];refine⟨by omega,by omega,?_⟩;exact aw _ _ ⟨a+b+1-(k+1),by omega,Back.here (by simp) (hsc _) (by simp[zlq,ux,AV.sc,AV.scA,AV.scB,AV.scV]) ⟨_,rfl,k+1,by omega,by omega,rfl,rfl,rfl⟩⟩
  ·obtain rfl:k=a+b+1:=by omega
   have aS:¬ ((a:Int)+(b:Int)+1≤(a:Int)+(b:Int)):=by omega
   simp[zse,w1,aS];rw[zyL];have bi:=zhl (zq1 a b (a+b+1));rw[zyL,zHI]at bi;have bW:(zc1 a b (a+b+1)).length=a+b+1:=by simp[zc1]
   refine⟨_,H,[_],rfl,Nat.le_refl _,hs,.one (.frz H.length 0 (a+b+1) (a+b+1) 3 (zcr (zc1 a b (a+b+1))).flatten (zcr (zc1 a b (a+b+1))) (Nat.le_refl _) (by simp) (by omega) ?_ (by simp[bW]) (λc hc=>?_) (Nat.le_refl _)),hK⟩
   ·rw[List.drop_zero,List.take_of_length_le (by omega)];exact zyr _
   ·obtain⟨z,_,rfl⟩:=List.mem_map.1 hc;rfl
theorem zWc (a b:Nat) (ha:a≤6) (hb:b≤6) (H:zaa) (K:Kt) (hK:K (.tup [.sl (zcr (zc1 a b (a+b+1))) .none,.bool true]) H):ACalls tP zqw [.int .i64 a,.int .i64 b] H K:=by
 refine ACalls.out (zWb λhs=>?_);have c1:¬ ((a:Int)<0):=by omega
 have c2:¬ ((b:Int)<0):=by omega
 have c3:¬ ((16:Int)<(a:Int)):=by omega
 have c4:¬ ((16:Int)<(b:Int)):=by omega
 simp[zEm,c1,c2,c3,c4];refine zLT a b ha hb _ _ ?_;exact⟨⟨rfl,rfl⟩,Out.tup0 (bs:=[.sl (zcr (zc1 a b (a+b+1))) .none,.bool true]) hs hK ⟨zaU rfl rfl,zaU rfl rfl,trivial⟩⟩
end Go.Proofs.YtdmamdnkcefmmaaGreatDoor
namespace Go.Abs
open Go Go.RowKit
variable {P:Program} {B:Nat} {w:World} {G:Gh} {H:zaa}
theorem HRel.newRow (h:HRel B w G H) (e size cap:Nat) (cur:Array Value) (hc:cap≤maxLen) (hs:cur.size=cap*size) :
  Ext B w G (w.alloc (.cells cur e)) ⟨G.L,G.μ++[.own (.slice (some ⟨w.heap.size,0,none⟩) 0 cap) size 0]⟩∧HRel B (w.alloc (.cells cur e)) ⟨G.L,G.μ++[.own (.slice (some ⟨w.heap.size,0,none⟩) 0 cap) size 0]⟩ (H++[.perm e size 0]):=by
 have he:=Ext.alloc h (.cells cur e) G.L (λ_ _=>rfl) [.own (.slice (some ⟨w.heap.size,0,none⟩) 0 cap) size 0];have split:∀ (id:Nat) gi,(G.μ++[GI.own (.slice (some ⟨w.heap.size,0,none⟩) 0 cap) size 0])[id]?=some gi→G.μ[id]?=some gi∨(id=G.μ.length∧gi=.own (.slice (some ⟨w.heap.size,0,none⟩) 0 cap) size 0):=by
  intro id gi hg;by_cases ap:id<G.μ.length
  ·rw[List.getElem?_append_left ap]at hg;exact .inl hg
  ·have aZ:=(List.getElem?_eq_some_iff.1 hg).1;simp at aZ;have:id=G.μ.length:=by omega
   subst this;simp at hg;exact .inr ⟨rfl,hg.symm⟩
 refine⟨he,by simp[h.len],?_,?_,λb hb=>?_,?_,?_⟩
 ·intro id ab gi h1 h2;rcases split id gi h2 with h2 | ⟨rfl,rfl⟩
  ·have ap:id<H.length:=by rw[←h.len];exact (List.getElem?_eq_some_iff.1 h2).1
   rw[List.getElem?_append_left ap]at h1;exact (h.ok id ab gi h1 h2).keep he (λb hb=>⟨zcK (h.lt id gi b h2 hb),rfl⟩)
  ·rw[h.len]at h1;simp at h1;subst h1;refine⟨rfl,rfl,⟨[],by simp,.inr ⟨w.heap.size,cap,cur,rfl,h.base,zdr _,Nat.zero_le _,hc,hs,by simp⟩⟩,λb hb=>?_⟩;simp[Value.ownBlock]at hb;subst hb;rw[Nat.zero_mul];exact h.fresh _ (Nat.le_refl _)
 ·intro id id' gi gi' b h1 h2 h3 h4;rcases split id gi h1 with k1 | ⟨e1,e2⟩ <;> rcases split id' gi' h2 with k2 | ⟨e3,e4⟩
  ·exact h.dist id id' gi gi' b k1 k2 h3 h4
  ·rw[e4]at h4;simp[GI.block,Value.ownBlock]at h4;have:=h.lt id gi b k1 h3;omega
  ·rw[e2]at h3;simp[GI.block,Value.ownBlock]at h3;have:=h.lt id' gi' b k2 h4;omega
  ·rw[e1,e3]
 ·rw[zca]at hb;exact h.fresh b (by omega)
 ·intro id gi b h1 h2;rw[zca];rcases split id gi h1 with k1 | ⟨e1,e2⟩
  ·have:=h.lt id gi b k1 h2;omega
  ·rw[e2]at h2;simp[GI.block,Value.ownBlock]at h2;omega
 ·rw[zca];have:=h.base;omega
end Go.Abs
namespace Go.Proofs.YtdmamdnkcefmmaaGreatDoor
open Go Go.Abs
theorem zIr (n:Nat) (hn:0<n) (fR:n≤1000000) (H:zaa) (K:Kt) (hK:K (.sl [] (.own H.length)) (H++[.perm zbQ 2 0])) :
  ACalls tP zxT [.snil,.int .i64 n] H K:=by
 rintro B w G ⟨vs⟩ hR hv
 match vs,hv with
 | [v1,v2],⟨h1,h2,_⟩=>
 have h1:v1=.slice none 0 0:=h1;have h2:v2=.int .i64 n:=h2;subst h1 h2;obtain⟨i0,lz,kL,iA,bJ⟩:∃ i0,tP.info? 28=some i0∧i0.zero=some (.agg #[.int .i64 0,.slice none 0 0])∧i0.size=2∧i0.bytes=32:=⟨_,rfl,rfl,rfl,rfl⟩;refine (Go.Proofs.Any8.slices_Grow_grow zJX i0 _ lz kL (by omega) none 0 0 n [] w (Nat.le_refl _) (by omega) (by rw[bJ];omega) (by omega) (by simp) (λ_=>rfl) (λ_ h=>by cases h)).mono ?_;rintro e w' ⟨rfl,rfl⟩;have cG:=grownCap_ge w (0+n) 0 28;have bF:=grownCap_le_maxLen w (0+n) 0 28 (by simp only[maxLen];omega);obtain⟨hE,hH⟩:=hR.drew (w.drawn+1) (Nat.le_succ _) |>.newRow 28 2 (grownCap w (0+n) 0 28) (([]:List Value).toArray++Builtin.zeroCells (Value.agg #[.int .i64 0,.slice none 0 0]).cells (0+n-0)++Builtin.zeroCells (Value.agg #[.int .i64 0,.slice none 0 0]).cells (grownCap w (0+n) 0 28-(0+n))) bF (by
  simp only[Array.size_append,size_zeroCells,List.size_toArray,List.length_nil];have:(Value.agg #[.int .i64 0,.slice none 0 0]).cells.size=2:=rfl;rw[this];omega)
 refine⟨_,_,_,_,rfl,(Ext.drew B w G (w.drawn+1) (Nat.le_succ _)).trans hE,hH,?_,hK⟩;refine⟨.slE _ _,_,2,0,?_,Nat.le_refl _,λ_=>⟨rfl,λc hc=>by simp at hc⟩⟩;rw[←hR.len];simp;rfl
theorem zIp (a b:List IT) (ha:0<a.length) (hb:a.length+b.length≤1000000) (H:zaa) (K:Kt) (hK:K (.sl (IT.css (a++b)) .none) H) :
  ACalls tP zpO [.sl [[.sl (IT.css a) .none],[.sl (IT.css b) .none]] .full] H K:=by
 refine ACalls.out (zMb λhs=>?_);have e:∀ l:List IT,(IT.css l).length=l.length:=λl=>by simp[IT.css_map]
 have hS:∀ c:List IT,∀ k:AV→Prop,k (.int .i64 c.length)→zah 1 (.sl (IT.css c) .none) k:=λc k hk=>by simpa[e]using hk
 simp[zAK];let row:Nat→List IT:=λi=>if i=0 then a else b
 let sum:Nat→Nat:=λi=>if i=0 then 0 else if i=1 then a.length else a.length+b.length
 have aC:∀ i (hi:i < [[AV.sl (IT.css a) .none],[.sl (IT.css b) .none]].length),[[AV.sl (IT.css a) .none],[.sl (IT.css b) .none]][i]=[.sl (IT.css (row i)) .none]:=λi hi=>by rcases (by simp at hi;omega:i=0∨i=1) with rfl | rfl <;> rfl
 refine zL8 (Inv:=λq t3 t11 H'=>∃ i:Nat,i≤2∧q=2-i∧t11=.int .i64 i∧t3=.int .i64 (sum i)∧H'=H) 2 ?_ ?_
 ·intro _;exact⟨0,by omega,rfl,rfl,rfl,rfl⟩
 ·rintro q t3 t11 H' ⟨i,hi,rfl,rfl,rfl,rfl⟩ hsc aq aO Kb aw;by_cases ap:i<2
  ·have aS:(i:Int)<2:=by omega
   have d8:(sum i:Int)+(row i).length=sum (i+1):=by rcases (by omega:i=0∨i=1) with rfl | rfl <;> simp[sum,row]
   have bG:sum (i+1)≤1000000:=by rcases (by omega:i=0∨i=1) with rfl | rfl <;> simp[sum] <;> omega
   have cy:¬ ((sum (i+1):Int)<0):=by omega
   simp[zsk,aS,ap,aC,e];rw[d8,zat (by omega) (by omega)];simp[cy,zAL,zAM];rw[zat (by omega) (by omega)];refine aw _ _ ⟨2-(i+1),by omega,Back.at (J:=[]) (H2:=H') (by simp) (by omega) hsc ?_ ⟨_,_,rfl,i+1,by omega,rfl,by simp,rfl,rfl⟩⟩;simp[zlu,AV.sc,AV.scV,AV.scA,AV.scB]
  ·obtain rfl:i=2:=by omega
   simp[zsk];refine zIr _ (by simp[sum];omega) (by simp[sum];omega) _ _ ?_;let all:Nat→List IT:=λi=>if i=0 then [] else if i=1 then a else a++b
   refine zL7 (Inv:=λq t6 t27 H2=>∃ i:Nat,i≤2∧q=2-i∧t27=.int .i64 i∧t6=.sl (IT.css (all i)) (.own H'.length)∧H2=H'++[.perm zbQ 2 (all i).length]) 2 ?_ ?_
   ·intro _;exact⟨0,by omega,rfl,rfl,rfl,rfl⟩
   ·rintro q t6 t27 H2 ⟨i,hi,rfl,rfl,rfl,rfl⟩ cv d5 ik Kb2 bE;by_cases ap:i<2
    ·have aS:(i:Int)<2:=by omega
     have aN:IT.css (all i)++IT.css (row i)=IT.css (all (i+1)):=by rcases (by omega:i=0∨i=1) with rfl | rfl <;> simp[all,row,IT.css_map]
     have hall2:(all i).length+(row i).length=(all (i+1)).length:=by rcases (by omega:i=0∨i=1) with rfl | rfl <;> simp[all,row]
     have bG:(all (i+1)).length≤1000000:=by rcases (by omega:i=0∨i=1) with rfl | rfl <;> simp[all] <;> omega
     have h2:∀ c∈IT.css (row i),c.length=2:=λc hc=>by rw[IT.css_map]at hc;obtain⟨x,_,rfl⟩:=List.mem_map.1 hc;simp
     simp[zsj,aS,ap,aC,e,zax,zaN,zaK,List.set_append_right];rw[aN,hall2,zat (by omega) (by omega)];refine⟨h2,⟨by omega,by omega⟩,?_⟩;refine bE _ _ ⟨2-(i+1),by omega,Back.at (J:=[]) (H2:=H'++[.perm zbQ 2 (all (i+1)).length]) (by simp) (by simp) (hs.append (by simp[AB.sc])) ?_ ⟨_,_,rfl,i+1,by omega,rfl,by simp,rfl,rfl⟩⟩;simp[zlt,AV.sc,AV.scV,AV.scA,AV.scB]
    ·obtain rfl:i=2:=by omega
     simp[zsj];exact Out.at (H2:=H') (J:=[.perm zbQ 2 (a++b).length]) (by simp[all]) (Nat.le_refl _) hs (.atom (.sl _ _)) rfl rfl (by simpa[all]using hK)
theorem zMi {aa:List Dat} (hk:zbb aa) (n:Int) (ks:List VT) (ht:(VT.mk 5 n ks).nodes≤1000) (c:Int) {ps:List VT} (hp:za7 aa (.mk 5 n ks) c=some ps) (H:zaa) (K:Kt)
  (hK:K (.sl (VT.css ps) .none) H):ACalls tP zpP [.sl (aa.map Dat.cs) .none,.agg (VT.mk 5 n ks).cs,.int .i64 c] H K:=by
 obtain⟨l,hf⟩:∃ lf,za6 aa (.mk 5 n ks) c=some lf:=by
  cases gz:za6 aa (.mk 5 n ks) c with
  | none=>simp[za7,gz]at hp
  | some lf=>exact⟨lf,rfl⟩
 obtain⟨bs,ie,bn,gM,bt,cg,_,cw,_⟩:=zkg hk hf;rw[hp]at bt;obtain rfl:=Option.some.inj bt;refine ACalls.out (zMg λhs=>?_);obtain⟨f1,f2,f3⟩:=zeS hk;simp[zAQ,VT.cs,Nat.add_assoc];refine zBZ aa f1 f2 f3 (.mk 5 n ks) ht c _ _ ?_;rw[hf];simp[zcx];refine cw _ _ ?_;simp[zeM];unfold zlz;refine ALoop.own 9 za1 3 rfl ?_;have dR:(H++[AB.cells [AV.int IntKind.i64 5,AV.int IntKind.i64 n,AV.sl (VT.css ks) Tok.none]]).length=H.length+1:=by simp
 rw[dR,List.append_assoc];show zlz _ (.sl (VT.css (pick (l.take 0) (bs.take 0))) (.own (H.length+1))) _ _ _ (H++[.cells [.int .i64 5,.int .i64 n,.sl (VT.css ks) .none],.perm za1 3 0]) _;have aI:∀ m,HSc (H++[.cells [.int .i64 5,.int .i64 n,.sl (VT.css ks) .none],.perm za1 3 m]):=λm=>hs.append (by simp[AB.sc,AV.scA,AV.scB]);refine zMe (Inv:=λq t9 t25 H'=>∃ i:Nat,i≤bs.length∧bs.length-i=q∧t25=.int .i64 i∧t9=.sl (VT.css (pick (l.take i) (bs.take i))) (.own (H.length+1)) ∧
  H'=H++[.cells [.int .i64 5,.int .i64 n,.sl (VT.css ks) .none],.perm za1 3 (pick (l.take i) (bs.take i)).length]) bs.length ?_ ?_
 ·intro _;exact⟨0,by omega,rfl,rfl,rfl,rfl⟩
 ·rintro q t9 t25 H' ⟨i,hi,rfl,rfl,rfl,rfl⟩ aM aq aO Kb aw;by_cases ap:i<bs.length
  ·have bq:i<l.length:=by omega
   have aT:=zqI bn bq;have bW:=zkh (l.take i) (bs.take i);rw[List.length_take]at bW;generalize hA:pick (l.take i) (bs.take i)=A at *;have bb:∀ A',A'=pick (l.take (i+1)) (bs.take (i+1))→zly (.sl (VT.css l) .none) (.sl (VT.css A') (.own (H.length+1))) (.sl (zbH bs) .none) (.int .i64 bs.length) (.int .i64 i)
     (H++[.cells [.int .i64 5,.int .i64 n,.sl (VT.css ks) .none],.perm za1 3 A'.length]) (Out H.length K) Kb:=by
    rintro A' rfl;simp[zly,zAR,wi i (by omega)];exact aw _ _ ⟨bs.length-(i+1),by omega,Back.here (by simp) (aI _) (by simp[zlx,ux,AV.sc,AV.scA,AV.scB,AV.scV]) ⟨_,_,rfl,i+1,by omega,rfl,rfl,rfl,rfl⟩⟩
   obtain⟨x1,x2,x3,aB,bH,bh,bC⟩:=za2 l[i];cases en:bs[i] with
   | true=>rw[en,if_pos rfl,List.append_nil]at aT;simp[zlw,zeM,ap,zg8,en];exact bb A aT.symm
   | false=>
    rw[en]at aT;simp only[Bool.false_eq_true,if_false]at aT;simp[zlw,zeM,ap,bq,zg8,en];have hpv:∀ v:VT,plain v.cs=some v.cs:=λv=>by cases v;rfl
    have aR:VT.css A++[l[i].cs]=VT.css (A++[l[i]]):=by rw[VT.css_map,VT.css_map,List.map_append];rfl
    simp[zaw,zaT,hpv,plain,AV.pd];simp only[zax,zaN,zaK];simp[List.set_append_right];refine⟨⟨by omega,by omega⟩,?_⟩;rw[aR];have:=bb (A++[l[i]]) aT.symm;rw[List.length_append]at this;exact this
  ·obtain rfl:i=bs.length:=by omega
   rw[←bn,List.take_length,bn,List.take_length];simp[zlw];exact Out.at (b:=.sl (VT.css (pick l bs)) .none) rfl (Nat.le_refl _) hs (.atom (.sl _ _)) rfl rfl hK
theorem zWs:∀ (m:Nat) (v:IT),v.nodes≤m→v.nodes≤1000000→∀ (H:zaa) (K:Kt),K (.agg v.cs) H→ACalls tP zj2 [.agg v.cs] H K:=by
 intro m;induction m with
 | zero=>intro v h;have:=v.nodes_pos;omega
 | succ m ih=>
  intro v hm hb H K hK;obtain⟨n,ks⟩:=v;have bq:=IT.len_le ks;have cy:(IT.mk n ks).nodes=IT.nodesL ks+1:=by simp[IT.nodes]
  refine ACalls.out (zWq λhs=>?_);simp[zEq,IT.cs,zau,zaL,AV.known,Nat.add_assoc];unfold zof;refine ALoop.ownC (H.length+2) 1 zbQ 2 (cs:=[.int .i64 n,.snil]) (by simp) rfl ?_;have aX:(H++[AB.cells [.int .i64 n,.sl (IT.css ks) .none],.cells [.int .i64 0,.snil],.cells [.int .i64 n,.snil]]).set (H.length+2) (.cells ([AV.int .i64 n,.snil].set 1 (.sl [] (.own (H++[AB.cells [.int .i64 n,.sl (IT.css ks) .none],.cells [.int .i64 0,.snil],.cells [.int .i64 n,.snil]]).length))))++[.perm zbQ 2 0] =
    H++[.cells [.int .i64 n,.sl (IT.css ks) .none],.cells [.int .i64 0,.snil],.cells [.int .i64 n,.sl [] (.own (H.length+3))],.perm zbQ 2 0]:=by simp[List.set_append_right]
  rw[aX];show zof (.ptr (H.length+1) 0) (.ptr (H.length+2) 0) (.sl (IT.css ks) .none) (.int .i64 ks.length) (.int .i64 0) _ (Out H.length K);have hsc:∀ i,HSc (H++[.cells [.int .i64 n,.sl (IT.css ks) .none],.cells [.int .i64 0,.snil],.cells [.int .i64 n,.sl (IT.css (ks.take i)) (.own (H.length+3))],.perm zbQ 2 i]):=λi=>hs.append (by simp[AB.sc,AV.scA,AV.scB]);refine zWo (Inv:=λq t12 H'=>∃ i:Nat,i≤ks.length∧q=ks.length-i∧t12=.int .i64 i ∧
   H'=H++[.cells [.int .i64 n,.sl (IT.css ks) .none],.cells [.int .i64 0,.snil],.cells [.int .i64 n,.sl (IT.css (ks.take i)) (.own (H.length+3))],.perm zbQ 2 i]) ks.length ?_ ?_
  ·intro _;exact⟨0,by omega,by omega,rfl,by simp[IT.css]⟩
  ·rintro q t12 H' ⟨i,hi,rfl,rfl,rfl⟩ aM aq aO Kb aw;by_cases ap:i<ks.length
   ·obtain⟨x,y,aB,hx,hy⟩:=zdw ks[i];have dm:=IT.kid_lt (n:=n) ap;simp[zve,ap,aB,hx,hy];rw[←aB];refine zaB (.agg (ks[i]).cs) (λJ=>ih ks[i] (by omega) (by omega) _ _ ⟨rfl,rfl⟩) ?_;rw[zFK];simp[zax,zaN,zaK,Nat.min_eq_left hi,AV.known,List.set_append_right];refine⟨⟨by omega,by omega⟩,?_⟩;rw[zat (by omega) (by omega)];rw[←zGB ap];refine aw _ _ ⟨ks.length-(i+1),by omega,Back.at (J:=[.cells (ks[i]).cs]) (H2:=H++[.cells [.int .i64 n,.sl (IT.css ks) .none],.cells [.int .i64 0,.snil],.cells [.int .i64 n,.sl (IT.css (ks.take (i+1))) (.own (H.length+3))],.perm zbQ 2 (i+1)]) (by simp) (by simp) (hsc _) ?_ ⟨_,rfl,i+1,by omega,rfl,by simp,rfl⟩⟩;simp[zoe,AV.sc,AV.scV,AV.scA,AV.scB]
   ·obtain rfl:i=ks.length:=by omega
    rw[List.take_length]at *;simp[zve,AV.known,List.set_append_right];exact Out.at rfl (Nat.le_refl _) hs (WkV.agg (ds:=[.int .i64 n,.sl (IT.css ks) .none]) ⟨.refl _,.sl _ _,trivial⟩) rfl (by simp[AV.scV,AV.scA,AV.scB]) (by simpa[IT.cs]using hK)
theorem zWw (z:Int) (hz:Sm z) (H:zaa) (K:Kt) (hK:K (.agg (zai z)) H):ACalls tP zqy [.agg (zai z)] H K:=by
 refine ACalls.out (zWv λhs=>?_);have hl:=hz.len;simp[zEr,zcQ,Nat.add_assoc];refine zgj z (by omega) _ _ ?_;have e:zai z=[.bool (decide (z<0)),.sl (zak (lim z.natAbs)) .none,.sl (zak [1]) .none]:=rfl
 conv=>lhs
 rw[e];refine zkB (decide (z<0)) z.natAbs (by omega) (z:=z) (by by_cases h:z<0 <;> simp[h] <;> omega) _ _ ?_;simp[zcQ,Nat.add_assoc];exact zbN hs hK
theorem zEo (a:Nat) (ha:Sm (a:Int)) (H:zaa) (K:Kt) (hK:K (.int .i64 (if a=0 then 0 else 1)) H):ACalls tP zj1 [.agg (zai (a:Int))] H K:=by refine ACalls.out (zWf λhs=>?_);have hl:=ha.len;simp[zEn,zcQ,Nat.add_assoc];refine zgj (a:Int) (by omega) _ _ ?_;refine zIl a _ _ ?_;exact Out.int rfl (Nat.le_refl _) hs hK
end Go.Proofs.YtdmamdnkcefmmaaGreatDoor
namespace Go.Proofs.YtdmamdnkcefmmaaGreatDoor
open Go Go.Abs
set_option maxRecDepth 100000
section
variable (t0 t1 t2 t3 t9 t10 t11 t12 t14 t20 t21 t22 t27 t28 t29 t43 t44 t45:AV) (H:zaa) (K:Kt) (Kb3 Kb7:Lt)
def zee:Nat→List Bool | 3=>rl false [0,1,1,2,5,1,10,3,47] | 7=>rl false [0,1,1,2,6,3,7,3,4,3,40] | 10=>rl false [0,1,1,2,6,3,1,1,5,3,4,3,13,3,24] | 200012=>rl false [0,2] | _=>[]
noncomputable def zu9:Code:=Tryz.f78.body.getD .skip
noncomputable def zV8:List ResultVar:=Tryz.f78.results.toList
def ziL:List AV:=t0::ux 1 (t2::t3::ux 5 (t9::ux 10 (t20::t21::t22::ux 47 [])))
def zEk:List Bool:=zee 3
noncomputable def zva:Code:=zar [1,1,0,1,0,0] zu9
def zEg:AExit→List AV→zaa→Prop:=zas tP zee [1,1,0,1,0] zu9 (zay tP zV8 K)
def zEj:Prop:=ALoop tP zva (zEg K) (ziL t0 t2 t3 t9 t20 t21 t22) H
def zn7:List AV:=t0::ux 1 (t2::t3::ux 6 (t10::t11::t12::ux 7 (t20::t21::t22::ux 4 (t27::t28::t29::ux 40 []))))
def zEl:List Bool:=zee 7
noncomputable def zvb:Code:=zar [1,1,0,0,1,1,0,1,0,0] zva
def zEh:AExit→List AV→zaa→Prop:=zas tP zee [1,1,0,0,1,1,0,1,0] zva (zbV zEk Kb3 (zEg K))
def zn8:Prop:=ALoop tP zvb (zEh K Kb3) (zn7 t0 t2 t3 t10 t11 t12 t20 t21 t22 t27 t28 t29) H
def ziK:List AV:=t0::ux 1 (t2::t3::ux 6 (t10::t11::t12::ux 1 (t14::ux 5 (t20::t21::t22::ux 4 (t27::t28::t29::ux 13 (t43::t44::t45::ux 24 []))))))
def zV6:List Bool:=zee 10
noncomputable def zV2:Code:=zar [1,1,0,0,1,1,0,0] zvb
def zV1:AExit→List AV→zaa→Prop:=zas tP zee [1,1,0,0,1,1,0] zvb (zbV zEl Kb7 (zEh K Kb3))
def zEi:Prop:=ALoop tP zV2 (zV1 K Kb3 Kb7) (ziK t0 t2 t3 t10 t11 t12 t14 t20 t21 t22 t27 t28 t29 t43 t44 t45) H
def zu6 (t0 t2 t3 t10 t11 t12 t14 t20 t21 t22 t27 t28 t29 t43 t44 t45:AV) (H:zaa) (K:Kt) (Kb3:Lt) (Kb7:Lt) (Kb10:Lt):Prop:=zac .lss false t45 t44 λt46=>zag t46 (zaj 5 t43 t45 λt47=>zae true 5 t47 H λt48=>zav [(.int .i64 0),.snil,(.bool false),.snil,.snil] H λt16 H=>zan 5 t16 t48 H λH=>zab H (λK'=>K' t12 H) λt49=>zab H (λK'=>zaf 0 t14 (K' · H)) λt50=>zab H (λK'=>zal false 1 t50 H (K' · H)) λt51=>zdJ .g true H (λK'=>ACalls tP zpL [t51] H K') λt52 H=>zab H (λK'=>zaf 0 t16 (K' · H)) λt53=>zab H (λK'=>zal true 2 t53 H (K' · H)) λt54=>zab H (λK'=>zaw 2 [(.int .i64 0),.snil] 1 [(0,t54)] (K' · H)) λt55=>zdJ .g false H (λK'=>zax zbQ 2 32 t52 t55 H K') λt56 H=>zab H (λK'=>zaf 1 t14 (K' · H)) λt57=>zab H (λK'=>zal true 3 t57 H (K' · H)) λt58=>zab H (λK'=>zaf 2 t16 (K' · H)) λt59=>zab H (λK'=>zal true 3 t59 H (K' · H)) λt60=>zdJ .g true H (λK'=>ACalls tP zfB [t58,t60] H K') λt61 H=>zab H (λK'=>zau [.snil,(.bool false),.snil,.snil] [(0,1),(1,3)] [(0,t56),(1,t61)] (K' · H)) λt62=>zab H (λK'=>zaw 4 [.snil,(.bool false),.snil,.snil] 1 [(0,t62)] (K' · H)) λt63=>zdJ .g false H (λK'=>zax zbr 4 80 t49 t63 H K') λt64 H=>zab H (λK'=>K' t64 H) λt12=>zac .add false t45 (.int .i64 1) λt65=>Kb10 (ziK t0 t2 t3 t10 t11 t12 t14 t20 t21 t22 t27 t28 t29 t43 t44 t65) H) (zac .add false t29 (.int .i64 1) λt66=>Kb7 (zn7 t0 t2 t3 t10 t11 t12 t20 t21 t22 t27 t28 t66) H)
def zu8:Prop:=zac .lss false t29 t28 λt30=>zag t30 (zaj 4 t27 t29 λt31=>zae true 4 t31 H λt32=>zav [.snil,(.bool false),.snil,.snil] H λt14 H=>zan 4 t14 t32 H λH=>zab H (λK'=>K' t0 H) λt33=>zab H (λK'=>zal true 3 t11 H (K' · H)) λt34=>zab H (λK'=>K' t2 H) λt35=>zab H (λK'=>K' t10 H) λt36=>zab H (λK'=>zaj 2 t35 t36 (K' · H)) λt37=>zab H (λK'=>zal true 2 t37 H (K' · H)) λt38=>zab H (λK'=>K' t3 H) λt39=>zab H (λK'=>K' t10 H) λt40=>zab H (λK'=>zaj 2 t39 t40 (K' · H)) λt41=>zab H (λK'=>zal true 2 t41 H (K' · H)) λt42=>zaC H (λH K'=>ACalls tP zjR [t33,t34,t38,t42] H K') λt43=>zab H (λK'=>zah 1 t43 (K' · H)) λt44=>zab H (λK'=>K' (.int .i64 0) H) λt45=>zEi t0 t2 t3 t10 t11 t12 t14 t20 t21 t22 t27 t28 t29 t43 t44 t45 H K Kb3 Kb7) (zac .add false t22 (.int .i64 1) λt68=>Kb3 (ziL t0 t2 t3 t12 t20 t21 t68) H)
def zu7:Prop:=zac .lss false t22 t21 λt23=>zag t23 (zaj 3 t20 t22 λt25=>zae true 3 t25 H λt26=>zav [(.int .i64 0),(.int .i64 0),.snil] H λt11 H=>zan 3 t11 t26 H λH=>zah 1 t9 λt28=>zn8 t0 t2 t3 t22 t11 .snil t20 t21 t22 t9 t28 (.int .i64 0) H K Kb3) (K t9 H)
def zEf:Prop:=ACalls tP zdx [(.int .i64 1)] H λt17 H=>zau [.snil,(.bool false),.snil,.snil] [(0,1),(1,3)] [(1,t17)] λt18=>zaw 4 [.snil,(.bool false),.snil,.snil] 1 [(0,t18)] λt19=>zah 1 t1 λt21=>zEj t0 t2 t3 t19 t1 t21 (.int .i64 0) H K
variable {t0 t1 t2 t3 t9 t10 t11 t12 t14 t20 t21 t22 t27 t28 t29 t43 t44 t45} {H} {K} {Kb3 Kb7}
theorem zV3 (Inv:Nat→AV→AV→zaa→Prop) (n:Nat) (h0:HSc H→Inv n t12 t45 H)
  (ac:Rd2 (λt12=>λt45=>ziK t0 t2 t3 t10 t11 t12 t14 t20 t21 t22 t27 t28 t29 t43 t44 t45) (λt12=>λt45=>λH Kb10=>zu6 t0 t2 t3 t10 t11 t12 t14 t20 t21 t22 t27 t28 t29 t43 t44 t45 H K Kb3 Kb7 Kb10) H Inv):zEi t0 t2 t3 t10 t11 t12 t14 t20 t21 t22 t27 t28 t29 t43 t44 t45 H K Kb3 Kb7:=
 lp2 (M:=zee) zV6 t12 t45 (by kernel_rfl) Inv n h0 ac
theorem zV5 (Inv:Nat→AV→AV→zaa→Prop) (n:Nat) (h0:HSc H→Inv n t12 t29 H)
  (ac:Rd2 (λt12=>λt29=>zn7 t0 t2 t3 t10 t11 t12 t20 t21 t22 t27 t28 t29) (λt12=>λt29=>λH Kb7=>zu8 t0 t2 t3 t10 t11 t12 t20 t21 t22 t27 t28 t29 H K Kb3 Kb7) H Inv):zn8 t0 t2 t3 t10 t11 t12 t20 t21 t22 t27 t28 t29 H K Kb3:=
 lp2 (M:=zee) zEl t12 t29 (by kernel_rfl) Inv n h0 ac
theorem zV4 (Inv:Nat→AV→AV→zaa→Prop) (n:Nat) (h0:HSc H→Inv n t9 t22 H)
  (ac:Rd2 (λt9=>λt22=>ziL t0 t2 t3 t9 t20 t21 t22) (λt9=>λt22=>λH Kb3=>zu7 t0 t2 t3 t9 t20 t21 t22 H K Kb3) H Inv):zEj t0 t2 t3 t9 t20 t21 t22 H K:=
 lp2 (M:=zee) zEk t9 t22 (by kernel_rfl) Inv n h0 ac
theorem zV7 (h:HSc H→zEf t0 t1 t2 t3 H K):ACalls tP zj0 [t0,t1,t2,t3] H K:=
 acb zee Tryz.func78 zu9 (by kernel_rfl) (by kernel_rfl) h
end
end Go.Proofs.YtdmamdnkcefmmaaGreatDoor
namespace Go.Proofs.YtdmamdnkcefmmaaGreatDoor
open Go Go.Abs
theorem _root_.Go.Abs.ACalls.snilFull {P:Program} {f:FuncId} {us:List AV} {H:zaa} {K:AV→zaa→Prop} (h:ACalls P f us H λr H'=>(r=.snil∧K (.sl [] .full) H')∨K r H'):ACalls P f us H K:=by
 intro B w G vs hH hv;refine (h B w G vs hH hv).mono λe w' ⟨v,r,H',G',h1,h2,h3,h4,h5⟩=>?_;rcases h5 with ⟨rfl,hk⟩ | hk
 ·refine⟨v,.sl [] .full,H',G',h1,h2,h3,?_,hk⟩;have:v=.slice none 0 0:=h4;subst this;exact⟨.slE _ _,_,rfl⟩
 ·exact⟨v,r,H',G',h1,h2,h3,h4,hk⟩
theorem zwC (r:List IT) (hr:r.length≤1000000) (H:zaa) (K:Kt) (h0:r=[]→K (.sl [] .full) H) (h1:r≠[]→K (.sl (IT.css r) (.own H.length)) (H++[.perm zbQ 2 r.length])) :
  ACalls tP zpL [.sl (IT.css r) .none] H K:=by
 refine ACalls.snilFull (zLM λhs=>?_);cases r with
 | nil=>simp[zsd,IT.css,zg1,zgh,zaw,zaT,plain,AV.pd,zax,zaN,zaK];exact⟨.inl (h0 rfl),h0 rfl⟩
 | cons x r=>have:=h1 (by simp);simp[zsd,IT.css,zg1,zgh,zaw,zaT,plain,AV.pd,zax,zaN,zaK];simp only[List.length_cons]at hr;refine⟨λc hc=>?_,⟨by omega,by omega⟩,by simpa[IT.css]using this⟩;rw[IT.css_map]at hc;obtain⟨v,_,rfl⟩:=List.mem_map.1 hc;simp
theorem zgZ {H:zaa} {g:Bool} {p:(AV→zaa→Prop)→Prop} {k:AV→zaa→Prop} (r:AV) (H':zaa) (h:p λv H2=>v=r∧H2=H') (hg:GrowA H H') (hk:k r H'):zdJ .g g H p k:=⟨r,H',h,λ_=>hg,hk⟩
theorem zoG {H:zaa} {g:Bool} {p:(AV→zaa→Prop)→Prop} {k:AV→zaa→Prop} (r:AV) (h:p λv H2=>v=r∧H2=H) (hk:k r H):zdJ .g g H p k:=⟨r,H,h,λ_=>.inl rfl,hk⟩
def zoB (aa:List Dat) (f:Nat):Prop:=∀ (t:VT) (i j:IT),i.nodes+j.nodes≤f→t.nodes≤1000→zaZ aa 0 t=true→0≤rdV aa i t→0≤rdV aa j t→rdV aa i t+rdV aa j t≤6→i.nodes+j.nodes≤300 →
 ∀ (H:zaa) (K:Kt),K (.sl (zaV (zbo aa f t i j)) .none) H→ACalls tP zjR [.sl (aa.map Dat.cs) .none,.agg t.cs,.agg i.cs,.agg j.cs] H K
def ziU (aa:List Dat) (f:Nat):Prop:=∀ (ts:List VT) (l m:List IT),IT.nodesL l+IT.nodesL m+1≤f→l.length=ts.length→m.length=ts.length→ts.length≤1000→(∀ x∈ts,x.nodes≤1000∧zaZ aa 0 x=true)→0≤rdA aa l ts 0→0≤rdA aa m ts 0→rdA aa l ts 0+rdA aa m ts 0≤6→IT.nodesL l+IT.nodesL m≤300 →
 ∀ (H:zaa) (K:Kt),K (.sl (zaQ (zct aa f ts l m)) .none) H→ACalls tP zj0 [.sl (aa.map Dat.cs) .none,.sl (VT.css ts) .none,.sl (IT.css l) .none,.sl (IT.css m) .none] H K
def ziT (aa:List Dat) (f:Nat):Prop:=∀ (t:VT) (l m:List IT),IT.nodesL l+IT.nodesL m+1≤f→t.nodes≤1000→zaZ aa 0 t=true→t.kind=5→0≤rdE aa l t 0→0≤rdE aa m t 0→rdE aa l t 0+rdE aa m t 0≤6→IT.nodesL l+IT.nodesL m≤300 →
 ∀ (H:zaa) (K:Kt),K (.sl (zaQ (za4 aa f t l m)) .none) H→ACalls tP zgo [.sl (aa.map Dat.cs) .none,.agg t.cs,.sl (IT.css l) .none,.sl (IT.css m) .none] H K
theorem zHX {aa:List Dat} (h8:∀ D∈aa,D.cons.length≤8) {f:Nat} {ts:List VT} {l m:List IT} (hf:IT.nodesL l+IT.nodesL m≤f) (hl:l.length=ts.length) (hm:m.length=ts.length) (hA:0≤rdA aa l ts 0) (hB:0≤rdA aa m ts 0) (h6:rdA aa l ts 0+rdA aa m ts 0≤6) (k:Nat) (hk:k≤ts.length) :
  (∀ r∈zcu aa f ts l m k,0<r.2∧r.2≤729∧r.1.length≤IT.nodesL l+IT.nodesL m)∧(zcu aa f ts l m k).length≤729:=by
 have hb:=zHV (f:=f) h8 hf hl hm hA hB h6 k hk;have hp:=zqU (zgs aa f).1 ts l m k;have hs:∀ g:List IT→Nat,zaF g (zcu aa f ts l m k)=zaF g (zcm aa f ts l m k):=λg=>zqV (zgD aa f).1 ts l m k g;have a1:=zdg l ts 0 k hl (by omega) hA;have b1:=zdg m ts 0 k hm (by omega) hB;have n1:=IT.nodesL_take_le l k;have n2:=IT.nodesL_take_le m k;have hN:zaF (λ_=>1) (zcu aa f ts l m k)≤729:=by obtain⟨h1,h2⟩:=(zem h8 (f+1)).2.1 (ts.take k) (l.take k) (m.take k) (by omega) (by simp;omega) (by simp;omega) a1.1 b1.1 (by omega);have e:=zyD (aa:=aa) (f:=f) (ts:=ts) (l:=l) (m:=m) (k:=k) k (Nat.le_refl _);rw[zhA,List.length_take,Nat.min_eq_left hk,e]at h2;rw[hs];exact Nat.le_trans h2 (ze2 (by omega))
 refine⟨λr hr=>?_,Nat.le_trans (zfr hp) hN⟩;obtain⟨q,hq,he⟩:=zep hs hr (hp r hr);have h1:=zfu (λ_=>1) hr;rw[Nat.mul_one]at h1;obtain⟨_,_,h2⟩:=hb.1 q hq;rw[he]at h2;have h3:=IT.len_le r.1;exact⟨hp r hr,by omega,by omega⟩
theorem zJb {out:List (List IT × Nat)} {ws:List (IT × Nat)} {j:Nat} (h:j<out.length):zbX (out.take (j+1)) ws=zbX (out.take j) ws++ws.map λw=>(out[j].1++[w.1],out[j].2*w.2):=by rw[List.take_succ_eq_append_getElem h];simp only[zbX,List.flatMap_append,List.flatMap_cons,List.flatMap_nil,List.append_nil]
theorem zy5 (ws:List (IT × Nat)):∀ out:List (List IT × Nat),(zbX out ws).length=out.length*ws.length
 | []=>by simp[zbX]
 | r::out=>by have:=zy5 ws out;unfold zbX at this ⊢;rw[List.flatMap_cons,List.length_append,this,List.length_map,List.length_cons,Nat.succ_mul];omega
theorem zHZ {aa:List Dat} (h8:∀ D∈aa,D.cons.length≤8) {f:Nat} (hM:zoB aa f):ziU aa (f+1):=by
 intro ts l m hf hl hm mE dU hA hB h6 hn H K hK;rw[zkw]at hK;refine ACalls.out (zV7 λhs=>?_);simp[zEf,Nat.add_assoc];refine zeF 1 (by omega) _ _ ?_;simp[zau,zaL,zaw,zaT,plain,AV.pd,AV.known,zdf,Nat.add_assoc];have eZ:([AV.sl [] .none::zai 1]:List (List AV))=zaQ (zcu aa f ts l m 0):=by simp[zqW,zaQ,IT.css]
 rw[eZ];refine zV4 (Inv:=λq t9 t22 H'=>∃ (k:Nat) (J:zaa) (tok:Tok),k≤ts.length∧ts.length-k=q∧t22=.int .i64 k∧t9=.sl (zaQ (zcu aa f ts l m k)) tok∧H'=H++J) ts.length ?_ ?_
 ·intro _;exact⟨0,[],.full,by omega,rfl,rfl,rfl,by simp⟩
 ·rintro q t9 t22 H' ⟨k,J,tok,hk,rfl,rfl,rfl,rfl⟩ aM aq aO Kb aw;have gx:=zHX (f:=f) h8 (by omega) hl hm hA hB h6 k hk;obtain⟨out,fB⟩:∃ out,out=zcu aa f ts l m k:=⟨_,rfl⟩;rw[←fB]at gx aO ⊢;obtain⟨b1,b2⟩:=gx;by_cases ap:k<ts.length
  ·have h3:k<l.length:=by omega
   have h4:k<m.length:=by omega
   obtain⟨x1,x2,x3,aB,bH,bh,bC⟩:=za2 ts[k];obtain⟨y1,y2,gI,hy1,fa⟩:=zdw l[k];obtain⟨z1,z2,hvz,hz1,kF⟩:=zdw m[k];have n1:=zdO h3;have n2:=zdO h4;have d1:=(zdA (aa:=aa) l ts 0 (by omega) hl hA).1 k h3 ap;have d2:=(zdA (aa:=aa) m ts 0 (by omega) hm hB).1 k h4 ap;have a1:=zdg l ts 0 k hl (by omega) hA;have a2:=zdg l ts 0 (k+1) hl (by omega) hA;have c1:=zdg m ts 0 k hm (by omega) hB;have c2:=zdg m ts 0 (k+1) hm (by omega) hB;have sl:=zgt (aa:=aa) l[k] ts[k] (l.take k) (ts.take k) 0 (by simp;omega) (by omega) a1.1;have sm:=zgt (aa:=aa) m[k] ts[k] (m.take k) (ts.take k) 0 (by simp;omega) (by omega) c1.1;rw[←List.take_succ_eq_append_getElem h3,←List.take_succ_eq_append_getElem ap]at sl;rw[←List.take_succ_eq_append_getElem h4,←List.take_succ_eq_append_getElem ap]at sm;have dd:rdV aa l[k] ts[k]+rdV aa m[k] ts[k]≤6:=by
    by_cases cl:rdV aa l[k] ts[k]<0∨rdA aa (l.take k) (ts.take k) 0+rdV aa l[k] ts[k]>6
    ·rw[if_pos cl]at sl;omega
    ·rw[if_neg cl]at sl;by_cases cm:rdV aa m[k] ts[k]<0∨rdA aa (m.take k) (ts.take k) 0+rdV aa m[k] ts[k]>6
     ·rw[if_pos cm]at sm;omega
     ·rw[if_neg cm]at sm;omega
   obtain⟨fJ,gW⟩:=dU _ (List.getElem_mem ap);obtain⟨ws,iV⟩:∃ ws,ws=zbo aa f ts[k] l[k] m[k]:=⟨_,rfl⟩;obtain⟨p1,p2,p3,p4⟩:=zwo h8 (f:=f) (t:=ts[k]) (i:=l[k]) (j:=m[k]) (by omega) d1 d2 dd;rw[←iV]at p1 p2 p3 p4;have bb:zcu aa f ts l m (k+1)=zbX out ws:=by rw[zkv,←fB];simp[List.getD_eq_getElem?_getD,ap,h3,h4,iV]
   generalize hHB:H++J=HB at *;simp[zu7,ap,aB];rw[←aB];refine⟨⟨bH,bh,bC⟩,?_⟩;unfold zn8;refine ALoop.own 12 zbr 4 rfl ?_;have dR:(HB++[AB.cells ts[k].cs]).length=HB.length+1:=by simp
   rw[dR,List.append_assoc];show zn8 _ _ _ _ _ (.sl (zaQ (zbX (out.take 0) ws)) (.own (HB.length+1))) _ _ _ _ _ _ (HB++[.cells ts[k].cs,.perm zbr 4 0]) _ _;have htc:∀ n,ts[k].cs.all (AV.scA n)=true:=λn=>by obtain⟨v1,v2,v3⟩:=ts[k];simp[VT.cs,AV.scA,AV.scB]
   have hp7:∀ n,HSc (HB++[.cells ts[k].cs,.perm zbr 4 n]):=λn=>aM.append (by simp only[AB.sc,List.all_cons,List.all_nil,htc];rfl);have ig:∀ J,(AV.sl (zaQ out) tok).sc (HB++J).length=true:=λJ=>by
    have h0:(AV.sl (zaQ out) tok).sc HB.length=true:=by rw[List.all_eq_true]at aO;exact aO _ (by simp[ziL,ux])
    exact zcn (by simp) h0
   refine zV5 (Inv:=λq t12 t29 H'=>∃ j:Nat,j≤out.length∧out.length-j=q∧t29=.int .i64 j∧t12=.sl (zaQ (zbX (out.take j) ws)) (.own (HB.length+1))∧H'=HB++[.cells ts[k].cs,.perm zbr 4 (zbX (out.take j) ws).length]) out.length ?_ ?_
   ·intro _;exact⟨0,by omega,rfl,rfl,rfl,by simp[zbX]⟩
   ·rintro q t12 t29 H' ⟨j,hj,rfl,rfl,rfl,rfl⟩ hsc7 hlen7 hsF7 Kb7 hKb7;have eh:(zbX (out.take j) ws).length≤729*729:=by rw[zy5];exact Nat.mul_le_mul (by simp;omega) p4
    by_cases a6:j<out.length
    ·obtain⟨r1,r2,r3⟩:=b1 out[j] (List.getElem_mem a6);have aP:=zJb (ws:=ws) a6;simp[zu8,a6,h3,h4,aB,gI,hvz];rw[←aB,←gI,←hvz];refine zaB (.sl (zaV ws) .none) (λJ=>by rw[iV];exact hM ts[k] l[k] m[k] (by omega) fJ gW d1 d2 dd (by omega) _ _ ⟨rfl,rfl⟩) ?_;simp;obtain⟨ah,d9⟩:∃ ah,ah=zbX (out.take j) ws:=⟨_,rfl⟩;rw[←d9]at eh aP ⊢;obtain⟨g,hg⟩:∃ g:IT × Nat→List IT × Nat,g=λw=>(out[j].1++[w.1],out[j].2*w.2):=⟨_,rfl⟩;rw[←hg]at aP;have gO:(AV.sl (IT.css out[j].1) .none::zai (out[j].2:Int)).length=4:=by simp
     have hp10:∀ n,HSc (HB++[.cells ts[k].cs,.perm zbr 4 n,.cells (.sl (IT.css out[j].1) .none::zai (out[j].2:Int))]):=λn=>aM.append (by simp only[AB.sc,List.all_cons,List.all_nil,htc];simp[zai,AV.scA,AV.scB]);refine zV3 (Inv:=λq t12 t45 H'=>∃ i:Nat,i≤ws.length∧ws.length-i=q∧t45=.int .i64 i∧t12=.sl (zaQ (ah++(ws.take i).map g)) (.own (HB.length+1))∧H'=HB++[.cells ts[k].cs,.perm zbr 4 (ah.length+i),.cells (.sl (IT.css out[j].1) .none::zai (out[j].2:Int))]) ws.length ?_ ?_
     ·intro _;exact⟨0,by omega,rfl,rfl,by simp,rfl⟩
     ·rintro q t12 t45 H' ⟨i,hi,rfl,rfl,rfl,rfl⟩ hsc10 hlen10 hsF10 Kb10 hKb10;have eH:(ah++(ws.take i).map g).length=ah.length+i:=by simp;omega
      by_cases bj:i<ws.length
      ·obtain⟨w1,w2,_⟩:=p1 ws[i] (List.getElem_mem bj);have db:ah++(ws.take (i+1)).map g=(ah++(ws.take i).map g)++[g ws[i]]:=by rw[List.take_succ_eq_append_getElem bj];simp only[List.map_append,List.map_cons,List.map_nil,List.append_assoc]
       have fL:Sm (ws[i].2:Int):=zdD (Nat.lt_of_le_of_lt w2 (by decide));have eZ:Sm (out[j].2:Int):=zdD (Nat.lt_of_le_of_lt r2 (by decide));simp[zu6,bj,ze7,zdF,zdT];refine⟨zeB _,?_⟩;have bq:=r3;have lC:∀ (a:List IT) (x:IT),IT.css a++[x.cs]=IT.css (a++[x]):=λa x=>by rw[IT.css_map,IT.css_map,List.map_append];rfl
       have dz:∀ (a:List IT),∀ c∈IT.css a,c.length=2:=λa c hc=>by rw[IT.css_map]at hc;obtain⟨v,_,rfl⟩:=List.mem_map.1 hc;simp
       have lN:plain ([.int .i64 0,.snil]:List AV)=some [.int .i64 0,.sl [] .none]:=rfl;by_cases fY:out[j].1=[]
       ·refine zoG (.sl [] .full) (zwC _ (by omega) _ _ (λ_=>⟨rfl,rfl⟩) (λh=>absurd fY h)) ?_;simp[zdF,zaw,zaT,lN,zkj];refine zgZ (.sl (IT.css (out[j].1++[ws[i].1])) (.own (HB.length+4))) (HB++[.cells ts[k].cs,.perm zbr 4 (ah.length+i),.cells (.sl (IT.css out[j].1) .none::zai (out[j].2:Int)),.cells (tmC ws[i])]++[.perm zbQ 2 (out[j].1.length+1)]) ?_ (.inr (.inl ⟨_,_,_,rfl⟩)) ?_
        ·simp[zax,zaN,zaK,fY,IT.css]
        ·simp[zdT];refine zoG (.agg (zai ((out[j].2*ws[i].2:Nat):Int))) (znX _ _ eZ fL _ _ ⟨by rw[Int.natCast_mul],rfl⟩) ?_;have bW:plain (AV.sl (IT.css (out[j].1++[ws[i].1])) (.own (HB.length+4))::zai ((out[j].2*ws[i].2:Nat):Int))=some (.sl (IT.css (out[j].1++[ws[i].1])) .none::zai ((out[j].2*ws[i].2:Nat):Int)):=by simp[plain,AV.pd,zdf]
         have ke:plain ([.snil,.bool false,.snil,.snil]:List AV)=some [.sl [] .none,.bool false,.sl [] .none,.sl [] .none]:=rfl;have jH:zaQ (ah++(ws.take i).map g)++[.sl (IT.css (out[j].1++[ws[i].1])) .none::zai ((out[j].2*ws[i].2:Nat):Int)]=zaQ (ah++(ws.take (i+1)).map g):=by rw[db,zqX _ [g ws[i]],hg];rfl
         rw[Int.natCast_mul]at bW jH;simp only[List.map_take]at jH;simp[zau,zaL,bW,ke];have dH:min i ws.length=i:=by omega
         refine zgZ (.sl (zaQ (ah++List.take (i+1) (List.map g ws))) (.own (HB.length+1))) (HB++[.cells ts[k].cs,.perm zbr 4 (ah.length+(i+1)),.cells (.sl (IT.css out[j].1) .none::zai (out[j].2:Int)),.cells (tmC ws[i]),.perm zbQ 2 (out[j].1.length+1)]) ?_ (.inr (.inr (.inl ⟨HB.length+1,zbr,4,ah.length+i,ah.length+(i+1),by simp,by simp[List.set_append_right]⟩))) ?_
         ·simp[zax,zaN,zaK,List.set_append_right,dH];exact⟨⟨by omega,by omega⟩,jH,by omega⟩
         ·rw[wi i (by omega)];exact hKb10 _ _ ⟨ws.length-(i+1),by omega,Back.at (J:=[.cells (tmC ws[i]),.perm zbQ 2 (out[j].1.length+1)]) (H2:=HB++[.cells ts[k].cs,.perm zbr 4 (ah.length+(i+1)),.cells (.sl (IT.css out[j].1) .none::zai (out[j].2:Int))]) (by simp) (by simp) (hp10 _) (by
           have:=ig [.cells ts[k].cs,.perm zbr 4 (ah.length+(i+1)),.cells (.sl (IT.css out[j].1) .none::zai (out[j].2:Int))];simp only[ziK,ux,List.all_cons,List.all_append,List.all_replicate,List.all_nil,this];simp[AV.sc,AV.scA,AV.scB,AV.scV]) ⟨_,_,rfl,i+1,by omega,rfl,rfl,by simp only[List.map_take],rfl⟩⟩
       ·refine zgZ (.sl (IT.css out[j].1) (.own (HB.length+4))) (HB++[.cells ts[k].cs,.perm zbr 4 (ah.length+i),.cells (.sl (IT.css out[j].1) .none::zai (out[j].2:Int)),.cells (tmC ws[i])]++[.perm zbQ 2 out[j].1.length]) (zwC _ (by omega) _ _ (λh=>absurd h fY) (λ_=>⟨by simp,by simp⟩)) (.inr (.inl ⟨_,_,_,rfl⟩)) ?_;simp[zdF,zaw,zaT,lN,zkj];refine zgZ (.sl (IT.css (out[j].1++[ws[i].1])) (.own (HB.length+4))) (HB++[.cells ts[k].cs,.perm zbr 4 (ah.length+i),.cells (.sl (IT.css out[j].1) .none::zai (out[j].2:Int)),.cells (tmC ws[i])]++[.perm zbQ 2 (out[j].1.length+1)]) ?_ (.inr (.inr (.inl ⟨HB.length+4,zbQ,2,out[j].1.length,out[j].1.length+1,by simp,by simp[List.set_append_right]⟩))) ?_
        ·simp[zax,zaN,zaK,List.set_append_right,lC];omega
        ·simp[zdT];refine zoG (.agg (zai ((out[j].2*ws[i].2:Nat):Int))) (znX _ _ eZ fL _ _ ⟨by rw[Int.natCast_mul],rfl⟩) ?_;have bW:plain (AV.sl (IT.css (out[j].1++[ws[i].1])) (.own (HB.length+4))::zai ((out[j].2*ws[i].2:Nat):Int))=some (.sl (IT.css (out[j].1++[ws[i].1])) .none::zai ((out[j].2*ws[i].2:Nat):Int)):=by simp[plain,AV.pd,zdf]
         have ke:plain ([.snil,.bool false,.snil,.snil]:List AV)=some [.sl [] .none,.bool false,.sl [] .none,.sl [] .none]:=rfl;have jH:zaQ (ah++(ws.take i).map g)++[.sl (IT.css (out[j].1++[ws[i].1])) .none::zai ((out[j].2*ws[i].2:Nat):Int)]=zaQ (ah++(ws.take (i+1)).map g):=by rw[db,zqX _ [g ws[i]],hg];rfl
         rw[Int.natCast_mul]at bW jH;simp only[List.map_take]at jH;simp[zau,zaL,bW,ke];have dH:min i ws.length=i:=by omega
         refine zgZ (.sl (zaQ (ah++List.take (i+1) (List.map g ws))) (.own (HB.length+1))) (HB++[.cells ts[k].cs,.perm zbr 4 (ah.length+(i+1)),.cells (.sl (IT.css out[j].1) .none::zai (out[j].2:Int)),.cells (tmC ws[i]),.perm zbQ 2 (out[j].1.length+1)]) ?_ (.inr (.inr (.inl ⟨HB.length+1,zbr,4,ah.length+i,ah.length+(i+1),by simp,by simp[List.set_append_right]⟩))) ?_
         ·simp[zax,zaN,zaK,List.set_append_right,dH];exact⟨⟨by omega,by omega⟩,jH,by omega⟩
         ·rw[wi i (by omega)];exact hKb10 _ _ ⟨ws.length-(i+1),by omega,Back.at (J:=[.cells (tmC ws[i]),.perm zbQ 2 (out[j].1.length+1)]) (H2:=HB++[.cells ts[k].cs,.perm zbr 4 (ah.length+(i+1)),.cells (.sl (IT.css out[j].1) .none::zai (out[j].2:Int))]) (by simp) (by simp) (hp10 _) (by
           have:=ig [.cells ts[k].cs,.perm zbr 4 (ah.length+(i+1)),.cells (.sl (IT.css out[j].1) .none::zai (out[j].2:Int))];simp only[ziK,ux,List.all_cons,List.all_append,List.all_replicate,List.all_nil,this];simp[AV.sc,AV.scA,AV.scB,AV.scV]) ⟨_,_,rfl,i+1,by omega,rfl,rfl,by simp only[List.map_take],rfl⟩⟩
      ·obtain rfl:i=ws.length:=by omega
       rw[List.take_length,←aP];simp[zu6,wi j (by omega)];have hlen10:ah.length+ws.length=(zbX (out.take (j+1)) ws).length:=by rw[aP];simp
       exact hKb7 _ _ ⟨out.length-(j+1),by omega,Back.at (J:=[.cells (.sl (IT.css out[j].1) .none::zai (out[j].2:Int))]) (H2:=HB++[.cells ts[k].cs,.perm zbr 4 (zbX (out.take (j+1)) ws).length]) (by rw[←hlen10];simp) (by simp) (hp7 _) (by
        have:=ig [.cells ts[k].cs,.perm zbr 4 (zbX (out.take (j+1)) ws).length];simp only[zn7,ux,List.all_cons,List.all_append,List.all_replicate,List.all_nil,this];simp[AV.sc,AV.scA,AV.scB,AV.scV]) ⟨_,_,rfl,j+1,by omega,rfl,rfl,rfl,rfl⟩⟩
    ·obtain rfl:j=out.length:=by omega
     rw[List.take_length]at eh ⊢;simp[zu8,wi k (by omega)];exact aw _ _ ⟨ts.length-(k+1),by omega,Back.here (by simp;omega) (hp7 _) (by simp[ziL,ux,AV.sc,AV.scA,AV.scB,AV.scV]) ⟨_,_,rfl,k+1,J++[.cells ts[k].cs,.perm zbr 4 (zbX out ws).length],.own (HB.length+1),by omega,rfl,rfl,by rw[bb],by rw[←hHB];simp⟩⟩
  ·obtain rfl:k=ts.length:=by omega
   rw[←fB]at hK;simp[zu7];exact Out.at (b:=.sl (zaQ out) .none) rfl (Nat.le_refl _) hs (.atom (.sl _ _)) rfl rfl hK
end Go.Proofs.YtdmamdnkcefmmaaGreatDoor
namespace Go.Proofs.YtdmamdnkcefmmaaGreatDoor
open Go Go.Abs
set_option maxRecDepth 100000
section
variable (t0 t1 t2 t3 t4 t5 t9 t10 t11 t34 t35 t36 t60 t61 t62 t85 t86 t87 t88:AV) (H:zaa) (K:Kt) (Kb2 Kb6 Kb12 Kb13 Kb20:Lt)
def zec:Nat→List Bool | 6=>rl false [9,1,24,3,66] | 13=>rl false [9,1,50,3,40] | 20=>rl false [9,1,76,3,14] | _=>[]
noncomputable def zfX:Code:=Tryz.f43.body.getD .skip
noncomputable def zur:List ResultVar:=Tryz.f43.results.toList
def znn:List AV:=ux 9 (t9::ux 24 (t34::t35::t36::ux 66 []))
def zTZ:List Bool:=zec 6
noncomputable def zTT:Code:=zar [1,1,0,1,0,1,0,1,0,0] zfX
def zTQ:AExit→List AV→zaa→Prop:=zas tP zec [1,1,0,1,0,1,0,1,0] zfX (zay tP zur K)
def zns:Prop:=ALoop tP zTT (zTQ K) (znn t9 t34 t35 t36) H
def zno:Prop:=K t9 H
def zfY:Prop:=zno t9 H K
def zup:Prop:=zac .lss false t36 t35 λt37=>zag t37 (zaj 4 t34 t36 λt38=>zae true 4 t38 H λt39=>zav [.snil,(.bool false),.snil,.snil] H λt11 H=>zan 4 t11 t39 H λH=>zaf 0 t11 λt41=>zae false 1 t41 H λt42=>zau [(.int .i64 0),.snil] [(0,1),(1,1)] [(1,t42)] λt43=>zaf 1 t11 λt44=>zae true 3 t44 H λt45=>zau [(.int .i64 0),.snil,(.bool false),.snil,.snil] [(0,2),(2,3)] [(0,t43),(1,t45)] λt46=>zaw 5 [(.int .i64 0),.snil,(.bool false),.snil,.snil] 1 [(0,t46)] λt47=>zax zaH 5 88 t9 t47 H λt48 H=>zac .add false t36 (.int .i64 1) λt49=>Kb6 (znn t48 t34 t35 t49) H) (zfY t9 H K)
def ziD:List AV:=ux 9 (t9::ux 50 (t60::t61::t62::ux 40 []))
def zTX:List Bool:=zec 13
noncomputable def zTR:Code:=zar [1,1,0,1,0,1,1,1,0,1,1,0,0] zfX
def zTO:AExit→List AV→zaa→Prop:=zas tP zec [1,1,0,1,0,1,1,1,0,1,1,0] zfX (zay tP zur K)
def znq:Prop:=ALoop tP zTR (zTO K) (ziD t9 t60 t61 t62) H
def zuq (t9 t60 t61 t62:AV) (H:zaa) (K:Kt) (Kb13:Lt):Prop:=zac .add false t62 (.int .i64 1) λt77=>Kb13 (ziD t9 t60 t61 t77) H
def znp:Prop:=zuq t9 t60 t61 t62 H K Kb13
def zun:Prop:=zac .lss false t62 t61 λt63=>zag t63 (zaj 3 t60 t62 λt65=>zae true 3 t65 H λt66=>zav [(.bool false),.snil,.snil] H λt15 H=>zan 3 t15 t66 H λH=>zae true 3 t15 H λt67=>ACalls tP zj1 [t67] H λt68 H=>zac .neq false t68 (.int .i64 0) λt69=>zag t69 (zau [(.int .i64 0),.snil] [(0,1),(1,1)] [(0,t62)] λt72=>zae true 3 t15 H λt73=>zau [(.int .i64 0),.snil,(.bool false),.snil,.snil] [(0,2),(2,3)] [(0,t72),(1,t73)] λt74=>zaw 5 [(.int .i64 0),.snil,(.bool false),.snil,.snil] 1 [(0,t74)] λt75=>zax zaH 5 88 t9 t75 H λt76 H=>znp t76 t60 t61 t62 H K Kb13) (znp t9 t60 t61 t62 H K Kb13)) (zfY t9 H K)
def znm:List AV:=ux 9 (t9::ux 76 (t86::t87::t88::ux 14 []))
def zTY:List Bool:=zec 20
noncomputable def zTS:Code:=zar [1,1,0,1,0,1,1,1,1,1,0,1,0,0] zfX
def zTP:AExit→List AV→zaa→Prop:=zas tP zec [1,1,0,1,0,1,1,1,1,1,0,1,0] zfX (zay tP zur K)
def znr:Prop:=ALoop tP zTS (zTP K) (znm t9 t86 t87 t88) H
def zuo:Prop:=zac .lss false t88 t87 λt89=>zag t89 (zaj 4 t86 t88 λt90=>zae true 4 t90 H λt91=>zav [.snil,(.bool false),.snil,.snil] H λt17 H=>zan 4 t17 t91 H λH=>zaf 0 t17 λt93=>zae false 1 t93 H λt94=>zau [(.int .i64 0),.snil] [(0,1),(1,1)] [(1,t94)] λt95=>zaf 1 t17 λt96=>zae true 3 t96 H λt97=>zau [(.int .i64 0),.snil,(.bool false),.snil,.snil] [(0,2),(2,3)] [(0,t95),(1,t97)] λt98=>zaw 5 [(.int .i64 0),.snil,(.bool false),.snil,.snil] 1 [(0,t98)] λt99=>zax zaH 5 88 t9 t99 H λt100 H=>zac .add false t88 (.int .i64 1) λt101=>Kb20 (znm t100 t86 t87 t101) H) (zfY t9 H K)
def ziC:Prop:=zaq t1 H λt5 H=>zaq t2 H λt6 H=>zaq t3 H λt7 H=>zaf 0 t5 λt18=>zae false 1 t18 H λt19=>zac .eql false t19 (.int .i64 6) λt26=>zag t26 (zaf 2 t5 λt28=>zae false 1 t28 H λt29=>zaf 1 t6 λt30=>zae false 1 t30 H λt31=>zaf 1 t7 λt32=>zae false 1 t32 H λt33=>ACalls tP zj0 [t0,t29,t31,t33] H λt34 H=>zah 1 t34 λt35=>zns .snil t34 t35 (.int .i64 0) H K) (zac .eql false t19 (.int .i64 7) λt51=>zag t51 (zaf 0 t6 λt53=>zae false 1 t53 H λt54=>zaf 0 t7 λt55=>zae false 1 t55 H λt56=>ACalls tP zqw [t54,t56] H λt57 H=>zaA t57 0 λt58=>zaA t57 1 λt59=>zah 1 t58 λt61=>znq .snil t58 t61 (.int .i64 0) H K) (zac .eql false t19 (.int .i64 5) λt79=>zag t79 (zae true 3 t5 H λt81=>zaf 1 t6 λt82=>zae false 1 t82 H λt83=>zaf 1 t7 λt84=>zae false 1 t84 H λt85=>ACalls tP zgo [t0,t81,t83,t85] H λt86 H=>zah 1 t86 λt87=>znr .snil t86 t87 (.int .i64 0) H K) (ACalls tP zdx [(.int .i64 1)] H λt21 H=>zau [(.int .i64 0),.snil,(.bool false),.snil,.snil] [(0,2),(2,3)] [(1,t21)] λt22=>zaw 5 [(.int .i64 0),.snil,(.bool false),.snil,.snil] 1 [(0,t22)] λt23=>zax zaH 5 88 .snil t23 H λt24 H=>zfY t24 H K)))
def zoa:Nat→List Bool | 200007=>rl false [0,5] | 200008=>rl false [0,5] | 12=>rl false [2,1,6,3,73,3,17] | 200014=>rl false [0,5] | _=>[]
noncomputable def zvd:Code:=Tryz.f81.body.getD .skip
noncomputable def zWl:List ResultVar:=Tryz.f81.results.toList
def zob:List AV:=ux 2 (t2::ux 6 (t9::t10::t11::ux 73 (t85::t86::t87::ux 17 [])))
def zWj:List Bool:=zoa 12
noncomputable def zWh:Code:=zar [1,1,1,1,1,1,1,0,1,0,1,1,0,0] zvd
def zWg:AExit→List AV→zaa→Prop:=zas tP zoa [1,1,1,1,1,1,1,0,1,0,1,1,0] zvd (zay tP zWl K)
def zEp:Prop:=ALoop tP zWh (zWg K) (zob t2 t9 t10 t11 t85 t86 t87) H
def zoc:Prop:=zae false 1 t9 H λt104=>K t104 H
def zvc:Prop:=zac .lss false t87 t86 λt88=>zag t88 (zaj 4 t85 t87 λt89=>zae true 4 t89 H λt90=>zav [.snil,(.bool false),.snil,.snil] H λt13 H=>zan 4 t13 t90 H λH=>zab H (λK'=>K' t10 H) λt91=>zab H (λK'=>K' t2 H) λt92=>zab H (λK'=>zaj 2 t92 (.int .i64 0) (K' · H)) λt93=>zab H (λK'=>zaf 0 t93 (K' · H)) λt94=>zab H (λK'=>zal false 1 t94 H (K' · H)) λt95=>zab H (λK'=>zaf 0 t13 (K' · H)) λt96=>zab H (λK'=>zal false 1 t96 H (K' · H)) λt97=>zab H (λK'=>zau [(.int .i64 0),.snil] [(0,1),(1,1)] [(0,t95),(1,t97)] (K' · H)) λt98=>zab H (λK'=>zaf 1 t13 (K' · H)) λt99=>zab H (λK'=>zal true 3 t99 H (K' · H)) λt100=>zab H (λK'=>K' t11 H) λt101=>aCallV tP t91 [t98,t100,t101] H λt102 H=>zac .add false t87 (.int .i64 1) λt103=>Kb12 (zob t2 t9 t10 t11 t85 t86 t103) H) (zoc t9 H K)
def zn9:Prop:=zaq t1 H λt5 H=>zah 1 t2 λt15=>zac .eql false t15 (.int .i64 0) λt16=>zag t16 (ACalls tP zdx [(.int .i64 1)] H λt18 H=>zau [.snil,(.bool false),.snil,.snil] [(0,1),(1,3)] [(0,t3),(1,t18)] λt19=>zaw 4 [.snil,(.bool false),.snil,.snil] 1 [(0,t19)] λt20=>K t20 H) (zah 1 t3 λt22=>zac .eql false t22 (.int .i64 0) λt23=>zag t23 (ACalls tP zdx [(.int .i64 1)] H λt25 H=>zau [.snil,(.bool false),.snil,.snil] [(0,1),(1,3)] [(0,t2),(1,t25)] λt26=>zaw 4 [.snil,(.bool false),.snil,.snil] 1 [(0,t26)] λt27=>K t27 H) (zav [.snil] H λt9 H=>zcD zjn [t9] λt28=>zab H (λK'=>K' t28 H) λt29=>zab H (λK'=>K' t2 H) λt30=>zab H (λK'=>zaj 2 t30 (.int .i64 0) (K' · H)) λt31=>zab H (λK'=>zal true 2 t31 H (K' · H)) λt32=>zaC H (λH K'=>ACalls tP zdx [(.int .i64 1)] H K') λt33=>zab H (λK'=>K' t0 H) λt34=>zab H (λK'=>zal true 3 t5 H (K' · H)) λt35=>zab H (λK'=>K' t2 H) λt36=>zab H (λK'=>zaR 1 2 t36 (some (.int .i64 1)) none (K' · H)) λt37=>zab H (λK'=>K' t3 H) λt38=>zaC H (λH K'=>ACalls tP zgo [t34,t35,t37,t38] H K') λt39=>aCallV tP t29 [t32,t33,t39] H λt40 H=>zab H (λK'=>K' t28 H) λt41=>zab H (λK'=>K' t3 H) λt42=>zab H (λK'=>zaj 2 t42 (.int .i64 0) (K' · H)) λt43=>zab H (λK'=>zal true 2 t43 H (K' · H)) λt44=>zaC H (λH K'=>ACalls tP zdx [(.int .i64 1)] H K') λt45=>zab H (λK'=>K' t0 H) λt46=>zab H (λK'=>zal true 3 t5 H (K' · H)) λt47=>zab H (λK'=>K' t2 H) λt48=>zab H (λK'=>K' t3 H) λt49=>zab H (λK'=>zaR 1 2 t49 (some (.int .i64 1)) none (K' · H)) λt50=>zaC H (λH K'=>ACalls tP zgo [t46,t47,t48,t50] H K') λt51=>aCallV tP t41 [t44,t45,t51] H λt52 H=>zab H (λK'=>K' t2 H) λt53=>zab H (λK'=>zaj 2 t53 (.int .i64 0) (K' · H)) λt54=>zab H (λK'=>zaf 0 t54 (K' · H)) λt55=>zab H (λK'=>zal false 1 t55 H (K' · H)) λt56=>zab H (λK'=>K' t3 H) λt57=>zab H (λK'=>zaj 2 t57 (.int .i64 0) (K' · H)) λt58=>zab H (λK'=>zaf 0 t58 (K' · H)) λt59=>zab H (λK'=>zal false 1 t59 H (K' · H)) λt60=>zab H (λK'=>zac .eql false t56 t60 (K' · H)) λt61=>zag t61 (zab H (λK'=>K' t0 H) λt62=>zab H (λK'=>zal true 3 t5 H (K' · H)) λt63=>zab H (λK'=>K' t2 H) λt64=>zab H (λK'=>zaR 1 2 t64 (some (.int .i64 1)) none (K' · H)) λt65=>zab H (λK'=>K' t3 H) λt66=>zab H (λK'=>zaR 1 2 t66 (some (.int .i64 1)) none (K' · H)) λt67=>zaC H (λH K'=>ACalls tP zgo [t62,t63,t65,t67] H K') λt68=>zab H (λK'=>K' t68 H) λt11=>zab H (λK'=>K' t0 H) λt69=>zab H (λK'=>K' t0 H) λt70=>zab H (λK'=>zal true 3 t5 H (K' · H)) λt71=>zab H (λK'=>K' t2 H) λt72=>zab H (λK'=>zaj 2 t72 (.int .i64 0) (K' · H)) λt73=>zab H (λK'=>zaf 0 t73 (K' · H)) λt74=>zab H (λK'=>zal false 1 t74 H (K' · H)) λt75=>zaC H (λH K'=>ACalls tP zpP [t70,t71,t75] H K') λt76=>zab H (λK'=>K' t2 H) λt77=>zab H (λK'=>zaj 2 t77 (.int .i64 0) (K' · H)) λt78=>zab H (λK'=>zaf 1 t78 (K' · H)) λt79=>zab H (λK'=>zal false 1 t79 H (K' · H)) λt80=>zab H (λK'=>K' t3 H) λt81=>zab H (λK'=>zaj 2 t81 (.int .i64 0) (K' · H)) λt82=>zab H (λK'=>zaf 1 t82 (K' · H)) λt83=>zab H (λK'=>zal false 1 t83 H (K' · H)) λt84=>zaC H (λH K'=>ACalls tP zj0 [t69,t76,t80,t84] H K') λt85=>zab H (λK'=>zah 1 t85 (K' · H)) λt86=>zab H (λK'=>K' (.int .i64 0) H) λt87=>zEp t2 t9 t28 t11 t85 t86 t87 H K) (zoc t9 H K)))
def zlr:Nat→List Bool | 2=>rl false [3,3,3,3,18] | _=>[]
noncomputable def zsi:Code:=Tryz.f133.body.getD .skip
noncomputable def zL2:List ResultVar:=Tryz.f133.results.toList
def zls:List AV:=ux 3 (t3::t4::t5::ux 3 (t9::t10::t11::ux 18 []))
def zL0:List Bool:=zlr 2
noncomputable def zLY:Code:=zar [1,1,0,0] zsi
def zLX:AExit→List AV→zaa→Prop:=zas tP zlr [1,1,0] zsi (zay tP zL2 K)
def zAJ:Prop:=ALoop tP zLY (zLX K) (zls t3 t4 t5 t9 t10 t11) H
def zsh:Prop:=zac .lss false t11 t10 λt12=>zag t12 (zaj 4 t9 t11 λt13=>zae true 4 t13 H λt14=>zav [.snil,(.bool false),.snil,.snil] H λt8 H=>zan 4 t8 t14 H λH=>zab H (λK'=>zal false 1 t3 H (K' · H)) λt15=>zab H (λK'=>zal true 2 t4 H (K' · H)) λt16=>zab H (λK'=>zaw 2 [(.int .i64 0),.snil] 1 [(0,t16)] (K' · H)) λt17=>zab H (λK'=>zaf 0 t8 (K' · H)) λt18=>zab H (λK'=>zal false 1 t18 H (K' · H)) λt19=>zab H (λK'=>zaw 1 [.snil] 2 [(0,t17),(1,t19)] (K' · H)) λt20=>zaC H (λH K'=>ACalls tP zpO [t20] H K') λt21=>zab H (λK'=>zal true 3 t5 H (K' · H)) λt22=>zab H (λK'=>zaf 1 t8 (K' · H)) λt23=>zab H (λK'=>zal true 3 t23 H (K' · H)) λt24=>zaC H (λH K'=>ACalls tP zfB [t22,t24] H K') λt25=>zab H (λK'=>zau [.snil,(.bool false),.snil,.snil] [(0,1),(1,3)] [(0,t21),(1,t25)] (K' · H)) λt26=>zab H (λK'=>zaw 4 [.snil,(.bool false),.snil,.snil] 1 [(0,t26)] (K' · H)) λt27=>zax zbr 4 80 t15 t27 H λt28 H=>zan 1 t3 t28 H λH=>zac .add false t11 (.int .i64 1) λt29=>Kb2 (zls t3 t4 t5 t9 t10 t29) H) (zaE [] (K · H))
def zAI:Prop:=zaq t0 H λt4 H=>zaq t1 H λt5 H=>zah 1 t2 λt10=>zAJ t3 t4 t5 t2 t10 (.int .i64 0) H K
variable {t0 t1 t2 t3 t4 t5 t9 t10 t11 t34 t35 t36 t60 t61 t62 t85 t86 t87 t88} {H} {K} {Kb2 Kb6 Kb12 Kb13 Kb20}
theorem zTW (Inv:Nat→AV→AV→zaa→Prop) (n:Nat) (h0:HSc H→Inv n t9 t36 H)
  (ac:Rd2 (λt9=>λt36=>znn t9 t34 t35 t36) (λt9=>λt36=>λH Kb6=>zup t9 t34 t35 t36 H K Kb6) H Inv):zns t9 t34 t35 t36 H K:=
 lp2 (M:=zec) zTZ t9 t36 (by kernel_rfl) Inv n h0 ac
theorem zTU (Inv:Nat→AV→AV→zaa→Prop) (n:Nat) (h0:HSc H→Inv n t9 t62 H)
  (ac:Rd2 (λt9=>λt62=>ziD t9 t60 t61 t62) (λt9=>λt62=>λH Kb13=>zun t9 t60 t61 t62 H K Kb13) H Inv):znq t9 t60 t61 t62 H K:=
 lp2 (M:=zec) zTX t9 t62 (by kernel_rfl) Inv n h0 ac
theorem zTV (Inv:Nat→AV→AV→zaa→Prop) (n:Nat) (h0:HSc H→Inv n t9 t88 H)
  (ac:Rd2 (λt9=>λt88=>znm t9 t86 t87 t88) (λt9=>λt88=>λH Kb20=>zuo t9 t86 t87 t88 H K Kb20) H Inv):znr t9 t86 t87 t88 H K:=
 lp2 (M:=zec) zTY t9 t88 (by kernel_rfl) Inv n h0 ac
theorem zT0 (h:HSc H→ziC t0 t1 t2 t3 H K):ACalls tP zjR [t0,t1,t2,t3] H K:=
 acb zec Tryz.func43 zfX (by kernel_rfl) (by kernel_rfl) h
theorem zWi (Inv:Nat→AV→zaa→Prop) (n:Nat) (h0:HSc H→Inv n t87 H)
  (ac:Rd1 (λt87=>zob t2 t9 t10 t11 t85 t86 t87) (λt87=>λH Kb12=>zvc t2 t9 t10 t11 t85 t86 t87 H K Kb12) H Inv):zEp t2 t9 t10 t11 t85 t86 t87 H K:=
 lp1 (M:=zoa) zWj t87 (by kernel_rfl) Inv n h0 ac
theorem zWk (h:HSc H→zn9 t0 t1 t2 t3 H K):ACalls tP zgo [t0,t1,t2,t3] H K:=
 acb zoa Tryz.func81 zvd (by kernel_rfl) (by kernel_rfl) h
theorem zLZ (Inv:Nat→AV→zaa→Prop) (n:Nat) (h0:HSc H→Inv n t11 H)
  (ac:Rd1 (λt11=>zls t3 t4 t5 t9 t10 t11) (λt11=>λH Kb2=>zsh t3 t4 t5 t9 t10 t11 H K Kb2) H Inv):zAJ t3 t4 t5 t9 t10 t11 H K:=
 lp1 (M:=zlr) zL0 t11 (by kernel_rfl) Inv n h0 ac
theorem zL1 (h:HSc H→zAI t0 t1 t2 t3 H K):ACalls tP zjn [t0,t1,t2,t3] H K:=
 acb zlr Tryz.func133 zsi (by kernel_rfl) (by kernel_rfl) h
end
end Go.Proofs.YtdmamdnkcefmmaaGreatDoor
namespace Go.Proofs.YtdmamdnkcefmmaaGreatDoor
open Go Go.Abs
def bw (H:zaa) (io iv:Nat) (l:List (List IT × Nat)):zaa:=(H.set iv (.vec zbr 4 l.length (zaQ l).flatten)).set io (.cells [.ov iv l.length])
structure Bw (H:zaa) (io iv:Nat) (l:List (List IT × Nat)):Prop where
 ne:io≠iv
 h1:H[io]?=some (.cells [.ov iv l.length])
 h2:H[iv]?=some (.vec zbr 4 l.length (zaQ l).flatten)
section
variable {H J:zaa} {io iv:Nat} {l l':List (List IT × Nat)}
@[simp] theorem zoX:(bw H io iv l).length=H.length:=by simp[bw]
theorem Bw.app (h:Bw H io iv l):Bw (H++J) io iv l:=⟨h.ne,zby h.h1,zby h.h2⟩
theorem Bw.bw_app (h:Bw H io iv l):bw (H++J) io iv l'=bw H io iv l'++J:=by unfold bw;rw[List.set_append_left _ _ (zbi h.h2),List.set_append_left _ _ (by simpa using zbi h.h1)]
theorem zFL (aD:io≠iv):bw (bw H io iv l) io iv l'=bw H io iv l':=by unfold bw;rw[List.set_comm _ _ aD,List.set_set,List.set_set]
theorem Bw.next (h:Bw H io iv l):Bw (bw H io iv l') io iv l':=by
 have l1:=zbi h.h1;have l2:=zbi h.h2;refine⟨h.ne,?_,?_⟩
 ·unfold bw;rw[List.getElem?_set_self (by simpa using l1)]
 ·unfold bw;rw[List.getElem?_set_ne h.ne,List.getElem?_set_self l2]
theorem zyF (l:List (List IT × Nat)) (n:Nat):(zaQ l).flatten.all (AV.scA n)=true:=by
 rw[List.all_eq_true];intro x hx;obtain⟨c,hc,hx⟩:=List.mem_flatten.1 hx;obtain⟨r,_,rfl⟩:=List.mem_map.1 hc;rcases List.mem_cons.1 hx with rfl | hx
 ·rfl
 ·exact List.all_eq_true.1 (zkn _ _) x hx
theorem Bw.hsc (h:Bw H io iv l) (hs:HSc H):HSc (bw H io iv l'):=by have l2:=zbi h.h2;unfold bw;refine HSc.set (HSc.set hs (by simp only[AB.sc];exact zyF _ _)) ?_;simp[AB.sc,AV.scA,AV.scB];omega
theorem Bw.self (h:Bw H io iv l):bw H io iv l=H:=by
 unfold bw;have e1:H.set iv (.vec zbr 4 l.length (zaQ l).flatten)=H:=by
  refine List.ext_getElem? λi=>?_;by_cases hi:iv=i
  ·subst hi;rw[List.getElem?_set_self (zbi h.h2),h.h2]
  ·rw[List.getElem?_set_ne hi]
 rw[e1];refine List.ext_getElem? λi=>?_;by_cases hi:io=i
 ·subst hi;rw[List.getElem?_set_self (zbi h.h1),h.h1]
 ·rw[List.getElem?_set_ne hi]
end
theorem zww:zej tP zjn=true:=by kernel_rfl
theorem zoU (e:IT) (he:e.nodes≤1000) (c:Nat) (hc:c≤729) (rest:List (List IT × Nat)) (hr:∀ r∈rest,r.2≤729∧r.1.length≤1000) (hl:rest.length≤729) (H:zaa) (io iv:Nat) (l:List (List IT × Nat)) (hP:Bw H io iv l) (bq:l.length≤100000)
  (K:Kt) (hK:K (.tup []) (bw H io iv (l++rest.map λr=>(e::r.1,c*r.2)))):ACalls tP zjn [.agg e.cs,.agg (zai (c:Int)),.sl (zaQ rest) .none,.ptr io 0] H K:=by
 refine ACalls.out (zL1 λhs=>?_);obtain⟨x,y,aB,hx,hy⟩:=zdw e;obtain⟨g,hg⟩:∃ g:List IT × Nat→List IT × Nat,g=λr=>(e::r.1,c*r.2):=⟨_,rfl⟩;rw[←hg]at hK;simp[zAI,Nat.add_assoc];have hsc:∀ l',HSc (bw H io iv l'++[.cells e.cs,.cells (zai (c:Int))]):=λl'=>(hP.hsc hs).append (by
  obtain⟨a,b⟩:=e;simp[AB.sc,IT.cs,zai,AV.scA,AV.scB])
 refine zLZ (Inv:=λq t11 H'=>∃ i:Nat,i≤rest.length∧rest.length-i=q∧t11=.int .i64 i∧H'=bw H io iv (l++(rest.take i).map g)++[.cells e.cs,.cells (zai (c:Int))]) rest.length ?_ ?_
 ·intro _;exact⟨0,by omega,rfl,rfl,by simp[hP.self]⟩
 ·rintro q t11 H' ⟨i,hi,rfl,rfl,rfl⟩ cv aq aO Kb aw;by_cases bj:i<rest.length
  ·obtain⟨r1,r2⟩:=hr _ (List.getElem_mem bj);have jB:Bw (bw H io iv (l++(rest.take i).map g)) io iv (l++(rest.take i).map g):=hP.next;obtain⟨ah,d9⟩:∃ ah,ah=l++(rest.take i).map g:=⟨_,rfl⟩;have db:l++(rest.take (i+1)).map g=ah++[g rest[i]]:=by rw[d9,List.take_succ_eq_append_getElem bj];simp only[List.map_append,List.map_cons,List.map_nil,List.append_assoc]
   have eH:ah.length=l.length+i:=by rw[d9];simp;omega
   rw[←d9]at jB ⊢;have g1:∀ J,(bw H io iv ah++J)[io]?=some (.cells [.ov iv ah.length]):=λJ=>zby jB.h1;have g2:∀ J,(bw H io iv ah++J)[iv]?=some (.vec zbr 4 ah.length (zaQ ah).flatten):=λJ=>zby jB.h2;have g3:∀ b J,(bw H io iv ah++AB.cells b::J)[H.length]?=some (.cells b):=λb J=>by rw[←zoX (H:=H) (io:=io) (iv:=iv) (l:=ah)];simp
   have g4:∀ b b' J,(bw H io iv ah++AB.cells b::AB.cells b'::J)[H.length+1]?=some (.cells b'):=λb b' J=>by rw[←zoX (H:=H) (io:=io) (iv:=iv) (l:=ah)];simp
   have g5:∀ b b' b'' J,(bw H io iv ah++AB.cells b::AB.cells b'::AB.cells b''::J)[H.length+2]?=some (.cells b''):=λb b' b'' J=>by rw[←zoX (H:=H) (io:=io) (iv:=iv) (l:=ah)];simp
   have lN:plain ([.int .i64 0,.snil]:List AV)=some [.int .i64 0,.sl [] .none]:=rfl;simp[zsh,bj,g1,g3,g4,g5,zaw,zaT,lN,zkj,plain,AV.pd];refine zaB (.sl (IT.css (e::rest[i].1)) .none) (λJ=>by
    have:=zIp [e] rest[i].1 (by simp) (by simp;omega) (bw H io iv ah++[.cells e.cs,.cells (zai (c:Int)),.cells (.sl (IT.css rest[i].1) .none::zai (rest[i].2:Int))]++J) (λv H'=>v=.sl (IT.css (e::rest[i].1)) .none∧H'=bw H io iv ah++[.cells e.cs,.cells (zai (c:Int)),.cells (.sl (IT.css rest[i].1) .none::zai (rest[i].2:Int))]++J) ⟨rfl,rfl⟩;exact this) ?_
   refine zaB (.agg (zai ((c*rest[i].2:Nat):Int))) (λJ=>znX _ _ (zdD (Nat.lt_of_le_of_lt hc (by decide))) (zdD (Nat.lt_of_le_of_lt r1 (by decide))) _ _ ⟨by rw[Int.natCast_mul],rfl⟩) ?_;have aH:([.sl (IT.css (e::rest[i].1)) .none::zai ((c*rest[i].2:Nat):Int)]:List (List AV))=zaQ [g rest[i]]:=by rw[hg];rfl
   have bW:plain (AV.sl (IT.css (e::rest[i].1)) .none::zai ((c*rest[i].2:Nat):Int))=some (.sl (IT.css (e::rest[i].1)) .none::zai ((c*rest[i].2:Nat):Int)):=by simp[plain,AV.pd,zdf]
   rw[Int.natCast_mul]at bW aH;have aX:∀ J:zaa,(((bw H io iv ah++J).set iv (.vec zbr 4 (ah.length+1) ((zaQ ah).flatten++(.sl (IT.css (e::rest[i].1)) .none::zai ((c:Int)*(rest[i].2:Int)))))).set io (.cells [.ov iv (ah.length+1)]))=bw H io iv (ah++[g rest[i]])++J:=by intro J;have h1:=jB.bw_app (J:=J) (l':=ah++[g rest[i]]);rw[zFL hP.ne]at h1;rw[←h1];unfold bw;rw[zqX,←aH];simp
   have g6:∀ X J,((bw H io iv ah++J).set iv X)[io]?=some (.cells [.ov iv ah.length]):=λX J=>by rw[List.getElem?_set_ne (λh=>hP.ne h.symm)];exact g1 J
   simp[zau,zaL,bW,zax,zaN,zaK,g2,g6,wi i (by omega)];refine⟨⟨by omega,by omega⟩,?_⟩;rw[aX,←db];exact aw _ _ ⟨rest.length-(i+1),by omega,Back.at (J:=[.cells (.sl (IT.css rest[i].1) .none::zai (rest[i].2:Int))]) (H2:=bw H io iv (l++(rest.take (i+1)).map g)++[.cells e.cs,.cells (zai (c:Int))]) (by simp) (by simp) (hsc _) (by
    have l1:=zbi hP.h1;simp[zls,ux,AV.sc,AV.scA,AV.scB,AV.scV];try omega) ⟨_,rfl,i+1,by omega,rfl,rfl,rfl⟩⟩
  ·obtain rfl:i=rest.length:=by omega
   rw[List.take_length]at *;simp[zsh];exact zJA (J:=[_,_]) rfl (by simp) (hP.hsc hs) hK
def hpB (H:zaa) (T:VT) (l:List (List IT × Nat)):zaa:=H++[.cells T.cs,.cells [.ov (H.length+2) l.length],.vec zbr 4 l.length (zaQ l).flatten]
theorem hpB_B {H:zaa} {T:VT} {l:List (List IT × Nat)}:Bw (hpB H T l) (H.length+1) (H.length+2) l:=⟨by omega,by simp[hpB],by simp[hpB]⟩
theorem zpn {H:zaa} {T:VT} {l l':List (List IT × Nat)}:bw (hpB H T l) (H.length+1) (H.length+2) l'=hpB H T l':=by simp[bw,hpB,List.set_append_right]
@[simp] theorem yaT {H:zaa} {T:VT} {l:List (List IT × Nat)}:(hpB H T l).length=H.length+3:=by simp[hpB]
@[simp] theorem yaR {H:zaa} {T:VT} {l:List (List IT × Nat)} (h:H.length<(hpB H T l).length):(hpB H T l)[H.length]=.cells T.cs:=by simp[hpB]
@[simp] theorem zxh {H:zaa} {T:VT} {l:List (List IT × Nat)}:(hpB H T l)[H.length]?=some (.cells T.cs):=by simp[hpB]
@[simp] theorem yaS {H:zaa} {T:VT} {l:List (List IT × Nat)} (h:H.length+1<(hpB H T l).length):(hpB H T l)[H.length+1]=.cells [.ov (H.length+2) l.length]:=by simp[hpB,List.getElem_append]
theorem zys:∀ l:List (List IT × Nat),plain (zaQ l).flatten=some (zaQ l).flatten
 | []=>rfl
 | r::l=>by show plain ((.sl (IT.css r.1) .none::zai (r.2:Int))++(zaQ l).flatten)=_;exact zh2 (by simp[plain,AV.pd,zdf]) (zys l)
theorem zHs {H:zaa} {T:VT} {K:Kt} (l:List (List IT × Nat)) (hs:HSc H) (hK:K (.sl (zaQ l) .none) H):Out H.length K (.ov (H.length+2) l.length) (hpB H T l):=
 ⟨.sl (zaQ l) .none,H,_,rfl,Nat.le_refl _,hs,.one (.vfz (H.length+2) zbr 4 l.length (zaQ l).flatten (zaQ l) (by omega) (by simp[hpB]) (zys l) (by simp) (λc hc=>by
  obtain⟨p,_,rfl⟩:=List.mem_map.1 hc;simp)),hK⟩
theorem zGV {aa:List Dat} (hk:zbb aa) (h8:∀ D∈aa,D.cons.length≤8) (hD:zbn aa=true) {f:Nat} (hQ:ziU aa f) (hM:ziT aa f):ziT aa (f+1):=by
 intro t l m hf gN dU lO hl hm h6 hn H K hK;obtain⟨k,tn,tks⟩:=t;simp only[VT.kind]at lO;subst lO;refine ACalls.out (zWk λhs=>?_);have eu:(VT.mk 5 tn tks).cs=[.int .i64 5,.int .i64 tn,.sl (VT.css tks) .none]:=rfl;have ke:plain ([.snil,.bool false,.snil,.snil]:List AV)=some [.sl [] .none,.bool false,.sl [] .none,.sl [] .none]:=rfl;cases l with
 | nil=>
  have e:za4 aa (f+1) (.mk 5 tn tks) [] m=[(m,1)]:=by rw[za4]
  rw[e]at hK;simp[zn9,IT.css,eu,Nat.add_assoc];refine zeF 1 (by omega) _ _ ?_;simp[zau,zaL,zaw,zaT,plain,AV.pd,AV.known,zdf,ke];exact Out.at (b:=.sl (zaQ [(m,1)]) .none) rfl (Nat.le_refl _) hs (.atom (.sl _ _)) rfl rfl hK
 | cons a l=>
  cases m with
  | nil=>
   have e:za4 aa (f+1) (.mk 5 tn tks) (a::l) []=[(a::l,1)]:=by rw[za4]
   rw[e]at hK;have hb:(((l.length:Int)+1) == 0)=false:=by simp;omega
   simp[zn9,eu,hb,Nat.add_assoc];refine zeF 1 (by omega) _ _ ?_;simp[zau,zaL,zaw,zaT,plain,AV.pd,AV.known,zdf,ke];exact Out.at (b:=.sl (zaQ [(a::l,1)]) .none) rfl (Nat.le_refl _) hs (.atom (.sl _ _)) rfl rfl hK
  | cons b m=>
   obtain⟨ca,pa⟩:=a;obtain⟨cb,pb⟩:=b;obtain⟨la,ll,el⟩:=zkr h8 _ _ l hl;obtain⟨mb,mm,em⟩:=zkr h8 _ _ m hm;obtain⟨ca0,ca8,psa,fu,jZ,lI,ea⟩:=zh4 la;obtain⟨cb0,cb8,psb,kN,bn,lJ,eb⟩:=zh4 mb;have na:=(IT.mk ca pa).nodes_pos;have nb:=(IT.mk cb pb).nodes_pos;simp only[IT.nodesL]at hf hn;have bG:(((l.length:Int)+1) == 0)=false:=by simp;omega
   have bz:(((m.length:Int)+1) == 0)=false:=by simp;omega
   have tl1:(List.take (l.length+1) (IT.css (.mk ca pa::l))).tail=IT.css l:=by simp[IT.css,List.take_of_length_le]
   have tl2:(List.take (m.length+1) (IT.css (.mk cb pb::m))).tail=IT.css m:=by simp[IT.css,List.take_of_length_le]
   have lP:∀ (x:List IT),∀ c∈IT.css x,c.length=2:=λx c hc=>by rw[IT.css_map]at hc;obtain⟨v,_,rfl⟩:=List.mem_map.1 hc;simp
   simp[zn9,eu,bG,bz,Nat.add_assoc];refine⟨rfl,?_⟩;refine zaB (.agg (zai ((1:Nat):Int))) (λJ=>zeF 1 (by omega) _ _ ⟨rfl,rfl⟩) ?_;refine⟨lP _,?_⟩;rw[tl1,←eu];obtain⟨A,hA⟩:∃ A,A=za4 aa f (.mk 5 tn tks) l (.mk cb pb::m):=⟨_,rfl⟩;obtain⟨B,hB⟩:∃ B,B=za4 aa f (.mk 5 tn tks) (.mk ca pa::l) m:=⟨_,rfl⟩;obtain⟨C,hC⟩:∃ C,C=za4 aa f (.mk 5 tn tks) l m:=⟨_,rfl⟩;obtain⟨A1,A2,A3,A4⟩:=zi4 h8 (f:=f) (t:=.mk 5 tn tks) (l:=l) (m:=.mk cb pb::m) (by simp only[IT.nodesL];omega) ll hm (by omega);obtain⟨B1,B2,B3,B4⟩:=zi4 h8 (f:=f) (t:=.mk 5 tn tks) (l:=.mk ca pa::l) (m:=m) (by simp only[IT.nodesL];omega) hl mm (by omega);obtain⟨C1,C2,C3,C4⟩:=zi4 h8 (f:=f) (t:=.mk 5 tn tks) (l:=l) (m:=m) (by omega) ll mm (by omega);rw[←hA]at A1 A2 A3 A4;rw[←hB]at B1 B2 B3 B4;rw[←hC]at C1 C2 C3 C4;simp only[IT.nodesL]at A1 B1;refine zaB (.sl (zaQ A) .none) (λJ=>by rw[hA];exact hM _ l (.mk cb pb::m) (by simp only[IT.nodesL];omega) gN dU rfl ll hm (by omega) (by simp only[IT.nodesL];omega) _ _ ⟨rfl,rfl⟩) ?_;simp only[aCallV,zww];refine ACalls.ovC (id:=H.length+1) (j:=0) (cs:=[.snil]) zbr 4 (by simp) rfl ?_;have aX:(H++[AB.cells (VT.mk 5 tn tks).cs,.cells [.snil]]).set (H.length+1) (.cells ([AV.snil].set 0 (.ov (H++[AB.cells (VT.mk 5 tn tks).cs,.cells [.snil]]).length 0)))++[.vec zbr 4 0 []]=hpB H (.mk 5 tn tks) []:=by simp[hpB,List.set_append_right,zaQ]
   rw[aX];have mN:∀ r:List IT × Nat,IT.nodesL r.1≤700→r.1.length≤1000:=λr h=>by have:=IT.len_le r.1;omega
   refine zoU (.mk ca pa) (by simp only[IT.nodes]at hn ⊢;omega) 1 (by omega) A (λr hr=>⟨(A1 r hr).2.1,mN r (by have:=(A1 r hr).2.2.2.2;omega)⟩) A4 _ (H.length+1) (H.length+2) [] hpB_B (by simp) _ ?_;rw[zpn];simp only[List.nil_append,Nat.one_mul];obtain⟨s1,be⟩:∃ s1:List (List IT × Nat),s1=A.map λr=>(IT.mk ca pa::r.1,r.2):=⟨_,rfl⟩;rw[←be];have hs1l:s1.length≤729:=by rw[be];simpa using A4
   have h0:=zxh (H:=H) (T:=.mk 5 tn tks) (l:=s1);refine zaB (.agg (zai ((1:Nat):Int))) (λJ=>zeF 1 (by omega) _ _ ⟨rfl,rfl⟩) ?_;simp[h0,eu];refine⟨lP _,?_⟩;rw[tl2,←eu];refine zaB (.sl (zaQ B) .none) (λJ=>by rw[hB];exact hM _ (.mk ca pa::l) m (by simp only[IT.nodesL];omega) gN dU rfl hl mm (by omega) (by simp only[IT.nodesL];omega) _ _ ⟨rfl,rfl⟩) ?_;refine zoU (.mk cb pb) (by simp only[IT.nodes]at hn ⊢;omega) 1 (by omega) B (λr hr=>⟨(B1 r hr).2.1,mN r (by have:=(B1 r hr).2.2.2.2;omega)⟩) B4 _ (H.length+1) (H.length+2) s1 hpB_B (by omega) _ ?_;rw[zpn];simp only[Nat.one_mul];obtain⟨s2,c5⟩:∃ s2:List (List IT × Nat),s2=s1++B.map λr=>(IT.mk cb pb::r.1,r.2):=⟨_,rfl⟩;rw[←c5];have hs2l:s2.length≤1458:=by rw[c5];simp;omega
   have h02:=λl'=>zxh (H:=H) (T:=.mk 5 tn tks) (l:=l');have fB:∀ l',l'=za4 aa (f+1) (.mk 5 tn tks) (.mk ca pa::l) (.mk cb pb::m)→zoc (.ptr (H.length+1) 0) (hpB H (.mk 5 tn tks) l') (Out H.length K):=by rintro l' rfl;have h1:=(hpB_B (H:=H) (T:=.mk 5 tn tks) (l:=za4 aa (f+1) (.mk 5 tn tks) (.mk ca pa::l) (.mk cb pb::m))).h1;have h2:=(hpB_B (H:=H) (T:=.mk 5 tn tks) (l:=za4 aa (f+1) (.mk 5 tn tks) (.mk ca pa::l) (.mk cb pb::m))).h2;simp[zoc,h1];exact zHs _ hs hK
   by_cases a8:ca=cb
   ·subst a8;simp[h02,eu,IT.cs];refine⟨lP _,lP _,?_⟩;rw[←eu];rw[fu]at kN;cases kN;obtain⟨R,hR⟩:∃ R,R=zct aa f psa pa pb:=⟨_,rfl⟩;obtain⟨R1,R2,R3,R4⟩:=zwp h8 (f:=f) (ts:=psa) (l:=pa) (m:=pb) (by simp only[IT.nodes]at hf;omega) jZ.symm bn.symm lI lJ (by omega);rw[←hR]at R1 R2 R3 R4;obtain⟨lf,gz⟩:∃ lf,za6 aa (.mk 5 tn tks) ca=some lf:=by
     cases gz:za6 aa (.mk 5 tn tks) ca with
     | none=>simp[za7,gz]at fu
     | some lf=>exact⟨lf,rfl⟩
    obtain⟨bs,ie,hlb2,gM,bt,cg,_⟩:=zkg hk gz;rw[fu]at bt;have ee:psa=pick lf bs:=Option.some.inj bt;have hpsl:psa.length≤8:=by rw[ee];have:=zkh lf bs;omega
    have hpsv:∀ x∈psa,x.nodes≤1000∧zaZ aa 0 x=true:=λx hx=>by rw[ee]at hx;have hm:=ze0 hx;have:=cg x hm;exact⟨by omega,zpf hD (zzK dU) gz _ hm⟩
    refine zaB (.sl (zaQ C) .none) (λJ=>by rw[hC];exact hM _ l m (by omega) gN dU rfl ll mm (by omega) (by omega) _ _ ⟨rfl,rfl⟩) ?_;refine zaB (.sl (VT.css psa) .none) (λJ=>zMi hk tn tks gN ca fu _ _ ⟨rfl,rfl⟩) ?_;refine zaB (.sl (zaQ R) .none) (λJ=>by rw[hR];exact hQ psa pa pb (by simp only[IT.nodes]at hf;omega) jZ.symm bn.symm (by omega) hpsv lI lJ (by omega) (by simp only[IT.nodes]at hn;omega) _ _ ⟨rfl,rfl⟩) ?_;simp;obtain⟨F,hF⟩:∃ F:List IT × Nat→List (List IT × Nat),F=λr=>C.map λx=>(IT.mk ca r.1::x.1,r.2*x.2):=⟨_,rfl⟩;have iB:s2++R.flatMap F=za4 aa (f+1) (.mk 5 tn tks) (.mk ca pa::l) (.mk ca pb::m):=by rw[za4,if_pos (show zaJ (.mk ca pa)=zaJ (.mk ca pb) from rfl),c5,be,hA,hB,hF,hR,hC];simp only[zaJ,zaz,fu,Option.getD_some]
    have ep:R.length*C.length≤729:=by refine Nat.le_trans (Nat.mul_le_mul (zfr λp hp=>(R1 p hp).1) (zfr λp hp=>(C1 p hp).1)) (Nat.le_trans (Nat.mul_le_mul R2 C2) ?_);rw[←zqG (by omega) (by omega)];exact ze2 (by omega)
    have hG:∀ i,((R.take i).flatMap F).length≤729:=λi=>by
     have:∀ L:List (List IT × Nat),(L.flatMap F).length=L.length*C.length:=λL=>by
      induction L with
      | nil=>simp
      | cons r L ih=>rw[List.flatMap_cons,List.length_append,ih,hF,List.length_map,List.length_cons,Nat.succ_mul];omega
     rw[this];exact Nat.le_trans (Nat.mul_le_mul_right _ (by simp;omega)) ep
    have hscB:∀ l',HSc (hpB H (.mk 5 tn tks) l'):=λl'=>hs.append (by simp only[AB.sc,List.all_cons,List.all_nil,zyF];simp[VT.cs,AV.scA,AV.scB]);refine zWi (Inv:=λq t87 H'=>∃ i:Nat,i≤R.length∧R.length-i=q∧t87=.int .i64 i∧H'=hpB H (.mk 5 tn tks) (s2++(R.take i).flatMap F)) R.length ?_ ?_
    ·intro _;exact⟨0,by omega,rfl,rfl,by simp⟩
    ·rintro q t87 H' ⟨i,hi,rfl,rfl,rfl⟩ hsc12 aq aO Kb aw;by_cases bj:i<R.length
     ·obtain⟨r1,r2,r3,_,_,r6⟩:=R1 _ (List.getElem_mem bj);have db:s2++(R.take (i+1)).flatMap F=(s2++(R.take i).flatMap F)++F R[i]:=by rw[List.take_succ_eq_append_getElem bj];simp only[List.flatMap_append,List.flatMap_cons,List.flatMap_nil,List.append_nil,List.append_assoc]
      have bi:=hG i;obtain⟨ah,d9⟩:∃ ah,ah=s2++(R.take i).flatMap F:=⟨_,rfl⟩;have eH:ah.length≤3000:=by rw[d9,List.length_append];omega
      rw[←d9]at db ⊢;simp[zvc,bj,IT.cs,IT.css,zau,zaL,AV.known];simp only[aCallV,zww];have hBa:Bw (hpB H (.mk 5 tn tks) ah++[.cells (.sl (IT.css R[i].1) .none::zai (R[i].2:Int))]) (H.length+1) (H.length+2) ah:=hpB_B.app;refine zoU (.mk ca R[i].1) (by simp only[IT.nodes]at hn ⊢;omega) R[i].2 (by omega) C (λr hr=>⟨(C1 r hr).2.1,mN r (by have:=(C1 r hr).2.2.2.2;omega)⟩) C4 _ (H.length+1) (H.length+2) ah hBa (by omega) _ ?_;rw[hpB_B.bw_app,zpn];have hFi:F R[i]=C.map λr=>(IT.mk ca R[i].1::r.1,R[i].2*r.2):=by rw[hF]
      rw[←hFi,←db,wi i (by omega)];exact aw _ _ ⟨R.length-(i+1),by omega,Back.at (J:=[.cells (.sl (IT.css R[i].1) .none::zai (R[i].2:Int))]) (H2:=hpB H (.mk 5 tn tks) (s2++(R.take (i+1)).flatMap F)) rfl (by simp) (hscB _) (by simp[zob,ux,AV.sc,AV.scA,AV.scB,AV.scV]) ⟨_,rfl,i+1,by omega,rfl,rfl,rfl⟩⟩
     ·obtain rfl:i=R.length:=by omega
      rw[List.take_length,iB];simp[zvc];exact fB _ rfl
   ·have mM:(ca == cb)=false:=by simpa using a8
    simp[h02,IT.cs,mM];refine fB s2 ?_;rw[za4,if_neg (by simpa[zaJ]using a8),List.append_nil,c5,be,hA,hB]
theorem zzC {n:Nat} {H2 J H':zaa} {K:Kt} (he:H'=H2++J) (hn:n≤H2.length) (hs:HSc H2) (h:K (.tup []) H2):Out n K (.tup []) H':=by subst he;exact⟨.tup [],H2,J,rfl,hn,hs,.tup trivial,h⟩
theorem zz0:∀ (ks:List IT) (k:IT),zbk (ks++[k])=zbk ks++wrI k++[44]
 | [],k=>by simp[zbk]
 | x::ks,k=>by have:=zz0 ks k;simp[zbk,this]
theorem zx5:∀ (ks:List IT) (k:IT),IT.nodesL (ks++[k])=IT.nodesL ks+k.nodes
 | [],k=>by simp[IT.nodesL]
 | x::ks,k=>by have:=zx5 ks k;simp only[List.cons_append,IT.nodesL,this];omega
theorem zIw (n:Nat) (h:n≤9):small n=[UInt8.ofNat (48+n)]:=by
 have:∀ n≤9,small n=[UInt8.ofNat (48+n)]:=by decide
 exact this n h
theorem zVW:∀ (m:Nat) (i:IT),i.nodes≤m→i.nodes≤1000→Dig i→∀ (H:zaa) (id id2:Nat) (l:List UInt8),Wb H id id2 l→l.length+4*i.nodes≤1000000→∀ K:Kt,K (.tup []) (wb H id id2 (l++wrI i))→ACalls tP zjZ [.ptr id 0,.agg i.cs] H K:=by
 intro m;induction m with
 | zero=>intro i h;have:=i.nodes_pos;omega
 | succ m ih=>
  intro i hm hn hd H id id2 l hB hl K hK;obtain⟨n,ks⟩:=i;rw[Dig]at hd;obtain⟨dq,hd9,hdk⟩:=hd;obtain⟨a,rfl⟩:∃ a:Nat,n=a:=⟨n.toNat,by omega⟩;have bS:IT.nodesL ks+1≤m+1:=by simpa[IT.nodes]using hm
  have cy:IT.nodesL ks+1≤1000:=by simpa[IT.nodes]using hn
  have gV:l.length+4*(IT.nodesL ks+1)≤1000000:=by simpa[IT.nodes]using hl
  have cu:=IT.len_le ks;refine ACalls.out (zVU λhs=>?_);have iC:(IT.mk (a:Int) ks).cs=[.int .i64 a,.sl (IT.css ks) .none]:=rfl;rw[wrI,Int.toNat_natCast]at hK;obtain⟨dg,hdg⟩:∃ dg,dg=UInt8.ofNat (48+a):=⟨_,rfl⟩;have iL:=zIw a (by omega);rw[←hdg]at hK iL;have hO:∀ r J,r=l++(dg::if ks.length=0 then [] else 40::(zbk ks++[41]))→Out H.length K (.tup []) (wb H id id2 r++J):=λr J h=>zzC rfl (by simp) (hB.hsc hs) (by rw[h];exact hK);simp[zEc,iC,Nat.add_assoc];refine zEZ a (by omega) _ _ ?_;rw[iL];refine Ws hB.app (by simp;omega) ?_;rw[hB.wb_app];by_cases aD:ks.length=0
  ·obtain rfl:=List.eq_nil_of_length_eq_zero aD;simp[IT.css];exact hO _ _ (by simp)
  ·have bX:0<ks.length:=by omega
   simp[bX];have lv:Wb (wb H id id2 (l++[dg])) id id2 (l++[dg]):=hB.next;refine Wy (c:=40) lv.app (by simp;omega) ?_;rw[lv.wb_app,zkQ hB.ne];simp;obtain⟨p,hp⟩:∃ p,p=l++[dg,40]:=⟨_,rfl⟩;have bW:p.length=l.length+2:=by rw[hp];simp
   rw[←hp];have lQ:∀ q,Wb (wb H id id2 (p++q)) id id2 (p++q):=λq=>hB.next;refine zVS (Inv:=λq t20 H'=>∃ j:Nat,j≤ks.length∧ks.length-j=q∧t20=.int .i64 j∧H'=wb H id id2 (p++zbk (ks.take j))++[.cells [.int .i64 a,.sl (IT.css ks) .none]]) ks.length ?_ ?_
   ·intro _;exact⟨0,by omega,rfl,rfl,by simp[zbk]⟩
   ·rintro q t20 H' ⟨j,hj,rfl,rfl,rfl⟩ aM aq aO Kb aw;have kQ:=zkR (ks.take j);have mE:=IT.nodesL_take_le ks j;by_cases a6:j<ks.length
    ·have gK:=zdO a6;have iN:=zvC hdk _ (List.getElem_mem a6);have hts:=IT.nodesL_take_le ks (j+1);have aT:zbk (ks.take (j+1))=zbk (ks.take j)++wrI ks[j]++[44]:=by rw[List.take_succ_eq_append_getElem a6,zz0]
     have hwl1:=zkR (ks.take (j+1));have eX:IT.nodesL (ks.take (j+1))=IT.nodesL (ks.take j)+ks[j].nodes:=by rw[List.take_succ_eq_append_getElem a6,zx5]
     obtain⟨x2,y2,aJ,bh,fa⟩:=zdw ks[j];have kb:=zrK ks[j];simp[zu4,a6,aJ,bh,fa];rw[←aJ];refine ih ks[j] (by omega) (by omega) iN _ id id2 _ ((lQ (zbk (ks.take j))).app) (by simp;omega) _ ?_;rw[(lQ (zbk (ks.take j))).wb_app,zkQ hB.ne];have kB:Wb (wb H id id2 (p++zbk (ks.take j)++wrI ks[j])) id id2 (p++zbk (ks.take j)++wrI ks[j]):=hB.next;refine Wy (c:=44) kB.app (by simp;omega) ?_;rw[kB.wb_app,zkQ hB.ne];have jC:p++zbk (ks.take j)++wrI ks[j]++[44]=p++zbk (ks.take (j+1)):=by rw[aT];simp
     rw[jC,wi j (by omega)];exact aw _ _ ⟨ks.length-(j+1),by omega,Back.at (J:=[.cells ks[j].cs]) (H2:=wb H id id2 (p++zbk (ks.take (j+1)))++[.cells [.int .i64 a,.sl (IT.css ks) .none]]) (by simp) (by simp) ((hB.hsc hs).append (by simp[AB.sc,AV.scA,AV.scB])) (by
      have:=hB.lt1;simp[zn6,ux,AV.sc,AV.scA,AV.scB,AV.scV];omega) ⟨_,rfl,j+1,by omega,rfl,rfl,rfl⟩⟩
    ·obtain rfl:j=ks.length:=by omega
     rw[List.take_length]at *;simp[zu4];refine Wy (c:=41) (lQ _).app (by simp;omega) ?_;rw[(lQ _).wb_app,zkQ hB.ne];simp;exact hO _ _ (by rw[hp,if_neg aD];simp)
def sw (H:zaa) (is im iv:Nat) (c:List AV) (s:List (IT × Nat)):zaa:=
 ((H.set iv (.vec zaH 5 s.length (tms s))).set im (.map (kvS s 0))).set is (.cells (c++[.map im,.ov iv s.length]))
structure Sw (H:zaa) (is im iv:Nat) (c:List AV) (s:List (IT × Nat)):Prop where
 c4:c.length=4
 n1:is≠im
 n2:is≠iv
 n3:im≠iv
 h1:H[is]?=some (.cells (c++[.map im,.ov iv s.length]))
 h2:H[im]?=some (.map (kvS s 0))
 h3:H[iv]?=some (.vec zaH 5 s.length (tms s))
section
variable {H J:zaa} {is im iv:Nat} {c:List AV} {s s':List (IT × Nat)}
@[simp] theorem zJm:(sw H is im iv c s).length=H.length:=by simp[sw]
theorem Sw.app (h:Sw H is im iv c s):Sw (H++J) is im iv c s:=⟨h.c4,h.n1,h.n2,h.n3,zby h.h1,zby h.h2,zby h.h3⟩
theorem Sw.next (h:Sw H is im iv c s):Sw (sw H is im iv c s') is im iv c s':=by
 have l1:=zbi h.h1;have l2:=zbi h.h2;have l3:=zbi h.h3;refine⟨h.c4,h.n1,h.n2,h.n3,?_,?_,?_⟩
 ·unfold sw;rw[List.getElem?_set_self (by simpa using l1)]
 ·unfold sw;rw[List.getElem?_set_ne h.n1,List.getElem?_set_self (by simpa using l2)]
 ·unfold sw;rw[List.getElem?_set_ne h.n2,List.getElem?_set_ne h.n3,List.getElem?_set_self l3]
theorem Sw.self (h:Sw H is im iv c s):sw H is im iv c s=H:=by
 unfold sw;have e:∀ (H:zaa) (i:Nat) (b:AB),H[i]?=some b→H.set i b=H:=λH i b hb=>by
  refine List.ext_getElem? λj=>?_;by_cases hj:i=j
  ·subst hj;rw[List.getElem?_set_self (zbi hb),hb]
  ·rw[List.getElem?_set_ne hj]
 rw[e H iv _ h.h3,e H im _ h.h2,e H is _ h.h1]
theorem Sw.hsc (h:Sw H is im iv c s) (hs:HSc H):HSc (sw H is im iv c s'):=by
 have l2:=zbi h.h2;have l3:=zbi h.h3;have hc:(c.all (AV.scA H.length))=true:=by have:=hs _ (List.mem_of_getElem? h.h1);simp only[AB.sc,List.all_append,Bool.and_eq_true]at this;exact this.1
 unfold sw;refine HSc.set (HSc.set (HSc.set hs (by simp only[AB.sc];exact zrs _ _)) (by simp only[AB.sc];exact zxr _ _)) ?_;simp only[AB.sc,List.all_append,List.length_set,hc,Bool.true_and];simp[AV.scA,AV.scB];omega
end
theorem zJl {H:zaa} {is im iv:Nat} {c:List AV} {s s':List (IT × Nat)} (h1:is≠im) (h2:is≠iv) (h3:im≠iv) (hl:s.length=s'.length) (hk:kvS s 0=kvS s' 0) :
  (sw H is im iv c s).set iv (.vec zaH 5 s.length (tms s'))=sw H is im iv c s':=by
 refine List.ext_getElem? λi=>?_;unfold sw;rw[hk,hl];simp only[List.getElem?_set,List.length_set]
 repeat' split
 all_goals first | rfl | omega | simp_all
theorem zJn {H:zaa} {is im iv:Nat} {c:List AV} {s s':List (IT × Nat)} (h1:is≠im) (h2:is≠iv) (h3:im≠iv) {a b d:AB} (ha:a=.map (kvS s' 0)) (hb:b=.vec zaH 5 s'.length (tms s')) (hd:d=.cells (c++[.map im,.ov iv s'.length])) :
  (((sw H is im iv c s).set im a).set iv b).set is d=sw H is im iv c s':=by
 subst ha hb hd;refine List.ext_getElem? λi=>?_;unfold sw;simp only[List.getElem?_set,List.length_set]
 repeat' split
 all_goals first | rfl | omega | simp_all
theorem zv4 (i:IT) (c:Nat):∀ s:List (IT × Nat),(zbc s i c).length≤s.length+1
 | []=>by simp[zbc]
 | p::s=>by have:=zv4 i c s;unfold zbc;split <;> simp <;> omega
theorem zo2:∀ (l s:List (IT × Nat)),(zbv s l).length≤s.length+l.length
 | [],s=>by simp[zbv]
 | p::l,s=>by have h1:=zo2 l (zbc s p.1 p.2);have h2:=zv4 p.1 p.2 s;have e:zbv s (p::l)=zbv (zbc s p.1 p.2) l:=rfl;rw[e,List.length_cons];omega
theorem zwG:∀ (l s:List (IT × Nat)),∀ p∈zbv s l,(∃ q∈s,q.1=p.1)∨∃ q∈l,q.1=p.1
 | [],s,p,hp=>.inl ⟨p,hp,rfl⟩
 | x::l,s,p,hp=>by
  have e:zbv s (x::l)=zbv (zbc s x.1 x.2) l:=rfl;rw[e]at hp;rcases zwG l _ p hp with ⟨q,hq,h⟩ | ⟨q,hq,h⟩
  ·rcases zg3 hq with ⟨h1,_⟩ | h1
   ·exact .inr ⟨x,by simp,by rw[←h,h1]⟩
   ·exact .inl ⟨q,h1,h⟩
  ·exact .inr ⟨q,by simp[hq],h⟩
theorem zJj (l:List (IT × Nat)) (hl:∀ p∈l,p.1.nodes≤1000∧Dig p.1) (H:zaa) (is im iv:Nat) (c:List AV) (s:List (IT × Nat)) (hS:Sw H is im iv c s) (iS:(s.map Prod.fst).Nodup) (hsd:∀ p∈s,Dig p.1)
  (hb:zaG (λ_=>1) s+zaG (λ_=>1) l<1000000000 ^ 20) (aQ:s.length+l.length≤100000) (K:Kt) (hK:K (.tup []) (sw H is im iv c (zbv s l))) :
  ACalls tP zqs [.ptr is 0,.sl (zaV l) .none] H K:=by
 refine ACalls.out (zTM λhs=>?_);simp[zDp,Nat.add_assoc];have bQ:∀ j,((zbv s (l.take j)).map Prod.fst).Nodup:=λj=>zo3 _ _ iS;have hcd:∀ j,∀ p∈zbv s (l.take j),Dig p.1:=λj p hp=>by
  rcases zwG _ _ p hp with ⟨q,hq,he⟩ | ⟨q,hq,he⟩
  ·rw[←he];exact hsd q hq
  ·rw[←he];exact (hl q (List.mem_of_mem_take hq)).2
 have cx:∀ j,(zbv s (l.take j)).length≤s.length+l.length:=λj=>Nat.le_trans (zo2 _ _) (by simp[List.length_take];omega);refine zTK (Inv:=λq t11 H'=>∃ j:Nat,j≤l.length∧l.length-j=q∧t11=.int .i64 j∧H'=sw H is im iv c (zbv s (l.take j))) l.length ?_ ?_
 ·intro _;exact⟨0,by omega,rfl,rfl,by rw[List.take_zero,zFY,hS.self]⟩
 ·rintro q t11 H' ⟨j,hj,rfl,rfl,rfl⟩ aM aq aO Kb aw;by_cases a6:j<l.length
  ·have aT:zbv s (l.take (j+1))=zbc (zbv s (l.take j)) l[j].1 l[j].2:=by rw[List.take_succ_eq_append_getElem a6,zFZ]
   have jW:=bQ j;have iN:=hcd j;have mq:=cx j;have d8:zaG (λ_=>1) (zbv s (l.take j))+l[j].2≤zaG (λ_=>1) s+zaG (λ_=>1) l:=by have h1:=zo4 (λ_=>1) (l.take (j+1)) s;rw[aT,zoM]at h1;have h2:=zJh (λ_=>1) l (j+1);rw[zdi]at h2 ⊢;simp only[zdi,Nat.mul_one]at h1 h2 ⊢;omega
   obtain⟨hn,hd⟩:=hl _ (List.getElem_mem a6);generalize hu:zbv s (l.take j)=u at *;have fI:Sw (sw H is im iv c u) is im iv c u:=hS.next;obtain⟨x2,y2,aJ,bh,fa⟩:=zdw l[j].1;simp[zuk,a6,zeB,ze7,zdF,Nat.add_assoc];refine⟨zeB _,?_⟩;have hlen0:(sw H is im iv c u).length=H.length:=zJm;simp only[zoI];have dN:∀ J,(sw H is im iv c u++(AB.cells (tmC l[j])::J))[H.length]?=some (.cells (tmC l[j])):=λJ=>by simp[List.getElem?_append]
   simp[dN,zdF,Nat.add_assoc];obtain⟨txt,iD⟩:∃ txt,txt=wrI l[j].1:=⟨_,rfl⟩;have mE:=zrK l[j].1;have htne:txt≠[]:=by rw[iD];obtain⟨r,hr⟩:=zrJ l[j].1 [];rw[List.append_nil]at hr;rw[hr];simp
   have htp:0<txt.length:=List.length_pos_iff.2 htne;refine ACalls.ownB (id:=H.length+1) (t:=112) (p:=.nilp) 5 1 (by simp[List.getElem?_append]) ?_;have hX1:(sw H is im iv c u++[AB.cells (tmC l[j]),.bld 112 [.nilp,.snil]]).set (H.length+1) (.bld 112 [.nilp,.sl [] (.own (sw H is im iv c u++[AB.cells (tmC l[j]),.bld 112 [.nilp,.snil]]).length)])++[.perm 5 1 0] =
     sw H is im iv c u++[AB.cells (tmC l[j]),.bld 112 [.nilp,.sl (bcs []) (.own (H.length+2))],.perm 5 1 0]:=by simp[List.set_append_right,bcs]
   rw[hX1];have hWb:Wb (sw H is im iv c u++[AB.cells (tmC l[j]),.bld 112 [.nilp,.sl (bcs []) (.own (H.length+2))],.perm 5 1 0]) (H.length+1) (H.length+2) []:=⟨by omega,⟨.nilp,.inl rfl,by simp[List.getElem?_append]⟩,by simp[List.getElem?_append]⟩;refine ACalls.toFrz (zVW _ l[j].1 (Nat.le_refl _) hn hd _ _ _ [] hWb (by simp;omega) _ ?_);rw[List.nil_append,←iD];refine⟨H.length+2,5,txt.length,htp,hWb.next.h2,?_⟩;have hX2:(wb (sw H is im iv c u++[AB.cells (tmC l[j]),.bld 112 [.nilp,.sl (bcs []) (.own (H.length+2))],.perm 5 1 0]) (H.length+1) (H.length+2) txt).set (H.length+2) (.frz 5 1 txt.length) =
     sw H is im iv c u++[AB.cells (tmC l[j]),.bld 112 [.ptr (H.length+1) 0,.sl (bcs txt) (.own (H.length+2))],.frz 5 1 txt.length]:=by simp[wb,List.set_append_right]
   rw[hX2];obtain⟨E,hE⟩:∃ E,E=[AB.cells (tmC l[j]),.bld 112 [.ptr (H.length+1) 0,.sl (bcs txt) (.own (H.length+2))],.frz 5 1 txt.length]:=⟨_,rfl⟩;rw[←hE];have hSE:∀ J,Sw (sw H is im iv c u++(E++J)) is im iv c u:=λJ=>fI.app;have e1:∀ J,(sw H is im iv c u++(E++J))[H.length]?=some (.cells (tmC l[j])):=λJ=>by rw[hE];simp[List.getElem?_append]
   have e2:∀ J,(sw H is im iv c u++(E++J))[H.length+1]?=some (.bld 112 [.ptr (H.length+1) 0,.sl (bcs txt) (.own (H.length+2))]):=λJ=>by rw[hE];simp[List.getElem?_append]
   have e3:∀ J,(sw H is im iv c u++(E++J))[H.length+2]?=some (.frz 5 1 txt.length):=λJ=>by rw[hE];simp[List.getElem?_append]
   have eR:(c++[.map im,.ov iv u.length])[4]?=some (.map im):=by rw[List.getElem?_append_right (by rw[hS.c4];omega),hS.c4];rfl
   have kR:(c++[.map im,.ov iv u.length])[5]?=some (.ov iv u.length):=by rw[List.getElem?_append_right (by rw[hS.c4];omega),hS.c4];rfl
   have c6:=hSE [];rw[List.append_nil]at c6;have e10:=e1 [];rw[List.append_nil]at e10;have hstr:∀ (J:zaa) (r:AV→zaa→Prop),r (.str txt) (sw H is im iv c u++(E++J))→ACalls tP zhT [.ptr (H.length+1) 0] (sw H is im iv c u++(E++J)) r:=λJ r h=>zE5 htne (e2 J) (e3 J) h;simp[c6.h1,zdm _ eR];refine zaB (.str txt) (λJ=>by rw[List.append_assoc];exact hstr J _ ⟨rfl,rfl⟩) ?_;simp[c6.h2];have hdone:∀ E:zaa,Kb (ziB (.ptr is 0) (.sl (zaV l) .none) (.int .i64 l.length) (.int .i64 (j+1))) (sw H is im iv c (zbc u l[j].1 l[j].2)++E):=λE=>
    aw _ _ ⟨l.length-(j+1),by omega,Back.at (J:=E) (H2:=sw H is im iv c (zbc u l[j].1 l[j].2)) rfl (by simp) (hS.hsc hs) (by
     have:=zbi hS.h1;simp[ziB,ux,AV.sc,AV.scA,AV.scB,AV.scV];omega) ⟨_,rfl,j+1,by omega,rfl,rfl,by rw[aT]⟩⟩
   by_cases mO:∃ k,∃ h:k<u.length,u[k].1=l[j].1
   ·obtain⟨k,jI,hke⟩:=mO;have jS:=zxs hd u 0 k jI iN jW hke;rw[Nat.zero_add,←iD]at jS;simp[jS,c6.h1,zdm _ kR,jI];have hku2:=zpA (List.getElem_mem jI);have fD:zaG (λ_=>1) s+zaG (λ_=>1) l<1000000000 ^ 30:=Nat.lt_of_lt_of_le hb (by decide);have bG:u[k].2<1000000000 ^ 30:=by omega
    have bz:l[j].2<1000000000 ^ 30:=by omega
    have kS:zbc u l[j].1 l[j].2=u.set k (u[k].1,u[k].2+l[j].2):=zv3 jI hke jW;have kT:∀ x∈zai ((u[k].2+l[j].2:Nat):Int),x.known=true:=List.all_eq_true.1 (zh3 _);simp[c6.h3,zJr jI,e10,zdT];refine⟨by omega,?_⟩;refine zaB (.agg (zai ((u[k].2+l[j].2:Nat):Int))) (λJ=>zV0 _ _ bG bz _ _ ⟨rfl,rfl⟩) ?_;have gv:=zJu jI (u[k].2+l[j].2);rw[List.append_assoc]at gv;simp[c6.h3,znl,zum,wi j (by omega)];refine⟨by omega,?_⟩;rw[Int.natCast_add]at gv;rw[gv,←kS];have bi:u.length=(zbc u l[j].1 l[j].2).length:=by rw[kS];simp
    have hkk:kvS u 0=kvS (zbc u l[j].1 l[j].2) 0:=by rw[kS,zGJ u jI]
    have aX:=zJl (H:=H) (c:=c) hS.n1 hS.n2 hS.n3 bi hkk;have gC:(sw H is im iv c u++E).set iv (.vec zaH 5 u.length (tms (zbc u l[j].1 l[j].2)))=sw H is im iv c (zbc u l[j].1 l[j].2)++E:=by rw[List.set_append_left _ _ (by simpa using zbi hS.h3),aX]
    rw[gC];exact hdone E
   ·have hnone:=zxq hd u 0 iN (λp hp he=>by
     obtain⟨k,hk,rfl⟩:=List.getElem_of_mem hp;exact mO ⟨k,hk,he⟩)
    rw[←iD]at hnone;obtain⟨gK,fV⟩:=hnone;simp[gK,c6.h1,zdm _ eR];refine zaB (.str txt) (λJ=>by rw[List.append_assoc];exact hstr J _ ⟨rfl,rfl⟩) ?_;simp[c6.h1,zdm _ kR,c6.h2];have kS:zbc u l[j].1 l[j].2=u++[l[j]]:=zv6 (λp hp he=>by
     obtain⟨k,hk,rfl⟩:=List.getElem_of_mem hp;exact mO ⟨k,hk,he⟩)
    have hmp:=fV l[j].2;rw[Nat.zero_add]at hmp;have iH:=zbi hS.h2;have mP:=zbi hS.h3;have mQ:=zbi hS.h1;obtain⟨M,hM⟩:∃ M,M=AB.map (zcF (kvS u 0) txt (.int .i64 u.length)):=⟨_,rfl⟩;rw[←hM];have g1:((sw H is im iv c u++E).set im M)[is]?=some (.cells (c++[.map im,.ov iv u.length])):=by rw[List.getElem?_set_ne hS.n1.symm];exact c6.h1
    have g2:((sw H is im iv c u++E).set im M)[iv]?=some (.vec zaH 5 u.length (tms u)):=by rw[List.getElem?_set_ne hS.n3];exact c6.h3
    have g3:((sw H is im iv c u++E).set im M)[H.length]?=some (.cells (tmC l[j])):=by rw[List.getElem?_set_ne (by omega)];exact e10
    have dx:plain ([.int .i64 0,.snil,.bool false,.snil,.snil]:List AV)=some [.int .i64 0,.sl [] .none,.bool false,.sl [] .none,.sl [] .none]:=rfl;simp[g1,zdm _ kR,g3,ze7,zaw,zaT,zqK,dx];simp only[zax,zaN,zaK,g2];simp[g1];refine⟨by omega,?_⟩;have g4:(((sw H is im iv c u++E).set im M).set iv (.vec zaH 5 (u.length+1) (tms u++tmC l[j])))[is]?=some (.cells (c++[.map im,.ov iv u.length])):=by rw[List.getElem?_set_ne hS.n2.symm];exact g1
    have lO:List.take 5 (c++[.map im,.ov iv u.length])=c++[.map im]:=by
     have:c++[.map im,.ov iv u.length]=(c++[.map im])++[.ov iv u.length]:=by simp
     rw[this,List.take_append_of_le_length (by simp[hS.c4]),List.take_of_length_le (by simp[hS.c4])]
    have mR:List.drop (5+1) (c++[.map im,.ov iv u.length])=[]:=List.drop_of_length_le (by simp[hS.c4]);rw[g4];simp only[zFk,lO,mR];simp[AV.known,hS.c4,znl,zum,wi j (by omega)];have hlu:u.length+1=(u++[l[j]]).length:=by simp
    have aX:=zJn (H:=H) (c:=c) (s:=u) (s':=u++[l[j]]) hS.n1 hS.n2 hS.n3 (a:=M) (b:=.vec zaH 5 (u.length+1) (tms u++tmC l[j])) (d:=.cells (c++[.map im,.ov iv (u.length+1)]))
     (by rw[hM,hmp]) (by rw[hlu,zkJ];simp[tms]) (by rw[hlu])
    have gC:(((sw H is im iv c u++E).set im M).set iv (.vec zaH 5 (u.length+1) (tms u++tmC l[j]))).set is (.cells (c++[.map im,.ov iv (u.length+1)]))=sw H is im iv c (zbc u l[j].1 l[j].2)++E:=by rw[List.set_append_left _ _ (by simpa using iH),List.set_append_left _ _ (by simpa using mP),List.set_append_left _ _ (by simpa using mQ),aX,kS]
    rw[gC];exact hdone E
  ·obtain rfl:j=l.length:=by omega
   rw[List.take_length]at *;simp[zuk];exact zzC (J:=[]) (by simp) (by simp) (hS.hsc hs) hK
end Go.Proofs.YtdmamdnkcefmmaaGreatDoor
namespace Go.Abs
open Go Go.RowKit
variable {P:Program} {B:Nat} {w:World} {G:Gh} {H:zaa}
inductive OutX (H:zaa) (n:Nat):AV→AV→Prop
 | two {a b:AV} (h:OutW H n a b):OutX H n a b
 | msr (id len:Nat) (cs:List AV) (rs:List (List (List AV))) (ar:n≤id) (hH:H[id]?=some (.cells cs)) (hm:rs.length=len)
   (aN:All2 (OutV H n) cs (rs.map λr=>.sl r .none)):OutX H n (.ms id 0 len len) (.sl (rs.map λr=>[.sl r .none]) .none)
theorem OutX.vrel (hH:HRel B w G H) {n:Nat} {v:Value} {a b:AV} (h:OutX H n a b) (hr:TRel w G v a):VRel w (G.cut w n) v b:=by
 cases h with
 | two h=>exact h.vrel hH hr
 | msr id len cs rs ar cO hm aN=>
  obtain⟨b,hμ,rfl⟩:=hr;obtain⟨hB,hL,vs,e,hw,aR⟩:=hH.ok id _ _ cO hμ;subst hm;show DRel w (G.cut w n).L _ _;by_cases aD:rs=[]
  ·subst aD;exact .slE _ _
  ·have hd:All2 (DRel w (G.cut w n).L) vs.toList (rs.map λr=>AV.sl r .none):=All2.of_get (aR.length.trans aN.length) λi x y hx hy=>by
    obtain⟨a,ha,e8⟩:=All2.get' aR hx;obtain⟨y',dS,il⟩:=All2.get' aN ha;rw[hy]at dS;cases dS;obtain⟨r,hr,rfl⟩:∃ r,rs[i]?=some r∧AV.sl r .none=y:=by simpa using hy
    exact il.vrel hH (TRel.of_v (VRel.of_a e8))
   have bi:∀ l:List (List (List AV)),(l.map λr=>[AV.sl r .none]).flatten=l.map λr=>AV.sl r .none:=by
    intro l;induction l with
    | nil=>rfl
    | cons r l ih=>simp[ih]
   have gJ:=aR.length;have eH:=aN.length;have:=DRel.of_flat_at (w:=w) (L:=(G.cut w n).L) (g:=b) (off:=0) (size:=1) (cap:=rs.length) (es:=rs.map λr=>[AV.sl r .none]) (zs:=vs.toList) (by simp) (by simpa using aD) (by simp) ?_ (by rw[bi rs];exact hd) ?_
   ·simpa using this
   ·have:(G.cut w n).L b=vs.size:=by simp only[Gh.cut];rw[if_pos (cut_dropped.2 ⟨id,_,ar,hμ,rfl⟩),hw]
    rw[this];simp at gJ eH ⊢;omega
   ·intro j u hj;rw[Nat.zero_add];simp only[World.cell?,hw];simpa using hj
inductive OutT3 (H:zaa) (n:Nat):AV→AV→Prop
 | one {a b:AV} (h:OutX H n a b):OutT3 H n a b
 | tup {asx bs:List AV} (h:All2 (OutX H n) asx bs):OutT3 H n (.tup asx) (.tup bs)
/- Slots that are appended to: a block of their own for each. -/
theorem ALoop.ovC {c:Code} {Q:AExit→List AV→zaa→Prop} {F:List AV} {id j:Nat} {cs:List AV} (e size:Nat) (ar:H[id]?=some (.cells cs)) (hj:cs[j]?=some .snil)
  (h:ALoop P c Q F (H.set id (.cells (cs.set j (.ov H.length 0)))++[.vec e size 0 []])):ALoop P c Q F H:=by
 intro B w G a hH hF hd;obtain⟨G',hE,aW⟩:=hH.ovCell e size ar hj;refine wp_mono (h B w G' a aW (hF.ext hE) hd) λe a' w' hp=>?_;obtain⟨F'',H'',G'',e'',rfl,k1,k2,k3,k4,k5⟩:=hp;exact⟨F'',H'',G'',e'',rfl,hE.trans k1,k2,k3,k4,k5⟩
section
variable {α:Type}
def vcs:Nat→List (List α)→List AV
 | _,[]=>[]
 | b,l::ls=>.ov b l.length::vcs (b+1) ls
def vbs (f:α→List AV) (e size:Nat) (ls:List (List α)):List AB:=ls.map λl=>.vec e size l.length (l.flatMap f)
@[simp] theorem zzT:∀ (b:Nat) (ls:List (List α)),(vcs b ls).length=ls.length
 | _,[]=>rfl
 | b,l::ls=>by simp[vcs,zzT (b+1) ls]
@[simp] theorem ybJ (f:α→List AV) (e size:Nat) (ls:List (List α)):(vbs f e size ls).length=ls.length:=by simp[vbs]
theorem zkP:∀ (b:Nat) (ls:List (List α)) (k:Nat),(vcs b ls)[k]?=ls[k]?.map λl=>.ov (b+k) l.length
 | _,[],k=>by simp[vcs]
 | b,l::ls,0=>by simp[vcs]
 | b,l::ls,k+1=>by simp[vcs,zkP (b+1) ls k];cases ls[k]? <;> simp;omega
theorem zJK (f:α→List AV) (e size:Nat) (ls:List (List α)) (k:Nat):(vbs f e size ls)[k]?=ls[k]?.map λl=>.vec e size l.length (l.flatMap f):=by simp[vbs]
theorem zrF:∀ (b:Nat) (ls:List (List α)) (k:Nat) (l:List α),(vcs b ls).set k (.ov (b+k) l.length)=vcs b (ls.set k l)
 | _,[],k,l=>by simp[vcs]
 | b,x::ls,0,l=>by simp[vcs]
 | b,x::ls,k+1,l=>by have:=zrF (b+1) ls k l;rw[show b+1+k=b+(k+1) by omega]at this;simp[vcs,this]
theorem zJL (f:α→List AV) (e size:Nat) (ls:List (List α)) (k:Nat) (l:List α):(vbs f e size ls).set k (.vec e size l.length (l.flatMap f))=vbs f e size (ls.set k l):=by simp[vbs,List.map_set]
theorem zJM:∀ (b n:Nat),vcs b (List.replicate (n+1) ([]:List α))=.ov b 0::vcs (b+1) (List.replicate n ([]:List α))
 | b,n=>rfl
theorem ALoop.ovCs {c:Code} {Q:AExit→List AV→zaa→Prop} {F:List AV} (α:Type) (f:α→List AV) {id:Nat} (e size:Nat):∀ (n:Nat) (pre:List AV) (H:zaa),H[id]?=some (.cells (pre++List.replicate n .snil)) →
  ALoop P c Q F (H.set id (.cells (pre++vcs H.length (List.replicate n ([]:List α))))++vbs f e size (List.replicate n ([]:List α)))→ALoop P c Q F H
 | 0,pre,H,ar,h=>by
  have hs:H.set id (.cells (pre++vcs H.length (List.replicate 0 ([]:List α))))=H:=by
   refine List.ext_getElem? λi=>?_;rw[List.getElem?_set];split
   ·rename_i hi;subst hi;rw[if_pos (List.getElem?_eq_some_iff.1 ar).1,ar];simp[vcs]
   ·rfl
  rw[hs]at h;simpa[vbs]using h
 | n+1,pre,H,ar,h=>by
  refine ALoop.ovC e size ar (j:=pre.length) (by simp) ?_;have ap:=(List.getElem?_eq_some_iff.1 ar).1;have h1:(pre++List.replicate (n+1) AV.snil).set pre.length (.ov H.length 0)=(pre++[.ov H.length 0])++List.replicate n .snil:=by rw[List.set_append_right _ _ (Nat.le_refl _)];simp[List.replicate_succ]
  rw[h1];refine ALoop.ovCs α f e size n (pre++[.ov H.length 0]) _ (by rw[List.getElem?_append_left (by simpa using ap),List.getElem?_set_self ap]) ?_;have h2:(H.set id (.cells (pre++[AV.ov H.length 0]++List.replicate n AV.snil))++[AB.vec e size 0 []]).set id (.cells (pre++[AV.ov H.length 0]++vcs (H.set id (.cells (pre++[AV.ov H.length 0]++List.replicate n AV.snil))++[AB.vec e size 0 []]).length (List.replicate n ([]:List α))))++vbs f e size (List.replicate n ([]:List α))
    = H.set id (.cells (pre++vcs H.length (List.replicate (n+1) ([]:List α))))++vbs f e size (List.replicate (n+1) ([]:List α)):=by
   rw[List.set_append_left _ _ (by simpa using ap),List.set_set,List.append_assoc];simp[zJM,vbs,List.replicate_succ,vcs]
  rw[h2];exact h
def RdC (H:zaa) (lo:Nat) (f:α→List AV) (e size:Nat) (c:AV) (l:List α):Prop:=
 (l=[]∧c=.snil)∨∃ b,lo≤b∧c=.ov b l.length∧H[b]?=some (.vec e size l.length (l.flatMap f))
def RdL (H:zaa) (lo:Nat) (f:α→List AV) (e size:Nat) (a:AV) (ls:List (List α)):Prop:=
 ∃ id cs,lo≤id∧a=.ms id 0 ls.length ls.length∧H[id]?=some (.cells cs)∧All2 (RdC H lo f e size) cs ls
theorem RdC.pre {H H':zaa} {lo lo':Nat} {f:α→List AV} {e size:Nat} {c:AV} {l:List α} (h:RdC H lo f e size c l) (hp:H <+: H') (hl:lo'≤lo):RdC H' lo' f e size c l:=by
 rcases h with h | ⟨b,h1,h2,h3⟩
 ·exact .inl h
 ·obtain⟨J,rfl⟩:=hp;exact .inr ⟨b,by omega,h2,by rw[List.getElem?_append_left (List.getElem?_eq_some_iff.1 h3).1];exact h3⟩
theorem RdL.pre {H H':zaa} {lo lo':Nat} {f:α→List AV} {e size:Nat} {a:AV} {ls:List (List α)} (h:RdL H lo f e size a ls) (hp:H <+: H') (hl:lo'≤lo):RdL H' lo' f e size a ls:=by obtain⟨id,cs,h1,h2,h3,h4⟩:=h;refine⟨id,cs,by omega,h2,?_,h4.mono λ_ _ hc=>hc.pre hp hl⟩;obtain⟨J,rfl⟩:=hp;rw[List.getElem?_append_left (List.getElem?_eq_some_iff.1 h3).1];exact h3
theorem RdL.get {H:zaa} {lo:Nat} {f:α→List AV} {e size:Nat} {a:AV} {ls:List (List α)} (h:RdL H lo f e size a ls):∃ id cs,a=.ms id 0 ls.length ls.length∧H[id]?=some (.cells cs)∧cs.length=ls.length∧∀ k (hk:k<ls.length),∃ c,cs[k]?=some c∧RdC H lo f e size c ls[k]:=by obtain⟨id,cs,h1,h2,h3,h4⟩:=h;refine⟨id,cs,h2,h3,h4.length,λk hk=>?_⟩;exact All2.get h4 (List.getElem?_eq_getElem hk)
theorem zki:∀ {a b a' b':List AV},plain a=some a'→plain b=some b'→plain (a++b)=some (a'++b')
 | [],b,a',b',h1,h2=>by simp[plain]at h1;subst h1;simpa using h2
 | x::a,b,a',b',h1,h2=>by
  simp only[plain]at h1;cases hx:x.pd with
  | none=>rw[hx]at h1;simp at h1
  | some d=>
   cases ha:plain a with
   | none=>rw[hx,ha]at h1;simp at h1
   | some ds=>rw[hx,ha]at h1;simp at h1;subst h1;simp[plain,hx,zki ha h2]
theorem RdC.out {H:zaa} {lo:Nat} {f g:α→List AV} {e size:Nat} {c:AV} {l:List α} (h:RdC H lo f e size c l) (hp:∀ x∈l,plain (f x)=some (g x)) (hs:∀ x,(g x).length=size):OutV H lo c (.sl (l.map g) .none):=by
 rcases h with ⟨rfl,rfl⟩ | ⟨b,h1,rfl,h3⟩
 ·exact .wk (.atom .snil) rfl rfl
 ·refine .vfz b e size l.length _ _ h1 h3 ?_ (by simp) λc hc=>by obtain⟨x,_,rfl⟩:=List.mem_map.1 hc;exact hs x
  clear h3;induction l with
  | nil=>rfl
  | cons x l ih=>rw[List.flatMap_cons,List.map_cons,List.flatten_cons];exact zki (hp x (by simp)) (ih λy hy=>hp y (by simp[hy]))
theorem RdL.out {H:zaa} {lo:Nat} {f g:α→List AV} {e size:Nat} {a:AV} {ls:List (List α)} (h:RdL H lo f e size a ls) (hp:∀ l∈ls,∀ x∈l,plain (f x)=some (g x)) (hs:∀ x,(g x).length=size):OutX H lo a (.sl (ls.map λl=>[.sl (l.map g) .none]) .none):=by
 obtain⟨id,cs,h1,rfl,h3,h4⟩:=h;have:=OutX.msr (H:=H) (n:=lo) id ls.length cs (ls.map λl=>l.map g) h1 h3 (by simp) (All2.of_get (by simpa using h4.length) λi x y hx hy=>by
  obtain⟨l,hl,hc⟩:=All2.get' h4 hx;simp only[List.map_map,List.getElem?_map,hl,Option.map_some,Function.comp_apply,Option.some.injEq]at hy;subst hy;exact hc.out (hp l (List.mem_of_getElem? hl)) hs)
 rw[List.map_map]at this;exact this
def NX (f:α→List AV) (e size:Nat) (H1:zaa) (st:List (List α)):zaa:=H1++(.cells (vcs (H1.length+1) st)::vbs f e size st)
theorem zeH (f:α→List AV) (e size:Nat) (H1:zaa) (st:List (List α)):(NX f e size H1 st).length=H1.length+1+st.length:=by simp[NX];omega
theorem zvL (f:α→List AV) (e size:Nat) (H1:zaa) (st:List (List α)):H1 <+: NX f e size H1 st:=⟨_,rfl⟩
theorem zvI (f:α→List AV) (e size:Nat) (H1 J:zaa) (st:List (List α)):(NX f e size H1 st++J)[H1.length]?=some (.cells (vcs (H1.length+1) st)):=by simp[NX]
theorem zvJ (f:α→List AV) (e size:Nat) (H1:zaa) (st:List (List α)):(NX f e size H1 st)[H1.length]?=some (.cells (vcs (H1.length+1) st)):=by simp[NX]
theorem zvG (f:α→List AV) (e size:Nat) (H1 J:zaa) (st:List (List α)) {k:Nat} (hk:k<st.length):(NX f e size H1 st++J)[H1.length+1+k]?=some (.vec e size st[k].length (st[k].flatMap f)):=by rw[List.getElem?_append_left (by rw[zeH];omega),NX,List.getElem?_append_right (by omega),show H1.length+1+k-H1.length=k+1 by omega,List.getElem?_cons_succ,zJK,List.getElem?_eq_getElem hk];rfl
theorem zvH (f:α→List AV) (e size:Nat) (H1 J:zaa) {st:List (List α)} {k:Nat} {l:List α} (h:st[k]?=some l):(NX f e size H1 st++J)[H1.length+1+k]?=some (.vec e size l.length (l.flatMap f)):=by obtain⟨hk,rfl⟩:=List.getElem?_eq_some_iff.1 h;exact zvG f e size H1 J st hk
theorem zrE (b:Nat) {st:List (List α)} {k:Nat} {l:List α} (h:st[k]?=some l):(vcs b st)[k]?=some (.ov (b+k) l.length):=by rw[zkP,h];rfl
theorem zvM (f:α→List AV) (e size:Nat) (H1 J:zaa) (st:List (List α)) {k:Nat} (hk:k<st.length) (l:List α):((NX f e size H1 st++J).set (H1.length+1+k) (.vec e size l.length (l.flatMap f))).set H1.length (.cells (vcs (H1.length+1) (st.set k l)))=NX f e size H1 (st.set k l)++J:=by rw[List.set_append_left _ _ (by rw[zeH];omega),List.set_append_left _ _ (by simp[zeH];omega)];congr 1;unfold NX;rw[List.set_append_right _ _ (by omega),List.set_append_right _ _ (by omega),show H1.length+1+k-H1.length=k+1 by omega,List.set_cons_succ,Nat.sub_self,List.set_cons_zero,zJL]
theorem zJN (b:Nat) (ls:List (List α)) {k:Nat} (hk:k<ls.length) (l:List α):(vcs b ls).take k++.ov (b+k) l.length::(vcs b ls).drop (k+1)=vcs b (ls.set k l):=by rw[←zrF,List.set_eq_take_append_cons_drop,if_pos (by simpa using hk)]
theorem zzU {n:Nat}:∀ (b:Nat) (ls:List (List α)),b+ls.length≤n→(vcs b ls).all (AV.scA n)=true
 | _,[],_=>rfl
 | b,l::ls,h=>by
  simp only[List.length_cons]at h;have ih:=zzU (n:=n) (b+1) ls (by omega);have hb:b<n:=by omega
  rw[vcs,List.all_cons,ih,Bool.and_true];simpa[AV.scA,AV.scB]using hb
theorem zE2 {f:α→List AV} {e size:Nat} {H1:zaa} {st:List (List α)} (hs:HSc H1) (hf:∀ x n,(f x).all (AV.scA n)=true):HSc (NX f e size H1 st):=by
 refine hs.append ?_;rw[List.all_eq_true];intro b hb;rcases List.mem_cons.1 hb with rfl | hb
 ·simp only[AB.sc];exact zzU _ _ (by simp;omega)
 ·obtain⟨l,_,rfl⟩:=List.mem_map.1 hb;simp only[AB.sc,List.all_flatMap,hf];simp
theorem ALoop.nx {c:Code} {Q:AExit→List AV→zaa→Prop} {F:List AV} (f:α→List AV) (e size n:Nat) (h:ALoop P c Q F (NX f e size H (List.replicate n []))):ALoop P c Q F (H++[.cells (List.replicate n .snil)]):=by
 refine ALoop.ovCs α f (id:=H.length) e size n [] _ (by simp) ?_;have:(H++[AB.cells (List.replicate n AV.snil)]).set H.length (.cells ([]++vcs (H++[AB.cells (List.replicate n AV.snil)]).length (List.replicate n ([]:List α))))++vbs f e size (List.replicate n ([]:List α))=NX f e size H (List.replicate n []):=by simp[NX,List.set_append_right]
 rw[this];exact h
theorem HRel.reVec (h:HRel B w G H) {id e size n:Nat} {cs cs':List AV} (ar:H[id]?=some (.vec e size n cs)) (hc:All2 WkA cs cs'):HRel B w G (H.set id (.vec e size n cs')):=by
 refine⟨by simp[h.len],?_,h.dist,h.fresh,h.lt,h.base⟩;intro i ab gi h1 h2;by_cases hi:i=id
 ·subst hi;rw[List.getElem?_set_self (List.getElem?_eq_some_iff.1 ar).1]at h1;cases h1;have aA:=h.ok i _ _ ar h2;cases gi with
  | blk b=>exact aA.elim
  | own v s n=>obtain⟨k1,k2,⟨xs,k3,k4⟩,k5⟩:=aA;exact⟨k1,k2,⟨xs,k3,zrH (vs:=[]) hc k4⟩,k5⟩
  | gap=>exact aA.elim
 ·rw[List.getElem?_set_ne (λh=>hi h.symm)]at h1;exact h.ok i ab gi h1 h2
theorem ALoop.reVec {c:Code} {Q:AExit→List AV→zaa→Prop} {F:List AV} {id e size n:Nat} {cs cs':List AV} (ar:H[id]?=some (.vec e size n cs)) (hw:All2 WkA cs cs') (h:ALoop P c Q F (H.set id (.vec e size n cs'))):ALoop P c Q F H:=by intro B w G a hH hF hd;exact h B w G a (hH.reVec ar hw) hF hd
theorem ACalls.reVec {f:FuncId} {args:List AV} {K:Kt} (h:ACalls P f args H λr H'=>K r H'∨∃ id e size n cs cs',H'[id]?=some (.vec e size n cs)∧All2 WkA cs cs'∧K r (H'.set id (.vec e size n cs'))):ACalls P f args H K:=by
 intro B w G vs hH hv;refine (h B w G vs hH hv).mono λex w' ⟨v,r,H',G',h1,h2,h3,h4,h5⟩=>?_;rcases h5 with hk | ⟨id,e,size,n,cs,cs',ar,hw,hk⟩
 ·exact⟨v,r,H',G',h1,h2,h3,h4,hk⟩
 ·exact⟨v,r,_,G',h1,h2,h3.reVec ar hw,h4,hk⟩
end
end Go.Abs
namespace Go.Abs
open Go Go.RowKit
variable {P:Program} {B:Nat} {w:World} {G:Gh} {H:zaa}
theorem HRel.newRowV (h:HRel B w G H) (e size cap:Nat) (cur:Array Value) (hc:cap≤maxLen) (hs:cur.size=cap*size) :
  Ext B w G (w.alloc (.cells cur e)) ⟨G.L,G.μ++[.own (.slice (some ⟨w.heap.size,0,none⟩) 0 cap) size 0]⟩∧HRel B (w.alloc (.cells cur e)) ⟨G.L,G.μ++[.own (.slice (some ⟨w.heap.size,0,none⟩) 0 cap) size 0]⟩ (H++[.vec e size 0 []]):=by
 have he:=Ext.alloc h (.cells cur e) G.L (λ_ _=>rfl) [.own (.slice (some ⟨w.heap.size,0,none⟩) 0 cap) size 0];have split:∀ (id:Nat) gi,(G.μ++[GI.own (.slice (some ⟨w.heap.size,0,none⟩) 0 cap) size 0])[id]?=some gi→G.μ[id]?=some gi∨(id=G.μ.length∧gi=.own (.slice (some ⟨w.heap.size,0,none⟩) 0 cap) size 0):=by
  intro id gi hg;by_cases ap:id<G.μ.length
  ·rw[List.getElem?_append_left ap]at hg;exact .inl hg
  ·have aZ:=(List.getElem?_eq_some_iff.1 hg).1;simp at aZ;have:id=G.μ.length:=by omega
   subst this;simp at hg;exact .inr ⟨rfl,hg.symm⟩
 refine⟨he,by simp[h.len],?_,?_,λb hb=>?_,?_,?_⟩
 ·intro id ab gi h1 h2;rcases split id gi h2 with h2 | ⟨rfl,rfl⟩
  ·have ap:id<H.length:=by rw[←h.len];exact (List.getElem?_eq_some_iff.1 h2).1
   rw[List.getElem?_append_left ap]at h1;exact (h.ok id ab gi h1 h2).keep he (λb hb=>⟨zcK (h.lt id gi b h2 hb),rfl⟩)
  ·rw[h.len]at h1;simp at h1;subst h1;refine⟨rfl,rfl,⟨[],⟨by simp,.inr ⟨w.heap.size,cap,cur,rfl,h.base,zdr _,Nat.zero_le _,hc,hs,by simp⟩⟩,trivial⟩,λb hb=>?_⟩;simp[Value.ownBlock]at hb;subst hb;exact h.fresh _ (Nat.le_refl _)
 ·intro id id' gi gi' b h1 h2 h3 h4;rcases split id gi h1 with k1 | ⟨e1,e2⟩ <;> rcases split id' gi' h2 with k2 | ⟨e3,e4⟩
  ·exact h.dist id id' gi gi' b k1 k2 h3 h4
  ·rw[e4]at h4;simp[GI.block,Value.ownBlock]at h4;have:=h.lt id gi b k1 h3;omega
  ·rw[e2]at h3;simp[GI.block,Value.ownBlock]at h3;have:=h.lt id' gi' b k2 h4;omega
  ·rw[e1,e3]
 ·rw[zca]at hb;exact h.fresh b (by omega)
 ·intro id gi b h1 h2;rw[zca];rcases split id gi h1 with k1 | ⟨e1,e2⟩
  ·have:=h.lt id gi b k1 h2;omega
  ·rw[e2]at h2;simp[GI.block,Value.ownBlock]at h2;omega
 ·rw[zca];have:=h.base;omega
end Go.Abs
namespace Go.Proofs.YtdmamdnkcefmmaaGreatDoor
open Go Go.Abs
theorem zIq (n:Nat) (hn:0<n) (fR:n≤1000000) (H:zaa) (K:Kt) (hK:K (.ov H.length 0) (H++[.vec zaH 5 0 []])) :
  ACalls tP zxQ [.snil,.int .i64 n] H K:=by
 rintro B w G ⟨vs⟩ hR hv
 match vs,hv with
 | [v1,v2],⟨h1,h2,_⟩=>
 have h1:v1=.slice none 0 0:=h1;have h2:v2=.int .i64 n:=h2;subst h1 h2;obtain⟨i0,lz,kL,iA,bJ⟩:∃ i0,tP.info? 55=some i0∧i0.zero=some (.agg #[.int .i64 0,.slice none 0 0,.bool false,.slice none 0 0,.slice none 0 0])∧i0.size=5∧i0.bytes=88:=⟨_,rfl,rfl,rfl,rfl⟩;refine (Go.Proofs.Any8.slices_Grow_grow zJ1 i0 _ lz kL (by omega) none 0 0 n [] w (Nat.le_refl _) (by omega) (by rw[bJ];omega) (by omega) (by simp) (λ_=>rfl) (λ_ h=>by cases h)).mono ?_;rintro e w' ⟨rfl,rfl⟩;have cG:=grownCap_ge w (0+n) 0 55;have bF:=grownCap_le_maxLen w (0+n) 0 55 (by simp only[maxLen];omega);obtain⟨z,hz⟩:∃ z:Value,z=.agg #[.int .i64 0,.slice none 0 0,.bool false,.slice none 0 0,.slice none 0 0]:=⟨_,rfl⟩;rw[←hz];obtain⟨hE,hH⟩:=hR.drew (w.drawn+1) (Nat.le_succ _) |>.newRowV 55 5 (grownCap w (0+n) 0 55) (([]:List Value).toArray++Builtin.zeroCells z.cells (0+n-0)++Builtin.zeroCells z.cells (grownCap w (0+n) 0 55-(0+n))) bF (by
  simp only[Array.size_append,size_zeroCells,List.size_toArray,List.length_nil];have:z.cells.size=5:=by rw[hz];rfl
  rw[this];omega)
 refine⟨_,_,_,_,rfl,(Ext.drew B w G (w.drawn+1) (Nat.le_succ _)).trans hE,hH,?_,hK⟩;refine⟨⟨_,_,rfl,λh=>by omega,Nat.zero_le _⟩,_,5,0,?_,Nat.le_refl _,λ_=>rfl⟩;rw[←hR.len];simp;rfl
theorem zIo (ls:List (List (IT × Nat))) (hp:0<ls.flatten.length) (hb:ls.flatten.length≤1000000) (hn:ls.length≤1000) (H0:zaa) (K:Kt) (hK:K (.sl (zaV ls.flatten) .none) (NX tmC zaH 5 H0 ls)) :
  ACalls tP zqz [.ms H0.length 0 ls.length ls.length] (NX tmC zaH 5 H0 ls) K:=by
 refine ACalls.out (zWL λhs=>?_);obtain⟨H,hH⟩:∃ H,H=NX tmC zaH 5 H0 ls:=⟨_,rfl⟩;have bQ:(vcs (H0.length+1) ls).length=ls.length:=zzT _ _;have hC:∀ J,(H++J)[H0.length]?=some (.cells (vcs (H0.length+1) ls)):=λJ=>by rw[hH];exact zvI _ _ _ _ _ _
 have hC0:H[H0.length]?=some (.cells (vcs (H0.length+1) ls)):=by have:=hC [];simpa using this
 have hV:∀ J k (hk:k<ls.length),(H++J)[H0.length+1+k]?=some (.vec zaH 5 ls[k].length (tms ls[k])):=λJ k hk=>by rw[hH,zvG tmC zaH 5 H0 J ls hk,tms,List.flatMap_def]
 have hl:H0.length<H.length:=zbi hC0;have bi:∀ i,(ls.take i).flatten.length≤ls.flatten.length:=λi=>by
  conv=>rhs;rw[←List.take_append_drop i ls]
  rw[List.flatten_append,List.length_append];omega
 have hsu:∀ i (hi:i<ls.length),(ls.take (i+1)).flatten=(ls.take i).flatten++ls[i]:=λi hi=>by rw[List.take_succ_eq_append_getElem hi,List.flatten_append];simp
 rw[←hH]at hs hK ⊢;simp[zEu];refine zWI (Inv:=λq t3 t11 H'=>∃ i:Nat,i≤ls.length∧q=ls.length-i∧t11=.int .i64 i∧t3=.int .i64 ((ls.take i).flatten.length:Nat)∧H'=H) ls.length ?_ ?_
 ·intro _;exact⟨0,by omega,by omega,rfl,rfl,rfl⟩
 ·rintro q t3 t11 H' ⟨i,hi,rfl,rfl,rfl,rfl⟩ hsc aq aO Kb aw;by_cases ap:i<ls.length
  ·have h1:=bi i;have h2:=bi (i+1);have h3:=hsu i ap;have h4:=zkP (H0.length+1) ls i;rw[List.getElem?_eq_getElem ap]at h4;have h5:(ls.take (i+1)).flatten.length=(ls.take i).flatten.length+ls[i].length:=by rw[h3,List.length_append]
   obtain⟨m,hm⟩:∃ m,m=(ls.take i).flatten.length:=⟨_,rfl⟩;rw[←hm]at h1 h5 aO ⊢;have cy:¬ ((m:Int)+(ls[i].length:Int)<0):=by omega
   have w1:IntKind.i64.wrap ((m:Int)+(ls[i].length:Int))=(m:Int)+(ls[i].length:Int):=zat (by omega) (by omega);simp[zvh,ap,hC0,zdm _ h4,w1,cy,wi i (by omega)];simp[zEv,zEw,wi i (by omega)];refine aw _ _ ⟨ls.length-(i+1),by omega,Back.at (J:=[]) (H2:=H') (by simp) (by omega) hsc ?_ ⟨_,_,rfl,i+1,by omega,rfl,rfl,by rw[h5];simp,rfl⟩⟩;simpa[zoh,AV.sc,AV.scV,AV.scA,AV.scB]using hl
  ·obtain rfl:i=ls.length:=by omega
   rw[List.take_length];simp[zvh];have hg:=zIq ls.flatten.length hp hb;simp at hg;refine hg _ _ ?_;refine zWH (Inv:=λq t6 t27 H2=>∃ i:Nat,i≤ls.length∧q=ls.length-i∧t27=.int .i64 i∧t6=.ov H'.length (ls.take i).flatten.length∧H2=H'++[.vec zaH 5 (ls.take i).flatten.length (tms (ls.take i).flatten)]) ls.length ?_ ?_
   ·intro _;exact⟨0,by omega,by omega,rfl,rfl,rfl⟩
   ·rintro q t6 t27 H2 ⟨i,hi,rfl,rfl,rfl,rfl⟩ cv d5 ik Kb2 bE;by_cases ap:i<ls.length
    ·have h1:=bi i;have h2:=bi (i+1);have h3:=hsu i ap;have h4:=zkP (H0.length+1) ls i;rw[List.getElem?_eq_getElem ap]at h4;obtain⟨u,hu⟩:∃ u,u=(ls.take i).flatten:=⟨_,rfl⟩;rw[←hu]at h1 h3 ik cv ⊢;have hVi:=hV [.vec zaH 5 u.length (tms u)] i ap;have hCi:=hC [.vec zaH 5 u.length (tms u)];have a8:H0.length+1+i≠H'.length:=by have h9:=hV [] i ap;rw[List.append_nil]at h9;have:=zbi h9;omega
     simp[zvg,ap,hCi,zdm _ h4,wi i (by omega)];simp only[zax,hVi,zdV];simp[zJt,List.set_append_right];have hl3:u.length+ls[i].length=((ls.take (i+1)).flatten).length:=by rw[h3,List.length_append]
     refine⟨⟨by omega,by omega⟩,?_⟩;have mS:tms u++tms ls[i]=tms ((ls.take (i+1)).flatten):=by rw[h3,zkJ]
     rw[hl3,mS];refine bE _ _ ⟨ls.length-(i+1),by omega,Back.at (J:=[]) (H2:=H'++[.vec zaH 5 (ls.take (i+1)).flatten.length (tms (ls.take (i+1)).flatten)]) (by simp) (by simp) (hs.append (by simp only[AB.sc,List.all_cons,List.all_nil,zrs];rfl)) ?_ ⟨_,_,rfl,i+1,by omega,rfl,rfl,rfl,rfl⟩⟩;simp[zog,AV.sc,AV.scV,AV.scA,AV.scB];omega
    ·obtain rfl:i=ls.length:=by omega
     rw[List.take_length]at *;simp[zvg];have cI:=zHt (J:=[.vec zaH 5 ls.flatten.length (tms ls.flatten)]) ls.flatten H'.length (Nat.le_refl _) (by simp) hs hK;simpa using cI
end Go.Proofs.YtdmamdnkcefmmaaGreatDoor
namespace Go.Abs
open Go Go.RowKit
variable {P:Program} {B:Nat} {w:World} {G:Gh} {H:zaa}
theorem zwX {v:Value} {a:AV} (h:DRel w G.L v a):ARel w G v a:=by
 cases h with
 | bool b=>rfl
 | int k n=>rfl
 | str s=>rfl
 | slE a cap=>exact .slE a cap
 | sl b off cap ag es vs aD aL hL aF hc hd=>exact .sl b off cap ag es vs aD aL hL aF hc hd
end Go.Abs
