import Derived.Test.YtdmamdnkcefmmaaGreatDoorKZ1
import Derived.Test.YtdmamdnkcefmmaaGreatDoorKMG
import Derived.Test.YtdmamdnkcefmmaaGreatDoorKQD
import Derived.Test.YtdmamdnkcefmmaaGreatDoorRL2
set_option linter.unusedSimpArgs false
set_option linter.unusedVariables false
set_option maxRecDepth 8000
namespace Go.Proofs.YtdmamdnkcefmmaaGreatDoor
theorem zzn(O:List Nat)(i x:Nat)(h:i<O.length):List.take i (us O)++AV.int .u32 (x:Int)::List.drop (i+1) (us O)=us (O.set i x):=by rw[←zzl O i x h];simp
theorem zyu{O:List Nat}(hO:∀x∈O,x<1000000000){i x:Nat}(hx:x<1000000000):∀y∈O.set i x,y<1000000000:=by
 intro y hy;rcases bX hy with hy|rfl
 ·exact hO y hy
 ·exact hx
theorem zGm{O:List Nat}{j:Nat}(h:zaq O<1000000000 ^ j):O.getD j 0=0:=by
 by_cases hj:j<O.length
 ·have e:zaq O=zaq (O.take j)+1000000000 ^ j*(O[j]+1000000000*zaq (O.drop (j+1))):=by
   conv=>lhs;rw[←aT j O,zhz,ag hj,zaq]
   rw[aW,bj (by omega)]
  rw[List.getD_eq_getElem?_getD,List.getElem?_eq_getElem hj,Option.getD_some];refine Nat.eq_zero_of_not_pos λhp=>?_;have h2:1000000000 ^ j*1≤1000000000 ^ j*(O[j]+1000000000*zaq (O.drop (j+1))):=bp _ (by omega);omega
 ·simp[List.getD_eq_getElem?_getD,show O.length≤j by omega]
theorem zGC(A B:List Nat)(lA:∀ x∈A,x<1000000000)(lB:∀ x∈B,x<1000000000)(ha:A.length≤1000)(hb:B.length≤1000)(H:zaa)(K:Kt)(hK:K (.sl (zan (lim (zaq A*zaq B))) .none) H):
  ACalls tP zdK [.sl (zan A) .none,.sl (zan B) .none] H K:=by
 refine ACalls.out (zK5 λhs=>?_);by_cases mf:A=[]
 ·subst mf;simp[zla,zaq]at hK ⊢;exact Out.one0 hs (.atom .snil) rfl rfl (by simpa[zan]using hK)
 by_cases nn:B=[]
 ·subst nn;have pA:((A.length:Int) == 0)=false:=by have:A.length≠0:=λh=>mf (aB h);generalize A.length=q at this;simp;omega
  simp[zla,zaq,pA,mf]at hK ⊢;exact Out.one0 hs (.atom .snil) rfl rfl (by simpa[zan]using hK)
 have hAl0:A.length≠0:=λh=>mf (aB h);have hBl0:B.length≠0:=λh=>nn (aB h);have pA:((A.length:Int) == 0)=false:=by generalize A.length=q at hAl0;simp;omega
 have hBb:((B.length:Int) == 0)=false:=by generalize B.length=q at hBl0;simp;omega
 have hw:IntKind.i64.wrap ((A.length:Int)+B.length)=((A.length+B.length:Nat):Int):=by rw[zav (by omega) (by omega)];omega
 simp[zla,pA,hBb,mf,nn,hw,zbu];have hN:((A.length:Int)+B.length).toNat=A.length+B.length:=by omega
 rw[hN,zrf];refine⟨⟨by omega,by omega,by omega⟩,?_⟩;have hsc:∀O:List Nat,HSc (H++[.cells (us O)]):=λO=>hs.append (by simp[AB.sc,us,AV.scA,AV.scB]);have mX:=zeW B lB;refine zK2 (Inv:=λq t26 H'=>∃(i:Nat) (O:List Nat),i≤A.length∧A.length-i=q∧t26=.int .i64 i∧O.length=A.length+B.length∧(∀x∈O,x<1000000000)∧zaq O=zaq (A.take i)*zaq B∧H'=H++[.cells (us O)]) A.length ?_ ?_
 ·intro _;exact⟨0,_,by omega,rfl,rfl,by simp,by simp,by rw[zGn];simp[zaq],rfl⟩
 ·rintro q t26 H' ⟨i,O,hi,rfl,rfl,kZ,hO,hv,rfl⟩ eA d8 eC Kb ee;by_cases d7:i<A.length
  ·have kL:=lA A[i] (ah d7);have js:=zeW (A.take i) (λy hy=>lA y (bE hy));rw[aW,bj (by omega)]at js;have me:O.getD (i+B.length) 0=0:=by refine zGm ?_;rw[hv,dB];exact dG js mX
   simp[zrG,d7];refine zK3 (Inv:=λq t7 t31 H'=>∃ (k c:Nat) (R:List Nat),k≤B.length∧B.length-k=q∧t31=.int .i64 k∧t7=.int .u64 c∧R.length=A.length+B.length∧(∀ x∈R,x<1000000000)∧c<1000000000∧R.getD (i+B.length) 0=0 ∧
    zaq R+c*1000000000 ^ (i+k)=zaq O+A[i]*zaq (B.take k)*1000000000 ^ i∧H'=H++[.cells (us R)]) B.length ?_ ?_
   ·intro _;exact⟨0,0,O,by omega,rfl,rfl,rfl,kZ,hO,by omega,me,by simp[zaq],rfl⟩
   ·rintro q t7 t31 H' ⟨k,c,R,hk,rfl,rfl,rfl,k9,hR,hc,oC,hr,rfl⟩ hsc'' iw hsF' Kb2 fK;by_cases mB:k<B.length
    ·have lC:IntKind.i64.wrap ((i:Int)+k)=((i+k:Nat):Int):=by rw[zav (by omega) (by omega)];omega
     have ie:i+k<R.length:=by omega
     have iQ:=lB B[k] (ah mB);have iE:=hR R[i+k] (ah ie);have eT:((i:Int)+k).toNat=i+k:=by omega
     have w1:IntKind.u64.wrap ((R[i+k]:Nat):Int)=R[i+k]:=zbL (by omega);have w2:IntKind.u64.wrap ((A[i]:Nat):Int)=A[i]:=zbL (by omega);have w3:IntKind.u64.wrap ((B[k]:Nat):Int)=B[k]:=zbL (by omega);have kf:A[i]*B[k]≤999999999*999999999:=bx (by omega) (by omega);obtain⟨m,hm⟩:∃m,m=A[i]*B[k]:=⟨_,rfl⟩;have w4:IntKind.u64.wrap (((A[i]:Nat):Int)*(B[k]:Nat))=(m:Int):=by rw[hm,←Int.natCast_mul];exact zbL (by omega)
     obtain⟨s1,fx⟩:∃s,s=m+R[i+k]:=⟨_,rfl⟩;have w5:IntKind.u64.wrap ((m:Int)+(R[i+k]:Nat))=(s1:Int):=by rw[fx,←Int.natCast_add];exact zbL (by omega)
     obtain⟨s,jv⟩:∃s,s=s1+c:=⟨_,rfl⟩;have w6:IntKind.u64.wrap ((s1:Int)+(c:Int))=(s:Int):=by rw[jv,←Int.natCast_add];exact zbL (by omega)
     obtain⟨x,c',fF,e8,fC,e1,e2⟩:=zhm s (by omega);have eP:Kb2 (zit (.sl (zan A) .none) (.sl (zan B) .none) (.ms H.length 0 (A.length+B.length) (A.length+B.length)) (.int .i64 i) (.int .u64 c') (.int .i64 A.length) (.int .i64 i) (.int .i64 B.length) (.int .i64 ((k:Int)+1))) (H++[.cells (us (R.set (i+k) x))]):=by
      have pB:=zpf R (i+k) x ie;have fR:=zgh B k mB;refine fK _ _ ⟨B.length-(k+1),by omega,Back.here (by simp) (hsc _) (by simp[zit,ux,AV.sc,AV.scA,AV.scB,AV.scV]) ⟨_,_,rfl,k+1,c',R.set (i+k) x,by omega,rfl,by simp,rfl,by simp[k9],zyu hR fF,?_,?_,?_,rfl⟩⟩
      ·refine cj λh=>?_;have:=bp 1000000000 h;omega
      ·rw[List.getD_eq_getElem?_getD,List.getElem?_set_ne (by omega),←List.getD_eq_getElem?_getD];exact oC
      ·rw[fR,show i+(k+1)=i+k+1 by omega,Nat.pow_succ];rw[Nat.pow_add]at hr pB ⊢;rw[jv,fx,hm]at e8;clear e1 e2 fC ee fK eA hsc'' eC hsF' mX hK hs oC me w1 w2 w3 w4 w5 w6;generalize zaq (R.set (i+k) x)=vS at *;generalize R[i+k]=r at *;generalize A[i]=a at *;generalize B[k]=b at *;generalize zaq (List.take k B)=T at *;generalize 1000000000 ^ i=P at *;generalize 1000000000 ^ k=Q at *;generalize zaq R=vR at *;generalize zaq O=vO at *;grind
     simp only[zrH];simp[mB,d7,lC,eT,w1,w2,w3,w4];refine⟨⟨by omega,by omega⟩,?_⟩;rw[zEo R _ ie];simp[w1,w5,w6,e1,e2,fC,lC,eT,wi k (by omega),zzn R (i+k) x ie];exact⟨⟨by omega,by omega⟩,by omega,eP⟩
    ·obtain rfl:k=B.length:=by omega
     have pk:IntKind.i64.wrap ((i:Int)+B.length)=((i+B.length:Nat):Int):=by rw[zav (by omega) (by omega)];omega
     have eT:((i:Int)+B.length).toNat=i+B.length:=by omega
     have ie:i+B.length<R.length:=by omega
     have pB:=zpf R (i+B.length) c ie;rw[List.getD_eq_getElem?_getD,List.getElem?_eq_getElem ie,Option.getD_some]at oC;rw[oC]at pB;simp only[zrH];simp[pk,eT,zec (show c<4294967296 by omega),wi i (by omega),zzn R (i+B.length) c ie];refine⟨⟨by omega,d7⟩,by omega,?_⟩;refine ee _ _ ⟨A.length-(i+1),by omega,Back.here (by simp) (hsc _) (by simp[zlb,ux,AV.sc,AV.scA,AV.scB,AV.scV]) ⟨_,rfl,i+1,R.set (i+B.length) c,by omega,rfl,rfl,by simp[k9],zyu hR hc,?_,rfl⟩⟩;rw[List.take_of_length_le (Nat.le_refl _)]at hr;rw[zgh A i d7];rw[hv]at hr;clear ee fK eA hsc'' eC hsF' mX hK hs me hsc;grind
  ·obtain rfl:i=A.length:=by omega
   rw[aq]at hv;simp[zrG];rw[←kZ];refine zy4 O hO (by omega) (by simp) ?_;rw[hv];simp;exact Out.one hs (.atom (.sl _ _)) rfl rfl hK
theorem zpa(L:List Nat)(hL:L.length≤100000)(H:zaa)(K:Kt)(hK:K (.bool (decide (L=[1]))) H):ACalls tP zjE [.sl (zan L) .none] H K:=by
 refine ACalls.out (zP2 λhs=>?_);have hO:∀b,b=decide (L=[1])→Out H.length K (.bool b) H:=λb hb=>Out.bool (J:=[]) (by simp) (aa _) hs (by rw[hb];exact hK)
 match L with
 |[]=>simp[zmG];exact hO false (by simp)
 |[x]=>
  simp[zmG,zan];refine hO _ ?_;by_cases h:x=1
  ·subst h;rfl
  ·have hb:((x:Int) == 1)=false:=by simp;omega
   rw[hb];simp[h]
 |x::y::l=>
  have hb:((l.length:Int)+1+1 == 1)=false:=by simp;omega
  simp[zmG,hb];exact hO false (by simp)
theorem zGl(neg:Bool)(n:Nat)(hn:(lim n).length≤1000)(H:zaa)(K:Kt)(hK:K (.agg (zam (if neg=true then -(n:Int) else n))) H):
  ACalls tP zju [.agg [.bool neg,.sl (zan (lim n)) .none,.sl (zan [1]) .none]] H K:=by
 refine ACalls.out (zAC λhs=>?_);by_cases h0:n=0
 ·subst h0;have e0:(if neg=true then -((0:Nat):Int) else ((0:Nat):Int))=0:=by cases neg <;> rfl
  have e1:zam 0=[.bool false,.sl [] .none,.sl [[.int .u32 1]] .none]:=by simp[zam,zan]
  rw[e0,e1]at hK;simp[zlT,zau,zaU,plain,AV.pd,zar,zaL,zcX,ae];exact Out.one hs (WkV.agg (ds:=[.bool false,.sl [] .none,.sl [[.int .u32 1]] .none]) ⟨.refl _,.snil,.sl _ _,trivial⟩) rfl (by simp[AV.scV,AV.scA,AV.scB]) hK
 ·have hp:0<(lim n).length:=by rw[zcd h0];simp
  have hb:(((lim n).length:Int) == 0)=false:=by generalize (lim n).length=q at hp;simp;omega
  have e1:zam (if neg=true then -(n:Int) else n)=[.bool neg,.sl (zan (lim n)) .none,.sl (zan [1]) .none]:=by
   cases neg
   ·simp[zam]
   ·simp[zam];omega
  rw[e1]at hK;simp[zlT,hb,ae];refine zpa [1] (by simp) _ _ ?_;simp[ae];exact Out.one hs (WkV.agg (ds:=[.bool neg,.sl (zan (lim n)) .none,.sl (zan [1]) .none]) ⟨.refl _,.sl _ _,.sl _ _,trivial⟩) rfl (by simp[AV.scV,AV.scA,AV.scB]) hK
theorem zks(neg:Bool)(n:Nat)(hn:(lim n).length≤1000){z:Int}(hz:(if neg=true then -(n:Int) else n)=z)(H:zaa)(K:Kt)(hK:K (.agg (zam z)) H):
  ACalls tP ze0 [.agg [.bool neg,.sl (zan (lim n)) .none,.sl (zan [1]) .none]] H K:=by
 refine ACalls.out (zzV λhs=>?_);simp[zrE,ae];refine zGl neg n hn _ _ ?_;rw[hz];simp[zam,zar,zaL,zcX,AV.known,ae];exact zdM hs hK
theorem zgg(z:Int)(hz:(lim z.natAbs).length≤1000)(H:zaa)(K:Kt)(hK:K (.agg (zam z)) H):ACalls tP zes [.agg (zam z)] H K:=by
 refine ACalls.out (zzZ λhs=>?_);simp[zrF,zam,ae];refine zaH (.sl (zan (lim z.natAbs)) .none) (λJ=>zj6 _ (zhy _) (by omega) _ _ (by rw[zbO];exact⟨rfl,rfl⟩)) ?_;refine zaH (.sl (zan [1]) .none) (λJ=>zj6 [1] (by simp) (by simp) _ _ (by simp[zaq,zd3])) ?_;by_cases h0:z=0
 ·subst h0;have e1:zam 0=[.bool false,.sl [] .none,.sl [[.int .u32 1]] .none]:=by simp[zam,zan]
  rw[e1]at hK;simp[zau,zaU,plain,AV.pd,zar,zaL,zcX,ae];exact Out.one hs (WkV.agg (ds:=[.bool false,.sl [] .none,.sl [[.int .u32 1]] .none]) ⟨.refl _,.snil,.sl _ _,trivial⟩) rfl (by simp[AV.scV,AV.scA,AV.scB]) hK
 ·have hp:0<(lim z.natAbs).length:=by rw[zcd (by omega)];simp
  have hb:(((lim z.natAbs).length:Int) == 0)=false:=by generalize (lim z.natAbs).length=q at hp;simp;omega
  simp[hb,zar,zaL,zcX,AV.known,ae];exact zdM hs hK
theorem zph(n:Nat)(hn:n<9223372036854775808)(H:zaa)(K:Kt)(hK:K (.sl (zan (lim n)) .none) H):ACalls tP zhG [.int .i64 n] H K:=by
 refine ACalls.out (zKL λhs=>?_);have w1:IntKind.u64.wrap (n:Int)=n:=zbL (by omega);have h0:¬((n:Int)<0):=by omega
 simp[zzU,h0,w1];refine zoY n (by omega) _ _ ?_;exact Out.one0 hs (.atom (.sl _ _)) rfl rfl hK
theorem zeI(n:Nat)(hn:n<9223372036854775808)(H:zaa)(K:Kt)(hK:K (.agg (zam n)) H):ACalls tP zdv [.int .i64 n] H K:=by
 refine ACalls.out (zT9 λhs=>?_);have h0:decide ((n:Int)<0)=false:=by simp
 have hl:=zbW (n:=n) (k:=3) (by omega);simp[zC9,ae];refine zph n hn _ _ ?_;simp[h0,zau,zaU,plain,AV.pd,zar,zaL,zcX,AV.known,ae];refine ACalls.wk (args':=[.agg [.bool false,.sl (zan (lim n)) .none,.sl (zan [1]) .none]]) (zks false n (by omega) (z:=n) (by simp) _ _ ?_) ⟨.agg ⟨.refl _,.refl _,.sl _ _,trivial⟩,trivial⟩;simp[zfC,ae];exact zdM hs hK
theorem zhD(a b:Nat)(ha:a<1000000000 ^ 30)(hb:b<1000000000 ^ 30)(H:zaa)(K:Kt)(hK:K (.sl (zan (lim (a*b))) .none) H):ACalls tP zdK [.sl (zan (lim a)) .none,.sl (zan (lim b)) .none] H K:=by have h1:=zbW ha;have h2:=zbW hb;refine zGC (lim a) (lim b) (zci a) (zci b) (by omega) (by omega) _ _ ?_;rw[zbO,zbO];exact hK
theorem zw7(H:zaa)(K:Kt)(hK:K (.sl (zan [1]) .none) H):ACalls tP zdK [.sl (zan [1]) .none,.sl (zan [1]) .none] H K:=by have:=zhD 1 1 zj8 zj8 H K (by rw[bv,zd3];exact hK);rwa [zd3]at this
theorem zgV(a b:Int)(ha:Sm a)(hb:Sm b)(H:zaa)(K:Kt)(hK:K (.agg (zam (a*b))) H):ACalls tP zet [.agg (zam a),.agg (zam b)] H K:=by refine ACalls.out (zDf λhs=>?_);have la:=ha.len;have lb:=hb.len;have hm:=zbW (zGB ha hb);simp[zur,zam,ae];refine zaH (.agg (zam a)) (λJ=>zgg a (by omega) _ _ ⟨rfl,rfl⟩) ?_;refine zaH (.agg (zam b)) (λJ=>zgg b (by omega) _ _ ⟨rfl,rfl⟩) ?_;simp[zam,AV.known,ae];refine zaH (.sl (zan (lim (a.natAbs*b.natAbs))) .none) (λJ=>zhD _ _ ha hb _ _ ⟨rfl,rfl⟩) ?_;refine zaH (.sl (zan [1]) .none) (λJ=>zw7 _ _ ⟨rfl,rfl⟩) ?_;simp[zar,zaL,zcX,AV.known,ae];refine zaH (.agg (zam (a*b))) (λJ=>zks _ _ (by omega) (zH2 a b) _ _ ⟨rfl,rfl⟩) ?_;simp[ae];exact zdM hs hK
theorem zFm(a b:Nat)(ha:(lim a).length≤1000)(hb:(lim b).length≤1000)(H:zaa)(K:Kt)(hK:K (.int .i64 (zch a b)) H):
  ACalls tP zjy [.sl (zan (lim a)) .none,.sl (zan (lim b)) .none] H K:=by
 refine ACalls.out (zO6 λhs=>?_);have hO:∀r,r=zch a b→Out H.length K (.int .i64 r) H:=λr hr=>Out.int (J:=[]) (by simp) (aa _) hs (by rw[hr];exact hK);have lA:=zci a;have lB:=zci b;have vA:=zbO a;have vB:=zbO b;by_cases en:(lim a).length=(lim b).length
 ·simp[zml,en];generalize hLA:lim a=A at *;generalize hLB:lim b=B at *;have je:IntKind.i64.wrap ((B.length:Int)-1)=(B.length:Int)-1:=zav (by omega) (by omega);rw[je];refine zO4 (Inv:=λq t5 H'=>∃i:Nat,i≤B.length∧i=q∧t5=.int .i64 ((i:Int)-1)∧H'=H∧A.drop i=B.drop i) B.length ?_ ?_
  ·intro _;exact⟨B.length,by omega,rfl,rfl,rfl,by rw[a7 (by omega),a7 (by omega)]⟩
  ·rintro q t5 H' ⟨i,hi,rfl,rfl,rfl,hd⟩ eA d8 eC Kb ee;by_cases h0:i=0
   ·subst h0;simp[ziC];refine hO _ ?_;simp at hd;rw[←vA,←vB,hd];simp[zch]
   ·obtain⟨j,rfl⟩:∃ j,i=j+1:=⟨i-1,by omega⟩;have g7:j<A.length:=by omega
    have kO:j<B.length:=by omega
    have ej:((j+1:Nat):Int)-1=(j:Int):=by omega
    have eL:IntKind.i64.wrap ((j:Int)-1)=(j:Int)-1:=zav (by omega) (by omega);rw[ej];rcases Nat.lt_trichotomy A[j] B[j] with h|h|h
    ·have:=zjh en lA j g7 hd h;simp[ziC,g7,kO,h];exact hO _ (by rw[←vA,←vB];simp[zch,this])
    ·simp[ziC,g7,kO,h,eL];refine ee _ _ ⟨j,by omega,Back.here (by simp) hs (by simp[zmn,ux,AV.sc,AV.scA,AV.scB,AV.scV]) ⟨_,rfl,j,by omega,rfl,rfl,rfl,?_⟩⟩;rw[ag g7,ag kO,hd,h]
    ·have:=zjh en.symm lB j kO hd.symm h;simp[ziC,g7,kO,h,bN h,dw.2 (bN h)];exact hO _ (by rw[←vA,←vB];simp[zch,this,dw.2 (bN this)])
 ·have kD:(((lim a).length:Int) != ((lim b).length:Int))=true:=by simp;omega
  by_cases d7:(lim a).length<(lim b).length
  ·have:=zjg d7;simp[zml,kD,d7];exact hO (-1) (by simp[zch,this])
  ·have:=zjg (show (lim b).length<(lim a).length by omega);simp[zml,kD,d7];exact hO 1 (by simp[zch,this,dw.2 (bN this)])
theorem zFE(A:List Nat)(lA:∀ x∈A,x<1000000000)(ha:A.length≤1000)(d:Nat)(g8:0<d)(hd:d<4294967296)(hdB:d≤1000000000)(H:zaa)(K:Kt)(hK:K (.tup [.sl (zan (lim (zaq A / d))) .none,.int .u64 ((zaq A % d:Nat):Int)]) H):
  ACalls tP zpW [.sl (zan A) .none,.int .u64 d] H K:=by
 refine ACalls.out (zRb λhs=>?_);have eD:IntKind.i64.wrap ((A.length:Int)-1)=(A.length:Int)-1:=zav (by omega) (by omega);simp[zB6,zbu,eD];rw[zrf];refine⟨⟨by omega,by omega⟩,?_⟩;have hsc:∀ O:List Nat,HSc (H++[.cells (us O)]):=λO=>hs.append (by simp[AB.sc,us,AV.scA,AV.scB]);refine zQ9 (Inv:=λq t7 t8 H'=>∃ (i r:Nat) (O:List Nat),i≤A.length∧i=q∧t8=.int .i64 ((i:Int)-1)∧t7=.int .u64 r∧r<d∧O.length=A.length∧(∀ x∈O,x<1000000000) ∧
  zaq (A.drop i)=d*zaq (O.drop i)+r∧H'=H++[.cells (us O)]) A.length ?_ ?_
 ·intro _;exact⟨A.length,0,_,by omega,rfl,rfl,rfl,by omega,by simp,by simp,by simp[zaq],rfl⟩
 ·rintro q t7 t8 H' ⟨i,r,O,hi,rfl,rfl,rfl,hr,kZ,hO,hv,rfl⟩ eA d8 eC Kb ee;by_cases h0:i=0
  ·subst h0;simp[ztt];rw[br,br]at hv;rw[←kZ];refine zy4 O hO (by omega) (by simp) ?_;have e1:zaq A / d=zaq O:=by rw[hv,c9 g8,bQ hr];simp
   have e2:zaq A % d=r:=by rw[hv,db,bH hr]
   rw[e1,e2]at hK;simp;exact⟨⟨rfl,rfl⟩,Out.tup (bs:=[.sl (zan (lim (zaq O))) .none,.int .u64 (r:Int)]) hs hK ⟨slV,zaY rfl rfl,trivial⟩⟩
  ·obtain⟨j,rfl⟩:∃ j,i=j+1:=⟨i-1,by omega⟩;have g7:j<A.length:=by omega
   have nX:j<O.length:=by omega
   have kL:=lA A[j] (ah g7);have ej:((j+1:Nat):Int)-1=(j:Int):=by omega
   have eL:IntKind.i64.wrap ((j:Int)-1)=(j:Int)-1:=zav (by omega) (by omega);have hrB:r*1000000000≤1000000000*1000000000:=au _ (by omega);obtain⟨m,hm⟩:∃m,m=r*1000000000:=⟨_,rfl⟩;have w1:IntKind.u64.wrap ((r:Int)*1000000000)=(m:Int):=by rw[show (r:Int)*1000000000=(m:Int) by omega];exact zbL (by omega)
   have w2:IntKind.u64.wrap ((A[j]:Nat):Int)=A[j]:=zbL (by omega);obtain⟨s,fx⟩:∃s,s=m+A[j]:=⟨_,rfl⟩;have w3:IntKind.u64.wrap ((m:Int)+(A[j]:Nat))=(s:Int):=by rw[fx,←Int.natCast_add];exact zbL (by omega)
   obtain⟨x,c,fF,e8,e1,e2⟩:=zoS s d g8 (by omega);have py:c<1000000000:=by
    refine cj λh=>?_;have h1:d*1000000000≤d*c:=bp _ h;have h2:r*1000000000+1000000000≤d*1000000000:=by rw[←cp];exact au _ hr
    omega
   have w4:IntKind.u32.wrap (c:Int)=c:=zec (by omega);rw[ej];simp only[ztt];simp[g7,w1,w2,w3,e1,e2,w4,eL,zzm O j c nX,kZ];refine⟨by omega,ee _ _ ⟨j,by omega,Back.here (by simp) (hsc _) (by simp[zmT,ux,AV.sc,AV.scA,AV.scB,AV.scV]) ⟨_,_,rfl,j,x,O.set j c,by omega,rfl,rfl,rfl,fF,by simp[kZ],zyt hO py,?_,rfl⟩⟩⟩;rw[zhA A j g7,zhA (O.set j c) j (by simpa using nX),List.getElem_set_self,List.drop_set_of_lt (by omega),hv];rw[fx,hm]at e8;generalize zaq (O.drop (j+1))=Z at *;grind
theorem zwj(a b:Nat)(ha:(lim a).length≤1000)(fA:0<b)(hb:b<1000000000)(H:zaa)(K:Kt)(hK:K (.tup [.sl (zan (lim (a / b))) .none,.sl (zan (lim (a % b))) .none]) H):
  ACalls tP zhM [.sl (zan (lim a)) .none,.sl (zan (lim b)) .none] H K:=by
 refine ACalls.out (zQe λhs=>?_);have fV:lim b=[b]:=zfs (by omega) hb;simp only[zBS];refine zFm a b ha (by rw[fV];simp) _ _ ?_;have l5:(zch a b<0)↔a<b:=by
  unfold zch;split
  ·simp;assumption
  ·split <;> simp <;> omega
 by_cases d7:a<b
 ·simp[l5,d7];rw[bQ d7,bH d7,zwU]at hK;simp[zax,zaO,zaK];refine⟨zeb _,⟨by omega,by omega⟩,⟨rfl,rfl⟩,?_⟩;exact Out.tup (bs:=[.sl (zan []) .none,.sl (zan (lim a)) .none]) hs hK ⟨zdS,slV,trivial⟩
 ·have w1:IntKind.u64.wrap (b:Int)=b:=zbL (by omega);have hm:a % b<b:=ck _ fA;simp[l5,d7,fV,w1];refine zFE (lim a) (zci a) ha b fA (by omega) (by omega) _ _ ?_;rw[zbO];simp;refine zoY (a % b) (by omega) _ _ ?_;refine⟨⟨rfl,rfl⟩,?_⟩;exact Out.tup0 (bs:=[.sl (zan (lim (a / b))) .none,.sl (zan (lim (a % b))) .none]) hs hK ⟨slV,slV,trivial⟩
theorem zzu(n:Nat)(hn:n<1000000000000000000)(H:zaa)(K:Kt)(hK:K (.tup [.int .u64 n,.bool true]) H):ACalls tP zjJ [.sl (zan (lim n)) .none] H K:=by
 refine ACalls.out (zQ5 λhs=>?_);have jq:(lim n).length≤2:=zbW (by omega);have lA:=zci n;have vA:=zbO n;generalize lim n=L at *;simp[zB4];refine zQ3 (Inv:=λq t4 t9 H'=>∃i:Nat,i≤L.length∧L.length-i=q∧t9=.int .i64 i∧t4=.int .u64 ((zaq (L.drop (L.length-i)):Nat):Int)∧H'=H) L.length ?_ ?_
 ·intro _;exact⟨0,by omega,rfl,rfl,by simp[zaq],rfl⟩
 ·rintro q t4 t9 H' ⟨i,hi,rfl,rfl,rfl,rfl⟩ eA d8 eC Kb ee;by_cases d7:i<L.length
  ·have w1:IntKind.i64.wrap ((L.length:Int)-1)=((L.length-1:Nat):Int):=by rw[zav (by omega) (by omega)];omega
   have w2:IntKind.i64.wrap (((L.length-1:Nat):Int)-i)=((L.length-1-i:Nat):Int):=by rw[zav (by omega) (by omega)];omega
   have hj:L.length-1-i<L.length:=by omega
   have hx:=lA L[L.length-1-i] (ah hj);obtain⟨x,iJ⟩:∃x,x=L[L.length-1-i]:=⟨_,rfl⟩;have w3:IntKind.u64.wrap ((L[L.length-1-i]:Nat):Int)=(x:Int):=by rw[←iJ];exact zbL (by omega)
   have fu:=zhA L (L.length-1-i) hj;rw[show L.length-1-i+1=L.length-i by omega,←iJ]at fu;have kE:zaq (L.drop (L.length-i))<1000000000:=by
    have h1:=zeW (L.drop (L.length-i)) (λy hy=>lA y (List.mem_of_mem_drop hy));have h2:(L.drop (L.length-i)).length≤1:=by simp;omega
    have h3:1000000000 ^ (L.drop (L.length-i)).length≤1000000000 ^ 1:=a8 (by omega) h2;omega
   have eP:zaq (L.drop (L.length-(i+1)))=zaq (L.drop (L.length-i))*1000000000+x:=by rw[show L.length-(i+1)=L.length-1-i by omega,fu];omega
   generalize hW:zaq (L.drop (L.length-i))=W at *;have w4:IntKind.u64.wrap (18446744073709551615-(x:Int))=((18446744073709551615-x:Nat):Int):=by rw[show (18446744073709551615:Int)-x=((18446744073709551615-x:Nat):Int) by omega];exact zbL (by omega)
   obtain⟨y,pC⟩:∃y,y=18446744073709551615-x:=⟨_,rfl⟩;rw[←pC]at w4;obtain⟨r,c,kz,jn,ot,e1,e2⟩:=zhm y (by omega);have hc:¬(c<W):=by omega
   have w5:IntKind.u64.wrap ((W:Int)*1000000000)=((W*1000000000:Nat):Int):=by rw[show (W:Int)*1000000000=((W*1000000000:Nat):Int) by omega];exact zbL (by omega)
   obtain⟨m,gB⟩:∃m,m=W*1000000000:=⟨_,rfl⟩;rw[←gB]at w5;obtain⟨s,lQ⟩:∃s,s=m+x:=⟨_,rfl⟩;have w6:IntKind.u64.wrap ((m:Int)+x)=(s:Int):=by rw[lQ,←Int.natCast_add];exact zbL (by omega)
   simp only[ztr];simp[d7,w1,w2,hj,w3,w4,e2,hc,w5,w6,wi i (by omega)];exact ee _ _ ⟨L.length-(i+1),by omega,Back.here (by simp) hs (by simp[zmR,ux,AV.sc,AV.scA,AV.scB,AV.scV]) ⟨_,_,rfl,i+1,by omega,rfl,rfl,by rw[eP,lQ,gB],rfl⟩⟩
  ·obtain rfl:i=L.length:=by omega
   rw[cT,br,vA];simp[ztr];exact⟨⟨rfl,rfl⟩,Out.tup0 (bs:=[.int .u64 (n:Int),.bool true]) hs hK ⟨zaY rfl rfl,zaY rfl rfl,trivial⟩⟩
theorem zFS(a b:Nat)(ha:a<1000000000000000000)(hb:b<1000000000000000000)(H:zaa)(K:Kt)(hK:K (.sl (zan (lim (Nat.gcd a b))) .none) H):
  ACalls tP zpS [.sl (zan (lim a)) .none,.sl (zan (lim b)) .none] H K:=by
 refine ACalls.out (zP8 λhs=>?_);have la:(lim a).length≤2:=zbW (by omega);have lb:(lim b).length≤2:=zbW (by omega);unfold zBN;refine zP5 (Inv:=λq t0 t1 H'=>t0=.sl (zan (lim a)) .none∧t1=.sl (zan (lim b)) .none∧H'=H) 0 ?_ ?_
 ·intro _;exact⟨rfl,rfl,rfl⟩
 ·rintro q t0 t1 H' ⟨rfl,rfl,rfl⟩ eA d8 eC Kb ee;by_cases h0:b=0
  ·subst h0;rw[dl]at hK;simp[zs7];exact Out.one0 hs (.atom (.sl _ _)) rfl rfl hK
  ·have hp:0<(lim b).length:=by rw[zcd h0];simp
   have k0:decide (((lim a).length:Int)≤2)=true:=by simp;omega
   have fV:decide (((lim b).length:Int)≤2)=true:=by simp;omega
   simp[zs7,hp,k0,fV];refine zzu a ha _ _ ?_;simp;refine zzu b hb _ _ ?_;simp;refine zP6 (Inv:=λq t5 t7 H2=>∃x y:Nat,y=q∧t5=.int .u64 x∧t7=.int .u64 y∧x<1000000000000000000∧y<1000000000000000000∧Nat.gcd x y=Nat.gcd a b∧H2=H') b ?_ ?_
   ·intro _;exact⟨a,b,rfl,rfl,rfl,ha,hb,rfl,rfl⟩
   ·rintro q t5 t7 H2 ⟨x,y,rfl,rfl,rfl,hx,hy,hg,rfl⟩ fU iA lJ Kb2 fK;by_cases pC:y=0
    ·subst pC;rw[dl]at hg;subst hg;simp[zs8];refine zoY _ (by omega) _ _ ?_;exact Out.one0 hs (.atom (.sl _ _)) rfl rfl hK
    ·obtain⟨r,c,kz,jn,e1,_⟩:=zoS x y (by omega) (by omega);simp only[zs8];simp[show 0<y by omega,e1];refine fK _ _ ⟨r,by omega,Back.here (by simp) hs (by simp[zmH,ux,AV.sc,AV.scA,AV.scB,AV.scV]) ⟨_,_,rfl,y,r,rfl,rfl,rfl,hy,by omega,?_,rfl⟩⟩;have lm:r=x % y:=by rw[jn,dv,bH kz]
     rw[←hg,lm,dO x y,Nat.gcd_rec y x,dO]
def zbK(neg:Bool)(n d:Nat):List AV:=[.bool neg,.sl (zan (lim n)) .none,.sl (zan (lim d)) .none]
@[simp] theorem zZ8(b:Bool)(n d:Nat):(zbK b n d).length=3:=rfl
@[simp] theorem zZ7(b:Bool)(n d:Nat):(∀x∈zbK b n d,x.known=true)=True:=by simp[zbK,AV.known]
@[simp] theorem zZ9(b:Bool)(n d:Nat):List.take 3 (zbK b n d)=zbK b n d:=rfl
theorem zgv{H J:zaa}{K:Kt}{b:Bool}{n d:Nat}(hs:HSc H)(hK:K (.agg (zbK b n d)) H):Out H.length K (.agg (zbK b n d)) (H++J):=Out.one hs .rfl' rfl rfl hK
theorem zjf{n:Nat}:lim n=[1]↔n=1:=by
 constructor
 ·intro h;have:=zbO n;rw[h]at this;simp[zaq]at this;omega
 ·rintro rfl;exact zd3
theorem zGk(neg:Bool)(n d:Nat)(jC:n≠0)(g8:d≠0)(hn:n<1000000000000000000)(hd:d<1000000000000000000)(hg:Nat.gcd n d<1000000000)(H:zaa)(K:Kt)(hK:K (.agg (zbK neg (n / Nat.gcd n d) (d / Nat.gcd n d))) H):
  ACalls tP zju [.agg (zbK neg n d)] H K:=by
 refine ACalls.out (zAC λhs=>?_);have ln:(lim n).length≤2:=zbW (by omega);have ld:(lim d).length≤2:=zbW (by omega);have hp:0<(lim n).length:=by rw[zcd jC];simp
 have hb:(((lim n).length:Int) == 0)=false:=by generalize (lim n).length=q at hp;simp;omega
 have hY:0<Nat.gcd n d:=dD d (by omega);have lg:(lim (Nat.gcd n d)).length≤2:=zbW (by omega);simp[zlT,zbK,hb,ae];refine zpa (lim d) (by omega) _ _ ?_;by_cases lw:d=1
 ·subst lw;rw[Nat.gcd_one_right,dP,dP]at hK;simp[zjf,ae];exact zgv hs hK
 ·simp[zjf,lw,ae];refine zFS n d hn hd _ _ ?_;refine zpa _ (by omega) _ _ ?_;by_cases ky:Nat.gcd n d=1
  ·rw[ky,dP,dP]at hK;simp[zjf,ky,ae];exact zgv hs hK
  ·simp[zjf,ky,ae];refine zwj n _ (by omega) hY hg _ _ ?_;simp[ae];refine zwj d _ (by omega) hY hg _ _ ?_;simp[zar,zaL,zcX,AV.known,ae];exact zgv hs hK
theorem zyE(neg:Bool)(n d:Nat)(jC:n≠0)(g8:d≠0)(hn:n<1000000000000000000)(hd:d<1000000000000000000)(hg:Nat.gcd n d<1000000000)(H:zaa)(K:Kt)(hK:K (.agg (zbK neg (n / Nat.gcd n d) (d / Nat.gcd n d))) H):
  ACalls tP ze0 [.agg (zbK neg n d)] H K:=by
 refine ACalls.out (zzV λhs=>?_);simp[zrE,zbK,ae];refine zGk neg n d jC g8 hn hd hg _ _ ?_;simp[zbK,zar,zaL,zcX,AV.known,ae];exact zgv hs hK
theorem zQX(a b:Nat)(md:a≠0)(fA:b≠0)(ha:a<1000000000)(hb:b<1000000000)(H:zaa)(K:Kt)(hK:K (.agg (zbK false (a / Nat.gcd a b) (b / Nat.gcd a b))) H):
  ACalls tP zpV [.int .i64 a,.int .i64 b] H K:=by
 refine ACalls.out (zQW λhs=>?_);have h0:decide ((a:Int)<0)=false:=by simp
 have h1:decide ((b:Int)<0)=false:=by simp
 have h2:((b:Int) == 0)=false:=by simp;omega
 have hg:Nat.gcd a b<1000000000:=aQ (Nat.gcd_le_right a (by omega)) hb;simp[zB3,h2,h0,h1,ae];refine zph a (by omega) _ _ ?_;refine zph b (by omega) _ _ ?_;simp[zar,zaL,zcX,AV.known,ae];refine zyE false a b md fA (by omega) (by omega) hg _ _ ?_;simp[ae];exact zgv hs hK
theorem zwV(neg:Bool)(n d:Nat)(jC:n≠0)(g8:d≠0)(hn:(lim n).length≤1000)(hd:(lim d).length≤1000)(H:zaa)(K:Kt)(hK:K (.agg (zbK neg n d)) H):ACalls tP zes [.agg (zbK neg n d)] H K:=by
 refine ACalls.out (zzZ λhs=>?_);have hz:∀m:Nat,m≠0→(((lim m).length:Int) == 0)=false:=λm hm=>by
  have hp:0<(lim m).length:=by rw[zcd hm];simp
  generalize (lim m).length=q at hp;simp;omega
 simp[zrF,zbK,ae];refine zaH (.sl (zan (lim n)) .none) (λJ=>zj6 _ (zhy _) (by omega) _ _ (by rw[zbO];exact⟨rfl,rfl⟩)) ?_;refine zaH (.sl (zan (lim d)) .none) (λJ=>zj6 _ (zhy _) (by omega) _ _ (by rw[zbO];exact⟨rfl,rfl⟩)) ?_;simp[hz n jC,hz d g8,zar,zaL,zcX,AV.known,ae];exact zgv hs hK
theorem zxX(n:Nat):zbK false n 1=zam (n:Int):=by unfold zbK zam;rw[zd3,Int.natAbs_natCast,bk (by omega)]
theorem zGu(a:Nat)(ha:a<1000000000 ^ 30)(H:zaa)(K:Kt)(hK:K (.sl (zan (lim a)) .none) H):ACalls tP zdK [.sl (zan [1]) .none,.sl (zan (lim a)) .none] H K:=by have:=zhD 1 a zj8 ha H K (by rw[cB];exact hK);rwa [zd3]at this
theorem zD9(c p q r:Nat)(f8:p≠0)(oD:q≠0)(iV:c≠0)(hp:p<1000000000)(hq:q<1000000000)(hcp:c*p<1000000000000000000)(hr:c*p=r*q)(H:zaa)(K:Kt)(hK:K (.agg (zam (r:Int))) H):
  ACalls tP zet [.agg (zam (c:Int)),.agg (zbK false p q)] H K:=by
 refine ACalls.out (zDf λhs=>?_);have hc:c<1000000000000000000:=aQ (dC c (by omega)) hcp;have lc:=zbW (n:=c) (k:=2) (by omega);have lp:=zbW (n:=p) (k:=1) (by omega);have lq:=zbW (n:=q) (k:=1) (by omega);have b30:(1000000000000000000:Nat)≤1000000000 ^ 30:=by decide
 have hg:Nat.gcd (c*p) q=q:=by rw[hr];exact Nat.gcd_eq_right (Nat.dvd_mul_left q r)
 have hcp0:c*p≠0:=Nat.mul_ne_zero iV f8;rw[←zxX c];simp[zur,zbK,ae];refine zaH (.agg (zbK false c 1)) (λJ=>zwV false c 1 iV (by omega) (by omega) (by rw[zd3];simp) _ _ ⟨rfl,rfl⟩) ?_;refine zaH (.agg (zbK false p q)) (λJ=>zwV false p q f8 oD (by omega) (by omega) _ _ ⟨rfl,rfl⟩) ?_;simp[zbK,AV.known,ae];refine zaH (.sl (zan (lim (c*p))) .none) (λJ=>zhD _ _ (by omega) (by omega) _ _ ⟨rfl,rfl⟩) ?_;rw[zd3];refine zaH (.sl (zan (lim q)) .none) (λJ=>zGu _ (by omega) _ _ ⟨rfl,rfl⟩) ?_;simp[zar,zaL,zcX,AV.known,ae];refine zaH (.agg (zam (r:Int))) (λJ=>zyE false (c*p) q hcp0 oD hcp (by omega) (by rw[hg];exact hq) _ _ (by
  rw[hg,dQ (by omega),hr,Nat.mul_div_cancel _ (by omega),zxX];exact⟨rfl,rfl⟩)) ?_
 simp[ae];exact zdM hs hK
theorem zv3:∀ {n k:Nat},k≤n→0<chs n k
 |n,0,_=>by simp
 |n+1,k+1,h=>by have:=zv3 (n:=n) (k:=k) (by omega);rw[chs];omega
theorem zwr(n k:Nat)(hn:n≤900)(hk:k≤6)(H:zaa)(K:Kt)(hK:K (.agg (zam (chs n k))) H):ACalls tP zjz [.int .i64 n,.int .i64 k] H K:=by
 refine ACalls.out (zPi λhs=>?_);simp[zBz,ae];refine zeI 1 (by omega) _ _ ?_;simp[ae];have hsc:∀z:Int,HSc (H++[.cells [.bool false,.snil,.snil],.cells (zam z)]):=λz=>hs.append (by simp[AB.sc,zam,AV.scA,AV.scB]);refine zPg (Inv:=λq t9 H'=>∃i:Nat,i≤k∧i≤n∧k-i=q∧t9=.int .i64 i∧H'=H++[.cells [.bool false,.snil,.snil],.cells (zam ((chs n i:Nat):Int))]) k ?_ ?_
 ·intro _;exact⟨0,by omega,by omega,rfl,rfl,by simp⟩
 ·rintro q t9 H' ⟨i,hi,mw,rfl,rfl,rfl⟩ eA d8 eC Kb ee;by_cases d7:i<k
  ·by_cases nJ:n=i
   ·subst nJ;rw[zhg d7]at hK;simp[zmr,d7,ae];refine zeI 0 (by omega) _ _ ?_;simp[ae];exact zdM hs hK
   ·have hb:((n:Int) == (i:Int))=false:=by simp;omega
    have pD:chs n i≤900 ^ 5:=by refine ar (zi7 n i) (ar (di hn i) (a8 (by omega) (by omega)))
    have w1:IntKind.i64.wrap ((n:Int)-i)=((n-i:Nat):Int):=by rw[zav (by omega) (by omega)];omega
    obtain⟨d,hd⟩:∃d,d=n-i:=⟨_,rfl⟩;rw[←hd]at w1;obtain⟨j,hj⟩:∃j,j=i+1:=⟨_,rfl⟩;have w2:IntKind.i64.wrap ((i:Int)+1)=(j:Int):=by rw[wi i (by omega),hj]
    have hY:0<Nat.gcd d j:=dD j (by omega);have hp:=Nat.div_mul_cancel (Nat.gcd_dvd_left d j);have hq:=Nat.div_mul_cancel (Nat.gcd_dvd_right d j);have eL:=zi8 n i;rw[←hd,←hj]at eL;have hpd:=cO d (Nat.gcd d j);have hqj:=cO j (Nat.gcd d j);have f8:d / Nat.gcd d j≠0:=λh=>by rw[h]at hp;omega
    have oD:j / Nat.gcd d j≠0:=λh=>by rw[h]at hq;omega
    have hr:chs n i*(d / Nat.gcd d j)=chs n j*(j / Nat.gcd d j):=by refine Nat.eq_of_mul_eq_mul_right hY ?_;rw[cd,hp,cd,hq,←eL,ba]
    have pE:chs n i*(d / Nat.gcd d j)<1000000000000000000:=aQ (bx pD (ar hpd (show d≤900 by omega))) (by decide);simp[zmr,d7,hb,w1,w2,ae];refine zaH (.agg (zbK false (d / Nat.gcd d j) (j / Nat.gcd d j))) (λJ=>zQX d j (by omega) (by omega) (by omega) (by omega) _ _ ⟨rfl,rfl⟩) ?_;refine zaH (.agg (zam ((chs n j:Nat):Int))) (λJ=>zD9 _ _ _ _ f8 oD (by have:=zv3 mw;omega) (by omega) (by omega) pE hr _ _ ⟨rfl,rfl⟩) ?_;simp[ae];exact ee _ _ ⟨k-(i+1),by omega,Back.here (by simp) (hsc _) (by simp[zms,ux,AV.sc,AV.scA,AV.scB,AV.scV]) ⟨_,rfl,j,by omega,by omega,by omega,rfl,rfl⟩⟩
  ·obtain rfl:i=k:=by omega
   simp[zmr,ae];exact zdM hs hK
theorem zxG{H:zaa}{K:Kt}(R:List Nat)(hs:HSc H)(hK:K (.sl (zan R) .none) H):Out H.length K (.ov H.length R.length) (H++[.vec zbo 1 R.length (us R)]):=
 ⟨.sl (zan R) .none,H,[.vec zbo 1 R.length (us R)],rfl,aa _,hs,.one (.vfz H.length zbo 1 R.length (us R) (zan R) (aa _) (by simp) (by rw[zkJ,ziq]) (by simp) (zeb R)),hK⟩
theorem zvz(A B:List Nat)(lA:∀x∈A,x<1000000000)(lB:∀x∈B,x<1000000000)(ha:A.length≤1000)(hb:B.length≤A.length)(cA:lim (zaq A)=A)(H:zaa)(K:Kt)(hs:HSc H)(hK:K (.sl (zan (lim (zaq A+zaq B))) .none) H):zmi (.sl (zan A) .none) (.sl (zan B) .none) H (Out H.length K):=by
 have hsc:∀ R:List Nat,HSc (H++[.vec zbo 1 R.length (us R)]):=λA=>hs.append (by simp[AB.sc,us,AV.scA,AV.scB]);simp[zmi,wi A.length (by omega)];refine⟨⟨by omega,by omega,by omega⟩,?_⟩;refine zOX (Inv:=λq t5 t6 t22 H'=>∃ (i c:Nat) (R:List Nat),i≤A.length∧A.length-i=q∧t22=.int .i64 i∧t6=.int .u32 c∧t5=.ov H.length R.length∧R.length=i∧(∀ x∈R,x<1000000000)∧c≤1 ∧
  zaq R+1000000000 ^ i*c=zaq (A.take i)+zaq (B.take i)∧H'=H++[.vec zbo 1 R.length (us R)]) A.length ?_ ?_
 ·intro _;exact⟨0,0,[],by omega,rfl,rfl,rfl,rfl,rfl,by simp,by omega,by simp[zaq],rfl⟩
 ·rintro q t5 t6 t22 H' ⟨i,c,R,hi,rfl,rfl,rfl,rfl,k9,hR,hc,hv,rfl⟩ eA d8 eC Kb ee;by_cases d7:i<A.length
  ·have hbit : ∀ (s : Nat), s ≤ 2 * 999999999 + 1 → s = c + A[i] + (if h : i < B.length then B[i] else 0) →
     zmj (.sl (zan A) .none) (.sl (zan B) .none) (.ov H.length R.length) (.int .u32 s) (.int .i64 A.length) (.int .i64 i) (H++[.vec zbo 1 R.length (us R)]) (Out H.length K) Kb:=by
    intro s fx jv;obtain⟨x,c',fF,e8,e1,e2⟩:=zFF s (by omega);simp only[zmj];simp[e1,e2,zau,zaU,plain,AV.pd,zax,zaO,zaK,wi i (by omega)];refine⟨⟨by omega,by omega⟩,?_⟩;have e3:us R++[AV.int .u32 (x:Int)]=us (R++[x]):=by simp[us]
    rw[e3];refine ee _ _ ⟨A.length-(i+1),by omega,Back.here (by simp) (by simpa using hsc (R++[x])) (by simp[zmh,ux,AV.sc,AV.scA,AV.scB,AV.scV]) ⟨_,_,_,rfl,i+1,c',R++[x],by omega,rfl,rfl,rfl,by simp,by simp[k9],?_,by omega,?_,by simp⟩⟩
    ·intro y hy;rcases aX.1 hy with hy | hy
     ·exact hR y hy
     ·simp at hy;omega
    ·have tk:zaq (B.take (i+1))=zaq (B.take i)+(if h:i<B.length then B[i] else 0)*1000000000 ^ i:=by
      by_cases h:i<B.length
      ·rw[dif_pos h,zgh B i h]
      ·rw[dif_neg h,am (by omega),am (by omega)];simp
     rw[zft,tk,zgh A i d7,k9,Nat.pow_succ];generalize (if h:i<B.length then B[i] else 0)=v at *;grind
   have kL:=lA A[i] (ah d7);obtain⟨s1,fx⟩:∃s,s=A[i]+c:=⟨_,rfl⟩;have w1:IntKind.u32.wrap (((A[i]:Nat):Int)+(c:Int))=(s1:Int):=by rw[fx,←Int.natCast_add];exact zec (by omega)
   by_cases hB:i<B.length
   ·have iQ:=lB B[i] (ah hB);obtain⟨s2,jv⟩:∃ s,s=s1+B[i]:=⟨_,rfl⟩;have w2:IntKind.u32.wrap ((s1:Int)+(B[i]:Nat))=(s2:Int):=by rw[jv,←Int.natCast_add];exact zec (by omega)
    simp[ziB,d7,hB,w1,w2];exact hbit s2 (by omega) (by simp[hB];omega)
   ·simp[ziB,d7,hB,w1];exact hbit s1 (by omega) (by simp[hB];omega)
  ·obtain rfl:i=A.length:=by omega
   rw[aq,am hb]at hv;by_cases h0:c=0
   ·subst h0;simp[ziB,zmk];have fG:zaq R=zaq A+zaq B:=by simpa using hv
    rw[←fG]at hK;have fW:R=lim (zaq R):=by
     refine zvZ hR ?_;by_cases mf:A.length=0
     ·omega
     ·have h3:=zwT (n:=zaq A) (by intro h;have iS:=congrArg List.length cA;rw[h]at iS;simp at iS;omega);rw[cA]at h3;have:=zwS (n:=zaq R) (k:=A.length-1) (by omega);omega
    rw[←fW]at hK;exact zxG R hs hK
   ·obtain rfl:c=1:=by omega
    simp[ziB,zmk,zau,zaU,plain,AV.pd,zax,zaO,zaK];refine⟨⟨by omega,by omega⟩,?_⟩;have e3:us R++[AV.int .u32 1]=us (R++[1]):=by simp[us]
    rw[e3];have fG:zaq (R++[1])=zaq A+zaq B:=by rw[zft,k9];omega
    rw[←fG]at hK;have fW:R++[1]=lim (zaq (R++[1])):=by
     refine zvZ (λy hy=>?_) ?_
     ·rcases aX.1 hy with hy | hy
      ·exact hR y hy
      ·simp at hy;omega
     ·have:=zwS (n:=zaq (R++[1])) (k:=A.length) (by rw[zft,k9];omega);simp;omega
    rw[←fW]at hK;have:=zxG (R++[1]) hs hK;simpa using this
theorem zO1(a b:Nat)(ha:(lim a).length≤1000)(hb:(lim b).length≤1000)(H:zaa)(K:Kt)(hK:K (.sl (zan (lim (a+b))) .none) H):
  ACalls tP zpP [.sl (zan (lim a)) .none,.sl (zan (lim b)) .none] H K:=by
 refine ACalls.out (zOZ λhs=>?_);by_cases h:(lim a).length<(lim b).length
 ·have h':((lim a).length:Int)<((lim b).length:Int):=by omega
  simp[zsR,h];refine zvz (lim b) (lim a) (zci b) (zci a) hb (by omega) (by rw[zbO]) _ _ hs ?_;rw[zbO,zbO,cF];exact hK
 ·have h':¬ ((lim a).length:Int)<((lim b).length:Int):=by omega
  simp[zsR,h];refine zvz (lim a) (lim b) (zci a) (zci b) ha (by omega) (by rw[zbO]) _ _ hs ?_;rw[zbO,zbO];exact hK
theorem zw8(a:Nat)(ha:a<1000000000 ^ 30)(H:zaa)(K:Kt)(hK:K (.sl (zan (lim a)) .none) H):ACalls tP zdK [.sl (zan (lim a)) .none,.sl (zan [1]) .none] H K:=by have:=zhD a 1 ha zj8 H K (by rw[bv];exact hK);rwa [zd3]at this
theorem zHk(a b:Nat)(ha:a<1000000000 ^ 30)(hb:b<1000000000 ^ 30)(H:zaa)(K:Kt)(hK:K (.agg (zam ((a+b:Nat):Int))) H):
  ACalls tP zpx [.agg (zam (a:Int)),.agg (zam (b:Int))] H K:=by
 refine ACalls.out (zLx λhs=>?_);have la:=zbW ha;have lb:=zbW hb;have d0:∀n:Nat,decide ((n:Int)<0)=false:=λn=>by simp
 simp[zAc,zam,d0,ae];refine zaH (.sl (zan (lim a)) .none) (λJ=>zw8 a ha _ _ ⟨rfl,rfl⟩) ?_;try simp[ae]
 refine zaH (.sl (zan (lim b)) .none) (λJ=>zw8 b hb _ _ ⟨rfl,rfl⟩) ?_;try simp[ae]
 refine zw7 _ _ ?_;simp[ae];refine zaH (.sl (zan (lim (a+b))) .none) (λJ=>zO1 a b (by omega) (by omega) _ _ ⟨rfl,rfl⟩) ?_;simp[zar,zaL,zcX,AV.known,ae];have e1:zam ((a+b:Nat):Int)=[.bool false,.sl (zan (lim (a+b))) .none,.sl (zan [1]) .none]:=by simp only[zam,d0,Int.natAbs_natCast]
 have:=zdM (H:=H) (K:=K) (z:=((a+b:Nat):Int)) (J:=[.cells [.bool false,.sl (zan (lim a)) .none,.sl (zan [1]) .none],.cells [.bool false,.sl (zan (lim b)) .none,.sl (zan [1]) .none],.cells (zam ((a+b:Nat):Int))]) hs hK;rw[e1]at this;simpa using this
theorem zU2(a b:Nat)(ha:a<1000000000 ^ 30)(hb:b<1000000000 ^ 30)(H:zaa)(K:Kt)(hK:K (.agg (zam ((a+b:Nat):Int))) H):ACalls tP zqd [.agg (zam (a:Int)),.agg (zam (b:Int))] H K:=by
 refine ACalls.out (zU1 λhs=>?_);have la:=zbW ha;have lb:=zbW hb;have lc:(lim (a+b)).length≤31:=zbW (by omega);have d0:∀n:Nat,decide ((n:Int)<0)=false:=λn=>by simp
 have e1:∀n:Nat,zam (n:Int)=[.bool false,.sl (zan (lim n)) .none,.sl (zan [1]) .none]:=λn=>by simp only[zam,d0,Int.natAbs_natCast]
 simp[zDq,e1,ae];simp only[←e1];refine zaH (.agg (zam (a:Int))) (λJ=>zgg a (by simpa using by omega) _ _ ⟨rfl,rfl⟩) ?_;refine zaH (.agg (zam (b:Int))) (λJ=>zgg b (by simpa using by omega) _ _ ⟨rfl,rfl⟩) ?_;refine zaH (.agg (zam ((a+b:Nat):Int))) (λJ=>zHk a b ha hb _ _ ⟨rfl,rfl⟩) ?_;refine zaH (.agg (zam ((a+b:Nat):Int))) (λJ=>by
  rw[e1 (a+b)];exact zks false (a+b) (by omega) (z:=((a+b:Nat):Int)) (by simp) _ _ ⟨by rw[e1],rfl⟩) ?_
 rw[e1 (a+b)];simp[ae];have:=zdM (H:=H) (K:=K) (z:=((a+b:Nat):Int)) (J:=[.cells (zam (a:Int)),.cells (zam (b:Int)),.cells (zam ((a+b:Nat):Int))]) hs hK;rw[e1 (a+b)]at this;simpa using this
theorem zH7(a:Nat)(H:zaa)(K:Kt)(hK:K (.int .i64 (if a=0 then 0 else 1)) H):ACalls tP zpA [.agg (zam (a:Int))] H K:=by
 refine ACalls.out (zLQ λhs=>?_);have d0:∀n:Nat,decide ((n:Int)<0)=false:=λn=>by simp
 have hO:∀z J,z=(if a=0 then (0:Int) else 1)→Out H.length K (.int .i64 z) (H++J):=λz J h=>Out.int rfl (aa _) hs (by rw[h];exact hK);by_cases h:a=0
 ·subst h;simp[zrV,zam];exact hO 0 _ (by simp)
 ·have hp:0<(lim a).length:=by rw[zcd h];simp
  have hb:(((lim a).length:Int) == 0)=false:=by generalize (lim a).length=q at hp;simp;omega
  simp[zrV,zam,d0,hb];exact hO 1 _ (by simp[h])
def Gd(s:List (IT×Nat)):Prop:=∀p∈s,p.1.nodes≤1000∧0<p.2
theorem Gd.add{s:List (IT×Nat)}(h:Gd s){i:IT}(hi:i.nodes≤1000)(c:Nat):Gd (zda s i c):=by
 intro p hp;rcases zi1 p hp with ⟨q,hq,he,eH⟩|⟨h0,he,eH⟩
 ·have:=h q hq;rw[←he];omega
 ·rw[he];omega
theorem Gd.nil:Gd []:=λp hp=>by simp at hp
theorem zcQ(p:IT×Nat):List.take 5 (tmC p)=tmC p:=am (by simp)
theorem zco(p:IT×Nat):List.take 2 (tmC p)=p.1.cs:=by rw[tmC,dj (by simp)]
theorem zcz(p:IT×Nat):List.take 3 (List.drop 2 (tmC p))=zam (p.2:Int):=by rw[tmC,cJ (by simp),am (by simp[zam])]
theorem zea(p:IT×Nat):∀x∈tmC p,x.known=true:=ak.1 (by rw[tmC,bo,IT.cs_known,zfC];rfl)
theorem zJg(p:IT×Nat)(n:Nat):(tmC p).all (AV.scA n)=true:=by rw[tmC,bo,IT.cs_scA,zgz];rfl
def hpM(H:zaa)(tn:Int)(tks:List VT)(s:List (IT×Nat)):zaa:=H++[.cells [.int .i64 5,.int .i64 tn,.sl (VT.css tks) .none],.vec zaC 5 s.length (tms s)]
@[simp] theorem zF2{H:zaa}{tn:Int}{tks:List VT}{s:List (IT×Nat)}:(hpM H tn tks s).length=H.length+2:=by simp[hpM]
@[simp] theorem zZR{H:zaa}{tn:Int}{tks:List VT}{s:List (IT×Nat)}{c:AB}{J:zaa}:(hpM H tn tks s++c::J)[H.length+2]?=some c:=by rw[←zF2 (H:=H) (tn:=tn) (tks:=tks) (s:=s)];simp
@[simp] theorem zZP{H:zaa}{tn:Int}{tks:List VT}{s:List (IT×Nat)}{J:zaa}:(hpM H tn tks s++J)[H.length]?=some (.cells [.int .i64 5,.int .i64 tn,.sl (VT.css tks) .none]):=by simp[hpM,List.getElem?_append]
@[simp] theorem zZQ{H:zaa}{tn:Int}{tks:List VT}{s:List (IT×Nat)}:(hpM H tn tks s)[H.length]?=some (.cells [.int .i64 5,.int .i64 tn,.sl (VT.css tks) .none]):=by simp[hpM,List.getElem?_append]
@[simp] theorem zZS{H:zaa}{tn:Int}{tks:List VT}{s:List (IT×Nat)}(h:H.length<(hpM H tn tks s).length):(hpM H tn tks s)[H.length]=.cells [.int .i64 5,.int .i64 tn,.sl (VT.css tks) .none]:=by simp[hpM,List.getElem_append]
def zcl(l:List Nat):List (List AV):=l.map λ(z:Nat)=>zam (z:Int)
@[simp] theorem zHm(l:List Nat):(zcl l).length=l.length:=by simp[zcl]
@[simp] theorem zZ5{l:List Nat}{i:Nat}(h:i<(zcl l).length):(zcl l)[i]=zam ((l[i]'(by simpa using h):Nat):Int):=by simp[zcl]
def zc0(a b n:Nat):List Nat:=(List.range n).map (pcf a b)
def hpL(H:zaa)(t:VT)(i j:IT)(s:List (IT×Nat)):zaa:=H++[.cells t.cs,.cells i.cs,.cells j.cs,.vec zaC 5 s.length (tms s)]
@[simp] theorem zF1{H:zaa}{t:VT}{i j:IT}{s:List (IT×Nat)}:(hpL H t i j s).length=H.length+4:=by simp[hpL]
@[simp] theorem zZO{H:zaa}{t:VT}{i j:IT}{s:List (IT×Nat)}{c:AB}{J:zaa}:(hpL H t i j s++c::J)[H.length+4]?=some c:=by rw[←zF1 (H:=H) (t:=t) (i:=i) (j:=j) (s:=s)];simp
def ofD(dU:List Dat)(t:VT)(s:List (IT×Nat))(d:Nat):List (IT×Nat):=s.filter λp=>rdV dU p.1 t == (d:Int)
def zbJ(dU:List Dat)(t:VT)(s:List (IT×Nat))(d:Nat):List (IT×Nat):=(List.range d).flatMap (ofD dU t s)
theorem zxC(dU:List Dat)(t:VT)(s:List (IT×Nat))(d:Nat):zbJ dU t s (d+1)=zbJ dU t s d++ofD dU t s d:=by simp[zbJ,bO]
theorem zxs(dU:List Dat)(t:VT)(f:IT→Nat):∀ (s:List (IT × Nat)),(∀ p∈s,0≤rdV dU p.1 t∧rdV dU p.1 t≤6)→∀ d:Nat,zaM f (zbJ dU t s d)=zaM f (s.filter λp=>decide (rdV dU p.1 t<(d:Int)))
 |s,h,0=>by
  have:(s.filter λp=>decide (rdV dU p.1 t<((0:Nat):Int)))=[]:=by rw[cP];intro p hp;have:=h p hp;simp;omega
  rw[this];rfl
 |s,h,d+1=>by
  rw[zxC,zkt,zxs dU t f s h d];unfold ofD;clear h;induction s with
  |nil=>rfl
  |cons p s ih=>
   simp only[cz];by_cases h1:rdV dU p.1 t<(d:Int)
   ·have h2:(rdV dU p.1 t == (d:Int))=false:=by simp;omega
    have h3:rdV dU p.1 t<((d+1:Nat):Int):=by omega
    simp only[h1,h2,h3,cQ,aV,aF,aH,zc3];omega
   ·by_cases h2:rdV dU p.1 t=(d:Int)
    ·have h3:rdV dU p.1 t<((d+1:Nat):Int):=by omega
     have h4:(rdV dU p.1 t == (d:Int))=true:=by simpa using h2
     simp only[h1,h4,h3,cQ,decide_false,aV,aF,aH,zc3];omega
    ·have h3:¬ rdV dU p.1 t<((d+1:Nat):Int):=by omega
     have h4:(rdV dU p.1 t == (d:Int))=false:=by simpa using h2
     simp only[h1,h4,h3,decide_false,aH,aF];omega
theorem zql{dU:List Dat}{t:VT}{s:List (IT×Nat)}(h:∀p∈s,0≤rdV dU p.1 t∧rdV dU p.1 t≤6)(f:IT→Nat):zaM f (zbJ dU t s 7)=zaM f s:=by rw[zxs dU t f s h 7];congr 1;rw[List.filter_eq_self];intro p hp;have:=h p hp;simp;omega
theorem zG1{dU:List Dat}{t:VT}{s:List (IT×Nat)}{d:Nat}:∀p∈zbJ dU t s d,p∈s:=by intro p hp;obtain⟨k,_,h⟩:=bI.1 hp;exact(cq.1 h).1
theorem zGM{dU:List Dat}{t:VT}{s:List (IT×Nat)}{d j:Nat}(hj:j<s.length):ofD dU t (s.take (j+1)) d=ofD dU t (s.take j) d++if rdV dU s[j].1 t=(d:Int) then [s[j]] else []:=by
 rw[af hj];simp only[ofD,cN,cz,List.filter_nil];by_cases h:rdV dU s[j].1 t=(d:Int)
 ·simp[h]
 ·have h4:(rdV dU s[j].1 t == (d:Int))=false:=by simpa using h
  simp[h,h4]
theorem zqi{dU:List Dat}{t:VT}{s:List (IT×Nat)}{d:Nat}:(ofD dU t s d).length≤s.length:=cU _ _
theorem zqk{dU:List Dat}{t:VT}{s:List (IT × Nat)}:∀ d:Nat,(zbJ dU t s d).length≤d*s.length
 |0=>by simp[zbJ]
 |d+1=>by rw[zxC,az,cp];have:=zqk (dU:=dU) (t:=t) (s:=s) d;have:=zqi (dU:=dU) (t:=t) (s:=s) (d:=d);omega
def zbf:List (IT × Nat)→IT→Nat→List (IT × Nat)
 |[],i,c=>[(i,c)]
 |p::s,i,c=>if IT.same p.1 i then (p.1,p.2+c)::s else p::zbf s i c
theorem zym(i:IT):IT.same i i=true:=(IT.cmp_zero i i).1 (zf8 i)
theorem zow(g:IT→Nat)(i:IT)(c:Nat):∀ s:List (IT × Nat),zah g (zbf s i c)=zah g s+c*g i
 |[]=>by simp[zbf]
 |p::s=>by
  unfold zbf;split
  ·rename_i h;rw[zaW,zaW,same_eq _ _ h,aZ];omega
  ·rw[zaW,zaW,zow g i c s];omega
theorem zg7{i:IT}{c:Nat}:∀ {s:List (IT × Nat)} {p:IT × Nat},p∈zbf s i c→p.1=i∧c≤p.2∨p∈s
 |[],p,h=>by simp[zbf]at h;rw[h];exact .inl ⟨rfl,aa _⟩
 |x::s,p,h=>by
  unfold zbf at h;split at h
  ·rename_i he;rcases aS.1 h with rfl | h
   ·exact .inl ⟨same_eq _ _ he,by simp⟩
   ·exact .inr (aU _ h)
  ·rcases aS.1 h with rfl | h
   ·exact .inr aO
   ·rcases zg7 h with h | h
    ·exact .inl h
    ·exact .inr (aU _ h)
theorem zvx{i:IT}{c:Nat}:∀ {s:List (IT × Nat)},(s.map Prod.fst).Nodup→((zbf s i c).map Prod.fst).Nodup
 |[],_=>by simp[zbf]
 |x::s,h=>by
  rw[aD,cH]at h;unfold zbf;split
  ·rw[aD,cH];exact h
  ·rename_i he;rw[aD,cH];refine⟨λhx=>?_,zvx h.2⟩;obtain⟨p,hp,hpe⟩:=aC.1 hx;rcases zg7 hp with ⟨h1,_⟩ | h1
   ·exact he (by rw[←hpe,h1,zym])
   ·exact h.1 (aC.2 ⟨p,h1,hpe⟩)
theorem zvv{i:IT}{c:Nat}:∀ {s:List (IT × Nat)} {k:Nat} (hk:k<s.length),s[k].1=i→(s.map Prod.fst).Nodup→zbf s i c=s.set k (s[k].1,s[k].2+c)
 |x::s,0,_,he,_=>by simp only[List.getElem_cons_zero]at he;unfold zbf;rw[aA (by rw[he];exact zym i)];rfl
 |x::s,k+1,hk,he,hn=>by
  rw[aD,cH]at hn;simp only[List.getElem_cons_succ]at he;have fP:k<s.length:=by simpa using hk
  unfold zbf;rw[ap λh=>hn.1 (by rw[same_eq _ _ h,←he];exact aC.2 ⟨s[k],ah fP,rfl⟩),zvv fP he hn.2];rfl
theorem zvy{i:IT}{c:Nat}:∀ {s:List (IT × Nat)},(∀ p∈s,p.1≠i)→zbf s i c=s++[(i,c)]
 |[],_=>rfl
 |x::s,h=>by unfold zbf;rw[ap λhe=>h x aO (same_eq _ _ he),zvy λp hp=>h p (aU _ hp)];rfl
def zaN(s l:List (IT×Nat)):List (IT×Nat):=l.foldl (λs p=>zbf s p.1 p.2) s
theorem zv8(s:List (IT×Nat)):zaN s []=s:=rfl
theorem zFl(s l:List (IT×Nat))(p:IT×Nat):zaN s (l++[p])=zbf (zaN s l) p.1 p.2:=by simp[zaN]
theorem zFk(s a b:List (IT×Nat)):zaN s (a++b)=zaN (zaN s a) b:=by simp[zaN]
theorem zgb(g:IT→Nat):∀ (l s:List (IT × Nat)),zah g (zaN s l)=zah g s+zah g l
 |[],s=>by simp[zaN]
 |p::l,s=>by have:=zgb g l (zbf s p.1 p.2);rw[zow]at this;show zah g (zaN (zbf s p.1 p.2) l)=_;rw[this,zaW];omega
theorem zga:∀ (l s:List (IT × Nat)),(s.map Prod.fst).Nodup→((zaN s l).map Prod.fst).Nodup
 |[],s,h=>h
 |p::l,s,h=>zga l _ (zvx h)
theorem zi9:∀ (l s:List (IT × Nat)),(∀ q∈s,0<q.2)→(∀ q∈l,0<q.2)→∀ p∈zaN s l,0<p.2∧((∃ q∈s,q.1=p.1)∨∃ q∈l,q.1=p.1)
 |[],s,hs,_,p,hp=>⟨hs p hp,.inl ⟨p,hp,rfl⟩⟩
 |x::l,s,hs,hl,p,hp=>by
  have hx:=hl x aO;obtain⟨h1,h2⟩:=zi9 l (zbf s x.1 x.2) (λq hq=>(zg7 hq).elim (λh=>bg hx h.2) (hs q)) (λq hq=>hl q (aU _ hq)) p hp;refine⟨h1,?_⟩;rcases h2 with ⟨q,hq,he⟩|⟨q,hq,he⟩
  ·rcases zg7 hq with ⟨h,_⟩ | h
   ·exact .inr ⟨x,aO,by rw[←he,h]⟩
   ·exact .inl ⟨q,h,he⟩
  ·exact .inr ⟨q,aU _ hq,he⟩
theorem zER{dU:List Dat}{t:VT}{d:Nat}{s r L:List (IT×Nat)}(hr:r.Perm (ofD dU t s d))(hso:r.Pairwise λp q=>¬IT.cmp q.1 p.1<0)(hn:(s.map Prod.fst).Nodup)(hs:∀p∈s,0<p.2)(hL:Asc L)(jg:∀p∈L,0<p.2)(gy:∀g:IT→Nat,zah g s=zah g L):r=ofD dU t L d:=by
 have pF:(r.map Prod.fst).Nodup:=((hr.map Prod.fst).nodup_iff).2 (hn.sublist ((List.filter_sublist).map _));have hasc:Asc r:=by
  unfold List.Nodup at pF;rw[List.pairwise_map]at pF;refine(hso.and pF).imp λ{p q} h=>?_;have h0:=IT.cmp_anti p.1 q.1;by_cases h1:IT.cmp p.1 q.1=0
  ·exact absurd (zoJ h1) h.2
  ·omega
 refine zhc hasc (hL.sublist List.filter_sublist) (λp hp=>hs p (cq.1 (hr.subset hp)).1) (λp hp=>jg p (cq.1 hp).1) λg=>?_;rw[zI6 g hr];have h1:=zkx g (λx=>rdV dU x t == (d:Int)) s;have h2:=zkx g (λx=>rdV dU x t == (d:Int)) L;unfold ofD;rw[h1,h2,gy]
theorem zji(dU:List Dat)(f:Nat)(t:VT)(i j:IT):Asc (zbE dU f t i j):=by
 have h0:Asc ([]:List (IT×Nat)):=List.Pairwise.nil;cases f with
 |zero=>rw[zbE];exact h0
 |succ f=>
  rw[zbE];split
  ·exact zg5 _ _ h0
  ·split
   ·exact zg5 _ _ h0
   ·split
    ·exact zg5 _ _ h0
    ·exact dx _ _
end Go.Proofs.YtdmamdnkcefmmaaGreatDoor
