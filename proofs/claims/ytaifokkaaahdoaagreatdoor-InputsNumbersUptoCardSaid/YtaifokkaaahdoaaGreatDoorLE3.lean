import Derived.Test.YtaifokkaaahdoaaGreatDoorKZ2
import Derived.Test.YtaifokkaaahdoaaGreatDoorKGF11
import Derived.Test.YtaifokkaaahdoaaGreatDoorKGL2
import Derived.Test.YtaifokkaaahdoaaGreatDoorLA1
set_option linter.unusedSimpArgs false
set_option linter.unusedVariables false
set_option linter.unusedSectionVars false
set_option maxRecDepth 8000
namespace Go.Proofs.YtaifokkaaahdoaaGreatDoor
theorem zrX(O:List Nat)(i x:Nat)(h:i<O.length):List.take i (us O)++AV.int .u32 (x:Int)::List.drop (i+1) (us O)=us (O.set i x):=by rw[←zrW O i x h];simp
theorem zy9{O:List Nat}(hO:∀x∈O,x<1000000000){i x:Nat}(hx:x<1000000000):∀y∈O.set i x,y<1000000000:=by
 intro y hy;rcases bA hy with hy|rfl
 ·exact hO y hy
 ·exact hx
theorem zDQ(A B:List Nat)(lA:∀ x∈A,x<1000000000)(lB:∀ x∈B,x<1000000000)(ha:A.length≤1000)(hb:B.length≤A.length)(hle:zao B≤zao A)(H:zaa)(K:Kt)(hK:K (.sl (zal (lim (zao A-zao B))) .none) H):
  ACalls tP zhe [.sl (zal A) .none,.sl (zal B) .none] H K:=by
 refine ACalls.out (zTN λhs=>?_);simp[zDO,za9];rw[zlv];refine⟨⟨by omega,by omega⟩,?_⟩;have hsc:∀O:List Nat,HSc (H++[.cells (us O)]):=λO=>hs.append (by simp[AB.sc,us,AV.scA,AV.scB]);have tk:∀i,zao (B.take (i+1))=zao (B.take i)+(if h:i<B.length then B[i] else 0)*1000000000 ^ i:=by
  intro i;by_cases h:i<B.length
  ·rw[dE h,zdd B i h]
  ·rw[dy h,ak (by omega),ak (by omega)];simp
 refine zTL (Inv:=λq t6 t7 H'=>∃ (i w:Nat) (O:List Nat),i≤A.length∧A.length-i=q∧t7=.int .i64 i∧t6=.int .u32 w∧w≤1∧O.length=A.length∧(∀ x∈O,x<1000000000) ∧
  zao (O.take i)+zao (B.take i)=zao (A.take i)+w*1000000000 ^ i∧H'=H++[.cells (us O)]) A.length ?_ ?_
 ·intro _;exact⟨0,0,_,by omega,rfl,rfl,rfl,by omega,by simp,by simp,by simp[zao],rfl⟩
 ·rintro q t6 t7 H' ⟨i,w,O,hi,rfl,rfl,rfl,hw,hOl,hO,hv,rfl⟩ hsc' hlen hsF Kb hKb;by_cases hlt:i<A.length
  ·have hxa:=lA A[i] (ae hlt);have hOi:i<O.length:=by omega
   have hstep:∀ s:Nat,s≤1000000000→s=w+(if h:i<B.length then B[i] else 0) →
     zjk (.sl (zal A) .none) (.sl (zal B) .none) (.ms H.length 0 A.length A.length) (.int .i64 i) (.int .u32 s) (H++[.cells (us O)]) (Out H.length K) Kb:=by
    intro s hs1 hs2;have hpw:1000000000 ^ (i+1)=1000000000 ^ i*1000000000:=Nat.pow_succ ..;have fin:∀ (x w':Nat),x<1000000000→w'≤1→x+s=A[i]+w'*1000000000 →
      Kb (zjj (.sl (zal A) .none) (.sl (zal B) .none) (.ms H.length 0 A.length A.length) (.int .u32 w') (.int .i64 ((i:Int)+1))) (H++[.cells (us (O.set i x))]):=by
     intro x w' hx hw' he;refine hKb _ _ ⟨A.length-(i+1),by omega,Back.here (by simp) (hsc _) (by simp[zjj,ux,AV.sc,AV.scA,AV.scB,AV.scV]) ⟨_,_,rfl,i+1,w',O.set i x,by omega,rfl,by simp,rfl,hw',by simp[hOl],zy9 hO hx,?_,rfl⟩⟩;rw[zdd (O.set i x) i (by simpa using hOi),tk i,zdd A i hlt,List.take_set_of_le (Nat.le_refl _),List.getElem_set_self,hpw];generalize (if h:i<B.length then B[i] else 0)=b at *;grind
    by_cases hge:s≤A[i]
    ·have w1:IntKind.u32.wrap (((A[i]:Nat):Int)-(s:Int))=((A[i]-s:Nat):Int):=by rw[←Int.natCast_sub hge];exact zcz (by omega)
     obtain⟨x,hx⟩:∃x,x=A[i]-s:=⟨_,rfl⟩;rw[←hx]at w1;have:=fin x 0 (by omega) (by omega) (by omega);simp only[zjk,znZ,zuA];simp[hlt,hge,w1,wi i (by omega),zrX O i x hOi,hOl];exact⟨by omega,by simpa using this⟩
    ·have w1:IntKind.u32.wrap (((A[i]:Nat):Int)+1000000000)=((A[i]+1000000000:Nat):Int):=by rw[show ((A[i]:Nat):Int)+1000000000=((A[i]+1000000000:Nat):Int) by omega];exact zcz (by omega)
     obtain⟨x,hx⟩:∃x,x=A[i]+1000000000-s:=⟨_,rfl⟩;have w2:IntKind.u32.wrap (((A[i]:Nat):Int)+1000000000-(s:Int))=(x:Int):=by rw[show ((A[i]:Nat):Int)+1000000000-(s:Int)=(x:Int) by omega];exact zcz (by omega)
     have:=fin x 1 (by omega) (by omega) (by omega);simp only[zjk,znZ,zuA];simp[hlt,hge,w1,w2,wi i (by omega),zrX O i x hOi,hOl];exact⟨by omega,by simpa using this⟩
   by_cases hB:i<B.length
   ·have hxb:=lB B[i] (ae hB);obtain⟨s,hs1⟩:∃ s,s=w+B[i]:=⟨_,rfl⟩;have w1:IntKind.u32.wrap ((w:Int)+(B[i]:Nat))=(s:Int):=by rw[hs1,←Int.natCast_add];exact zcz (by omega)
    have:=hstep s (by omega) (by rw[hs1,dE hB]);simp[znY,hlt,hB,w1];exact this
   ·have:=hstep w (by omega) (by rw[dy hB];rfl);simp[znY,hlt,hB];exact this
  ·obtain rfl:i=A.length:=by omega
   rw[aw,ak (by omega),ak (by omega)]at hv;have hOlt:=zec O hO;rw[hOl]at hOlt;have hw0:w=0:=by
    refine cG λh=>?_;have:w=1:=by omega
    subst this;omega
   subst hw0;simp[znY];rw[←hOl];refine zpx O hO (by omega) (by simp) ?_;rw[show zao O=zao A-zao B by omega];simp;exact Out.one hs (.atom (.sl _ _)) rfl rfl hK
theorem zMW(A:List Nat)(lA:∀ x∈A,x<1000000000)(ha:A.length≤1000)(d:Nat)(hd0:0<d)(hd:d<4294967296)(hdB:d≤1000000000)(H:zaa)(K:Kt)(hK:K (.tup [.sl (zal (lim (zao A / d))) .none,.int .u64 ((zao A % d:Nat):Int)]) H):
  ACalls tP zqj [.sl (zal A) .none,.int .u64 d] H K:=by
 refine ACalls.out (zMU λhs=>?_);have hst:IntKind.i64.wrap ((A.length:Int)-1)=(A.length:Int)-1:=zaz (by omega) (by omega);simp[zA4,za9,hst];rw[zlv];refine⟨⟨by omega,by omega⟩,?_⟩;have hsc:∀ O:List Nat,HSc (H++[.cells (us O)]):=λO=>hs.append (by simp[AB.sc,us,AV.scA,AV.scB]);refine zMS (Inv:=λq t7 t8 H'=>∃ (i r:Nat) (O:List Nat),i≤A.length∧i=q∧t8=.int .i64 ((i:Int)-1)∧t7=.int .u64 r∧r<d∧O.length=A.length∧(∀ x∈O,x<1000000000) ∧
  zao (A.drop i)=d*zao (O.drop i)+r∧H'=H++[.cells (us O)]) A.length ?_ ?_
 ·intro _;exact⟨A.length,0,_,by omega,rfl,rfl,rfl,by omega,by simp,by simp,by simp[zao],rfl⟩
 ·rintro q t7 t8 H' ⟨i,r,O,hi,rfl,rfl,rfl,hr,hOl,hO,hv,rfl⟩ hsc' hlen hsF Kb hKb;by_cases h0:i=0
  ·subst h0;simp[zsK];rw[aU,aU]at hv;rw[←hOl];refine zpx O hO (by omega) (by simp) ?_;have e1:zao A / d=zao O:=by rw[hv,dt hd0,ce hr];simp
   have e2:zao A % d=r:=by rw[hv,dw,ci hr]
   rw[e1,e2]at hK;simp;exact⟨⟨rfl,rfl⟩,Out.tup (bs:=[.sl (zal (lim (zao O))) .none,.int .u64 (r:Int)]) hs hK ⟨slV,zbN rfl rfl,trivial⟩⟩
  ·obtain⟨j,rfl⟩:∃ j,i=j+1:=⟨i-1,by omega⟩;have hja:j<A.length:=by omega
   have hjO:j<O.length:=by omega
   have hxa:=lA A[j] (ae hja);have ej:((j+1:Nat):Int)-1=(j:Int):=by omega
   have hstep:IntKind.i64.wrap ((j:Int)-1)=(j:Int)-1:=zaz (by omega) (by omega);have hrB:r*1000000000≤1000000000*1000000000:=aq _ (by omega);obtain⟨m,hm⟩:∃m,m=r*1000000000:=⟨_,rfl⟩;have w1:IntKind.u64.wrap ((r:Int)*1000000000)=(m:Int):=by rw[show (r:Int)*1000000000=(m:Int) by omega];exact zbF (by omega)
   have w2:IntKind.u64.wrap ((A[j]:Nat):Int)=A[j]:=zbF (by omega);obtain⟨s,hs1⟩:∃s,s=m+A[j]:=⟨_,rfl⟩;have w3:IntKind.u64.wrap ((m:Int)+(A[j]:Nat))=(s:Int):=by rw[hs1,←Int.natCast_add];exact zbF (by omega)
   obtain⟨x,c,hx1,hx2,e1,e2⟩:=zGW s d hd0 (by omega);have hcB:c<1000000000:=by
    refine cw λh=>?_;have h1:d*1000000000≤d*c:=bu _ h;have h2:r*1000000000+1000000000≤d*1000000000:=by rw[←cp];exact aq _ hr
    omega
   have w4:IntKind.u32.wrap (c:Int)=c:=zcz (by omega);rw[ej];simp only[zsK];simp[hja,w1,w2,w3,e1,e2,w4,hstep,zrX O j c hjO,hOl];refine⟨by omega,hKb _ _ ⟨j,by omega,Back.here (by simp) (hsc _) (by simp[zmg,ux,AV.sc,AV.scA,AV.scB,AV.scV]) ⟨_,_,rfl,j,x,O.set j c,by omega,rfl,rfl,rfl,hx1,by simp[hOl],zy9 hO hcB,?_,rfl⟩⟩⟩;rw[zxR A j hja,zxR (O.set j c) j (by simpa using hjO),List.getElem_set_self,List.drop_set_of_lt (by omega),hv];rw[hs1,hm]at hx2;generalize zao (O.drop (j+1))=Z at *;grind
theorem zvB(a b:Nat)(ha:(lim a).length≤1000)(hb0:0<b)(hb:b<1000000000)(H:zaa)(K:Kt)(hK:K (.tup [.sl (zal (lim (a / b))) .none,.sl (zal (lim (a % b))) .none]) H):
  ACalls tP ziF [.sl (zal (lim a)) .none,.sl (zal (lim b)) .none] H K:=by
 refine ACalls.out (zWP λhs=>?_);have hlb:lim b=[b]:=zg4 (by omega) hb;simp only[zEZ];refine zuy a b ha (by rw[hlb];simp) _ _ ?_;have hcz:(zbm a b<0)↔a<b:=by
  unfold zbm;split
  ·simp;assumption
  ·split <;> simp <;> omega
 by_cases hlt:a<b
 ·simp[hcz,hlt];refine zvD (lim a) (by omega) _ _ ?_;rw[zgh _ (zbD a),zbd];rw[ce hlt,ci hlt,zxH]at hK;refine⟨⟨rfl,rfl⟩,?_⟩;exact Out.tup0 (bs:=[.sl (zal []) .none,.sl (zal (lim a)) .none]) hs hK ⟨zhu,slV,trivial⟩
 ·have w1:IntKind.u64.wrap (b:Int)=b:=zbF (by omega);have hm:a % b<b:=cI _ hb0;simp[hcz,hlt,hlb,w1];refine zMW (lim a) (zbD a) ha b hb0 (by omega) (by omega) _ _ ?_;rw[zbd];simp;refine zDE (a % b) (by omega) _ _ ?_;refine⟨⟨rfl,rfl⟩,?_⟩;exact Out.tup0 (bs:=[.sl (zal (lim (a / b))) .none,.sl (zal (lim (a % b))) .none]) hs hK ⟨slV,slV,trivial⟩
theorem zWK(a b:Nat)(ha:(lim a).length≤1000)(hb:b<1000000000)(H:zaa)(K:Kt)(hK:K (.sl (zal (lim (Nat.gcd a b))) .none) H):
  ACalls tP zqY [.sl (zal (lim a)) .none,.sl (zal (lim b)) .none] H K:=by
 refine ACalls.out (zWI λhs=>?_);unfold zEX;refine zWG (Inv:=λq t0 t1 H'=>∃x y:Nat,y=q∧t0=.sl (zal (lim x)) .none∧t1=.sl (zal (lim y)) .none∧(lim x).length≤1000∧y<1000000000∧Nat.gcd x y=Nat.gcd a b∧H'=H) b ?_ ?_
 ·intro _;exact⟨a,b,rfl,rfl,rfl,ha,hb,rfl,rfl⟩
 ·rintro q t0 t1 H' ⟨x,y,rfl,rfl,rfl,hx,hy,hg,rfl⟩ hsc' hlen hsF Kb hKb;by_cases h0:y=0
  ·subst h0;rw[Nat.gcd_zero_right]at hg;subst hg;simp[zvy];exact Out.one0 hs (.atom (.sl _ _)) rfl rfl hK
  ·have hly:lim y=[y]:=zg4 h0 hy;have hm:x % y<y:=cI _ (by omega);simp[zvy,show 0<(lim y).length by rw[hly];simp];refine zvB x y hx (by omega) hy _ _ ?_;simp;refine hKb _ _ ⟨x % y,hm,Back.here (by simp) hs (by simp[zoN,ux,AV.sc,AV.scA,AV.scB,AV.scV]) ⟨_,_,rfl,y,x % y,rfl,rfl,rfl,by rw[hly];simp,by omega,?_,rfl⟩⟩;rw[←hg,Nat.gcd_comm x y,Nat.gcd_rec y x,Nat.gcd_comm]
def zaq(z:Int):List AV:=[.bool (decide (z<0)),.sl (zal (lim z.natAbs)) .none,.sl (zal [1]) .none]
theorem zTf(neg:Bool)(N D:List Nat)(hN:∀ x∈N,x<4294967296)(hD:∀ x∈D,x<4294967296)(hNl:N.length≤10000)(hDl:D.length≤10000)(n:Nat)(hnl:(lim n).length≤900)(d:Nat)(hd0:0<d)(hd:d<1000000000)(hn:zao N=n*d)(hdv:zao D=d)(H:zaa)(K:Kt)(hK:K (.agg (zaq (if neg then -(n:Int) else n))) H):
  ACalls tP zde [.bool neg,.sl (zal N) .none,.sl (zal D) .none] H K:=by
 refine ACalls.out (zDC λhs=>?_);have hld:lim d=[d]:=zg4 (by omega) hd;simp[zup];refine zoL N hN (by omega) _ _ ?_;refine zoL D hD (by omega) _ _ ?_;rw[hn,hdv];have hnd:(lim (n*d)).length≤1000:=by
  have h1:=zec (lim n) (zbD n);rw[zbd]at h1;have h2:n*d<1000000000 ^ ((lim n).length+1):=by rw[Nat.pow_succ];exact cN h1 hd
  have:=zcc h2;omega
 by_cases h0:n=0
 ·subst h0;have e0:(if neg=true then -((0:Nat):Int) else ((0:Nat):Int))=0:=by cases neg <;> rfl
  rw[e0]at hK;simp[zau,za4,plain,AV.pd,zar,zaL,zdc];have e1:zaq 0=[.bool false,.sl [] .none,.sl [[.int .u32 1]] .none]:=by simp[zaq,zal]
  rw[e1]at hK;exact Out.one hs (WkV.agg (ds:=[.bool false,.sl [] .none,.sl [[.int .u32 1]] .none]) ⟨.refl _,.snil,.sl _ _,trivial⟩) rfl (by simp[AV.scV,AV.scA,AV.scB]) hK
 ·have hpos:0<(lim (n*d)).length:=by rw[zcu (Nat.mul_ne_zero h0 (by omega))];simp
  have hg:Nat.gcd (n*d) d=d:=Nat.gcd_eq_right (Nat.dvd_mul_left d n);have hb0:(((lim (n*d)).length:Int) == 0)=false:=by generalize (lim (n*d)).length=q at hpos;simp;omega
  have hfin:znI (.bool neg) (.sl (zal (lim n)) .none) (.sl (zal [1]) .none) (.ptr H.length 0) (H++[.cells [.bool false,.snil,.snil]]) (Out H.length K):=by
   simp[znI,zar,zaL,zdc];have e1:zaq (if neg=true then -(n:Int) else n)=[.bool neg,.sl (zal (lim n)) .none,.sl (zal [1]) .none]:=by
    cases neg
    ·simp[zaq]
    ·simp[zaq];omega
   rw[e1]at hK;exact Out.one hs (WkV.agg (ds:=[.bool neg,.sl (zal (lim n)) .none,.sl (zal [1]) .none]) ⟨.refl _,.sl _ _,.sl _ _,trivial⟩) rfl (by simp[AV.scV,AV.scA,AV.scB]) hK
  simp[hb0,hld];rw[show ([d]:List Nat)=lim d from hld.symm];refine zWK (n*d) d hnd hd _ _ ?_;rw[hg,hld];by_cases hd1:d=1
  ·subst hd1;simp;simpa using hfin
  ·have hne:((d:Int) != 1)=true:=by simp;omega
   simp[hne];rw[show ([d]:List Nat)=lim d from hld.symm];refine zvB (n*d) d hnd hd0 hd _ _ ?_;simp;refine zvB d d (by rw[hld];simp) hd0 hd _ _ ?_;rw[Nat.div_self hd0,Nat.mul_div_cancel _ hd0,show lim 1=[1] from zg4 (by omega) (by omega)];simp;exact hfin
def Sm(z:Int):Prop:=z.natAbs<1000000000 ^ 30
theorem Sm.len{z:Int}(h:Sm z):(lim z.natAbs).length≤30:=zcc h
theorem zfm:lim 1=[1]:=zg4 (by omega) (by omega)
theorem zpY(n:Nat):∀x∈lim n,x<4294967296:=λx hx=>by have:=zbD n x hx;omega
@[simp] theorem yaI(z:Int):(zaq z).length=3:=rfl
@[simp] theorem zyN(z:Int):(zaq z).all AV.known=true:=rfl
theorem zbV{H J:zaa}{K:Kt}{z:Int}(hs:HSc H)(hK:K (.agg (zaq z)) H):Out H.length K (.agg (zaq z)) (H++J):=Out.one hs .rfl' rfl rfl hK
theorem zF8(neg:Bool)(n d:Nat)(hn:n*d<1000000000 ^ 100)(hd0:0<d)(hd:d<1000000000){z:Int}(hz:(if neg=true then -(n:Int) else n)=z)(H:zaa)(K:Kt)(hK:K (.agg (zaq z)) H):
  ACalls tP zde [.bool neg,.sl (zal (lim (n*d))) .none,.sl (zal (lim d)) .none] H K:=by
 subst hz;have h1:=zcc hn;have h2:n<1000000000 ^ 100:=ck (bF n hd0) hn;have h3:=zcc h2;exact zTf neg _ _ (zpY _) (zpY _) (by omega) (by rw[zg4 (by omega) hd];simp) n (by omega) d hd0 hd (zbd _) (zbd _) H K hK
theorem zd5(neg:Bool)(n:Nat)(hn:n<1000000000 ^ 100){z:Int}(hz:(if neg=true then -(n:Int) else n)=z)(H:zaa)(K:Kt)(hK:K (.agg (zaq z)) H):
  ACalls tP zde [.bool neg,.sl (zal (lim n)) .none,.sl (zal [1]) .none] H K:=by
 have:=zF8 neg n 1 (by simpa using hn) (by omega) (by omega) hz H K hK;rwa [zfm,bK]at this
theorem zwo:(1000000000:Nat) ^ 30≤1000000000 ^ 100:=a8 (by omega) (by omega)
theorem zx0{a b:Nat}(ha:a<1000000000 ^ 30)(hb:b<1000000000 ^ 30):a*b<1000000000 ^ 100:=by have:=cN ha hb;rw[←cq]at this;exact a7 this (a8 (by omega) (by omega))
theorem zhC(n:Nat)(hn:n<9223372036854775808)(H:zaa)(K:Kt)(hK:K (.agg (zaq n)) H):ACalls tP zf4 [.int .i64 n] H K:=by
 refine ACalls.out (zQe λhs=>?_);have w1:IntKind.u64.wrap (n:Int)=n:=zbF (by omega);have h0:¬((n:Int)<0):=by omega
 simp[zCi,h0,w1];refine zDE n (by omega) _ _ ?_;simp[zau,za4,plain,AV.pd];refine ACalls.wk (args':=[.bool false,.sl (zal (lim n)) .none,.sl (zal [1]) .none]) (zd5 false n (by omega) (z:=n) (by simp) _ _ ?_) ⟨.rfl',.rfl',.atom (.sl _ _),trivial⟩;simp[zyN];exact zbV hs hK
theorem zhL(z:Int)(hz:Sm z)(H:zaa)(K:Kt)(hK:K (.agg (zaq z)) H):ACalls tP zfq [.agg (zaq z)] H K:=by refine ACalls.out (zDF λhs=>?_);simp[zus,zaq];refine zd5 _ _ (a7 hz zwo) (z:=z) (by split <;> simp_all <;> omega) _ _ ?_;simp;exact zbV hs hK
theorem zVD(z:Int)(hz:Sm z)(H:zaa)(K:Kt)(hK:K (.agg (zaq (-z))) H):ACalls tP zkP [.agg (zaq z)] H K:=by refine ACalls.out (zEx λhs=>?_);simp[zva,zaq];refine zd5 _ _ (a7 hz zwo) (z:=-z) (by split <;> simp_all <;> omega) _ _ ?_;simp;exact zbV hs hK
theorem znv(z:Int)(hz:Sm z)(H:zaa)(K:Kt)(hK:K (.int .i64 z.sign) H):ACalls tP ziv [.agg (zaq z)] H K:=by
 refine ACalls.out (zSy λhs=>?_);simp[zDg,zaq];refine zhL z hz _ _ ?_;simp[zaq];by_cases h0:z=0
 ·subst h0;simp;exact Out.int (J:=_) rfl (aa _) hs hK
 ·have hp:0<(lim z.natAbs).length:=by rw[zcu (by omega)];simp
  have hb:(((lim z.natAbs).length:Int) == 0)=false:=by generalize (lim z.natAbs).length=q at hp;simp;omega
  simp[hb];by_cases hn:z<0
  ·simp[hn];rw[Int.sign_eq_neg_one_of_neg hn]at hK;exact Out.int (J:=_) rfl (aa _) hs hK
  ·simp[hn];rw[cF (by omega)]at hK;exact Out.int (J:=_) rfl (aa _) hs hK
theorem zp9(a b:Nat)(ha:a<1000000000 ^ 30)(hb:b<1000000000 ^ 30)(H:zaa)(K:Kt)(hK:K (.sl (zal (lim (a*b))) .none) H):ACalls tP zee [.sl (zal (lim a)) .none,.sl (zal (lim b)) .none] H K:=by have h1:=zcc ha;have h2:=zcc hb;refine zTw (lim a) (lim b) (zbD a) (zbD b) (by omega) (by omega) _ _ ?_;rw[zbd,zbd];exact hK
theorem zhj:(1:Nat)<1000000000 ^ 30:=by decide
theorem zp7(H:zaa)(K:Kt)(hK:K (.sl (zal [1]) .none) H):ACalls tP zee [.sl (zal [1]) .none,.sl (zal [1]) .none] H K:=by have:=zp9 1 1 zhj zhj H K (by rw[bK,zfm];exact hK);rwa [zfm]at this
theorem zkd(a:Nat)(ha:a<1000000000 ^ 30)(H:zaa)(K:Kt)(hK:K (.sl (zal (lim a)) .none) H):ACalls tP zee [.sl (zal (lim a)) .none,.sl (zal [1]) .none] H K:=by have:=zp9 a 1 ha zhj H K (by rw[bK];exact hK);rwa [zfm]at this
theorem zI3(a b:Int):(if (decide (a<0) != decide (b<0))=true then -((a.natAbs*b.natAbs:Nat):Int) else ((a.natAbs*b.natAbs:Nat):Int))=a*b:=by
 rw[←Int.natAbs_mul];by_cases ha:a<0 <;> by_cases hb:b<0 <;> simp[ha,hb]
 ·have:=Int.mul_pos_of_neg_of_neg ha hb;omega
 ·have:=Int.mul_nonpos_of_nonpos_of_nonneg (Int.le_of_lt ha) (by omega:0≤b);omega
 ·have:=Int.mul_nonpos_of_nonneg_of_nonpos (by omega:0≤a) (Int.le_of_lt hb);omega
 ·have:=Int.mul_nonneg (by omega:0≤a) (by omega:0≤b);omega
theorem zCC(a b:Int)(ha:Sm a)(hb:Sm b)(H:zaa)(K:Kt)(hK:K (.agg (zaq (a*b))) H):ACalls tP zkt [.agg (zaq a),.agg (zaq b)] H K:=by refine ACalls.out (zQF λhs=>?_);simp[zCs,zaq,ag];refine zaC (.agg (zaq a)) (λJ=>zhL a ha _ _ ⟨rfl,rfl⟩) ?_;refine zaC (.agg (zaq b)) (λJ=>zhL b hb _ _ ⟨rfl,rfl⟩) ?_;simp[zaq,AV.known,ag];refine zaC (.sl (zal (lim (a.natAbs*b.natAbs))) .none) (λJ=>zp9 _ _ ha hb _ _ ⟨rfl,rfl⟩) ?_;refine zaC (.sl (zal [1]) .none) (λJ=>zp7 _ _ ⟨rfl,rfl⟩) ?_;refine zaC (.agg (zaq (a*b))) (λJ=>zd5 _ _ (zx0 ha hb) (zI3 a b) _ _ ⟨rfl,rfl⟩) ?_;simp[ag];exact zbV hs hK
theorem zm2(a b:Int)(ha:Sm a)(hb:Sm b)(H:zaa)(K:Kt)(hK:K (.agg (zaq (a+b))) H):ACalls tP zf5 [.agg (zaq a),.agg (zaq b)] H K:=by
 refine ACalls.out (zCr λhs=>?_);have la:=ha.len;have lb:=hb.len;simp[ztF,zaq,ag];refine zaC (.agg (zaq a)) (λJ=>zhL a ha _ _ ⟨rfl,rfl⟩) ?_;refine zaC (.agg (zaq b)) (λJ=>zhL b hb _ _ ⟨rfl,rfl⟩) ?_;simp[zaq,AV.known,ag];refine zaC (.sl (zal (lim a.natAbs)) .none) (λJ=>zkd _ ha _ _ ⟨rfl,rfl⟩) ?_;refine zaC (.sl (zal (lim b.natAbs)) .none) (λJ=>zkd _ hb _ _ ⟨rfl,rfl⟩) ?_;refine zp7 _ _ ?_;simp[ag];have hbig:∀n:Nat,n≤a.natAbs+b.natAbs→n<1000000000 ^ 100:=by
  intro n hn;have h1:(1000000000:Nat) ^ 30+1000000000 ^ 30≤1000000000 ^ 100:=by decide
  unfold Sm at ha hb;omega
 have hsub:∀x y:Int,Sm x→Sm y→y.natAbs≤x.natAbs→∀(H:zaa) (K:Kt),K (.sl (zal (lim (x.natAbs-y.natAbs))) .none) H→ACalls tP zhe [.sl (zal (lim x.natAbs)) .none,.sl (zal (lim y.natAbs)) .none] H K:=by intro x y hx hy hxy H K hK;refine zDQ (lim x.natAbs) (lim y.natAbs) (zbD _) (zbD _) (by have:=hx.len;omega) ?_ (by rw[zbd,zbd];exact hxy) _ _ (by rw[zbd,zbd];exact hK);refine cx λh=>?_;have:=zg6 h;omega
 by_cases hsg:decide (a<0)=decide (b<0)
 ·have hsg':(decide (a<0) == decide (b<0))=true:=by simpa using hsg
  simp[hsg',ag];refine zaC (.sl (zal (lim (a.natAbs+b.natAbs))) .none) (λJ=>zDM _ _ (zbD _) (zbD _) (by omega) (by omega) _ _ (by rw[zbd]) (by rw[zbd]) (by rw[zbd,zbd];exact⟨rfl,rfl⟩)) ?_;refine zaC (.agg (zaq (a+b))) (λJ=>zd5 _ _ (hbig _ (aa _)) (by
   by_cases h1:a<0 <;> by_cases h2:b<0 <;> simp[h1,h2]at hsg ⊢ <;> omega) _ _ ⟨rfl,rfl⟩) ?_
  simp[ag];exact zbV hs hK
 ·have hsg':(decide (a<0) == decide (b<0))=false:=by simpa using hsg
  simp[hsg',ag];refine zuy _ _ (by omega) (by omega) _ _ ?_;have hcz:(0≤zbm a.natAbs b.natAbs)↔b.natAbs≤a.natAbs:=by
   unfold zbm;split
   ·simp;omega
   ·split <;> simp <;> omega
  by_cases hle:b.natAbs≤a.natAbs
  ·simp[hcz,hle,ag];refine zaC (.sl (zal (lim (a.natAbs-b.natAbs))) .none) (λJ=>hsub a b ha hb hle _ _ ⟨rfl,rfl⟩) ?_;refine zaC (.agg (zaq (a+b))) (λJ=>zd5 _ _ (hbig _ (by omega)) (by
    by_cases h1:a<0 <;> by_cases h2:b<0 <;> simp[h1,h2]at hsg ⊢ <;> omega) _ _ ⟨rfl,rfl⟩) ?_
   simp[ag];exact zbV hs hK
  ·simp[hcz,hle,ag];refine zaC (.sl (zal (lim (b.natAbs-a.natAbs))) .none) (λJ=>hsub b a hb ha (by omega) _ _ ⟨rfl,rfl⟩) ?_;refine zaC (.agg (zaq (a+b))) (λJ=>zd5 _ _ (hbig _ (by omega)) (by
    by_cases h1:a<0 <;> by_cases h2:b<0 <;> simp[h1,h2]at hsg ⊢ <;> omega) _ _ ⟨rfl,rfl⟩) ?_
   simp[ag];exact zbV hs hK
theorem Sm.neg{z:Int}(h:Sm z):Sm (-z):=by unfold Sm at h ⊢;rwa [Int.natAbs_neg]
theorem zSC(a b:Int)(ha:Sm a)(hb:Sm b)(H:zaa)(K:Kt)(hK:K (.agg (zaq (a-b))) H):ACalls tP zkF [.agg (zaq a),.agg (zaq b)] H K:=by refine ACalls.out (zDh λhs=>?_);simp[zua,zaq,ag];refine zaC (.agg (zaq (-b))) (λJ=>zVD b hb _ _ ⟨rfl,rfl⟩) ?_;refine zaC (.agg (zaq (a-b))) (λJ=>zm2 a (-b) ha hb.neg _ _ ⟨by rw[Int.sub_eq_add_neg],rfl⟩) ?_;simp[ag];exact zbV hs hK
theorem zHq(L:List Nat)(hL:L.length≤100000)(H:zaa)(K:Kt)(hK:K (.bool (decide (L=[1]))) H):ACalls tP zkp [.sl (zal L) .none] H K:=by
 refine ACalls.out (zPl λhs=>?_);have hO:∀b,b=decide (L=[1])→Out H.length K (.bool b) H:=λb hb=>Out.bool (J:=[]) (by simp) (aa _) hs (by rw[hb];exact hK)
 match L with
 |[]=>simp[zmM];exact hO false (by simp)
 |[x]=>
  simp[zmM,zal];refine hO _ ?_;by_cases h:x=1
  ·subst h;rfl
  ·have hb:((x:Int) == 1)=false:=by simp;omega
   rw[hb];simp[h]
 |x::y::l=>
  have hb:((l.length:Int)+1+1 == 1)=false:=by simp;omega
  simp[zmM,hb];exact hO false (by simp)
theorem zHJ(neg:Bool)(n:Nat)(hn:(lim n).length≤1000)(H:zaa)(K:Kt)(hK:K (.agg (zaq (if neg=true then -(n:Int) else n))) H):
  ACalls tP zqd [.agg [.bool neg,.sl (zal (lim n)) .none,.sl (zal [1]) .none]] H K:=by
 refine ACalls.out (zLy λhs=>?_);by_cases h0:n=0
 ·subst h0;have e0:(if neg=true then -((0:Nat):Int) else ((0:Nat):Int))=0:=by cases neg <;> rfl
  have e1:zaq 0=[.bool false,.sl [] .none,.sl [[.int .u32 1]] .none]:=by simp[zaq,zal]
  rw[e0,e1]at hK;simp[zsi,zau,za4,plain,AV.pd,zar,zaL,zdc,ag];exact Out.one hs (WkV.agg (ds:=[.bool false,.sl [] .none,.sl [[.int .u32 1]] .none]) ⟨.refl _,.snil,.sl _ _,trivial⟩) rfl (by simp[AV.scV,AV.scA,AV.scB]) hK
 ·have hp:0<(lim n).length:=by rw[zcu h0];simp
  have hb:(((lim n).length:Int) == 0)=false:=by generalize (lim n).length=q at hp;simp;omega
  have e1:zaq (if neg=true then -(n:Int) else n)=[.bool neg,.sl (zal (lim n)) .none,.sl (zal [1]) .none]:=by
   cases neg
   ·simp[zaq]
   ·simp[zaq];omega
  rw[e1]at hK;simp[zsi,hb,ag];refine zHq [1] (by simp) _ _ ?_;simp[ag];exact Out.one hs (WkV.agg (ds:=[.bool neg,.sl (zal (lim n)) .none,.sl (zal [1]) .none]) ⟨.refl _,.sl _ _,.sl _ _,trivial⟩) rfl (by simp[AV.scV,AV.scA,AV.scB]) hK
theorem zld(neg:Bool)(n:Nat)(hn:(lim n).length≤1000){z:Int}(hz:(if neg=true then -(n:Int) else n)=z)(H:zaa)(K:Kt)(hK:K (.agg (zaq z)) H):
  ACalls tP zhg [.agg [.bool neg,.sl (zal (lim n)) .none,.sl (zal [1]) .none]] H K:=by
 refine ACalls.out (zUX λhs=>?_);simp[zEf,ag];refine zHJ neg n hn _ _ ?_;rw[hz];simp[zaq,zar,zaL,zdc,AV.known,ag];exact zbV hs hK
theorem zHI(z:Int)(hz:(lim z.natAbs).length≤1000)(H:zaa)(K:Kt)(hK:K (.agg (zaq z)) H):ACalls tP zdK [.agg (zaq z)] H K:=by
 refine ACalls.out (zEe λhs=>?_);simp[zuV,zaq,ag];refine zaC (.sl (zal (lim z.natAbs)) .none) (λJ=>zq3 _ (zpY _) (by omega) _ _ (by rw[zbd];exact⟨rfl,rfl⟩)) ?_;refine zaC (.sl (zal [1]) .none) (λJ=>zq3 [1] (by simp) (by simp) _ _ (by simp[zao,zfm])) ?_;by_cases h0:z=0
 ·subst h0;have e1:zaq 0=[.bool false,.sl [] .none,.sl [[.int .u32 1]] .none]:=by simp[zaq,zal]
  rw[e1]at hK;simp[zau,za4,plain,AV.pd,zar,zaL,zdc,ag];exact Out.one hs (WkV.agg (ds:=[.bool false,.sl [] .none,.sl [[.int .u32 1]] .none]) ⟨.refl _,.snil,.sl _ _,trivial⟩) rfl (by simp[AV.scV,AV.scA,AV.scB]) hK
 ·have hp:0<(lim z.natAbs).length:=by rw[zcu (by omega)];simp
  have hb:(((lim z.natAbs).length:Int) == 0)=false:=by generalize (lim z.natAbs).length=q at hp;simp;omega
  simp[hb,zar,zaL,zdc,AV.known,ag];exact zbV hs hK
theorem zHV(n:Nat)(hn:n<9223372036854775808)(H:zaa)(K:Kt)(hK:K (.sl (zal (lim n)) .none) H):ACalls tP zqX [.int .i64 n] H K:=by
 refine ACalls.out (zWd λhs=>?_);have w1:IntKind.u64.wrap (n:Int)=n:=zbF (by omega);have h0:¬((n:Int)<0):=by omega
 simp[zEM,h0,w1];refine zG6 n (by omega) _ _ ?_;exact Out.one0 hs (.atom (.sl _ _)) rfl rfl hK
theorem zfJ(n:Nat)(hn:n<9223372036854775808)(H:zaa)(K:Kt)(hK:K (.agg (zaq n)) H):ACalls tP zfp [.int .i64 n] H K:=by
 refine ACalls.out (zSY λhs=>?_);have h0:decide ((n:Int)<0)=false:=by simp
 have hl:=zcc (n:=n) (k:=3) (by omega);simp[zDu,ag];refine zHV n hn _ _ ?_;simp[h0,zau,za4,plain,AV.pd,zar,zaL,zdc,AV.known,ag];refine ACalls.wk (args':=[.agg [.bool false,.sl (zal (lim n)) .none,.sl (zal [1]) .none]]) (zld false n (by omega) (z:=n) (by simp) _ _ ?_) ⟨.agg ⟨.refl _,.refl _,.sl _ _,trivial⟩,trivial⟩;simp[zyN,ag];exact zbV hs hK
theorem zp8(a b:Nat)(ha:a<1000000000 ^ 30)(hb:b<1000000000 ^ 30)(H:zaa)(K:Kt)(hK:K (.sl (zal (lim (a*b))) .none) H):ACalls tP zcY [.sl (zal (lim a)) .none,.sl (zal (lim b)) .none] H K:=by have h1:=zcc ha;have h2:=zcc hb;refine zHY (lim a) (lim b) (zbD a) (zbD b) (by omega) (by omega) _ _ ?_;rw[zbd,zbd];exact hK
theorem zxZ(H:zaa)(K:Kt)(hK:K (.sl (zal [1]) .none) H):ACalls tP zcY [.sl (zal [1]) .none,.sl (zal [1]) .none] H K:=by have:=zp8 1 1 zhj zhj H K (by rw[bK,zfm];exact hK);rwa [zfm]at this
structure SI where
 p:Nat
 im:Nat
 it:Nat
 ia:Nat
 ic:Nat
 mc:Nat
structure SI.Ok (I:SI):Prop where
 a1:I.p≠I.im
 a2:I.p≠I.it
 a3:I.p≠I.ia
 a4:I.p≠I.ic
 a5:I.p≠I.mc
 b1:I.im≠I.it
 b2:I.im≠I.ia
 b3:I.im≠I.ic
 b4:I.im≠I.mc
 c1:I.it≠I.ia
 c2:I.it≠I.ic
 c3:I.it≠I.mc
 d1:I.ia≠I.ic
 d2:I.ia≠I.mc
 e1:I.ic≠I.mc
structure SS where
 types:List VT
 made:List Bool
 cons:List (List (Int×List Nat))
 cnt:List ((Int×Int)×Option Nat)
def zct(data:List Dat):List VT→Nat→List (List UInt8 × AV)
 |[],_=>[]
 |t::ts,k=>(txt data t,.int .i64 k)::zct data ts (k+1)
def zbX(ws:List (Int×List Nat)):List (List AV):=ws.map λw=>[.int .i64 w.1,.sl (w.2.map λi:Nat=>[AV.int .i64 i]) .none]
def zcq(ws:List (Int×List Nat)):AV:=.sl (zbX ws) .none
def zaj:Option Nat→List AV
 |none=>[.bool false,.snil,.snil]
 |some n=>zaq (n:Int)
theorem zc0(m:Nat)(o:Option Nat):(zaj o).all (AV.scA m)=true:=by
 cases o with
 |none=>rfl
 |some n=>simp[zaj,zaq,AV.scA,AV.scB]
def zdF(l:List ((Int×Int)×Option Nat)):List ((Int×Int)×AV):=l.map λe=>(e.1,.agg (zaj e.2))
def zbQ(ts:List VT):List AV:=(ts.map VT.cs).flatten
section
variable (data:List Dat) (kk:Int) (I:SI)
def za3(S:SS)(x:Nat):Option AB:=
 if x=I.p then some (.cells [.sl (data.map Dat.cs) .none,.int .i64 kk,.map I.im,.ov I.it S.types.length,.ov I.ia S.types.length,.ov I.ic S.types.length,.map I.mc])
 else if x=I.im then some (.map (zct data S.types 0))
 else if x=I.it then some (.vec zbk 3 S.types.length (zbQ S.types))
 else if x=I.ia then some (.vec zfg 1 S.types.length (zaH S.made))
 else if x=I.ic then some (.vec zff 1 S.types.length (S.cons.map zcq))
 else if x=I.mc then some (.mapP (zdF S.cnt)) else none
def shS(S:SS)(H:zaa):zaa:=H.mapIdx λx b=>(za3 data kk I S x).getD b
structure ShS (S:SS) (H:zaa):Prop where
 ok:I.Ok
 at':∀x b,za3 data kk I S x=some b→H[x]?=some b
 ml:S.made.length=S.types.length
 cl:S.cons.length=S.types.length
end
section
variable {data:List Dat} {kk:Int} {I:SI} {S S' S'':SS} {H J:zaa}
theorem zgS(x:Nat):(za3 data kk I S x).isSome=(za3 data kk I S' x).isSome:=by
 unfold za3
 repeat' split
 all_goals rfl
@[simp] theorem zk9:(shS data kk I S H).length=H.length:=by simp[shS]
theorem zcx(x:Nat):(shS data kk I S H)[x]?=(H[x]?).map λb=>(za3 data kk I S x).getD b:=by simp[shS]
theorem ShS.lt(h:ShS data kk I S H){x:Nat}(hx:(za3 data kk I S x).isSome=true):x<H.length:=by obtain⟨b,hb⟩:=Option.isSome_iff_exists.1 hx;exact(List.getElem?_eq_some_iff.1 (h.at' x b hb)).1
theorem ShS.app(h:ShS data kk I S H):ShS data kk I S (H++J):=⟨h.ok,λx b hb=>by
 have:=h.at' x b hb;rw[List.getElem?_append_left (List.getElem?_eq_some_iff.1 this).1];exact this,h.ml,h.cl⟩
theorem ShS.shS_app(h:ShS data kk I S H):shS data kk I S' (H++J)=shS data kk I S' H++J:=by
 apply aI;intro x;by_cases hx:x<H.length
 ·rw[zcx,List.getElem?_append_left hx,List.getElem?_append_left (by simpa using hx),zcx]
 ·rw[zcx,List.getElem?_append_right (by omega),List.getElem?_append_right (by simpa using hx),zk9];have:za3 data kk I S' x=none:=by
   cases hb:za3 data kk I S' x with
   |none=>rfl
   |some b=>have:=h.lt (x:=x) (by rw[zgS (S':=S'),hb];rfl);omega
  rw[this];simp
theorem ShS.next(h:ShS data kk I S H)(hm:S'.made.length=S'.types.length)(hc:S'.cons.length=S'.types.length):ShS data kk I S' (shS data kk I S' H):=⟨h.ok,λx b hb=>by
 have hx:=h.lt (x:=x) (by rw[zgS (S':=S'),hb];rfl);rw[zcx,hb,List.getElem?_eq_getElem hx];rfl,hm,hc⟩
theorem zdh:shS data kk I S' (shS data kk I S H)=shS data kk I S' H:=by
 apply aI;intro x;rw[zcx,zcx,zcx];cases hx:H[x]? with
 |none=>rfl
 |some b=>
  simp only[Option.map_some];cases hb:za3 data kk I S' x with
  |some b'=>rfl
  |none=>
   have:=zgS (data:=data) (kk:=kk) (I:=I) (S:=S) (S':=S') x;rw[hb]at this;cases hb2:za3 data kk I S x with
   |none=>rfl
   |some b2=>rw[hb2]at this;cases this
theorem ShS.self(h:ShS data kk I S H):shS data kk I S H=H:=by
 apply aI;intro x;rw[zcx];cases hb:za3 data kk I S x with
 |none=>cases H[x]? <;> rfl
 |some b=>rw[h.at' x b hb];rfl
theorem ShS.set_one(h:ShS data kk I S H){x:Nat}{b:AB}(hx:za3 data kk I S' x=some b)(hy:∀y,y≠x→za3 data kk I S' y=za3 data kk I S y):H.set x b=shS data kk I S' H:=by
 have hl:=h.lt (x:=x) (by rw[zgS (S':=S'),hx];rfl);apply aI;intro y;rw[zcx];by_cases e:x=y
 ·subst e;rw[List.getElem?_set_self hl,hx,List.getElem?_eq_getElem hl];rfl
 ·rw[List.getElem?_set_ne e,hy y (λk=>e k.symm)];cases hb:za3 data kk I S y with
  |none=>cases H[y]? <;> rfl
  |some b'=>rw[h.at' y b' hb];rfl
theorem ShS.hp(h:ShS data kk I S H):H[I.p]?=some (.cells [.sl (data.map Dat.cs) .none,.int .i64 kk,.map I.im,.ov I.it S.types.length,.ov I.ia S.types.length,.ov I.ic S.types.length,.map I.mc]):=h.at' _ _ (by simp[za3])
theorem ShS.him(h:ShS data kk I S H):H[I.im]?=some (.map (zct data S.types 0)):=h.at' _ _ (by simp[za3,h.ok.a1.symm])
theorem ShS.hit(h:ShS data kk I S H):H[I.it]?=some (.vec zbk 3 S.types.length (zbQ S.types)):=h.at' _ _ (by simp[za3,h.ok.a2.symm,h.ok.b1.symm])
theorem ShS.hia(h:ShS data kk I S H):H[I.ia]?=some (.vec zfg 1 S.types.length (zaH S.made)):=h.at' _ _ (by simp[za3,h.ok.a3.symm,h.ok.b2.symm,h.ok.c1.symm])
theorem ShS.hic(h:ShS data kk I S H):H[I.ic]?=some (.vec zff 1 S.types.length (S.cons.map zcq)):=h.at' _ _ (by simp[za3,h.ok.a4.symm,h.ok.b3.symm,h.ok.c2.symm,h.ok.d1.symm])
theorem ShS.hmc(h:ShS data kk I S H):H[I.mc]?=some (.mapP (zdF S.cnt)):=h.at' _ _ (by simp[za3,h.ok.a5.symm,h.ok.b4.symm,h.ok.c3.symm,h.ok.d2.symm,h.ok.e1.symm])
theorem zxs(data:List Dat)(n:Nat):∀ (ts:List VT) (k:Nat),(zct data ts k).all (λp=>p.2.scV n)=true
 |[],_=>rfl
 |t::ts,k=>by simp only[zct,List.all_cons,zxs data n ts (k+1)];rfl
theorem zz0(n:Nat):∀ ts:List VT,(zbQ ts).all (AV.scA n)=true
 |[]=>rfl
 |t::ts=>by have:=zz0 n ts;unfold zbQ at this ⊢;simp only[aA,List.flatten_cons,bZ,this];cases t;simp[VT.cs,AV.scA,AV.scB]
theorem ShS.scs(h:ShS data kk I S H)(hs:HSc H):HSc (shS data kk I S' H):=by
 intro b hb;obtain⟨x,hx,rfl⟩:=aO.1 hb;rw[zk9]at hx ⊢;have e:(shS data kk I S' H)[x]?=some ((za3 data kk I S' x).getD H[x]):=by rw[zcx,List.getElem?_eq_getElem hx];rfl
 rw[List.getElem?_eq_getElem (by simpa using hx)]at e;rw[bM e];have hlt:=λy=>h.lt (x:=y);have l1:=(List.getElem?_eq_some_iff.1 h.him).1;have l2:=(List.getElem?_eq_some_iff.1 h.hit).1;have l3:=(List.getElem?_eq_some_iff.1 h.hia).1;have l4:=(List.getElem?_eq_some_iff.1 h.hic).1;have l5:=(List.getElem?_eq_some_iff.1 h.hmc).1;unfold za3;split
 ·simp[AB.sc,AV.scA,AV.scB,l1,l2,l3,l4,l5]
 ·split
  ·exact zxs _ _ _ _
  ·split
   ·exact zz0 _ _
   ·split
    ·simp[AB.sc,zaH,AV.scA,AV.scB]
    ·split
     ·simp[AB.sc,zcq,AV.scA,AV.scB]
     ·split
      ·simp only[AB.sc,zdF];refine am.2 λe he=>?_;obtain⟨e',_,rfl⟩:=aV.1 he;exact zc0 _ e'.2
      ·exact hs _ (ae hx)
theorem zxp(data:List Dat)(t:VT):∀ (ts:List VT) (k:Nat),zct data (ts++[t]) k=zct data ts k++[(txt data t,.int .i64 (k+ts.length:Nat))]
 |[],k=>by simp[zct]
 |u::ts,k=>by rw[List.cons_append,zct,zct,zxp data t ts (k+1),List.cons_append];congr 4;simp;omega
theorem zxq(data:List Dat)(s:List UInt8):∀ (ts:List VT) (k:Nat),zbZ (zct data ts k) s=(ts.findIdx? λu=>txt data u == s).map λi=>AV.int .i64 (k+i:Nat)
 |[],k=>rfl
 |u::ts,k=>by
  rw[zct,zbZ,List.findIdx?_cons];cases h:(txt data u == s) with
  |true=>simp
  |false=>
   simp only[];rw[zxq data s ts (k+1)];cases ts.findIdx? λu=>txt data u == s with
   |none=>rfl
   |some i=>simp;omega
theorem zxr(data:List Dat)(s:List UInt8)(x:AV):∀ (ts:List VT) (k:Nat),(ts.findIdx? λu=>txt data u == s)=none→zcX (zct data ts k) s x=zct data ts k++[(s,x)]
 |[],k,_=>rfl
 |u::ts,k,h=>by
  rw[List.findIdx?_cons]at h;rw[zct,zcX];cases hb:(txt data u == s) with
  |true=>rw[hb]at h;simp at h
  |false=>rw[hb]at h;simp only[aD,aT,Option.map_eq_none_iff]at h;simp only[];rw[zxr data s x ts (k+1) h];rfl
end
theorem zph{e s b id n:Nat}{cs:List AV}{ys:List (List AV)}{t:Tok}{H:zaa}{K:Kt}(h:H[id]?=some (.vec e s n cs))(hy:∀c∈ys,c.length=s)(hb1:(n+ys.length)*b≤140737488355328)(hb2:n+ys.length≤9223372036854775807)(hk:K (.ov id (n+ys.length)) (H.set id (.vec e s (n+ys.length) (cs++ys.flatten)))):zax e s b (.ov id n) (.sl ys t) H K:=by
 simp only[zax,za6,zaZ,h,and_self,cU];exact⟨hy,⟨hb1,hb2⟩,hk⟩
theorem zzu{n id m off e s:Nat}{x:AV}{xs cs:List AV}{H:zaa}{K:zaa→Prop}(hx:x.cs?=some xs)(h:H[id]?=some (.vec e s m cs))(h1:xs.length=n)(h2:off+n≤cs.length)(h3:xs.all AV.known=true)(hk:K (H.set id (.vec e s m (cs.take off++xs++cs.drop (off+n))))):zam n (.vp id m off) x H K:=by
 rw[zv2,hx,h,zFE];exact⟨⟨rfl,h1,h2,h3⟩,hk⟩
theorem zbb{H H':zaa}{i j:Nat}{b:AB}{o:Option AB}(e:H'=H.set i b)(hne:i≠j)(h:H[j]?=o):H'[j]?=o:=by rw[e,List.getElem?_set_ne hne];exact h
theorem zid{H H':zaa}{i:Nat}{b:AB}(e:H'=H.set i b)(hi:i<H.length):H'[i]?=some b:=by rw[e,List.getElem?_set_self hi]
theorem zfD(ts:List VT):(zbQ ts).length=3*ts.length:=by
 induction ts with
 |nil=>rfl
 |cons t ts ih=>unfold zbQ at ih ⊢;cases t;simp only[aA,List.flatten_cons,ao,ih,VT.cs,List.length_cons,List.length_nil];omega
def zcP(data:List Dat)(S:SS)(t:VT):Option Nat:=S.types.findIdx? λu=>txt data u == txt data t
def zco(S:SS)(t:VT):SS:=⟨S.types++[t],S.made++[false],S.cons++[[]],S.cnt⟩
def idN(data:List Dat)(S:SS)(t:VT):Nat:=(zcP data S t).getD S.types.length
def idS(data:List Dat)(S:SS)(t:VT):SS:=if (zcP data S t).isSome then S else zco S t
theorem ziO{data:List Dat}(hD:zaB data=true){kk:Int}{I:SI}{S:SS}{H:zaa}(hS:ShS data kk I S H)(h0:H[0]?=some .nodr)(t:VT)(ht:zaD data 0 t=true)(hn:S.types.length≤1000000000000)(K:Kt)(hK:K (.int .i64 (idN data S t)) (shS data kk I (idS data S t) H)):ACalls tP zf8 [.ptr I.p 0,.agg t.cs] H K:=by
 refine ACalls.out (zSn λhs=>?_);obtain⟨x,y,z,hvx,hx,hy,hz⟩:=zaO t;have hlt0:0<H.length:=(List.getElem?_eq_some_iff.1 h0).1;have hp:=(hS.app (J:=[.cells t.cs])).hp;have him:=(hS.app (J:=[.cells t.cs])).him;have hit:=(hS.app (J:=[.cells t.cs])).hit;have hia:=(hS.app (J:=[.cells t.cs])).hia;have hic:=(hS.app (J:=[.cells t.cs])).hic;have lp:=(List.getElem?_eq_some_iff.1 hS.hp).1;have lim:=(List.getElem?_eq_some_iff.1 hS.him).1;have lit:=(List.getElem?_eq_some_iff.1 hS.hit).1;have lia:=(List.getElem?_eq_some_iff.1 hS.hia).1;have lic:=(List.getElem?_eq_some_iff.1 hS.hic).1;have ht3:List.take 3 t.cs=t.cs:=ak (by rw[hvx];simp);have ht3':t.cs.length=3:=by rw[hvx];rfl
 obtain⟨A,hA⟩:∃A,A=H++[AB.cells t.cs]:=⟨_,rfl⟩;have hAl:A.length=H.length+1:=by rw[hA];simp
 have ha:A[H.length]?=some (.cells t.cs):=by rw[hA];simp
 simp[zDd,hvx];rw[←hvx,←hA];rw[←hA]at hp him hit hia hic;simp[hp,ha,ht3,ht3'];refine zaC (.str (txt data t)) (λJ=>zVl hD t ht _ (by rw[hA,ah,List.getElem?_append_left hlt0];exact h0) _ ⟨rfl,rfl⟩) ?_;simp[hp,him,zxq];have hany:(S.types.any λu=>txt data u == txt data t)=(zcP data S t).isSome:=by unfold zcP;simp[List.findIdx?_isSome]
 rw[hany];change zag _ (Out _ K ((Option.map _ (zcP data S t)).getD _) A) _;have hput:=zxr data (txt data t) (AV.int .i64 (S.types.length:Nat)) S.types 0;change zcP data S t=none→_ at hput;have hN:idN data S t=(zcP data S t).getD S.types.length:=rfl;have hSd:idS data S t=if (zcP data S t).isSome then S else zco S t:=rfl
 cases hi:zcP data S t with
 |some i=>rw[hi]at hN hSd;rw[hN,hSd]at hK;simp;rw[hA];refine Out.int rfl (aa _) hs ?_;simpa[hS.self]using hK
 |none=>
  rw[hput hi];rw[hi]at hN hSd;rw[hN,hSd]at hK;simp only[Option.isSome_none,aD,aT,Option.getD_none]at hK;obtain⟨A1,hA1⟩:∃A1,A1=A.set I.im (.map (zct data S.types 0++[(txt data t,.int .i64 (S.types.length:Nat))])):=⟨_,rfl⟩;have o:=hS.ok;have p1:A1[I.p]?=A[I.p]?:=by rw[hA1,List.getElem?_set_ne o.a1.symm]
  have t1:A1[I.it]?=A[I.it]?:=by rw[hA1,List.getElem?_set_ne o.b1]
  have ia1:A1[I.ia]?=A[I.ia]?:=by rw[hA1,List.getElem?_set_ne o.b2]
  have ic1:A1[I.ic]?=A[I.ic]?:=by rw[hA1,List.getElem?_set_ne o.b3]
  have l1:A1[H.length]?=A[H.length]?:=by rw[hA1,List.getElem?_set_ne (by omega)]
  rw[hp]at p1;rw[hit]at t1;rw[hia]at ia1;rw[hic]at ic1;rw[ha]at l1;have hA1l:A1.length=H.length+1:=by rw[hA1];simp[hAl]
  simp only[zag];rw[←hA1];simp[p1,l1,ht3,ht3',zau,za4,plain,AV.pd];have hTl:=zfD S.types;refine zph t1 (by simp) (by simp;omega) (by simp;omega) ?_;simp only[List.length_cons,List.length_nil,List.flatten_cons,List.flatten_nil,aE,aF];obtain⟨A2,hA2⟩:∃A2,A2=A1.set I.it (.vec zbk 3 (S.types.length+1) (zbQ S.types++[.int .i64 0,.int .i64 0,.sl [] .none])):=⟨_,rfl⟩;rw[←hA2];have p2:=zbb hA2 o.a2.symm p1;have t2:A2[I.it]?=some (.vec zbk 3 (S.types.length+1) (zbQ S.types++[.int .i64 0,.int .i64 0,.sl [] .none])):=by rw[hA2,List.getElem?_set_self (by omega)]
  have hA2l:A2.length=H.length+1:=by rw[hA2];simp[hA1l]
  obtain⟨A3,hA3⟩:∃A3,A3=A2.set I.it (.vec zbk 3 (S.types.length+1) (zbQ S.types++t.cs)):=⟨_,rfl⟩;obtain⟨P4,hP4⟩:∃P4,P4=AB.cells [.sl (data.map Dat.cs) .none,.int .i64 kk,.map I.im,.ov I.it (S.types.length+1),.ov I.ia S.types.length,.ov I.ic S.types.length,.map I.mc]:=⟨_,rfl⟩;obtain⟨A4,hA4⟩:∃A4,A4=A3.set I.p P4:=⟨_,rfl⟩;have p3:=zbb hA3 o.a2.symm p2;have t22:(A2.set I.p P4)[I.it]?=some (.vec zbk 3 (S.types.length+1) (zbQ S.types++[.int .i64 0,.int .i64 0,.sl [] .none])):=by rw[List.getElem?_set_ne o.a2];exact t2
  have hst:∀{D:zaa} {Q:zaa→Prop},D[I.it]?=some (.vec zbk 3 (S.types.length+1) (zbQ S.types++[.int .i64 0,.int .i64 0,.sl [] .none]))→Q (D.set I.it (.vec zbk 3 (S.types.length+1) (zbQ S.types++t.cs)))→zam 3 (.vp I.it (S.types.length+1) (S.types.length*3)) (.agg t.cs) D Q:=by intro D Q hd hq;refine zzu rfl hd ht3' (by simp[hTl];omega) (VT.cs_known t) ?_;rw[dv (by rw[hTl];omega),aK (by simp[hTl];omega),aE];exact hq
  have hsw:(A2.set I.p P4).set I.it (.vec zbk 3 (S.types.length+1) (zbQ S.types++t.cs))=A4:=by rw[hA4,hA3,List.set_comm _ _ o.a2.symm]
  suffices hG:zdz (.ptr I.p 0) (.int .i64 (S.types.length:Nat)) A4 (Out H.length K) by
   have hix:zai 3 (.ov I.it (S.types.length+1)) (.int .i64 (S.types.length:Nat))=λQ:AV→Prop=>Q (.vp I.it (S.types.length+1) (S.types.length*3)):=by funext Q;rw[zFv];simp;intro;omega
   rw[hix];simp only[p2,AV.cs?,zd2];simp only[List.take,List.drop,List.cons_append,List.nil_append,←hP4];refine⟨⟨hst t2 ?_,⟨by simp[AV.known],?_⟩⟩,⟨by simp[AV.known],?_⟩⟩
   ·rw[←hA3];simp only[p3,zd2,List.take,List.drop,List.cons_append,List.nil_append,←hP4,←hA4];exact⟨by simp[AV.known],hG⟩
   ·exact hst t22 (by rw[hsw];exact hG)
   ·exact hst t22 (by rw[hsw];exact hG)
  have p4:A4[I.p]?=some P4:=by rw[hA4,List.getElem?_set_self (by rw[hA3];simp;omega)]
  have ia4:=zbb hA4 o.a3 (zbb hA3 o.c1 (zbb hA2 o.c1 ia1));have ic4:=zbb hA4 o.a4 (zbb hA3 o.c2 (zbb hA2 o.c2 ic1));have hA4l:A4.length=H.length+1:=by rw[hA4,hA3];simp[hA2l]
  unfold zdz;rw[hP4]at p4;simp[p4,zau,za4,plain,AV.pd];have ml:(zaH S.made).length=S.types.length:=by simp[zaH,hS.ml]
  refine zph ia4 (by simp) (by simp;omega) (by simp;omega) ?_;simp only[List.length_cons,List.length_nil,List.flatten_cons,List.flatten_nil,aE,aF];obtain⟨A5,hA5⟩:∃A5,A5=A4.set I.ia (.vec zfg 1 (S.types.length+1) (zaH S.made++[.bool false])):=⟨_,rfl⟩;rw[←hA5];have p5:=zbb hA5 o.a3.symm p4;have ic5:=zbb hA5 o.d1 ic4;simp only[p5,AV.cs?,zd2,List.take,List.drop,List.cons_append,List.nil_append];refine⟨by simp[AV.known],?_⟩;obtain⟨P6,hP6⟩:∃P6,P6=AB.cells [.sl (data.map Dat.cs) .none,.int .i64 kk,.map I.im,.ov I.it (S.types.length+1),.ov I.ia (S.types.length+1),.ov I.ic S.types.length,.map I.mc]:=⟨_,rfl⟩;rw[←hP6];obtain⟨A6,hA6⟩:∃A6,A6=A5.set I.p P6:=⟨_,rfl⟩;rw[←hA6];have hA6l:A6.length=H.length+1:=by rw[hA6,hA5];simp[hA4l]
  have p6:A6[I.p]?=some P6:=by rw[hA6,List.getElem?_set_self (by rw[hA5];simp;omega)]
  have ic6:=zbb hA6 o.a4 ic5;rw[hP6]at p6;simp[p6];refine zph ic6 (by simp) (by simp;omega) (by simp;omega) ?_;simp only[List.length_cons,List.length_nil,List.flatten_cons,List.flatten_nil,aE,aF];obtain⟨A7,hA7⟩:∃A7,A7=A6.set I.ic (.vec zff 1 (S.types.length+1) (S.cons.map zcq++[.sl [] .none])):=⟨_,rfl⟩;rw[←hA7];have p7:=zbb hA7 o.a4.symm p6;simp only[p7,AV.cs?,zd2,List.take,List.drop,List.cons_append,List.nil_append];refine⟨by simp[AV.known],?_⟩;obtain⟨P8,hP8⟩:∃P8,P8=AB.cells [.sl (data.map Dat.cs) .none,.int .i64 kk,.map I.im,.ov I.it (S.types.length+1),.ov I.ia (S.types.length+1),.ov I.ic (S.types.length+1),.map I.mc]:=⟨_,rfl⟩;rw[←hP8];obtain⟨A8,hA8⟩:∃A8,A8=A7.set I.p P8:=⟨_,rfl⟩;rw[←hA8];have hA7l:A7.length=H.length+1:=by rw[hA7];simp[hA6l]
  have hA8l:A8.length=H.length+1:=by rw[hA8];simp[hA7l]
  have p8:A8[I.p]?=some P8:=zid hA8 (by omega);have im8:=zbb hA8 o.a1 (zbb hA7 o.b3.symm (zbb hA6 o.a1 (zbb hA5 o.b2.symm (zbb hA4 o.a1 (zbb hA3 o.b1.symm (zbb hA2 o.b1.symm (zid hA1 (by omega))))))));have it8:=zbb hA8 o.a2 (zbb hA7 o.c2.symm (zbb hA6 o.a2 (zbb hA5 o.c1.symm (zbb hA4 o.a2 (zid hA3 (by omega))))));have ia8:=zbb hA8 o.a3 (zbb hA7 o.d1.symm (zbb hA6 o.a3 (zid hA5 (by omega))));have ic8:=zbb hA8 o.a4 (zid hA7 (by omega));have ot8:∀x,x≠I.p→x≠I.im→x≠I.it→x≠I.ia→x≠I.ic→A8[x]?=A[x]?:=λx e1 e2 e3 e4 e5=>
   zbb hA8 e1.symm (zbb hA7 e5.symm (zbb hA6 e1.symm (zbb hA5 e4.symm (zbb hA4 e1.symm (zbb hA3 e3.symm (zbb hA2 e3.symm (zbb hA1 e2.symm rfl)))))))
  have hfin:A8=shS data kk I (zco S t) H++[AB.cells t.cs]:=by
   apply aI;intro x;by_cases hx:x<H.length
   ·rw[List.getElem?_append_left (by simpa using hx),zcx,List.getElem?_eq_getElem hx];simp only[Option.map_some];unfold za3;split
    ·rename_i e;subst e;rw[p8,hP8];simp[zco]
    ·rename_i e1;split
     ·rename_i e;subst e;rw[im8];simp[zco,zxp]
     ·rename_i e2;split
      ·rename_i e;subst e;rw[it8];simp[zco,zbQ]
      ·rename_i e3;split
       ·rename_i e;subst e;rw[ia8];simp[zco,zaH]
       ·rename_i e4;split
        ·rename_i e;subst e;rw[ic8];simp[zco,zcq,zbX]
        ·rename_i e5;rw[ot8 x e1 e2 e3 e4 e5,hA,List.getElem?_append_left hx];split
         ·rename_i e;subst e;rw[hS.hmc];rfl
         ·rw[List.getElem?_eq_getElem hx];rfl
   ·rw[List.getElem?_append_right (by simpa using hx),zk9,ot8 x (by omega) (by omega) (by omega) (by omega) (by omega),hA,List.getElem?_append_right (by omega)]
  have hsH:HSc H:=hs;refine Out.int hfin (by simp) (hS.scs hsH) hK
def sm:Nat→(Nat→Nat)→Nat
 |0,_=>0
 |n+1,f=>sm n f+f n
theorem zb8{n:Nat}{f g:Nat→Nat}(h:∀i<n,f i=g i):sm n f=sm n g:=by
 induction n with
 |zero=>rfl
 |succ n ih=>rw[sm,sm,ih λi hi=>h i (by omega),h n (by omega)]
theorem zJd(n:Nat)(f g:Nat→Nat):sm n (λi=>f i+g i)=sm n f+sm n g:=by
 induction n with
 |zero=>rfl
 |succ n ih=>rw[sm,sm,sm,ih];omega
theorem zrw(n c:Nat)(f:Nat→Nat):sm n (λi=>c*f i)=c*sm n f:=by
 induction n with
 |zero=>rfl
 |succ n ih=>rw[sm,sm,ih,df]
theorem zrx(n:Nat):sm n (λ_=>0)=0:=by
 induction n with
 |zero=>rfl
 |succ n ih=>rw[sm,ih]
theorem zJe{n:Nat}{f g:Nat→Nat}(h:∀i<n,f i≤g i):sm n f≤sm n g:=by
 induction n with
 |zero=>exact aa _
 |succ n ih=>have h1:=ih λi hi=>h i (by omega);have h2:=h n (by omega);rw[sm,sm];omega
theorem zzk{n:Nat}{f:Nat→Nat}{i:Nat}(h:i<n):f i≤sm n f:=by
 induction n with
 |zero=>omega
 |succ n ih=>
  rw[sm];by_cases e:i=n
  ·subst e;omega
  ·have:=ih (by omega);omega
theorem zJf{n:Nat}{f:Nat→Nat}(h:sm n f≠0):∃i<n,f i≠0:=by
 induction n with
 |zero=>exact absurd rfl h
 |succ n ih=>
  rw[sm]at h;by_cases e:f n=0
  ·obtain⟨i,h1,h2⟩:=ih (by omega);exact⟨i,by omega,h2⟩
  ·exact⟨n,by omega,e⟩
theorem zfw(n:Nat)(f:Nat→Nat):sm (n+1) f=f 0+sm n λi=>f (i+1):=by
 induction n with
 |zero=>simp[sm]
 |succ n ih=>rw[sm,ih,sm];omega
theorem zJg(m:Nat)(F:Nat→Nat→Nat):sm (m+1) (λh=>sm (h+1) λa=>F a h)=sm (m+1) λa=>sm (m-a+1) λd=>F a (a+d):=by
 induction m with
 |zero=>simp[sm]
 |succ m ih=>
  rw[sm,ih]
  conv=>rhs;rw[sm]
  have e:sm (m+1) (λa=>sm (m+1-a+1) λd=>F a (a+d))=sm (m+1) (λa=>(sm (m-a+1) λd=>F a (a+d))+F a (m+1)):=by refine zb8 λa ha=>?_;rw[show m+1-a+1=(m-a+1)+1 from by omega,sm,show a+(m-a+1)=m+1 from by omega]
  rw[e,zJd,sm];rw[show m+1-(m+1)+1=1 from by omega];simp only[sm,Nat.add_zero,aF];omega
def zaW(data:List Dat):VT→List (Int × List VT)
 |.mk k n ks=>if k=6∨k=8 then [(0,ks)] else if k=5 then (List.range (zba data n).length).filterMap λc:Nat=>(za7 data (.mk k n ks) (c:Int)).map λl=>((c:Int),l) else []
def zcp:VT→VT
 |.mk _ _ ks=>ks.getD 0 (.mk 0 0 [])
def cL(g:VT→Nat→Nat):List VT→Nat→Nat
 |[],m=>if m=0 then 1 else 0
 |t::ts,m=>sm (m+1) λs=>g t s*cL g ts (m-s)
def cAf(g:Nat→Nat):Nat→Nat→Nat
 |0,m=>if m=0 then 1 else 0
 |f+1,m=>if m=0 then 1 else sm (m+1) λs=>g s*cAf g f (m-s)
def cnt(data:List Dat)(kk:Nat):Nat→VT→Nat→Nat
 |0,_,_=>0
 | f+1,t,n=>if n=0 then 0 else if t.kind=3 then (if n=1 then 1 else 0) else if t.kind=2 then (if n=1 then 2 else 0) else if t.kind=1 then (if n=1 then kk else 0) else
  if t.kind=7 then cAf (cnt data kk f (zcp t)) (n-1) (n-1) else ((zaW data t).map λw=>cL (cnt data kk f) w.2 (n-1)).sum
def cV(data:List Dat)(kk:Nat)(t:VT)(n:Nat):Nat:=cnt data kk n t n
theorem zpo{g g':VT→Nat→Nat}:∀ (ts:List VT) (m:Nat),(∀ t s,s≤m→g t s=g' t s)→cL g ts m=cL g' ts m
 |[],m,_=>rfl
 |t::ts,m,h=>by rw[cL,cL];refine zb8 λs hs=>?_;rw[h t s (by omega),zpo ts (m-s) λt s' hs'=>h t s' (by omega)]
theorem zpn{g g':Nat→Nat}:∀ (f m:Nat),(∀ s,s≤m→g s=g' s)→cAf g f m=cAf g' f m
 |0,m,_=>rfl
 |f+1,m,h=>by
  rw[cAf,cAf];split
  ·rfl
  ·refine zb8 λs hs=>?_;rw[h s (by omega),zpn f (m-s) λs' hs'=>h s' (by omega)]
theorem zGa{g:Nat→Nat}(h0:g 0=0):∀(N m f f':Nat),m≤N→m≤f→m≤f'→cAf g f m=cAf g f' m:=by
 intro N;induction N with
 |zero=>
  intro m f f' h _ _;obtain rfl:m=0:=by omega
  cases f <;> cases f' <;> simp[cAf]
 |succ N ih=>
  intro m f f' h h1 h2;cases m with
  |zero=>cases f <;> cases f' <;> simp[cAf]
  |succ m=>
   obtain⟨f,rfl⟩:∃e,f=e+1:=⟨f-1,by omega⟩;obtain⟨f',rfl⟩:∃e,f'=e+1:=⟨f'-1,by omega⟩;rw[cAf,cAf];simp only[bO,cg,dp,aT];refine zb8 λs hs=>?_;cases s with
   |zero=>simp[h0]
   |succ s=>rw[ih _ f f' (by omega) (by omega) (by omega)]
def cA(g:Nat→Nat)(m:Nat):Nat:=cAf g m m
theorem zF9(g:Nat→Nat):cA g 0=1:=rfl
theorem zgU{g:Nat→Nat}(h0:g 0=0)(m:Nat):cA g (m+1)=sm (m+2) λs=>g s*cA g (m+1-s):=by
 unfold cA;rw[cAf];simp only[bO,cg,dp,aT];refine zb8 λs hs=>?_;cases s with
 |zero=>simp[h0]
 |succ s=>rw[zGa h0 _ _ _ _ (aa _) (by omega) (aa _)]
theorem zjG(data:List Dat)(kk f:Nat)(t:VT):cnt data kk f t 0=0:=by cases f <;> simp[cnt]
theorem zGu(data:List Dat)(kk:Nat):∀(f f':Nat) (t:VT) (n:Nat),n≤f→n≤f'→cnt data kk f t n=cnt data kk f' t n:=by
 intro f;induction f with
 |zero=>
  intro f' t n h _;obtain rfl:n=0:=by omega
  rw[zjG,zjG]
 |succ f ih=>
  intro f' t n h1 h2;cases n with
  |zero=>rw[zjG,zjG]
  |succ n=>obtain⟨f',rfl⟩:∃e,f'=e+1:=⟨f'-1,by omega⟩;have e1:∀t s,s≤n→cnt data kk f t s=cnt data kk f' t s:=λt s hs=>ih f' t s (by omega) (by omega);rw[cnt,cnt];simp only[bo];rw[zpn n n λs hs=>e1 (zcp t) s hs];rw[bc λw _=>zpo w.2 n e1]
theorem zb3(data:List Dat)(kk:Nat)(t:VT):cV data kk t 0=0:=rfl
theorem zc7(data:List Dat)(kk:Nat)(t:VT)(n:Nat):cV data kk t (n+1)=if t.kind=3 then (if n=0 then 1 else 0) else if t.kind=2 then (if n=0 then 2 else 0) else if t.kind=1 then (if n=0 then kk else 0) else
  if t.kind=7 then cA (cV data kk (zcp t)) n else ((zaW data t).map λw=>cL (cV data kk) w.2 n).sum:=by
 have e1:∀t s,s≤n→cnt data kk n t s=cV data kk t s:=λt s hs=>zGu data kk n s t s hs (aa _);unfold cV;rw[cnt];simp only[bO,cg,dp,aT,bo,Nat.add_eq_right];unfold cA;rw[zpn n n λs hs=>e1 (zcp t) s hs];rw[bc λw _=>zpo w.2 n e1];rfl
def cvR(g:Nat→Nat)(r:Nat→Nat)(m:Nat):Nat:=sm (m+1) λh=>r h*g (m-h)
theorem zwL(g:VT→Nat→Nat):∀ (ts:List VT) (r:Nat→Nat) (m:Nat),(ts.foldl (λr t=>cvR (g t) r) r) m=sm (m+1) λh=>r h*cL g ts (m-h)
 |[],r,m=>by
  rw[List.foldl_nil,sm];have:sm m (λh=>r h*cL g [] (m-h))=0:=by rw[zb8 (g:=λ_=>0) λh hh=>by rw[cL,ap (by omega),Nat.mul_zero],zrx]
  rw[this];simp[cL]
 |t::ts,r,m=>by
  rw[List.foldl_cons,zwL g ts];have e1:sm (m+1) (λh=>cvR (g t) r h*cL g ts (m-h))=sm (m+1) λh=>sm (h+1) λa=>r a*g t (h-a)*cL g ts (m-h):=by refine zb8 λh hh=>?_;rw[cvR,bq,←zrw];exact zb8 λa _=>by rw[bq]
  rw[e1,zJg m λa h=>r a*g t (h-a)*cL g ts (m-h)];refine zb8 λa ha=>?_;rw[cL,←zrw];refine zb8 λd hd=>?_;rw[show a+d-a=d from by omega,show m-(a+d)=m-a-d from by omega,Nat.mul_assoc]
def zeh(m:Nat):Nat:=if m=0 then 1 else 0
theorem zGc(g:VT→Nat→Nat)(ts:List VT)(m:Nat):cL g ts m=(ts.foldl (λr t=>cvR (g t) r) zeh) m:=by
 rw[zwL,zfw];have:sm m (λi=>zeh (i+1)*cL g ts (m-(i+1)))=0:=by rw[zb8 (g:=λ_=>0) λh hh=>by simp[zeh],zrx]
 rw[this];simp[zeh]
section
set_option exponentiation.threshold 2000
theorem geo:∀ m:Nat,sm m (λi=>2 ^ (m-(i+1)))+1=2 ^ m
 |0=>rfl
 |m+1=>by
  rw[zfw];have:=geo m;have e:sm m (λi=>2 ^ (m+1-(i+1+1)))=sm m λi=>2 ^ (m-(i+1)):=zb8 λi _=>by rw[show m+1-(i+1+1)=m-(i+1) from by omega]
  rw[e,show m+1-(0+1)=m from by omega,Nat.pow_succ];omega
theorem zJY(s d:Nat):3*(s*s)+3*(d*d)≤3*((s+d)*(s+d)):=by
 have e:(s+d)*(s+d)=s*s+d*d+2*(s*d):=by rw[bb,df,df,bq d s];omega
 rw[e];omega
theorem zwE{g r:Nat→Nat}{m:Nat}(h0:g 0=0)(hg:∀s,s≤m→g s≤2 ^ (3*(s*s)))(hr:∀s,s<m→r s≤2 ^ (s+3*(s*s))):sm (m+1) (λs=>g s*r (m-s))≤2 ^ (m+3*(m*m)):=by
 rw[zfw,h0,bx,aF];have h1:sm m (λi=>g (i+1)*r (m-(i+1)))≤sm m λi=>2 ^ (3*(m*m))*2 ^ (m-(i+1)):=by refine zJe λi hi=>?_;refine aC (bI (hg (i+1) (by omega)) (hr (m-(i+1)) (by omega))) ?_;rw[←cq,←cq];refine a8 (by decide) ?_;have:=zJY (i+1) (m-(i+1));rw[show i+1+(m-(i+1))=m from by omega]at this;omega
 refine aC h1 ?_;rw[zrw,dD m,cq];have:=geo m;exact bu _ (by omega)
theorem zpp{g:VT→Nat→Nat}(h0:∀ t,g t 0=0):∀ (ts:List VT) (m:Nat),(∀ t∈ts,∀ s,s≤m→g t s≤2 ^ (3*(s*s)))→cL g ts m≤2 ^ (m+3*(m*m))
 |[],m,_=>by rw[cL];have:0<2 ^ (m+3*(m*m)):=Nat.pow_pos (by decide);split <;> omega
 |t::ts,m,h=>by rw[cL];exact zwE (h0 t) (h t (by simp)) λs hs=>zpp h0 ts s λt ht s' hs'=>h t (by simp[ht]) s' (by omega)
theorem zwv{g:Nat→Nat}(h0:g 0=0):∀(m:Nat),(∀s,s≤m→g s≤2 ^ (3*(s*s)))→cA g m≤2 ^ (m+3*(m*m)):=by
 intro m;induction m using Nat.strongRecOn with
 |ind m ih=>
  intro h;cases m with
  |zero=>rw[zF9];simp
  |succ m=>rw[zgU h0];exact zwE h0 h λs hs=>ih s hs λs' hs'=>h s' (by omega)
def Kpt(data:List Dat):Prop:=∀D∈data,D.cons.length≤3∧∀c∈D.cons,c.args.length≤3
theorem zGD{data:List Dat}{n:Int}(h:(zba data n)≠[]):∃D∈data,D.cons=zba data n:=by
 unfold zba at h ⊢;rw[List.getD_eq_getElem?_getD]at h ⊢;cases hd:data[n.toNat]? with
 |none=>rw[hd]at h;exact absurd rfl h
 |some D=>exact⟨D,aQ hd,rfl⟩
theorem zly{data:List Dat}(hk:Kpt data)(t:VT):(zaW data t).length≤3:=by
 obtain⟨k,n,ks⟩:=t;rw[zaW];split
 ·simp
 ·split
  ·refine aC (cz _ _) ?_;rw[List.length_range];by_cases h:zba data n=[]
   ·rw[h];simp
   ·obtain⟨D,hD,e⟩:=zGD h;rw[←e];exact(hk D hD).1
  ·simp
theorem zr2{data:List Dat}(hD:zaB data=true){t:VT}(ht:zaD data 0 t=true){w:Int×List VT}(hw:w∈zaW data t):∀x∈w.2,zaD data 0 x=true:=by
 obtain⟨k,n,ks⟩:=t;rw[zaW]at hw;split at hw
 ·simp at hw;subst hw;exact zfA ht
 ·split at hw
  ·obtain⟨c,_,hc⟩:=br.1 hw;cases hf:za7 data (.mk k n ks) c with
   |none=>rw[hf]at hc;cases hc
   |some l=>rw[hf]at hc;simp at hc;subst hc;exact zjQ hD (zep ht) hf
  ·simp at hw
theorem zzE{α:Type}{f:α→Nat}{B:Nat}:∀ (l:List α),(∀ x∈l,f x≤B)→(l.map f).sum≤l.length*B
 |[],_=>by simp
 |x::l,h=>by have h1:=h x (by simp);have h2:=zzE l λy hy=>h y (by simp[hy]);rw[aA,List.sum_cons,List.length_cons,cp];omega
theorem zpq{data:List Dat}(hk:Kpt data){kk:Nat}(hkk:kk≤8):∀(n:Nat) (t:VT),cV data kk t n≤2 ^ (3*(n*n)):=by
 intro n;induction n using Nat.strongRecOn with
 |ind n ih=>
  intro t;cases n with
  |zero=>rw[zb3];simp
  |succ n=>
   have e:3*((n+1)*(n+1))=(n+3*(n*n))+(5*n+3):=by
    have:(n+1)*(n+1)=n*n+2*n+1:=by rw[bb,df];omega
    rw[this];omega
   have e8:8≤2 ^ (3*((n+1)*(n+1))):=aC (show 8≤2 ^ 3 by decide) (a8 (by decide) (by rw[e];omega));have big:3*2 ^ (n+3*(n*n))≤2 ^ (3*((n+1)*(n+1))):=by rw[e,cq 2 (n+3*(n*n)) (5*n+3),bq];exact bu _ (aC (show 3≤2 ^ 3 by decide) (a8 (by decide) (by omega)))
   rw[zc7];split
   ·split <;> omega
   ·split
    ·split <;> omega
    ·split
     ·split <;> omega
     ·split
      ·have:=zwv (zb3 data kk (zcp t)) n λs hs=>ih s (by omega) _;omega
      ·have h1:=zly hk t;have h2:=zzE (B:=2 ^ (n+3*(n*n))) (f:=λw:Int×List VT=>cL (cV data kk) w.2 n) (zaW data t) λw _=>zpp (zb3 data kk) w.2 n λt _ s hs=>ih s (by omega) t;have h3:=aq (2 ^ (n+3*(n*n))) h1;omega
theorem zpX{m:Nat}(h:m≤14):2 ^ (m+3*(m*m))<1000000000 ^ 30:=by have h1:m*m≤14*14:=bI h h;exact ck (a8 (by decide) (show m+3*(m*m)≤602 by omega)) (by decide)
theorem zhZ{data:List Dat}(hk:Kpt data){kk:Nat}(hkk:kk≤8)(ts:List VT){m:Nat}(h:m≤14):cL (cV data kk) ts m<1000000000 ^ 30:=
 ck (zpp (zb3 data kk) ts m λt _ s _=>zpq hk hkk s t) (zpX h)
theorem zpm{data:List Dat}(hk:Kpt data){kk:Nat}(hkk:kk≤8)(t:VT){m:Nat}(h:m≤14):cA (cV data kk t) m<1000000000 ^ 30:=
 ck (zwv (zb3 data kk t) m λs _=>zpq hk hkk s t) (zpX h)
theorem zdD{data:List Dat}(hk:Kpt data){kk:Nat}(hkk:kk≤8)(t:VT){m:Nat}(h:m≤14):cV data kk t m<1000000000 ^ 30:=
 ck (aC (zpq hk hkk m t) (a8 (by decide) (by omega))) (zpX h)
inductive Rch (data:List Dat) (X:List VT):Nat→VT→Prop
 |zero {t:VT}:t∈X→Rch data X 0 t
 |arr {n:Nat} {t:VT}:t∈X→t.kind=7→Rch data X n (zcp t)→Rch data X (n+1) t
 |mk {n:Nat} {t:VT}:t∈X→t.kind≠7→(∀w∈zaW data t,∀(p:Nat) (h:p<w.2.length),Rch data X (n-p) w.2[p])→Rch data X (n+1) t
theorem Rch.mem{data:List Dat}{X:List VT}{n:Nat}{t:VT}(h:Rch data X n t):t∈X:=by cases h <;> assumption
theorem Rch.mono{data:List Dat}{X Y:List VT}(hXY:∀x∈X,x∈Y){n:Nat}{t:VT}(h:Rch data X n t):Rch data Y n t:=by
 induction h with
 |zero h=>exact .zero (hXY _ h)
 |arr h h2 _ ih=>exact .arr (hXY _ h) h2 ih
 |mk h h2 _ ih=>exact .mk (hXY _ h) h2 ih
theorem Rch.le{data:List Dat}{X:List VT}{n:Nat}{t:VT}(h:Rch data X n t):∀m,m≤n→Rch data X m t:=by
 induction h with
 |zero h=>
  intro m hm;obtain rfl:m=0:=by omega
  exact .zero h
 |arr h h2 _ ih=>
  intro m hm;cases m with
  |zero=>exact .zero h
  |succ m=>exact .arr h h2 (ih m (by omega))
 |mk h h2 _ ih=>
  intro m hm;cases m with
  |zero=>exact .zero h
  |succ m=>exact .mk h h2 λw hw p hp=>ih w hw p hp (m-p) (by omega)
def gB(n:Nat):Nat:=if n=0 then 1 else 3*4 ^ n
theorem zk3{data:List Dat}{n:Nat}(ih:∀ m,m≤n→∀ t,zaD data 0 t=true→∃ X:List VT,X.length≤gB m∧Rch data X m t):∀ (ts:List VT) (q:Nat),(∀ x∈ts,zaD data 0 x=true)→∃ X:List VT,X.length≤sm ts.length (λp=>gB (n-(q+p)))∧∀ (p:Nat) (h:p<ts.length),Rch data X (n-(q+p)) ts[p]
 |[],_,_=>⟨[],by simp,λp h=>by simp at h⟩
 |t::ts,q,hv=>by
  obtain⟨X,h1,h2⟩:=ih (n-q) (by omega) t (hv t (by simp));obtain⟨Y,h3,h4⟩:=zk3 ih ts (q+1) λx hx=>hv x (by simp[hx]);refine⟨X++Y,?_,λp hp=>?_⟩
  ·rw[List.length_cons,zfw,ao];have:sm ts.length (λi=>gB (n-(q+(i+1))))=sm ts.length λp=>gB (n-(q+1+p)):=zb8 λi _=>by rw[show q+(i+1)=q+1+i from by omega]
   rw[this,Nat.add_zero];omega
  ·cases p with
   |zero=>exact h2.mono λx hx=>by simp[hx]
   |succ p=>have:=h4 p (by simpa using hp);rw[show q+1+p=q+(p+1) from by omega]at this;exact this.mono λx hx=>by simp[hx]
theorem zyP{data:List Dat}{n B:Nat}:∀ (ws:List (Int × List VT)),(∀ w∈ws,∃ X:List VT,X.length≤B∧∀ (p:Nat) (h:p<w.2.length),Rch data X (n-p) w.2[p])→∃ X:List VT,X.length≤ws.length*B∧∀ w∈ws,∀ (p:Nat) (h:p<w.2.length),Rch data X (n-p) w.2[p]
 |[],_=>⟨[],by simp,by simp⟩
 |w::ws,h=>by
  obtain⟨X,h1,h2⟩:=h w (by simp);obtain⟨Y,h3,h4⟩:=zyP ws λv hv=>h v (by simp[hv]);refine⟨X++Y,?_,λv hv p hp=>?_⟩
  ·rw[ao,List.length_cons,cp];omega
  ·rcases aZ.1 hv with rfl | hv
   ·exact(h2 p hp).mono λx hx=>by simp[hx]
   ·exact(h4 v hv p hp).mono λx hx=>by simp[hx]
theorem zpA{data:List Dat}(hk:Kpt data){t:VT}{c:Int}{l:List VT}(h:za7 data t c=some l):l.length≤3:=by obtain⟨k,n,ks⟩:=t;obtain⟨_,_,_,hn,hc,_,rfl,_⟩:=zgY h;rw[aS];exact(hk _ (ae hn)).2 _ (ae hc)
theorem zfi{m n:Nat}(h:m≤n):gB m≤gB n:=by unfold gB;have h1:=a8 (show 0<4 by decide) h;have:0<4 ^ n:=Nat.pow_pos (by decide);split <;> split <;> omega
theorem sm3(n:Nat):∀k,k≤3→sm k (λp=>gB (n-(0+p)))≤gB n+gB (n-1)+gB (n-2):=by
 intro k hk
 match k,hk with
 |0,_=>simp[sm]
 |1,_=>simp[sm];omega
 |2,_=>simp[sm]
 |3,_=>simp[sm]
theorem zG8(n:Nat):1+3*(gB n+gB (n-1)+gB (n-2))≤gB (n+1):=by
 unfold gB
 match n with
 |0=>decide
 |1=>decide
 |2=>decide
 |n+3=>
  have a:4 ^ (n+4)=64*4 ^ (n+1):=by rw[show n+4=n+1+3 from rfl,cq];omega
  have b:4 ^ (n+3)=16*4 ^ (n+1):=by rw[show n+3=n+1+2 from rfl,cq];omega
  have c:4 ^ (n+2)=4*4 ^ (n+1):=by rw[Nat.pow_succ,bq]
  have d:4≤4 ^ (n+1):=by rw[Nat.pow_succ];have:0<4 ^ n:=Nat.pow_pos (by decide);omega
  simp;omega
theorem sm6(n:Nat):∀k,k≤6→sm k (λp=>gB (n-(0+p)))≤3*(gB n+gB (n-1)+gB (n-2)):=by
 intro k hk;have h1:=zfi (show n-3≤n-2 by omega);have h2:=zfi (show n-4≤n-2 by omega);have h3:=zfi (show n-5≤n-2 by omega)
 match k,hk with
 |0,_=>simp[sm]
 |1,_=>simp[sm];omega
 |2,_=>simp[sm];omega
 |3,_=>simp[sm];omega
 |4,_=>simp[sm];omega
 |5,_=>simp[sm];have:=zfi (show n-2≤n-1 by omega);omega
 |6,_=>simp[sm];have:=zfi (show n-2≤n-1 by omega);have:=zfi (show n-1≤n by omega);omega
theorem zyO{data:List Dat}(hD:zaB data=true)(hk:Kpt data):∀(n:Nat) (t:VT),zaD data 0 t=true→∃X:List VT,X.length≤gB n∧Rch data X n t:=by
 intro n;induction n using Nat.strongRecOn with
 |ind n ih=>
  intro t ht;cases n with
  |zero=>exact⟨[t],by simp[gB],.zero (by simp)⟩
  |succ n=>
   have grec:=zG8 n;by_cases h7:t.kind=7
   ·obtain⟨k,m,ks⟩:=t;have hv:=zfA ht;have hs:=zep ht;unfold okT at hs;rw[zaG,ac]at hs;have hs:=hs.1;change k=7 at h7;subst h7;simp[zaK]at hs;have hl:0<ks.length:=by omega
    obtain⟨X,h1,h2⟩:=ih n (by omega) (zcp (.mk 7 m ks)) (by
     rw[zcp,List.getD_eq_getElem?_getD,List.getElem?_eq_getElem hl];exact hv _ (ae hl))
    exact⟨.mk 7 m ks::X,by rw[List.length_cons];omega,.arr (by simp) rfl (h2.mono λx hx=>by simp[hx])⟩
   ·have hv:=λw (hw:w∈zaW data t)=>zr2 hD ht hw;have hih:∀ m,m≤n→∀ t,zaD data 0 t=true→∃ X:List VT,X.length≤gB m∧Rch data X m t:=λm hm t ht=>ih m (by omega) t ht
    suffices hX:∃X:List VT,X.length≤3*(gB n+gB (n-1)+gB (n-2))∧∀w∈zaW data t,∀(p:Nat) (h:p<w.2.length),Rch data X (n-p) w.2[p] by
     obtain⟨X,h1,h2⟩:=hX;exact⟨t::X,by rw[List.length_cons];omega,.mk (by simp) h7 λw hw p hp=>(h2 w hw p hp).mono λx hx=>by simp[hx]⟩
    by_cases h5:t.kind=5
    ·have h3:∀w∈zaW data t,w.2.length≤3:=by
      obtain⟨k,m,ks⟩:=t;change k=5 at h5;subst h5;intro w hw;rw[zaW,ap (by omega),aB rfl]at hw;obtain⟨c,_,hc⟩:=br.1 hw;cases hf:za7 data (.mk 5 m ks) c with
      |none=>rw[hf]at hc;cases hc
      |some l=>rw[hf]at hc;simp at hc;subst hc;exact zpA hk hf
     obtain⟨X,h1,h2⟩:=zyP (B:=gB n+gB (n-1)+gB (n-2)) (n:=n) (zaW data t) λw hw=>by obtain⟨X,h1,h2⟩:=zk3 hih w.2 0 (hv w hw);refine⟨X,aC h1 (sm3 n _ (h3 w hw)),λp hp=>?_⟩;have:=h2 p hp;rwa [aF]at this
     have hl:=aq (gB n+gB (n-1)+gB (n-2)) (zly hk t);exact⟨X,by omega,h2⟩
    ·obtain⟨k,m,ks⟩:=t;by_cases h68:k=6∨k=8
     ·have e:zaW data (.mk k m ks)=[(0,ks)]:=by rw[zaW,aB h68]
      have h6:ks.length≤6:=by have hs:=zep ht;unfold okT at hs;rw[zaG,ac]at hs;have hs:=hs.1;rcases h68 with rfl|rfl <;> simp[zaK]at hs <;> omega
      obtain⟨X,h1,h2⟩:=zk3 hih ks 0 (by rw[e]at hv;exact hv (0,ks) (by simp));refine⟨X,aC h1 (sm6 n _ h6),λw hw p hp=>?_⟩;rw[e]at hw;simp at hw;subst hw;have:=h2 p hp;rwa [aF]at this
     ·refine⟨[],by simp,λw hw=>?_⟩;rw[zaW,ap h68,ap (show ¬k=5 from h5)]at hw;simp at hw
end
def IdxOk(T:List VT)(ts:List VT)(is:List Nat):Prop:=is.map (λi=>T[i]?)=ts.map some
def ConOk(T:List VT):List (Int × List VT)→List (Int × List Nat)→Prop
 |[],[]=>True
 |w::ws,c::cs=>(w.1=c.1∧IdxOk T w.2 c.2)∧ConOk T ws cs
 |_,_=>False
theorem IdxOk.len{T ts:List VT}{is:List Nat}(h:IdxOk T ts is):is.length=ts.length:=by have:=congrArg List.length h;simpa using this
theorem IdxOk.mono{T T':List VT}(hT:T <+: T'):∀ {ts:List VT} {is:List Nat},IdxOk T ts is→IdxOk T' ts is
 |[],[],_=>rfl
 |[],i::is,h=>by simp[IdxOk]at h
 |t::ts,[],h=>by simp[IdxOk]at h
 |t::ts,i::is,h=>by simp only[IdxOk,aA,bk]at h ⊢;refine⟨?_,IdxOk.mono hT h.2⟩;obtain⟨E,rfl⟩:=hT;rw[List.getElem?_append_left (List.getElem?_eq_some_iff.1 h.1).1];exact h.1
theorem ConOk.mono{T T':List VT}(hT:T <+: T'):∀ {ws:List (Int × List VT)} {cs:List (Int × List Nat)},ConOk T ws cs→ConOk T' ws cs
 |[],[],_=>trivial
 |[],_::_,h=>h.elim
 |_::_,[],h=>h.elim
 |w::ws,c::cs,h=>⟨⟨h.1.1,h.1.2.mono hT⟩,ConOk.mono hT h.2⟩
theorem ConOk.snoc{T:List VT}{w:Int × List VT}{c:Int × List Nat}(h1:w.1=c.1)(h2:IdxOk T w.2 c.2):∀ {ws:List (Int × List VT)} {cs:List (Int × List Nat)},ConOk T ws cs→ConOk T (ws++[w]) (cs++[c])
 |[],[],_=>⟨⟨h1,h2⟩,trivial⟩
 |[],_::_,h=>h.elim
 |_::_,[],h=>h.elim
 |_::ws,_::cs,h=>⟨h.1,ConOk.snoc h1 h2 h.2⟩
structure Inv (data:List Dat) (kk:Nat) (X:List VT) (ex:Nat→Prop) (S:SS):Prop where
 ml:S.made.length=S.types.length
 cl:S.cons.length=S.types.length
 nd:S.types.Nodup
 vd:∀t∈S.types,zaD data 0 t=true
 sub:∀t∈S.types,t∈X
 con:∀(i:Nat) (t:VT),¬ex i→S.types[i]?=some t→S.made[i]?=some true→∀c,S.cons[i]?=some c→ConOk S.types (zaW data t) c
 cn:∀e∈S.cnt,∃(i m:Nat) (t:VT),e.1=((i:Int),(m:Int))∧S.types[i]?=some t∧e.2.getD 0=cV data kk t m
theorem zyh:∀ {l X:List VT},l.Nodup→(∀ x∈l,x∈X)→l.length≤X.length
 |[],X,_,_=>by simp
 |a::l,X,hn,hs=>by
  have ha:=hs a (by simp);obtain⟨s,t,rfl⟩:=List.append_of_mem ha;have h2:=zyh (l:=l) (X:=s++t) (List.nodup_cons.1 hn).2 λx hx=>by
   have:=hs x (by simp[hx]);simp at this;rcases this with h|rfl|h
   ·simp[h]
   ·exact absurd hx (List.nodup_cons.1 hn).1
   ·simp[h]
  simp at h2 ⊢;omega
theorem Inv.len{data:List Dat}{kk:Nat}{X:List VT}{ex:Nat→Prop}{S:SS}(h:Inv data kk X ex S):S.types.length≤X.length:=zyh h.nd h.sub
section
variable {data:List Dat} (hD:zaB data=true) {kk:Nat} {X:List VT} {ex:Nat→Prop} {S:SS}
include hD
theorem zKt(h:Inv data kk X ex S){t:VT}(ht:zaD data 0 t=true){i:Nat}(hi:zcP data S t=some i):S.types[i]?=some t:=by unfold zcP at hi;obtain⟨h1,h2,_⟩:=List.findIdx?_eq_some_iff_getElem.1 hi;rw[List.getElem?_eq_getElem h1];have:S.types[i]=t:=zKp hD (zep (h.vd _ (ae h1))) (zep ht) (by simpa using h2);rw[this]
theorem zKs(h:Inv data kk X ex S){t:VT}(hi:zcP data S t=none):t ∉ S.types:=by intro hm;unfold zcP at hi;rw[List.findIdx?_eq_none_iff]at hi;have:=hi t hm;simp at this
theorem zpO(t:VT):S.types <+: (idS data S t).types:=by
 unfold idS;split
 ·exact aX
 ·exact List.prefix_append _ _
theorem zjY(h:Inv data kk X ex S){t:VT}(ht:zaD data 0 t=true):(idS data S t).types[idN data S t]?=some t:=by
 unfold idS idN;cases hi:zcP data S t with
 |some i=>simpa using zKt hD h ht hi
 |none=>simp[zco]
theorem zjZ(h:Inv data kk X ex S){t:VT}(ht:zaD data 0 t=true)(hX:t∈X):Inv data kk X ex (idS data S t):=by
 unfold idS;cases hi:zcP data S t with
 |some i=>simpa using h
 |none=>
  have hn:=zKs hD h hi;simp only[Option.isSome_none,aD,aT];refine⟨by simp[zco,h.ml],by simp[zco,h.cl],?_,?_,?_,?_,?_⟩
  ·simp only[zco];rw[da];refine⟨h.nd,by simp,?_⟩;intro a ha b hb;simp at hb;subst hb;exactλe=>hn (e ▸ ha)
  ·intro u hu;simp[zco]at hu;rcases hu with hu | rfl
   ·exact h.vd u hu
   ·exact ht
  ·intro u hu;simp[zco]at hu;rcases hu with hu | rfl
   ·exact h.sub u hu
   ·exact hX
  ·intro i u hne hu hm c hc;simp only[zco]at hu hm hc ⊢;have hlt:i<S.made.length:=by
    by_cases hlt:i<S.made.length
    ·exact hlt
    ·rw[List.getElem?_append_right (by omega)]at hm;cases e:i-S.made.length with
     |zero=>rw[e]at hm;simp at hm
     |succ j=>rw[e]at hm;simp at hm
   rw[List.getElem?_append_left hlt]at hm;rw[List.getElem?_append_left (by rw[←h.ml];exact hlt)]at hu;rw[List.getElem?_append_left (by rw[h.cl,←h.ml];exact hlt)]at hc;exact(h.con i u hne hu hm c hc).mono (List.prefix_append _ _)
  ·intro e he;obtain⟨i,m,u,h1,h2,h3⟩:=h.cn e he;refine⟨i,m,u,h1,?_,h3⟩;simp only[zco];rw[List.getElem?_append_left (List.getElem?_eq_some_iff.1 h2).1];exact h2
end
def zaN(data:List Dat):SS→List VT→List Nat × SS
 |S,[]=>([],S)
 |S,t::ts=>(idN data S t::(zaN data (idS data S t) ts).1,(zaN data (idS data S t) ts).2)
theorem zwd(data:List Dat)(t:VT):∀ (ts:List VT) (S:SS),zaN data S (ts++[t])=((zaN data S ts).1++[idN data (zaN data S ts).2 t],idS data (zaN data S ts).2 t)
 |[],S=>rfl
 |u::ts,S=>by rw[List.cons_append,zaN,zaN,zwd data t ts];rfl
theorem zjA{data:List Dat}{S:SS}{ts:List VT}{j:Nat}(h:j<ts.length):zaN data S (ts.take (j+1))=((zaN data S (ts.take j)).1++[idN data (zaN data S (ts.take j)).2 ts[j]],idS data (zaN data S (ts.take j)).2 ts[j]):=by rw[aj h,zwd]
theorem zpa(data:List Dat):∀ (ts:List VT) (S:SS),(zaN data S ts).1.length=ts.length
 |[],_=>rfl
 |t::ts,S=>by rw[zaN,List.length_cons,List.length_cons,zpa data ts]
theorem zhV{data:List Dat}(hD:zaB data=true){kk:Nat}{X:List VT}{ex:Nat→Prop}:∀ (ts:List VT) (S:SS),Inv data kk X ex S→(∀ t∈ts,zaD data 0 t=true∧t∈X)→Inv data kk X ex (zaN data S ts).2∧S.types <+: (zaN data S ts).2.types∧IdxOk (zaN data S ts).2.types ts (zaN data S ts).1
 |[],S,h,_=>⟨h,aX,rfl⟩
 |t::ts,S,h,hv=>by have ht:=hv t (by simp);obtain⟨h1,h2,h3⟩:=zhV hD ts (idS data S t) (zjZ hD h ht.1 ht.2) λu hu=>hv u (by simp[hu]);have e:=zpO hD (S:=S) t;refine⟨h1,e.trans h2,?_⟩;simp only[zaN,IdxOk,aA,bk];refine⟨?_,h3⟩;have hg:=zjY hD h ht.1;obtain⟨E,hE⟩:=h2;rw[←hE,List.getElem?_append_left (List.getElem?_eq_some_iff.1 hg).1];exact hg
end Go.Proofs.YtaifokkaaahdoaaGreatDoor
