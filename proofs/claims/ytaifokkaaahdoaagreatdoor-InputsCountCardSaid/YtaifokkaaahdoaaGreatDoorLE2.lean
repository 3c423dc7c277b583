import Derived.Test.YtaifokkaaahdoaaGreatDoorKZ2
import Derived.Test.YtaifokkaaahdoaaGreatDoorLC4
import Derived.Test.YtaifokkaaahdoaaGreatDoorKGF1
import Derived.Test.YtaifokkaaahdoaaGreatDoorAbsQ1
import Derived.Test.YtaifokkaaahdoaaGreatDoorKGN1
set_option linter.unusedSimpArgs false
set_option linter.unusedVariables false
set_option maxRecDepth 8000
namespace Go.Proofs.YtaifokkaaahdoaaGreatDoor
open Go Go.Abs
theorem zpC(O:List Nat)(i x:Nat)(h:i<O.length):List.take i (us O)++AV.int .u32 (x:Int)::List.drop (i+1) (us O)=us (O.set i x):=by rw[←zpB O i x h];simp
theorem zvY{O:List Nat}(hO:∀x∈O,x<1000000000){i x:Nat}(hx:x<1000000000):∀y∈O.set i x,y<1000000000:=by
 intro y hy;rcases List.mem_or_eq_of_mem_set hy with hy|rfl
 ·exact hO y hy
 ·exact hx
theorem zNz(A B:List Nat)(lA:∀ x∈A,x<1000000000)(lB:∀ x∈B,x<1000000000)(ha:A.length≤1000)(hb:B.length≤A.length)(hle:zan B≤zan A)(H:zaa)(K:Kt)(hK:K (.sl (zaj (lim (zan A-zan B))) .none) H):
  ACalls tP zhC [.sl (zaj A) .none,.sl (zaj B) .none] H K:=by
 refine ACalls.out (zNx λhs=>?_);simp[zzM,zba];rw[zkk];refine⟨⟨by omega,by omega⟩,?_⟩;have hsc:∀O:List Nat,HSc (H++[.cells (us O)]):=λO=>hs.append (by simp[AB.sc,us,AV.scA,AV.scB]);have tk:∀i,zan (B.take (i+1))=zan (B.take i)+(if h:i<B.length then B[i] else 0)*1000000000 ^ i:=by
  intro i;by_cases h:i<B.length
  ·rw[dif_pos h,zcP B i h]
  ·rw[dif_neg h,List.take_of_length_le (by omega),List.take_of_length_le (by omega)];simp
 refine zNv (Inv:=λq t6 t7 H'=>∃ (i w:Nat) (O:List Nat),i≤A.length∧A.length-i=q∧t7=.int .i64 i∧t6=.int .u32 w∧w≤1∧O.length=A.length∧(∀ x∈O,x<1000000000) ∧
  zan (O.take i)+zan (B.take i)=zan (A.take i)+w*1000000000 ^ i∧H'=H++[.cells (us O)]) A.length ?_ ?_
 ·intro _;exact⟨0,0,_,by omega,rfl,rfl,rfl,by omega,by simp,by simp,by simp[zan],rfl⟩
 ·rintro q t6 t7 H' ⟨i,w,O,hi,rfl,rfl,rfl,hw,hOl,hO,hv,rfl⟩ hsc' hlen hsF Kb hKb;by_cases hlt:i<A.length
  ·have hxa:=lA A[i] (List.getElem_mem hlt);have hOi:i<O.length:=by omega
   have hstep:∀ s:Nat,s≤1000000000→s=w+(if h:i<B.length then B[i] else 0) →
     ziq (.sl (zaj A) .none) (.sl (zaj B) .none) (.ms H.length 0 A.length A.length) (.int .i64 i) (.int .u32 s) (H++[.cells (us O)]) (Out H.length K) Kb:=by
    intro s hs1 hs2;have hpw:1000000000 ^ (i+1)=1000000000 ^ i*1000000000:=Nat.pow_succ ..;have fin:∀ (x w':Nat),x<1000000000→w'≤1→x+s=A[i]+w'*1000000000 →
      Kb (zip (.sl (zaj A) .none) (.sl (zaj B) .none) (.ms H.length 0 A.length A.length) (.int .u32 w') (.int .i64 ((i:Int)+1))) (H++[.cells (us (O.set i x))]):=by
     intro x w' hx hw' he;refine hKb _ _ ⟨A.length-(i+1),by omega,Back.here (by simp) (hsc _) (by simp[zip,ux,AV.sc,AV.scA,AV.scB,AV.scV]) ⟨_,_,rfl,i+1,w',O.set i x,by omega,rfl,by simp,rfl,hw',by simp[hOl],zvY hO hx,?_,rfl⟩⟩;rw[zcP (O.set i x) i (by simpa using hOi),tk i,zcP A i hlt,List.take_set_of_le (Nat.le_refl _),List.getElem_set_self,hpw];generalize (if h:i<B.length then B[i] else 0)=b at *;grind
    by_cases hge:s≤A[i]
    ·have w1:IntKind.u32.wrap (((A[i]:Nat):Int)-(s:Int))=((A[i]-s:Nat):Int):=by rw[←Int.natCast_sub hge];exact zch (by omega)
     obtain⟨x,hx⟩:∃x,x=A[i]-s:=⟨_,rfl⟩;rw[←hx]at w1;have:=fin x 0 (by omega) (by omega) (by omega);simp only[ziq,zmj,zrL];simp[hlt,hge,w1,wi i (by omega),zpC O i x hOi,hOl];exact⟨by omega,by simpa using this⟩
    ·have w1:IntKind.u32.wrap (((A[i]:Nat):Int)+1000000000)=((A[i]+1000000000:Nat):Int):=by rw[show ((A[i]:Nat):Int)+1000000000=((A[i]+1000000000:Nat):Int) by omega];exact zch (by omega)
     obtain⟨x,hx⟩:∃x,x=A[i]+1000000000-s:=⟨_,rfl⟩;have w2:IntKind.u32.wrap (((A[i]:Nat):Int)+1000000000-(s:Int))=(x:Int):=by rw[show ((A[i]:Nat):Int)+1000000000-(s:Int)=(x:Int) by omega];exact zch (by omega)
     have:=fin x 1 (by omega) (by omega) (by omega);simp only[ziq,zmj,zrL];simp[hlt,hge,w1,w2,wi i (by omega),zpC O i x hOi,hOl];exact⟨by omega,by simpa using this⟩
   by_cases hB:i<B.length
   ·have hxb:=lB B[i] (List.getElem_mem hB);obtain⟨s,hs1⟩:∃ s,s=w+B[i]:=⟨_,rfl⟩;have w1:IntKind.u32.wrap ((w:Int)+(B[i]:Nat))=(s:Int):=by rw[hs1,←Int.natCast_add];exact zch (by omega)
    have:=hstep s (by omega) (by rw[hs1,dif_pos hB]);simp[zmi,hlt,hB,w1];exact this
   ·have:=hstep w (by omega) (by rw[dif_neg hB];rfl);simp[zmi,hlt,hB];exact this
  ·obtain rfl:i=A.length:=by omega
   rw[List.take_length,List.take_of_length_le (by omega),List.take_of_length_le (by omega)]at hv;have hOlt:=zdQ O hO;rw[hOl]at hOlt;have hw0:w=0:=by
    refine Nat.eq_zero_of_not_pos λh=>?_;have:w=1:=by omega
    subst this;omega
   subst hw0;simp[zmi];rw[←hOl];refine znC O hO (by omega) (by simp) ?_;rw[show zan O=zan A-zan B by omega];simp;exact Out.one hs (.atom (.sl _ _)) rfl rfl hK
theorem zHl(A:List Nat)(lA:∀ x∈A,x<1000000000)(ha:A.length≤1000)(d:Nat)(hd0:0<d)(hd:d<4294967296)(hdB:d≤1000000000)(H:zaa)(K:Kt)(hK:K (.tup [.sl (zaj (lim (zan A / d))) .none,.int .u64 ((zan A % d:Nat):Int)]) H):
  ACalls tP zoe [.sl (zaj A) .none,.int .u64 d] H K:=by
 refine ACalls.out (zHj λhs=>?_);have hst:IntKind.i64.wrap ((A.length:Int)-1)=(A.length:Int)-1:=zaB (by omega) (by omega);simp[zxl,zba,hst];rw[zkk];refine⟨⟨by omega,by omega⟩,?_⟩;have hsc:∀ O:List Nat,HSc (H++[.cells (us O)]):=λO=>hs.append (by simp[AB.sc,us,AV.scA,AV.scB]);refine zHh (Inv:=λq t7 t8 H'=>∃ (i r:Nat) (O:List Nat),i≤A.length∧i=q∧t8=.int .i64 ((i:Int)-1)∧t7=.int .u64 r∧r<d∧O.length=A.length∧(∀ x∈O,x<1000000000) ∧
  zan (A.drop i)=d*zan (O.drop i)+r∧H'=H++[.cells (us O)]) A.length ?_ ?_
 ·intro _;exact⟨A.length,0,_,by omega,rfl,rfl,rfl,by omega,by simp,by simp,by simp[zan],rfl⟩
 ·rintro q t7 t8 H' ⟨i,r,O,hi,rfl,rfl,rfl,hr,hOl,hO,hv,rfl⟩ hsc' hlen hsF Kb hKb;by_cases h0:i=0
  ·subst h0;simp[zp4];rw[List.drop_zero,List.drop_zero]at hv;rw[←hOl];refine znC O hO (by omega) (by simp) ?_;have e1:zan A / d=zan O:=by rw[hv,Nat.mul_add_div hd0,Nat.div_eq_of_lt hr];simp
   have e2:zan A % d=r:=by rw[hv,Nat.mul_add_mod,Nat.mod_eq_of_lt hr]
   rw[e1,e2]at hK;simp;exact⟨⟨rfl,rfl⟩,Out.tup (bs:=[.sl (zaj (lim (zan O))) .none,.int .u64 (r:Int)]) hs hK ⟨slV,zcO rfl rfl,trivial⟩⟩
  ·obtain⟨j,rfl⟩:∃ j,i=j+1:=⟨i-1,by omega⟩;have hja:j<A.length:=by omega
   have hjO:j<O.length:=by omega
   have hxa:=lA A[j] (List.getElem_mem hja);have ej:((j+1:Nat):Int)-1=(j:Int):=by omega
   have hstep:IntKind.i64.wrap ((j:Int)-1)=(j:Int)-1:=zaB (by omega) (by omega);have hrB:r*1000000000≤1000000000*1000000000:=Nat.mul_le_mul_right _ (by omega);obtain⟨m,hm⟩:∃m,m=r*1000000000:=⟨_,rfl⟩;have w1:IntKind.u64.wrap ((r:Int)*1000000000)=(m:Int):=by rw[show (r:Int)*1000000000=(m:Int) by omega];exact zbu (by omega)
   have w2:IntKind.u64.wrap ((A[j]:Nat):Int)=A[j]:=zbu (by omega);obtain⟨s,hs1⟩:∃s,s=m+A[j]:=⟨_,rfl⟩;have w3:IntKind.u64.wrap ((m:Int)+(A[j]:Nat))=(s:Int):=by rw[hs1,←Int.natCast_add];exact zbu (by omega)
   obtain⟨x,c,hx1,hx2,e1,e2⟩:=zCv s d hd0 (by omega);have hcB:c<1000000000:=by
    refine Nat.lt_of_not_le λh=>?_;have h1:d*1000000000≤d*c:=Nat.mul_le_mul_left _ h;have h2:r*1000000000+1000000000≤d*1000000000:=by rw[←Nat.succ_mul];exact Nat.mul_le_mul_right _ hr
    omega
   have w4:IntKind.u32.wrap (c:Int)=c:=zch (by omega);rw[ej];simp only[zp4];simp[hja,w1,w2,w3,e1,e2,w4,hstep,zpC O j c hjO,hOl];refine⟨by omega,hKb _ _ ⟨j,by omega,Back.here (by simp) (hsc _) (by simp[zkL,ux,AV.sc,AV.scA,AV.scB,AV.scV]) ⟨_,_,rfl,j,x,O.set j c,by omega,rfl,rfl,rfl,hx1,by simp[hOl],zvY hO hcB,?_,rfl⟩⟩⟩;rw[zuR A j hja,zuR (O.set j c) j (by simpa using hjO),List.getElem_set_self,List.drop_set_of_lt (by omega),hv];rw[hs1,hm]at hx2;generalize zan (O.drop (j+1))=Z at *;grind
theorem zsD(a b:Nat)(ha:(lim a).length≤1000)(hb0:0<b)(hb:b<1000000000)(H:zaa)(K:Kt)(hK:K (.tup [.sl (zaj (lim (a / b))) .none,.sl (zaj (lim (a % b))) .none]) H):
  ACalls tP zhK [.sl (zaj (lim a)) .none,.sl (zaj (lim b)) .none] H K:=by
 refine ACalls.out (zP7 λhs=>?_);have hlb:lim b=[b]:=zgh (by omega) hb;simp only[zAM];refine zzL a b ha (by rw[hlb];simp) _ _ ?_;have hcz:(zbh a b<0)↔a<b:=by
  unfold zbh;split
  ·simp;assumption
  ·split <;> simp <;> omega
 by_cases hlt:a<b
 ·simp[hcz,hlt];refine zsF (lim a) (by omega) _ _ ?_;rw[zfF _ (zbI a),zbo];rw[Nat.div_eq_of_lt hlt,Nat.mod_eq_of_lt hlt,zuG]at hK;refine⟨⟨rfl,rfl⟩,?_⟩;exact Out.tup0 (bs:=[.sl (zaj []) .none,.sl (zaj (lim a)) .none]) hs hK ⟨zhV,slV,trivial⟩
 ·have w1:IntKind.u64.wrap (b:Int)=b:=zbu (by omega);have hm:a % b<b:=Nat.mod_lt _ hb0;simp[hcz,hlt,hlb,w1];refine zHl (lim a) (zbI a) ha b hb0 (by omega) (by omega) _ _ ?_;rw[zbo];simp;refine zzC (a % b) (by omega) _ _ ?_;refine⟨⟨rfl,rfl⟩,?_⟩;exact Out.tup0 (bs:=[.sl (zaj (lim (a / b))) .none,.sl (zaj (lim (a % b))) .none]) hs hK ⟨slV,slV,trivial⟩
theorem zP2(a b:Nat)(ha:(lim a).length≤1000)(hb:b<1000000000)(H:zaa)(K:Kt)(hK:K (.sl (zaj (lim (Nat.gcd a b))) .none) H):
  ACalls tP zoQ [.sl (zaj (lim a)) .none,.sl (zaj (lim b)) .none] H K:=by
 refine ACalls.out (zP0 λhs=>?_);unfold zAK;refine zPY (Inv:=λq t0 t1 H'=>∃x y:Nat,y=q∧t0=.sl (zaj (lim x)) .none∧t1=.sl (zaj (lim y)) .none∧(lim x).length≤1000∧y<1000000000∧Nat.gcd x y=Nat.gcd a b∧H'=H) b ?_ ?_
 ·intro _;exact⟨a,b,rfl,rfl,rfl,ha,hb,rfl,rfl⟩
 ·rintro q t0 t1 H' ⟨x,y,rfl,rfl,rfl,hx,hy,hg,rfl⟩ hsc' hlen hsF Kb hKb;by_cases h0:y=0
  ·subst h0;rw[Nat.gcd_zero_right]at hg;subst hg;simp[zsA];exact Out.one0 hs (.atom (.sl _ _)) rfl rfl hK
  ·have hly:lim y=[y]:=zgh h0 hy;have hm:x % y<y:=Nat.mod_lt _ (by omega);simp[zsA,show 0<(lim y).length by rw[hly];simp];refine zsD x y hx (by omega) hy _ _ ?_;simp;refine hKb _ _ ⟨x % y,hm,Back.here (by simp) hs (by simp[zmX,ux,AV.sc,AV.scA,AV.scB,AV.scV]) ⟨_,_,rfl,y,x % y,rfl,rfl,rfl,by rw[hly];simp,by omega,?_,rfl⟩⟩;rw[←hg,Nat.gcd_comm x y,Nat.gcd_rec y x,Nat.gcd_comm]
def zav(z:Int):List AV:=[.bool (decide (z<0)),.sl (zaj (lim z.natAbs)) .none,.sl (zaj [1]) .none]
theorem zMS(neg:Bool)(N D:List Nat)(hN:∀ x∈N,x<4294967296)(hD:∀ x∈D,x<4294967296)(hNl:N.length≤10000)(hDl:D.length≤10000)(n:Nat)(hnl:(lim n).length≤900)(d:Nat)(hd0:0<d)(hd:d<1000000000)(hn:zan N=n*d)(hdv:zan D=d)(H:zaa)(K:Kt)(hK:K (.agg (zav (if neg then -(n:Int) else n))) H):
  ACalls tP zc9 [.bool neg,.sl (zaj N) .none,.sl (zaj D) .none] H K:=by
 refine ACalls.out (zMR λhs=>?_);have hld:lim d=[d]:=zgh (by omega) hd;simp[zzz];refine zAJ N hN (by omega) _ _ ?_;refine zAJ D hD (by omega) _ _ ?_;rw[hn,hdv];have hnd:(lim (n*d)).length≤1000:=by
  have h1:=zdQ (lim n) (zbI n);rw[zbo]at h1;have h2:n*d<1000000000 ^ ((lim n).length+1):=by rw[Nat.pow_succ];exact Nat.mul_lt_mul'' h1 hd
  have:=zbY h2;omega
 by_cases h0:n=0
 ·subst h0;have e0:(if neg=true then -((0:Nat):Int) else ((0:Nat):Int))=0:=by cases neg <;> rfl
  rw[e0]at hK;simp[zar,za3,plain,AV.pd,zaq,zaN,zc8];have e1:zav 0=[.bool false,.sl [] .none,.sl [[.int .u32 1]] .none]:=by simp[zav,zaj]
  rw[e1]at hK;exact Out.one hs (WkV.agg (ds:=[.bool false,.sl [] .none,.sl [[.int .u32 1]] .none]) ⟨.refl _,.snil,.sl _ _,trivial⟩) rfl (by simp[AV.scV,AV.scA,AV.scB]) hK
 ·have hpos:0<(lim (n*d)).length:=by rw[zcf (Nat.mul_ne_zero h0 (by omega))];simp
  have hg:Nat.gcd (n*d) d=d:=Nat.gcd_eq_right (Nat.dvd_mul_left d n);have hb0:(((lim (n*d)).length:Int) == 0)=false:=by generalize (lim (n*d)).length=q at hpos;simp;omega
  have hfin:zl1 (.bool neg) (.sl (zaj (lim n)) .none) (.sl (zaj [1]) .none) (.ptr H.length 0) (H++[.cells [.bool false,.snil,.snil]]) (Out H.length K):=by
   simp[zl1,zaq,zaN,zc8];have e1:zav (if neg=true then -(n:Int) else n)=[.bool neg,.sl (zaj (lim n)) .none,.sl (zaj [1]) .none]:=by
    cases neg
    ·simp[zav]
    ·simp[zav];omega
   rw[e1]at hK;exact Out.one hs (WkV.agg (ds:=[.bool neg,.sl (zaj (lim n)) .none,.sl (zaj [1]) .none]) ⟨.refl _,.sl _ _,.sl _ _,trivial⟩) rfl (by simp[AV.scV,AV.scA,AV.scB]) hK
  simp[hb0,hld];rw[show ([d]:List Nat)=lim d from hld.symm];refine zP2 (n*d) d hnd hd _ _ ?_;rw[hg,hld];by_cases hd1:d=1
  ·subst hd1;simp;simpa using hfin
  ·have hne:((d:Int) != 1)=true:=by simp;omega
   simp[hne];rw[show ([d]:List Nat)=lim d from hld.symm];refine zsD (n*d) d hnd hd0 hd _ _ ?_;simp;refine zsD d d (by rw[hld];simp) hd0 hd _ _ ?_;rw[Nat.div_self hd0,Nat.mul_div_cancel _ hd0,show lim 1=[1] from zgh (by omega) (by omega)];simp;exact hfin
def Sm(z:Int):Prop:=z.natAbs<1000000000 ^ 30
theorem Sm.len{z:Int}(h:Sm z):(lim z.natAbs).length≤30:=zbY h
theorem zeQ:lim 1=[1]:=zgh (by omega) (by omega)
theorem znZ(n:Nat):∀x∈lim n,x<4294967296:=λx hx=>by have:=zbI n x hx;omega
@[simp] theorem zT0(z:Int):(zav z).length=3:=rfl
@[simp] theorem zvD(z:Int):(zav z).all AV.known=true:=rfl
theorem zcu{H J:zaa}{K:Kt}{z:Int}(hs:HSc H)(hK:K (.agg (zav z)) H):Out H.length K (.agg (zav z)) (H++J):=Out.one hs .rfl' rfl rfl hK
theorem zBV(neg:Bool)(n d:Nat)(hn:n*d<1000000000 ^ 100)(hd0:0<d)(hd:d<1000000000){z:Int}(hz:(if neg=true then -(n:Int) else n)=z)(H:zaa)(K:Kt)(hK:K (.agg (zav z)) H):
  ACalls tP zc9 [.bool neg,.sl (zaj (lim (n*d))) .none,.sl (zaj (lim d)) .none] H K:=by
 subst hz;have h1:=zbY hn;have h2:n<1000000000 ^ 100:=Nat.lt_of_le_of_lt (Nat.le_mul_of_pos_right n hd0) hn;have h3:=zbY h2;exact zMS neg _ _ (znZ _) (znZ _) (by omega) (by rw[zgh (by omega) hd];simp) n (by omega) d hd0 hd (zbo _) (zbo _) H K hK
theorem zfp(neg:Bool)(n:Nat)(hn:n<1000000000 ^ 100){z:Int}(hz:(if neg=true then -(n:Int) else n)=z)(H:zaa)(K:Kt)(hK:K (.agg (zav z)) H):
  ACalls tP zc9 [.bool neg,.sl (zaj (lim n)) .none,.sl (zaj [1]) .none] H K:=by
 have:=zBV neg n 1 (by simpa using hn) (by omega) (by omega) hz H K hK;rwa [zeQ,Nat.mul_one]at this
theorem zti:(1000000000:Nat) ^ 30≤1000000000 ^ 100:=Nat.pow_le_pow_right (by omega) (by omega)
theorem zu0{a b:Nat}(ha:a<1000000000 ^ 30)(hb:b<1000000000 ^ 30):a*b<1000000000 ^ 100:=by have:=Nat.mul_lt_mul'' ha hb;rw[←Nat.pow_add]at this;exact Nat.lt_of_lt_of_le this (Nat.pow_le_pow_right (by omega) (by omega))
theorem zqO(n:Nat)(hn:n<9223372036854775808)(H:zaa)(K:Kt)(hK:K (.agg (zav n)) H):ACalls tP zhu [.int .i64 n] H K:=by
 refine ACalls.out (zJJ λhs=>?_);have w1:IntKind.u64.wrap (n:Int)=n:=zbu (by omega);have h0:¬((n:Int)<0):=by omega
 simp[zyj,h0,w1];refine zzC n (by omega) _ _ ?_;simp[zar,za3,plain,AV.pd];refine ACalls.wk (args':=[.bool false,.sl (zaj (lim n)) .none,.sl (zaj [1]) .none]) (zfp false n (by omega) (z:=n) (by simp) _ _ ?_) ⟨.rfl',.rfl',.atom (.sl _ _),trivial⟩;simp[zvD];exact zcu hs hK
theorem zin(z:Int)(hz:Sm z)(H:zaa)(K:Kt)(hK:K (.agg (zav z)) H):ACalls tP zfA [.agg (zav z)] H K:=by refine ACalls.out (zM7 λhs=>?_);simp[zzD,zav];refine zfp _ _ (Nat.lt_of_lt_of_le hz zti) (z:=z) (by split <;> simp_all <;> omega) _ _ ?_;simp;exact zcu hs hK
theorem zOW(z:Int)(hz:Sm z)(H:zaa)(K:Kt)(hK:K (.agg (zav (-z))) H):ACalls tP zoO [.agg (zav z)] H K:=by refine ACalls.out (zOV λhs=>?_);simp[zAi,zav];refine zfp _ _ (Nat.lt_of_lt_of_le hz zti) (z:=-z) (by split <;> simp_all <;> omega) _ _ ?_;simp;exact zcu hs hK
theorem zL4(z:Int)(hz:Sm z)(H:zaa)(K:Kt)(hK:K (.int .i64 z.sign) H):ACalls tP zoF [.agg (zav z)] H K:=by
 refine ACalls.out (zL3 λhs=>?_);simp[zzd,zav];refine zin z hz _ _ ?_;simp[zav];by_cases h0:z=0
 ·subst h0;simp;exact Out.int (J:=_) rfl (Nat.le_refl _) hs hK
 ·have hp:0<(lim z.natAbs).length:=by rw[zcf (by omega)];simp
  have hb:(((lim z.natAbs).length:Int) == 0)=false:=by generalize (lim z.natAbs).length=q at hp;simp;omega
  simp[hb];by_cases hn:z<0
  ·simp[hn];rw[Int.sign_eq_neg_one_of_neg hn]at hK;exact Out.int (J:=_) rfl (Nat.le_refl _) hs hK
  ·simp[hn];rw[Int.sign_eq_one_of_pos (by omega)]at hK;exact Out.int (J:=_) rfl (Nat.le_refl _) hs hK
theorem zn9(a b:Nat)(ha:a<1000000000 ^ 30)(hb:b<1000000000 ^ 30)(H:zaa)(K:Kt)(hK:K (.sl (zaj (lim (a*b))) .none) H):ACalls tP zdS [.sl (zaj (lim a)) .none,.sl (zaj (lim b)) .none] H K:=by have h1:=zbY ha;have h2:=zbY hb;refine zNf (lim a) (lim b) (zbI a) (zbI b) (by omega) (by omega) _ _ ?_;rw[zbo,zbo];exact hK
theorem zgo:(1:Nat)<1000000000 ^ 30:=by decide
theorem zuX(H:zaa)(K:Kt)(hK:K (.sl (zaj [1]) .none) H):ACalls tP zdS [.sl (zaj [1]) .none,.sl (zaj [1]) .none] H K:=by have:=zn9 1 1 zgo zgo H K (by rw[Nat.mul_one,zeQ];exact hK);rwa [zeQ]at this
theorem zuZ(a:Nat)(ha:a<1000000000 ^ 30)(H:zaa)(K:Kt)(hK:K (.sl (zaj (lim a)) .none) H):ACalls tP zdS [.sl (zaj (lim a)) .none,.sl (zaj [1]) .none] H K:=by have:=zn9 a 1 ha zgo H K (by rw[Nat.mul_one];exact hK);rwa [zeQ]at this
theorem zEq(a b:Int):(if (decide (a<0) != decide (b<0))=true then -((a.natAbs*b.natAbs:Nat):Int) else ((a.natAbs*b.natAbs:Nat):Int))=a*b:=by
 rw[←Int.natAbs_mul];by_cases ha:a<0 <;> by_cases hb:b<0 <;> simp[ha,hb]
 ·have:=Int.mul_pos_of_neg_of_neg ha hb;omega
 ·have:=Int.mul_nonpos_of_nonpos_of_nonneg (Int.le_of_lt ha) (by omega:0≤b);omega
 ·have:=Int.mul_nonpos_of_nonneg_of_nonpos (by omega:0≤a) (Int.le_of_lt hb);omega
 ·have:=Int.mul_nonneg (by omega:0≤a) (by omega:0≤b);omega
theorem zKb(a b:Int)(ha:Sm a)(hb:Sm b)(H:zaa)(K:Kt)(hK:K (.agg (zav (a*b))) H):ACalls tP zos [.agg (zav a),.agg (zav b)] H K:=by refine ACalls.out (zKa λhs=>?_);simp[zyr,zav,Nat.add_assoc];refine zaC (.agg (zav a)) (λJ=>zin a ha _ _ ⟨rfl,rfl⟩) ?_;refine zaC (.agg (zav b)) (λJ=>zin b hb _ _ ⟨rfl,rfl⟩) ?_;simp[zav,AV.known,Nat.add_assoc];refine zaC (.sl (zaj (lim (a.natAbs*b.natAbs))) .none) (λJ=>zn9 _ _ ha hb _ _ ⟨rfl,rfl⟩) ?_;refine zaC (.sl (zaj [1]) .none) (λJ=>zuX _ _ ⟨rfl,rfl⟩) ?_;refine zaC (.agg (zav (a*b))) (λJ=>zfp _ _ (zu0 ha hb) (zEq a b) _ _ ⟨rfl,rfl⟩) ?_;simp[Nat.add_assoc];exact zcu hs hK
theorem zyq(a b:Int)(ha:Sm a)(hb:Sm b)(H:zaa)(K:Kt)(hK:K (.agg (zav (a+b))) H):ACalls tP zjq [.agg (zav a),.agg (zav b)] H K:=by
 refine ACalls.out (zJO λhs=>?_);have la:=ha.len;have lb:=hb.len;simp[zyo,zav,Nat.add_assoc];refine zaC (.agg (zav a)) (λJ=>zin a ha _ _ ⟨rfl,rfl⟩) ?_;refine zaC (.agg (zav b)) (λJ=>zin b hb _ _ ⟨rfl,rfl⟩) ?_;simp[zav,AV.known,Nat.add_assoc];refine zaC (.sl (zaj (lim a.natAbs)) .none) (λJ=>zuZ _ ha _ _ ⟨rfl,rfl⟩) ?_;refine zaC (.sl (zaj (lim b.natAbs)) .none) (λJ=>zuZ _ hb _ _ ⟨rfl,rfl⟩) ?_;refine zuX _ _ ?_;simp[Nat.add_assoc];have hbig:∀n:Nat,n≤a.natAbs+b.natAbs→n<1000000000 ^ 100:=by
  intro n hn;have h1:(1000000000:Nat) ^ 30+1000000000 ^ 30≤1000000000 ^ 100:=by decide
  unfold Sm at ha hb;omega
 have hsub:∀x y:Int,Sm x→Sm y→y.natAbs≤x.natAbs→∀(H:zaa) (K:Kt),K (.sl (zaj (lim (x.natAbs-y.natAbs))) .none) H→ACalls tP zhC [.sl (zaj (lim x.natAbs)) .none,.sl (zaj (lim y.natAbs)) .none] H K:=by intro x y hx hy hxy H K hK;refine zNz (lim x.natAbs) (lim y.natAbs) (zbI _) (zbI _) (by have:=hx.len;omega) ?_ (by rw[zbo,zbo];exact hxy) _ _ (by rw[zbo,zbo];exact hK);refine Nat.le_of_not_lt λh=>?_;have:=zho h;omega
 by_cases hsg:decide (a<0)=decide (b<0)
 ·have hsg':(decide (a<0) == decide (b<0))=true:=by simpa using hsg
  simp[hsg',Nat.add_assoc];refine zaC (.sl (zaj (lim (a.natAbs+b.natAbs))) .none) (λJ=>zNm _ _ (zbI _) (zbI _) (by omega) (by omega) _ _ (by rw[zbo]) (by rw[zbo]) (by rw[zbo,zbo];exact⟨rfl,rfl⟩)) ?_;refine zaC (.agg (zav (a+b))) (λJ=>zfp _ _ (hbig _ (Nat.le_refl _)) (by
   by_cases h1:a<0 <;> by_cases h2:b<0 <;> simp[h1,h2]at hsg ⊢ <;> omega) _ _ ⟨rfl,rfl⟩) ?_
  simp[Nat.add_assoc];exact zcu hs hK
 ·have hsg':(decide (a<0) == decide (b<0))=false:=by simpa using hsg
  simp[hsg',Nat.add_assoc];refine zzL _ _ (by omega) (by omega) _ _ ?_;have hcz:(0≤zbh a.natAbs b.natAbs)↔b.natAbs≤a.natAbs:=by
   unfold zbh;split
   ·simp;omega
   ·split <;> simp <;> omega
  by_cases hle:b.natAbs≤a.natAbs
  ·simp[hcz,hle,Nat.add_assoc];refine zaC (.sl (zaj (lim (a.natAbs-b.natAbs))) .none) (λJ=>hsub a b ha hb hle _ _ ⟨rfl,rfl⟩) ?_;refine zaC (.agg (zav (a+b))) (λJ=>zfp _ _ (hbig _ (by omega)) (by
    by_cases h1:a<0 <;> by_cases h2:b<0 <;> simp[h1,h2]at hsg ⊢ <;> omega) _ _ ⟨rfl,rfl⟩) ?_
   simp[Nat.add_assoc];exact zcu hs hK
  ·simp[hcz,hle,Nat.add_assoc];refine zaC (.sl (zaj (lim (b.natAbs-a.natAbs))) .none) (λJ=>hsub b a hb ha (by omega) _ _ ⟨rfl,rfl⟩) ?_;refine zaC (.agg (zav (a+b))) (λJ=>zfp _ _ (hbig _ (by omega)) (by
    by_cases h1:a<0 <;> by_cases h2:b<0 <;> simp[h1,h2]at hsg ⊢ <;> omega) _ _ ⟨rfl,rfl⟩) ?_
   simp[Nat.add_assoc];exact zcu hs hK
theorem Sm.neg{z:Int}(h:Sm z):Sm (-z):=by unfold Sm at h ⊢;rwa [Int.natAbs_neg]
theorem zMe(a b:Int)(ha:Sm a)(hb:Sm b)(H:zaa)(K:Kt)(hK:K (.agg (zav (a-b))) H):ACalls tP zoH [.agg (zav a),.agg (zav b)] H K:=by refine ACalls.out (zMd λhs=>?_);simp[zzf,zav,Nat.add_assoc];refine zaC (.agg (zav (-b))) (λJ=>zOW b hb _ _ ⟨rfl,rfl⟩) ?_;refine zaC (.agg (zav (a-b))) (λJ=>zyq a (-b) ha hb.neg _ _ ⟨by rw[Int.sub_eq_add_neg],rfl⟩) ?_;simp[Nat.add_assoc];exact zcu hs hK
theorem zCX(L:List Nat)(hL:L.length≤100000)(H:zaa)(K:Kt)(hK:K (.bool (decide (L=[1]))) H):ACalls tP zjo [.sl (zaj L) .none] H K:=by
 refine ACalls.out (zJc λhs=>?_);have hO:∀b,b=decide (L=[1])→Out H.length K (.bool b) H:=λb hb=>Out.bool (J:=[]) (by simp) (Nat.le_refl _) hs (by rw[hb];exact hK)
 match L with
 |[]=>simp[zk9];exact hO false (by simp)
 |[x]=>
  simp[zk9,zaj];refine hO _ ?_;by_cases h:x=1
  ·subst h;rfl
  ·have hb:((x:Int) == 1)=false:=by simp;omega
   rw[hb];simp[h]
 |x::y::l=>
  have hb:((l.length:Int)+1+1 == 1)=false:=by simp;omega
  simp[zk9,hb];exact hO false (by simp)
theorem zDd(neg:Bool)(n:Nat)(hn:(lim n).length≤1000)(H:zaa)(K:Kt)(hK:K (.agg (zav (if neg=true then -(n:Int) else n))) H):
  ACalls tP zoc [.agg [.bool neg,.sl (zaj (lim n)) .none,.sl (zaj [1]) .none]] H K:=by
 refine ACalls.out (zGx λhs=>?_);by_cases h0:n=0
 ·subst h0;have e0:(if neg=true then -((0:Nat):Int) else ((0:Nat):Int))=0:=by cases neg <;> rfl
  have e1:zav 0=[.bool false,.sl [] .none,.sl [[.int .u32 1]] .none]:=by simp[zav,zaj]
  rw[e0,e1]at hK;simp[zpO,zar,za3,plain,AV.pd,zaq,zaN,zc8,Nat.add_assoc];exact Out.one hs (WkV.agg (ds:=[.bool false,.sl [] .none,.sl [[.int .u32 1]] .none]) ⟨.refl _,.snil,.sl _ _,trivial⟩) rfl (by simp[AV.scV,AV.scA,AV.scB]) hK
 ·have hp:0<(lim n).length:=by rw[zcf h0];simp
  have hb:(((lim n).length:Int) == 0)=false:=by generalize (lim n).length=q at hp;simp;omega
  have e1:zav (if neg=true then -(n:Int) else n)=[.bool neg,.sl (zaj (lim n)) .none,.sl (zaj [1]) .none]:=by
   cases neg
   ·simp[zav]
   ·simp[zav];omega
  rw[e1]at hK;simp[zpO,hb,Nat.add_assoc];refine zCX [1] (by simp) _ _ ?_;simp[Nat.add_assoc];exact Out.one hs (WkV.agg (ds:=[.bool neg,.sl (zaj (lim n)) .none,.sl (zaj [1]) .none]) ⟨.refl _,.sl _ _,.sl _ _,trivial⟩) rfl (by simp[AV.scV,AV.scA,AV.scB]) hK
theorem zj9(neg:Bool)(n:Nat)(hn:(lim n).length≤1000){z:Int}(hz:(if neg=true then -(n:Int) else n)=z)(H:zaa)(K:Kt)(hK:K (.agg (zav z)) H):
  ACalls tP zgm [.agg [.bool neg,.sl (zaj (lim n)) .none,.sl (zaj [1]) .none]] H K:=by
 refine ACalls.out (zOu λhs=>?_);simp[zz7,Nat.add_assoc];refine zDd neg n hn _ _ ?_;rw[hz];simp[zav,zaq,zaN,zc8,AV.known,Nat.add_assoc];exact zcu hs hK
theorem zDc(z:Int)(hz:(lim z.natAbs).length≤1000)(H:zaa)(K:Kt)(hK:K (.agg (zav z)) H):ACalls tP zdr [.agg (zav z)] H K:=by
 refine ACalls.out (zz6 λhs=>?_);simp[zr2,zav,Nat.add_assoc];refine zaC (.sl (zaj (lim z.natAbs)) .none) (λJ=>zoU _ (znZ _) (by omega) _ _ (by rw[zbo];exact⟨rfl,rfl⟩)) ?_;refine zaC (.sl (zaj [1]) .none) (λJ=>zoU [1] (by simp) (by simp) _ _ (by simp[zan,zeQ])) ?_;by_cases h0:z=0
 ·subst h0;have e1:zav 0=[.bool false,.sl [] .none,.sl [[.int .u32 1]] .none]:=by simp[zav,zaj]
  rw[e1]at hK;simp[zar,za3,plain,AV.pd,zaq,zaN,zc8,Nat.add_assoc];exact Out.one hs (WkV.agg (ds:=[.bool false,.sl [] .none,.sl [[.int .u32 1]] .none]) ⟨.refl _,.snil,.sl _ _,trivial⟩) rfl (by simp[AV.scV,AV.scA,AV.scB]) hK
 ·have hp:0<(lim z.natAbs).length:=by rw[zcf (by omega)];simp
  have hb:(((lim z.natAbs).length:Int) == 0)=false:=by generalize (lim z.natAbs).length=q at hp;simp;omega
  simp[hb,zaq,zaN,zc8,AV.known,Nat.add_assoc];exact zcu hs hK
theorem zDp(n:Nat)(hn:n<9223372036854775808)(H:zaa)(K:Kt)(hK:K (.sl (zaj (lim n)) .none) H):ACalls tP zoP [.int .i64 n] H K:=by
 refine ACalls.out (zPv λhs=>?_);have w1:IntKind.u64.wrap (n:Int)=n:=zbu (by omega);have h0:¬((n:Int)<0):=by omega
 simp[zAy,h0,w1];refine zCE n (by omega) _ _ ?_;exact Out.one0 hs (.atom (.sl _ _)) rfl rfl hK
theorem zfd(n:Nat)(hn:n<9223372036854775808)(H:zaa)(K:Kt)(hK:K (.agg (zav n)) H):ACalls tP zeV [.int .i64 n] H K:=by
 refine ACalls.out (zMA λhs=>?_);have h0:decide ((n:Int)<0)=false:=by simp
 have hl:=zbY (n:=n) (k:=3) (by omega);simp[zzs,Nat.add_assoc];refine zDp n hn _ _ ?_;simp[h0,zar,za3,plain,AV.pd,zaq,zaN,zc8,AV.known,Nat.add_assoc];refine ACalls.wk (args':=[.agg [.bool false,.sl (zaj (lim n)) .none,.sl (zaj [1]) .none]]) (zj9 false n (by omega) (z:=n) (by simp) _ _ ?_) ⟨.agg ⟨.refl _,.refl _,.sl _ _,trivial⟩,trivial⟩;simp[zvD,Nat.add_assoc];exact zcu hs hK
theorem zn8(a b:Nat)(ha:a<1000000000 ^ 30)(hb:b<1000000000 ^ 30)(H:zaa)(K:Kt)(hK:K (.sl (zaj (lim (a*b))) .none) H):ACalls tP zcC [.sl (zaj (lim a)) .none,.sl (zaj (lim b)) .none] H K:=by have h1:=zbY ha;have h2:=zbY hb;refine zDr (lim a) (lim b) (zbI a) (zbI b) (by omega) (by omega) _ _ ?_;rw[zbo,zbo];exact hK
theorem zuY(H:zaa)(K:Kt)(hK:K (.sl (zaj [1]) .none) H):ACalls tP zcC [.sl (zaj [1]) .none,.sl (zaj [1]) .none] H K:=by have:=zn8 1 1 zgo zgo H K (by rw[Nat.mul_one,zeQ];exact hK);rwa [zeQ]at this
structure SI where
 p:Nat
 im:Nat
 it:Nat
 ia:Nat
 ic:Nat
 mc:Nat
structure SI.Ok (I:SI):Prop where
 a1:I.p≠I.im
 a2:I.p≠I.it
 a3:I.p≠I.ia
 a4:I.p≠I.ic
 a5:I.p≠I.mc
 b1:I.im≠I.it
 b2:I.im≠I.ia
 b3:I.im≠I.ic
 b4:I.im≠I.mc
 c1:I.it≠I.ia
 c2:I.it≠I.ic
 c3:I.it≠I.mc
 d1:I.ia≠I.ic
 d2:I.ia≠I.mc
 e1:I.ic≠I.mc
structure SS where
 types:List VT
 made:List Bool
 cons:List (List (Int×List Nat))
 cnt:List ((Int×Int)×Option Nat)
def zcd(data:List Dat):List VT→Nat→List (List UInt8 × AV)
 |[],_=>[]
 |t::ts,k=>(txt data t,.int .i64 k)::zcd data ts (k+1)
def zbM(ws:List (Int×List Nat)):List (List AV):=ws.map λw=>[.int .i64 w.1,.sl (w.2.map λi:Nat=>[AV.int .i64 i]) .none]
def zca(ws:List (Int×List Nat)):AV:=.sl (zbM ws) .none
def zal:Option Nat→List AV
 |none=>[.bool false,.snil,.snil]
 |some n=>zav (n:Int)
theorem zcT(m:Nat)(o:Option Nat):(zal o).all (AV.scA m)=true:=by
 cases o with
 |none=>rfl
 |some n=>simp[zal,zav,AV.scA,AV.scB]
def zdm(l:List ((Int×Int)×Option Nat)):List ((Int×Int)×AV):=l.map λe=>(e.1,.agg (zal e.2))
def zbD(ts:List VT):List AV:=(ts.map VT.cs).flatten
section
variable (data:List Dat) (kk:Int) (I:SI)
def zaY(S:SS)(x:Nat):Option AB:=
 if x=I.p then some (.cells [.sl (data.map Dat.cs) .none,.int .i64 kk,.map I.im,.ov I.it S.types.length,.ov I.ia S.types.length,.ov I.ic S.types.length,.map I.mc])
 else if x=I.im then some (.map (zcd data S.types 0))
 else if x=I.it then some (.vec zbe 3 S.types.length (zbD S.types))
 else if x=I.ia then some (.vec zeL 1 S.types.length (zaJ S.made))
 else if x=I.ic then some (.vec zeK 1 S.types.length (S.cons.map zca))
 else if x=I.mc then some (.mapP (zdm S.cnt)) else none
def shS(S:SS)(H:zaa):zaa:=H.mapIdx λx b=>(zaY data kk I S x).getD b
structure ShS (S:SS) (H:zaa):Prop where
 ok:I.Ok
 at':∀x b,zaY data kk I S x=some b→H[x]?=some b
 ml:S.made.length=S.types.length
 cl:S.cons.length=S.types.length
end
section
variable {data:List Dat} {kk:Int} {I:SI} {S S' S'':SS} {H J:zaa}
theorem zf9(x:Nat):(zaY data kk I S x).isSome=(zaY data kk I S' x).isSome:=by
 unfold zaY
 repeat' split
 all_goals rfl
@[simp] theorem zj5:(shS data kk I S H).length=H.length:=by simp[shS]
theorem zcg(x:Nat):(shS data kk I S H)[x]?=(H[x]?).map λb=>(zaY data kk I S x).getD b:=by simp[shS]
theorem ShS.lt(h:ShS data kk I S H){x:Nat}(hx:(zaY data kk I S x).isSome=true):x<H.length:=by obtain⟨b,hb⟩:=Option.isSome_iff_exists.1 hx;exact(List.getElem?_eq_some_iff.1 (h.at' x b hb)).1
theorem ShS.app(h:ShS data kk I S H):ShS data kk I S (H++J):=⟨h.ok,λx b hb=>by
 have:=h.at' x b hb;rw[List.getElem?_append_left (List.getElem?_eq_some_iff.1 this).1];exact this,h.ml,h.cl⟩
theorem ShS.shS_app(h:ShS data kk I S H):shS data kk I S' (H++J)=shS data kk I S' H++J:=by
 apply List.ext_getElem?;intro x;by_cases hx:x<H.length
 ·rw[zcg,List.getElem?_append_left hx,List.getElem?_append_left (by simpa using hx),zcg]
 ·rw[zcg,List.getElem?_append_right (by omega),List.getElem?_append_right (by simpa using hx),zj5];have:zaY data kk I S' x=none:=by
   cases hb:zaY data kk I S' x with
   |none=>rfl
   |some b=>have:=h.lt (x:=x) (by rw[zf9 (S':=S'),hb];rfl);omega
  rw[this];simp
theorem ShS.next(h:ShS data kk I S H)(hm:S'.made.length=S'.types.length)(hc:S'.cons.length=S'.types.length):ShS data kk I S' (shS data kk I S' H):=⟨h.ok,λx b hb=>by
 have hx:=h.lt (x:=x) (by rw[zf9 (S':=S'),hb];rfl);rw[zcg,hb,List.getElem?_eq_getElem hx];rfl,hm,hc⟩
theorem zcU:shS data kk I S' (shS data kk I S H)=shS data kk I S' H:=by
 apply List.ext_getElem?;intro x;rw[zcg,zcg,zcg];cases hx:H[x]? with
 |none=>rfl
 |some b=>
  simp only[Option.map_some];cases hb:zaY data kk I S' x with
  |some b'=>rfl
  |none=>
   have:=zf9 (data:=data) (kk:=kk) (I:=I) (S:=S) (S':=S') x;rw[hb]at this;cases hb2:zaY data kk I S x with
   |none=>rfl
   |some b2=>rw[hb2]at this;cases this
theorem ShS.self(h:ShS data kk I S H):shS data kk I S H=H:=by
 apply List.ext_getElem?;intro x;rw[zcg];cases hb:zaY data kk I S x with
 |none=>cases H[x]? <;> rfl
 |some b=>rw[h.at' x b hb];rfl
theorem ShS.set_one(h:ShS data kk I S H){x:Nat}{b:AB}(hx:zaY data kk I S' x=some b)(hy:∀y,y≠x→zaY data kk I S' y=zaY data kk I S y):H.set x b=shS data kk I S' H:=by
 have hl:=h.lt (x:=x) (by rw[zf9 (S':=S'),hx];rfl);apply List.ext_getElem?;intro y;rw[zcg];by_cases e:x=y
 ·subst e;rw[List.getElem?_set_self hl,hx,List.getElem?_eq_getElem hl];rfl
 ·rw[List.getElem?_set_ne e,hy y (λk=>e k.symm)];cases hb:zaY data kk I S y with
  |none=>cases H[y]? <;> rfl
  |some b'=>rw[h.at' y b' hb];rfl
theorem ShS.hp(h:ShS data kk I S H):H[I.p]?=some (.cells [.sl (data.map Dat.cs) .none,.int .i64 kk,.map I.im,.ov I.it S.types.length,.ov I.ia S.types.length,.ov I.ic S.types.length,.map I.mc]):=h.at' _ _ (by simp[zaY])
theorem ShS.him(h:ShS data kk I S H):H[I.im]?=some (.map (zcd data S.types 0)):=h.at' _ _ (by simp[zaY,h.ok.a1.symm])
theorem ShS.hit(h:ShS data kk I S H):H[I.it]?=some (.vec zbe 3 S.types.length (zbD S.types)):=h.at' _ _ (by simp[zaY,h.ok.a2.symm,h.ok.b1.symm])
theorem ShS.hia(h:ShS data kk I S H):H[I.ia]?=some (.vec zeL 1 S.types.length (zaJ S.made)):=h.at' _ _ (by simp[zaY,h.ok.a3.symm,h.ok.b2.symm,h.ok.c1.symm])
theorem ShS.hic(h:ShS data kk I S H):H[I.ic]?=some (.vec zeK 1 S.types.length (S.cons.map zca)):=h.at' _ _ (by simp[zaY,h.ok.a4.symm,h.ok.b3.symm,h.ok.c2.symm,h.ok.d1.symm])
theorem ShS.hmc(h:ShS data kk I S H):H[I.mc]?=some (.mapP (zdm S.cnt)):=h.at' _ _ (by simp[zaY,h.ok.a5.symm,h.ok.b4.symm,h.ok.c3.symm,h.ok.d2.symm,h.ok.e1.symm])
theorem zul(data:List Dat)(n:Nat):∀ (ts:List VT) (k:Nat),(zcd data ts k).all (λp=>p.2.scV n)=true
 |[],_=>rfl
 |t::ts,k=>by simp only[zcd,List.all_cons,zul data n ts (k+1)];rfl
theorem zwJ(n:Nat):∀ ts:List VT,(zbD ts).all (AV.scA n)=true
 |[]=>rfl
 |t::ts=>by have:=zwJ n ts;unfold zbD at this ⊢;simp only[List.map_cons,List.flatten_cons,List.all_append,this];cases t;simp[VT.cs,AV.scA,AV.scB]
theorem ShS.scs(h:ShS data kk I S H)(hs:HSc H):HSc (shS data kk I S' H):=by
 intro b hb;obtain⟨x,hx,rfl⟩:=List.mem_iff_getElem.1 hb;rw[zj5]at hx ⊢;have e:(shS data kk I S' H)[x]?=some ((zaY data kk I S' x).getD H[x]):=by rw[zcg,List.getElem?_eq_getElem hx];rfl
 rw[List.getElem?_eq_getElem (by simpa using hx)]at e;rw[Option.some.inj e];have hlt:=λy=>h.lt (x:=y);have l1:=(List.getElem?_eq_some_iff.1 h.him).1;have l2:=(List.getElem?_eq_some_iff.1 h.hit).1;have l3:=(List.getElem?_eq_some_iff.1 h.hia).1;have l4:=(List.getElem?_eq_some_iff.1 h.hic).1;have l5:=(List.getElem?_eq_some_iff.1 h.hmc).1;unfold zaY;split
 ·simp[AB.sc,AV.scA,AV.scB,l1,l2,l3,l4,l5]
 ·split
  ·exact zul _ _ _ _
  ·split
   ·exact zwJ _ _
   ·split
    ·simp[AB.sc,zaJ,AV.scA,AV.scB]
    ·split
     ·simp[AB.sc,zca,AV.scA,AV.scB]
     ·split
      ·simp only[AB.sc,zdm];refine List.all_eq_true.2 λe he=>?_;obtain⟨e',_,rfl⟩:=List.mem_map.1 he;exact zcT _ e'.2
      ·exact hs _ (List.getElem_mem hx)
theorem zui(data:List Dat)(t:VT):∀ (ts:List VT) (k:Nat),zcd data (ts++[t]) k=zcd data ts k++[(txt data t,.int .i64 (k+ts.length:Nat))]
 |[],k=>by simp[zcd]
 |u::ts,k=>by rw[List.cons_append,zcd,zcd,zui data t ts (k+1),List.cons_append];congr 4;simp;omega
theorem zuj(data:List Dat)(s:List UInt8):∀ (ts:List VT) (k:Nat),zbO (zcd data ts k) s=(ts.findIdx? λu=>txt data u == s).map λi=>AV.int .i64 (k+i:Nat)
 |[],k=>rfl
 |u::ts,k=>by
  rw[zcd,zbO,List.findIdx?_cons];cases h:(txt data u == s) with
  |true=>simp
  |false=>
   simp only[];rw[zuj data s ts (k+1)];cases ts.findIdx? λu=>txt data u == s with
   |none=>rfl
   |some i=>simp;omega
theorem zuk(data:List Dat)(s:List UInt8)(x:AV):∀ (ts:List VT) (k:Nat),(ts.findIdx? λu=>txt data u == s)=none→zcB (zcd data ts k) s x=zcd data ts k++[(s,x)]
 |[],k,_=>rfl
 |u::ts,k,h=>by
  rw[List.findIdx?_cons]at h;rw[zcd,zcB];cases hb:(txt data u == s) with
  |true=>rw[hb]at h;simp at h
  |false=>rw[hb]at h;simp only[Bool.false_eq_true,if_false,Option.map_eq_none_iff]at h;simp only[];rw[zuk data s x ts (k+1) h];rfl
end
theorem znm{e s b id n:Nat}{cs:List AV}{ys:List (List AV)}{t:Tok}{H:zaa}{K:Kt}(h:H[id]?=some (.vec e s n cs))(hy:∀c∈ys,c.length=s)(hb1:(n+ys.length)*b≤140737488355328)(hb2:n+ys.length≤9223372036854775807)(hk:K (.ov id (n+ys.length)) (H.set id (.vec e s (n+ys.length) (cs++ys.flatten)))):zay e s b (.ov id n) (.sl ys t) H K:=by
 simp only[zay,zbb,za0,h,and_self,true_and];exact⟨hy,⟨hb1,hb2⟩,hk⟩
theorem zwf{n id m off e s:Nat}{x:AV}{xs cs:List AV}{H:zaa}{K:zaa→Prop}(hx:x.cs?=some xs)(h:H[id]?=some (.vec e s m cs))(h1:xs.length=n)(h2:off+n≤cs.length)(h3:xs.all AV.known=true)(hk:K (H.set id (.vec e s m (cs.take off++xs++cs.drop (off+n))))):zak n (.vp id m off) x H K:=by
 rw[zs1,hx,h,zBl];exact⟨⟨rfl,h1,h2,h3⟩,hk⟩
theorem za5{H H':zaa}{i j:Nat}{b:AB}{o:Option AB}(e:H'=H.set i b)(hne:i≠j)(h:H[j]?=o):H'[j]?=o:=by rw[e,List.getElem?_set_ne hne];exact h
theorem zhg{H H':zaa}{i:Nat}{b:AB}(e:H'=H.set i b)(hi:i<H.length):H'[i]?=some b:=by rw[e,List.getElem?_set_self hi]
theorem ze9(ts:List VT):(zbD ts).length=3*ts.length:=by
 induction ts with
 |nil=>rfl
 |cons t ts ih=>unfold zbD at ih ⊢;cases t;simp only[List.map_cons,List.flatten_cons,List.length_append,ih,VT.cs,List.length_cons,List.length_nil];omega
def zcx(data:List Dat)(S:SS)(t:VT):Option Nat:=S.types.findIdx? λu=>txt data u == txt data t
def zb8(S:SS)(t:VT):SS:=⟨S.types++[t],S.made++[false],S.cons++[[]],S.cnt⟩
def idN(data:List Dat)(S:SS)(t:VT):Nat:=(zcx data S t).getD S.types.length
def idS(data:List Dat)(S:SS)(t:VT):SS:=if (zcx data S t).isSome then S else zb8 S t
theorem zhS{data:List Dat}(hD:zaE data=true){kk:Int}{I:SI}{S:SS}{H:zaa}(hS:ShS data kk I S H)(h0:H[0]?=some .nodr)(t:VT)(ht:zaD data 0 t=true)(hn:S.types.length≤1000000000000)(K:Kt)(hK:K (.int .i64 (idN data S t)) (shS data kk I (idS data S t) H)):ACalls tP zfz [.ptr I.p 0,.agg t.cs] H K:=by
 refine ACalls.out (zL0 λhs=>?_);obtain⟨x,y,z,hvx,hx,hy,hz⟩:=zaO t;have hlt0:0<H.length:=(List.getElem?_eq_some_iff.1 h0).1;have hp:=(hS.app (J:=[.cells t.cs])).hp;have him:=(hS.app (J:=[.cells t.cs])).him;have hit:=(hS.app (J:=[.cells t.cs])).hit;have hia:=(hS.app (J:=[.cells t.cs])).hia;have hic:=(hS.app (J:=[.cells t.cs])).hic;have lp:=(List.getElem?_eq_some_iff.1 hS.hp).1;have lim:=(List.getElem?_eq_some_iff.1 hS.him).1;have lit:=(List.getElem?_eq_some_iff.1 hS.hit).1;have lia:=(List.getElem?_eq_some_iff.1 hS.hia).1;have lic:=(List.getElem?_eq_some_iff.1 hS.hic).1;have ht3:List.take 3 t.cs=t.cs:=List.take_of_length_le (by rw[hvx];simp);have ht3':t.cs.length=3:=by rw[hvx];rfl
 obtain⟨A,hA⟩:∃A,A=H++[AB.cells t.cs]:=⟨_,rfl⟩;have hAl:A.length=H.length+1:=by rw[hA];simp
 have ha:A[H.length]?=some (.cells t.cs):=by rw[hA];simp
 simp[zzc,hvx];rw[←hvx,←hA];rw[←hA]at hp him hit hia hic;simp[hp,ha,ht3,ht3'];refine zaC (.str (txt data t)) (λJ=>zOS hD t ht _ (by rw[hA,List.append_assoc,List.getElem?_append_left hlt0];exact h0) _ ⟨rfl,rfl⟩) ?_;simp[hp,him,zuj];have hany:(S.types.any λu=>txt data u == txt data t)=(zcx data S t).isSome:=by unfold zcx;simp[List.findIdx?_isSome]
 rw[hany];change zag _ (Out _ K ((Option.map _ (zcx data S t)).getD _) A) _;have hput:=zuk data (txt data t) (AV.int .i64 (S.types.length:Nat)) S.types 0;change zcx data S t=none→_ at hput;have hN:idN data S t=(zcx data S t).getD S.types.length:=rfl;have hSd:idS data S t=if (zcx data S t).isSome then S else zb8 S t:=rfl
 cases hi:zcx data S t with
 |some i=>rw[hi]at hN hSd;rw[hN,hSd]at hK;simp;rw[hA];refine Out.int rfl (Nat.le_refl _) hs ?_;simpa[hS.self]using hK
 |none=>
  rw[hput hi];rw[hi]at hN hSd;rw[hN,hSd]at hK;simp only[Option.isSome_none,Bool.false_eq_true,if_false,Option.getD_none]at hK;obtain⟨A1,hA1⟩:∃A1,A1=A.set I.im (.map (zcd data S.types 0++[(txt data t,.int .i64 (S.types.length:Nat))])):=⟨_,rfl⟩;have o:=hS.ok;have p1:A1[I.p]?=A[I.p]?:=by rw[hA1,List.getElem?_set_ne o.a1.symm]
  have t1:A1[I.it]?=A[I.it]?:=by rw[hA1,List.getElem?_set_ne o.b1]
  have ia1:A1[I.ia]?=A[I.ia]?:=by rw[hA1,List.getElem?_set_ne o.b2]
  have ic1:A1[I.ic]?=A[I.ic]?:=by rw[hA1,List.getElem?_set_ne o.b3]
  have l1:A1[H.length]?=A[H.length]?:=by rw[hA1,List.getElem?_set_ne (by omega)]
  rw[hp]at p1;rw[hit]at t1;rw[hia]at ia1;rw[hic]at ic1;rw[ha]at l1;have hA1l:A1.length=H.length+1:=by rw[hA1];simp[hAl]
  simp only[zag];rw[←hA1];simp[p1,l1,ht3,ht3',zar,za3,plain,AV.pd];have hTl:=ze9 S.types;refine znm t1 (by simp) (by simp;omega) (by simp;omega) ?_;simp only[List.length_cons,List.length_nil,List.flatten_cons,List.flatten_nil,List.append_nil,Nat.zero_add];obtain⟨A2,hA2⟩:∃A2,A2=A1.set I.it (.vec zbe 3 (S.types.length+1) (zbD S.types++[.int .i64 0,.int .i64 0,.sl [] .none])):=⟨_,rfl⟩;rw[←hA2];have p2:=za5 hA2 o.a2.symm p1;have t2:A2[I.it]?=some (.vec zbe 3 (S.types.length+1) (zbD S.types++[.int .i64 0,.int .i64 0,.sl [] .none])):=by rw[hA2,List.getElem?_set_self (by omega)]
  have hA2l:A2.length=H.length+1:=by rw[hA2];simp[hA1l]
  obtain⟨A3,hA3⟩:∃A3,A3=A2.set I.it (.vec zbe 3 (S.types.length+1) (zbD S.types++t.cs)):=⟨_,rfl⟩;obtain⟨P4,hP4⟩:∃P4,P4=AB.cells [.sl (data.map Dat.cs) .none,.int .i64 kk,.map I.im,.ov I.it (S.types.length+1),.ov I.ia S.types.length,.ov I.ic S.types.length,.map I.mc]:=⟨_,rfl⟩;obtain⟨A4,hA4⟩:∃A4,A4=A3.set I.p P4:=⟨_,rfl⟩;have p3:=za5 hA3 o.a2.symm p2;have t22:(A2.set I.p P4)[I.it]?=some (.vec zbe 3 (S.types.length+1) (zbD S.types++[.int .i64 0,.int .i64 0,.sl [] .none])):=by rw[List.getElem?_set_ne o.a2];exact t2
  have hst:∀{D:zaa} {Q:zaa→Prop},D[I.it]?=some (.vec zbe 3 (S.types.length+1) (zbD S.types++[.int .i64 0,.int .i64 0,.sl [] .none]))→Q (D.set I.it (.vec zbe 3 (S.types.length+1) (zbD S.types++t.cs)))→zak 3 (.vp I.it (S.types.length+1) (S.types.length*3)) (.agg t.cs) D Q:=by intro D Q hd hq;refine zwf rfl hd ht3' (by simp[hTl];omega) (VT.cs_known t) ?_;rw[List.take_left' (by rw[hTl];omega),List.drop_eq_nil_of_le (by simp[hTl];omega),List.append_nil];exact hq
  have hsw:(A2.set I.p P4).set I.it (.vec zbe 3 (S.types.length+1) (zbD S.types++t.cs))=A4:=by rw[hA4,hA3,List.set_comm _ _ o.a2.symm]
  suffices hG:zdh (.ptr I.p 0) (.int .i64 (S.types.length:Nat)) A4 (Out H.length K) by
   have hix:zai 3 (.ov I.it (S.types.length+1)) (.int .i64 (S.types.length:Nat))=λQ:AV→Prop=>Q (.vp I.it (S.types.length+1) (S.types.length*3)):=by funext Q;rw[zBd];simp;intro;omega
   rw[hix];simp only[p2,AV.cs?,zdH];simp only[List.take,List.drop,List.cons_append,List.nil_append,←hP4];refine⟨⟨hst t2 ?_,⟨by simp[AV.known],?_⟩⟩,⟨by simp[AV.known],?_⟩⟩
   ·rw[←hA3];simp only[p3,zdH,List.take,List.drop,List.cons_append,List.nil_append,←hP4,←hA4];exact⟨by simp[AV.known],hG⟩
   ·exact hst t22 (by rw[hsw];exact hG)
   ·exact hst t22 (by rw[hsw];exact hG)
  have p4:A4[I.p]?=some P4:=by rw[hA4,List.getElem?_set_self (by rw[hA3];simp;omega)]
  have ia4:=za5 hA4 o.a3 (za5 hA3 o.c1 (za5 hA2 o.c1 ia1));have ic4:=za5 hA4 o.a4 (za5 hA3 o.c2 (za5 hA2 o.c2 ic1));have hA4l:A4.length=H.length+1:=by rw[hA4,hA3];simp[hA2l]
  unfold zdh;rw[hP4]at p4;simp[p4,zar,za3,plain,AV.pd];have ml:(zaJ S.made).length=S.types.length:=by simp[zaJ,hS.ml]
  refine znm ia4 (by simp) (by simp;omega) (by simp;omega) ?_;simp only[List.length_cons,List.length_nil,List.flatten_cons,List.flatten_nil,List.append_nil,Nat.zero_add];obtain⟨A5,hA5⟩:∃A5,A5=A4.set I.ia (.vec zeL 1 (S.types.length+1) (zaJ S.made++[.bool false])):=⟨_,rfl⟩;rw[←hA5];have p5:=za5 hA5 o.a3.symm p4;have ic5:=za5 hA5 o.d1 ic4;simp only[p5,AV.cs?,zdH,List.take,List.drop,List.cons_append,List.nil_append];refine⟨by simp[AV.known],?_⟩;obtain⟨P6,hP6⟩:∃P6,P6=AB.cells [.sl (data.map Dat.cs) .none,.int .i64 kk,.map I.im,.ov I.it (S.types.length+1),.ov I.ia (S.types.length+1),.ov I.ic S.types.length,.map I.mc]:=⟨_,rfl⟩;rw[←hP6];obtain⟨A6,hA6⟩:∃A6,A6=A5.set I.p P6:=⟨_,rfl⟩;rw[←hA6];have hA6l:A6.length=H.length+1:=by rw[hA6,hA5];simp[hA4l]
  have p6:A6[I.p]?=some P6:=by rw[hA6,List.getElem?_set_self (by rw[hA5];simp;omega)]
  have ic6:=za5 hA6 o.a4 ic5;rw[hP6]at p6;simp[p6];refine znm ic6 (by simp) (by simp;omega) (by simp;omega) ?_;simp only[List.length_cons,List.length_nil,List.flatten_cons,List.flatten_nil,List.append_nil,Nat.zero_add];obtain⟨A7,hA7⟩:∃A7,A7=A6.set I.ic (.vec zeK 1 (S.types.length+1) (S.cons.map zca++[.sl [] .none])):=⟨_,rfl⟩;rw[←hA7];have p7:=za5 hA7 o.a4.symm p6;simp only[p7,AV.cs?,zdH,List.take,List.drop,List.cons_append,List.nil_append];refine⟨by simp[AV.known],?_⟩;obtain⟨P8,hP8⟩:∃P8,P8=AB.cells [.sl (data.map Dat.cs) .none,.int .i64 kk,.map I.im,.ov I.it (S.types.length+1),.ov I.ia (S.types.length+1),.ov I.ic (S.types.length+1),.map I.mc]:=⟨_,rfl⟩;rw[←hP8];obtain⟨A8,hA8⟩:∃A8,A8=A7.set I.p P8:=⟨_,rfl⟩;rw[←hA8];have hA7l:A7.length=H.length+1:=by rw[hA7];simp[hA6l]
  have hA8l:A8.length=H.length+1:=by rw[hA8];simp[hA7l]
  have p8:A8[I.p]?=some P8:=zhg hA8 (by omega);have im8:=za5 hA8 o.a1 (za5 hA7 o.b3.symm (za5 hA6 o.a1 (za5 hA5 o.b2.symm (za5 hA4 o.a1 (za5 hA3 o.b1.symm (za5 hA2 o.b1.symm (zhg hA1 (by omega))))))));have it8:=za5 hA8 o.a2 (za5 hA7 o.c2.symm (za5 hA6 o.a2 (za5 hA5 o.c1.symm (za5 hA4 o.a2 (zhg hA3 (by omega))))));have ia8:=za5 hA8 o.a3 (za5 hA7 o.d1.symm (za5 hA6 o.a3 (zhg hA5 (by omega))));have ic8:=za5 hA8 o.a4 (zhg hA7 (by omega));have ot8:∀x,x≠I.p→x≠I.im→x≠I.it→x≠I.ia→x≠I.ic→A8[x]?=A[x]?:=λx e1 e2 e3 e4 e5=>
   za5 hA8 e1.symm (za5 hA7 e5.symm (za5 hA6 e1.symm (za5 hA5 e4.symm (za5 hA4 e1.symm (za5 hA3 e3.symm (za5 hA2 e3.symm (za5 hA1 e2.symm rfl)))))))
  have hfin:A8=shS data kk I (zb8 S t) H++[AB.cells t.cs]:=by
   apply List.ext_getElem?;intro x;by_cases hx:x<H.length
   ·rw[List.getElem?_append_left (by simpa using hx),zcg,List.getElem?_eq_getElem hx];simp only[Option.map_some];unfold zaY;split
    ·rename_i e;subst e;rw[p8,hP8];simp[zb8]
    ·rename_i e1;split
     ·rename_i e;subst e;rw[im8];simp[zb8,zui]
     ·rename_i e2;split
      ·rename_i e;subst e;rw[it8];simp[zb8,zbD]
      ·rename_i e3;split
       ·rename_i e;subst e;rw[ia8];simp[zb8,zaJ]
       ·rename_i e4;split
        ·rename_i e;subst e;rw[ic8];simp[zb8,zca,zbM]
        ·rename_i e5;rw[ot8 x e1 e2 e3 e4 e5,hA,List.getElem?_append_left hx];split
         ·rename_i e;subst e;rw[hS.hmc];rfl
         ·rw[List.getElem?_eq_getElem hx];rfl
   ·rw[List.getElem?_append_right (by simpa using hx),zj5,ot8 x (by omega) (by omega) (by omega) (by omega) (by omega),hA,List.getElem?_append_right (by omega)]
  have hsH:HSc H:=hs;refine Out.int hfin (by simp) (hS.scs hsH) hK
def sm:Nat→(Nat→Nat)→Nat
 |0,_=>0
 |n+1,f=>sm n f+f n
theorem zb2{n:Nat}{f g:Nat→Nat}(h:∀i<n,f i=g i):sm n f=sm n g:=by
 induction n with
 |zero=>rfl
 |succ n ih=>rw[sm,sm,ih λi hi=>h i (by omega),h n (by omega)]
theorem zEA(n:Nat)(f g:Nat→Nat):sm n (λi=>f i+g i)=sm n f+sm n g:=by
 induction n with
 |zero=>rfl
 |succ n ih=>rw[sm,sm,sm,ih];omega
theorem zpj(n c:Nat)(f:Nat→Nat):sm n (λi=>c*f i)=c*sm n f:=by
 induction n with
 |zero=>rfl
 |succ n ih=>rw[sm,sm,ih,Nat.mul_add]
theorem zpk(n:Nat):sm n (λ_=>0)=0:=by
 induction n with
 |zero=>rfl
 |succ n ih=>rw[sm,ih]
theorem zEB{n:Nat}{f g:Nat→Nat}(h:∀i<n,f i≤g i):sm n f≤sm n g:=by
 induction n with
 |zero=>exact Nat.le_refl _
 |succ n ih=>have h1:=ih λi hi=>h i (by omega);have h2:=h n (by omega);rw[sm,sm];omega
theorem zv7{n:Nat}{f:Nat→Nat}{i:Nat}(h:i<n):f i≤sm n f:=by
 induction n with
 |zero=>omega
 |succ n ih=>
  rw[sm];by_cases e:i=n
  ·subst e;omega
  ·have:=ih (by omega);omega
theorem zED{n:Nat}{f:Nat→Nat}(h:sm n f≠0):∃i<n,f i≠0:=by
 induction n with
 |zero=>exact absurd rfl h
 |succ n ih=>
  rw[sm]at h;by_cases e:f n=0
  ·obtain⟨i,h1,h2⟩:=ih (by omega);exact⟨i,by omega,h2⟩
  ·exact⟨n,by omega,e⟩
theorem ze4(n:Nat)(f:Nat→Nat):sm (n+1) f=f 0+sm n λi=>f (i+1):=by
 induction n with
 |zero=>simp[sm]
 |succ n ih=>rw[sm,ih,sm];omega
theorem zEE(m:Nat)(F:Nat→Nat→Nat):sm (m+1) (λh=>sm (h+1) λa=>F a h)=sm (m+1) λa=>sm (m-a+1) λd=>F a (a+d):=by
 induction m with
 |zero=>simp[sm]
 |succ m ih=>
  rw[sm,ih]
  conv=>rhs;rw[sm]
  have e:sm (m+1) (λa=>sm (m+1-a+1) λd=>F a (a+d))=sm (m+1) (λa=>(sm (m-a+1) λd=>F a (a+d))+F a (m+1)):=by refine zb2 λa ha=>?_;rw[show m+1-a+1=(m-a+1)+1 from by omega,sm,show a+(m-a+1)=m+1 from by omega]
  rw[e,zEA,sm];rw[show m+1-(m+1)+1=1 from by omega];simp only[sm,Nat.add_zero,Nat.zero_add];omega
def zaS(data:List Dat):VT→List (Int × List VT)
 |.mk k n ks=>if k=6∨k=8 then [(0,ks)] else if k=5 then (List.range (zbG data n).length).filterMap λc:Nat=>(zbi data (.mk k n ks) (c:Int)).map λl=>((c:Int),l) else []
def zb9:VT→VT
 |.mk _ _ ks=>ks.getD 0 (.mk 0 0 [])
def cL(g:VT→Nat→Nat):List VT→Nat→Nat
 |[],m=>if m=0 then 1 else 0
 |t::ts,m=>sm (m+1) λs=>g t s*cL g ts (m-s)
def cAf(g:Nat→Nat):Nat→Nat→Nat
 |0,m=>if m=0 then 1 else 0
 |f+1,m=>if m=0 then 1 else sm (m+1) λs=>g s*cAf g f (m-s)
def cnt(data:List Dat)(kk:Nat):Nat→VT→Nat→Nat
 |0,_,_=>0
 | f+1,t,n=>if n=0 then 0 else if t.kind=3 then (if n=1 then 1 else 0) else if t.kind=2 then (if n=1 then 2 else 0) else if t.kind=1 then (if n=1 then kk else 0) else
  if t.kind=7 then cAf (cnt data kk f (zb9 t)) (n-1) (n-1) else ((zaS data t).map λw=>cL (cnt data kk f) w.2 (n-1)).sum
def cV(data:List Dat)(kk:Nat)(t:VT)(n:Nat):Nat:=cnt data kk n t n
theorem znr{g g':VT→Nat→Nat}:∀ (ts:List VT) (m:Nat),(∀ t s,s≤m→g t s=g' t s)→cL g ts m=cL g' ts m
 |[],m,_=>rfl
 |t::ts,m,h=>by rw[cL,cL];refine zb2 λs hs=>?_;rw[h t s (by omega),znr ts (m-s) λt s' hs'=>h t s' (by omega)]
theorem znq{g g':Nat→Nat}:∀ (f m:Nat),(∀ s,s≤m→g s=g' s)→cAf g f m=cAf g' f m
 |0,m,_=>rfl
 |f+1,m,h=>by
  rw[cAf,cAf];split
  ·rfl
  ·refine zb2 λs hs=>?_;rw[h s (by omega),znq f (m-s) λs' hs'=>h s' (by omega)]
theorem zBX{g:Nat→Nat}(h0:g 0=0):∀(N m f f':Nat),m≤N→m≤f→m≤f'→cAf g f m=cAf g f' m:=by
 intro N;induction N with
 |zero=>
  intro m f f' h _ _;obtain rfl:m=0:=by omega
  cases f <;> cases f' <;> simp[cAf]
 |succ N ih=>
  intro m f f' h h1 h2;cases m with
  |zero=>cases f <;> cases f' <;> simp[cAf]
  |succ m=>
   obtain⟨f,rfl⟩:∃e,f=e+1:=⟨f-1,by omega⟩;obtain⟨f',rfl⟩:∃e,f'=e+1:=⟨f'-1,by omega⟩;rw[cAf,cAf];simp only[Nat.add_eq_zero_iff,Nat.succ_ne_self,and_false,if_false];refine zb2 λs hs=>?_;cases s with
   |zero=>simp[h0]
   |succ s=>rw[ih _ f f' (by omega) (by omega) (by omega)]
def cA(g:Nat→Nat)(m:Nat):Nat:=cAf g m m
theorem zBW(g:Nat→Nat):cA g 0=1:=rfl
theorem ziJ{g:Nat→Nat}(h0:g 0=0)(m:Nat):cA g (m+1)=sm (m+2) λs=>g s*cA g (m+1-s):=by
 unfold cA;rw[cAf];simp only[Nat.add_eq_zero_iff,Nat.succ_ne_self,and_false,if_false];refine zb2 λs hs=>?_;cases s with
 |zero=>simp[h0]
 |succ s=>rw[zBX h0 _ _ _ _ (Nat.le_refl _) (by omega) (Nat.le_refl _)]
theorem ziL(data:List Dat)(kk f:Nat)(t:VT):cnt data kk f t 0=0:=by cases f <;> simp[cnt]
theorem zCb(data:List Dat)(kk:Nat):∀(f f':Nat) (t:VT) (n:Nat),n≤f→n≤f'→cnt data kk f t n=cnt data kk f' t n:=by
 intro f;induction f with
 |zero=>
  intro f' t n h _;obtain rfl:n=0:=by omega
  rw[ziL,ziL]
 |succ f ih=>
  intro f' t n h1 h2;cases n with
  |zero=>rw[ziL,ziL]
  |succ n=>obtain⟨f',rfl⟩:∃e,f'=e+1:=⟨f'-1,by omega⟩;have e1:∀t s,s≤n→cnt data kk f t s=cnt data kk f' t s:=λt s hs=>ih f' t s (by omega) (by omega);rw[cnt,cnt];simp only[Nat.add_sub_cancel];rw[znq n n λs hs=>e1 (zb9 t) s hs];rw[List.map_congr_left λw _=>znr w.2 n e1]
theorem zbF(data:List Dat)(kk:Nat)(t:VT):cV data kk t 0=0:=rfl
theorem zeH(data:List Dat)(kk:Nat)(t:VT)(n:Nat):cV data kk t (n+1)=if t.kind=3 then (if n=0 then 1 else 0) else if t.kind=2 then (if n=0 then 2 else 0) else if t.kind=1 then (if n=0 then kk else 0) else
  if t.kind=7 then cA (cV data kk (zb9 t)) n else ((zaS data t).map λw=>cL (cV data kk) w.2 n).sum:=by
 have e1:∀t s,s≤n→cnt data kk n t s=cV data kk t s:=λt s hs=>zCb data kk n s t s hs (Nat.le_refl _);unfold cV;rw[cnt];simp only[Nat.add_eq_zero_iff,Nat.succ_ne_self,and_false,if_false,Nat.add_sub_cancel,Nat.add_eq_right];unfold cA;rw[znq n n λs hs=>e1 (zb9 t) s hs];rw[List.map_congr_left λw _=>znr w.2 n e1];rfl
def cvR(g:Nat→Nat)(r:Nat→Nat)(m:Nat):Nat:=sm (m+1) λh=>r h*g (m-h)
theorem ztE(g:VT→Nat→Nat):∀ (ts:List VT) (r:Nat→Nat) (m:Nat),(ts.foldl (λr t=>cvR (g t) r) r) m=sm (m+1) λh=>r h*cL g ts (m-h)
 |[],r,m=>by
  rw[List.foldl_nil,sm];have:sm m (λh=>r h*cL g [] (m-h))=0:=by rw[zb2 (g:=λ_=>0) λh hh=>by rw[cL,if_neg (by omega),Nat.mul_zero],zpk]
  rw[this];simp[cL]
 |t::ts,r,m=>by
  rw[List.foldl_cons,ztE g ts];have e1:sm (m+1) (λh=>cvR (g t) r h*cL g ts (m-h))=sm (m+1) λh=>sm (h+1) λa=>r a*g t (h-a)*cL g ts (m-h):=by refine zb2 λh hh=>?_;rw[cvR,Nat.mul_comm,←zpj];exact zb2 λa _=>by rw[Nat.mul_comm]
  rw[e1,zEE m λa h=>r a*g t (h-a)*cL g ts (m-h)];refine zb2 λa ha=>?_;rw[cL,←zpj];refine zb2 λd hd=>?_;rw[show a+d-a=d from by omega,show m-(a+d)=m-a-d from by omega,Nat.mul_assoc]
def zhP(m:Nat):Nat:=if m=0 then 1 else 0
theorem zBY(g:VT→Nat→Nat)(ts:List VT)(m:Nat):cL g ts m=(ts.foldl (λr t=>cvR (g t) r) zhP) m:=by
 rw[ztE,ze4];have:sm m (λi=>zhP (i+1)*cL g ts (m-(i+1)))=0:=by rw[zb2 (g:=λ_=>0) λh hh=>by simp[zhP],zpk]
 rw[this];simp[zhP]
end Go.Proofs.YtaifokkaaahdoaaGreatDoor
namespace Go.Proofs.YtaifokkaaahdoaaGreatDoor
open Go Go.Abs
set_option exponentiation.threshold 2000
theorem geo:∀ m:Nat,sm m (λi=>2 ^ (m-(i+1)))+1=2 ^ m
 |0=>rfl
 |m+1=>by
  rw[ze4];have:=geo m;have e:sm m (λi=>2 ^ (m+1-(i+1+1)))=sm m λi=>2 ^ (m-(i+1)):=zb2 λi _=>by rw[show m+1-(i+1+1)=m-(i+1) from by omega]
  rw[e,show m+1-(0+1)=m from by omega,Nat.pow_succ];omega
theorem zFj(s d:Nat):3*(s*s)+3*(d*d)≤3*((s+d)*(s+d)):=by
 have e:(s+d)*(s+d)=s*s+d*d+2*(s*d):=by rw[Nat.add_mul,Nat.mul_add,Nat.mul_add,Nat.mul_comm d s];omega
 rw[e];omega
theorem ztx{g r:Nat→Nat}{m:Nat}(h0:g 0=0)(hg:∀s,s≤m→g s≤2 ^ (3*(s*s)))(hr:∀s,s<m→r s≤2 ^ (s+3*(s*s))):sm (m+1) (λs=>g s*r (m-s))≤2 ^ (m+3*(m*m)):=by
 rw[ze4,h0,Nat.zero_mul,Nat.zero_add];have h1:sm m (λi=>g (i+1)*r (m-(i+1)))≤sm m λi=>2 ^ (3*(m*m))*2 ^ (m-(i+1)):=by refine zEB λi hi=>?_;refine Nat.le_trans (Nat.mul_le_mul (hg (i+1) (by omega)) (hr (m-(i+1)) (by omega))) ?_;rw[←Nat.pow_add,←Nat.pow_add];refine Nat.pow_le_pow_right (by decide) ?_;have:=zFj (i+1) (m-(i+1));rw[show i+1+(m-(i+1))=m from by omega]at this;omega
 refine Nat.le_trans h1 ?_;rw[zpj,Nat.add_comm m,Nat.pow_add];have:=geo m;exact Nat.mul_le_mul_left _ (by omega)
theorem zns{g:VT→Nat→Nat}(h0:∀ t,g t 0=0):∀ (ts:List VT) (m:Nat),(∀ t∈ts,∀ s,s≤m→g t s≤2 ^ (3*(s*s)))→cL g ts m≤2 ^ (m+3*(m*m))
 |[],m,_=>by rw[cL];have:0<2 ^ (m+3*(m*m)):=Nat.pow_pos (by decide);split <;> omega
 |t::ts,m,h=>by rw[cL];exact ztx (h0 t) (h t (by simp)) λs hs=>zns h0 ts s λt ht s' hs'=>h t (by simp[ht]) s' (by omega)
theorem zto{g:Nat→Nat}(h0:g 0=0):∀(m:Nat),(∀s,s≤m→g s≤2 ^ (3*(s*s)))→cA g m≤2 ^ (m+3*(m*m)):=by
 intro m;induction m using Nat.strongRecOn with
 |ind m ih=>
  intro h;cases m with
  |zero=>rw[zBW];simp
  |succ m=>rw[ziJ h0];exact ztx h0 h λs hs=>ih s hs λs' hs'=>h s' (by omega)
def Kpt(data:List Dat):Prop:=∀D∈data,D.cons.length≤3∧∀c∈D.cons,c.args.length≤3
theorem zCh{data:List Dat}{n:Int}(h:(zbG data n)≠[]):∃D∈data,D.cons=zbG data n:=by
 unfold zbG at h ⊢;rw[List.getD_eq_getElem?_getD]at h ⊢;cases hd:data[n.toNat]? with
 |none=>rw[hd]at h;exact absurd rfl h
 |some D=>exact⟨D,List.mem_of_getElem? hd,rfl⟩
theorem zkm{data:List Dat}(hk:Kpt data)(t:VT):(zaS data t).length≤3:=by
 obtain⟨k,n,ks⟩:=t;rw[zaS];split
 ·simp
 ·split
  ·refine Nat.le_trans (List.length_filterMap_le _ _) ?_;rw[List.length_range];by_cases h:zbG data n=[]
   ·rw[h];simp
   ·obtain⟨D,hD,e⟩:=zCh h;rw[←e];exact(hk D hD).1
  ·simp
theorem zkn{data:List Dat}(hD:zaE data=true){t:VT}(ht:zaD data 0 t=true){w:Int×List VT}(hw:w∈zaS data t):∀x∈w.2,zaD data 0 x=true:=by
 obtain⟨k,n,ks⟩:=t;rw[zaS]at hw;split at hw
 ·simp at hw;subst hw;exact ze7 ht
 ·split at hw
  ·obtain⟨c,_,hc⟩:=List.mem_filterMap.1 hw;cases hf:zbi data (.mk k n ks) c with
   |none=>rw[hf]at hc;cases hc
   |some l=>rw[hf]at hc;simp at hc;subst hc;exact znF hD (zdz ht) hf
  ·simp at hw
theorem zwp{α:Type}{f:α→Nat}{B:Nat}:∀ (l:List α),(∀ x∈l,f x≤B)→(l.map f).sum≤l.length*B
 |[],_=>by simp
 |x::l,h=>by have h1:=h x (by simp);have h2:=zwp l λy hy=>h y (by simp[hy]);rw[List.map_cons,List.sum_cons,List.length_cons,Nat.succ_mul];omega
theorem znv{data:List Dat}(hk:Kpt data){kk:Nat}(hkk:kk≤8):∀(n:Nat) (t:VT),cV data kk t n≤2 ^ (3*(n*n)):=by
 intro n;induction n using Nat.strongRecOn with
 |ind n ih=>
  intro t;cases n with
  |zero=>rw[zbF];simp
  |succ n=>
   have e:3*((n+1)*(n+1))=(n+3*(n*n))+(5*n+3):=by
    have:(n+1)*(n+1)=n*n+2*n+1:=by rw[Nat.add_mul,Nat.mul_add];omega
    rw[this];omega
   have e8:8≤2 ^ (3*((n+1)*(n+1))):=Nat.le_trans (show 8≤2 ^ 3 by decide) (Nat.pow_le_pow_right (by decide) (by rw[e];omega));have big:3*2 ^ (n+3*(n*n))≤2 ^ (3*((n+1)*(n+1))):=by rw[e,Nat.pow_add 2 (n+3*(n*n)) (5*n+3),Nat.mul_comm];exact Nat.mul_le_mul_left _ (Nat.le_trans (show 3≤2 ^ 3 by decide) (Nat.pow_le_pow_right (by decide) (by omega)))
   rw[zeH];split
   ·split <;> omega
   ·split
    ·split <;> omega
    ·split
     ·split <;> omega
     ·split
      ·have:=zto (zbF data kk (zb9 t)) n λs hs=>ih s (by omega) _;omega
      ·have h1:=zkm hk t;have h2:=zwp (B:=2 ^ (n+3*(n*n))) (f:=λw:Int×List VT=>cL (cV data kk) w.2 n) (zaS data t) λw _=>zns (zbF data kk) w.2 n λt _ s hs=>ih s (by omega) t;have h3:=Nat.mul_le_mul_right (2 ^ (n+3*(n*n))) h1;omega
theorem znY{m:Nat}(h:m≤14):2 ^ (m+3*(m*m))<1000000000 ^ 30:=by have h1:m*m≤14*14:=Nat.mul_le_mul h h;exact Nat.lt_of_le_of_lt (Nat.pow_le_pow_right (by decide) (show m+3*(m*m)≤602 by omega)) (by decide)
theorem znt{data:List Dat}(hk:Kpt data){kk:Nat}(hkk:kk≤8)(ts:List VT){m:Nat}(h:m≤14):cL (cV data kk) ts m<1000000000 ^ 30:=
 Nat.lt_of_le_of_lt (zns (zbF data kk) ts m λt _ s _=>znv hk hkk s t) (znY h)
theorem ztp{data:List Dat}(hk:Kpt data){kk:Nat}(hkk:kk≤8)(t:VT){m:Nat}(h:m≤14):cA (cV data kk t) m<1000000000 ^ 30:=
 Nat.lt_of_le_of_lt (zto (zbF data kk t) m λs _=>znv hk hkk s t) (znY h)
theorem zeG{data:List Dat}(hk:Kpt data){kk:Nat}(hkk:kk≤8)(t:VT){m:Nat}(h:m≤14):cV data kk t m<1000000000 ^ 30:=
 Nat.lt_of_le_of_lt (Nat.le_trans (znv hk hkk m t) (Nat.pow_le_pow_right (by decide) (by omega))) (znY h)
inductive Rch (data:List Dat) (X:List VT):Nat→VT→Prop
 |zero {t:VT}:t∈X→Rch data X 0 t
 |arr {n:Nat} {t:VT}:t∈X→t.kind=7→Rch data X n (zb9 t)→Rch data X (n+1) t
 |mk {n:Nat} {t:VT}:t∈X→t.kind≠7→(∀w∈zaS data t,∀(p:Nat) (h:p<w.2.length),Rch data X (n-p) w.2[p])→Rch data X (n+1) t
theorem Rch.mem{data:List Dat}{X:List VT}{n:Nat}{t:VT}(h:Rch data X n t):t∈X:=by cases h <;> assumption
theorem Rch.mono{data:List Dat}{X Y:List VT}(hXY:∀x∈X,x∈Y){n:Nat}{t:VT}(h:Rch data X n t):Rch data Y n t:=by
 induction h with
 |zero h=>exact .zero (hXY _ h)
 |arr h h2 _ ih=>exact .arr (hXY _ h) h2 ih
 |mk h h2 _ ih=>exact .mk (hXY _ h) h2 ih
theorem Rch.le{data:List Dat}{X:List VT}{n:Nat}{t:VT}(h:Rch data X n t):∀m,m≤n→Rch data X m t:=by
 induction h with
 |zero h=>
  intro m hm;obtain rfl:m=0:=by omega
  exact .zero h
 |arr h h2 _ ih=>
  intro m hm;cases m with
  |zero=>exact .zero h
  |succ m=>exact .arr h h2 (ih m (by omega))
 |mk h h2 _ ih=>
  intro m hm;cases m with
  |zero=>exact .zero h
  |succ m=>exact .mk h h2 λw hw p hp=>ih w hw p hp (m-p) (by omega)
def gB(n:Nat):Nat:=if n=0 then 1 else 3*4 ^ n
theorem zj0{data:List Dat}{n:Nat}(ih:∀ m,m≤n→∀ t,zaD data 0 t=true→∃ X:List VT,X.length≤gB m∧Rch data X m t):∀ (ts:List VT) (q:Nat),(∀ x∈ts,zaD data 0 x=true)→∃ X:List VT,X.length≤sm ts.length (λp=>gB (n-(q+p)))∧∀ (p:Nat) (h:p<ts.length),Rch data X (n-(q+p)) ts[p]
 |[],_,_=>⟨[],by simp,λp h=>by simp at h⟩
 |t::ts,q,hv=>by
  obtain⟨X,h1,h2⟩:=ih (n-q) (by omega) t (hv t (by simp));obtain⟨Y,h3,h4⟩:=zj0 ih ts (q+1) λx hx=>hv x (by simp[hx]);refine⟨X++Y,?_,λp hp=>?_⟩
  ·rw[List.length_cons,ze4,List.length_append];have:sm ts.length (λi=>gB (n-(q+(i+1))))=sm ts.length λp=>gB (n-(q+1+p)):=zb2 λi _=>by rw[show q+(i+1)=q+1+i from by omega]
   rw[this,Nat.add_zero];omega
  ·cases p with
   |zero=>exact h2.mono λx hx=>by simp[hx]
   |succ p=>have:=h4 p (by simpa using hp);rw[show q+1+p=q+(p+1) from by omega]at this;exact this.mono λx hx=>by simp[hx]
theorem zvF{data:List Dat}{n B:Nat}:∀ (ws:List (Int × List VT)),(∀ w∈ws,∃ X:List VT,X.length≤B∧∀ (p:Nat) (h:p<w.2.length),Rch data X (n-p) w.2[p])→∃ X:List VT,X.length≤ws.length*B∧∀ w∈ws,∀ (p:Nat) (h:p<w.2.length),Rch data X (n-p) w.2[p]
 |[],_=>⟨[],by simp,by simp⟩
 |w::ws,h=>by
  obtain⟨X,h1,h2⟩:=h w (by simp);obtain⟨Y,h3,h4⟩:=zvF ws λv hv=>h v (by simp[hv]);refine⟨X++Y,?_,λv hv p hp=>?_⟩
  ·rw[List.length_append,List.length_cons,Nat.succ_mul];omega
  ·rcases List.mem_cons.1 hv with rfl | hv
   ·exact(h2 p hp).mono λx hx=>by simp[hx]
   ·exact(h4 v hv p hp).mono λx hx=>by simp[hx]
theorem znE{data:List Dat}(hk:Kpt data){t:VT}{c:Int}{l:List VT}(h:zbi data t c=some l):l.length≤3:=by obtain⟨k,n,ks⟩:=t;obtain⟨_,_,_,hn,hc,_,rfl,_⟩:=ziW h;rw[List.length_map];exact(hk _ (List.getElem_mem hn)).2 _ (List.getElem_mem hc)
theorem zeN{m n:Nat}(h:m≤n):gB m≤gB n:=by unfold gB;have h1:=Nat.pow_le_pow_right (show 0<4 by decide) h;have:0<4 ^ n:=Nat.pow_pos (by decide);split <;> split <;> omega
theorem sm3(n:Nat):∀k,k≤3→sm k (λp=>gB (n-(0+p)))≤gB n+gB (n-1)+gB (n-2):=by
 intro k hk
 match k,hk with
 |0,_=>simp[sm]
 |1,_=>simp[sm];omega
 |2,_=>simp[sm]
 |3,_=>simp[sm]
theorem zCG(n:Nat):1+3*(gB n+gB (n-1)+gB (n-2))≤gB (n+1):=by
 unfold gB
 match n with
 |0=>decide
 |1=>decide
 |2=>decide
 |n+3=>
  have a:4 ^ (n+4)=64*4 ^ (n+1):=by rw[show n+4=n+1+3 from rfl,Nat.pow_add];omega
  have b:4 ^ (n+3)=16*4 ^ (n+1):=by rw[show n+3=n+1+2 from rfl,Nat.pow_add];omega
  have c:4 ^ (n+2)=4*4 ^ (n+1):=by rw[Nat.pow_succ,Nat.mul_comm]
  have d:4≤4 ^ (n+1):=by rw[Nat.pow_succ];have:0<4 ^ n:=Nat.pow_pos (by decide);omega
  simp;omega
theorem sm6(n:Nat):∀k,k≤6→sm k (λp=>gB (n-(0+p)))≤3*(gB n+gB (n-1)+gB (n-2)):=by
 intro k hk;have h1:=zeN (show n-3≤n-2 by omega);have h2:=zeN (show n-4≤n-2 by omega);have h3:=zeN (show n-5≤n-2 by omega)
 match k,hk with
 |0,_=>simp[sm]
 |1,_=>simp[sm];omega
 |2,_=>simp[sm];omega
 |3,_=>simp[sm];omega
 |4,_=>simp[sm];omega
 |5,_=>simp[sm];have:=zeN (show n-2≤n-1 by omega);omega
 |6,_=>simp[sm];have:=zeN (show n-2≤n-1 by omega);have:=zeN (show n-1≤n by omega);omega
theorem zvE{data:List Dat}(hD:zaE data=true)(hk:Kpt data):∀(n:Nat) (t:VT),zaD data 0 t=true→∃X:List VT,X.length≤gB n∧Rch data X n t:=by
 intro n;induction n using Nat.strongRecOn with
 |ind n ih=>
  intro t ht;cases n with
  |zero=>exact⟨[t],by simp[gB],.zero (by simp)⟩
  |succ n=>
   have grec:=zCG n;by_cases h7:t.kind=7
   ·obtain⟨k,m,ks⟩:=t;have hv:=ze7 ht;have hs:=zdz ht;unfold okT at hs;rw[zaH,Bool.and_eq_true]at hs;have hs:=hs.1;change k=7 at h7;subst h7;simp[zaR]at hs;have hl:0<ks.length:=by omega
    obtain⟨X,h1,h2⟩:=ih n (by omega) (zb9 (.mk 7 m ks)) (by
     rw[zb9,List.getD_eq_getElem?_getD,List.getElem?_eq_getElem hl];exact hv _ (List.getElem_mem hl))
    exact⟨.mk 7 m ks::X,by rw[List.length_cons];omega,.arr (by simp) rfl (h2.mono λx hx=>by simp[hx])⟩
   ·have hv:=λw (hw:w∈zaS data t)=>zkn hD ht hw;have hih:∀ m,m≤n→∀ t,zaD data 0 t=true→∃ X:List VT,X.length≤gB m∧Rch data X m t:=λm hm t ht=>ih m (by omega) t ht
    suffices hX:∃X:List VT,X.length≤3*(gB n+gB (n-1)+gB (n-2))∧∀w∈zaS data t,∀(p:Nat) (h:p<w.2.length),Rch data X (n-p) w.2[p] by
     obtain⟨X,h1,h2⟩:=hX;exact⟨t::X,by rw[List.length_cons];omega,.mk (by simp) h7 λw hw p hp=>(h2 w hw p hp).mono λx hx=>by simp[hx]⟩
    by_cases h5:t.kind=5
    ·have h3:∀w∈zaS data t,w.2.length≤3:=by
      obtain⟨k,m,ks⟩:=t;change k=5 at h5;subst h5;intro w hw;rw[zaS,if_neg (by omega),if_pos rfl]at hw;obtain⟨c,_,hc⟩:=List.mem_filterMap.1 hw;cases hf:zbi data (.mk 5 m ks) c with
      |none=>rw[hf]at hc;cases hc
      |some l=>rw[hf]at hc;simp at hc;subst hc;exact znE hk hf
     obtain⟨X,h1,h2⟩:=zvF (B:=gB n+gB (n-1)+gB (n-2)) (n:=n) (zaS data t) λw hw=>by obtain⟨X,h1,h2⟩:=zj0 hih w.2 0 (hv w hw);refine⟨X,Nat.le_trans h1 (sm3 n _ (h3 w hw)),λp hp=>?_⟩;have:=h2 p hp;rwa [Nat.zero_add]at this
     have hl:=Nat.mul_le_mul_right (gB n+gB (n-1)+gB (n-2)) (zkm hk t);exact⟨X,by omega,h2⟩
    ·obtain⟨k,m,ks⟩:=t;by_cases h68:k=6∨k=8
     ·have e:zaS data (.mk k m ks)=[(0,ks)]:=by rw[zaS,if_pos h68]
      have h6:ks.length≤6:=by have hs:=zdz ht;unfold okT at hs;rw[zaH,Bool.and_eq_true]at hs;have hs:=hs.1;rcases h68 with rfl|rfl <;> simp[zaR]at hs <;> omega
      obtain⟨X,h1,h2⟩:=zj0 hih ks 0 (by rw[e]at hv;exact hv (0,ks) (by simp));refine⟨X,Nat.le_trans h1 (sm6 n _ h6),λw hw p hp=>?_⟩;rw[e]at hw;simp at hw;subst hw;have:=h2 p hp;rwa [Nat.zero_add]at this
     ·refine⟨[],by simp,λw hw=>?_⟩;rw[zaS,if_neg h68,if_neg (show ¬k=5 from h5)]at hw;simp at hw
end Go.Proofs.YtaifokkaaahdoaaGreatDoor
