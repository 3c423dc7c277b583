import Derived.Test.YtdmamdnkcefmmaaGreatDoorKZ2
import Derived.Test.YtdmamdnkcefmmaaGreatDoorKNum
import Derived.Test.YtdmamdnkcefmmaaGreatDoorProg
import Derived.KernelRfl
set_option linter.unusedSimpArgs false
set_option linter.unusedVariables false
set_option maxRecDepth 8000
namespace Go.Proofs.YtdmamdnkcefmmaaGreatDoor
open Go Go.Abs
theorem zyn (O:List Nat) (i x:Nat) (h:i<O.length):List.take i (us O)++AV.int .u32 (x:Int)::List.drop (i+1) (us O)=us (O.set i x):=by rw[←zym O i x h];simp
theorem zxs {O:List Nat} (hO:∀ x∈O,x<1000000000) {i x:Nat} (hx:x<1000000000):∀ y∈O.set i x,y<1000000000:=by
 intro y hy;rcases List.mem_or_eq_of_mem_set hy with hy | rfl
 ·exact hO y hy
 ·exact hx
theorem zLc (A:List Nat) (lA:∀ x∈A,x<1000000000) (ha:A.length≤1000) (d:Nat) (dc:0<d) (hd:d<4294967296) (hdB:d≤1000000000) (H:zaa) (K:Kt)
  (hK:K (.tup [.sl (zam (lim (zap A / d))) .none,.int .u64 ((zap A % d:Nat):Int)]) H) :
  ACalls tP zoY [.sl (zam A) .none,.int .u64 d] H K:=by
 refine ACalls.out (zLa λhs=>?_);have aN:IntKind.i64.wrap ((A.length:Int)-1)=(A.length:Int)-1:=zat (by omega) (by omega);simp[zzu,zbp,aN];rw[zqs];refine⟨⟨by omega,by omega⟩,?_⟩;have hsc:∀ O:List Nat,HSc (H++[.cells (us O)]):=λO=>hs.append (by simp[AB.sc,us,AV.scA,AV.scB]);refine zK8 (Inv:=λq t7 t8 H'=>∃ (i r:Nat) (O:List Nat),i≤A.length∧i=q∧t8=.int .i64 ((i:Int)-1)∧t7=.int .u64 r∧r<d∧O.length=A.length∧(∀ x∈O,x<1000000000) ∧
  zap (A.drop i)=d*zap (O.drop i)+r∧H'=H++[.cells (us O)]) A.length ?_ ?_
 ·intro _;exact⟨A.length,0,_,by omega,rfl,rfl,rfl,by omega,by simp,by simp,by simp[zap],rfl⟩
 ·rintro q t7 t8 H' ⟨i,r,O,hi,rfl,rfl,rfl,hr,fZ,hO,hv,rfl⟩ aM am aP Kb ar;by_cases h0:i=0
  ·subst h0;simp[zrv];rw[List.drop_zero,List.drop_zero]at hv;rw[←fZ];refine zD5 O hO (by omega) (by simp) ?_;have e1:zap A / d=zap O:=by rw[hv,Nat.mul_add_div dc,Nat.div_eq_of_lt hr];simp
   have e2:zap A % d=r:=by rw[hv,Nat.mul_add_mod,Nat.mod_eq_of_lt hr]
   rw[e1,e2]at hK;simp;exact⟨⟨rfl,rfl⟩,Out.tup (bs:=[.sl (zam (lim (zap O))) .none,.int .u64 (r:Int)]) hs hK ⟨slV,zaW rfl rfl,trivial⟩⟩
  ·obtain⟨j,rfl⟩:∃ j,i=j+1:=⟨i-1,by omega⟩;have db:j<A.length:=by omega
   have jG:j<O.length:=by omega
   have fy:=lA A[j] (List.getElem_mem db);have ej:((j+1:Nat):Int)-1=(j:Int):=by omega
   have aW:IntKind.i64.wrap ((j:Int)-1)=(j:Int)-1:=zat (by omega) (by omega);have hrB:r*1000000000≤1000000000*1000000000:=Nat.mul_le_mul_right _ (by omega);obtain⟨m,hm⟩:∃ m,m=r*1000000000:=⟨_,rfl⟩;have w1:IntKind.u64.wrap ((r:Int)*1000000000)=(m:Int):=by rw[show (r:Int)*1000000000=(m:Int) by omega];exact zbH (by omega)
   have w2:IntKind.u64.wrap ((A[j]:Nat):Int)=A[j]:=zbH (by omega);obtain⟨s,bJ⟩:∃ s,s=m+A[j]:=⟨_,rfl⟩;have w3:IntKind.u64.wrap ((m:Int)+(A[j]:Nat))=(s:Int):=by rw[bJ,←Int.natCast_add];exact zbH (by omega)
   obtain⟨x,c,bI,bh,e1,e2⟩:=zoc s d dc (by omega);have lu:c<1000000000:=by
    refine Nat.lt_of_not_le λh=>?_;have h1:d*1000000000≤d*c:=Nat.mul_le_mul_left _ h;have h2:r*1000000000+1000000000≤d*1000000000:=by rw[←Nat.succ_mul];exact Nat.mul_le_mul_right _ hr
    omega
   have w4:IntKind.u32.wrap (c:Int)=c:=zdW (by omega);rw[ej];simp only[zrv];simp[db,w1,w2,w3,e1,e2,w4,aW,zyn O j c jG,fZ];refine⟨by omega,ar _ _ ⟨j,by omega,Back.here (by simp) (hsc _) (by simp[zle,ux,AV.sc,AV.scA,AV.scB,AV.scV]) ⟨_,_,rfl,j,x,O.set j c,by omega,rfl,rfl,rfl,bI,by simp[fZ],zxs hO lu,?_,rfl⟩⟩⟩;rw[zg7 A j db,zg7 (O.set j c) j (by simpa using jG),List.getElem_set_self,List.drop_set_of_lt (by omega),hv];rw[bJ,hm]at bh;generalize zap (O.drop (j+1))=Z at *;grind
theorem zqI (a b:Nat) (ha:(lim a).length≤1000) (bE:0<b) (hb:b<1000000000) (H:zaa) (K:Kt)
  (hK:K (.tup [.sl (zam (lim (a / b))) .none,.sl (zam (lim (a % b))) .none]) H) :
  ACalls tP zhb [.sl (zam (lim a)) .none,.sl (zam (lim b)) .none] H K:=by
 refine ACalls.out (zID λhs=>?_);have cx:lim b=[b]:=ze9 (by omega) hb;simp only[zyK];refine zIl a b ha (by rw[cx];simp) _ _ ?_;have gO:(zcg a b<0)↔a<b:=by
  unfold zcg;split
  ·simp;assumption
  ·split <;> simp <;> omega
 by_cases ak:a<b
 ·simp[gO,ak];refine zqK (lim a) (by omega) _ _ ?_;rw[zfo _ (zch a),zbK];rw[Nat.div_eq_of_lt ak,Nat.mod_eq_of_lt ak,zvZ]at hK;refine⟨⟨rfl,rfl⟩,?_⟩;exact Out.tup0 (bs:=[.sl (zam []) .none,.sl (zam (lim a)) .none]) hs hK ⟨zdr,slV,trivial⟩
 ·have w1:IntKind.u64.wrap (b:Int)=b:=zbH (by omega);have hm:a % b<b:=Nat.mod_lt _ bE;simp[gO,ak,cx,w1];refine zLc (lim a) (zch a) ha b bE (by omega) (by omega) _ _ ?_;rw[zbK];simp;refine zB8 (a % b) (by omega) _ _ ?_;refine⟨⟨rfl,rfl⟩,?_⟩;exact Out.tup0 (bs:=[.sl (zam (lim (a / b))) .none,.sl (zam (lim (a % b))) .none]) hs hK ⟨slV,slV,trivial⟩
theorem zIy (a b:Nat) (ha:(lim a).length≤1000) (hb:b<1000000000) (H:zaa) (K:Kt) (hK:K (.sl (zam (lim (Nat.gcd a b))) .none) H) :
  ACalls tP zoI [.sl (zam (lim a)) .none,.sl (zam (lim b)) .none] H K:=by
 refine ACalls.out (zIw λhs=>?_);unfold zyI;refine zIu (Inv:=λq t0 t1 H'=>∃ x y:Nat,y=q∧t0=.sl (zam (lim x)) .none∧t1=.sl (zam (lim y)) .none∧(lim x).length≤1000∧y<1000000000∧Nat.gcd x y=Nat.gcd a b∧H'=H) b ?_ ?_
 ·intro _;exact⟨a,b,rfl,rfl,rfl,ha,hb,rfl,rfl⟩
 ·rintro q t0 t1 H' ⟨x,y,rfl,rfl,rfl,hx,hy,hg,rfl⟩ aM am aP Kb ar;by_cases h0:y=0
  ·subst h0;rw[Nat.gcd_zero_right]at hg;subst hg;simp[zqF];exact Out.one0 hs (.atom (.sl _ _)) rfl rfl hK
  ·have hly:lim y=[y]:=ze9 h0 hy;have hm:x % y<y:=Nat.mod_lt _ (by omega);simp[zqF,show 0<(lim y).length by rw[hly];simp];refine zqI x y hx (by omega) hy _ _ ?_;simp;refine ar _ _ ⟨x % y,hm,Back.here (by simp) hs (by simp[zkp,ux,AV.sc,AV.scA,AV.scB,AV.scV]) ⟨_,_,rfl,y,x % y,rfl,rfl,rfl,by rw[hly];simp,by omega,?_,rfl⟩⟩;rw[←hg,Nat.gcd_comm x y,Nat.gcd_rec y x,Nat.gcd_comm]
def zal (z:Int):List AV:=[.bool (decide (z<0)),.sl (zam (lim z.natAbs)) .none,.sl (zam [1]) .none]
theorem zR0 (neg:Bool) (N D:List Nat) (hN:∀ x∈N,x<4294967296) (hD:∀ x∈D,x<4294967296) (lv:N.length≤10000) (hDl:D.length≤10000) (n:Nat) (bY:(lim n).length≤900) (d:Nat) (dc:0<d) (hd:d<1000000000)
  (hn:zap N=n*d) (hdv:zap D=d) (H:zaa) (K:Kt) (hK:K (.agg (zal (if neg then -(n:Int) else n))) H) :
  ACalls tP zf5 [.bool neg,.sl (zam N) .none,.sl (zam D) .none] H K:=by
 refine ACalls.out (zRZ λhs=>?_);have dC:lim d=[d]:=ze9 (by omega) hd;simp[zBZ];refine zyH N hN (by omega) _ _ ?_;refine zyH D hD (by omega) _ _ ?_;rw[hn,hdv];have jo:(lim (n*d)).length≤1000:=by
  have h1:=zeD (lim n) (zch n);rw[zbK]at h1;have h2:n*d<1000000000 ^ ((lim n).length+1):=by rw[Nat.pow_succ];exact Nat.mul_lt_mul'' h1 hd
  have:=zbQ h2;omega
 by_cases h0:n=0
 ·subst h0;have e0:(if neg=true then -((0:Nat):Int) else ((0:Nat):Int))=0:=by cases neg <;> rfl
  rw[e0]at hK;simp[zau,zaV,plain,AV.pd,zar,zaJ,zcQ];have e1:zal 0=[.bool false,.sl [] .none,.sl [[.int .u32 1]] .none]:=by simp[zal,zam]
  rw[e1]at hK;exact Out.one hs (WkV.agg (ds:=[.bool false,.sl [] .none,.sl [[.int .u32 1]] .none]) ⟨.refl _,.snil,.sl _ _,trivial⟩) rfl (by simp[AV.scV,AV.scA,AV.scB]) hK
 ·have bU:0<(lim (n*d)).length:=by rw[zb9 (Nat.mul_ne_zero h0 (by omega))];simp
  have hg:Nat.gcd (n*d) d=d:=Nat.gcd_eq_right (Nat.dvd_mul_left d n);have bE:(((lim (n*d)).length:Int) == 0)=false:=by generalize (lim (n*d)).length=q at bU;simp;omega
  have ci:zmZ (.bool neg) (.sl (zam (lim n)) .none) (.sl (zam [1]) .none) (.ptr H.length 0) (H++[.cells [.bool false,.snil,.snil]]) (Out H.length K):=by
   simp[zmZ,zar,zaJ,zcQ];have e1:zal (if neg=true then -(n:Int) else n)=[.bool neg,.sl (zam (lim n)) .none,.sl (zam [1]) .none]:=by
    cases neg
    ·simp[zal]
    ·simp[zal];omega
   rw[e1]at hK;exact Out.one hs (WkV.agg (ds:=[.bool neg,.sl (zam (lim n)) .none,.sl (zam [1]) .none]) ⟨.refl _,.sl _ _,.sl _ _,trivial⟩) rfl (by simp[AV.scV,AV.scA,AV.scB]) hK
  simp[bE,dC];rw[show ([d]:List Nat)=lim d from dC.symm];refine zIy (n*d) d jo hd _ _ ?_;rw[hg,dC];by_cases gg:d=1
  ·subst gg;simp;simpa using ci
  ·have aB:((d:Int) != 1)=true:=by simp;omega
   simp[aB];rw[show ([d]:List Nat)=lim d from dC.symm];refine zqI (n*d) d jo dc hd _ _ ?_;simp;refine zqI d d (by rw[dC];simp) dc hd _ _ ?_;rw[Nat.div_self dc,Nat.mul_div_cancel _ dc,show lim 1=[1] from ze9 (by omega) (by omega)];simp;exact ci
def Sm (z:Int):Prop:=z.natAbs<1000000000 ^ 30
theorem Sm.len {z:Int} (h:Sm z):(lim z.natAbs).length≤30:=zbQ h
theorem zdQ:lim 1=[1]:=ze9 (by omega) (by omega)
theorem zg5 (n:Nat):∀ x∈lim n,x<4294967296:=λx hx=>by have:=zch n x hx;omega
@[simp] theorem zFU (z:Int):(zal z).length=3:=rfl
@[simp] theorem zfj (z:Int):(zal z).all AV.known=true:=rfl
theorem zhD (z:Int) (n:Nat):(zal z).all (AV.scA n)=true:=rfl
theorem zdD {H J:zaa} {K:Kt} {z:Int} (hs:HSc H) (hK:K (.agg (zal z)) H):Out H.length K (.agg (zal z)) (H++J):=Out.one hs .rfl' rfl rfl hK
theorem zDJ (neg:Bool) (n d:Nat) (hn:n*d<1000000000 ^ 100) (dc:0<d) (hd:d<1000000000) {z:Int} (hz:(if neg=true then -(n:Int) else n)=z) (H:zaa) (K:Kt) (hK:K (.agg (zal z)) H) :
  ACalls tP zf5 [.bool neg,.sl (zam (lim (n*d))) .none,.sl (zam (lim d)) .none] H K:=by
 subst hz;have h1:=zbQ hn;have h2:n<1000000000 ^ 100:=Nat.lt_of_le_of_lt (Nat.le_mul_of_pos_right n dc) hn;have h3:=zbQ h2;exact zR0 neg _ _ (zg5 _) (zg5 _) (by omega) (by rw[ze9 (by omega) hd];simp) n (by omega) d dc hd (zbK _) (zbK _) H K hK
theorem zDI (neg:Bool) (n:Nat) (hn:n<1000000000 ^ 100) {z:Int} (hz:(if neg=true then -(n:Int) else n)=z) (H:zaa) (K:Kt) (hK:K (.agg (zal z)) H) :
  ACalls tP zf5 [.bool neg,.sl (zam (lim n)) .none,.sl (zam [1]) .none] H K:=by
 have:=zDJ neg n 1 (by simpa using hn) (by omega) (by omega) hz H K hK;rwa [zdQ,Nat.mul_one]at this
theorem zE7 {a b:Nat} (ha:a<1000000000 ^ 30) (hb:b<1000000000 ^ 30):a*b<1000000000 ^ 100:=by have:=Nat.mul_lt_mul'' ha hb;rw[←Nat.pow_add]at this;exact Nat.lt_of_lt_of_le this (Nat.pow_le_pow_right (by omega) (by omega))
theorem zQC (n:Nat) (hn:n<9223372036854775808) (H:zaa) (K:Kt) (hK:K (.agg (zal n)) H):ACalls tP zpn [.int .i64 n] H K:=by
 refine ACalls.out (zQB λhs=>?_);have w1:IntKind.u64.wrap (n:Int)=n:=zbH (by omega);have h0:¬ ((n:Int)<0):=by omega
 simp[zBt,h0,w1];refine zB8 n (by omega) _ _ ?_;simp[zau,zaV,plain,AV.pd];refine ACalls.wk (args':=[.bool false,.sl (zam (lim n)) .none,.sl (zam [1]) .none]) (zDI false n (by omega) (z:=n) (by simp) _ _ ?_) ⟨.rfl',.rfl',.atom (.sl _ _),trivial⟩;simp[zfj];exact zdD hs hK
theorem zjy:(1:Nat)<1000000000 ^ 30:=by decide
theorem zGq (a b:Int):(if (decide (a<0) != decide (b<0))=true then -((a.natAbs*b.natAbs:Nat):Int) else ((a.natAbs*b.natAbs:Nat):Int))=a*b:=by
 rw[←Int.natAbs_mul];by_cases ha:a<0 <;> by_cases hb:b<0 <;> simp[ha,hb]
 ·have:=Int.mul_pos_of_neg_of_neg ha hb;omega
 ·have:=Int.mul_nonpos_of_nonpos_of_nonneg (Int.le_of_lt ha) (by omega:0≤b);omega
 ·have:=Int.mul_nonpos_of_nonneg_of_nonpos (by omega:0≤a) (Int.le_of_lt hb);omega
 ·have:=Int.mul_nonneg (by omega:0≤a) (by omega:0≤b);omega
theorem Sm.neg {z:Int} (h:Sm z):Sm (-z):=by unfold Sm at h ⊢;rwa [Int.natAbs_neg]
theorem zor (L:List Nat) (hL:L.length≤100000) (H:zaa) (K:Kt) (hK:K (.bool (decide (L=[1]))) H):ACalls tP zi4 [.sl (zam L) .none] H K:=by
 refine ACalls.out (zN3 λhs=>?_);have hO:∀ b,b=decide (L=[1])→Out H.length K (.bool b) H:=λb hb=>Out.bool (J:=[]) (by simp) (Nat.le_refl _) hs (by rw[hb];exact hK)
 match L with
 | []=>simp[zl3];exact hO false (by simp)
 | [x]=>
  simp[zl3,zam];refine hO _ ?_;by_cases h:x=1
  ·subst h;rfl
  ·have hb:((x:Int) == 1)=false:=by simp;omega
   rw[hb];simp[h]
 | x::y::l=>
  have hb:((l.length:Int)+1+1 == 1)=false:=by simp;omega
  simp[zl3,hb];exact hO false (by simp)
theorem zEX (neg:Bool) (n:Nat) (hn:(lim n).length≤1000) (H:zaa) (K:Kt) (hK:K (.agg (zal (if neg=true then -(n:Int) else n))) H) :
  ACalls tP ziT [.agg [.bool neg,.sl (zam (lim n)) .none,.sl (zam [1]) .none]] H K:=by
 refine ACalls.out (zzx λhs=>?_);by_cases h0:n=0
 ·subst h0;have e0:(if neg=true then -((0:Nat):Int) else ((0:Nat):Int))=0:=by cases neg <;> rfl
  have e1:zal 0=[.bool false,.sl [] .none,.sl [[.int .u32 1]] .none]:=by simp[zal,zam]
  rw[e0,e1]at hK;simp[zli,zau,zaV,plain,AV.pd,zar,zaJ,zcQ,Nat.add_assoc];exact Out.one hs (WkV.agg (ds:=[.bool false,.sl [] .none,.sl [[.int .u32 1]] .none]) ⟨.refl _,.snil,.sl _ _,trivial⟩) rfl (by simp[AV.scV,AV.scA,AV.scB]) hK
 ·have hp:0<(lim n).length:=by rw[zb9 h0];simp
  have hb:(((lim n).length:Int) == 0)=false:=by generalize (lim n).length=q at hp;simp;omega
  have e1:zal (if neg=true then -(n:Int) else n)=[.bool neg,.sl (zam (lim n)) .none,.sl (zam [1]) .none]:=by
   cases neg
   ·simp[zal]
   ·simp[zal];omega
  rw[e1]at hK;simp[zli,hb,Nat.add_assoc];refine zor [1] (by simp) _ _ ?_;simp[Nat.add_assoc];exact Out.one hs (WkV.agg (ds:=[.bool neg,.sl (zam (lim n)) .none,.sl (zam [1]) .none]) ⟨.refl _,.sl _ _,.sl _ _,trivial⟩) rfl (by simp[AV.scV,AV.scA,AV.scB]) hK
theorem zjS (neg:Bool) (n:Nat) (hn:(lim n).length≤1000) {z:Int} (hz:(if neg=true then -(n:Int) else n)=z) (H:zaa) (K:Kt) (hK:K (.agg (zal z)) H) :
  ACalls tP zeG [.agg [.bool neg,.sl (zam (lim n)) .none,.sl (zam [1]) .none]] H K:=by
 refine ACalls.out (zyS λhs=>?_);simp[zqR,Nat.add_assoc];refine zEX neg n hn _ _ ?_;rw[hz];simp[zal,zar,zaJ,zcQ,AV.known,Nat.add_assoc];exact zdD hs hK
theorem zfW (z:Int) (hz:(lim z.natAbs).length≤1000) (H:zaa) (K:Kt) (hK:K (.agg (zal z)) H):ACalls tP zed [.agg (zal z)] H K:=by
 refine ACalls.out (zyT λhs=>?_);simp[zqS,zal,Nat.add_assoc];refine zaC (.sl (zam (lim z.natAbs)) .none) (λJ=>zjw _ (zg5 _) (by omega) _ _ (by rw[zbK];exact⟨rfl,rfl⟩)) ?_;refine zaC (.sl (zam [1]) .none) (λJ=>zjw [1] (by simp) (by simp) _ _ (by simp[zap,zdQ])) ?_;by_cases h0:z=0
 ·subst h0;have e1:zal 0=[.bool false,.sl [] .none,.sl [[.int .u32 1]] .none]:=by simp[zal,zam]
  rw[e1]at hK;simp[zau,zaV,plain,AV.pd,zar,zaJ,zcQ,Nat.add_assoc];exact Out.one hs (WkV.agg (ds:=[.bool false,.sl [] .none,.sl [[.int .u32 1]] .none]) ⟨.refl _,.snil,.sl _ _,trivial⟩) rfl (by simp[AV.scV,AV.scA,AV.scB]) hK
 ·have hp:0<(lim z.natAbs).length:=by rw[zb9 (by omega)];simp
  have hb:(((lim z.natAbs).length:Int) == 0)=false:=by generalize (lim z.natAbs).length=q at hp;simp;omega
  simp[hb,zar,zaJ,zcQ,AV.known,Nat.add_assoc];exact zdD hs hK
theorem zoy (n:Nat) (hn:n<9223372036854775808) (H:zaa) (K:Kt) (hK:K (.sl (zam (lim n)) .none) H):ACalls tP zhc [.int .i64 n] H K:=by
 refine ACalls.out (zI3 λhs=>?_);have w1:IntKind.u64.wrap (n:Int)=n:=zbH (by omega);have h0:¬ ((n:Int)<0):=by omega
 simp[zyR,h0,w1];refine zoi n (by omega) _ _ ?_;exact Out.one0 hs (.atom (.sl _ _)) rfl rfl hK
theorem zd1 (n:Nat) (hn:n<9223372036854775808) (H:zaa) (K:Kt) (hK:K (.agg (zal n)) H):ACalls tP zc6 [.int .i64 n] H K:=by
 refine ACalls.out (zSe λhs=>?_);have h0:decide ((n:Int)<0)=false:=by simp
 have hl:=zbQ (n:=n) (k:=3) (by omega);simp[zB2,Nat.add_assoc];refine zoy n hn _ _ ?_;simp[h0,zau,zaV,plain,AV.pd,zar,zaJ,zcQ,AV.known,Nat.add_assoc];refine ACalls.wk (args':=[.agg [.bool false,.sl (zam (lim n)) .none,.sl (zam [1]) .none]]) (zjS false n (by omega) (z:=n) (by simp) _ _ ?_) ⟨.agg ⟨.refl _,.refl _,.sl _ _,trivial⟩,trivial⟩;simp[zfj,Nat.add_assoc];exact zdD hs hK
theorem zha (a b:Nat) (ha:a<1000000000 ^ 30) (hb:b<1000000000 ^ 30) (H:zaa) (K:Kt) (hK:K (.sl (zam (lim (a*b))) .none) H):ACalls tP zdA [.sl (zam (lim a)) .none,.sl (zam (lim b)) .none] H K:=by have h1:=zbQ ha;have h2:=zbQ hb;refine zE8 (lim a) (lim b) (zch a) (zch b) (by omega) (by omega) _ _ ?_;rw[zbK,zbK];exact hK
theorem zwc (H:zaa) (K:Kt) (hK:K (.sl (zam [1]) .none) H):ACalls tP zdA [.sl (zam [1]) .none,.sl (zam [1]) .none] H K:=by have:=zha 1 1 zjy zjy H K (by rw[Nat.mul_one,zdQ];exact hK);rwa [zdQ]at this
theorem zig (a b:Int) (ha:Sm a) (hb:Sm b) (H:zaa) (K:Kt) (hK:K (.agg (zal (a*b))) H):ACalls tP zeI [.agg (zal a),.agg (zal b)] H K:=by refine ACalls.out (zB6 λhs=>?_);have la:=ha.len;have lb:=hb.len;have hm:=zbQ (zE7 ha hb);simp[ztC,zal,Nat.add_assoc];refine zaC (.agg (zal a)) (λJ=>zfW a (by omega) _ _ ⟨rfl,rfl⟩) ?_;refine zaC (.agg (zal b)) (λJ=>zfW b (by omega) _ _ ⟨rfl,rfl⟩) ?_;simp[zal,AV.known,Nat.add_assoc];refine zaC (.sl (zam (lim (a.natAbs*b.natAbs))) .none) (λJ=>zha _ _ ha hb _ _ ⟨rfl,rfl⟩) ?_;refine zaC (.sl (zam [1]) .none) (λJ=>zwc _ _ ⟨rfl,rfl⟩) ?_;simp[zar,zaJ,zcQ,AV.known,Nat.add_assoc];refine zaC (.agg (zal (a*b))) (λJ=>zjS _ _ (by omega) (zGq a b) _ _ ⟨rfl,rfl⟩) ?_;simp[Nat.add_assoc];exact zdD hs hK
theorem zDY (a b:Nat) (ha:(lim a).length≤1000) (hb:(lim b).length≤1000) (H:zaa) (K:Kt) (hK:K (.int .i64 (zcg a b)) H) :
  ACalls tP ziX [.sl (zam (lim a)) .none,.sl (zam (lim b)) .none] H K:=by
 refine ACalls.out (zM7 λhs=>?_);have hO:∀ r,r=zcg a b→Out H.length K (.int .i64 r) H:=λr hr=>Out.int (J:=[]) (by simp) (Nat.le_refl _) hs (by rw[hr];exact hK);have lA:=zch a;have lB:=zch b;have vA:=zbK a;have vB:=zbK b;by_cases aB:(lim a).length=(lim b).length
 ·simp[zlI,aB];generalize hLA:lim a=A at *;generalize hLB:lim b=B at *;have d7:IntKind.i64.wrap ((B.length:Int)-1)=(B.length:Int)-1:=zat (by omega) (by omega);rw[d7];refine zM5 (Inv:=λq t5 H'=>∃ i:Nat,i≤B.length∧i=q∧t5=.int .i64 ((i:Int)-1)∧H'=H∧A.drop i=B.drop i) B.length ?_ ?_
  ·intro _;exact⟨B.length,by omega,rfl,rfl,rfl,by rw[List.drop_of_length_le (by omega),List.drop_of_length_le (by omega)]⟩
  ·rintro q t5 H' ⟨i,hi,rfl,rfl,rfl,hd⟩ aM am aP Kb ar;by_cases h0:i=0
   ·subst h0;simp[zh4];refine hO _ ?_;simp at hd;rw[←vA,←vB,hd];simp[zcg]
   ·obtain⟨j,rfl⟩:∃ j,i=j+1:=⟨i-1,by omega⟩;have db:j<A.length:=by omega
    have fA:j<B.length:=by omega
    have ej:((j+1:Nat):Int)-1=(j:Int):=by omega
    have aW:IntKind.i64.wrap ((j:Int)-1)=(j:Int)-1:=zat (by omega) (by omega);rw[ej];rcases Nat.lt_trichotomy A[j] B[j] with h | h | h
    ·have:=ziI aB lA j db hd h;simp[zh4,db,fA,h];exact hO _ (by rw[←vA,←vB];simp[zcg,this])
    ·simp[zh4,db,fA,h,aW];refine ar _ _ ⟨j,by omega,Back.here (by simp) hs (by simp[zlK,ux,AV.sc,AV.scA,AV.scB,AV.scV]) ⟨_,rfl,j,by omega,rfl,rfl,rfl,?_⟩⟩;rw[List.drop_eq_getElem_cons db,List.drop_eq_getElem_cons fA,hd,h]
    ·have:=ziI aB.symm lB j fA hd.symm h;simp[zh4,db,fA,h,Nat.le_of_lt h,Nat.not_lt.2 (Nat.le_of_lt h)];exact hO _ (by rw[←vA,←vB];simp[zcg,this,Nat.not_lt.2 (Nat.le_of_lt this)])
 ·have fB:(((lim a).length:Int) != ((lim b).length:Int))=true:=by simp;omega
  by_cases ak:(lim a).length<(lim b).length
  ·have:=ziH ak;simp[zlI,fB,ak];exact hO (-1) (by simp[zcg,this])
  ·have:=ziH (show (lim b).length<(lim a).length by omega);simp[zlI,fB,ak];exact hO 1 (by simp[zcg,this,Nat.not_lt.2 (Nat.le_of_lt this)])
theorem zEf (A:List Nat) (lA:∀ x∈A,x<1000000000) (ha:A.length≤1000) (d:Nat) (dc:0<d) (hd:d<4294967296) (hdB:d≤1000000000) (H:zaa) (K:Kt)
  (hK:K (.tup [.sl (zam (lim (zap A / d))) .none,.int .u64 ((zap A % d:Nat):Int)]) H) :
  ACalls tP zpe [.sl (zam A) .none,.int .u64 d] H K:=by
 refine ACalls.out (zPe λhs=>?_);have aN:IntKind.i64.wrap ((A.length:Int)-1)=(A.length:Int)-1:=zat (by omega) (by omega);simp[zA0,zbp,aN];rw[zqs];refine⟨⟨by omega,by omega⟩,?_⟩;have hsc:∀ O:List Nat,HSc (H++[.cells (us O)]):=λO=>hs.append (by simp[AB.sc,us,AV.scA,AV.scB]);refine zPc (Inv:=λq t7 t8 H'=>∃ (i r:Nat) (O:List Nat),i≤A.length∧i=q∧t8=.int .i64 ((i:Int)-1)∧t7=.int .u64 r∧r<d∧O.length=A.length∧(∀ x∈O,x<1000000000) ∧
  zap (A.drop i)=d*zap (O.drop i)+r∧H'=H++[.cells (us O)]) A.length ?_ ?_
 ·intro _;exact⟨A.length,0,_,by omega,rfl,rfl,rfl,by omega,by simp,by simp,by simp[zap],rfl⟩
 ·rintro q t7 t8 H' ⟨i,r,O,hi,rfl,rfl,rfl,hr,fZ,hO,hv,rfl⟩ aM am aP Kb ar;by_cases h0:i=0
  ·subst h0;simp[zsE];rw[List.drop_zero,List.drop_zero]at hv;rw[←fZ];refine zx5 O hO (by omega) (by simp) ?_;have e1:zap A / d=zap O:=by rw[hv,Nat.mul_add_div dc,Nat.div_eq_of_lt hr];simp
   have e2:zap A % d=r:=by rw[hv,Nat.mul_add_mod,Nat.mod_eq_of_lt hr]
   rw[e1,e2]at hK;simp;exact⟨⟨rfl,rfl⟩,Out.tup (bs:=[.sl (zam (lim (zap O))) .none,.int .u64 (r:Int)]) hs hK ⟨slV,zaW rfl rfl,trivial⟩⟩
  ·obtain⟨j,rfl⟩:∃ j,i=j+1:=⟨i-1,by omega⟩;have db:j<A.length:=by omega
   have jG:j<O.length:=by omega
   have fy:=lA A[j] (List.getElem_mem db);have ej:((j+1:Nat):Int)-1=(j:Int):=by omega
   have aW:IntKind.i64.wrap ((j:Int)-1)=(j:Int)-1:=zat (by omega) (by omega);have hrB:r*1000000000≤1000000000*1000000000:=Nat.mul_le_mul_right _ (by omega);obtain⟨m,hm⟩:∃ m,m=r*1000000000:=⟨_,rfl⟩;have w1:IntKind.u64.wrap ((r:Int)*1000000000)=(m:Int):=by rw[show (r:Int)*1000000000=(m:Int) by omega];exact zbH (by omega)
   have w2:IntKind.u64.wrap ((A[j]:Nat):Int)=A[j]:=zbH (by omega);obtain⟨s,bJ⟩:∃ s,s=m+A[j]:=⟨_,rfl⟩;have w3:IntKind.u64.wrap ((m:Int)+(A[j]:Nat))=(s:Int):=by rw[bJ,←Int.natCast_add];exact zbH (by omega)
   obtain⟨x,c,bI,bh,e1,e2⟩:=zoc s d dc (by omega);have lu:c<1000000000:=by
    refine Nat.lt_of_not_le λh=>?_;have h1:d*1000000000≤d*c:=Nat.mul_le_mul_left _ h;have h2:r*1000000000+1000000000≤d*1000000000:=by rw[←Nat.succ_mul];exact Nat.mul_le_mul_right _ hr
    omega
   have w4:IntKind.u32.wrap (c:Int)=c:=zdW (by omega);rw[ej];simp only[zsE];simp[db,w1,w2,w3,e1,e2,w4,aW,zyn O j c jG,fZ];refine⟨by omega,ar _ _ ⟨j,by omega,Back.here (by simp) (hsc _) (by simp[zmg,ux,AV.sc,AV.scA,AV.scB,AV.scV]) ⟨_,_,rfl,j,x,O.set j c,by omega,rfl,rfl,rfl,bI,by simp[fZ],zxs hO lu,?_,rfl⟩⟩⟩;rw[zg7 A j db,zg7 (O.set j c) j (by simpa using jG),List.getElem_set_self,List.drop_set_of_lt (by omega),hv];rw[bJ,hm]at bh;generalize zap (O.drop (j+1))=Z at *;grind
theorem zvr (a b:Nat) (ha:(lim a).length≤1000) (bE:0<b) (hb:b<1000000000) (H:zaa) (K:Kt)
  (hK:K (.tup [.sl (zam (lim (a / b))) .none,.sl (zam (lim (a % b))) .none]) H) :
  ACalls tP zhg [.sl (zam (lim a)) .none,.sl (zam (lim b)) .none] H K:=by
 refine ACalls.out (zOg λhs=>?_);have cx:lim b=[b]:=ze9 (by omega) hb;simp only[zAL];refine zDY a b ha (by rw[cx];simp) _ _ ?_;have gO:(zcg a b<0)↔a<b:=by
  unfold zcg;split
  ·simp;assumption
  ·split <;> simp <;> omega
 by_cases ak:a<b
 ·simp[gO,ak];rw[Nat.div_eq_of_lt ak,Nat.mod_eq_of_lt ak,zvZ]at hK;simp[zaw,zaL,zaI];refine⟨zdV _,⟨by omega,by omega⟩,⟨rfl,rfl⟩,?_⟩;exact Out.tup (bs:=[.sl (zam []) .none,.sl (zam (lim a)) .none]) hs hK ⟨zdr,slV,trivial⟩
 ·have w1:IntKind.u64.wrap (b:Int)=b:=zbH (by omega);have hm:a % b<b:=Nat.mod_lt _ bE;simp[gO,ak,cx,w1];refine zEf (lim a) (zch a) ha b bE (by omega) (by omega) _ _ ?_;rw[zbK];simp;refine zoi (a % b) (by omega) _ _ ?_;refine⟨⟨rfl,rfl⟩,?_⟩;exact Out.tup0 (bs:=[.sl (zam (lim (a / b))) .none,.sl (zam (lim (a % b))) .none]) hs hK ⟨slV,slV,trivial⟩
theorem zyv (n:Nat) (hn:n<1000000000000000000) (H:zaa) (K:Kt) (hK:K (.tup [.int .u64 n,.bool true]) H):ACalls tP zi9 [.sl (zam (lim n)) .none] H K:=by
 refine ACalls.out (zO8 λhs=>?_);have et:(lim n).length≤2:=zbQ (by omega);have lA:=zch n;have vA:=zbK n;generalize lim n=L at *;simp[zAY];refine zO6 (Inv:=λq t4 t9 H'=>∃ i:Nat,i≤L.length∧L.length-i=q∧t9=.int .i64 i∧t4=.int .u64 ((zap (L.drop (L.length-i)):Nat):Int)∧H'=H) L.length ?_ ?_
 ·intro _;exact⟨0,by omega,rfl,rfl,by simp[zap],rfl⟩
 ·rintro q t4 t9 H' ⟨i,hi,rfl,rfl,rfl,rfl⟩ aM am aP Kb ar;by_cases ak:i<L.length
  ·have w1:IntKind.i64.wrap ((L.length:Int)-1)=((L.length-1:Nat):Int):=by rw[zat (by omega) (by omega)];omega
   have w2:IntKind.i64.wrap (((L.length-1:Nat):Int)-i)=((L.length-1-i:Nat):Int):=by rw[zat (by omega) (by omega)];omega
   have hj:L.length-1-i<L.length:=by omega
   have hx:=lA L[L.length-1-i] (List.getElem_mem hj);obtain⟨x,dI⟩:∃ x,x=L[L.length-1-i]:=⟨_,rfl⟩;have w3:IntKind.u64.wrap ((L[L.length-1-i]:Nat):Int)=(x:Int):=by rw[←dI];exact zbH (by omega)
   have bv:=zg7 L (L.length-1-i) hj;rw[show L.length-1-i+1=L.length-i by omega,←dI]at bv;have fC:zap (L.drop (L.length-i))<1000000000:=by
    have h1:=zeD (L.drop (L.length-i)) (λy hy=>lA y (List.mem_of_mem_drop hy));have h2:(L.drop (L.length-i)).length≤1:=by simp;omega
    have h3:1000000000 ^ (L.drop (L.length-i)).length≤1000000000 ^ 1:=Nat.pow_le_pow_right (by omega) h2;omega
   have aY:zap (L.drop (L.length-(i+1)))=zap (L.drop (L.length-i))*1000000000+x:=by rw[show L.length-(i+1)=L.length-1-i by omega,bv];omega
   generalize hW:zap (L.drop (L.length-i))=W at *;have w4:IntKind.u64.wrap (18446744073709551615-(x:Int))=((18446744073709551615-x:Nat):Int):=by rw[show (18446744073709551615:Int)-x=((18446744073709551615-x:Nat):Int) by omega];exact zbH (by omega)
   obtain⟨y,lw⟩:∃ y,y=18446744073709551615-x:=⟨_,rfl⟩;rw[←lw]at w4;obtain⟨r,c,fD,eu,hr3,e1,e2⟩:=zgU y (by omega);have hc:¬ (c<W):=by omega
   have w5:IntKind.u64.wrap ((W:Int)*1000000000)=((W*1000000000:Nat):Int):=by rw[show (W:Int)*1000000000=((W*1000000000:Nat):Int) by omega];exact zbH (by omega)
   obtain⟨m,cH⟩:∃ m,m=W*1000000000:=⟨_,rfl⟩;rw[←cH]at w5;obtain⟨s,gV⟩:∃ s,s=m+x:=⟨_,rfl⟩;have w6:IntKind.u64.wrap ((m:Int)+x)=(s:Int):=by rw[gV,←Int.natCast_add];exact zbH (by omega)
   simp only[zsC];simp[ak,w1,w2,hj,w3,w4,e2,hc,w5,w6,wi i (by omega)];exact ar _ _ ⟨L.length-(i+1),by omega,Back.here (by simp) hs (by simp[zme,ux,AV.sc,AV.scA,AV.scB,AV.scV]) ⟨_,_,rfl,i+1,by omega,rfl,rfl,by rw[aY,gV,cH],rfl⟩⟩
  ·obtain rfl:i=L.length:=by omega
   rw[Nat.sub_self,List.drop_zero,vA];simp[zsC];exact⟨⟨rfl,rfl⟩,Out.tup0 (bs:=[.int .u64 (n:Int),.bool true]) hs hK ⟨zaW rfl rfl,zaW rfl rfl,trivial⟩⟩
theorem zEs (a b:Nat) (ha:a<1000000000000000000) (hb:b<1000000000000000000) (H:zaa) (K:Kt) (hK:K (.sl (zam (lim (Nat.gcd a b))) .none) H) :
  ACalls tP zo9 [.sl (zam (lim a)) .none,.sl (zam (lim b)) .none] H K:=by
 refine ACalls.out (zN9 λhs=>?_);have la:(lim a).length≤2:=zbQ (by omega);have lb:(lim b).length≤2:=zbQ (by omega);unfold zAG;refine zN6 (Inv:=λq t0 t1 H'=>t0=.sl (zam (lim a)) .none∧t1=.sl (zam (lim b)) .none∧H'=H) 0 ?_ ?_
 ·intro _;exact⟨rfl,rfl,rfl⟩
 ·rintro q t0 t1 H' ⟨rfl,rfl,rfl⟩ aM am aP Kb ar;by_cases h0:b=0
  ·subst h0;rw[Nat.gcd_zero_right]at hK;simp[zsk];exact Out.one0 hs (.atom (.sl _ _)) rfl rfl hK
  ·have hp:0<(lim b).length:=by rw[zb9 h0];simp
   have jp:decide (((lim a).length:Int)≤2)=true:=by simp;omega
   have cx:decide (((lim b).length:Int)≤2)=true:=by simp;omega
   simp[zsk,hp,jp,cx];refine zyv a ha _ _ ?_;simp;refine zyv b hb _ _ ?_;simp;refine zN7 (Inv:=λq t5 t7 H2=>∃ x y:Nat,y=q∧t5=.int .u64 x∧t7=.int .u64 y∧x<1000000000000000000∧y<1000000000000000000∧Nat.gcd x y=Nat.gcd a b∧H2=H') b ?_ ?_
   ·intro _;exact⟨a,b,rfl,rfl,rfl,ha,hb,rfl,rfl⟩
   ·rintro q t5 t7 H2 ⟨x,y,rfl,rfl,rfl,hx,hy,hg,rfl⟩ bZ dy gx Kb2 bQ;by_cases lw:y=0
    ·subst lw;rw[Nat.gcd_zero_right]at hg;subst hg;simp[zsl];refine zoi _ (by omega) _ _ ?_;exact Out.one0 hs (.atom (.sl _ _)) rfl rfl hK
    ·obtain⟨r,c,fD,eu,e1,_⟩:=zoc x y (by omega) (by omega);simp only[zsl];simp[show 0<y by omega,e1];refine bQ _ _ ⟨r,by omega,Back.here (by simp) hs (by simp[zl4,ux,AV.sc,AV.scA,AV.scB,AV.scV]) ⟨_,_,rfl,y,r,rfl,rfl,rfl,hy,by omega,?_,rfl⟩⟩;have gb:r=x % y:=by rw[eu,Nat.add_mul_mod_self_left,Nat.mod_eq_of_lt fD]
     rw[←hg,gb,Nat.gcd_comm x y,Nat.gcd_rec y x,Nat.gcd_comm]
def zbG (neg:Bool) (n d:Nat):List AV:=[.bool neg,.sl (zam (lim n)) .none,.sl (zam (lim d)) .none]
@[simp] theorem zX4 (b:Bool) (n d:Nat):(zbG b n d).length=3:=rfl
@[simp] theorem zX3 (b:Bool) (n d:Nat):(∀ x∈zbG b n d,x.known=true)=True:=by simp[zbG,AV.known]
@[simp] theorem zX5 (b:Bool) (n d:Nat):List.take 3 (zbG b n d)=zbG b n d:=rfl
theorem zf9 {H J:zaa} {K:Kt} {b:Bool} {n d:Nat} (hs:HSc H) (hK:K (.agg (zbG b n d)) H):Out H.length K (.agg (zbG b n d)) (H++J):=Out.one hs .rfl' rfl rfl hK
theorem ziG {n:Nat}:lim n=[1]↔n=1:=by
 constructor
 ·intro h;have:=zbK n;rw[h]at this;simp[zap]at this;omega
 ·rintro rfl;exact zdQ
theorem zEW (neg:Bool) (n d:Nat) (dW:n≠0) (dc:d≠0) (hn:n<1000000000000000000) (hd:d<1000000000000000000) (hg:Nat.gcd n d<1000000000) (H:zaa) (K:Kt) (hK:K (.agg (zbG neg (n / Nat.gcd n d) (d / Nat.gcd n d))) H) :
  ACalls tP ziT [.agg (zbG neg n d)] H K:=by
 refine ACalls.out (zzx λhs=>?_);have ln:(lim n).length≤2:=zbQ (by omega);have ld:(lim d).length≤2:=zbQ (by omega);have hp:0<(lim n).length:=by rw[zb9 dW];simp
 have hb:(((lim n).length:Int) == 0)=false:=by generalize (lim n).length=q at hp;simp;omega
 have dl:0<Nat.gcd n d:=Nat.gcd_pos_of_pos_left d (by omega);have lg:(lim (Nat.gcd n d)).length≤2:=zbQ (by omega);simp[zli,zbG,hb,Nat.add_assoc];refine zor (lim d) (by omega) _ _ ?_;by_cases gg:d=1
 ·subst gg;rw[Nat.gcd_one_right,Nat.div_one,Nat.div_one]at hK;simp[ziG,Nat.add_assoc];exact zf9 hs hK
 ·simp[ziG,gg,Nat.add_assoc];refine zEs n d hn hd _ _ ?_;refine zor _ (by omega) _ _ ?_;by_cases eq:Nat.gcd n d=1
  ·rw[eq,Nat.div_one,Nat.div_one]at hK;simp[ziG,eq,Nat.add_assoc];exact zf9 hs hK
  ·simp[ziG,eq,Nat.add_assoc];refine zvr n _ (by omega) dl hg _ _ ?_;simp[Nat.add_assoc];refine zvr d _ (by omega) dl hg _ _ ?_;simp[zar,zaJ,zcQ,AV.known,Nat.add_assoc];exact zf9 hs hK
theorem zxD (neg:Bool) (n d:Nat) (dW:n≠0) (dc:d≠0) (hn:n<1000000000000000000) (hd:d<1000000000000000000) (hg:Nat.gcd n d<1000000000) (H:zaa) (K:Kt) (hK:K (.agg (zbG neg (n / Nat.gcd n d) (d / Nat.gcd n d))) H) :
  ACalls tP zeG [.agg (zbG neg n d)] H K:=by
 refine ACalls.out (zyS λhs=>?_);simp[zqR,zbG,Nat.add_assoc];refine zEW neg n d dW dc hn hd hg _ _ ?_;simp[zbG,zar,zaJ,zcQ,AV.known,Nat.add_assoc];exact zf9 hs hK
theorem zOZ (a b:Nat) (gW:a≠0) (bE:b≠0) (ha:a<1000000000) (hb:b<1000000000) (H:zaa) (K:Kt) (hK:K (.agg (zbG false (a / Nat.gcd a b) (b / Nat.gcd a b))) H) :
  ACalls tP zpd [.int .i64 a,.int .i64 b] H K:=by
 refine ACalls.out (zOY λhs=>?_);have h0:decide ((a:Int)<0)=false:=by simp
 have h1:decide ((b:Int)<0)=false:=by simp
 have h2:((b:Int) == 0)=false:=by simp;omega
 have hg:Nat.gcd a b<1000000000:=Nat.lt_of_le_of_lt (Nat.gcd_le_right a (by omega)) hb;simp[zAX,h2,h0,h1,Nat.add_assoc];refine zoy a (by omega) _ _ ?_;refine zoy b (by omega) _ _ ?_;simp[zar,zaJ,zcQ,AV.known,Nat.add_assoc];refine zxD false a b gW bE (by omega) (by omega) hg _ _ ?_;simp[Nat.add_assoc];exact zf9 hs hK
theorem zv0 (neg:Bool) (n d:Nat) (dW:n≠0) (dc:d≠0) (hn:(lim n).length≤1000) (hd:(lim d).length≤1000) (H:zaa) (K:Kt) (hK:K (.agg (zbG neg n d)) H):ACalls tP zed [.agg (zbG neg n d)] H K:=by
 refine ACalls.out (zyT λhs=>?_);have hz:∀ m:Nat,m≠0→(((lim m).length:Int) == 0)=false:=λm hm=>by
  have hp:0<(lim m).length:=by rw[zb9 hm];simp
  generalize (lim m).length=q at hp;simp;omega
 simp[zqS,zbG,Nat.add_assoc];refine zaC (.sl (zam (lim n)) .none) (λJ=>zjw _ (zg5 _) (by omega) _ _ (by rw[zbK];exact⟨rfl,rfl⟩)) ?_;refine zaC (.sl (zam (lim d)) .none) (λJ=>zjw _ (zg5 _) (by omega) _ _ (by rw[zbK];exact⟨rfl,rfl⟩)) ?_;simp[hz n dW,hz d dc,zar,zaJ,zcQ,AV.known,Nat.add_assoc];exact zf9 hs hK
theorem zw4 (n:Nat):zbG false n 1=zal (n:Int):=by unfold zbG zal;rw[zdQ,Int.natAbs_natCast,decide_eq_false (by omega)]
theorem zE4 (a:Nat) (ha:a<1000000000 ^ 30) (H:zaa) (K:Kt) (hK:K (.sl (zam (lim a)) .none) H):ACalls tP zdA [.sl (zam [1]) .none,.sl (zam (lim a)) .none] H K:=by have:=zha 1 a zjy ha H K (by rw[Nat.one_mul];exact hK);rwa [zdQ]at this
theorem zCX (c p q r:Nat) (cp:p≠0) (kj:q≠0) (dT:c≠0) (hp:p<1000000000) (hq:q<1000000000) (hcp:c*p<1000000000000000000) (hr:c*p=r*q) (H:zaa) (K:Kt) (hK:K (.agg (zal (r:Int))) H) :
  ACalls tP zeI [.agg (zal (c:Int)),.agg (zbG false p q)] H K:=by
 refine ACalls.out (zB6 λhs=>?_);have hc:c<1000000000000000000:=Nat.lt_of_le_of_lt (Nat.le_mul_of_pos_right c (by omega)) hcp;have lc:=zbQ (n:=c) (k:=2) (by omega);have lp:=zbQ (n:=p) (k:=1) (by omega);have lq:=zbQ (n:=q) (k:=1) (by omega);have b30:(1000000000000000000:Nat)≤1000000000 ^ 30:=by decide
 have hg:Nat.gcd (c*p) q=q:=by rw[hr];exact Nat.gcd_eq_right (Nat.dvd_mul_left q r)
 have hcp0:c*p≠0:=Nat.mul_ne_zero dT cp;rw[←zw4 c];simp[ztC,zbG,Nat.add_assoc];refine zaC (.agg (zbG false c 1)) (λJ=>zv0 false c 1 dT (by omega) (by omega) (by rw[zdQ];simp) _ _ ⟨rfl,rfl⟩) ?_;refine zaC (.agg (zbG false p q)) (λJ=>zv0 false p q cp kj (by omega) (by omega) _ _ ⟨rfl,rfl⟩) ?_;simp[zbG,AV.known,Nat.add_assoc];refine zaC (.sl (zam (lim (c*p))) .none) (λJ=>zha _ _ (by omega) (by omega) _ _ ⟨rfl,rfl⟩) ?_;rw[zdQ];refine zaC (.sl (zam (lim q)) .none) (λJ=>zE4 _ (by omega) _ _ ⟨rfl,rfl⟩) ?_;simp[zar,zaJ,zcQ,AV.known,Nat.add_assoc];refine zaC (.agg (zal (r:Int))) (λJ=>zxD false (c*p) q hcp0 kj hcp (by omega) (by rw[hg];exact hq) _ _ (by
  rw[hg,Nat.div_self (by omega),hr,Nat.mul_div_cancel _ (by omega),zw4];exact⟨rfl,rfl⟩)) ?_
 simp[Nat.add_assoc];exact zdD hs hK
end Go.Proofs.YtdmamdnkcefmmaaGreatDoor
namespace Go.Proofs.YtdmamdnkcefmmaaGreatDoor
open Go Go.Abs
set_option maxRecDepth 100000
section
variable (t0 t1 t12 t13:AV) (H:zaa) (K:Kt) (Kb4:Lt)
def zOs (_:Nat):List Bool:=[]
noncomputable def zOt:Code:=Tryz.f21.body.getD .skip
def zAz:Prop:=zav t0 H λt2 H=>zav t1 H λt3 H=>zaf 0 t2 λt5=>zae false 1 t5 H λt6=>zaf 0 t3 λt7=>zae false 1 t7 H λt8=>zac .eql true t6 t8 λt9=>zad t9 true H (λK'=>zaf 1 t2 (K' · H)) λt11 H=>zad t9 true H (λK'=>zae false 1 t11 H (K' · H)) λt12 H=>zad t9 true H (λK'=>zaf 1 t3 (K' · H)) λt13 H=>zad t9 true H (λK'=>zae false 1 t13 H (K' · H)) λt14 H=>zad t9 true H (λK'=>ACalls tP zjj [t12,t14] H K') λt15 H=>zaj t9 t15 (.bool false) λt16=>zad t16 true H (λK'=>zaf 2 t2 (K' · H)) λt18 H=>zad t16 true H (λK'=>zae false 1 t18 H (K' · H)) λt19 H=>zad t16 true H (λK'=>zaf 2 t3 (K' · H)) λt20 H=>zad t16 true H (λK'=>zae false 1 t20 H (K' · H)) λt21 H=>zad t16 true H (λK'=>ACalls tP zjj [t19,t21] H K') λt22 H=>zaj t16 t22 (.bool false) λt23=>K t23 H
def zmX:Nat→List Bool | 4=>rl false [0,2,10,2,12] | _=>[]
noncomputable def ztw:Code:=Tryz.f55.body.getD .skip
noncomputable def zRW:List ResultVar:=Tryz.f55.results.toList
def zmY:List AV:=t0::t1::ux 10 (t12::t13::ux 12 [])
def zRU:List Bool:=zmX 4
noncomputable def zRS:Code:=zaq [1,1,0,1,0,0] ztw
def zRR:AExit→List AV→zaa→Prop:=zas tP zmX [1,1,0,1,0] ztw (zay tP zRW K)
def zBX:Prop:=ALoop tP zRS (zRR K) (zmY t0 t1 t12 t13) H
def ztv:Prop:=zac .lss false t13 t12 λt14=>zag t14 (zab H (λK'=>K' t0 H) λt16=>zab H (λK'=>K' t13 H) λt17=>zab H (λK'=>zai 1 t16 t17 (K' · H)) λt18=>zab H (λK'=>zak false 1 t18 H (K' · H)) λt19=>zab H (λK'=>K' t1 H) λt20=>zab H (λK'=>K' t13 H) λt21=>zab H (λK'=>zai 1 t20 t21 (K' · H)) λt22=>zab H (λK'=>zak false 1 t22 H (K' · H)) λt23=>zab H (λK'=>zac .neq false t19 t23 (K' · H)) λt24=>zag t24 (K (.bool false) H) (zac .add false t13 (.int .i64 1) λt25=>Kb4 (zmY t0 t1 t12 t25) H)) (K (.bool true) H)
def zBW:Prop:=zah 1 t0 λt7=>zah 1 t1 λt9=>zac .neq false t7 t9 λt10=>zag t10 (K (.bool false) H) (zah 1 t0 λt12=>zBX t0 t1 t12 (.int .i64 0) H K)
variable {t0 t1 t12 t13} {H} {K} {Kb4}
theorem zOu (h:HSc H→zAz t0 t1 H K):ACalls tP zi2 [t0,t1] H K:=
 acb zOs Tryz.func21 zOt (by kernel_rfl) (by kernel_rfl) h
theorem zRT (Inv:Nat→AV→zaa→Prop) (n:Nat) (h0:HSc H→Inv n t13 H)
  (ac:Rd1 (λt13=>zmY t0 t1 t12 t13) (λt13=>λH Kb4=>ztv t0 t1 t12 t13 H K Kb4) H Inv):zBX t0 t1 t12 t13 H K:=
 lp1 (M:=zmX) zRU t13 (by kernel_rfl) Inv n h0 ac
theorem zRV (h:HSc H→zBW t0 t1 H K):ACalls tP zjj [t0,t1] H K:=
 acb zmX Tryz.func55 ztw (by kernel_rfl) (by kernel_rfl) h
end
end Go.Proofs.YtdmamdnkcefmmaaGreatDoor
namespace Go.Abs
def chs:Nat→Nat→Nat
 | _,0=>1
 | 0,_+1=>0
 | n+1,k+1=>chs n k+chs n (k+1)
@[simp] theorem zDS (n:Nat):chs n 0=1:=by cases n <;> rfl
theorem zgL:∀ {n k:Nat},n<k→chs n k=0
 | 0,k+1,_=>rfl
 | n+1,k+1,h=>by rw[chs,zgL (by omega),zgL (by omega)]
theorem ziA:∀ (n k:Nat),(k+1)*chs n (k+1)=chs n k*(n-k)
 | 0,k=>by simp[chs]
 | n+1,0=>by have:=ziA n 0;simp only[chs,zDS]at this ⊢;omega
 | n+1,k+1=>by
  have h1:=ziA n k;have h2:=ziA n (k+1);simp only[chs];rw[show n+1-(k+1)=n-k by omega];by_cases hk:k+1≤n
  ·obtain⟨m,rfl⟩:∃ m,n=k+1+m:=⟨n-(k+1),by omega⟩;rw[show k+1+m-k=m+1 by omega]at h1 ⊢;rw[show k+1+m-(k+1)=m by omega]at h2;grind
  ·rw[zgL (show n<k+1 by omega),zgL (show n<k+1+1 by omega),show n-k=0 by omega];simp
theorem ziz:∀ (n k:Nat),chs n k≤n ^ k
 | n,0=>by simp
 | 0,k+1=>by simp[chs]
 | n+1,k+1=>by have h1:=ziz n k;have h2:=ziz n (k+1);have h3:n ^ k≤(n+1) ^ k:=Nat.pow_le_pow_left (by omega) k;simp only[chs,Nat.pow_succ]at h2 ⊢;have h4:n ^ k*n≤(n+1) ^ k*n:=Nat.mul_le_mul_right _ h3;rw[Nat.mul_add];omega
end Go.Abs
namespace Go.Proofs.YtdmamdnkcefmmaaGreatDoor
open Go Go.Abs
theorem zBY (L:List Nat) (hL:L.length≤1000) (H:zaa) (K:Kt) (hK:K (.bool true) H):ACalls tP zjj [.sl (zam L) .none,.sl (zam L) .none] H K:=by
 refine ACalls.out (zRV λhs=>?_);simp[zBW];refine zRT (Inv:=λq t13 H'=>∃ i:Nat,i≤L.length∧L.length-i=q∧t13=.int .i64 i∧H'=H) L.length ?_ ?_
 ·intro _;exact⟨0,by omega,rfl,rfl,rfl⟩
 ·rintro q t13 H' ⟨i,hi,rfl,rfl,rfl⟩ aM am aP Kb ar;by_cases ak:i<L.length
  ·simp[ztv,ak,wi i (by omega)];exact ar _ _ ⟨L.length-(i+1),by omega,Back.here (by simp) hs (by simp[zmY,ux,AV.sc,AV.scA,AV.scB,AV.scV]) ⟨_,rfl,i+1,by omega,rfl,rfl,rfl⟩⟩
  ·simp[ztv,ak];exact Out.bool (J:=[]) (by simp) (Nat.le_refl _) hs hK
theorem zAR (z:Int) (hz:Sm z) (H:zaa) (K:Kt) (hK:K (.bool true) H):ACalls tP zi2 [.agg (zal z),.agg (zal z)] H K:=by refine ACalls.out (zOu λhs=>?_);have:=hz.len;simp[zAz,zal,Nat.add_assoc];refine zBY _ (by omega) _ _ ?_;simp[Nat.add_assoc];refine zBY _ (by simp) _ _ ?_;exact Out.bool rfl (Nat.le_refl _) hs hK
theorem zdq {n:Nat} (h:n<1000000000 ^ 30):Sm (n:Int):=by unfold Sm;rw[Int.natAbs_natCast];exact h
@[simp] theorem zX7 (z:Int):List.take 3 (zal z)=zal z:=rfl
@[simp] theorem zX6 (z:Int):List.drop 3 (zal z)=[]:=rfl
@[simp] theorem zgb (z:Int):(∀ x∈zal z,x.known=true)=True:=by simp[zal,AV.known]
theorem zvb:∀ {n k:Nat},k≤n→0<chs n k
 | n,0,_=>by simp
 | n+1,k+1,h=>by have:=zvb (n:=n) (k:=k) (by omega);rw[chs];omega
theorem zvx (n k:Nat) (hn:n≤900) (hk:k≤6) (H:zaa) (K:Kt) (hK:K (.agg (zal (chs n k))) H):ACalls tP ziY [.int .i64 n,.int .i64 k] H K:=by
 refine ACalls.out (zNj λhs=>?_);simp[zAs,Nat.add_assoc];refine zd1 1 (by omega) _ _ ?_;simp[Nat.add_assoc];have hsc:∀ z:Int,HSc (H++[.cells [.bool false,.snil,.snil],.cells (zal z)]):=λz=>hs.append (by simp[AB.sc,zal,AV.scA,AV.scB]);refine zNh (Inv:=λq t9 H'=>∃ i:Nat,i≤k∧i≤n∧k-i=q∧t9=.int .i64 i∧H'=H++[.cells [.bool false,.snil,.snil],.cells (zal ((chs n i:Nat):Int))]) k ?_ ?_
 ·intro _;exact⟨0,by omega,by omega,rfl,rfl,by simp⟩
 ·rintro q t9 H' ⟨i,hi,iu,rfl,rfl,rfl⟩ aM am aP Kb ar;by_cases ak:i<k
  ·by_cases jB:n=i
   ·subst jB;rw[zgL ak]at hK;simp[zlO,ak,Nat.add_assoc];refine zd1 0 (by omega) _ _ ?_;simp[Nat.add_assoc];exact zdD hs hK
   ·have hb:((n:Int) == (i:Int))=false:=by simp;omega
    have lx:chs n i≤900 ^ 5:=by refine Nat.le_trans (ziz n i) (Nat.le_trans (Nat.pow_le_pow_left hn i) (Nat.pow_le_pow_right (by omega) (by omega)))
    have w1:IntKind.i64.wrap ((n:Int)-i)=((n-i:Nat):Int):=by rw[zat (by omega) (by omega)];omega
    obtain⟨d,hd⟩:∃ d,d=n-i:=⟨_,rfl⟩;rw[←hd]at w1;obtain⟨j,hj⟩:∃ j,j=i+1:=⟨_,rfl⟩;have w2:IntKind.i64.wrap ((i:Int)+1)=(j:Int):=by rw[wi i (by omega),hj]
    have dl:0<Nat.gcd d j:=Nat.gcd_pos_of_pos_left j (by omega);have hp:=Nat.div_mul_cancel (Nat.gcd_dvd_left d j);have hq:=Nat.div_mul_cancel (Nat.gcd_dvd_right d j);have aW:=ziA n i;rw[←hd,←hj]at aW;have hpd:=Nat.div_le_self d (Nat.gcd d j);have hqj:=Nat.div_le_self j (Nat.gcd d j);have cp:d / Nat.gcd d j≠0:=λh=>by rw[h]at hp;omega
    have kj:j / Nat.gcd d j≠0:=λh=>by rw[h]at hq;omega
    have hr:chs n i*(d / Nat.gcd d j)=chs n j*(j / Nat.gcd d j):=by refine Nat.eq_of_mul_eq_mul_right dl ?_;rw[Nat.mul_assoc,hp,Nat.mul_assoc,hq,←aW,Nat.mul_comm]
    have ly:chs n i*(d / Nat.gcd d j)<1000000000000000000:=Nat.lt_of_le_of_lt (Nat.mul_le_mul lx (Nat.le_trans hpd (show d≤900 by omega))) (by decide);simp[zlO,ak,hb,w1,w2,Nat.add_assoc];refine zaC (.agg (zbG false (d / Nat.gcd d j) (j / Nat.gcd d j))) (λJ=>zOZ d j (by omega) (by omega) (by omega) (by omega) _ _ ⟨rfl,rfl⟩) ?_;refine zaC (.agg (zal ((chs n j:Nat):Int))) (λJ=>zCX _ _ _ _ cp kj (by have:=zvb iu;omega) (by omega) (by omega) ly hr _ _ ⟨rfl,rfl⟩) ?_;simp[Nat.add_assoc];exact ar _ _ ⟨k-(i+1),by omega,Back.here (by simp) (hsc _) (by simp[zlP,ux,AV.sc,AV.scA,AV.scB,AV.scV]) ⟨_,rfl,j,by omega,by omega,by omega,rfl,rfl⟩⟩
  ·obtain rfl:i=k:=by omega
   simp[zlO,Nat.add_assoc];exact zdD hs hK
theorem zwL {H:zaa} {K:Kt} (R:List Nat) (hs:HSc H) (hK:K (.sl (zam R) .none) H):Out H.length K (.ov H.length R.length) (H++[.vec zbk 1 R.length (us R)]):=
 ⟨.sl (zam R) .none,H,[.vec zbk 1 R.length (us R)],rfl,Nat.le_refl _,hs,.one (.vfz H.length zbk 1 R.length (us R) (zam R) (Nat.le_refl _) (by simp) (by rw[zj8,zhR]) (by simp) (zdV R)),hK⟩
theorem zuJ (A B:List Nat) (lA:∀ x∈A,x<1000000000) (lB:∀ x∈B,x<1000000000) (ha:A.length≤1000) (hb:B.length≤A.length) (cA:lim (zap A)=A) (H:zaa) (K:Kt) (hs:HSc H)
  (hK:K (.sl (zam (lim (zap A+zap B))) .none) H):zlF (.sl (zam A) .none) (.sl (zam B) .none) H (Out H.length K):=by
 have hsc:∀ R:List Nat,HSc (H++[.vec zbk 1 R.length (us R)]):=λA=>hs.append (by simp[AB.sc,us,AV.scA,AV.scB]);simp[zlF,wi A.length (by omega)];refine⟨⟨by omega,by omega,by omega⟩,?_⟩;refine zMY (Inv:=λq t5 t6 t22 H'=>∃ (i c:Nat) (R:List Nat),i≤A.length∧A.length-i=q∧t22=.int .i64 i∧t6=.int .u32 c∧t5=.ov H.length R.length∧R.length=i∧(∀ x∈R,x<1000000000)∧c≤1 ∧
  zap R+1000000000 ^ i*c=zap (A.take i)+zap (B.take i)∧H'=H++[.vec zbk 1 R.length (us R)]) A.length ?_ ?_
 ·intro _;exact⟨0,0,[],by omega,rfl,rfl,rfl,rfl,rfl,by simp,by omega,by simp[zap],rfl⟩
 ·rintro q t5 t6 t22 H' ⟨i,c,R,hi,rfl,rfl,rfl,rfl,gw,hR,hc,hv,rfl⟩ aM am aP Kb ar;by_cases ak:i<A.length
  ·have hbit : ∀ (s : Nat), s ≤ 2 * 999999999 + 1 → s = c + A[i] + (if h : i < B.length then B[i] else 0) →
     zlG (.sl (zam A) .none) (.sl (zam B) .none) (.ov H.length R.length) (.int .u32 s) (.int .i64 A.length) (.int .i64 i) (H++[.vec zbk 1 R.length (us R)]) (Out H.length K) Kb:=by
    intro s bJ er;obtain⟨x,c',bI,bh,e1,e2⟩:=zEg s (by omega);simp only[zlG];simp[e1,e2,zau,zaV,plain,AV.pd,zaw,zaL,zaI,wi i (by omega)];refine⟨⟨by omega,by omega⟩,?_⟩;have e3:us R++[AV.int .u32 (x:Int)]=us (R++[x]):=by simp[us]
    rw[e3];refine ar _ _ ⟨A.length-(i+1),by omega,Back.here (by simp) (by simpa using hsc (R++[x])) (by simp[zlE,ux,AV.sc,AV.scA,AV.scB,AV.scV]) ⟨_,_,_,rfl,i+1,c',R++[x],by omega,rfl,rfl,rfl,by simp,by simp[gw],?_,by omega,?_,by simp⟩⟩
    ·intro y hy;rcases List.mem_append.1 hy with hy | hy
     ·exact hR y hy
     ·simp at hy;omega
    ·have tk:zap (B.take (i+1))=zap (B.take i)+(if h:i<B.length then B[i] else 0)*1000000000 ^ i:=by
      by_cases h:i<B.length
      ·rw[dif_pos h,zfX B i h]
      ·rw[dif_neg h,List.take_of_length_le (by omega),List.take_of_length_le (by omega)];simp
     rw[zfa,tk,zfX A i ak,gw,Nat.pow_succ];generalize (if h:i<B.length then B[i] else 0)=v at *;grind
   have fy:=lA A[i] (List.getElem_mem ak);obtain⟨s1,bJ⟩:∃ s,s=A[i]+c:=⟨_,rfl⟩;have w1:IntKind.u32.wrap (((A[i]:Nat):Int)+(c:Int))=(s1:Int):=by rw[bJ,←Int.natCast_add];exact zdW (by omega)
   by_cases hB:i<B.length
   ·have dO:=lB B[i] (List.getElem_mem hB);obtain⟨s2,er⟩:∃ s,s=s1+B[i]:=⟨_,rfl⟩;have w2:IntKind.u32.wrap ((s1:Int)+(B[i]:Nat))=(s2:Int):=by rw[er,←Int.natCast_add];exact zdW (by omega)
    simp[zh3,ak,hB,w1,w2];exact hbit s2 (by omega) (by simp[hB];omega)
   ·simp[zh3,ak,hB,w1];exact hbit s1 (by omega) (by simp[hB];omega)
  ·obtain rfl:i=A.length:=by omega
   rw[List.take_length,List.take_of_length_le hb]at hv;by_cases h0:c=0
   ·subst h0;simp[zh3,zlH];have bL:zap R=zap A+zap B:=by simpa using hv
    rw[←bL]at hK;have iE:R=lim (zap R):=by
     refine zu7 hR ?_;by_cases gT:A.length=0
     ·omega
     ·have h3:=zvY (n:=zap A) (by intro h;have dQ:=congrArg List.length cA;rw[h]at dQ;simp at dQ;omega);rw[cA]at h3;have:=zvX (n:=zap R) (k:=A.length-1) (by omega);omega
    rw[←iE]at hK;exact zwL R hs hK
   ·obtain rfl:c=1:=by omega
    simp[zh3,zlH,zau,zaV,plain,AV.pd,zaw,zaL,zaI];refine⟨⟨by omega,by omega⟩,?_⟩;have e3:us R++[AV.int .u32 1]=us (R++[1]):=by simp[us]
    rw[e3];have bL:zap (R++[1])=zap A+zap B:=by rw[zfa,gw];omega
    rw[←bL]at hK;have iE:R++[1]=lim (zap (R++[1])):=by
     refine zu7 (λy hy=>?_) ?_
     ·rcases List.mem_append.1 hy with hy | hy
      ·exact hR y hy
      ·simp at hy;omega
     ·have:=zvX (n:=zap (R++[1])) (k:=A.length) (by rw[zfa,gw];omega);simp;omega
    rw[←iE]at hK;have:=zwL (R++[1]) hs hK;simpa using this
theorem zM2 (a b:Nat) (ha:(lim a).length≤1000) (hb:(lim b).length≤1000) (H:zaa) (K:Kt) (hK:K (.sl (zam (lim (a+b))) .none) H) :
  ACalls tP zo6 [.sl (zam (lim a)) .none,.sl (zam (lim b)) .none] H K:=by
 refine ACalls.out (zM0 λhs=>?_);by_cases h:(lim a).length<(lim b).length
 ·have h':((lim a).length:Int)<((lim b).length:Int):=by omega
  simp[zr4,h];refine zuJ (lim b) (lim a) (zch b) (zch a) hb (by omega) (by rw[zbK]) _ _ hs ?_;rw[zbK,zbK,Nat.add_comm];exact hK
 ·have h':¬ ((lim a).length:Int)<((lim b).length:Int):=by omega
  simp[zr4,h];refine zuJ (lim a) (lim b) (zch a) (zch b) ha (by omega) (by rw[zbK]) _ _ hs ?_;rw[zbK,zbK];exact hK
theorem zwd (a:Nat) (ha:a<1000000000 ^ 30) (H:zaa) (K:Kt) (hK:K (.sl (zam (lim a)) .none) H):ACalls tP zdA [.sl (zam (lim a)) .none,.sl (zam [1]) .none] H K:=by have:=zha a 1 ha zjy H K (by rw[Nat.mul_one];exact hK);rwa [zdQ]at this
theorem zFP (a b:Nat) (ha:a<1000000000 ^ 30) (hb:b<1000000000 ^ 30) (H:zaa) (K:Kt) (hK:K (.agg (zal ((a+b:Nat):Int))) H) :
  ACalls tP zoN [.agg (zal (a:Int)),.agg (zal (b:Int))] H K:=by
 refine ACalls.out (zJF λhs=>?_);have la:=zbQ ha;have lb:=zbQ hb;have d0:∀ n:Nat,decide ((n:Int)<0)=false:=λn=>by simp
 simp[zy6,zal,d0,Nat.add_assoc];refine zaC (.sl (zam (lim a)) .none) (λJ=>zwd a ha _ _ ⟨rfl,rfl⟩) ?_;try simp[Nat.add_assoc]
 refine zaC (.sl (zam (lim b)) .none) (λJ=>zwd b hb _ _ ⟨rfl,rfl⟩) ?_;try simp[Nat.add_assoc]
 refine zwc _ _ ?_;simp[Nat.add_assoc];refine zaC (.sl (zam (lim (a+b))) .none) (λJ=>zM2 a b (by omega) (by omega) _ _ ⟨rfl,rfl⟩) ?_;simp[zar,zaJ,zcQ,AV.known,Nat.add_assoc];have e1:zal ((a+b:Nat):Int)=[.bool false,.sl (zam (lim (a+b))) .none,.sl (zam [1]) .none]:=by simp only[zal,d0,Int.natAbs_natCast]
 have:=zdD (H:=H) (K:=K) (z:=((a+b:Nat):Int)) (J:=[.cells [.bool false,.sl (zam (lim a)) .none,.sl (zam [1]) .none],.cells [.bool false,.sl (zam (lim b)) .none,.sl (zam [1]) .none],.cells (zal ((a+b:Nat):Int))]) hs hK;rw[e1]at this;simpa using this
theorem zS4 (a b:Nat) (ha:a<1000000000 ^ 30) (hb:b<1000000000 ^ 30) (H:zaa) (K:Kt) (hK:K (.agg (zal ((a+b:Nat):Int))) H):ACalls tP zpw [.agg (zal (a:Int)),.agg (zal (b:Int))] H K:=by
 refine ACalls.out (zS3 λhs=>?_);have la:=zbQ ha;have lb:=zbQ hb;have lc:(lim (a+b)).length≤31:=zbQ (by omega);have d0:∀ n:Nat,decide ((n:Int)<0)=false:=λn=>by simp
 have e1:∀ n:Nat,zal (n:Int)=[.bool false,.sl (zam (lim n)) .none,.sl (zam [1]) .none]:=λn=>by simp only[zal,d0,Int.natAbs_natCast]
 simp[zCh,e1,Nat.add_assoc];simp only[←e1];refine zaC (.agg (zal (a:Int))) (λJ=>zfW a (by simpa using by omega) _ _ ⟨rfl,rfl⟩) ?_;refine zaC (.agg (zal (b:Int))) (λJ=>zfW b (by simpa using by omega) _ _ ⟨rfl,rfl⟩) ?_;refine zaC (.agg (zal ((a+b:Nat):Int))) (λJ=>zFP a b ha hb _ _ ⟨rfl,rfl⟩) ?_;refine zaC (.agg (zal ((a+b:Nat):Int))) (λJ=>by
  rw[e1 (a+b)];exact zjS false (a+b) (by omega) (z:=((a+b:Nat):Int)) (by simp) _ _ ⟨by rw[e1],rfl⟩) ?_
 rw[e1 (a+b)];simp[Nat.add_assoc];have:=zdD (H:=H) (K:=K) (z:=((a+b:Nat):Int)) (J:=[.cells (zal (a:Int)),.cells (zal (b:Int)),.cells (zal ((a+b:Nat):Int))]) hs hK;rw[e1 (a+b)]at this;simpa using this
theorem zGv (a:Nat) (H:zaa) (K:Kt) (hK:K (.int .i64 (if a=0 then 0 else 1)) H):ACalls tP zoR [.agg (zal (a:Int))] H K:=by
 refine ACalls.out (zJY λhs=>?_);have d0:∀ n:Nat,decide ((n:Int)<0)=false:=λn=>by simp
 have hO:∀ z J,z=(if a=0 then (0:Int) else 1)→Out H.length K (.int .i64 z) (H++J):=λz J h=>Out.int rfl (Nat.le_refl _) hs (by rw[h];exact hK);by_cases h:a=0
 ·subst h;simp[zra,zal];exact hO 0 _ (by simp)
 ·have hp:0<(lim a).length:=by rw[zb9 h];simp
  have hb:(((lim a).length:Int) == 0)=false:=by generalize (lim a).length=q at hp;simp;omega
  simp[zra,zal,d0,hb];exact hO 1 _ (by simp[h])
end Go.Proofs.YtdmamdnkcefmmaaGreatDoor
namespace Go.Abs
open Go

inductive VT where
 | mk (kind num:Int) (kids:List VT)

mutual
def VT.cs:VT→List AV
 | .mk k n ks=>[.int .i64 k,.int .i64 n,.sl (VT.css ks) .none]
def VT.css:List VT→List (List AV)
 | []=>[]
 | v::vs=>VT.cs v::VT.css vs
end
mutual
def VT.nodes:VT→Nat
 | .mk _ _ ks=>VT.nodesL ks+1
def VT.nodesL:List VT→Nat
 | []=>0
 | v::vs=>VT.nodes v+VT.nodesL vs
end
theorem VT.css_map:∀ ks:List VT,VT.css ks=ks.map VT.cs
 | []=>rfl
 | v::vs=>by simp[VT.css,VT.css_map vs]
theorem VT.nodes_pos:∀ v:VT,0<v.nodes
 | .mk _ _ _=>by simp[VT.nodes]
theorem VT.nodesL_app:∀ (a b:List VT),VT.nodesL (a++b)=VT.nodesL a+VT.nodesL b
 | [],b=>by simp[VT.nodesL]
 | v::a,b=>by simp[VT.nodesL,VT.nodesL_app a b];omega
@[simp] theorem VT.cs_len (v:VT):v.cs.length=3:=by cases v;simp[VT.cs]
@[simp] theorem VT.css_len (ks:List VT):(VT.css ks).length=ks.length:=by simp[VT.css_map]
@[simp] theorem VT.cs_take (v:VT):v.cs.take 3=v.cs:=by cases v;simp[VT.cs]
@[simp] theorem VT.cs_known (v:VT):v.cs.all AV.known=true:=by cases v;simp[VT.cs,AV.known]
@[simp] theorem VT.cs_scA (v:VT) (n:Nat):v.cs.all (AV.scA n)=true:=by cases v;simp[VT.cs,AV.scA,AV.scB]
@[simp] theorem VT.css_at {ks:List VT} {i:Nat} (h:i<ks.length):(VT.css ks)[i]?.getD []=(ks[i]).cs:=by simp[VT.css_map,h]
@[simp] theorem VT.css_get {ks:List VT} {i:Nat} (h:i<(VT.css ks).length):(VT.css ks)[i]=(ks[i]'(by simpa using h)).cs:=by simp[VT.css_map]
theorem VT.css_getD {ks:List VT} {i:Nat} (h:i<ks.length):(VT.css ks).getD i []=(ks[i]).cs:=by simp[VT.css_map,List.getD_eq_getElem?_getD,h]
theorem VT.kid_lt {k n:Int} {ks:List VT} {i:Nat} (h:i<ks.length):(ks[i]).nodes<(VT.mk k n ks).nodes:=by
 have h1:VT.nodesL ks=VT.nodesL (ks.take i)+((ks[i]).nodes+VT.nodesL (ks.drop (i+1))):=by
  conv=>lhs;rw[←List.take_append_drop i ks,VT.nodesL_app,List.drop_eq_getElem_cons h]
  rw[VT.nodesL]
 simp only[VT.nodes];omega
theorem VT.len_le:∀ ks:List VT,ks.length≤VT.nodesL ks
 | []=>by simp
 | v::vs=>by have:=VT.len_le vs;have:=v.nodes_pos;simp[VT.nodesL];omega
theorem VT.nodesL_take {ks:List VT} {i:Nat} (h:i<ks.length):VT.nodesL (ks.take (i+1))=VT.nodesL (ks.take i)+(ks[i]).nodes:=by rw[List.take_succ_eq_append_getElem h,VT.nodesL_app];simp[VT.nodesL]
theorem VT.nodesL_take_le (ks:List VT) (i:Nat):VT.nodesL (ks.take i)≤VT.nodesL ks:=by
 conv=>rhs;rw[←List.take_append_drop i ks,VT.nodesL_app]
 omega
def VT.leaf (k:Int):Bool:=k == 6 || k == 7 || k == 8
mutual
def VT.size:VT→Nat
 | .mk k _ ks=>if VT.leaf k=true then 1 else VT.sizeL ks+1
def VT.sizeL:List VT→Nat
 | []=>0
 | v::vs=>VT.size v+VT.sizeL vs
end
mutual
theorem VT.size_le:∀ v:VT,v.size≤v.nodes
 | .mk k n ks=>by have:=VT.sizeL_le ks;simp only[VT.size,VT.nodes];split <;> omega
theorem VT.sizeL_le:∀ ks:List VT,VT.sizeL ks≤VT.nodesL ks
 | []=>by simp[VT.sizeL,VT.nodesL]
 | v::vs=>by have:=VT.size_le v;have:=VT.sizeL_le vs;simp only[VT.sizeL,VT.nodesL];omega
end
/- The guard on a value's nodes: what is left of a number behind it, and whether it was enough. -/
mutual
def VT.val:VT→Int→Bool × Int
 | .mk _ _ ks,n=>if n-1<0 then (false,n-1) else VT.valL ks (n-1)
def VT.valL:List VT→Int→Bool × Int
 | [],n=>(true,n)
 | v::vs,n=>match VT.val v n with
  | (true,m)=>VT.valL vs m
  | (false,m)=>(false,m)
end
mutual
theorem VT.val_spec:∀ (v:VT) (n:Int),0≤n→((VT.val v n).1=true→(VT.val v n).2=n-v.nodes∧0≤(VT.val v n).2)∧-1≤(VT.val v n).2∧(VT.val v n).2≤n
 | .mk k m ks,n,h=>by
  simp only[VT.val,VT.nodes];split
  ·simp;omega
  ·have:=VT.valL_spec ks (n-1) (by omega);refine⟨λht=>?_,by omega,by omega⟩;have:=this.1 ht;omega
theorem VT.valL_spec:∀ (ks:List VT) (n:Int),0≤n→((VT.valL ks n).1=true→(VT.valL ks n).2=n-VT.nodesL ks∧0≤(VT.valL ks n).2)∧-1≤(VT.valL ks n).2∧(VT.valL ks n).2≤n
 | [],n,h=>by simp[VT.valL,VT.nodesL];omega
 | v::vs,n,h=>by
  have h1:=VT.val_spec v n h;simp only[VT.valL,VT.nodesL];split
  ·rename_i m hm;rw[hm]at h1;have h2:=h1.1 rfl;simp only at h2;have h3:=VT.valL_spec vs m h2.2;refine⟨λht=>?_,by omega,by omega⟩;have:=h3.1 ht;omega
  ·rename_i m hm;rw[hm]at h1;simp only at h1;exact⟨by simp,by omega,by omega⟩
end
theorem VT.valL_drop {ks:List VT} {i:Nat} (h:i<ks.length) (n:Int):VT.valL (ks.drop i) n=match VT.val ks[i] n with
  | (true,m)=>VT.valL (ks.drop (i+1)) m
  | (false,m)=>(false,m):=by rw[List.drop_eq_getElem_cons h,VT.valL]
end Go.Abs
namespace Go.Abs
open Go
def icmp (a b:Int):Int:=if a<b then -1 else if b<a then 1 else 0
def cor (a b:Int):Int:=if a=0 then b else a
theorem zg0 (a b:Int):icmp a b=- icmp b a:=by unfold icmp;split <;> split <;> first | omega | (split <;> omega)
theorem zon (a b:Int):icmp a b=0↔a=b:=by unfold icmp;split <;> first | omega | (split <;> omega)
theorem zg1 (a b:Int):icmp a b=-1∨icmp a b=0∨icmp a b=1:=by unfold icmp;split <;> first | omega | (split <;> omega)
theorem ze2 {a a' b b':Int} (h:a=- b) (h':a'=- b'):cor a a'=- cor b b':=by unfold cor;split <;> split <;> omega
theorem zgP (a b:Int):cor a b=0↔a=0∧b=0:=by unfold cor;split <;> omega
theorem ze3 {a b:Int} (h:a=-1∨a=0∨a=1) (h':b=-1∨b=0∨b=1):cor a b=-1∨cor a b=0∨cor a b=1:=by unfold cor;split <;> omega
theorem zvi {a b:Int} (h:a≠0):cor a b=a:=by simp[cor,h]
theorem zvj {a b:Int} (h:a=0):cor a b=b:=by simp[cor,h]
def Tri (a b c:Int):Prop:=a≤0→b≤0→c≤0∧(c=0→a=0∧b=0)
theorem Tri.icmp (x y z:Int):Tri (icmp x y) (icmp y z) (icmp x z):=by unfold Tri Go.Abs.icmp;intro h1 h2;split at h1 <;> split at h2 <;> (try split at h1) <;> (try split at h2) <;> split <;> (try split) <;> omega
theorem Tri.cor {a b c a' b' c':Int} (h:Tri a b c) (h':Tri a' b' c'):Tri (cor a a') (cor b b') (cor c c'):=by unfold Tri Go.Abs.cor at *;intro h1 h2;by_cases ha:a=0 <;> by_cases hb:b=0 <;> by_cases hc:c=0 <;> simp only[ha,hb,hc,if_true,if_false]at*<;> first | omega | (simp_all;done) | (have:=h' h1 h2;simp_all;omega)
mutual
def VT.cmp:VT→VT→Int
 | .mk k n ks,.mk k' n' ks'=>cor (icmp k k') (cor (icmp n n') (cor (icmp ks.length ks'.length) (VT.cmpL ks ks')))
def VT.cmpL:List VT→List VT→Int
 | v::vs,w::ws=>cor (VT.cmp v w) (VT.cmpL vs ws)
 | [],[]=>0
 | [],_::_=>-1
 | _::_,[]=>1
end
mutual
def VT.same:VT→VT→Bool
 | .mk k n ks,.mk k' n' ks'=>k == k' && n == n' && VT.sameL ks ks'
def VT.sameL:List VT→List VT→Bool
 | v::vs,w::ws=>VT.same v w && VT.sameL vs ws
 | [],[]=>true
 | [],_::_=>false
 | _::_,[]=>false
end
mutual
theorem VT.cmp_anti:∀ v w:VT,VT.cmp v w=- VT.cmp w v
 | .mk k n ks,.mk k' n' ks'=>by simp only[VT.cmp];exact ze2 (zg0 _ _) (ze2 (zg0 _ _) (ze2 (zg0 _ _) (VT.cmpL_anti ks ks')))
theorem VT.cmpL_anti:∀ v w:List VT,VT.cmpL v w=- VT.cmpL w v
 | v::vs,w::ws=>by simp only[VT.cmpL];exact ze2 (VT.cmp_anti v w) (VT.cmpL_anti vs ws)
 | [],[]=>by simp[VT.cmpL]
 | [],_::_=>by simp[VT.cmpL]
 | _::_,[]=>by simp[VT.cmpL]
end
mutual
theorem VT.cmp_rng:∀ v w:VT,VT.cmp v w=-1∨VT.cmp v w=0∨VT.cmp v w=1
 | .mk k n ks,.mk k' n' ks'=>by simp only[VT.cmp];exact ze3 (zg1 _ _) (ze3 (zg1 _ _) (ze3 (zg1 _ _) (VT.cmpL_rng ks ks')))
theorem VT.cmpL_rng:∀ v w:List VT,VT.cmpL v w=-1∨VT.cmpL v w=0∨VT.cmpL v w=1
 | v::vs,w::ws=>by simp only[VT.cmpL];exact ze3 (VT.cmp_rng v w) (VT.cmpL_rng vs ws)
 | [],[]=>by simp[VT.cmpL]
 | [],_::_=>by simp[VT.cmpL]
 | _::_,[]=>by simp[VT.cmpL]
end
theorem VT.sameL_len:∀ v w:List VT,VT.sameL v w=true→v.length=w.length
 | v::vs,w::ws=>by simp only[VT.sameL,Bool.and_eq_true,List.length_cons];intro h;have:=VT.sameL_len vs ws h.2;omega
 | [],[]=>by simp
 | [],_::_=>by simp[VT.sameL]
 | _::_,[]=>by simp[VT.sameL]
mutual
theorem VT.cmp_zero:∀ v w:VT,VT.cmp v w=0↔VT.same v w=true
 | .mk k n ks,.mk k' n' ks'=>by
  have h:=VT.cmpL_zero ks ks';simp only[VT.cmp,VT.same,zgP,zon,Bool.and_eq_true,beq_iff_eq,and_assoc,h];constructor
  ·rintro⟨a,b,_,c⟩;exact⟨a,b,c⟩
  ·rintro⟨a,b,c⟩;exact⟨a,b,by have:=VT.sameL_len _ _ c;omega,c⟩
theorem VT.cmpL_zero:∀ v w:List VT,VT.cmpL v w=0↔VT.sameL v w=true
 | v::vs,w::ws=>by simp only[VT.cmpL,VT.sameL,zgP,Bool.and_eq_true,VT.cmp_zero v w,VT.cmpL_zero vs ws]
 | [],[]=>by simp[VT.cmpL,VT.sameL]
 | [],_::_=>by simp[VT.cmpL,VT.sameL]
 | _::_,[]=>by simp[VT.cmpL,VT.sameL]
end
mutual
theorem VT.cmp_tri:∀ v w x:VT,Tri (VT.cmp v w) (VT.cmp w x) (VT.cmp v x)
 | .mk k n ks,.mk k' n' ks',.mk k'' n'' ks''=>by simp only[VT.cmp];exact (Tri.icmp _ _ _).cor ((Tri.icmp _ _ _).cor ((Tri.icmp _ _ _).cor (VT.cmpL_tri ks ks' ks'')))
theorem VT.cmpL_tri:∀ v w x:List VT,Tri (VT.cmpL v w) (VT.cmpL w x) (VT.cmpL v x)
 | v::vs,w::ws,x::xs=>by simp only[VT.cmpL];exact (VT.cmp_tri v w x).cor (VT.cmpL_tri vs ws xs)
 | [],[],[]=>by simp[VT.cmpL,Tri]
 | [],[],_::_=>by simp[VT.cmpL,Tri]
 | [],_::_,[]=>by simp[VT.cmpL,Tri]
 | [],_::_,_::_=>by simp[VT.cmpL,Tri]
 | _::_,[],[]=>by simp[VT.cmpL,Tri]
 | _::_,[],_::_=>by simp[VT.cmpL,Tri]
 | _::_,_::_,[]=>by simp[VT.cmpL,Tri]
end
theorem VT.cmpL_drop {a b:List VT} {i:Nat} (ha:i<a.length) (hb:i<b.length):VT.cmpL (a.drop i) (b.drop i)=cor (VT.cmp a[i] b[i]) (VT.cmpL (a.drop (i+1)) (b.drop (i+1))):=by rw[List.drop_eq_getElem_cons ha,List.drop_eq_getElem_cons hb,VT.cmpL]
theorem VT.sameL_drop {a b:List VT} {i:Nat} (ha:i<a.length) (hb:i<b.length):VT.sameL (a.drop i) (b.drop i)=(VT.same a[i] b[i] && VT.sameL (a.drop (i+1)) (b.drop (i+1))):=by rw[List.drop_eq_getElem_cons ha,List.drop_eq_getElem_cons hb,VT.sameL]
end Go.Abs
