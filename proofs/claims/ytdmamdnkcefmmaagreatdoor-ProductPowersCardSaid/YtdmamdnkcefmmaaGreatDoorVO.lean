import Derived.Test.YtdmamdnkcefmmaaGreatDoorKZ4
import Derived.Test.YtdmamdnkcefmmaaGreatDoorKNum
import Derived.Test.YtdmamdnkcefmmaaGreatDoorProg
import Derived.KernelRfl
import Derived.Test.YtdmamdnkcefmmaaGreatDoorAbsU
set_option linter.unusedSimpArgs false
set_option linter.unusedVariables false
set_option maxRecDepth 100000
namespace Go.Proofs.YtdmamdnkcefmmaaGreatDoor
theorem zBQ(n:Nat)(hn:n<1000000000000000000)(H:zaa)(K:Kt)(hK:K (.tup [.int .u64 n,.bool true]) H):ACalls tP zkt [.sl (zal (lim n)) .none] H K:=by
 refine ACalls.out (zT2 λhs=>?_);have jY:(lim n).length≤2:=zbT (by omega);have lA:=zb4 n;have vA:=zbq n;generalize lim n=L at *;simp[zEw];refine zT0 (Inv:=λq t4 t9 H'=>∃i:Nat,i≤L.length∧L.length-i=q∧t9=.int .i64 i∧t4=.int .u64 ((zao (L.drop (L.length-i)):Nat):Int)∧H'=H) L.length ?_ ?_
 ·intro _;exact⟨0,by omega,rfl,rfl,by simp[zao],rfl⟩
 ·rintro q t4 t9 H' ⟨i,hi,rfl,rfl,rfl,rfl⟩ eE ek eK Kb eq;by_cases ei:i<L.length
  ·have w1:IntKind.i64.wrap ((L.length:Int)-1)=((L.length-1:Nat):Int):=by rw[zay (by omega) (by omega)];omega
   have w2:IntKind.i64.wrap (((L.length-1:Nat):Int)-i)=((L.length-1-i:Nat):Int):=by rw[zay (by omega) (by omega)];omega
   have hj:L.length-1-i<L.length:=by omega
   have hx:=lA L[L.length-1-i] (af hj);obtain⟨x,jh⟩:∃x,x=L[L.length-1-i]:=⟨_,rfl⟩;have w3:IntKind.u64.wrap ((L[L.length-1-i]:Nat):Int)=(x:Int):=by rw[←jh];exact zbw (by omega)
   have fM:=zh2 L (L.length-1-i) hj;rw[show L.length-1-i+1=L.length-i by omega,←jh]at fM;have jD:zao (L.drop (L.length-i))<1000000000:=by
    have h1:=zdW (L.drop (L.length-i)) (λy hy=>lA y (List.mem_of_mem_drop hy));have h2:(L.drop (L.length-i)).length≤1:=by simp;omega
    have h3:1000000000 ^ (L.drop (L.length-i)).length≤1000000000 ^ 1:=a7 (by omega) h2;omega
   have eV:zao (L.drop (L.length-(i+1)))=zao (L.drop (L.length-i))*1000000000+x:=by rw[show L.length-(i+1)=L.length-1-i by omega,fM];omega
   generalize hW:zao (L.drop (L.length-i))=W at *;have w4:IntKind.u64.wrap (18446744073709551615-(x:Int))=((18446744073709551615-x:Nat):Int):=by rw[show (18446744073709551615:Int)-x=((18446744073709551615-x:Nat):Int) by omega];exact zbw (by omega)
   obtain⟨y,qw⟩:∃y,y=18446744073709551615-x:=⟨_,rfl⟩;rw[←qw]at w4;obtain⟨r,c,jZ,iA,pD,e1,e2⟩:=zgG y (by omega);have hc:¬(c<W):=by omega
   have w5:IntKind.u64.wrap ((W:Int)*1000000000)=((W*1000000000:Nat):Int):=by rw[show (W:Int)*1000000000=((W*1000000000:Nat):Int) by omega];exact zbw (by omega)
   obtain⟨m,g7⟩:∃m,m=W*1000000000:=⟨_,rfl⟩;rw[←g7]at w5;obtain⟨s,kO⟩:∃s,s=m+x:=⟨_,rfl⟩;have w6:IntKind.u64.wrap ((m:Int)+x)=(s:Int):=by rw[kO,←Int.natCast_add];exact zbw (by omega)
   simp only[zva];simp[ei,w1,w2,hj,w3,w4,e2,hc,w5,w6,wi i (by omega)];exact eq _ _ ⟨L.length-(i+1),by omega,Back.here (by simp) hs (by simp[znS,ux,AV.sc,AV.scA,AV.scB,AV.scV]) ⟨_,_,rfl,i+1,by omega,rfl,rfl,by rw[eV,kO,g7],rfl⟩⟩
  ·obtain rfl:i=L.length:=by omega
   rw[c7,bq,vA];simp[zva];exact⟨⟨rfl,rfl⟩,Out.tup0 (bs:=[.int .u64 (n:Int),.bool true]) hs hK ⟨zaV rfl rfl,zaV rfl rfl,trivial⟩⟩
theorem zIA(a b:Nat)(ha:a<1000000000000000000)(hb:b<1000000000000000000)(H:zaa)(K:Kt)(hK:K (.sl (zal (lim (Nat.gcd a b))) .none) H):
  ACalls tP zrA [.sl (zal (lim a)) .none,.sl (zal (lim b)) .none] H K:=by
 refine ACalls.out (zS1 λhs=>?_);have la:(lim a).length≤2:=zbT (by omega);have lb:(lim b).length≤2:=zbT (by omega);unfold zEb;refine zSY (Inv:=λq t0 t1 H'=>t0=.sl (zal (lim a)) .none∧t1=.sl (zal (lim b)) .none∧H'=H) 0 ?_ ?_
 ·intro _;exact⟨rfl,rfl,rfl⟩
 ·rintro q t0 t1 H' ⟨rfl,rfl,rfl⟩ eE ek eK Kb eq;by_cases h0:b=0
  ·subst h0;rw[dx]at hK;simp[zuS];exact Out.one0 hs (.atom (.sl _ _)) rfl rfl hK
  ·have hp:0<(lim b).length:=by rw[zcq h0];simp
   have lu:decide (((lim a).length:Int)≤2)=true:=by simp;omega
   have gf:decide (((lim b).length:Int)≤2)=true:=by simp;omega
   simp[zuS,hp,lu,gf];refine zBQ a ha _ _ ?_;simp;refine zBQ b hb _ _ ?_;simp;refine zSZ (Inv:=λq t5 t7 H2=>∃x y:Nat,y=q∧t5=.int .u64 x∧t7=.int .u64 y∧x<1000000000000000000∧y<1000000000000000000∧Nat.gcd x y=Nat.gcd a b∧H2=H') b ?_ ?_
   ·intro _;exact⟨a,b,rfl,rfl,rfl,ha,hb,rfl,rfl⟩
   ·rintro q t5 t7 H2 ⟨x,y,rfl,rfl,rfl,hx,hy,hg,rfl⟩ gm i8 mG Kb2 fF;by_cases qw:y=0
    ·subst qw;rw[dx]at hg;subst hg;simp[zuT];refine zqE _ (by omega) _ _ ?_;exact Out.one0 hs (.atom (.sl _ _)) rfl rfl hK
    ·obtain⟨r,c,jZ,iA,e1,_⟩:=zqx x y (by omega) (by omega);simp only[zuT];simp[show 0<y by omega,e1];refine fF _ _ ⟨r,by omega,Back.here (by simp) hs (by simp[znI,ux,AV.sc,AV.scA,AV.scB,AV.scV]) ⟨_,_,rfl,y,r,rfl,rfl,rfl,hy,by omega,?_,rfl⟩⟩;have mq:r=x % y:=by rw[iA,dA,bH jZ]
     rw[←hg,mq,dS x y,Nat.gcd_rec y x,dS]
def zbU(neg:Bool)(n d:Nat):List AV:=[.bool neg,.sl (zal (lim n)) .none,.sl (zal (lim d)) .none]
@[simp] theorem yem(b:Bool)(n d:Nat):(zbU b n d).length=3:=rfl
@[simp] theorem yel(b:Bool)(n d:Nat):(∀x∈zbU b n d,x.known=true)=True:=by simp[zbU,AV.known]
@[simp] theorem yen(b:Bool)(n d:Nat):List.take 3 (zbU b n d)=zbU b n d:=rfl
theorem zgX{H J:zaa}{K:Kt}{b:Bool}{n d:Nat}(hs:HSc H)(hK:K (.agg (zbU b n d)) H):Out H.length K (.agg (zbU b n d)) (H++J):=Out.one hs .rfl' rfl rfl hK
theorem zjW{n:Nat}:lim n=[1]↔n=1:=by
 constructor
 ·intro h;have:=zbq n;rw[h]at this;simp[zao]at this;omega
 ·rintro rfl;exact zdd
theorem zI2(neg:Bool)(n d:Nat)(i5:n≠0)(gA:d≠0)(hn:n<1000000000000000000)(hd:d<1000000000000000000)(hg:Nat.gcd n d<1000000000)(H:zaa)(K:Kt)(hK:K (.agg (zbU neg (n / Nat.gcd n d) (d / Nat.gcd n d))) H):
  ACalls tP zkc [.agg (zbU neg n d)] H K:=by
 refine ACalls.out (zC0 λhs=>?_);have ln:(lim n).length≤2:=zbT (by omega);have ld:(lim d).length≤2:=zbT (by omega);have hp:0<(lim n).length:=by rw[zcq i5];simp
 have hb:(((lim n).length:Int) == 0)=false:=by generalize (lim n).length=q at hp;simp;omega
 have iT:0<Nat.gcd n d:=dD d (by omega);have lg:(lim (Nat.gcd n d)).length≤2:=zbT (by omega);simp[zmU,zbU,hb,aa];refine zqR (lim d) (by omega) _ _ ?_;by_cases mv:d=1
 ·subst mv;rw[Nat.gcd_one_right,dU,dU]at hK;simp[zjW,aa];exact zgX hs hK
 ·simp[zjW,mv,aa];refine zIA n d hn hd _ _ ?_;refine zqR _ (by omega) _ _ ?_;by_cases jW:Nat.gcd n d=1
  ·rw[jW,dU,dU]at hK;simp[zjW,jW,aa];exact zgX hs hK
  ·simp[zjW,jW,aa];refine zyz n _ (by omega) iT hg _ _ ?_;simp[aa];refine zyz d _ (by omega) iT hg _ _ ?_;simp[zaq,zaJ,zcE,AV.known,aa];exact zgX hs hK
theorem zA2(neg:Bool)(n d:Nat)(i5:n≠0)(gA:d≠0)(hn:n<1000000000000000000)(hd:d<1000000000000000000)(hg:Nat.gcd n d<1000000000)(H:zaa)(K:Kt)(hK:K (.agg (zbU neg (n / Nat.gcd n d) (d / Nat.gcd n d))) H):
  ACalls tP zfh [.agg (zbU neg n d)] H K:=by
 refine ACalls.out (zCi λhs=>?_);simp[ztk,zbU,aa];refine zI2 neg n d i5 gA hn hd hg _ _ ?_;simp[zbU,zaq,zaJ,zcE,AV.known,aa];exact zgX hs hK
theorem zTU(a b:Nat)(m5:a≠0)(fL:b≠0)(ha:a<1000000000)(hb:b<1000000000)(H:zaa)(K:Kt)(hK:K (.agg (zbU false (a / Nat.gcd a b) (b / Nat.gcd a b))) H):
  ACalls tP zrF [.int .i64 a,.int .i64 b] H K:=by
 refine ACalls.out (zTT λhs=>?_);have h0:decide ((a:Int)<0)=false:=by simp
 have h1:decide ((b:Int)<0)=false:=by simp
 have h2:((b:Int) == 0)=false:=by simp;omega
 have hg:Nat.gcd a b<1000000000:=aD (Nat.gcd_le_right a (by omega)) hb;simp[zEt,h2,h0,h1,aa];refine zqX a (by omega) _ _ ?_;refine zqX b (by omega) _ _ ?_;simp[zaq,zaJ,zcE,AV.known,aa];refine zA2 false a b m5 fL (by omega) (by omega) hg _ _ ?_;simp[aa];exact zgX hs hK
theorem zzb(neg:Bool)(n d:Nat)(i5:n≠0)(gA:d≠0)(hn:(lim n).length≤1000)(hd:(lim d).length≤1000)(H:zaa)(K:Kt)(hK:K (.agg (zbU neg n d)) H):ACalls tP zeK [.agg (zbU neg n d)] H K:=by
 refine ACalls.out (zCk λhs=>?_);have hz:∀m:Nat,m≠0→(((lim m).length:Int) == 0)=false:=λm hm=>by
  have hp:0<(lim m).length:=by rw[zcq hm];simp
  generalize (lim m).length=q at hp;simp;omega
 simp[zto,zbU,aa];refine zaD (.sl (zal (lim n)) .none) (λJ=>zkT _ (zhZ _) (by omega) _ _ (by rw[zbq];exact⟨rfl,rfl⟩)) ?_;refine zaD (.sl (zal (lim d)) .none) (λJ=>zkT _ (zhZ _) (by omega) _ _ (by rw[zbq];exact⟨rfl,rfl⟩)) ?_;simp[hz n i5,hz d gA,zaq,zaJ,zcE,AV.known,aa];exact zgX hs hK
theorem zAl(n:Nat):zbU false n 1=zai (n:Int):=by unfold zbU zai;rw[zdd,Int.natAbs_natCast,bg (by omega)]
theorem zJb(a:Nat)(ha:a<1000000000 ^ 30)(H:zaa)(K:Kt)(hK:K (.sl (zal (lim a)) .none) H):ACalls tP zdZ [.sl (zal [1]) .none,.sl (zal (lim a)) .none] H K:=by have:=zh5 1 a zfk ha H K (by rw[cw];exact hK);rwa [zdd]at this
theorem zG4(c p q r:Nat)(gy:p≠0)(oY:q≠0)(gM:c≠0)(hp:p<1000000000)(hq:q<1000000000)(pE:c*p<1000000000000000000)(hr:c*p=r*q)(H:zaa)(K:Kt)(hK:K (.agg (zai (r:Int))) H):
  ACalls tP zfj [.agg (zai (c:Int)),.agg (zbU false p q)] H K:=by
 refine ACalls.out (zFY λhs=>?_);have hc:c<1000000000000000000:=aD (cR c (by omega)) pE;have lc:=zbT (n:=c) (k:=2) (by omega);have lp:=zbT (n:=p) (k:=1) (by omega);have lq:=zbT (n:=q) (k:=1) (by omega);have b30:(1000000000000000000:Nat)≤1000000000 ^ 30:=by decide
 have hg:Nat.gcd (c*p) q=q:=by rw[hr];exact Nat.gcd_eq_right (Nat.dvd_mul_left q r)
 have hcp0:c*p≠0:=Nat.mul_ne_zero gM gy;rw[←zAl c];simp[zwt,zbU,aa];refine zaD (.agg (zbU false c 1)) (λJ=>zzb false c 1 gM (by omega) (by omega) (by rw[zdd];simp) _ _ ⟨rfl,rfl⟩) ?_;refine zaD (.agg (zbU false p q)) (λJ=>zzb false p q gy oY (by omega) (by omega) _ _ ⟨rfl,rfl⟩) ?_;simp[zbU,AV.known,aa];refine zaD (.sl (zal (lim (c*p))) .none) (λJ=>zh5 _ _ (by omega) (by omega) _ _ ⟨rfl,rfl⟩) ?_;rw[zdd];refine zaD (.sl (zal (lim q)) .none) (λJ=>zJb _ (by omega) _ _ ⟨rfl,rfl⟩) ?_;simp[zaq,zaJ,zcE,AV.known,aa];refine zaD (.agg (zai (r:Int))) (λJ=>zA2 false (c*p) q hcp0 oY pE (by omega) (by rw[hg];exact hq) _ _ (by
  rw[hg,dX (by omega),hr,Nat.mul_div_cancel _ (by omega),zAl];exact⟨rfl,rfl⟩)) ?_
 simp[aa];exact zcH hs hK
section
variable (t0 t1 t12 t13:AV) (H:zaa) (K:Kt) (Kb4:Lt)
def zTj(_:Nat):List Bool:=[]
noncomputable def zTk:=Tryz.f21.body.getD .skip
def zD4:=zav t0 H λt2 H=>zav t1 H λt3 H=>zaf 0 t2 λt5=>zae false 1 t5 H λt6=>zaf 0 t3 λt7=>zae false 1 t7 H λt8=>zac .eql true t6 t8 λt9=>zad t9 true H (λK'=>zaf 1 t2 (K' · H)) λt11 H=>zad t9 true H (λK'=>zae false 1 t11 H (K' · H)) λt12 H=>zad t9 true H (λK'=>zaf 1 t3 (K' · H)) λt13 H=>zad t9 true H (λK'=>zae false 1 t13 H (K' · H)) λt14 H=>zad t9 true H (λK'=>ACalls tP zkG [t12,t14] H K') λt15 H=>zam t9 t15 (.bool false) λt16=>zad t16 true H (λK'=>zaf 2 t2 (K' · H)) λt18 H=>zad t16 true H (λK'=>zae false 1 t18 H (K' · H)) λt19 H=>zad t16 true H (λK'=>zaf 2 t3 (K' · H)) λt20 H=>zad t16 true H (λK'=>zae false 1 t20 H (K' · H)) λt21 H=>zad t16 true H (λK'=>ACalls tP zkG [t19,t21] H K') λt22 H=>zam t16 t22 (.bool false) λt23=>K t23 H
def zoQ:Nat→List Bool|4=>rl false [0,2,10,2,12]|_=>[]
noncomputable def zwh:=Tryz.f55.body.getD .skip
noncomputable def zXq:=Tryz.f55.results.toList
def zoR:=t0::t1::ux 10 (t12::t13::ux 12 [])
def zXo:=zoQ 4
noncomputable def zXm:=zar [1,1,0,1,0,0] zwh
def zXl:=zas tP zoQ [1,1,0,1,0] zwh (zaB tP zXq K)
def zFG:=ALoop tP zXm (zXl K) (zoR t0 t1 t12 t13) H
def zwg:=zac .lss false t13 t12 λt14=>zag t14 (apm H t0 λt16=>apm H t13 λt17=>apu H (zak 1 t16 t17) λt18=>apu H (zaj false 1 t18 H) λt19=>apm H t1 λt20=>apm H t13 λt21=>apu H (zak 1 t20 t21) λt22=>apu H (zaj false 1 t22 H) λt23=>apu H (zac .neq false t19 t23) λt24=>zag t24 (K (.bool false) H) (zac .add false t13 (.int .i64 1) λt25=>Kb4 (zoR t0 t1 t12 t25) H)) (K (.bool true) H)
def zFF:=zah 1 t0 λt7=>zah 1 t1 λt9=>zac .neq false t7 t9 λt10=>zag t10 (K (.bool false) H) (zah 1 t0 λt12=>zFG t0 t1 t12 (.int .i64 0) H K)
variable {t0 t1 t12 t13} {H} {K} {Kb4}
theorem zTl(h:HSc H→zD4 t0 t1 H K):ACalls tP zkm [t0,t1] H K:=
 acb zTj Tryz.func21 zTk h
theorem zXn:Lo1 (λt13=>zoR t0 t1 t12 t13) (λt13 H Kb4=>zwg t0 t1 t12 t13 H K Kb4) t13 H (zFG t0 t1 t12 t13 H K):=lq1 zoQ zXo
theorem zXp(h:HSc H→zFF t0 t1 H K):ACalls tP zkG [t0,t1] H K:=
 acb zoQ Tryz.func55 zwh h
end
def chs:Nat→Nat→Nat
 |_,0=>1
 |0,_+1=>0
 |n+1,k+1=>chs n k+chs n (k+1)
@[simp] theorem zH2(n:Nat):chs n 0=1:=by cases n <;> rfl
theorem zhG:∀ {n k:Nat},n<k→chs n k=0
 |0,k+1,_=>rfl
 |n+1,k+1,h=>by rw[chs,zhG (by omega),zhG (by omega)]
theorem zjK:∀ (n k:Nat),(k+1)*chs n (k+1)=chs n k*(n-k)
 |0,k=>by simp[chs]
 |n+1,0=>by have:=zjK n 0;simp only[chs,zH2]at this ⊢;omega
 |n+1,k+1=>by
  have h1:=zjK n k;have h2:=zjK n (k+1);simp only[chs];rw[show n+1-(k+1)=n-k by omega];by_cases hk:k+1≤n
  ·obtain⟨m,rfl⟩:∃m,n=k+1+m:=⟨n-(k+1),by omega⟩;rw[show k+1+m-k=m+1 by omega]at h1 ⊢;rw[show k+1+m-(k+1)=m by omega]at h2;grind
  ·rw[zhG (show n<k+1 by omega),zhG (show n<k+1+1 by omega),show n-k=0 by omega];simp
theorem zjJ:∀ (n k:Nat),chs n k≤n ^ k
 |n,0=>by simp
 |0,k+1=>by simp[chs]
 |n+1,k+1=>by have h1:=zjJ n k;have h2:=zjJ n (k+1);have h3:n ^ k≤(n+1) ^ k:=dm (by omega) k;simp only[chs,Nat.pow_succ]at h2 ⊢;have h4:n ^ k*n≤(n+1) ^ k*n:=ar _ h3;rw[cH];omega
theorem zFH(L:List Nat)(hL:L.length≤1000)(H:zaa)(K:Kt)(hK:K (.bool true) H):ACalls tP zkG [.sl (zal L) .none,.sl (zal L) .none] H K:=by
 refine ACalls.out (zXp λhs=>?_);simp[zFF];refine zXn (Inv:=λq t13 H'=>∃i:Nat,i≤L.length∧L.length-i=q∧t13=.int .i64 i∧H'=H) L.length ?_ ?_
 ·intro _;exact⟨0,by omega,rfl,rfl,rfl⟩
 ·rintro q t13 H' ⟨i,hi,rfl,rfl,rfl⟩ eE ek eK Kb eq;by_cases ei:i<L.length
  ·simp[zwg,ei,wi i (by omega)];exact eq _ _ ⟨L.length-(i+1),by omega,Back.here (by simp) hs (by simp[zoR,ux,AV.sc,AV.scA,AV.scB,AV.scV]) ⟨_,rfl,i+1,by omega,rfl,rfl,rfl⟩⟩
  ·simp[zwg,ei];exact Out.bool (J:=[]) (by simp) (ac _) hs hK
theorem zEm(z:Int)(hz:Sm z)(H:zaa)(K:Kt)(hK:K (.bool true) H):ACalls tP zkm [.agg (zai z),.agg (zai z)] H K:=by refine ACalls.out (zTl λhs=>?_);have:=hz.len;simp[zD4,zai,aa];refine zFH _ (by omega) _ _ ?_;simp[aa];refine zFH _ (by simp) _ _ ?_;exact Out.bool rfl (ac _) hs hK
theorem zb0{n:Nat}(h:n<1000000000 ^ 30):Sm (n:Int):=by unfold Sm;rw[Int.natAbs_natCast];exact h
@[simp] theorem yep(z:Int):List.take 3 (zai z)=zai z:=rfl
@[simp] theorem yeo(z:Int):List.drop 3 (zai z)=[]:=rfl
@[simp] theorem zdg(z:Int):(∀x∈zai z,x.known=true)=True:=by simp[zai,AV.known]
theorem zyl:∀ {n k:Nat},k≤n→0<chs n k
 |n,0,_=>by simp
 |n+1,k+1,h=>by have:=zyl (n:=n) (k:=k) (by omega);rw[chs];omega
theorem zyI(n k:Nat)(hn:n≤900)(hk:k≤6)(H:zaa)(K:Kt)(hK:K (.agg (zai (chs n k))) H):ACalls tP zki [.int .i64 n,.int .i64 k] H K:=by
 refine ACalls.out (zSb λhs=>?_);simp[zDX,aa];refine zeu 1 (by omega) _ _ ?_;simp[aa];have hsc:∀z:Int,HSc (H++[.cells [.bool false,.snil,.snil],.cells (zai z)]):=λz=>hs.append (by simp[AB.sc,zai,AV.scA,AV.scB]);refine zR9 (Inv:=λq t9 H'=>∃i:Nat,i≤k∧i≤n∧k-i=q∧t9=.int .i64 i∧H'=H++[.cells [.bool false,.snil,.snil],.cells (zai ((chs n i:Nat):Int))]) k ?_ ?_
 ·intro _;exact⟨0,by omega,by omega,rfl,rfl,by simp⟩
 ·rintro q t9 H' ⟨i,hi,nw,rfl,rfl,rfl⟩ eE ek eK Kb eq;by_cases ei:i<k
  ·by_cases oQ:n=i
   ·subst oQ;rw[zhG ei]at hK;simp[zns,ei,aa];refine zeu 0 (by omega) _ _ ?_;simp[aa];exact zcH hs hK
   ·have hb:((n:Int) == (i:Int))=false:=by simp;omega
    have oZ:chs n i≤900 ^ 5:=by refine ap (zjJ n i) (ap (dm hn i) (a7 (by omega) (by omega)))
    have w1:IntKind.i64.wrap ((n:Int)-i)=((n-i:Nat):Int):=by rw[zay (by omega) (by omega)];omega
    obtain⟨d,hd⟩:∃d,d=n-i:=⟨_,rfl⟩;rw[←hd]at w1;obtain⟨j,hj⟩:∃j,j=i+1:=⟨_,rfl⟩;have w2:IntKind.i64.wrap ((i:Int)+1)=(j:Int):=by rw[wi i (by omega),hj]
    have iT:0<Nat.gcd d j:=dD j (by omega);have hp:=Nat.div_mul_cancel (Nat.gcd_dvd_left d j);have hq:=Nat.div_mul_cancel (Nat.gcd_dvd_right d j);have ep:=zjK n i;rw[←hd,←hj]at ep;have hpd:=cU d (Nat.gcd d j);have hqj:=cU j (Nat.gcd d j);have gy:d / Nat.gcd d j≠0:=λh=>by rw[h]at hp;omega
    have oY:j / Nat.gcd d j≠0:=λh=>by rw[h]at hq;omega
    have hr:chs n i*(d / Nat.gcd d j)=chs n j*(j / Nat.gcd d j):=by refine Nat.eq_of_mul_eq_mul_right iT ?_;rw[cV,hp,cV,hq,←ep,bi]
    have o3:chs n i*(d / Nat.gcd d j)<1000000000000000000:=aD (bf oZ (ap hpd (show d≤900 by omega))) (by decide);simp[zns,ei,hb,w1,w2,aa];refine zaD (.agg (zbU false (d / Nat.gcd d j) (j / Nat.gcd d j))) (λJ=>zTU d j (by omega) (by omega) (by omega) (by omega) _ _ ⟨rfl,rfl⟩) ?_;refine zaD (.agg (zai ((chs n j:Nat):Int))) (λJ=>zG4 _ _ _ _ gy oY (by have:=zyl nw;omega) (by omega) (by omega) o3 hr _ _ ⟨rfl,rfl⟩) ?_;simp[aa];exact eq _ _ ⟨k-(i+1),by omega,Back.here (by simp) (hsc _) (by simp[znt,ux,AV.sc,AV.scA,AV.scB,AV.scV]) ⟨_,rfl,j,by omega,by omega,by omega,rfl,rfl⟩⟩
  ·obtain rfl:i=k:=by omega
   simp[zns,aa];exact zcH hs hK
theorem zz1{H:zaa}{K:Kt}(R:List Nat)(hs:HSc H)(hK:K (.sl (zal R) .none) H):Out H.length K (.ov H.length R.length) (H++[.vec zbh 1 R.length (us R)]):=
 ⟨.sl (zal R) .none,H,[.vec zbh 1 R.length (us R)],rfl,ac _,hs,.one (.vfz H.length zbh 1 R.length (us R) (zal R) (ac _) (by simp) (by rw[zlw,ziS]) (by simp) (zen R)),hK⟩
theorem zxV(A B:List Nat)(lA:∀x∈A,x<1000000000)(lB:∀x∈B,x<1000000000)(ha:A.length≤1000)(hb:B.length≤A.length)(cA:lim (zao A)=A)(H:zaa)(K:Kt)(hs:HSc H)(hK:K (.sl (zal (lim (zao A+zao B))) .none) H):znj (.sl (zal A) .none) (.sl (zal B) .none) H (Out H.length K):=by
 have hsc:∀ R:List Nat,HSc (H++[.vec zbh 1 R.length (us R)]):=λA=>hs.append (by simp[AB.sc,us,AV.scA,AV.scB]);simp[znj,wi A.length (by omega)];refine⟨⟨by omega,by omega,by omega⟩,?_⟩;refine zRQ (Inv:=λq t5 t6 t22 H'=>∃ (i c:Nat) (R:List Nat),i≤A.length∧A.length-i=q∧t22=.int .i64 i∧t6=.int .u32 c∧t5=.ov H.length R.length∧R.length=i∧(∀ x∈R,x<1000000000)∧c≤1 ∧
  zao R+1000000000 ^ i*c=zao (A.take i)+zao (B.take i)∧H'=H++[.vec zbh 1 R.length (us R)]) A.length ?_ ?_
 ·intro _;exact⟨0,0,[],by omega,rfl,rfl,rfl,rfl,rfl,by simp,by omega,by simp[zao],rfl⟩
 ·rintro q t5 t6 t22 H' ⟨i,c,R,hi,rfl,rfl,rfl,rfl,jk,hR,hc,hv,rfl⟩ eE ek eK Kb eq;by_cases ei:i<A.length
  ·have jC : ∀ (s : Nat), s ≤ 2 * 999999999 + 1 → s = c + A[i] + (if h : i < B.length then B[i] else 0) →
     znk (.sl (zal A) .none) (.sl (zal B) .none) (.ov H.length R.length) (.int .u32 s) (.int .i64 A.length) (.int .i64 i) (H++[.vec zbh 1 R.length (us R)]) (Out H.length K) Kb:=by
    intro s e5 fy;obtain⟨x,c',fJ,fc,e1,e2⟩:=zyB s (by omega);simp only[znk];simp[e1,e2,zaw,zaR,plain,AV.pd,zax,zaM,zaK,wi i (by omega)];refine⟨⟨by omega,by omega⟩,?_⟩;have e3:us R++[AV.int .u32 (x:Int)]=us (R++[x]):=by simp[us]
    rw[e3];refine eq _ _ ⟨A.length-(i+1),by omega,Back.here (by simp) (by simpa using hsc (R++[x])) (by simp[zni,ux,AV.sc,AV.scA,AV.scB,AV.scV]) ⟨_,_,_,rfl,i+1,c',R++[x],by omega,rfl,rfl,rfl,by simp,by simp[jk],?_,by omega,?_,by simp⟩⟩
    ·intro y hy;rcases aX.1 hy with hy | hy
     ·exact hR y hy
     ·simp at hy;omega
    ·have tk:zao (B.take (i+1))=zao (B.take i)+(if h:i<B.length then B[i] else 0)*1000000000 ^ i:=by
      by_cases h:i<B.length
      ·rw[d6 h,zdt B i h]
      ·rw[dT h,ai (by omega),ai (by omega)];simp
     rw[zeJ,tk,zdt A i ei,jk,Nat.pow_succ];generalize (if h:i<B.length then B[i] else 0)=v at *;grind
   have jV:=lA A[i] (af ei);obtain⟨s1,e5⟩:∃s,s=A[i]+c:=⟨_,rfl⟩;have w1:IntKind.u32.wrap (((A[i]:Nat):Int)+(c:Int))=(s1:Int):=by rw[e5,←Int.natCast_add];exact zcB (by omega)
   by_cases hB:i<B.length
   ·have iF:=lB B[i] (af hB);obtain⟨s2,fy⟩:∃ s,s=s1+B[i]:=⟨_,rfl⟩;have w2:IntKind.u32.wrap ((s1:Int)+(B[i]:Nat))=(s2:Int):=by rw[fy,←Int.natCast_add];exact zcB (by omega)
    simp[zi6,ei,hB,w1,w2];exact jC s2 (by omega) (by simp[hB];omega)
   ·simp[zi6,ei,hB,w1];exact jC s1 (by omega) (by simp[hB];omega)
  ·obtain rfl:i=A.length:=by omega
   rw[ak,ai hb]at hv;by_cases h0:c=0
   ·subst h0;simp[zi6,znl];have fR:zao R=zao A+zao B:=by simpa using hv
    rw[←fR]at hK;have lm:R=lim (zao R):=by
     refine zql hR ?_;by_cases md:A.length=0
     ·omega
     ·have h3:=zjY (n:=zao A) (by intro h;have ik:=congrArg List.length cA;rw[h]at ik;simp at ik;omega);rw[cA]at h3;have:=zjX (n:=zao R) (k:=A.length-1) (by omega);omega
    rw[←lm]at hK;exact zz1 R hs hK
   ·obtain rfl:c=1:=by omega
    simp[zi6,znl,zaw,zaR,plain,AV.pd,zax,zaM,zaK];refine⟨⟨by omega,by omega⟩,?_⟩;have e3:us R++[AV.int .u32 1]=us (R++[1]):=by simp[us]
    rw[e3];have fR:zao (R++[1])=zao A+zao B:=by rw[zeJ,jk];omega
    rw[←fR]at hK;have lm:R++[1]=lim (zao (R++[1])):=by
     refine zql (λy hy=>?_) ?_
     ·rcases aX.1 hy with hy | hy
      ·exact hR y hy
      ·simp at hy;omega
     ·have:=zjX (n:=zao (R++[1])) (k:=A.length) (by rw[zeJ,jk];omega);simp;omega
    rw[←lm]at hK;have:=zz1 (R++[1]) hs hK;simpa using this
theorem zRU(a b:Nat)(ha:(lim a).length≤1000)(hb:(lim b).length≤1000)(H:zaa)(K:Kt)(hK:K (.sl (zal (lim (a+b))) .none) H):
  ACalls tP zrx [.sl (zal (lim a)) .none,.sl (zal (lim b)) .none] H K:=by
 refine ACalls.out (zRS λhs=>?_);by_cases h:(lim a).length<(lim b).length
 ·have h':((lim a).length:Int)<((lim b).length:Int):=by omega
  simp[zuC,h];refine zxV (lim b) (lim a) (zb4 b) (zb4 a) hb (by omega) (by rw[zbq]) _ _ hs ?_;rw[zbq,zbq,dY];exact hK
 ·have h':¬ ((lim a).length:Int)<((lim b).length:Int):=by omega
  simp[zuC,h];refine zxV (lim a) (lim b) (zb4 a) (zb4 b) ha (by omega) (by rw[zbq]) _ _ hs ?_;rw[zbq,zbq];exact hK
theorem zzp(a:Nat)(ha:a<1000000000 ^ 30)(H:zaa)(K:Kt)(hK:K (.sl (zal (lim a)) .none) H):ACalls tP zdZ [.sl (zal (lim a)) .none,.sl (zal [1]) .none] H K:=by have:=zh5 a 1 ha zfk H K (by rw[bl];exact hK);rwa [zdd]at this
theorem zJU(a b:Nat)(ha:a<1000000000 ^ 30)(hb:b<1000000000 ^ 30)(H:zaa)(K:Kt)(hK:K (.agg (zai ((a+b:Nat):Int))) H):
  ACalls tP zrc [.agg (zai (a:Int)),.agg (zai (b:Int))] H K:=by
 refine ACalls.out (zN9 λhs=>?_);have la:=zbT ha;have lb:=zbT hb;have d0:∀n:Nat,decide ((n:Int)<0)=false:=λn=>by simp
 simp[zCx,zai,d0,aa];refine zaD (.sl (zal (lim a)) .none) (λJ=>zzp a ha _ _ ⟨rfl,rfl⟩) ?_;try simp[aa]
 refine zaD (.sl (zal (lim b)) .none) (λJ=>zzp b hb _ _ ⟨rfl,rfl⟩) ?_;try simp[aa]
 refine zzo _ _ ?_;simp[aa];refine zaD (.sl (zal (lim (a+b))) .none) (λJ=>zRU a b (by omega) (by omega) _ _ ⟨rfl,rfl⟩) ?_;simp[zaq,zaJ,zcE,AV.known,aa];have e1:zai ((a+b:Nat):Int)=[.bool false,.sl (zal (lim (a+b))) .none,.sl (zal [1]) .none]:=by simp only[zai,d0,Int.natAbs_natCast]
 have:=zcH (H:=H) (K:=K) (z:=((a+b:Nat):Int)) (J:=[.cells [.bool false,.sl (zal (lim a)) .none,.sl (zal [1]) .none],.cells [.bool false,.sl (zal (lim b)) .none,.sl (zal [1]) .none],.cells (zai ((a+b:Nat):Int))]) hs hK;rw[e1]at this;simpa using this
theorem zYM(a b:Nat)(ha:a<1000000000 ^ 30)(hb:b<1000000000 ^ 30)(H:zaa)(K:Kt)(hK:K (.agg (zai ((a+b:Nat):Int))) H):ACalls tP zrY [.agg (zai (a:Int)),.agg (zai (b:Int))] H K:=by
 refine ACalls.out (zYL λhs=>?_);have la:=zbT ha;have lb:=zbT hb;have lc:(lim (a+b)).length≤31:=zbT (by omega);have d0:∀n:Nat,decide ((n:Int)<0)=false:=λn=>by simp
 have e1:∀n:Nat,zai (n:Int)=[.bool false,.sl (zal (lim n)) .none,.sl (zal [1]) .none]:=λn=>by simp only[zai,d0,Int.natAbs_natCast]
 simp[zF9,e1,aa];simp only[←e1];refine zaD (.agg (zai (a:Int))) (λJ=>zgK a (by simpa using by omega) _ _ ⟨rfl,rfl⟩) ?_;refine zaD (.agg (zai (b:Int))) (λJ=>zgK b (by simpa using by omega) _ _ ⟨rfl,rfl⟩) ?_;refine zaD (.agg (zai ((a+b:Nat):Int))) (λJ=>zJU a b ha hb _ _ ⟨rfl,rfl⟩) ?_;refine zaD (.agg (zai ((a+b:Nat):Int))) (λJ=>by
  rw[e1 (a+b)];exact zlg false (a+b) (by omega) (z:=((a+b:Nat):Int)) (by simp) _ _ ⟨by rw[e1],rfl⟩) ?_
 rw[e1 (a+b)];simp[aa];have:=zcH (H:=H) (K:=K) (z:=((a+b:Nat):Int)) (J:=[.cells (zai (a:Int)),.cells (zai (b:Int)),.cells (zai ((a+b:Nat):Int))]) hs hK;rw[e1 (a+b)]at this;simpa using this
theorem zKD(a:Nat)(H:zaa)(K:Kt)(hK:K (.int .i64 (if a=0 then 0 else 1)) H):ACalls tP zrg [.agg (zai (a:Int))] H K:=by
 refine ACalls.out (zOu λhs=>?_);have d0:∀n:Nat,decide ((n:Int)<0)=false:=λn=>by simp
 have hO:∀z J,z=(if a=0 then (0:Int) else 1)→Out H.length K (.int .i64 z) (H++J):=λz J h=>Out.int rfl (ac _) hs (by rw[h];exact hK);by_cases h:a=0
 ·subst h;simp[ztD,zai];exact hO 0 _ (by simp)
 ·have hp:0<(lim a).length:=by rw[zcq h];simp
  have hb:(((lim a).length:Int) == 0)=false:=by generalize (lim a).length=q at hp;simp;omega
  simp[ztD,zai,d0,hb];exact hO 1 _ (by simp[h])

inductive VT where
 |mk (kind num:Int) (kids:List VT)

mutual
def VT.cs:VT→List AV
 |.mk k n ks=>[.int .i64 k,.int .i64 n,.sl (VT.css ks) .none]
def VT.css:List VT→List (List AV)
 |[]=>[]
 |v::vs=>VT.cs v::VT.css vs
end
mutual
def VT.nodes:VT→Nat
 |.mk _ _ ks=>VT.nodesL ks+1
def VT.nodesL:List VT→Nat
 |[]=>0
 |v::vs=>VT.nodes v+VT.nodesL vs
end
theorem VT.css_map:∀ ks:List VT,VT.css ks=ks.map VT.cs
 |[]=>rfl
 |v::vs=>by simp[VT.css,VT.css_map vs]
theorem VT.nodes_pos:∀ v:VT,0<v.nodes
 |.mk _ _ _=>by simp[VT.nodes]
theorem VT.nodesL_app:∀ (a b:List VT),VT.nodesL (a++b)=VT.nodesL a+VT.nodesL b
 |[],b=>by simp[VT.nodesL]
 |v::a,b=>by simp[VT.nodesL,VT.nodesL_app a b];omega
@[simp] theorem VT.cs_len(v:VT):v.cs.length=3:=by cases v;simp[VT.cs]
@[simp] theorem VT.css_len(ks:List VT):(VT.css ks).length=ks.length:=by simp[VT.css_map]
@[simp] theorem VT.cs_take(v:VT):v.cs.take 3=v.cs:=by cases v;simp[VT.cs]
@[simp] theorem VT.cs_known(v:VT):v.cs.all AV.known=true:=by cases v;simp[VT.cs,AV.known]
@[simp] theorem VT.cs_scA(v:VT)(n:Nat):v.cs.all (AV.scA n)=true:=by cases v;simp[VT.cs,AV.scA,AV.scB]
@[simp] theorem VT.css_at{ks:List VT}{i:Nat}(h:i<ks.length):(VT.css ks)[i]?.getD []=(ks[i]).cs:=by simp[VT.css_map,h]
@[simp] theorem VT.css_get{ks:List VT}{i:Nat}(h:i<(VT.css ks).length):(VT.css ks)[i]=(ks[i]'(by simpa using h)).cs:=by simp[VT.css_map]
theorem VT.css_getD{ks:List VT}{i:Nat}(h:i<ks.length):(VT.css ks).getD i []=(ks[i]).cs:=by simp[VT.css_map,List.getD_eq_getElem?_getD,h]
theorem VT.kid_lt{k n:Int}{ks:List VT}{i:Nat}(h:i<ks.length):(ks[i]).nodes<(VT.mk k n ks).nodes:=by
 have h1:VT.nodesL ks=VT.nodesL (ks.take i)+((ks[i]).nodes+VT.nodesL (ks.drop (i+1))):=by
  conv=>lhs;rw[←aJ i ks,VT.nodesL_app,ag h]
  rw[VT.nodesL]
 simp only[VT.nodes];omega
theorem VT.len_le:∀ ks:List VT,ks.length≤VT.nodesL ks
 |[]=>by simp
 |v::vs=>by have:=VT.len_le vs;have:=v.nodes_pos;simp[VT.nodesL];omega
theorem VT.nodesL_take{ks:List VT}{i:Nat}(h:i<ks.length):VT.nodesL (ks.take (i+1))=VT.nodesL (ks.take i)+(ks[i]).nodes:=by rw[ae h,VT.nodesL_app];simp[VT.nodesL]
theorem VT.nodesL_take_le(ks:List VT)(i:Nat):VT.nodesL (ks.take i)≤VT.nodesL ks:=by
 conv=>rhs;rw[←aJ i ks,VT.nodesL_app]
 omega
def VT.leaf(k:Int):Bool:=k == 6 || k == 7 || k == 8
mutual
def VT.size:VT→Nat
 |.mk k _ ks=>if VT.leaf k=true then 1 else VT.sizeL ks+1
def VT.sizeL:List VT→Nat
 |[]=>0
 |v::vs=>VT.size v+VT.sizeL vs
end
mutual
theorem VT.size_le:∀ v:VT,v.size≤v.nodes
 |.mk k n ks=>by have:=VT.sizeL_le ks;simp only[VT.size,VT.nodes];split <;> omega
theorem VT.sizeL_le:∀ ks:List VT,VT.sizeL ks≤VT.nodesL ks
 |[]=>by simp[VT.sizeL,VT.nodesL]
 |v::vs=>by have:=VT.size_le v;have:=VT.sizeL_le vs;simp only[VT.sizeL,VT.nodesL];omega
end
/- The guard on a value's nodes: what is left of a number behind it, and whether it was enough. -/
mutual
def VT.val:VT→Int→Bool × Int
 |.mk _ _ ks,n=>if n-1<0 then (false,n-1) else VT.valL ks (n-1)
def VT.valL:List VT→Int→Bool × Int
 |[],n=>(true,n)
 | v::vs,n=>match VT.val v n with
  |(true,m)=>VT.valL vs m
  |(false,m)=>(false,m)
end
mutual
theorem VT.val_spec:∀ (v:VT) (n:Int),0≤n→((VT.val v n).1=true→(VT.val v n).2=n-v.nodes∧0≤(VT.val v n).2)∧-1≤(VT.val v n).2∧(VT.val v n).2≤n
 |.mk k m ks,n,h=>by
  simp only[VT.val,VT.nodes];split
  ·simp;omega
  ·have:=VT.valL_spec ks (n-1) (by omega);refine⟨λht=>?_,by omega,by omega⟩;have:=this.1 ht;omega
theorem VT.valL_spec:∀ (ks:List VT) (n:Int),0≤n→((VT.valL ks n).1=true→(VT.valL ks n).2=n-VT.nodesL ks∧0≤(VT.valL ks n).2)∧-1≤(VT.valL ks n).2∧(VT.valL ks n).2≤n
 |[],n,h=>by simp[VT.valL,VT.nodesL];omega
 |v::vs,n,h=>by
  have h1:=VT.val_spec v n h;simp only[VT.valL,VT.nodesL];split
  ·rename_i m hm;rw[hm]at h1;have h2:=h1.1 rfl;simp only at h2;have h3:=VT.valL_spec vs m h2.2;refine⟨λht=>?_,by omega,by omega⟩;have:=h3.1 ht;omega
  ·rename_i m hm;rw[hm]at h1;simp only at h1;exact⟨by simp,by omega,by omega⟩
end
theorem VT.valL_drop{ks:List VT}{i:Nat}(h:i<ks.length)(n:Int):VT.valL (ks.drop i) n=match VT.val ks[i] n with
  |(true,m)=>VT.valL (ks.drop (i+1)) m
  |(false,m)=>(false,m):=by rw[ag h,VT.valL]
def icmp(a b:Int):Int:=if a<b then -1 else if b<a then 1 else 0
def cor(a b:Int):Int:=if a=0 then b else a
theorem zhU(a b:Int):icmp a b=- icmp b a:=by unfold icmp;split <;> split <;> first|omega|(split <;> omega)
theorem zjS(a b:Int):icmp a b=0↔a=b:=by unfold icmp;split <;> first|omega|(split <;> omega)
theorem zhV(a b:Int):icmp a b=-1∨icmp a b=0∨icmp a b=1:=by unfold icmp;split <;> first|omega|(split <;> omega)
theorem zyZ(a:Int):icmp a a=0:=(zjS a a).mpr rfl
theorem zyY{a b:Int}(h:a≠b):icmp a b=if a<b then -1 else 1:=by unfold icmp;split <;> first|omega|(split <;> omega)
theorem zfI{a a' b b':Int}(h:a=- b)(h':a'=- b'):cor a a'=- cor b b':=by unfold cor;split <;> split <;> omega
theorem zhI(a b:Int):cor a b=0↔a=0∧b=0:=by unfold cor;split <;> omega
theorem zfJ{a b:Int}(h:a=-1∨a=0∨a=1)(h':b=-1∨b=0∨b=1):cor a b=-1∨cor a b=0∨cor a b=1:=by unfold cor;split <;> omega
theorem zjN{a b:Int}(h:a≠0):cor a b=a:=by simp[cor,h]
theorem zqq{a b:Int}(h:a=0):cor a b=b:=by simp[cor,h]
def Tri(a b c:Int):Prop:=a≤0→b≤0→c≤0∧(c=0→a=0∧b=0)
theorem Tri.icmp(x y z:Int):Tri (icmp x y) (icmp y z) (icmp x z):=by unfold Tri Go.Proofs.YtdmamdnkcefmmaaGreatDoor.icmp;intro h1 h2;split at h1 <;> split at h2 <;> (try split at h1) <;> (try split at h2) <;> split <;> (try split) <;> omega
theorem Tri.cor{a b c a' b' c':Int}(h:Tri a b c)(h':Tri a' b' c'):Tri (cor a a') (cor b b') (cor c c'):=by unfold Tri Go.Proofs.YtdmamdnkcefmmaaGreatDoor.cor at *;intro h1 h2;by_cases ha:a=0 <;> by_cases hb:b=0 <;> by_cases hc:c=0 <;> simp only[ha,hb,hc,a6,aN]at*<;> first|omega|(simp_all;done)|(have:=h' h1 h2;simp_all;omega)
mutual
def VT.cmp:VT→VT→Int
 |.mk k n ks,.mk k' n' ks'=>cor (icmp k k') (cor (icmp n n') (cor (icmp ks.length ks'.length) (VT.cmpL ks ks')))
def VT.cmpL:List VT→List VT→Int
 |v::vs,w::ws=>cor (VT.cmp v w) (VT.cmpL vs ws)
 |[],[]=>0
 |[],_::_=>-1
 |_::_,[]=>1
end
mutual
def VT.same:VT→VT→Bool
 |.mk k n ks,.mk k' n' ks'=>k == k' && n == n' && VT.sameL ks ks'
def VT.sameL:List VT→List VT→Bool
 |v::vs,w::ws=>VT.same v w && VT.sameL vs ws
 |[],[]=>true
 |[],_::_=>false
 |_::_,[]=>false
end
mutual
theorem VT.cmp_anti:∀ v w:VT,VT.cmp v w=- VT.cmp w v
 |.mk k n ks,.mk k' n' ks'=>by simp only[VT.cmp];exact zfI (zhU _ _) (zfI (zhU _ _) (zfI (zhU _ _) (VT.cmpL_anti ks ks')))
theorem VT.cmpL_anti:∀ v w:List VT,VT.cmpL v w=- VT.cmpL w v
 |v::vs,w::ws=>by simp only[VT.cmpL];exact zfI (VT.cmp_anti v w) (VT.cmpL_anti vs ws)
 |[],[]=>by simp[VT.cmpL]
 |[],_::_=>by simp[VT.cmpL]
 |_::_,[]=>by simp[VT.cmpL]
end
mutual
theorem VT.cmp_rng:∀ v w:VT,VT.cmp v w=-1∨VT.cmp v w=0∨VT.cmp v w=1
 |.mk k n ks,.mk k' n' ks'=>by simp only[VT.cmp];exact zfJ (zhV _ _) (zfJ (zhV _ _) (zfJ (zhV _ _) (VT.cmpL_rng ks ks')))
theorem VT.cmpL_rng:∀ v w:List VT,VT.cmpL v w=-1∨VT.cmpL v w=0∨VT.cmpL v w=1
 |v::vs,w::ws=>by simp only[VT.cmpL];exact zfJ (VT.cmp_rng v w) (VT.cmpL_rng vs ws)
 |[],[]=>by simp[VT.cmpL]
 |[],_::_=>by simp[VT.cmpL]
 |_::_,[]=>by simp[VT.cmpL]
end
theorem VT.sameL_len:∀ v w:List VT,VT.sameL v w=true→v.length=w.length
 |v::vs,w::ws=>by simp only[VT.sameL,aj,List.length_cons];intro h;have:=VT.sameL_len vs ws h.2;omega
 |[],[]=>by simp
 |[],_::_=>by simp[VT.sameL]
 |_::_,[]=>by simp[VT.sameL]
mutual
theorem VT.cmp_zero:∀ v w:VT,VT.cmp v w=0↔VT.same v w=true
 |.mk k n ks,.mk k' n' ks'=>by
  have h:=VT.cmpL_zero ks ks';simp only[VT.cmp,VT.same,zhI,zjS,aj,ba,and_assoc,h];constructor
  ·rintro⟨a,b,_,c⟩;exact⟨a,b,c⟩
  ·rintro⟨a,b,c⟩;exact⟨a,b,by have:=VT.sameL_len _ _ c;omega,c⟩
theorem VT.cmpL_zero:∀ v w:List VT,VT.cmpL v w=0↔VT.sameL v w=true
 |v::vs,w::ws=>by simp only[VT.cmpL,VT.sameL,zhI,aj,VT.cmp_zero v w,VT.cmpL_zero vs ws]
 |[],[]=>by simp[VT.cmpL,VT.sameL]
 |[],_::_=>by simp[VT.cmpL,VT.sameL]
 |_::_,[]=>by simp[VT.cmpL,VT.sameL]
end
mutual
theorem VT.cmp_tri:∀ v w x:VT,Tri (VT.cmp v w) (VT.cmp w x) (VT.cmp v x)
 |.mk k n ks,.mk k' n' ks',.mk k'' n'' ks''=>by simp only[VT.cmp];exact(Tri.icmp _ _ _).cor ((Tri.icmp _ _ _).cor ((Tri.icmp _ _ _).cor (VT.cmpL_tri ks ks' ks'')))
theorem VT.cmpL_tri:∀ v w x:List VT,Tri (VT.cmpL v w) (VT.cmpL w x) (VT.cmpL v x)
 |v::vs,w::ws,x::xs=>by simp only[VT.cmpL];exact(VT.cmp_tri v w x).cor (VT.cmpL_tri vs ws xs)
 |[],[],[]=>by simp[VT.cmpL,Tri]
 |[],[],_::_=>by simp[VT.cmpL,Tri]
 |[],_::_,[]=>by simp[VT.cmpL,Tri]
 |[],_::_,_::_=>by simp[VT.cmpL,Tri]
 |_::_,[],[]=>by simp[VT.cmpL,Tri]
 |_::_,[],_::_=>by simp[VT.cmpL,Tri]
 |_::_,_::_,[]=>by simp[VT.cmpL,Tri]
end
theorem VT.cmpL_drop{a b:List VT}{i:Nat}(ha:i<a.length)(hb:i<b.length):VT.cmpL (a.drop i) (b.drop i)=cor (VT.cmp a[i] b[i]) (VT.cmpL (a.drop (i+1)) (b.drop (i+1))):=by rw[ag ha,ag hb,VT.cmpL]
theorem VT.sameL_drop{a b:List VT}{i:Nat}(ha:i<a.length)(hb:i<b.length):VT.sameL (a.drop i) (b.drop i)=(VT.same a[i] b[i] && VT.sameL (a.drop (i+1)) (b.drop (i+1))):=by rw[ag ha,ag hb,VT.sameL]
end Go.Proofs.YtdmamdnkcefmmaaGreatDoor
