import Derived.Test.YtdmamdnkcefmmaaGreatDoorKZ5
import Derived.Test.YtdmamdnkcefmmaaGreatDoorKMF
import Derived.Test.YtdmamdnkcefmmaaGreatDoorKGQ1
import Derived.Test.YtdmamdnkcefmmaaGreatDoorKOD
import Derived.Test.YtdmamdnkcefmmaaGreatDoorAbsQ1
import Derived.Test.YtdmamdnkcefmmaaGreatDoorKI7
import Derived.Test.YtdmamdnkcefmmaaGreatDoorKUA
import Derived.Test.YtdmamdnkcefmmaaGreatDoorKNum
import Derived.Test.YtdmamdnkcefmmaaGreatDoorProg
import Derived.KernelRfl
set_option linter.unusedSimpArgs false
set_option linter.unusedVariables false
set_option maxRecDepth 8000
namespace Go.Proofs.YtdmamdnkcefmmaaGreatDoor
open Go Go.Abs
def zby (neg:Bool) (n d:Nat):List AV:=[.bool neg,.sl (zam (lim n)) .none,.sl (zam (lim d)) .none]
@[simp] theorem zV9 (b:Bool) (n d:Nat):(zby b n d).length=3:=rfl
@[simp] theorem zV8 (b:Bool) (n d:Nat):(∀ x∈zby b n d,x.known=true)=True:=by simp[zby,AV.known]
@[simp] theorem zWa (b:Bool) (n d:Nat):List.take 3 (zby b n d)=zby b n d:=rfl
theorem zfZ {H J:zaa} {K:Kt} {b:Bool} {n d:Nat} (hs:HSc H) (hK:K (.agg (zby b n d)) H):Out H.length K (.agg (zby b n d)) (H++J):=Out.one hs .rfl' rfl rfl hK
theorem zii {n:Nat}:lim n=[1]↔n=1:=by
 constructor
 ·intro h
  have:=zbC n
  rw[h]at this
  simp[zap]at this
  omega
 ·rintro rfl;exact zdK
theorem zDF (neg:Bool) (n d:Nat) (hn0:n≠0) (hd0:d≠0) (hn:n<1000000000000000000) (hd:d<1000000000000000000) (hg:Nat.gcd n d<1000000000) (H:zaa) (K:Kt) (hK:K (.agg (zby neg (n / Nat.gcd n d) (d / Nat.gcd n d))) H) :
  ACalls tP ziv [.agg (zby neg n d)] H K:=by
 refine ACalls.out (zys fun hs=>?_)
 have ln:(lim n).length≤2:=zbK (by omega)
 have ld:(lim d).length≤2:=zbK (by omega)
 have hp:0<(lim n).length:=by rw[zb3 hn0];simp
 have hb:(((lim n).length:Int) == 0)=false:=by
  generalize (lim n).length=q at hp
  simp;omega
 have hg0:0<Nat.gcd n d:=Nat.gcd_pos_of_pos_left d (by omega)
 have lg:(lim (Nat.gcd n d)).length≤2:=zbK (by omega)
 simp[zkL,zby,hb,Nat.add_assoc]
 refine znL (lim d) (by omega) _ _ ?_
 by_cases hd1:d=1
 ·subst hd1
  rw[Nat.gcd_one_right,Nat.div_one,Nat.div_one]at hK
  simp[zii,Nat.add_assoc]
  exact zfZ hs hK
 ·simp[zii,hd1,Nat.add_assoc]
  refine zDd n d hn hd _ _ ?_
  refine znL _ (by omega) _ _ ?_
  by_cases hg1:Nat.gcd n d=1
  ·rw[hg1,Nat.div_one,Nat.div_one]at hK
   simp[zii,hg1,Nat.add_assoc]
   exact zfZ hs hK
  ·simp[zii,hg1,Nat.add_assoc]
   refine zut n _ (by omega) hg0 hg _ _ ?_
   simp[Nat.add_assoc]
   refine zut d _ (by omega) hg0 hg _ _ ?_
   simp[zas,zaH,zcK,AV.known,Nat.add_assoc]
   exact zfZ hs hK
theorem zwC (neg:Bool) (n d:Nat) (hn0:n≠0) (hd0:d≠0) (hn:n<1000000000000000000) (hd:d<1000000000000000000) (hg:Nat.gcd n d<1000000000) (H:zaa) (K:Kt) (hK:K (.agg (zby neg (n / Nat.gcd n d) (d / Nat.gcd n d))) H) :
  ACalls tP zeA [.agg (zby neg n d)] H K:=by
 refine ACalls.out (zxQ fun hs=>?_)
 simp[zp2,zby,Nat.add_assoc]
 refine zDF neg n d hn0 hd0 hn hd hg _ _ ?_
 simp[zby,zas,zaH,zcK,AV.known,Nat.add_assoc]
 exact zfZ hs hK
theorem zNt (a b:Nat) (ha0:a≠0) (hb0:b≠0) (ha:a<1000000000) (hb:b<1000000000) (H:zaa) (K:Kt) (hK:K (.agg (zby false (a / Nat.gcd a b) (b / Nat.gcd a b))) H) :
  ACalls tP zoq [.int .i64 a,.int .i64 b] H K:=by
 refine ACalls.out (zNs fun hs=>?_)
 have h0:decide ((a:Int)<0)=false:=by simp
 have h1:decide ((b:Int)<0)=false:=by simp
 have h2:((b:Int) == 0)=false:=by simp;omega
 have hg:Nat.gcd a b<1000000000:=Nat.lt_of_le_of_lt (Nat.gcd_le_right a (by omega)) hb
 simp[zzR,h2,h0,h1,Nat.add_assoc]
 refine znR a (by omega) _ _ ?_
 refine znR b (by omega) _ _ ?_
 simp[zas,zaH,zcK,AV.known,Nat.add_assoc]
 refine zwC false a b ha0 hb0 (by omega) (by omega) hg _ _ ?_
 simp[Nat.add_assoc]
 exact zfZ hs hK
theorem zu4 (neg:Bool) (n d:Nat) (hn0:n≠0) (hd0:d≠0) (hn:(lim n).length≤1000) (hd:(lim d).length≤1000) (H:zaa) (K:Kt) (hK:K (.agg (zby neg n d)) H):ACalls tP zd7 [.agg (zby neg n d)] H K:=by
 refine ACalls.out (zxR fun hs=>?_)
 have hz:∀ m:Nat,m≠0→(((lim m).length:Int) == 0)=false:=fun m hm=>by
  have hp:0<(lim m).length:=by rw[zb3 hm];simp
  generalize (lim m).length=q at hp
  simp;omega
 simp[zp3,zby,Nat.add_assoc]
 refine zaE (.sl (zam (lim n)) .none) (fun J=>zi7 _ (zgQ _) (by omega) _ _ (by rw[zbC];exact⟨rfl,rfl⟩)) ?_
 refine zaE (.sl (zam (lim d)) .none) (fun J=>zi7 _ (zgQ _) (by omega) _ _ (by rw[zbC];exact⟨rfl,rfl⟩)) ?_
 simp[hz n hn0,hz d hd0,zas,zaH,zcK,AV.known,Nat.add_assoc]
 exact zfZ hs hK
theorem zv3 (n:Nat):zby false n 1=zak (n:Int):=by
 unfold zby zak
 rw[zdK,Int.natAbs_natCast,decide_eq_false (by omega)]
theorem zDP (a:Nat) (ha:a<1000000000 ^ 30) (H:zaa) (K:Kt) (hK:K (.sl (zam (lim a)) .none) H):ACalls tP zdt [.sl (zam [1]) .none,.sl (zam (lim a)) .none] H K:=by
 have:=zgV 1 a zi8 ha H K (by rw[Nat.one_mul];exact hK)
 rwa [zdK]at this
theorem zBK (c p q r:Nat) (hp0:p≠0) (hq0:q≠0) (hc0:c≠0) (hp:p<1000000000) (hq:q<1000000000) (hcp:c*p<1000000000000000000) (hr:c*p=r*q) (H:zaa) (K:Kt) (hK:K (.agg (zak (r:Int))) H) :
  ACalls tP zfb [.agg (zak (c:Int)),.agg (zby false p q)] H K:=by
 refine ACalls.out (zAT fun hs=>?_)
 have hc:c<1000000000000000000:=Nat.lt_of_le_of_lt (Nat.le_mul_of_pos_right c (by omega)) hcp
 have lc:=zbK (n:=c) (k:=2) (by omega)
 have lp:=zbK (n:=p) (k:=1) (by omega)
 have lq:=zbK (n:=q) (k:=1) (by omega)
 have b30:(1000000000000000000:Nat)≤1000000000 ^ 30:=by decide
 have hg:Nat.gcd (c*p) q=q:=by rw[hr];exact Nat.gcd_eq_right (Nat.dvd_mul_left q r)
 have hcp0:c*p≠0:=Nat.mul_ne_zero hc0 hp0
 rw[←zv3 c]
 simp[zsB,zby,Nat.add_assoc]
 refine zaE (.agg (zby false c 1)) (fun J=>zu4 false c 1 hc0 (by omega) (by omega) (by rw[zdK];simp) _ _ ⟨rfl,rfl⟩) ?_
 refine zaE (.agg (zby false p q)) (fun J=>zu4 false p q hp0 hq0 (by omega) (by omega) _ _ ⟨rfl,rfl⟩) ?_
 simp[zby,AV.known,Nat.add_assoc]
 refine zaE (.sl (zam (lim (c*p))) .none) (fun J=>zgV _ _ (by omega) (by omega) _ _ ⟨rfl,rfl⟩) ?_
 rw[zdK]
 refine zaE (.sl (zam (lim q)) .none) (fun J=>zDP _ (by omega) _ _ ⟨rfl,rfl⟩) ?_
 simp[zas,zaH,zcK,AV.known,Nat.add_assoc]
 refine zaE (.agg (zak (r:Int))) (fun J=>zwC false (c*p) q hcp0 hq0 hcp (by omega) (by rw[hg];exact hq) _ _ (by
  rw[hg,Nat.div_self (by omega),hr,Nat.mul_div_cancel _ (by omega),zv3];exact⟨rfl,rfl⟩)) ?_
 simp[Nat.add_assoc]
 exact zdf hs hK
theorem zuc:∀ {n k:Nat},k≤n→0<chs n k
 | n,0,_=>by simp
 | n+1,k+1,h=>by
  have:=zuc (n:=n) (k:=k) (by omega)
  rw[chs];omega
theorem zuz (n k:Nat) (hn:n≤900) (hk:k≤6) (H:zaa) (K:Kt) (hK:K (.agg (zak (chs n k))) H):ACalls tP ziA [.int .i64 n,.int .i64 k] H K:=by
 refine ACalls.out (zLN fun hs=>?_)
 simp[zzn,Nat.add_assoc]
 refine zel 1 (by omega) _ _ ?_
 simp[Nat.add_assoc]
 have hsc:∀ z:Int,HSc (H++[.cells [.bool false,.snil,.snil],.cells (zak z)]):=fun z=>hs.append (by simp[AB.sc,zak,AV.scA,AV.scB])
 refine zLL (Inv:=fun q t9 H'=>∃ i:Nat,i≤k∧i≤n∧k-i=q∧t9=.int .i64 i∧H'=H++[.cells [.bool false,.snil,.snil],.cells (zak ((chs n i:Nat):Int))]) k ?_ ?_
 ·intro _;exact⟨0,by omega,by omega,rfl,rfl,by simp⟩
 ·rintro q t9 H' ⟨i,hi,hin,rfl,rfl,rfl⟩ hsc' hlen hsF Kb hKb
  by_cases hlt:i<k
  ·by_cases hni:n=i
   ·subst hni
    rw[zgy hlt]at hK
    simp[zlh,hlt,Nat.add_assoc]
    refine zel 0 (by omega) _ _ ?_
    simp[Nat.add_assoc]
    exact zdf hs hK
   ·have hb:((n:Int) == (i:Int))=false:=by simp;omega
    have hci:chs n i≤900 ^ 5:=by
     refine Nat.le_trans (zic n i) (Nat.le_trans (Nat.pow_le_pow_left hn i) (Nat.pow_le_pow_right (by omega) (by omega)))
    have w1:IntKind.i64.wrap ((n:Int)-i)=((n-i:Nat):Int):=by rw[zat (by omega) (by omega)];omega
    obtain⟨d,hd⟩:∃ d,d=n-i:=⟨_,rfl⟩
    rw[←hd]at w1
    obtain⟨j,hj⟩:∃ j,j=i+1:=⟨_,rfl⟩
    have w2:IntKind.i64.wrap ((i:Int)+1)=(j:Int):=by rw[wi i (by omega),hj]
    have hg0:0<Nat.gcd d j:=Nat.gcd_pos_of_pos_left j (by omega)
    have hp:=Nat.div_mul_cancel (Nat.gcd_dvd_left d j)
    have hq:=Nat.div_mul_cancel (Nat.gcd_dvd_right d j)
    have hstep:=zid n i
    rw[←hd,←hj]at hstep
    have hpd:=Nat.div_le_self d (Nat.gcd d j)
    have hqj:=Nat.div_le_self j (Nat.gcd d j)
    have hp0:d / Nat.gcd d j≠0:=fun h=>by rw[h]at hp;omega
    have hq0:j / Nat.gcd d j≠0:=fun h=>by rw[h]at hq;omega
    have hr:chs n i*(d / Nat.gcd d j)=chs n j*(j / Nat.gcd d j):=by
     refine Nat.eq_of_mul_eq_mul_right hg0 ?_
     rw[Nat.mul_assoc,hp,Nat.mul_assoc,hq,←hstep,Nat.mul_comm]
    have hcb:chs n i*(d / Nat.gcd d j)<1000000000000000000:=Nat.lt_of_le_of_lt (Nat.mul_le_mul hci (Nat.le_trans hpd (show d≤900 by omega))) (by decide)
    simp[zlh,hlt,hb,w1,w2,Nat.add_assoc]
    refine zaE (.agg (zby false (d / Nat.gcd d j) (j / Nat.gcd d j))) (fun J=>zNt d j (by omega) (by omega) (by omega) (by omega) _ _ ⟨rfl,rfl⟩) ?_
    refine zaE (.agg (zak ((chs n j:Nat):Int))) (fun J=>zBK _ _ _ _ hp0 hq0 (by have:=zuc hin;omega) (by omega) (by omega) hcb hr _ _ ⟨rfl,rfl⟩) ?_
    simp[Nat.add_assoc]
    exact hKb _ _ ⟨k-(i+1),by omega,Back.here (by simp) (hsc _) (by simp[zli,ux,AV.sc,AV.scA,AV.scB,AV.scV]) ⟨_,rfl,j,by omega,by omega,by omega,rfl,rfl⟩⟩
  ·obtain rfl:i=k:=by omega
   simp[zlh,Nat.add_assoc]
   exact zdf hs hK
theorem zvN {H:zaa} {K:Kt} (R:List Nat) (hs:HSc H) (hK:K (.sl (zam R) .none) H):Out H.length K (.ov H.length R.length) (H++[.vec zbd 1 R.length (us R)]):=
 ⟨.sl (zam R) .none,H,[.vec zbd 1 R.length (us R)],rfl,Nat.le_refl _,hs,.one (.vfz H.length zbd 1 R.length (us R) (zam R) (Nat.le_refl _) (by simp) (by rw[zjI,zhy]) (by simp) (zdQ R)),hK⟩
theorem ztI (A B:List Nat) (lA:∀ x∈A,x<1000000000) (lB:∀ x∈B,x<1000000000) (ha:A.length≤1000) (hb:B.length≤A.length) (cA:lim (zap A)=A) (H:zaa) (K:Kt) (hs:HSc H)
  (hK:K (.sl (zam (lim (zap A+zap B))) .none) H):zk8 (.sl (zam A) .none) (.sl (zam B) .none) H (Out H.length K):=by
 have hsc:∀ R:List Nat,HSc (H++[.vec zbd 1 R.length (us R)]):=fun A=>hs.append (by simp[AB.sc,us,AV.scA,AV.scB])
 simp[zk8,wi A.length (by omega)]
 refine⟨⟨by omega,by omega,by omega⟩,?_⟩
 refine zLs (Inv:=fun q t5 t6 t22 H'=>∃ (i c:Nat) (R:List Nat),i≤A.length∧A.length-i=q∧t22=.int .i64 i∧t6=.int .u32 c∧t5=.ov H.length R.length∧R.length=i∧(∀ x∈R,x<1000000000)∧c≤1 ∧
  zap R+1000000000 ^ i*c=zap (A.take i)+zap (B.take i)∧H'=H++[.vec zbd 1 R.length (us R)]) A.length ?_ ?_
 ·intro _;exact⟨0,0,[],by omega,rfl,rfl,rfl,rfl,rfl,by simp,by omega,by simp[zap],rfl⟩
 ·rintro q t5 t6 t22 H' ⟨i,c,R,hi,rfl,rfl,rfl,rfl,hRl,hR,hc,hv,rfl⟩ hsc' hlen hsF Kb hKb
  by_cases hlt:i<A.length
  ·have hbit : ∀ (s : Nat), s ≤ 2 * 999999999 + 1 → s = c + A[i] + (if h : i < B.length then B[i] else 0) →
     zk9 (.sl (zam A) .none) (.sl (zam B) .none) (.ov H.length R.length) (.int .u32 s) (.int .i64 A.length) (.int .i64 i) (H++[.vec zbd 1 R.length (us R)]) (Out H.length K) Kb:=by
    intro s hs1 hs2
    obtain⟨x,c',hx1,hx2,e1,e2⟩:=zC2 s (by omega)
    simp only[zk9]
    simp[e1,e2,zau,zaR,plain,AV.pd,zaw,zaK,zaG,wi i (by omega)]
    refine⟨⟨by omega,by omega⟩,?_⟩
    have e3:us R++[AV.int .u32 (x:Int)]=us (R++[x]):=by simp[us]
    rw[e3]
    refine hKb _ _ ⟨A.length-(i+1),by omega,Back.here (by simp) (by simpa using hsc (R++[x])) (by simp[zk7,ux,AV.sc,AV.scA,AV.scB,AV.scV]) ⟨_,_,_,rfl,i+1,c',R++[x],by omega,rfl,rfl,rfl,by simp,by simp[hRl],?_,by omega,?_,by simp⟩⟩
    ·intro y hy
     rcases List.mem_append.1 hy with hy | hy
     ·exact hR y hy
     ·simp at hy;omega
    ·have tk:zap (B.take (i+1))=zap (B.take i)+(if h:i<B.length then B[i] else 0)*1000000000 ^ i:=by
      by_cases h:i<B.length
      ·rw[dif_pos h,zfP B i h]
      ·rw[dif_neg h,List.take_of_length_le (by omega),List.take_of_length_le (by omega)];simp
     rw[ze3,tk,zfP A i hlt,hRl,Nat.pow_succ]
     generalize (if h:i<B.length then B[i] else 0)=v at *
     grind
   have hxa:=lA A[i] (List.getElem_mem hlt)
   obtain⟨s1,hs1⟩:∃ s,s=A[i]+c:=⟨_,rfl⟩
   have w1:IntKind.u32.wrap (((A[i]:Nat):Int)+(c:Int))=(s1:Int):=by rw[hs1,←Int.natCast_add];exact zdR (by omega)
   by_cases hB:i<B.length
   ·have hxb:=lB B[i] (List.getElem_mem hB)
    obtain⟨s2,hs2⟩:∃ s,s=s1+B[i]:=⟨_,rfl⟩
    have w2:IntKind.u32.wrap ((s1:Int)+(B[i]:Nat))=(s2:Int):=by rw[hs2,←Int.natCast_add];exact zdR (by omega)
    simp[zhJ,hlt,hB,w1,w2]
    exact hbit s2 (by omega) (by simp[hB];omega)
   ·simp[zhJ,hlt,hB,w1]
    exact hbit s1 (by omega) (by simp[hB];omega)
  ·obtain rfl:i=A.length:=by omega
   rw[List.take_length,List.take_of_length_le hb]at hv
   by_cases h0:c=0
   ·subst h0
    simp[zhJ,zla]
    have hv':zap R=zap A+zap B:=by simpa using hv
    rw[←hv']at hK
    have hcan:R=lim (zap R):=by
     refine zt8 hR ?_
     by_cases hA0:A.length=0
     ·omega
     ·have h3:=zu2 (n:=zap A) (by intro h;have hl0:=congrArg List.length cA;rw[h]at hl0;simp at hl0;omega)
      rw[cA]at h3
      have:=zu1 (n:=zap R) (k:=A.length-1) (by omega)
      omega
    rw[←hcan]at hK
    exact zvN R hs hK
   ·obtain rfl:c=1:=by omega
    simp[zhJ,zla,zau,zaR,plain,AV.pd,zaw,zaK,zaG]
    refine⟨⟨by omega,by omega⟩,?_⟩
    have e3:us R++[AV.int .u32 1]=us (R++[1]):=by simp[us]
    rw[e3]
    have hv':zap (R++[1])=zap A+zap B:=by rw[ze3,hRl];omega
    rw[←hv']at hK
    have hcan:R++[1]=lim (zap (R++[1])):=by
     refine zt8 (fun y hy=>?_) ?_
     ·rcases List.mem_append.1 hy with hy | hy
      ·exact hR y hy
      ·simp at hy;omega
     ·have:=zu1 (n:=zap (R++[1])) (k:=A.length) (by rw[ze3,hRl];omega)
      simp;omega
    rw[←hcan]at hK
    have:=zvN (R++[1]) hs hK
    simpa using this
theorem zLw (a b:Nat) (ha:(lim a).length≤1000) (hb:(lim b).length≤1000) (H:zaa) (K:Kt) (hK:K (.sl (zam (lim (a+b))) .none) H) :
  ACalls tP zoj [.sl (zam (lim a)) .none,.sl (zam (lim b)) .none] H K:=by
 refine ACalls.out (zLu fun hs=>?_)
 by_cases h:(lim a).length<(lim b).length
 ·have h':((lim a).length:Int)<((lim b).length:Int):=by omega
  simp[zrc,h]
  refine ztI (lim b) (lim a) (zcb b) (zcb a) hb (by omega) (by rw[zbC]) _ _ hs ?_
  rw[zbC,zbC,Nat.add_comm];exact hK
 ·have h':¬ ((lim a).length:Int)<((lim b).length:Int):=by omega
  simp[zrc,h]
  refine ztI (lim a) (lim b) (zcb a) (zcb b) ha (by omega) (by rw[zbC]) _ _ hs ?_
  rw[zbC,zbC];exact hK
theorem zvg (a:Nat) (ha:a<1000000000 ^ 30) (H:zaa) (K:Kt) (hK:K (.sl (zam (lim a)) .none) H):ACalls tP zdt [.sl (zam (lim a)) .none,.sl (zam [1]) .none] H K:=by
 have:=zgV a 1 ha zi8 H K (by rw[Nat.mul_one];exact hK)
 rwa [zdK]at this
theorem zEx (a b:Nat) (ha:a<1000000000 ^ 30) (hb:b<1000000000 ^ 30) (H:zaa) (K:Kt) (hK:K (.agg (zak ((a+b:Nat):Int))) H) :
  ACalls tP zn1 [.agg (zak (a:Int)),.agg (zak (b:Int))] H K:=by
 refine ACalls.out (zIf fun hs=>?_)
 have la:=zbK ha
 have lb:=zbK hb
 have d0:∀ n:Nat,decide ((n:Int)<0)=false:=fun n=>by simp
 simp[zx3,zak,d0,Nat.add_assoc]
 refine zaE (.sl (zam (lim a)) .none) (fun J=>zvg a ha _ _ ⟨rfl,rfl⟩) ?_
 try simp[Nat.add_assoc]
 refine zaE (.sl (zam (lim b)) .none) (fun J=>zvg b hb _ _ ⟨rfl,rfl⟩) ?_
 try simp[Nat.add_assoc]
 refine zvf _ _ ?_
 simp[Nat.add_assoc]
 refine zaE (.sl (zam (lim (a+b))) .none) (fun J=>zLw a b (by omega) (by omega) _ _ ⟨rfl,rfl⟩) ?_
 simp[zas,zaH,zcK,AV.known,Nat.add_assoc]
 have e1:zak ((a+b:Nat):Int)=[.bool false,.sl (zam (lim (a+b))) .none,.sl (zam [1]) .none]:=by simp only[zak,d0,Int.natAbs_natCast]
 have:=zdf (H:=H) (K:=K) (z:=((a+b:Nat):Int)) (J:=[.cells [.bool false,.sl (zam (lim a)) .none,.sl (zam [1]) .none],.cells [.bool false,.sl (zam (lim b)) .none,.sl (zam [1]) .none],.cells (zak ((a+b:Nat):Int))]) hs hK
 rw[e1]at this
 simpa using this
theorem zRa (a b:Nat) (ha:a<1000000000 ^ 30) (hb:b<1000000000 ^ 30) (H:zaa) (K:Kt) (hK:K (.agg (zak ((a+b:Nat):Int))) H):ACalls tP zoL [.agg (zak (a:Int)),.agg (zak (b:Int))] H K:=by
 refine ACalls.out (zQ9 fun hs=>?_)
 have la:=zbK ha
 have lb:=zbK hb
 have lc:(lim (a+b)).length≤31:=zbK (by omega)
 have d0:∀ n:Nat,decide ((n:Int)<0)=false:=fun n=>by simp
 have e1:∀ n:Nat,zak (n:Int)=[.bool false,.sl (zam (lim n)) .none,.sl (zam [1]) .none]:=fun n=>by simp only[zak,d0,Int.natAbs_natCast]
 simp[zA3,e1,Nat.add_assoc]
 simp only[←e1]
 refine zaE (.agg (zak (a:Int))) (fun J=>zfO a (by simpa using by omega) _ _ ⟨rfl,rfl⟩) ?_
 refine zaE (.agg (zak (b:Int))) (fun J=>zfO b (by simpa using by omega) _ _ ⟨rfl,rfl⟩) ?_
 refine zaE (.agg (zak ((a+b:Nat):Int))) (fun J=>zEx a b ha hb _ _ ⟨rfl,rfl⟩) ?_
 refine zaE (.agg (zak ((a+b:Nat):Int))) (fun J=>by
  rw[e1 (a+b)]
  exact zjt false (a+b) (by omega) (z:=((a+b:Nat):Int)) (by simp) _ _ ⟨by rw[e1],rfl⟩) ?_
 rw[e1 (a+b)]
 simp[Nat.add_assoc]
 have:=zdf (H:=H) (K:=K) (z:=((a+b:Nat):Int)) (J:=[.cells (zak (a:Int)),.cells (zak (b:Int)),.cells (zak ((a+b:Nat):Int))]) hs hK
 rw[e1 (a+b)]at this
 simpa using this
theorem zFa (a:Nat) (H:zaa) (K:Kt) (hK:K (.int .i64 (if a=0 then 0 else 1)) H):ACalls tP zn4 [.agg (zak (a:Int))] H K:=by
 refine ACalls.out (zIs fun hs=>?_)
 have d0:∀ n:Nat,decide ((n:Int)<0)=false:=fun n=>by simp
 have hO:∀ z J,z=(if a=0 then (0:Int) else 1)→Out H.length K (.int .i64 z) (H++J):=fun z J h=>Out.int rfl (Nat.le_refl _) hs (by rw[h];exact hK)
 by_cases h:a=0
 ·subst h
  simp[zqg,zak]
  exact hO 0 _ (by simp)
 ·have hp:0<(lim a).length:=by rw[zb3 h];simp
  have hb:(((lim a).length:Int) == 0)=false:=by
   generalize (lim a).length=q at hp
   simp;omega
  simp[zqg,zak,d0,hb]
  exact hO 1 _ (by simp[h])
theorem zgK:∀ {L:List (List AV)},(∀ c∈L,c.length=3)→L.flatten.length=L.length*3
 | [],_=>rfl
 | c::L,h=>by
  rw[List.flatten_cons,List.length_append,zgK fun x hx=>h x (List.mem_cons_of_mem _ hx),h c List.mem_cons_self,List.length_cons];omega
theorem zuF {L:List (List AV)} (h3:∀ c∈L,c.length=3) {i:Nat} (hi:i<L.length) (x:List AV):L.flatten.take (i*3)++(x++L.flatten.drop (i*3+3))=(L.set i x).flatten:=by
 have e:L.flatten=(L.take i).flatten++(L[i]++(L.drop (i+1)).flatten):=by
  have h0:L=L.take i++L[i]::L.drop (i+1):=by rw[←List.drop_eq_getElem_cons hi,List.take_append_drop]
  have h1:=congrArg List.flatten h0
  rwa [List.flatten_append,List.flatten_cons]at h1
 have l1:(L.take i).flatten.length=i*3:=by
  rw[zgK fun c hc=>h3 c (List.mem_of_mem_take hc)];simp;omega
 have l2:((L.take i).flatten++L[i]).length=i*3+3:=by rw[List.length_append,l1,h3 _ (List.getElem_mem hi)]
 rw[e,List.take_left' l1,←List.append_assoc (L.take i).flatten L[i],List.drop_left' l2,List.set_eq_take_append_cons_drop,if_pos hi]
 simp
def zR:List AV:=[.bool false,.snil,.snil]
def zsL (n i:Nat):List (List AV):=List.replicate i (zak 0)++List.replicate (n-i) zR
theorem zBF (n i:Nat):∀ c∈zsL n i,c.length=3:=by
 intro c hc
 rcases List.mem_append.1 hc with h | h <;> rw[List.eq_of_mem_replicate h] <;> rfl
theorem zSJ {n i:Nat} (h:i<n):(zsL n i).set i (zak 0)=zsL n (i+1):=by
 unfold zsL
 rw[List.set_append_right _ _ (by simp),List.length_replicate,Nat.sub_self,show n-i=n-(i+1)+1 by omega,List.replicate_succ,List.set_cons_zero,List.replicate_succ',List.append_assoc]
 rfl
theorem zGI (n:Nat) (hn:n≤100) (H:zaa) (K:Kt) (hK:HSc H→K (.ms H.length 0 n n) (H++[.cells (List.replicate n (zak 0)).flatten])):ACalls tP zok [.int .i64 n] H K:=by
 refine zLH fun hs=>?_
 simp[zzl,zbh]
 refine⟨⟨by omega,by omega⟩,?_⟩
 have h0:(List.replicate n ([.bool false,.snil,.snil]:List AV))=zsL n 0:=by simp[zsL,zR]
 rw[h0]
 have hsc:∀ i,HSc (H++[.cells (zsL n i).flatten]):=fun i=>hs.append (by
  simp only[AB.sc,List.all_cons,List.all_nil,Bool.and_true]
  rw[List.all_eq_true]
  intro x hx
  obtain⟨c,hc,hx⟩:=List.mem_flatten.1 hx
  rcases List.mem_append.1 hc with h | h <;> rw[List.eq_of_mem_replicate h]at hx
  ·exact List.all_eq_true.1 (zjh _ _) x hx
  ·exact List.all_eq_true.1 (show zR.all (AV.scA _)=true by simp[zR,AV.scA,AV.scB]) x hx)
 refine zLF (Inv:=fun q t9 H'=>∃ i:Nat,i≤n∧n-i=q∧t9=.int .i64 i∧H'=H++[.cells (zsL n i).flatten]) n ?_ ?_
 ·intro _;exact⟨0,by omega,rfl,rfl,rfl⟩
 ·rintro q t9 H' ⟨i,hi,rfl,rfl,rfl⟩ hsc' hlen hsF Kb hKb
  by_cases hlt:i<n
  ·have hL:(zsL n i).length=n:=by simp[zsL];omega
   simp[zrf,hlt,wi i (by omega)]
   refine zel 0 (by omega) _ _ ?_
   have hfl:=zgK (zBF n i)
   have hst:=zuF (zBF n i) (i:=i) (by omega) (zak 0)
   rw[zSJ hlt]at hst
   rw[List.length_flatten]at hfl
   simp[zeC,hfl,hL]
   rw[hst]
   refine⟨by omega,?_⟩
   exact hKb _ _ ⟨n-(i+1),by omega,Back.here (by simp) (hsc _) (by simp[zlf,ux,AV.sc,AV.scA,AV.scB,AV.scV]) ⟨_,rfl,i+1,by omega,rfl,rfl,rfl⟩⟩
  ·obtain rfl:i=n:=by omega
   have:=hK hs
   have e:zsL i i=List.replicate i (zak 0):=by simp[zsL]
   simp[zrf,e]
   exact this
theorem zEs:∀ a,a<7→∀ b,b<7→∀ k,k<13→(k≤a+b∧max a b≤k→pcf a b k=chs k a*chs a (k-b)∧pcf a b k<1000000∧chs k a<1000000∧chs a (k-b)<1000000):=by
 have:=(by decide +kernel:((List.range 7).all fun a=>(List.range 7).all fun b=>(List.range 13).all fun k=>decide (¬ (k≤a+b∧max a b≤k)∨(pcf a b k=chs k a*chs a (k-b)∧pcf a b k<1000000∧chs k a<1000000∧chs a (k-b)<1000000)))=true)
 intro a ha b hb k hk h
 have h1:=List.all_eq_true.mp this a (List.mem_range.mpr ha)
 have h2:=List.all_eq_true.mp h1 b (List.mem_range.mpr hb)
 have h3:=List.all_eq_true.mp h2 k (List.mem_range.mpr hk)
 rcases of_decide_eq_true h3 with h4 | h4
 ·exact absurd h h4
 ·exact⟨h4.1,h4.2⟩
def rwL (a b k:Nat):List (List AV):=(List.range (a+b+1)).map fun j=>zak (((if j<k then pcf a b j else 0:Nat)):Int)
theorem zwi (a b k:Nat):(rwL a b k).length=a+b+1:=by simp[rwL]
theorem zpg (a b k:Nat):∀ c∈rwL a b k,c.length=3:=by
 intro c hc
 obtain⟨j,_,rfl⟩:=List.mem_map.1 hc
 rfl
theorem zEV (a b:Nat):List.replicate (a+b+1) (zak 0)=rwL a b (max a b):=by
 refine List.ext_getElem (by simp[rwL]) fun j h1 h2=>?_
 simp only[rwL,List.getElem_replicate,List.getElem_map,List.getElem_range]
 by_cases h:j<max a b
 ·rw[if_pos h]
  have:pcf a b j=0:=by simp[pcf];omega
  rw[this];rfl
 ·rw[if_neg h];rfl
theorem zEW {a b k:Nat} (h:k≤a+b):(rwL a b k).set k (zak (pcf a b k:Int))=rwL a b (k+1):=by
 refine List.ext_getElem (by simp[rwL]) fun j h1 h2=>?_
 rw[List.getElem_set]
 simp only[rwL,List.getElem_map,List.getElem_range]
 by_cases hj:k=j
 ·subst hj;simp
 ·rw[if_neg hj]
  by_cases hk:j<k
  ·rw[if_pos hk,if_pos (by omega)]
  ·rw[if_neg hk,if_neg (by omega)]
theorem zwh (a b:Nat):rwL a b (a+b+1)=zcd (zcN a b (a+b+1)):=by
 refine List.ext_getElem (by simp[rwL,zcd,zcN]) fun j h1 h2=>?_
 have hj:j<a+b+1:=by simpa[rwL]using h1
 simp[rwL,zcd,zcN,hj]
theorem zvX:∀ l:List Nat,plain (zcd l).flatten=some (zcd l).flatten
 | []=>rfl
 | z::l=>by
  show plain (zak (z:Int)++(zcd l).flatten)=_
  exact zhk (zcZ _) (zvX l)
theorem zIp (a b:Nat) (ha:a≤6) (hb:b≤6) (H:zaa) (K:Kt) (hK:K (.sl (zcd (zcN a b (a+b+1))) .none) H):ACalls tP zn3 [.int .i64 a,.int .i64 b] H K:=by
 refine ACalls.out (zIn fun hs=>?_)
 have w1:IntKind.i64.wrap ((a:Int)+(b:Int))=((a+b:Nat):Int):=by rw[zat (by omega) (by omega)];omega
 have w2:IntKind.i64.wrap ((a:Int)+(b:Int)+1)=((a+b+1:Nat):Int):=by rw[zat (by omega) (by omega)];omega
 have hmx:(if a<b then (b:Int) else (a:Int))=((max a b:Nat):Int):=by split <;> omega
 have hmx':(if (b:Int)>(a:Int) then (b:Int) else (a:Int))=((max a b:Nat):Int):=by split <;> omega
 simp[zx4,w1,w2,hmx,hmx']
 refine zGI (a+b+1) (by omega) _ _ fun _=>?_
 rw[zEV]
 have hsc:∀ i,HSc (H++[.cells (rwL a b i).flatten]):=fun i=>hs.append (by
  simp only[AB.sc,List.all_cons,List.all_nil,Bool.and_true]
  rw[List.all_eq_true]
  intro x hx
  obtain⟨c,hc,hx⟩:=List.mem_flatten.1 hx
  obtain⟨j,_,rfl⟩:=List.mem_map.1 hc
  exact List.all_eq_true.1 (zjh _ _) x hx)
 try simp only[hmx,hmx']
 refine zIl (Inv:=fun q t6 H'=>∃ k:Nat,max a b≤k∧k≤a+b+1∧a+b+1-k=q∧t6=.int .i64 k∧H'=H++[.cells (rwL a b k).flatten]) (a+b+1-max a b) ?_ ?_
 ·intro _;exact⟨max a b,by omega,by omega,rfl,rfl,rfl⟩
 ·rintro q t6 H' ⟨k,hk0,hk,rfl,rfl,rfl⟩ hsc' hlen hsF Kb hKb
  by_cases hlt:k≤a+b
  ·have hlt':(k:Int)≤(a:Int)+(b:Int):=by omega
   obtain⟨p1,p2,p3,p4⟩:=zEs a (by omega) b (by omega) k (by omega) ⟨hlt,hk0⟩
   have w3:IntKind.i64.wrap ((k:Int)-(b:Int))=((k-b:Nat):Int):=by rw[zat (by omega) (by omega)];omega
   simp[zqe,w1,hlt',w3,wi k (by omega)]
   refine zuz k a (by omega) (by omega) _ _ ?_
   refine zuz a (k-b) (by omega) (by omega) _ _ ?_
   refine zmq _ _ (zdO (Nat.lt_trans p3 (by decide))) (zdO (Nat.lt_trans p4 (by decide))) _ _ ?_
   rw[←Int.natCast_mul,←p1]
   have hfl:=zgK (zpg a b k)
   have hst:=zuF (zpg a b k) (i:=k) (by rw[zwi];omega) (zak (pcf a b k:Int))
   rw[zEW hlt]at hst
   rw[List.length_flatten,zwi]at hfl
   simp[zeC,hfl]
   rw[hst]
   refine⟨by omega,by omega,?_⟩
   exact hKb _ _ ⟨a+b+1-(k+1),by omega,Back.here (by simp) (hsc _) (by simp[zkd,ux,AV.sc,AV.scA,AV.scB,AV.scV]) ⟨_,rfl,k+1,by omega,by omega,rfl,rfl,rfl⟩⟩
  ·obtain rfl:k=a+b+1:=by omega
   have hlt':¬ ((a:Int)+(b:Int)+1≤(a:Int)+(b:Int)):=by omega
   simp[zqe,w1,hlt']
   rw[zwh]
   have hfl:=zgK (zpg a b (a+b+1))
   rw[zwh,zEz]at hfl
   have hpl:(zcN a b (a+b+1)).length=a+b+1:=by simp[zcN]
   refine⟨_,H,[_],rfl,Nat.le_refl _,hs,.one (.frz H.length 0 (a+b+1) (a+b+1) 3 (zcd (zcN a b (a+b+1))).flatten (zcd (zcN a b (a+b+1))) (Nat.le_refl _) (by simp) (by omega) ?_ (by simp[hpl]) (fun c hc=>?_) (Nat.le_refl _)),hK⟩
   ·rw[List.drop_zero,List.take_of_length_le (by omega)];exact zvX _
   ·obtain⟨z,_,rfl⟩:=List.mem_map.1 hc;rfl
theorem zRm (a b:Nat) (ha:a≤6) (hb:b≤6) (H:zaa) (K:Kt) (hK:K (.tup [.sl (zcd (zcN a b (a+b+1))) .none,.bool true]) H):ACalls tP zoM [.int .i64 a,.int .i64 b] H K:=by
 refine ACalls.out (zRl fun hs=>?_)
 have c1:¬ ((a:Int)<0):=by omega
 have c2:¬ ((b:Int)<0):=by omega
 have c3:¬ ((16:Int)<(a:Int)):=by omega
 have c4:¬ ((16:Int)<(b:Int)):=by omega
 simp[zBb,c1,c2,c3,c4]
 refine zIp a b ha hb _ _ ?_
 exact⟨⟨rfl,rfl⟩,Out.tup0 (bs:=[.sl (zcd (zcN a b (a+b+1))) .none,.bool true]) hs hK ⟨za3 rfl rfl,za3 rfl rfl,trivial⟩⟩
end Go.Proofs.YtdmamdnkcefmmaaGreatDoor
namespace Go.Abs
open Go Go.RowKit
variable {P:Program} {B:Nat} {w:World} {G:Gh} {H:zaa}
theorem HRel.newRow (h:HRel B w G H) (e size cap:Nat) (cur:Array Value) (hc:cap≤maxLen) (hs:cur.size=cap*size) :
  Ext B w G (w.alloc (.cells cur e)) ⟨G.L,G.μ++[.own (.slice (some ⟨w.heap.size,0,none⟩) 0 cap) size 0]⟩∧HRel B (w.alloc (.cells cur e)) ⟨G.L,G.μ++[.own (.slice (some ⟨w.heap.size,0,none⟩) 0 cap) size 0]⟩ (H++[.perm e size 0]):=by
 have he:=Ext.alloc h (.cells cur e) G.L (fun _ _=>rfl) [.own (.slice (some ⟨w.heap.size,0,none⟩) 0 cap) size 0]
 have split:∀ (id:Nat) gi,(G.μ++[GI.own (.slice (some ⟨w.heap.size,0,none⟩) 0 cap) size 0])[id]?=some gi→G.μ[id]?=some gi∨(id=G.μ.length∧gi=.own (.slice (some ⟨w.heap.size,0,none⟩) 0 cap) size 0):=by
  intro id gi hg
  by_cases hlt:id<G.μ.length
  ·rw[List.getElem?_append_left hlt]at hg;exact .inl hg
  ·have hlt2:=(List.getElem?_eq_some_iff.1 hg).1
   simp at hlt2
   have:id=G.μ.length:=by omega
   subst this
   simp at hg
   exact .inr ⟨rfl,hg.symm⟩
 refine⟨he,by simp[h.len],?_,?_,fun b hb=>?_,?_,?_⟩
 ·intro id ab gi h1 h2
  rcases split id gi h2 with h2 | ⟨rfl,rfl⟩
  ·have hlt:id<H.length:=by rw[←h.len];exact (List.getElem?_eq_some_iff.1 h2).1
   rw[List.getElem?_append_left hlt]at h1
   exact (h.ok id ab gi h1 h2).keep he (fun b hb=>⟨zcy (h.lt id gi b h2 hb),rfl⟩)
  ·rw[h.len]at h1
   simp at h1
   subst h1
   refine⟨rfl,rfl,⟨[],by simp,.inr ⟨w.heap.size,cap,cur,rfl,h.base,zda _,Nat.zero_le _,hc,hs,by simp⟩⟩,fun b hb=>?_⟩
   simp[Value.ownBlock]at hb
   subst hb
   rw[Nat.zero_mul]
   exact h.fresh _ (Nat.le_refl _)
 ·intro id id' gi gi' b h1 h2 h3 h4
  rcases split id gi h1 with k1 | ⟨e1,e2⟩ <;> rcases split id' gi' h2 with k2 | ⟨e3,e4⟩
  ·exact h.dist id id' gi gi' b k1 k2 h3 h4
  ·rw[e4]at h4;simp[GI.block,Value.ownBlock]at h4
   have:=h.lt id gi b k1 h3
   omega
  ·rw[e2]at h3;simp[GI.block,Value.ownBlock]at h3
   have:=h.lt id' gi' b k2 h4
   omega
  ·rw[e1,e3]
 ·rw[zbX]at hb
  exact h.fresh b (by omega)
 ·intro id gi b h1 h2
  rw[zbX]
  rcases split id gi h1 with k1 | ⟨e1,e2⟩
  ·have:=h.lt id gi b k1 h2;omega
  ·rw[e2]at h2;simp[GI.block,Value.ownBlock]at h2;omega
 ·rw[zbX];have:=h.base;omega
end Go.Abs
namespace Go.Proofs.YtdmamdnkcefmmaaGreatDoor
open Go Go.Abs
theorem zFg (n:Nat) (hn:0<n) (hn2:n≤1000000) (H:zaa) (K:Kt) (hK:K (.sl [] (.own H.length)) (H++[.perm zbJ 2 0])) :
  ACalls tP zvp [.snil,.int .i64 n] H K:=by
 rintro B w G ⟨vs⟩ hR hv
 match vs,hv with
 | [v1,v2],⟨h1,h2,_⟩=>
 have h1:v1=.slice none 0 0:=h1
 have h2:v2=.int .i64 n:=h2
 subst h1 h2
 obtain⟨i0,hi0,hz0,hs0,hb0⟩:∃ i0,tP.info? 28=some i0∧i0.zero=some (.agg #[.int .i64 0,.slice none 0 0])∧i0.size=2∧i0.bytes=32:=⟨_,rfl,rfl,rfl,rfl⟩
 refine (Go.Proofs.Any8.slices_Grow_grow zGJ i0 _ hi0 hz0 (by omega) none 0 0 n [] w (Nat.le_refl _) (by omega) (by rw[hb0];omega) (by omega) (by simp) (fun _=>rfl) (fun _ h=>by cases h)).mono ?_
 rintro e w' ⟨rfl,rfl⟩
 have hge:=grownCap_ge w (0+n) 0 28
 have hcm:=grownCap_le_maxLen w (0+n) 0 28 (by simp only[maxLen];omega)
 obtain⟨hE,hH⟩:=hR.drew (w.drawn+1) (Nat.le_succ _) |>.newRow 28 2 (grownCap w (0+n) 0 28) (([]:List Value).toArray++Builtin.zeroCells (Value.agg #[.int .i64 0,.slice none 0 0]).cells (0+n-0)++Builtin.zeroCells (Value.agg #[.int .i64 0,.slice none 0 0]).cells (grownCap w (0+n) 0 28-(0+n))) hcm (by
  simp only[Array.size_append,size_zeroCells,List.size_toArray,List.length_nil]
  have:(Value.agg #[.int .i64 0,.slice none 0 0]).cells.size=2:=rfl
  rw[this];omega)
 refine⟨_,_,_,_,rfl,(Ext.drew B w G (w.drawn+1) (Nat.le_succ _)).trans hE,hH,?_,hK⟩
 refine⟨.slE _ _,_,2,0,?_,Nat.le_refl _,fun _=>⟨rfl,fun c hc=>by simp at hc⟩⟩
 rw[←hR.len]
 simp
 rfl
theorem zFe (a b:List IT) (ha:0<a.length) (hb:a.length+b.length≤1000000) (H:zaa) (K:Kt) (hK:K (.sl (IT.css (a++b)) .none) H) :
  ACalls tP zn5 [.sl [[.sl (IT.css a) .none],[.sl (IT.css b) .none]] .full] H K:=by
 refine ACalls.out (zIH fun hs=>?_)
 have e:∀ l:List IT,(IT.css l).length=l.length:=fun l=>by simp[IT.css_map]
 have hS:∀ c:List IT,∀ k:AV→Prop,k (.int .i64 c.length)→zah 1 (.sl (IT.css c) .none) k:=fun c k hk=>by simpa[e]using hk
 simp[zx9]
 let row:Nat→List IT:=fun i=>if i=0 then a else b
 let sum:Nat→Nat:=fun i=>if i=0 then 0 else if i=1 then a.length else a.length+b.length
 have hget:∀ i (hi:i < [[AV.sl (IT.css a) .none],[.sl (IT.css b) .none]].length),[[AV.sl (IT.css a) .none],[.sl (IT.css b) .none]][i]=[.sl (IT.css (row i)) .none]:=fun i hi=>by
  rcases (by simp at hi;omega:i=0∨i=1) with rfl | rfl <;> rfl
 refine zIE (Inv:=fun q t3 t11 H'=>∃ i:Nat,i≤2∧q=2-i∧t11=.int .i64 i∧t3=.int .i64 (sum i)∧H'=H) 2 ?_ ?_
 ·intro _;exact⟨0,by omega,rfl,rfl,rfl,rfl⟩
 ·rintro q t3 t11 H' ⟨i,hi,rfl,rfl,rfl,rfl⟩ hsc hlen hsF Kb hKb
  by_cases hlt:i<2
  ·have hlt':(i:Int)<2:=by omega
   have hsum:(sum i:Int)+(row i).length=sum (i+1):=by
    rcases (by omega:i=0∨i=1) with rfl | rfl <;> simp[sum,row]
   have hb1:sum (i+1)≤1000000:=by
    rcases (by omega:i=0∨i=1) with rfl | rfl <;> simp[sum] <;> omega
   have hnn:¬ ((sum (i+1):Int)<0):=by omega
   simp[zqk,hlt',hlt,hget,e]
   rw[hsum,zat (by omega) (by omega)]
   simp[hnn,zya,zyb]
   rw[zat (by omega) (by omega)]
   refine hKb _ _ ⟨2-(i+1),by omega,Back.at (J:=[]) (H2:=H') (by simp) (by omega) hsc ?_ ⟨_,_,rfl,i+1,by omega,rfl,by simp,rfl,rfl⟩⟩
   simp[zkh,AV.sc,AV.scV,AV.scA,AV.scB]
  ·obtain rfl:i=2:=by omega
   simp[zqk]
   refine zFg _ (by simp[sum];omega) (by simp[sum];omega) _ _ ?_
   let all:Nat→List IT:=fun i=>if i=0 then [] else if i=1 then a else a++b
   refine zID (Inv:=fun q t6 t27 H2=>∃ i:Nat,i≤2∧q=2-i∧t27=.int .i64 i∧t6=.sl (IT.css (all i)) (.own H'.length)∧H2=H'++[.perm zbJ 2 (all i).length]) 2 ?_ ?_
   ·intro _;exact⟨0,by omega,rfl,rfl,rfl,rfl⟩
   ·rintro q t6 t27 H2 ⟨i,hi,rfl,rfl,rfl,rfl⟩ hsc2 hlen2 hsF2 Kb2 hKb2
    by_cases hlt:i<2
    ·have hlt':(i:Int)<2:=by omega
     have hall:IT.css (all i)++IT.css (row i)=IT.css (all (i+1)):=by
      rcases (by omega:i=0∨i=1) with rfl | rfl <;> simp[all,row,IT.css_map]
     have hall2:(all i).length+(row i).length=(all (i+1)).length:=by
      rcases (by omega:i=0∨i=1) with rfl | rfl <;> simp[all,row]
     have hb1:(all (i+1)).length≤1000000:=by
      rcases (by omega:i=0∨i=1) with rfl | rfl <;> simp[all] <;> omega
     have h2:∀ c∈IT.css (row i),c.length=2:=fun c hc=>by
      rw[IT.css_map]at hc
      obtain⟨x,_,rfl⟩:=List.mem_map.1 hc
      simp
     simp[zqj,hlt',hlt,hget,e,zaw,zaK,zaG,List.set_append_right]
     rw[hall,hall2,zat (by omega) (by omega)]
     refine⟨h2,⟨by omega,by omega⟩,?_⟩
     refine hKb2 _ _ ⟨2-(i+1),by omega,Back.at (J:=[]) (H2:=H'++[.perm zbJ 2 (all (i+1)).length]) (by simp) (by simp) (hs.append (by simp[AB.sc])) ?_ ⟨_,_,rfl,i+1,by omega,rfl,by simp,rfl,rfl⟩⟩
     simp[zkg,AV.sc,AV.scV,AV.scA,AV.scB]
    ·obtain rfl:i=2:=by omega
     simp[zqj]
     exact Out.at (H2:=H') (J:=[.perm zbJ 2 (a++b).length]) (by simp[all]) (Nat.le_refl _) hs (.atom (.sl _ _)) rfl rfl (by simpa[all]using hK)
theorem zIO {data:List Dat} (hk:zbG data) (n:Int) (ks:List VT) (ht:(VT.mk 5 n ks).nodes≤1000) (c:Int) {ps:List VT} (hp:za6 data (.mk 5 n ks) c=some ps) (H:zaa) (K:Kt)
  (hK:K (.sl (VT.css ps) .none) H):ACalls tP zn6 [.sl (data.map Dat.cs) .none,.agg (VT.mk 5 n ks).cs,.int .i64 c] H K:=by
 obtain⟨l,hf⟩:∃ lf,zbe data (.mk 5 n ks) c=some lf:=by
  cases hff:zbe data (.mk 5 n ks) c with
  | none=>simp[za6,hff]at hp
  | some lf=>exact⟨lf,rfl⟩
 obtain⟨bs,hbs,hlb,hl8,hpay,h200,_,hrec,_⟩:=zvP hk hf
 rw[hp]at hpay
 obtain rfl:=Option.some.inj hpay
 refine ACalls.out (zIM fun hs=>?_)
 obtain⟨f1,f2,f3⟩:=zeZ hk
 simp[zyf,VT.cs,Nat.add_assoc]
 refine zze data f1 f2 f3 (.mk 5 n ks) ht c _ _ ?_
 rw[hf]
 simp[zcr]
 refine hrec _ _ ?_
 simp[zes]
 unfold zkm
 refine ALoop.own 9 zaV 3 rfl ?_
 have hl1:(H++[AB.cells [AV.int IntKind.i64 5,AV.int IntKind.i64 n,AV.sl (VT.css ks) Tok.none]]).length=H.length+1:=by simp
 rw[hl1,List.append_assoc]
 show zkm _ (.sl (VT.css (pick (l.take 0) (bs.take 0))) (.own (H.length+1))) _ _ _ (H++[.cells [.int .i64 5,.int .i64 n,.sl (VT.css ks) .none],.perm zaV 3 0]) _
 have hperm:∀ m,HSc (H++[.cells [.int .i64 5,.int .i64 n,.sl (VT.css ks) .none],.perm zaV 3 m]):=fun m=>hs.append (by simp[AB.sc,AV.scA,AV.scB])
 refine zIK (Inv:=fun q t9 t25 H'=>∃ i:Nat,i≤bs.length∧bs.length-i=q∧t25=.int .i64 i∧t9=.sl (VT.css (pick (l.take i) (bs.take i))) (.own (H.length+1)) ∧
  H'=H++[.cells [.int .i64 5,.int .i64 n,.sl (VT.css ks) .none],.perm zaV 3 (pick (l.take i) (bs.take i)).length]) bs.length ?_ ?_
 ·intro _;exact⟨0,by omega,rfl,rfl,rfl,rfl⟩
 ·rintro q t9 t25 H' ⟨i,hi,rfl,rfl,rfl,rfl⟩ hsc' hlen hsF Kb hKb
  by_cases hlt:i<bs.length
  ·have hll:i<l.length:=by omega
   have hst:=zoX hlb hll
   have hpl:=zje (l.take i) (bs.take i)
   rw[List.length_take]at hpl
   generalize hA:pick (l.take i) (bs.take i)=A at *
   have hnext:∀ A',A'=pick (l.take (i+1)) (bs.take (i+1))→zkl (.sl (VT.css l) .none) (.sl (VT.css A') (.own (H.length+1))) (.sl (zbI bs) .none) (.int .i64 bs.length) (.int .i64 i)
     (H++[.cells [.int .i64 5,.int .i64 n,.sl (VT.css ks) .none],.perm zaV 3 A'.length]) (Out H.length K) Kb:=by
    rintro A' rfl
    simp[zkl,zyg,wi i (by omega)]
    exact hKb _ _ ⟨bs.length-(i+1),by omega,Back.here (by simp) (hperm _) (by simp[zkk,ux,AV.sc,AV.scA,AV.scB,AV.scV]) ⟨_,_,rfl,i+1,by omega,rfl,rfl,rfl,rfl⟩⟩
   obtain⟨x1,x2,x3,hvx,hx1,hx2,hx3⟩:=zbt l[i]
   cases hbi:bs[i] with
   | true=>
    rw[hbi,if_pos rfl,List.append_nil]at hst
    simp[zkj,zes,hlt,zgw,hbi]
    exact hnext A hst.symm
   | false=>
    rw[hbi]at hst
    simp only[Bool.false_eq_true,if_false]at hst
    simp[zkj,zes,hlt,hll,zgw,hbi]
    have hpv:∀ v:VT,plain v.cs=some v.cs:=fun v=>by cases v;rfl
    have hcs:VT.css A++[l[i].cs]=VT.css (A++[l[i]]):=by rw[VT.css_map,VT.css_map,List.map_append];rfl
    simp[zau,zaR,hpv,plain,AV.pd]
    simp only[zaw,zaK,zaG]
    simp[List.set_append_right]
    refine⟨⟨by omega,by omega⟩,?_⟩
    rw[hcs]
    have:=hnext (A++[l[i]]) hst.symm
    rw[List.length_append]at this
    exact this
  ·obtain rfl:i=bs.length:=by omega
   rw[←hlb,List.take_length,hlb,List.take_length]
   simp[zkj]
   exact Out.at (b:=.sl (VT.css (pick l bs)) .none) rfl (Nat.le_refl _) hs (.atom (.sl _ _)) rfl rfl hK
theorem zRC:∀ (m:Nat) (v:IT),v.nodes≤m→v.nodes≤1000000→∀ (H:zaa) (K:Kt),K (.agg v.cs) H→ACalls tP zi0 [.agg v.cs] H K:=by
 intro m
 induction m with
 | zero=>intro v h;have:=v.nodes_pos;omega
 | succ m ih=>
  intro v hm hb H K hK
  obtain⟨n,ks⟩:=v
  have hll:=IT.len_le ks
  have hnn:(IT.mk n ks).nodes=IT.nodesL ks+1:=by simp[IT.nodes]
  refine ACalls.out (zRA fun hs=>?_)
  simp[zBf,IT.cs,zas,zaH,AV.known,Nat.add_assoc]
  unfold zmI
  refine ALoop.ownC (H.length+2) 1 zbJ 2 (cs:=[.int .i64 n,.snil]) (by simp) rfl ?_
  have hset:(H++[AB.cells [.int .i64 n,.sl (IT.css ks) .none],.cells [.int .i64 0,.snil],.cells [.int .i64 n,.snil]]).set (H.length+2) (.cells ([AV.int .i64 n,.snil].set 1 (.sl [] (.own (H++[AB.cells [.int .i64 n,.sl (IT.css ks) .none],.cells [.int .i64 0,.snil],.cells [.int .i64 n,.snil]]).length))))++[.perm zbJ 2 0] =
    H++[.cells [.int .i64 n,.sl (IT.css ks) .none],.cells [.int .i64 0,.snil],.cells [.int .i64 n,.sl [] (.own (H.length+3))],.perm zbJ 2 0]:=by simp[List.set_append_right]
  rw[hset]
  show zmI (.ptr (H.length+1) 0) (.ptr (H.length+2) 0) (.sl (IT.css ks) .none) (.int .i64 ks.length) (.int .i64 0) _ (Out H.length K)
  have hsc:∀ i,HSc (H++[.cells [.int .i64 n,.sl (IT.css ks) .none],.cells [.int .i64 0,.snil],.cells [.int .i64 n,.sl (IT.css (ks.take i)) (.own (H.length+3))],.perm zbJ 2 i]):=fun i=>hs.append (by simp[AB.sc,AV.scA,AV.scB])
  refine zRy (Inv:=fun q t12 H'=>∃ i:Nat,i≤ks.length∧q=ks.length-i∧t12=.int .i64 i ∧
   H'=H++[.cells [.int .i64 n,.sl (IT.css ks) .none],.cells [.int .i64 0,.snil],.cells [.int .i64 n,.sl (IT.css (ks.take i)) (.own (H.length+3))],.perm zbJ 2 i]) ks.length ?_ ?_
  ·intro _;exact⟨0,by omega,by omega,rfl,by simp[IT.css]⟩
  ·rintro q t12 H' ⟨i,hi,rfl,rfl,rfl⟩ hsc' hlen hsF Kb hKb
   by_cases hlt:i<ks.length
   ·obtain⟨x,y,hvx,hx,hy⟩:=zdJ ks[i]
    have hkn:=IT.kid_lt (n:=n) hlt
    simp[zsT,hlt,hvx,hx,hy]
    rw[←hvx]
    refine zaE (.agg (ks[i]).cs) (fun J=>ih ks[i] (by omega) (by omega) _ _ ⟨rfl,rfl⟩) ?_
    rw[zCt]
    simp[zaw,zaK,zaG,Nat.min_eq_left hi,AV.known,List.set_append_right]
    refine⟨⟨by omega,by omega⟩,?_⟩
    rw[zat (by omega) (by omega)]
    rw[←zDq hlt]
    refine hKb _ _ ⟨ks.length-(i+1),by omega,Back.at (J:=[.cells (ks[i]).cs]) (H2:=H++[.cells [.int .i64 n,.sl (IT.css ks) .none],.cells [.int .i64 0,.snil],.cells [.int .i64 n,.sl (IT.css (ks.take (i+1))) (.own (H.length+3))],.perm zbJ 2 (i+1)]) (by simp) (by simp) (hsc _) ?_ ⟨_,rfl,i+1,by omega,rfl,by simp,rfl⟩⟩
    simp[zmH,AV.sc,AV.scV,AV.scA,AV.scB]
   ·obtain rfl:i=ks.length:=by omega
    rw[List.take_length]at *
    simp[zsT,AV.known,List.set_append_right]
    exact Out.at rfl (Nat.le_refl _) hs (WkV.agg (ds:=[.int .i64 n,.sl (IT.css ks) .none]) ⟨.refl _,.sl _ _,trivial⟩) rfl (by simp[AV.scV,AV.scA,AV.scB]) (by simpa[IT.cs]using hK)
theorem zRG (z:Int) (hz:Sm z) (H:zaa) (K:Kt) (hK:K (.agg (zak z)) H):ACalls tP zoO [.agg (zak z)] H K:=by
 refine ACalls.out (zRF fun hs=>?_)
 have hl:=hz.len
 simp[zBg,zeC,Nat.add_assoc]
 refine zfO z (by omega) _ _ ?_
 have e:zak z=[.bool (decide (z<0)),.sl (zam (lim z.natAbs)) .none,.sl (zam [1]) .none]:=rfl
 conv=>lhs
 rw[e]
 refine zjt (decide (z<0)) z.natAbs (by omega) (z:=z) (by by_cases h:z<0 <;> simp[h] <;> omega) _ _ ?_
 simp[zeC,Nat.add_assoc]
 exact zdf hs hK
theorem zBd (a:Nat) (ha:Sm (a:Int)) (H:zaa) (K:Kt) (hK:K (.int .i64 (if a=0 then 0 else 1)) H):ACalls tP ziZ [.agg (zak (a:Int))] H K:=by
 refine ACalls.out (zRp fun hs=>?_)
 have hl:=ha.len
 simp[zBc,zeC,Nat.add_assoc]
 refine zfO (a:Int) (by omega) _ _ ?_
 refine zFa a _ _ ?_
 exact Out.int rfl (Nat.le_refl _) hs hK
end Go.Proofs.YtdmamdnkcefmmaaGreatDoor
namespace Go.Proofs.YtdmamdnkcefmmaaGreatDoor
open Go Go.Abs
set_option maxRecDepth 100000
def zdW:Nat→List Bool
 | 3=>rl false [0,1,1,2,5,1,10,3,47]
 | 7=>rl false [0,1,1,2,6,3,7,3,4,3,40]
 | 10=>rl false [0,1,1,2,6,3,1,1,5,3,4,3,13,3,24]
 | 200012=>rl false [0,2]
 | _=>[]
noncomputable def zsO:Code:=Tryz.f78.body.getD .skip
noncomputable def zRi:List ResultVar:=Tryz.f78.results.toList
def zhV (t0 t2 t3 t9 t20 t21 t22:AV):List AV:=t0::ux 1 (t2::t3::ux 5 (t9::ux 10 (t20::t21::t22::ux 47 [])))
def zA9:List Bool:=zdW 3
noncomputable def zsP:Code:=zaq [1,1,0,1,0,0] zsO
def zA5 (K:Kt):AExit→List AV→zaa→Prop:=zar tP zdW [1,1,0,1,0] zsO (zax tP zRi K)
def zA8 (t0 t2 t3 t9 t20 t21 t22:AV) (H:zaa) (K:Kt):Prop:=ALoop tP zsP (zA5 K) (zhV t0 t2 t3 t9 t20 t21 t22) H
def zmA (t0 t2 t3 t10 t11 t12 t20 t21 t22 t27 t28 t29:AV):List AV:=t0::ux 1 (t2::t3::ux 6 (t10::t11::t12::ux 7 (t20::t21::t22::ux 4 (t27::t28::t29::ux 40 []))))
def zBa:List Bool:=zdW 7
noncomputable def zsQ:Code:=zaq [1,1,0,0,1,1,0,1,0,0] zsP
def zA6 (K:Kt) (Kb3:Lt):AExit→List AV→zaa→Prop:=zar tP zdW [1,1,0,0,1,1,0,1,0] zsP (zb0 zA9 Kb3 (zA5 K))
def zmB (t0 t2 t3 t10 t11 t12 t20 t21 t22 t27 t28 t29:AV) (H:zaa) (K:Kt) (Kb3:Lt):Prop:=ALoop tP zsQ (zA6 K Kb3) (zmA t0 t2 t3 t10 t11 t12 t20 t21 t22 t27 t28 t29) H
def zhU (t0 t2 t3 t10 t11 t12 t14 t20 t21 t22 t27 t28 t29 t43 t44 t45:AV):List AV:=t0::ux 1 (t2::t3::ux 6 (t10::t11::t12::ux 1 (t14::ux 5 (t20::t21::t22::ux 4 (t27::t28::t29::ux 13 (t43::t44::t45::ux 24 []))))))
def zRg:List Bool:=zdW 10
noncomputable def zRc:Code:=zaq [1,1,0,0,1,1,0,0] zsQ
def zRb (K:Kt) (Kb3:Lt) (Kb7:Lt):AExit→List AV→zaa→Prop:=zar tP zdW [1,1,0,0,1,1,0] zsQ (zb0 zBa Kb7 (zA6 K Kb3))
def zA7 (t0 t2 t3 t10 t11 t12 t14 t20 t21 t22 t27 t28 t29 t43 t44 t45:AV) (H:zaa) (K:Kt) (Kb3:Lt) (Kb7:Lt):Prop:=ALoop tP zRc (zRb K Kb3 Kb7) (zhU t0 t2 t3 t10 t11 t12 t14 t20 t21 t22 t27 t28 t29 t43 t44 t45) H
def zsK (t0 t2 t3 t10 t11 t12 t14 t20 t21 t22 t27 t28 t29 t43 t44 t45:AV) (H:zaa) (K:Kt) (Kb3:Lt) (Kb7:Lt) (Kb10:Lt):Prop:=
 zab .lss false t45 t44 fun t46=>
 zag t46
 (zai 5 t43 t45 fun t47=>
 zae true 5 t47 H fun t48=>
 zay [(.int .i64 0),.snil,(.bool false),.snil,.snil] H fun t16 H=>
 zan 5 t16 t48 H fun H=>
 zad H (fun K'=>K' t12 H) fun t49=>
 zad H (fun K'=>zaf 0 t14 (K' · H)) fun t50=>
 zad H (fun K'=>zal false 1 t50 H (K' · H)) fun t51=>
 zdp .g true H (fun K'=>ACalls tP zn2 [t51] H K') fun t52 H=>
 zad H (fun K'=>zaf 0 t16 (K' · H)) fun t53=>
 zad H (fun K'=>zal true 2 t53 H (K' · H)) fun t54=>
 zad H (fun K'=>zau 2 [(.int .i64 0),.snil] 1 [(0,t54)] (K' · H)) fun t55=>
 zdp .g false H (fun K'=>zaw zbJ 2 32 t52 t55 H K') fun t56 H=>
 zad H (fun K'=>zaf 1 t14 (K' · H)) fun t57=>
 zad H (fun K'=>zal true 3 t57 H (K' · H)) fun t58=>
 zad H (fun K'=>zaf 2 t16 (K' · H)) fun t59=>
 zad H (fun K'=>zal true 3 t59 H (K' · H)) fun t60=>
 zdp .g true H (fun K'=>ACalls tP zfb [t58,t60] H K') fun t61 H=>
 zad H (fun K'=>zas [.snil,(.bool false),.snil,.snil] [(0,1),(1,3)] [(0,t56),(1,t61)] (K' · H)) fun t62=>
 zad H (fun K'=>zau 4 [.snil,(.bool false),.snil,.snil] 1 [(0,t62)] (K' · H)) fun t63=>
 zdp .g false H (fun K'=>zaw zbi 4 80 t49 t63 H K') fun t64 H=>
 zad H (fun K'=>K' t64 H) fun t12=>
 zab .add false t45 (.int .i64 1) fun t65=>
 Kb10 (zhU t0 t2 t3 t10 t11 t12 t14 t20 t21 t22 t27 t28 t29 t43 t44 t65) H)
 (zab .add false t29 (.int .i64 1) fun t66=>
 Kb7 (zmA t0 t2 t3 t10 t11 t12 t20 t21 t22 t27 t28 t66) H)
def zsN (t0 t2 t3 t10 t11 t12 t20 t21 t22 t27 t28 t29:AV) (H:zaa) (K:Kt) (Kb3:Lt) (Kb7:Lt):Prop:=
 zab .lss false t29 t28 fun t30=>
 zag t30
 (zai 4 t27 t29 fun t31=>
 zae true 4 t31 H fun t32=>
 zay [.snil,(.bool false),.snil,.snil] H fun t14 H=>
 zan 4 t14 t32 H fun H=>
 zad H (fun K'=>K' t0 H) fun t33=>
 zad H (fun K'=>zal true 3 t11 H (K' · H)) fun t34=>
 zad H (fun K'=>K' t2 H) fun t35=>
 zad H (fun K'=>K' t10 H) fun t36=>
 zad H (fun K'=>zai 2 t35 t36 (K' · H)) fun t37=>
 zad H (fun K'=>zal true 2 t37 H (K' · H)) fun t38=>
 zad H (fun K'=>K' t3 H) fun t39=>
 zad H (fun K'=>K' t10 H) fun t40=>
 zad H (fun K'=>zai 2 t39 t40 (K' · H)) fun t41=>
 zad H (fun K'=>zal true 2 t41 H (K' · H)) fun t42=>
 zaF H (fun H K'=>ACalls tP ziQ [t33,t34,t38,t42] H K') fun t43=>
 zad H (fun K'=>zah 1 t43 (K' · H)) fun t44=>
 zad H (fun K'=>K' (.int .i64 0) H) fun t45=>
 zA7 t0 t2 t3 t10 t11 t12 t14 t20 t21 t22 t27 t28 t29 t43 t44 t45 H K Kb3 Kb7)
 (zab .add false t22 (.int .i64 1) fun t68=>
 Kb3 (zhV t0 t2 t3 t12 t20 t21 t68) H)
def zsM (t0 t2 t3 t9 t20 t21 t22:AV) (H:zaa) (K:Kt) (Kb3:Lt):Prop:=
 zab .lss false t22 t21 fun t23=>
 zag t23
 (zai 3 t20 t22 fun t25=>
 zae true 3 t25 H fun t26=>
 zay [(.int .i64 0),(.int .i64 0),.snil] H fun t11 H=>
 zan 3 t11 t26 H fun H=>
 zah 1 t9 fun t28=>
 zmB t0 t2 t3 t22 t11 .snil t20 t21 t22 t9 t28 (.int .i64 0) H K Kb3)
 (K t9 H)
def zA4 (t0 t1 t2 t3:AV) (H:zaa) (K:Kt):Prop:=
 ACalls tP zde [(.int .i64 1)] H fun t17 H=>
 zas [.snil,(.bool false),.snil,.snil] [(0,1),(1,3)] [(1,t17)] fun t18=>
 zau 4 [.snil,(.bool false),.snil,.snil] 1 [(0,t18)] fun t19=>
 zah 1 t1 fun t21=>
 zA8 t0 t2 t3 t19 t1 t21 (.int .i64 0) H K
theorem zRd {t0 t2 t3 t10 t11 t12 t14 t20 t21 t22 t27 t28 t29 t43 t44 t45:AV} {H:zaa} {K:Kt} {Kb3:Lt} {Kb7:Lt} (Inv:Nat→AV→AV→zaa→Prop) (n:Nat) (h0:HSc H→Inv n t12 t45 H)
  (round:Rd2 (fun t12=>fun t45=>zhU t0 t2 t3 t10 t11 t12 t14 t20 t21 t22 t27 t28 t29 t43 t44 t45) (fun t12=>fun t45=>fun H Kb10=>zsK t0 t2 t3 t10 t11 t12 t14 t20 t21 t22 t27 t28 t29 t43 t44 t45 H K Kb3 Kb7 Kb10) H Inv):zA7 t0 t2 t3 t10 t11 t12 t14 t20 t21 t22 t27 t28 t29 t43 t44 t45 H K Kb3 Kb7:=
 lp2 (M:=zdW) zRg t12 t45 (by kernel_rfl) Inv n h0 round
theorem zRf {t0 t2 t3 t10 t11 t12 t20 t21 t22 t27 t28 t29:AV} {H:zaa} {K:Kt} {Kb3:Lt} (Inv:Nat→AV→AV→zaa→Prop) (n:Nat) (h0:HSc H→Inv n t12 t29 H)
  (round:Rd2 (fun t12=>fun t29=>zmA t0 t2 t3 t10 t11 t12 t20 t21 t22 t27 t28 t29) (fun t12=>fun t29=>fun H Kb7=>zsN t0 t2 t3 t10 t11 t12 t20 t21 t22 t27 t28 t29 H K Kb3 Kb7) H Inv):zmB t0 t2 t3 t10 t11 t12 t20 t21 t22 t27 t28 t29 H K Kb3:=
 lp2 (M:=zdW) zBa t12 t29 (by kernel_rfl) Inv n h0 round
theorem zRe {t0 t2 t3 t9 t20 t21 t22:AV} {H:zaa} {K:Kt} (Inv:Nat→AV→AV→zaa→Prop) (n:Nat) (h0:HSc H→Inv n t9 t22 H)
  (round:Rd2 (fun t9=>fun t22=>zhV t0 t2 t3 t9 t20 t21 t22) (fun t9=>fun t22=>fun H Kb3=>zsM t0 t2 t3 t9 t20 t21 t22 H K Kb3) H Inv):zA8 t0 t2 t3 t9 t20 t21 t22 H K:=
 lp2 (M:=zdW) zA9 t9 t22 (by kernel_rfl) Inv n h0 round
theorem zRh {t0 t1 t2 t3:AV} {H:zaa} {K:Kt} (h:HSc H→zA4 t0 t1 t2 t3 H K):ACalls tP ziY [t0,t1,t2,t3] H K:=
 zao (M:=zdW) Tryz.func78 (c:=zsO) (by kernel_rfl) (fun hs=>Eq.mpr (by kernel_rfl) (h hs))
end Go.Proofs.YtdmamdnkcefmmaaGreatDoor
namespace Go.Proofs.YtdmamdnkcefmmaaGreatDoor
open Go Go.Abs
theorem _root_.Go.Abs.ACalls.snilFull {P:Program} {f:FuncId} {us:List AV} {H:zaa} {K:AV→zaa→Prop} (h:ACalls P f us H fun r H'=>(r=.snil∧K (.sl [] .full) H')∨K r H'):ACalls P f us H K:=by
 intro B w G vs hH hv
 refine (h B w G vs hH hv).mono fun e w' ⟨v,r,H',G',h1,h2,h3,h4,h5⟩=>?_
 rcases h5 with ⟨rfl,hk⟩ | hk
 ·refine⟨v,.sl [] .full,H',G',h1,h2,h3,?_,hk⟩
  have:v=.slice none 0 0:=h4
  subst this
  exact⟨.slE _ _,_,rfl⟩
 ·exact⟨v,r,H',G',h1,h2,h3,h4,hk⟩
theorem zud (r:List IT) (hr:r.length≤1000000) (H:zaa) (K:Kt) (h0:r=[]→K (.sl [] .full) H) (h1:r≠[]→K (.sl (IT.css r) (.own H.length)) (H++[.perm zbJ 2 r.length])) :
  ACalls tP zn2 [.sl (IT.css r) .none] H K:=by
 refine ACalls.snilFull (zIi fun hs=>?_)
 cases r with
 | nil=>
  simp[zqd,IT.css,zgp,zfM,zau,zaR,plain,AV.pd,zaw,zaK,zaG]
  exact⟨.inl (h0 rfl),h0 rfl⟩
 | cons x r=>
  have:=h1 (by simp)
  simp[zqd,IT.css,zgp,zfM,zau,zaR,plain,AV.pd,zaw,zaK,zaG]
  simp only[List.length_cons]at hr
  refine⟨fun c hc=>?_,⟨by omega,by omega⟩,by simpa[IT.css]using this⟩
  rw[IT.css_map]at hc
  obtain⟨v,_,rfl⟩:=List.mem_map.1 hc
  simp
theorem zgn {H:zaa} {g:Bool} {p:(AV→zaa→Prop)→Prop} {k:AV→zaa→Prop} (r:AV) (H':zaa) (h:p fun v H2=>v=r∧H2=H') (hg:GrowA H H') (hk:k r H'):zdp .g g H p k:=⟨r,H',h,fun _=>hg,hk⟩
theorem zm5 {H:zaa} {g:Bool} {p:(AV→zaa→Prop)→Prop} {k:AV→zaa→Prop} (r:AV) (h:p fun v H2=>v=r∧H2=H) (hk:k r H):zdp .g g H p k:=⟨r,H,h,fun _=>.inl rfl,hk⟩
def zm2 (data:List Dat) (f:Nat):Prop:=∀ (t:VT) (i j:IT),i.nodes+j.nodes≤f→t.nodes≤1000→zaZ data 0 t=true→0≤rdV data i t→0≤rdV data j t→rdV data i t+rdV data j t≤6→i.nodes+j.nodes≤300 →
 ∀ (H:zaa) (K:Kt),K (.sl (zaT (za9 data f t i j)) .none) H→ACalls tP ziQ [.sl (data.map Dat.cs) .none,.agg t.cs,.agg i.cs,.agg j.cs] H K
def zh4 (data:List Dat) (f:Nat):Prop:=∀ (ts:List VT) (l m:List IT),IT.nodesL l+IT.nodesL m+1≤f→l.length=ts.length→m.length=ts.length→ts.length≤1000→(∀ x∈ts,x.nodes≤1000∧zaZ data 0 x=true)→0≤rdA data l ts 0→0≤rdA data m ts 0→rdA data l ts 0+rdA data m ts 0≤6→IT.nodesL l+IT.nodesL m≤300 →
 ∀ (H:zaa) (K:Kt),K (.sl (zaM (zcg data f ts l m)) .none) H→ACalls tP ziY [.sl (data.map Dat.cs) .none,.sl (VT.css ts) .none,.sl (IT.css l) .none,.sl (IT.css m) .none] H K
def zh3 (data:List Dat) (f:Nat):Prop:=∀ (t:VT) (l m:List IT),IT.nodesL l+IT.nodesL m+1≤f→t.nodes≤1000→zaZ data 0 t=true→t.kind=5→0≤rdE data l t 0→0≤rdE data m t 0→rdE data l t 0+rdE data m t 0≤6→IT.nodesL l+IT.nodesL m≤300 →
 ∀ (H:zaa) (K:Kt),K (.sl (zaM (zaX data f t l m)) .none) H→ACalls tP zfW [.sl (data.map Dat.cs) .none,.agg t.cs,.sl (IT.css l) .none,.sl (IT.css m) .none] H K
theorem zEM {data:List Dat} (h8:∀ D∈data,D.cons.length≤8) {f:Nat} {ts:List VT} {l m:List IT} (hf:IT.nodesL l+IT.nodesL m≤f) (hl:l.length=ts.length) (hm:m.length=ts.length) (hA:0≤rdA data l ts 0) (hB:0≤rdA data m ts 0) (h6:rdA data l ts 0+rdA data m ts 0≤6) (k:Nat) (hk:k≤ts.length) :
  (∀ r∈zch data f ts l m k,0<r.2∧r.2≤729∧r.1.length≤IT.nodesL l+IT.nodesL m)∧(zch data f ts l m k).length≤729:=by
 have hb:=zEL (f:=f) h8 hf hl hm hA hB h6 k hk
 have hp:=zo9 (zf0 data f).1 ts l m k
 have hs:∀ g:List IT→Nat,zaA g (zch data f ts l m k)=zaA g (zcf data f ts l m k):=fun g=>zpa (zfl data f).1 ts l m k g
 have a1:=zc0 l ts 0 k hl (by omega) hA
 have b1:=zc0 m ts 0 k hm (by omega) hB
 have n1:=IT.nodesL_take_le l k
 have n2:=IT.nodesL_take_le m k
 have hN:zaA (fun _=>1) (zch data f ts l m k)≤729:=by
  obtain⟨h1,h2⟩:=(zd4 h8 (f+1)).2.1 (ts.take k) (l.take k) (m.take k) (by omega) (by simp;omega) (by simp;omega) a1.1 b1.1 (by omega)
  have e:=zwa (data:=data) (f:=f) (ts:=ts) (l:=l) (m:=m) (k:=k) k (Nat.le_refl _)
  rw[zil,List.length_take,Nat.min_eq_left hk,e]at h2
  rw[hs]
  exact Nat.le_trans h2 (zeB (by omega))
 refine⟨fun r hr=>?_,Nat.le_trans (ze1 hp) hN⟩
 obtain⟨q,hq,he⟩:=zd6 hs hr (hp r hr)
 have h1:=ze5 (fun _=>1) hr
 rw[Nat.mul_one]at h1
 obtain⟨_,_,h2⟩:=hb.1 q hq
 rw[he]at h2
 have h3:=IT.len_le r.1
 exact⟨hp r hr,by omega,by omega⟩
theorem zF0 {out:List (List IT × Nat)} {ws:List (IT × Nat)} {j:Nat} (h:j<out.length):zbM (out.take (j+1)) ws=zbM (out.take j) ws++ws.map fun w=>(out[j].1++[w.1],out[j].2*w.2):=by
 rw[List.take_succ_eq_append_getElem h];simp only[zbM,List.flatMap_append,List.flatMap_cons,List.flatMap_nil,List.append_nil]
theorem zwA (ws:List (IT × Nat)):∀ out:List (List IT × Nat),(zbM out ws).length=out.length*ws.length
 | []=>by simp[zbM]
 | r::out=>by
  have:=zwA ws out
  unfold zbM at this ⊢
  rw[List.flatMap_cons,List.length_append,this,List.length_map,List.length_cons,Nat.succ_mul];omega
theorem zEP {data:List Dat} (h8:∀ D∈data,D.cons.length≤8) {f:Nat} (hM:zm2 data f):zh4 data (f+1):=by
 intro ts l m hf hl hm htl htv hA hB h6 hn H K hK
 rw[zjp]at hK
 refine ACalls.out (zRh fun hs=>?_)
 simp[zA4,Nat.add_assoc]
 refine zel 1 (by omega) _ _ ?_
 simp[zas,zaH,zau,zaR,plain,AV.pd,AV.known,zcZ,Nat.add_assoc]
 have hr2:([AV.sl [] .none::zak 1]:List (List AV))=zaM (zch data f ts l m 0):=by simp[zpb,zaM,IT.css]
 rw[hr2]
 refine zRe (Inv:=fun q t9 t22 H'=>∃ (k:Nat) (J:zaa) (tok:Tok),k≤ts.length∧ts.length-k=q∧t22=.int .i64 k∧t9=.sl (zaM (zch data f ts l m k)) tok∧H'=H++J) ts.length ?_ ?_
 ·intro _;exact⟨0,[],.full,by omega,rfl,rfl,rfl,by simp⟩
 ·rintro q t9 t22 H' ⟨k,J,tok,hk,rfl,rfl,rfl,rfl⟩ hsc' hlen hsF Kb hKb
  have hbnd:=zEM (f:=f) h8 (by omega) hl hm hA hB h6 k hk
  obtain⟨out,hout⟩:∃ out,out=zch data f ts l m k:=⟨_,rfl⟩
  rw[←hout]at hbnd hsF ⊢
  obtain⟨b1,b2⟩:=hbnd
  by_cases hlt:k<ts.length
  ·have h3:k<l.length:=by omega
   have h4:k<m.length:=by omega
   obtain⟨x1,x2,x3,hvx,hx1,hx2,hx3⟩:=zbt ts[k]
   obtain⟨y1,y2,hvy,hy1,hy2⟩:=zdJ l[k]
   obtain⟨z1,z2,hvz,hz1,hz2⟩:=zdJ m[k]
   have n1:=zd8 h3
   have n2:=zd8 h4
   have d1:=(zf1 (data:=data) l ts 0 (by omega) hl hA).1 k h3 hlt
   have d2:=(zf1 (data:=data) m ts 0 (by omega) hm hB).1 k h4 hlt
   have a1:=zc0 l ts 0 k hl (by omega) hA
   have a2:=zc0 l ts 0 (k+1) hl (by omega) hA
   have c1:=zc0 m ts 0 k hm (by omega) hB
   have c2:=zc0 m ts 0 (k+1) hm (by omega) hB
   have sl:=zf2 (data:=data) l[k] ts[k] (l.take k) (ts.take k) 0 (by simp;omega) (by omega) a1.1
   have sm:=zf2 (data:=data) m[k] ts[k] (m.take k) (ts.take k) 0 (by simp;omega) (by omega) c1.1
   rw[←List.take_succ_eq_append_getElem h3,←List.take_succ_eq_append_getElem hlt]at sl
   rw[←List.take_succ_eq_append_getElem h4,←List.take_succ_eq_append_getElem hlt]at sm
   have dd:rdV data l[k] ts[k]+rdV data m[k] ts[k]≤6:=by
    by_cases cl:rdV data l[k] ts[k]<0∨rdA data (l.take k) (ts.take k) 0+rdV data l[k] ts[k]>6
    ·rw[if_pos cl]at sl;omega
    ·rw[if_neg cl]at sl
     by_cases cm:rdV data m[k] ts[k]<0∨rdA data (m.take k) (ts.take k) 0+rdV data m[k] ts[k]>6
     ·rw[if_pos cm]at sm;omega
     ·rw[if_neg cm]at sm;omega
   obtain⟨hv1,hv2⟩:=htv _ (List.getElem_mem hlt)
   obtain⟨ws,hws⟩:∃ ws,ws=za9 data f ts[k] l[k] m[k]:=⟨_,rfl⟩
   obtain⟨p1,p2,p3,p4⟩:=ztZ h8 (f:=f) (t:=ts[k]) (i:=l[k]) (j:=m[k]) (by omega) d1 d2 dd
   rw[←hws]at p1 p2 p3 p4
   have hnext:zch data f ts l m (k+1)=zbM out ws:=by
    rw[zjo,←hout];simp[List.getD_eq_getElem?_getD,hlt,h3,h4,hws]
   generalize hHB:H++J=HB at *
   simp[zsM,hlt,hvx]
   rw[←hvx]
   refine⟨⟨hx1,hx2,hx3⟩,?_⟩
   unfold zmB
   refine ALoop.own 12 zbi 4 rfl ?_
   have hl1:(HB++[AB.cells ts[k].cs]).length=HB.length+1:=by simp
   rw[hl1,List.append_assoc]
   show zmB _ _ _ _ _ (.sl (zaM (zbM (out.take 0) ws)) (.own (HB.length+1))) _ _ _ _ _ _ (HB++[.cells ts[k].cs,.perm zbi 4 0]) _ _
   have htc:∀ n,ts[k].cs.all (AV.scA n)=true:=fun n=>by
    obtain⟨v1,v2,v3⟩:=ts[k]
    simp[VT.cs,AV.scA,AV.scB]
   have hp7:∀ n,HSc (HB++[.cells ts[k].cs,.perm zbi 4 n]):=fun n=>hsc'.append (by simp only[AB.sc,List.all_cons,List.all_nil,htc];rfl)
   have hsF9:∀ J,(AV.sl (zaM out) tok).sc (HB++J).length=true:=fun J=>by
    have h0:(AV.sl (zaM out) tok).sc HB.length=true:=by
     rw[List.all_eq_true]at hsF
     exact hsF _ (by simp[zhV,ux])
    exact zb7 (by simp) h0
   refine zRf (Inv:=fun q t12 t29 H'=>∃ j:Nat,j≤out.length∧out.length-j=q∧t29=.int .i64 j∧t12=.sl (zaM (zbM (out.take j) ws)) (.own (HB.length+1))∧H'=HB++[.cells ts[k].cs,.perm zbi 4 (zbM (out.take j) ws).length]) out.length ?_ ?_
   ·intro _;exact⟨0,by omega,rfl,rfl,rfl,by simp[zbM]⟩
   ·rintro q t12 t29 H' ⟨j,hj,rfl,rfl,rfl,rfl⟩ hsc7 hlen7 hsF7 Kb7 hKb7
    have hsl:(zbM (out.take j) ws).length≤729*729:=by
     rw[zwA]
     exact Nat.mul_le_mul (by simp;omega) p4
    by_cases hjl:j<out.length
    ·obtain⟨r1,r2,r3⟩:=b1 out[j] (List.getElem_mem hjl)
     have hstep:=zF0 (ws:=ws) hjl
     simp[zsN,hjl,h3,h4,hvx,hvy,hvz]
     rw[←hvx,←hvy,←hvz]
     refine zaE (.sl (zaT ws) .none) (fun J=>by rw[hws];exact hM ts[k] l[k] m[k] (by omega) hv1 hv2 d1 d2 dd (by omega) _ _ ⟨rfl,rfl⟩) ?_
     simp
     obtain⟨acc,hacc⟩:∃ acc,acc=zbM (out.take j) ws:=⟨_,rfl⟩
     rw[←hacc]at hsl hstep ⊢
     obtain⟨g,hg⟩:∃ g:IT × Nat→List IT × Nat,g=fun w=>(out[j].1++[w.1],out[j].2*w.2):=⟨_,rfl⟩
     rw[←hg]at hstep
     have hrc:(AV.sl (IT.css out[j].1) .none::zak (out[j].2:Int)).length=4:=by simp
     have hp10:∀ n,HSc (HB++[.cells ts[k].cs,.perm zbi 4 n,.cells (.sl (IT.css out[j].1) .none::zak (out[j].2:Int))]):=fun n=>hsc'.append (by simp only[AB.sc,List.all_cons,List.all_nil,htc];simp[zak,AV.scA,AV.scB])
     refine zRd (Inv:=fun q t12 t45 H'=>∃ i:Nat,i≤ws.length∧ws.length-i=q∧t45=.int .i64 i∧t12=.sl (zaM (acc++(ws.take i).map g)) (.own (HB.length+1))∧H'=HB++[.cells ts[k].cs,.perm zbi 4 (acc.length+i),.cells (.sl (IT.css out[j].1) .none::zak (out[j].2:Int))]) ws.length ?_ ?_
     ·intro _;exact⟨0,by omega,rfl,rfl,by simp,rfl⟩
     ·rintro q t12 t45 H' ⟨i,hi,rfl,rfl,rfl,rfl⟩ hsc10 hlen10 hsF10 Kb10 hKb10
      have hal:(acc++(ws.take i).map g).length=acc.length+i:=by simp;omega
      by_cases hil:i<ws.length
      ·obtain⟨w1,w2,_⟩:=p1 ws[i] (List.getElem_mem hil)
       have hgi:acc++(ws.take (i+1)).map g=(acc++(ws.take i).map g)++[g ws[i]]:=by
        rw[List.take_succ_eq_append_getElem hil];simp only[List.map_append,List.map_cons,List.map_nil,List.append_assoc]
       have hw2:Sm (ws[i].2:Int):=zdO (Nat.lt_of_le_of_lt w2 (by decide))
       have hr2:Sm (out[j].2:Int):=zdO (Nat.lt_of_le_of_lt r2 (by decide))
       simp[zsK,hil,zfm,zdA,zc2]
       refine⟨zfn _,?_⟩
       have hll:=r3
       have hci:∀ (a:List IT) (x:IT),IT.css a++[x.cs]=IT.css (a++[x]):=fun a x=>by rw[IT.css_map,IT.css_map,List.map_append];rfl
       have hc2:∀ (a:List IT),∀ c∈IT.css a,c.length=2:=fun a c hc=>by
        rw[IT.css_map]at hc
        obtain⟨v,_,rfl⟩:=List.mem_map.1 hc
        simp
       have hp5:plain ([.int .i64 0,.snil]:List AV)=some [.int .i64 0,.sl [] .none]:=rfl
       by_cases hr0:out[j].1=[]
       ·refine zm5 (.sl [] .full) (zud _ (by omega) _ _ (fun _=>⟨rfl,rfl⟩) (fun h=>absurd hr0 h)) ?_
        simp[zdA,zau,zaR,hp5,zjg]
        refine zgn (.sl (IT.css (out[j].1++[ws[i].1])) (.own (HB.length+4))) (HB++[.cells ts[k].cs,.perm zbi 4 (acc.length+i),.cells (.sl (IT.css out[j].1) .none::zak (out[j].2:Int)),.cells (tmC ws[i])]++[.perm zbJ 2 (out[j].1.length+1)]) ?_ (.inr (.inl ⟨_,_,_,rfl⟩)) ?_
        ·simp[zaw,zaK,zaG,hr0,IT.css]
        ·simp[zc2]
         refine zm5 (.agg (zak ((out[j].2*ws[i].2:Nat):Int))) (zmq _ _ hr2 hw2 _ _ ⟨by rw[Int.natCast_mul],rfl⟩) ?_
         have hpl:plain (AV.sl (IT.css (out[j].1++[ws[i].1])) (.own (HB.length+4))::zak ((out[j].2*ws[i].2:Nat):Int))=some (.sl (IT.css (out[j].1++[ws[i].1])) .none::zak ((out[j].2*ws[i].2:Nat):Int)):=by simp[plain,AV.pd,zcZ]
         have hp4:plain ([.snil,.bool false,.snil,.snil]:List AV)=some [.sl [] .none,.bool false,.sl [] .none,.sl [] .none]:=rfl
         have hrq:zaM (acc++(ws.take i).map g)++[.sl (IT.css (out[j].1++[ws[i].1])) .none::zak ((out[j].2*ws[i].2:Nat):Int)]=zaM (acc++(ws.take (i+1)).map g):=by
          rw[hgi,zpc _ [g ws[i]],hg];rfl
         rw[Int.natCast_mul]at hpl hrq
         simp only[List.map_take]at hrq
         simp[zas,zaH,hpl,hp4]
         have hmin:min i ws.length=i:=by omega
         refine zgn (.sl (zaM (acc++List.take (i+1) (List.map g ws))) (.own (HB.length+1))) (HB++[.cells ts[k].cs,.perm zbi 4 (acc.length+(i+1)),.cells (.sl (IT.css out[j].1) .none::zak (out[j].2:Int)),.cells (tmC ws[i]),.perm zbJ 2 (out[j].1.length+1)]) ?_ (.inr (.inr (.inl ⟨HB.length+1,zbi,4,acc.length+i,acc.length+(i+1),by simp,by simp[List.set_append_right]⟩))) ?_
         ·simp[zaw,zaK,zaG,List.set_append_right,hmin]
          exact⟨⟨by omega,by omega⟩,hrq,by omega⟩
         ·rw[wi i (by omega)]
          exact hKb10 _ _ ⟨ws.length-(i+1),by omega,Back.at (J:=[.cells (tmC ws[i]),.perm zbJ 2 (out[j].1.length+1)]) (H2:=HB++[.cells ts[k].cs,.perm zbi 4 (acc.length+(i+1)),.cells (.sl (IT.css out[j].1) .none::zak (out[j].2:Int))]) (by simp) (by simp) (hp10 _) (by
           have:=hsF9 [.cells ts[k].cs,.perm zbi 4 (acc.length+(i+1)),.cells (.sl (IT.css out[j].1) .none::zak (out[j].2:Int))]
           simp only[zhU,ux,List.all_cons,List.all_append,List.all_replicate,List.all_nil,this]
           simp[AV.sc,AV.scA,AV.scB,AV.scV]) ⟨_,_,rfl,i+1,by omega,rfl,rfl,by simp only[List.map_take],rfl⟩⟩
       ·refine zgn (.sl (IT.css out[j].1) (.own (HB.length+4))) (HB++[.cells ts[k].cs,.perm zbi 4 (acc.length+i),.cells (.sl (IT.css out[j].1) .none::zak (out[j].2:Int)),.cells (tmC ws[i])]++[.perm zbJ 2 out[j].1.length]) (zud _ (by omega) _ _ (fun h=>absurd h hr0) (fun _=>⟨by simp,by simp⟩)) (.inr (.inl ⟨_,_,_,rfl⟩)) ?_
        simp[zdA,zau,zaR,hp5,zjg]
        refine zgn (.sl (IT.css (out[j].1++[ws[i].1])) (.own (HB.length+4))) (HB++[.cells ts[k].cs,.perm zbi 4 (acc.length+i),.cells (.sl (IT.css out[j].1) .none::zak (out[j].2:Int)),.cells (tmC ws[i])]++[.perm zbJ 2 (out[j].1.length+1)]) ?_ (.inr (.inr (.inl ⟨HB.length+4,zbJ,2,out[j].1.length,out[j].1.length+1,by simp,by simp[List.set_append_right]⟩))) ?_
        ·simp[zaw,zaK,zaG,List.set_append_right,hci]
         omega
        ·simp[zc2]
         refine zm5 (.agg (zak ((out[j].2*ws[i].2:Nat):Int))) (zmq _ _ hr2 hw2 _ _ ⟨by rw[Int.natCast_mul],rfl⟩) ?_
         have hpl:plain (AV.sl (IT.css (out[j].1++[ws[i].1])) (.own (HB.length+4))::zak ((out[j].2*ws[i].2:Nat):Int))=some (.sl (IT.css (out[j].1++[ws[i].1])) .none::zak ((out[j].2*ws[i].2:Nat):Int)):=by simp[plain,AV.pd,zcZ]
         have hp4:plain ([.snil,.bool false,.snil,.snil]:List AV)=some [.sl [] .none,.bool false,.sl [] .none,.sl [] .none]:=rfl
         have hrq:zaM (acc++(ws.take i).map g)++[.sl (IT.css (out[j].1++[ws[i].1])) .none::zak ((out[j].2*ws[i].2:Nat):Int)]=zaM (acc++(ws.take (i+1)).map g):=by
          rw[hgi,zpc _ [g ws[i]],hg];rfl
         rw[Int.natCast_mul]at hpl hrq
         simp only[List.map_take]at hrq
         simp[zas,zaH,hpl,hp4]
         have hmin:min i ws.length=i:=by omega
         refine zgn (.sl (zaM (acc++List.take (i+1) (List.map g ws))) (.own (HB.length+1))) (HB++[.cells ts[k].cs,.perm zbi 4 (acc.length+(i+1)),.cells (.sl (IT.css out[j].1) .none::zak (out[j].2:Int)),.cells (tmC ws[i]),.perm zbJ 2 (out[j].1.length+1)]) ?_ (.inr (.inr (.inl ⟨HB.length+1,zbi,4,acc.length+i,acc.length+(i+1),by simp,by simp[List.set_append_right]⟩))) ?_
         ·simp[zaw,zaK,zaG,List.set_append_right,hmin]
          exact⟨⟨by omega,by omega⟩,hrq,by omega⟩
         ·rw[wi i (by omega)]
          exact hKb10 _ _ ⟨ws.length-(i+1),by omega,Back.at (J:=[.cells (tmC ws[i]),.perm zbJ 2 (out[j].1.length+1)]) (H2:=HB++[.cells ts[k].cs,.perm zbi 4 (acc.length+(i+1)),.cells (.sl (IT.css out[j].1) .none::zak (out[j].2:Int))]) (by simp) (by simp) (hp10 _) (by
           have:=hsF9 [.cells ts[k].cs,.perm zbi 4 (acc.length+(i+1)),.cells (.sl (IT.css out[j].1) .none::zak (out[j].2:Int))]
           simp only[zhU,ux,List.all_cons,List.all_append,List.all_replicate,List.all_nil,this]
           simp[AV.sc,AV.scA,AV.scB,AV.scV]) ⟨_,_,rfl,i+1,by omega,rfl,rfl,by simp only[List.map_take],rfl⟩⟩
      ·obtain rfl:i=ws.length:=by omega
       rw[List.take_length,←hstep]
       simp[zsK,wi j (by omega)]
       have hlen10:acc.length+ws.length=(zbM (out.take (j+1)) ws).length:=by rw[hstep];simp
       exact hKb7 _ _ ⟨out.length-(j+1),by omega,Back.at (J:=[.cells (.sl (IT.css out[j].1) .none::zak (out[j].2:Int))]) (H2:=HB++[.cells ts[k].cs,.perm zbi 4 (zbM (out.take (j+1)) ws).length]) (by rw[←hlen10];simp) (by simp) (hp7 _) (by
        have:=hsF9 [.cells ts[k].cs,.perm zbi 4 (zbM (out.take (j+1)) ws).length]
        simp only[zmA,ux,List.all_cons,List.all_append,List.all_replicate,List.all_nil,this]
        simp[AV.sc,AV.scA,AV.scB,AV.scV]) ⟨_,_,rfl,j+1,by omega,rfl,rfl,rfl,rfl⟩⟩
    ·obtain rfl:j=out.length:=by omega
     rw[List.take_length]at hsl ⊢
     simp[zsN,wi k (by omega)]
     exact hKb _ _ ⟨ts.length-(k+1),by omega,Back.here (by simp;omega) (hp7 _) (by simp[zhV,ux,AV.sc,AV.scA,AV.scB,AV.scV]) ⟨_,_,rfl,k+1,J++[.cells ts[k].cs,.perm zbi 4 (zbM out ws).length],.own (HB.length+1),by omega,rfl,rfl,by rw[hnext],by rw[←hHB];simp⟩⟩
  ·obtain rfl:k=ts.length:=by omega
   rw[←hout]at hK
   simp[zsM]
   exact Out.at (b:=.sl (zaM out) .none) rfl (Nat.le_refl _) hs (.atom (.sl _ _)) rfl rfl hK
end Go.Proofs.YtdmamdnkcefmmaaGreatDoor
