import Derived.Test.YtjkkonpjecoieaaGreatKN6
import Derived.Test.YtjkkonpjecoieaaGreatKME
import Derived.Test.YtjkkonpjecoieaaGreatCH
import Derived.Test.YtjkkonpjecoieaaGreatKUE
set_option linter.unusedSimpArgs false
set_option linter.unusedVariables false
namespace Go.Proofs.YtjkkonpjecoieaaGreat
open Go Go.Abs
set_option maxRecDepth 8000
theorem zqV (a b:Nat) (ha:(lim a).length≤1000) (hb0:0<b) (hb:b<1000000000) (H:zaa) (K:Kt)
  (hK:K (.tup [.sl (zat (lim (a / b))) .none,.sl (zat (lim (a % b))) .none]) H) :
  ACalls tP zhw [.sl (zat (lim a)) .none,.sl (zat (lim b)) .none] H K:=by
 refine ACalls.out (zHB fun hs=>?_)
 have hlb:lim b=[b]:=zfp (by omega) hb
 simp only[zyG]
 refine zB9 a b ha (by rw[hlb];simp) _ _ ?_
 have hcz:(zdF a b<0)↔a<b:=by
  unfold zdF
  split
  ·simp;assumption
  ·split <;> simp <;> omega
 by_cases hlt:a<b
 ·simp[hcz,hlt]
  refine zqX (lim a) (by omega) _ _ ?_
  rw[zh8 _ (zcW a),zcj]
  rw[Nat.div_eq_of_lt hlt,Nat.mod_eq_of_lt hlt,zEw]at hK
  refine⟨⟨rfl,rfl⟩,?_⟩
  exact Out.tup0 (bs:=[.sl (zat []) .none,.sl (zat (lim a)) .none]) hs hK ⟨zer,slV,trivial⟩
 ·have w1:IntKind.u64.wrap (b:Int)=b:=zcA (by omega)
  have hm:a % b<b:=Nat.mod_lt _ hb0
  simp[hcz,hlt,hlb,w1]
  refine zJS (lim a) (zcW a) ha b hb0 (by omega) (by omega) _ _ ?_
  rw[zcj]
  simp
  refine zB0 (a % b) (by omega) _ _ ?_
  refine⟨⟨rfl,rfl⟩,?_⟩
  exact Out.tup0 (bs:=[.sl (zat (lim (a / b))) .none,.sl (zat (lim (a % b))) .none]) hs hK ⟨slV,slV,trivial⟩
theorem zHw (a b:Nat) (ha:(lim a).length≤1000) (hb:b<1000000000) (H:zaa) (K:Kt) (hK:K (.sl (zat (lim (Nat.gcd a b))) .none) H) :
  ACalls tP zo3 [.sl (zat (lim a)) .none,.sl (zat (lim b)) .none] H K:=by
 refine ACalls.out (zHu fun hs=>?_)
 unfold zyE
 refine zHs (Inv:=fun q t0 t1 H'=>∃ x y:Nat,y=q∧t0=.sl (zat (lim x)) .none∧t1=.sl (zat (lim y)) .none∧(lim x).length≤1000∧y<1000000000∧Nat.gcd x y=Nat.gcd a b∧H'=H) b ?_ ?_
 ·intro _;exact⟨a,b,rfl,rfl,rfl,ha,hb,rfl,rfl⟩
 ·rintro q t0 t1 H' ⟨x,y,rfl,rfl,rfl,hx,hy,hg,rfl⟩ hsc' hlen hsF Kb hKb
  by_cases h0:y=0
  ·subst h0
   rw[Nat.gcd_zero_right]at hg
   subst hg
   simp[zqS]
   exact Out.one0 hs (.atom (.sl _ _)) rfl rfl hK
  ·have hly:lim y=[y]:=zfp h0 hy
   have hm:x % y<y:=Nat.mod_lt _ (by omega)
   simp[zqS,show 0<(lim y).length by rw[hly];simp]
   refine zqV x y hx (by omega) hy _ _ ?_
   simp
   refine hKb _ _ ⟨x % y,hm,Back.here (by simp) hs (by simp[zkC,ux,AV.sc,AV.scA,AV.scB,AV.scV]) ⟨_,_,rfl,y,x % y,rfl,rfl,rfl,by rw[hly];simp,by omega,?_,rfl⟩⟩
   rw[←hg,Nat.gcd_comm x y,Nat.gcd_rec y x,Nat.gcd_comm]
def zak (z:Int):List AV:=[.bool (decide (z<0)),.sl (zat (lim z.natAbs)) .none,.sl (zat [1]) .none]
theorem zQG (neg:Bool) (N D:List Nat) (hN:∀ x∈N,x<4294967296) (hD:∀ x∈D,x<4294967296) (hNl:N.length≤10000) (hDl:D.length≤10000) (n:Nat) (hnl:(lim n).length≤900) (d:Nat) (hd0:0<d) (hd:d<1000000000)
  (hn:zas N=n*d) (hdv:zas D=d) (H:zaa) (K:Kt) (hK:K (.agg (zak (if neg then -(n:Int) else n))) H) :
  ACalls tP zde [.bool neg,.sl (zat N) .none,.sl (zat D) .none] H K:=by
 refine ACalls.out (zQF fun hs=>?_)
 have hld:lim d=[d]:=zfp (by omega) hd
 simp[zBY]
 refine zyD N hN (by omega) _ _ ?_
 refine zyD D hD (by omega) _ _ ?_
 rw[hn,hdv]
 have hnd:(lim (n*d)).length≤1000:=by
  have h1:=zeK (lim n) (zcW n)
  rw[zcj]at h1
  have h2:n*d<1000000000 ^ ((lim n).length+1):=by
   rw[Nat.pow_succ]
   exact Nat.mul_lt_mul'' h1 hd
  have:=zfo h2
  omega
 by_cases h0:n=0
 ·subst h0
  have e0:(if neg=true then -((0:Nat):Int) else ((0:Nat):Int))=0:=by cases neg <;> rfl
  rw[e0]at hK
  simp[zaB,zbf,zaF,AV.pd,zaz,zaV,zfn]
  have e1:zak 0=[.bool false,.sl [] .none,.sl [[.int .u32 1]] .none]:=by simp[zak,zat]
  rw[e1]at hK
  exact Out.one hs (WkV.agg (ds:=[.bool false,.sl [] .none,.sl [[.int .u32 1]] .none]) ⟨.refl _,.snil,.sl _ _,trivial⟩) rfl (by simp[AV.scV,AV.scA,AV.scB]) hK
 ·have hpos:0<(lim (n*d)).length:=by
   rw[zdw (Nat.mul_ne_zero h0 (by omega))];simp
  have hg:Nat.gcd (n*d) d=d:=Nat.gcd_eq_right (Nat.dvd_mul_left d n)
  have hb0:(((lim (n*d)).length:Int) == 0)=false:=by
   generalize (lim (n*d)).length=q at hpos
   simp;omega
  have hfin:zmY (.bool neg) (.sl (zat (lim n)) .none) (.sl (zat [1]) .none) (.ptr H.length 0) (H++[.cells [.bool false,.snil,.snil]]) (Out H.length K):=by
   simp[zmY,zaz,zaV,zfn]
   have e1:zak (if neg=true then -(n:Int) else n)=[.bool neg,.sl (zat (lim n)) .none,.sl (zat [1]) .none]:=by
    cases neg
    ·simp[zak]
    ·simp[zak];omega
   rw[e1]at hK
   exact Out.one hs (WkV.agg (ds:=[.bool neg,.sl (zat (lim n)) .none,.sl (zat [1]) .none]) ⟨.refl _,.sl _ _,.sl _ _,trivial⟩) rfl (by simp[AV.scV,AV.scA,AV.scB]) hK
  simp[hb0,hld]
  rw[show ([d]:List Nat)=lim d from hld.symm]
  refine zHw (n*d) d hnd hd _ _ ?_
  rw[hg,hld]
  by_cases hd1:d=1
  ·subst hd1
   simp
   simpa using hfin
  ·have hne:((d:Int) != 1)=true:=by simp;omega
   simp[hne]
   rw[show ([d]:List Nat)=lim d from hld.symm]
   refine zqV (n*d) d hnd hd0 hd _ _ ?_
   simp
   refine zqV d d (by rw[hld];simp) hd0 hd _ _ ?_
   rw[Nat.div_self hd0,Nat.mul_div_cancel _ hd0,show lim 1=[1] from zfp (by omega) (by omega)]
   simp
   exact hfin
def Sm (z:Int):Prop:=z.natAbs<1000000000 ^ 30
theorem Sm.len {z:Int} (h:Sm z):(lim z.natAbs).length≤30:=zfo h
theorem zht:lim 1=[1]:=zfp (by omega) (by omega)
theorem zwe (n:Nat):∀ x∈lim n,x<4294967296:=fun x hx=>by have:=zcW n x hx;omega
@[simp] theorem zFh (z:Int):(zak z).length=3:=rfl
@[simp] theorem zh0 (z:Int):(zak z).all AV.known=true:=rfl
theorem zp6 (z:Int) (n:Nat):(zak z).all (AV.scA n)=true:=rfl
theorem zcF {H J:zaa} {K:Kt} {z:Int} (hs:HSc H) (hK:K (.agg (zak z)) H):Out H.length K (.agg (zak z)) (H++J):=Out.one hs .rfl' rfl rfl hK
theorem zvl (neg:Bool) (n d:Nat) (hn:n*d<1000000000 ^ 100) (hd0:0<d) (hd:d<1000000000) {z:Int} (hz:(if neg=true then -(n:Int) else n)=z) (H:zaa) (K:Kt) (hK:K (.agg (zak z)) H) :
  ACalls tP zde [.bool neg,.sl (zat (lim (n*d))) .none,.sl (zat (lim d)) .none] H K:=by
 subst hz
 have h1:=zfo hn
 have h2:n<1000000000 ^ 100:=Nat.lt_of_le_of_lt (Nat.le_mul_of_pos_right n hd0) hn
 have h3:=zfo h2
 exact zQG neg _ _ (zwe _) (zwe _) (by omega) (by rw[zfp (by omega) hd];simp) n (by omega) d hd0 hd (zcj _) (zcj _) H K hK
theorem zff (neg:Bool) (n:Nat) (hn:n<1000000000 ^ 100) {z:Int} (hz:(if neg=true then -(n:Int) else n)=z) (H:zaa) (K:Kt) (hK:K (.agg (zak z)) H) :
  ACalls tP zde [.bool neg,.sl (zat (lim n)) .none,.sl (zat [1]) .none] H K:=by
 have:=zvl neg n 1 (by simpa using hn) (by omega) (by omega) hz H K hK
 rwa [zht,Nat.mul_one]at this
theorem zop:(1000000000:Nat) ^ 30≤1000000000 ^ 100:=Nat.pow_le_pow_right (by omega) (by omega)
theorem zEB {a b:Nat} (ha:a<1000000000 ^ 30) (hb:b<1000000000 ^ 30):a*b<1000000000 ^ 100:=by
 have:=Nat.mul_lt_mul'' ha hb
 rw[←Nat.pow_add]at this
 exact Nat.lt_of_lt_of_le this (Nat.pow_le_pow_right (by omega) (by omega))
theorem zcr (n:Nat) (hn:n<9223372036854775808) (H:zaa) (K:Kt) (hK:K (.agg (zak n)) H):ACalls tP zb3 [.int .i64 n] H K:=by
 refine ACalls.out (zMZ fun hs=>?_)
 have w1:IntKind.u64.wrap (n:Int)=n:=zcA (by omega)
 have h0:¬ ((n:Int)<0):=by omega
 simp[zAv,h0,w1]
 refine zB0 n (by omega) _ _ ?_
 simp[zaB,zbf,zaF,AV.pd]
 refine ACalls.wk (args':=[.bool false,.sl (zat (lim n)) .none,.sl (zat [1]) .none]) (zff false n (by omega) (z:=n) (by simp) _ _ ?_) ⟨.rfl',.rfl',.atom (.sl _ _),trivial⟩
 simp[zh0]
 exact zcF hs hK
theorem ze5 (z:Int) (hz:Sm z) (H:zaa) (K:Kt) (hK:K (.agg (zak z)) H):ACalls tP zdH [.agg (zak z)] H K:=by
 refine ACalls.out (zQP fun hs=>?_)
 simp[zB1,zak]
 refine zff _ _ (Nat.lt_of_lt_of_le hz zop) (z:=z) (by split <;> simp_all <;> omega) _ _ ?_
 simp
 exact zcF hs hK
theorem zIt (z:Int) (hz:Sm z) (H:zaa) (K:Kt) (hK:K (.agg (zak (-z))) H):ACalls tP zo7 [.agg (zak z)] H K:=by
 refine ACalls.out (zIs fun hs=>?_)
 simp[zy0,zak]
 refine zff _ _ (Nat.lt_of_lt_of_le hz zop) (z:=-z) (by split <;> simp_all <;> omega) _ _ ?_
 simp
 exact zcF hs hK
theorem znq (z:Int) (hz:Sm z) (H:zaa) (K:Kt) (hK:K (.int .i64 z.sign) H):ACalls tP zfv [.agg (zak z)] H K:=by
 refine ACalls.out (zRF fun hs=>?_)
 simp[zCg,zak]
 refine ze5 z hz _ _ ?_
 simp[zak]
 by_cases h0:z=0
 ·subst h0
  simp
  exact Out.int (J:=_) rfl (Nat.le_refl _) hs hK
 ·have hp:0<(lim z.natAbs).length:=by rw[zdw (by omega)];simp
  have hb:(((lim z.natAbs).length:Int) == 0)=false:=by
   generalize (lim z.natAbs).length=q at hp
   simp;omega
  simp[hb]
  by_cases hn:z<0
  ·simp[hn]
   rw[Int.sign_eq_neg_one_of_neg hn]at hK
   exact Out.int (J:=_) rfl (Nat.le_refl _) hs hK
  ·simp[hn]
   rw[Int.sign_eq_one_of_pos (by omega)]at hK
   exact Out.int (J:=_) rfl (Nat.le_refl _) hs hK
theorem zja (a b:Nat) (ha:a<1000000000 ^ 30) (hb:b<1000000000 ^ 30) (H:zaa) (K:Kt) (hK:K (.sl (zat (lim (a*b))) .none) H):ACalls tP zdf [.sl (zat (lim a)) .none,.sl (zat (lim b)) .none] H K:=by
 have h1:=zfo ha
 have h2:=zfo hb
 refine zQX (lim a) (lim b) (zcW a) (zcW b) (by omega) (by omega) _ _ ?_
 rw[zcj,zcj];exact hK
theorem zjW:(1:Nat)<1000000000 ^ 30:=by decide
theorem zwr (H:zaa) (K:Kt) (hK:K (.sl (zat [1]) .none) H):ACalls tP zdf [.sl (zat [1]) .none,.sl (zat [1]) .none] H K:=by
 have:=zja 1 1 zjW zjW H K (by rw[Nat.mul_one,zht];exact hK)
 rwa [zht]at this
theorem zo2 (a:Nat) (ha:a<1000000000 ^ 30) (H:zaa) (K:Kt) (hK:K (.sl (zat (lim a)) .none) H):ACalls tP zdf [.sl (zat (lim a)) .none,.sl (zat [1]) .none] H K:=by
 have:=zja a 1 ha zjW H K (by rw[Nat.mul_one];exact hK)
 rwa [zht]at this
theorem zEA (a:Nat) (ha:a<1000000000 ^ 30) (H:zaa) (K:Kt) (hK:K (.sl (zat (lim a)) .none) H):ACalls tP zdf [.sl (zat [1]) .none,.sl (zat (lim a)) .none] H K:=by
 have:=zja 1 a zjW ha H K (by rw[Nat.one_mul];exact hK)
 rwa [zht]at this
theorem zFQ (a b:Int):(if (decide (a<0) != decide (b<0))=true then -((a.natAbs*b.natAbs:Nat):Int) else ((a.natAbs*b.natAbs:Nat):Int))=a*b:=by
 rw[←Int.natAbs_mul]
 by_cases ha:a<0 <;> by_cases hb:b<0 <;> simp[ha,hb]
 ·have:=Int.mul_pos_of_neg_of_neg ha hb;omega
 ·have:=Int.mul_nonpos_of_nonpos_of_nonneg (Int.le_of_lt ha) (by omega:0≤b);omega
 ·have:=Int.mul_nonpos_of_nonneg_of_nonpos (by omega:0≤a) (Int.le_of_lt hb);omega
 ·have:=Int.mul_nonneg (by omega:0≤a) (by omega:0≤b);omega
theorem zdR (a b:Int) (ha:Sm a) (hb:Sm b) (H:zaa) (K:Kt) (hK:K (.agg (zak (a*b))) H):ACalls tP zdd [.agg (zak a),.agg (zak b)] H K:=by
 refine ACalls.out (zM5 fun hs=>?_)
 simp[zAD,zak,Nat.add_assoc]
 refine zaH (.agg (zak a)) (fun J=>ze5 a ha _ _ ⟨rfl,rfl⟩) ?_
 refine zaH (.agg (zak b)) (fun J=>ze5 b hb _ _ ⟨rfl,rfl⟩) ?_
 simp[zak,AV.known,Nat.add_assoc]
 refine zaH (.sl (zat (lim (a.natAbs*b.natAbs))) .none) (fun J=>zja _ _ ha hb _ _ ⟨rfl,rfl⟩) ?_
 refine zaH (.sl (zat [1]) .none) (fun J=>zwr _ _ ⟨rfl,rfl⟩) ?_
 refine zaH (.agg (zak (a*b))) (fun J=>zff _ _ (zEB ha hb) (zFQ a b) _ _ ⟨rfl,rfl⟩) ?_
 simp[Nat.add_assoc]
 exact zcF hs hK
theorem zio (a b:Int) (ha:Sm a) (hb:Sm b) (H:zaa) (K:Kt) (hK:K (.agg (zak (a+b))) H):ACalls tP zfs [.agg (zak a),.agg (zak b)] H K:=by
 refine ACalls.out (zNp fun hs=>?_)
 have la:=ha.len
 have lb:=hb.len
 simp[zAF,zak,Nat.add_assoc]
 refine zaH (.agg (zak a)) (fun J=>ze5 a ha _ _ ⟨rfl,rfl⟩) ?_
 refine zaH (.agg (zak b)) (fun J=>ze5 b hb _ _ ⟨rfl,rfl⟩) ?_
 simp[zak,AV.known,Nat.add_assoc]
 refine zaH (.sl (zat (lim a.natAbs)) .none) (fun J=>zo2 _ ha _ _ ⟨rfl,rfl⟩) ?_
 refine zaH (.sl (zat (lim b.natAbs)) .none) (fun J=>zo2 _ hb _ _ ⟨rfl,rfl⟩) ?_
 refine zwr _ _ ?_
 simp[Nat.add_assoc]
 have hbig:∀ n:Nat,n≤a.natAbs+b.natAbs→n<1000000000 ^ 100:=by
  intro n hn
  have h1:(1000000000:Nat) ^ 30+1000000000 ^ 30≤1000000000 ^ 100:=by decide
  unfold Sm at ha hb
  omega
 have hsub:∀ x y:Int,Sm x→Sm y→y.natAbs≤x.natAbs→∀ (H:zaa) (K:Kt),K (.sl (zat (lim (x.natAbs-y.natAbs))) .none) H→ACalls tP zhM [.sl (zat (lim x.natAbs)) .none,.sl (zat (lim y.natAbs)) .none] H K:=by
  intro x y hx hy hxy H K hK
  refine zRh (lim x.natAbs) (lim y.natAbs) (zcW _) (zcW _) (by have:=hx.len;omega) ?_ (by rw[zcj,zcj];exact hxy) _ _ (by rw[zcj,zcj];exact hK)
  refine Nat.le_of_not_lt fun h=>?_
  have:=zoY h
  omega
 by_cases hsg:decide (a<0)=decide (b<0)
 ·have hsg':(decide (a<0) == decide (b<0))=true:=by simpa using hsg
  simp[hsg',Nat.add_assoc]
  refine zaH (.sl (zat (lim (a.natAbs+b.natAbs))) .none) (fun J=>zQ4 _ _ (zcW _) (zcW _) (by omega) (by omega) _ _ (by rw[zcj]) (by rw[zcj]) (by rw[zcj,zcj];exact⟨rfl,rfl⟩)) ?_
  refine zaH (.agg (zak (a+b))) (fun J=>zff _ _ (hbig _ (Nat.le_refl _)) (by
   by_cases h1:a<0 <;> by_cases h2:b<0 <;> simp[h1,h2]at hsg ⊢ <;> omega) _ _ ⟨rfl,rfl⟩) ?_
  simp[Nat.add_assoc]
  exact zcF hs hK
 ·have hsg':(decide (a<0) == decide (b<0))=false:=by simpa using hsg
  simp[hsg',Nat.add_assoc]
  refine zB9 _ _ (by omega) (by omega) _ _ ?_
  have hcz:(0≤zdF a.natAbs b.natAbs)↔b.natAbs≤a.natAbs:=by
   unfold zdF
   split
   ·simp;omega
   ·split <;> simp <;> omega
  by_cases hle:b.natAbs≤a.natAbs
  ·simp[hcz,hle,Nat.add_assoc]
   refine zaH (.sl (zat (lim (a.natAbs-b.natAbs))) .none) (fun J=>hsub a b ha hb hle _ _ ⟨rfl,rfl⟩) ?_
   refine zaH (.agg (zak (a+b))) (fun J=>zff _ _ (hbig _ (by omega)) (by
    by_cases h1:a<0 <;> by_cases h2:b<0 <;> simp[h1,h2]at hsg ⊢ <;> omega) _ _ ⟨rfl,rfl⟩) ?_
   simp[Nat.add_assoc]
   exact zcF hs hK
  ·simp[hcz,hle,Nat.add_assoc]
   refine zaH (.sl (zat (lim (b.natAbs-a.natAbs))) .none) (fun J=>hsub b a hb ha (by omega) _ _ ⟨rfl,rfl⟩) ?_
   refine zaH (.agg (zak (a+b))) (fun J=>zff _ _ (hbig _ (by omega)) (by
    by_cases h1:a<0 <;> by_cases h2:b<0 <;> simp[h1,h2]at hsg ⊢ <;> omega) _ _ ⟨rfl,rfl⟩) ?_
   simp[Nat.add_assoc]
   exact zcF hs hK
theorem Sm.neg {z:Int} (h:Sm z):Sm (-z):=by unfold Sm at h ⊢;rwa [Int.natAbs_neg]
theorem zCi (a b:Int) (ha:Sm a) (hb:Sm b) (H:zaa) (K:Kt) (hK:K (.agg (zak (a-b))) H):ACalls tP zjI [.agg (zak a),.agg (zak b)] H K:=by
 refine ACalls.out (zRI fun hs=>?_)
 simp[zCh,zak,Nat.add_assoc]
 refine zaH (.agg (zak (-b))) (fun J=>zIt b hb _ _ ⟨rfl,rfl⟩) ?_
 refine zaH (.agg (zak (a-b))) (fun J=>zio a (-b) ha hb.neg _ _ ⟨by rw[Int.sub_eq_add_neg],rfl⟩) ?_
 simp[Nat.add_assoc]
 exact zcF hs hK
theorem zzt (q d:Nat) (hq:q*d<1000000000 ^ 30) (hd0:0<d) (hd:d<1000000000) (H:zaa) (K:Kt) (hK:K (.tup [.agg (zak q),.bool true]) H) :
  ACalls tP zjm [.agg (zak ((q*d:Nat):Int)),.agg (zak d)] H K:=by
 refine ACalls.out (zKb fun hs=>?_)
 have hdS:(d:Nat)<1000000000 ^ 30:=Nat.lt_of_lt_of_le hd (by decide)
 have ha:Sm ((q*d:Nat):Int):=by unfold Sm;rw[Int.natAbs_natCast];exact hq
 have hb:Sm (d:Int):=by unfold Sm;rw[Int.natAbs_natCast];exact hdS
 have ea:(zak ((q*d:Nat):Int))=[.bool false,.sl (zat (lim (q*d))) .none,.sl (zat [1]) .none]:=by
  unfold zak;rw[Int.natAbs_natCast,decide_eq_false (by omega)]
 have eb:(zak (d:Int))=[.bool false,.sl (zat (lim d)) .none,.sl (zat [1]) .none]:=by
  unfold zak;rw[Int.natAbs_natCast,decide_eq_false (by omega)]
 have hld:lim d=[d]:=zfp (by omega) hd
 rw[ea,eb]
 simp[zzs,Nat.add_assoc]
 refine zaH (.agg (zak ((q*d:Nat):Int))) (fun J=>by rw[←ea];exact ze5 _ ha _ _ ⟨rfl,rfl⟩) ?_
 refine zaH (.agg (zak (d:Int))) (fun J=>by rw[←eb];exact ze5 _ hb _ _ ⟨rfl,rfl⟩) ?_
 rw[ea,eb]
 simp[AV.known,Nat.add_assoc,show (lim d).length=1 by rw[hld];rfl]
 refine zaH (.sl (zat (lim (q*d))) .none) (fun J=>zo2 _ hq _ _ ⟨rfl,rfl⟩) ?_
 refine zaH (.sl (zat (lim d)) .none) (fun J=>zEA _ hdS _ _ ⟨rfl,rfl⟩) ?_
 refine zaH (.agg (zak q)) (fun J=>zvl false q d (Nat.lt_of_lt_of_le hq zop) hd0 hd (by simp) _ _ ⟨rfl,rfl⟩) ?_
 simp[Nat.add_assoc]
 exact⟨⟨rfl,rfl⟩,Out.tup (bs:=[.agg (zak q),.bool true]) hs hK ⟨za4 rfl rfl,za4 rfl rfl,trivial⟩⟩
theorem zc1 {n:Nat} (h:n<1000000000 ^ 30):Sm (n:Int):=by unfold Sm;rw[Int.natAbs_natCast];exact h
theorem zvq {n k:Nat} (hn:n≤1000000) (hk:k≤40):chs n k≤1000000 ^ 40:=by
 refine Nat.le_trans (ziV n k) ?_
 by_cases h0:n=0
 ·subst h0
  by_cases hk0:k=0
  ·subst hk0;simp
  ·rw[Nat.zero_pow (by omega)];omega
 ·exact Nat.le_trans (Nat.pow_le_pow_left hn k) (Nat.pow_le_pow_right (by omega) hk)
@[simp] theorem zXg (z:Int):List.take 3 (zak z)=zak z:=rfl
@[simp] theorem zXf (z:Int):List.drop 3 (zak z)=[]:=rfl
@[simp] theorem zbU (z:Int):(∀ x∈zak z,x.known=true)=True:=by simp[zak,AV.known]
theorem zJF (n k:Nat) (hn:n≤1000000) (hk:k≤40) (H:zaa) (K:Kt) (hK:K (.agg (zak (chs n k))) H) :
  ACalls tP zpd [.agg (zak n),.int .i64 k] H K:=by
 refine ACalls.out (zJD fun hs=>?_)
 have hS:∀ m:Nat,m≤1000000 ^ 41→Sm (m:Int):=fun m hm=>zc1 (Nat.lt_of_le_of_lt hm (by decide))
 simp[zzi,Nat.add_assoc]
 refine zcr 1 (by omega) _ _ ?_
 simp[Nat.add_assoc]
 have hsc:∀ z:Int,HSc (H++[.cells (zak n),.cells [.bool false,.snil,.snil],.cells (zak z)]):=fun z=>hs.append (by simp[AB.sc,zak,AV.scA,AV.scB])
 refine zJB (Inv:=fun q t6 H'=>∃ i:Nat,i≤k∧k-i=q∧t6=.int .i64 i∧H'=H++[.cells (zak n),.cells [.bool false,.snil,.snil],.cells (zak ((chs n i:Nat):Int))]) k ?_ ?_
 ·intro _;exact⟨0,by omega,rfl,rfl,by simp⟩
 ·rintro q t6 H' ⟨i,hi,rfl,rfl,rfl⟩ hsc' hlen hsF Kb hKb
  by_cases hlt:i<k
  ·have hci:=zvq (n:=n) (k:=i) hn (by omega)
   have hci1:=zvq (n:=n) (k:=i+1) hn (by omega)
   have hstep:=ziW n i
   obtain⟨m,hm0⟩:∃ m,m=chs n (i+1)*(i+1):=⟨_,rfl⟩
   have hmb:m≤1000000 ^ 41:=by
    rw[hm0]
    calc _≤1000000 ^ 40*1000000:=Nat.mul_le_mul hci1 (by omega)
     _=1000000 ^ 41:=(Nat.pow_succ ..).symm
   have hm:((chs n i:Nat):Int)*((n:Int)-(i:Int))=(m:Int):=by
    rw[hm0,Nat.mul_comm,hstep]
    by_cases h:i≤n
    ·rw[Int.natCast_mul,Int.natCast_sub h]
    ·rw[zha (by omega)];simp
   simp[zrA,hlt,Nat.add_assoc,wi i (by omega)]
   refine zaH (.agg (zak i)) (fun J=>zcr i (by omega) _ _ ⟨rfl,rfl⟩) ?_
   refine zaH (.agg (zak ((n:Int)-i))) (fun J=>zCi n i (hS _ (by omega)) (hS _ (by omega)) _ _ ⟨rfl,rfl⟩) ?_
   refine zaH (.agg (zak (m:Int))) (fun J=>zdR _ _ (hS _ (by omega)) (by
    have:((n:Int)-i).natAbs≤1000000:=by omega
    exact Nat.lt_of_le_of_lt this (by decide)) _ _ ⟨by rw[hm],rfl⟩) ?_
   simp[Nat.add_assoc]
   refine zaH (.agg (zak ((i+1:Nat):Int))) (fun J=>zcr (i+1) (by omega) _ _ ⟨rfl,rfl⟩) ?_
   refine zaH (.tup [.agg (zak ((chs n (i+1):Nat):Int)),.bool true]) (fun J=>by
    rw[hm0]
    exact zzt (chs n (i+1)) (i+1) (by rw[←hm0];exact Nat.lt_of_le_of_lt hmb (by decide)) (by omega) (by omega) _ _ ⟨rfl,rfl⟩) ?_
   simp[Nat.add_assoc]
   exact hKb _ _ ⟨k-(i+1),by omega,Back.here (by simp) (hsc _) (by simp[zld,ux,AV.sc,AV.scA,AV.scB,AV.scV]) ⟨_,rfl,i+1,by omega,rfl,rfl,rfl⟩⟩
  ·obtain rfl:i=k:=by omega
   simp[zrA,Nat.add_assoc]
   exact zcF hs hK
theorem zTB (n k:Nat) (hn:n≤1000000) (hk:k≤40) (H:zaa) (K:Kt) (hK:K (.agg (zak (chs n k))) H) :
  ACalls tP zpP [.agg (zak n),.int .i64 k] H K:=by
 refine ACalls.out (zTA fun hs=>?_)
 simp[zCQ,Nat.add_assoc]
 refine znq n (zc1 (Nat.lt_of_le_of_lt hn (by decide))) _ _ ?_
 have h0:¬ ((n:Int).sign<0):=by
  by_cases h:n=0
  ·subst h;decide
  ·rw[Int.sign_eq_one_of_pos (by omega)];decide
 simp[h0,Nat.add_assoc,zuB]
 refine zJF n k hn hk _ _ ?_
 simp[Nat.add_assoc]
 exact zcF hs hK
structure AtOk (data:List Dat) (i:IT) (t v:VT):Prop where
 tn:t.nodes≤1000
 tv:zaR data 0 t=true
 rd:0≤rdV data i t
 hv:zav data v t=true
 vn:v.nodes≤1000
 inn:i.nodes≤900
theorem AtOk.le {data:List Dat} {i:IT} {t v:VT} (h8:∀ D∈data,D.cons.length≤8) (h:AtOk data i t v):atV data i t v≤1000 ^ 6:=by
 have h1:=zom (N:=1000) (by omega) i t v h.vn h.rd
 have h2:=zqa (h8:=h8) i t
 exact Nat.le_trans h1 (Nat.pow_le_pow_right (by omega) (by omega))
def zgX (data:List Dat) (m:Nat):Prop:=∀ i:IT,i.nodes≤m→∀ t v:VT,AtOk data i t v→∀ (H:zaa) (K:Kt),K (.agg (zak ((atV data i t v:Nat):Int))) H →
 ACalls tP zgp [.sl (data.map Dat.cs) .none,.agg t.cs,.agg i.cs,.agg v.cs] H K
theorem zcx {n k:Nat} (h:n≤1000 ^ k) (hk:k≤60):Sm (n:Int):=zc1 (Nat.lt_of_le_of_lt h (Nat.lt_of_le_of_lt (Nat.pow_le_pow_right (by omega) hk) (by decide)))
theorem zCP {data:List Dat} (h8:∀ D∈data,D.cons.length≤8) {m:Nat} (hat:zgX data m) (ks:List IT) (ts vs:List VT) (hl1:ks.length=ts.length) (hl2:vs.length=ts.length) (hl:ts.length≤1000)
  (hok:∀ (i:Nat) (h1:i<ks.length) (h2:i<ts.length) (h3:i<vs.length),(ks[i]).nodes≤m∧AtOk data ks[i] ts[i] vs[i]) (hrd:0≤rdA data ks ts 0) (H:zaa) (K:Kt) (hK:K (.agg (zak ((atL data ks ts vs:Nat):Int))) H) :
  ACalls tP zhS [.sl (data.map Dat.cs) .none,.sl (VT.css ts) .none,.sl (IT.css ks) .none,.sl (VT.css vs) .none] H K:=by
 refine ACalls.out (zTw fun hs=>?_)
 simp[zCN,Nat.add_assoc]
 refine zcr 1 (by omega) _ _ ?_
 simp[Nat.add_assoc]
 have hsc:∀ z:Int,HSc (H++[.cells [.bool false,.snil,.snil],.cells (zak z)]):=fun z=>hs.append (by simp[AB.sc,zak,AV.scA,AV.scB])
 refine zTu (Inv:=fun q t14 H'=>∃ (i p:Nat) (a:Int),i≤ts.length∧ts.length-i=q∧t14=.int .i64 i∧0≤a∧a≤6∧p≤1000 ^ a.toNat∧0≤rdA data (ks.drop i) (ts.drop i) a ∧
  p*atL data (ks.drop i) (ts.drop i) (vs.drop i)=atL data ks ts vs∧H'=H++[.cells [.bool false,.snil,.snil],.cells (zak (p:Int))]) ts.length ?_ ?_
 ·intro _;exact⟨0,1,0,by omega,rfl,rfl,by omega,by omega,by simp,by simpa using hrd,by simp,rfl⟩
 ·rintro q t14 H' ⟨i,p,a,hi,rfl,rfl,ha0,ha6,hp,hr,hprod,rfl⟩ hsc' hlen hsF Kb hKb
  by_cases hlt:i<ts.length
  ·have hk:i<ks.length:=by omega
   have hvv:i<vs.length:=by omega
   obtain⟨hin,hA⟩:=hok i hk hlt hvv
   obtain⟨x,y,z,hvx,hx,hy,hz⟩:=zaO ts[i]
   obtain⟨x2,y2,z2,hvx2,hx2,hy2,hz2⟩:=zaO vs[i]
   obtain⟨x3,y3,hvx3,hx3,hy3⟩:=zb2 ks[i]
   rw[List.drop_eq_getElem_cons hk,List.drop_eq_getElem_cons hlt]at hr
   rw[List.drop_eq_getElem_cons hk,List.drop_eq_getElem_cons hlt,List.drop_eq_getElem_cons hvv]at hprod
   simp only[rdA]at hr
   simp only[atL]at hprod
   by_cases hc:rdV data ks[i] ts[i]<0∨a+rdV data ks[i] ts[i]>6
   ·rw[if_pos hc]at hr;omega
   ·rw[if_neg hc]at hr
    have hle:=zom (N:=1000) (by omega) ks[i] ts[i] vs[i] hA.vn hA.rd
    have hpm:p*atV data ks[i] ts[i] vs[i]≤1000 ^ (a+rdV data ks[i] ts[i]).toNat:=by
     rw[show (a+rdV data ks[i] ts[i]).toNat=a.toNat+(rdV data ks[i] ts[i]).toNat by omega,Nat.pow_add]
     exact Nat.mul_le_mul hp hle
    simp[zuz,hlt,hk,hvv,hvx,hvx2,hvx3,Nat.add_assoc,wi i (by omega)]
    rw[←hvx,←hvx2,←hvx3]
    refine zaH (.agg (zak ((atV data ks[i] ts[i] vs[i]:Nat):Int))) (fun J=>hat ks[i] hin ts[i] vs[i] hA _ _ ⟨rfl,rfl⟩) ?_
    refine zaH (.agg (zak ((p*atV data ks[i] ts[i] vs[i]:Nat):Int))) (fun J=>zdR _ _ (zcx hp (by omega)) (zcx (hA.le h8) (by omega)) _ _ ⟨by rw[Int.natCast_mul],rfl⟩) ?_
    obtain⟨p',hp'⟩:∃ p',p'=p*atV data ks[i] ts[i] vs[i]:=⟨_,rfl⟩
    rw[←hp']at hpm ⊢
    simp[Nat.add_assoc]
    exact hKb _ _ ⟨ts.length-(i+1),by omega,Back.here (by simp) (hsc _) (by simp[znX,ux,AV.sc,AV.scA,AV.scB,AV.scV]) ⟨_,rfl,i+1,p',a+rdV data ks[i] ts[i],by omega,rfl,rfl,by omega,by omega,hpm,hr,by rw[hp',←hprod,Nat.mul_assoc],rfl⟩⟩
  ·obtain rfl:i=ts.length:=by omega
   rw[List.drop_of_length_le (by omega)]at hprod
   simp only[atL,Nat.mul_one]at hprod
   subst hprod
   simp[zuz,Nat.add_assoc]
   exact zcF hs hK
theorem zDv {data:List Dat} (hk:za2 data) (h8:∀ D∈data,D.cons.length≤8) {m:Nat} (hat:zgX data m)
  (hdata:∀ (i:IT),i.nodes≤m+1→∀ (n tn:Int) (ks:List IT) (tks:List VT) (v:VT),i=.mk n ks→AtOk data i (.mk 5 tn tks) v→∀ (H:zaa) (K:Kt),K (.agg (zak ((atV data i (.mk 5 tn tks) v:Nat):Int))) H →
   ACalls tP zgp [.sl (data.map Dat.cs) .none,.agg (VT.mk 5 tn tks).cs,.agg i.cs,.agg v.cs] H K):zgX data (m+1):=by
 intro i hi t v hA H K hK
 obtain⟨k,tn,tks⟩:=t
 obtain⟨n,ks⟩:=i
 by_cases h5:k=5
 ·subst h5
  exact hdata _ hi n tn ks tks v rfl hA H K hK
 ·refine ACalls.out (zBT fun hs=>?_)
  obtain⟨vk,vn,vks⟩:=v
  have hrd:=hA.rd
  have hvv:=hA.hv
  rw[rdV]at hrd
  by_cases h6:k=6
  ·subst h6
   simp only[VT.kind,VT.kids,if_true]at hrd
   by_cases hn:n=0
   ·by_cases hl:tks.length=ks.length
    ·subst hn
     have hrd:0≤rdA data ks tks 0:=by
      have h0:=hrd
      simp[hl]at h0
      exact h0
     simp[zav]at hvv
     have hvl:=zho hvv.2
     have hinv:=(zd2 (data:=data) ks tks 0 (by omega) hl.symm hrd).1
     have e:atV data (.mk 0 ks) (.mk 6 tn tks) (.mk vk vn vks)=atL data ks tks vks:=by simp[atV,VT.kind,VT.kids]
     rw[e]at hK
     have htn:=hA.tn
     have hvn:=hA.vn
     have hin:=hA.inn
     have htl:=VT.len_le tks
     have e1:(VT.mk 6 tn tks).nodes=VT.nodesL tks+1:=by simp[VT.nodes]
     simp[zis,VT.cs,IT.cs,Nat.add_assoc]
     refine zCP h8 hat ks tks vks hl.symm (by omega) (by omega) (fun i h1 h2 h3=>?_) hrd _ _ ?_
     ·have g1:=IT.kid_lt (n:=0) h1
      have g2:=VT.kid_lt (k:=6) (n:=tn) h2
      have g3:=VT.kid_lt (k:=vk) (n:=vn) h3
      exact⟨by omega,⟨by omega,zko hA.tv _ (List.getElem_mem h2),hinv i h1 h2,zge hvv.2 i h3 h2,by omega,by omega⟩⟩
     ·simp[Nat.add_assoc]
      exact zcF hs hK
    ·simp[hn,hl]at hrd
   ·simp[hn]at hrd
  ·by_cases h7:k=7
   ·subst h7
    simp[VT.kind]at hrd
    by_cases hc:0≤n∧n≤6∧ks=[]
    ·obtain⟨c1,c2,rfl⟩:=hc
     obtain⟨j,rfl⟩:∃ j:Nat,n=j:=⟨n.toNat,by omega⟩
     have e:atV data (.mk j []) (.mk 7 tn tks) (.mk vk vn vks)=chs vks.length j:=by simp[atV,VT.kind,VT.kids]
     rw[e]at hK
     have hvn:=hA.vn
     have hvl:=VT.len_le vks
     have e1:(VT.mk vk vn vks).nodes=VT.nodesL vks+1:=by simp[VT.nodes]
     simp[zis,VT.cs,IT.cs,Nat.add_assoc]
     refine zaH (.agg (zak ((vks.length:Nat):Int))) (fun J=>zcr _ (by omega) _ _ ⟨rfl,rfl⟩) ?_
     refine zaH (.agg (zak ((chs vks.length j:Nat):Int))) (fun J=>zTB _ _ (by omega) (by omega) _ _ ⟨rfl,rfl⟩) ?_
     simp[Nat.add_assoc]
     exact zcF hs hK
    ·rw[if_neg hc]at hrd;omega
   ·have e:atV data (.mk n ks) (.mk k tn tks) (.mk vk vn vks)=1:=by simp[atV,VT.kind,h5,h6,h7]
    rw[e]at hK
    have b6:(k == 6)=false:=by simpa using h6
    have b7:(k == 7)=false:=by simpa using h7
    have b5:(k == 5)=false:=by simpa using h5
    simp[zis,VT.cs,IT.cs,Nat.add_assoc,b6,b7,b5]
    refine zcr 1 (by omega) _ _ ?_
    simp[Nat.add_assoc]
    exact zcF hs hK
def zrC:List AV:=[.bool false,.snil,.snil]
def rz (l:List Nat):List AV:=(l.map fun (z:Nat)=>zak (z:Int)).flatten
def zz (m:Nat):List AV:=(List.replicate m zrC).flatten
@[simp] theorem zXk (l:List Nat):(rz l).length=l.length*3:=by
 induction l with
 | nil=>rfl
 | cons x l ih=>simp only[rz,List.map_cons,List.flatten_cons,List.length_append,zFh,List.length_cons]at ih ⊢;omega
@[simp] theorem zXJ (m:Nat):(zz m).length=m*3:=by
 induction m with
 | zero=>rfl
 | succ m ih=>simp only[zz,List.replicate_succ,List.flatten_cons,List.length_append]at ih ⊢;rw[ih];simp[zrC];omega
theorem zuF (m:Nat):zz (m+1)=zrC++zz m:=by simp[zz,List.replicate_succ]
theorem zgz (a b:List Nat):rz (a++b)=rz a++rz b:=by simp[rz]
theorem zqi (x:Nat):rz [x]=zak (x:Int):=by simp[rz]
theorem zxp (l:List Nat) (n:Nat):(rz l).all (AV.scA n)=true:=by
 induction l with
 | nil=>rfl
 | cons x l ih=>rw[show rz (x::l)=zak (x:Int)++rz l from rfl,List.all_append,ih];rfl
theorem zTT (m n:Nat):(zz m).all (AV.scA n)=true:=by
 induction m with
 | zero=>rfl
 | succ m ih=>rw[zuF,List.all_append,ih];rfl
theorem zFH (l:List Nat) (m x:Nat):(rz l++zz (m+1)).take (l.length*3)++zak (x:Int)++(rz l++zz (m+1)).drop (l.length*3+3)=rz (l++[x])++zz m:=by
 rw[List.take_left' (by simp),zuF,←List.append_assoc (rz l),List.drop_left' (by simp[zrC]),zgz,zqi]
theorem zFI (l:List Nat) (k x:Nat) (h:k<l.length):(rz l).take (k*3)++zak (x:Int)++(rz l).drop (k*3+3)=rz (l.set k x):=by
 have e:rz l=rz (l.take k)++(zak ((l[k]:Nat):Int)++rz (l.drop (k+1))):=by
  rw[←zqi,←zgz,←zgz]
  congr 1
  rw[List.singleton_append,←List.drop_eq_getElem_cons h,List.take_append_drop]
 have hl:(rz (l.take k)).length=k*3:=by simp[Nat.min_eq_left (Nat.le_of_lt h)]
 have e1:(rz l).take (k*3)=rz (l.take k):=by rw[e,List.take_left' hl]
 have e2:(rz l).drop (k*3+3)=rz (l.drop (k+1)):=by
  rw[e,←List.append_assoc,List.drop_left' (by simp[hl])]
 rw[e1,e2,List.set_eq_take_append_cons_drop,if_pos h,zgz,show rz (x::l.drop (k+1))=zak (x:Int)++rz (l.drop (k+1)) from rfl,List.append_assoc]
theorem zqh (l:List Nat) (k:Nat) (h:k<l.length):((rz l).drop (k*3)).take 3=zak ((l[k]:Nat):Int):=by
 have e:rz l=rz (l.take k)++(zak ((l[k]:Nat):Int)++rz (l.drop (k+1))):=by
  rw[←zqi,←zgz,←zgz]
  congr 1
  rw[List.singleton_append,←List.drop_eq_getElem_cons h,List.take_append_drop]
 have hl:(rz (l.take k)).length=k*3:=by simp[Nat.min_eq_left (Nat.le_of_lt h)]
 rw[e,List.drop_left' hl,List.take_left' (by simp)]
theorem zj2 {data:List Dat} {k n:Int} {ks:List VT} {c:Int} {l:List VT} (hk:za2 data) (hf:zaU data (.mk k n ks) c=some l) :
  ∃ bs,(zbm data n.toNat).getD c.toNat []=bs∧l.length=bs.length∧l.length≤8∧za8 data (.mk k n ks) c=some (pick l bs)∧(∀ x∈l,x.nodes≤200)∧k=5 ∧
   (∀ H K,K (.sl (zby bs) .none) H→ACalls tP zek [.sl (data.map Dat.cs) .none,.int .i64 n,.int .i64 c] H K) ∧
   (∀ H K,K (.sl (zby bs) .none) H→ACalls tP zeQ [.sl (data.map Dat.cs) .none,.int .i64 n,.int .i64 c] H K) ∧
   (∀ j,bs.getD j false=true→l.getD j tz=.mk 5 n ks)∧0≤c∧∃ (hn:n.toNat<data.length) (hc:c.toNat<(data[n.toNat]).cons.length),l.length=((data[n.toNat]).cons[c.toNat]).args.length:=by
 obtain⟨k5,n0,c0,hn,hc,hv,rfl,h200⟩:=zf9 hf
 obtain⟨f1,f2,f3⟩:=zdG hk
 have hd:=List.getElem_mem hn
 have hcm:=List.getElem_mem hc
 obtain⟨g1,g2⟩:=f2 _ hd _ hcm
 have g3:=f3 _ hd
 have h8:=((hk.2 _ hd).2.2 _ hcm).2.1
 refine⟨zbV n.toNat data[n.toNat] (data[n.toNat]).cons[c.toNat],by simp[zbm,hn,hc,List.getD_eq_getElem?_getD],by simp[zbV],by simpa using h8,?_,h200,k5,fun H K hK=>?_,fun H K hK=>?_,fun j hj=>?_,c0,hn,hc,by simp⟩
 ·simp[za8,hf,zbm,hn,hc,List.getD_eq_getElem?_getD,VT.num]
 ·have:=zt8 data n.toNat c.toNat hn hc f1 g3 (by omega) (fun x hx=>by have:=g2 x hx;omega) H K (by simpa[zby,zbV,Function.comp_def]using hK)
  rwa [Int.toNat_of_nonneg n0,Int.toNat_of_nonneg c0]at this
 ·have:=zrl data n.toNat c.toNat hn hc f1 g3 (by omega) (fun x hx=>by have:=g2 x hx;omega) H K hK
  rwa [Int.toNat_of_nonneg n0,Int.toNat_of_nonneg c0]at this
 ·have hjl:j<((data[n.toNat]).cons[c.toNat]).args.length:=by
   refine Nat.lt_of_not_le fun hle=>?_
   rw[List.getD_eq_getElem?_getD,List.getElem?_eq_none (by simpa[zbV]using hle)]at hj
   simp at hj
  simp only[List.getD_eq_getElem?_getD,zbV,List.getElem?_map,List.getElem?_eq_getElem hjl,Option.map_some,Option.getD_some]at hj ⊢
  rw[zxv hj hv,Int.toNat_of_nonneg n0]
theorem zqH {data:List Dat} {t:VT} (ht:zaR data 0 t=true):za1 data 0 t=true:=by
 rw[zaR,Bool.and_eq_true]at ht;exact ht.2
theorem zxD:∀ l:List IT,l=(l.map fun x=>[x]).flatten
 | []=>rfl
 | x::l=>by rw[List.map_cons,List.flatten_cons,←zxD l];rfl
theorem zj8 {data:List Dat} (h8:∀ D∈data,D.cons.length≤8) {t:VT} {ks:List IT} (h:0≤rdE data ks t 0) {j:Nat} (hj:j<ks.length) {c:Int} {eks:List IT} (he:ks[j]=.mk c eks) :
  ∃ ps,za8 data t c=some ps∧ps.length=eks.length∧0≤rdA data eks ps 0∧rdA data eks ps 0≤6:=by
 rw[zxD ks]at h
 have h1:=(zeT h8 t (ks.map fun x=>[x]) 0 (by omega) (by omega) h).1 [ks[j]] (List.mem_map.2 ⟨ks[j],List.getElem_mem hj,rfl⟩)
 rw[he,zd3]at h1
 split at h1
 ·omega
 ·split at h1
  ·omega
  ·rename_i ps hp
   split at h1
   ·rename_i hl
    split at h1
    ·omega
    ·rename_i hc
     exact⟨ps,hp,hl,by omega,by omega⟩
   ·omega
theorem zpS {data:List Dat} {n c:Int} {tks nks l:List VT} {bs:List Bool} (hh:zav data (.mk 5 c nks) (.mk 5 n tks)=true) (hf:zaU data (.mk 5 n tks) c=some l) (hlb:l.length=bs.length) :
  nks.length=l.length∧∀ i (h1:i<(pick nks bs).length) (h2:i<(pick l bs).length),zav data (pick nks bs)[i] (pick l bs)[i]=true:=by
 have hl:zbI data nks l=true:=by
  simp[zav]at hh
  rw[hf,zhn]at hh
  exact hh.2
 have hlen:=zho hl
 refine⟨hlen,fun i h1 h2=>?_⟩
 have e1:=zdz (l:=nks) (bs:=bs) (by omega) tz nks.length (Nat.le_refl _)
 have e2:=zdz (l:=l) (bs:=bs) hlb tz l.length (Nat.le_refl _)
 rw[List.take_length,hlen,hlb,List.take_length]at e1
 rw[List.take_length,hlb,List.take_length]at e2
 have hp:i<(pos false bs bs.length).length:=by rw[e1]at h1;simpa using h1
 have hq:=zd1 (List.getElem_mem hp)
 have g1:(pick nks bs)[i]=nks[(pos false bs bs.length)[i]]'(by omega):=by
  simp only[e1,List.getElem_map,List.getD_eq_getElem?_getD]
  rw[List.getElem?_eq_getElem (by omega),Option.getD_some]
 have g2:(pick l bs)[i]=l[(pos false bs bs.length)[i]]'(by omega):=by
  simp only[e2,List.getElem_map,List.getD_eq_getElem?_getD]
  rw[List.getElem?_eq_getElem (by omega),Option.getD_some]
 rw[g1,g2]
 exact zge hl _ (by omega) (by omega)
def hpA (H:zaa) (tn:Int) (tks:List VT) (ks:List IT) (vk vn:Int) (vks:List VT) (c:List AV):zaa:=
 H++[.cells [.int .i64 5,.int .i64 tn,.sl (VT.css tks) .none],.cells [.int .i64 0,.sl (IT.css ks) .none],.cells [.int .i64 vk,.int .i64 vn,.sl (VT.css vks) .none],.cells [.bool false,.snil,.snil],.cells c]
theorem zv1 {H:zaa} (hs:HSc H) {tn:Int} {tks:List VT} {ks:List IT} {vk vn:Int} {vks:List VT} {c:List AV} (hc:∀ n,c.all (AV.scA n)=true):HSc (hpA H tn tks ks vk vn vks c):=
 hs.append (by simp only[AB.sc,List.all_cons,List.all_nil,hc];simp[AV.scA,AV.scB])
theorem zDu {data:List Dat} (hk:za2 data) (hD:zbe data=true) (h8:∀ D∈data,D.cons.length≤8) {m:Nat} (hat:zgX data m) (n tn:Int) (ks:List IT) (tks:List VT) (v:VT) (hin:(IT.mk n ks).nodes≤m+1)
  (hA:AtOk data (.mk n ks) (.mk 5 tn tks) v) (H:zaa) (K:Kt) (hK:K (.agg (zak ((atV data (.mk n ks) (.mk 5 tn tks) v:Nat):Int))) H) :
  ACalls tP zgp [.sl (data.map Dat.cs) .none,.agg (VT.mk 5 tn tks).cs,.agg (IT.mk n ks).cs,.agg v.cs] H K:=by
 refine ACalls.out (zBT fun hs=>?_)
 obtain⟨vk,vn,vks⟩:=v
 have hrd:=hA.rd
 have hvv:=hA.hv
 rw[rdV]at hrd
 simp[VT.kind]at hrd
 obtain⟨hv5,htn0,_⟩:=zfk hvv
 obtain⟨d,rfl⟩:∃ d:Nat,tn=d:=⟨tn.toNat,by omega⟩
 by_cases hn:n=0∧ks.length≤6
 ·rw[if_pos hn]at hrd
  obtain⟨rfl,hl6⟩:=hn
  have e:atV data (.mk 0 ks) (.mk 5 d tks) (.mk vk vn vks)=zar (wtL data ks (.mk 5 d tks)) (zbq (zbm data d) (.mk vk vn vks)):=by simp[atV,VT.kind,VT.num]
  rw[e]at hK
  have hnv:=zw0 (data:=data) (n:=d) (al:=tks) _ (.mk vk vn vks) (Nat.le_refl _) hvv
  have hnn:=zw1 (zbm data d) 1000 (.mk vk vn vks) hA.vn
  have hnl:=zj5 (zbm data d) (.mk vk vn vks)
  have hvn:=hA.vn
  generalize hN:zbq (zbm data d) (.mk vk vn vks)=N at *
  generalize hW:wtL data ks (.mk 5 d tks)=W at *
  have hWl:W.length=ks.length:=by rw[←hW,zfF];simp
  have w1:IntKind.i64.wrap ((ks.length:Int)+1)=((ks.length+1:Nat):Int):=wi _ (by omega)
  simp[zis,VT.cs,IT.cs,Nat.add_assoc,w1,zbr]
  refine⟨⟨by omega,by omega,by omega⟩,?_⟩
  refine zcr 1 (by omega) _ _ ?_
  have hcss:∀ c,(hpA H d tks ks vk vn vks c).length=H.length+5:=fun c=>by simp[hpA]
  have hz0:(List.replicate (ks.length+1) [AV.bool false,AV.snil,AV.snil]).flatten=zz (ks.length+1):=rfl
  simp[Nat.add_assoc,hz0,zuF,zrC,zbU]
  refine⟨by omega,?_⟩
  show ztz (.sl (data.map Dat.cs) .none) (.ptr H.length 0) (.ptr (H.length+1) 0) (.ptr (H.length+2) 0) (.ptr (H.length+3) 0) (.ms (H.length+4) 0 (ks.length+1) (ks.length+1)) (.int .i64 1) (hpA H d tks ks vk vn vks (rz [1]++zz ks.length)) (Out H.length K)
  refine zQk (Inv:=fun q t10 H'=>∃ j:Nat,1≤j∧j≤ks.length+1∧ks.length+1-j=q∧t10=.int .i64 j∧H'=hpA H d tks ks vk vn vks (rz (1::List.replicate (j-1) 0)++zz (ks.length+1-j))) ks.length ?_ ?_
  ·intro _;exact⟨1,by omega,by omega,by omega,rfl,by simp⟩
  ·rintro q t10 H' ⟨j,hj0,hj,rfl,rfl,rfl⟩ hsc' hlen hsF Kb hKb
   by_cases hlt:j<ks.length+1
   ·have hfl:=zFH (1::List.replicate (j-1) 0) (ks.length-j) 0
    have el:(1::List.replicate (j-1) 0).length=j:=by simp;omega
    rw[el,show ks.length-j+1=ks.length+1-j by omega]at hfl
    have er:(1::List.replicate (j-1) 0)++[0]=1::List.replicate (j+1-1) 0:=by
     rw[List.cons_append,←List.replicate_succ',show j-1+1=j+1-1 by omega]
    rw[er]at hfl
    have hfl2:=(List.append_assoc ..).symm.trans hfl
    simp only[ztt]
    have hlt':(j:Int)<(ks.length:Int)+1:=by omega
    simp[hlt,hlt',wi j (by omega),Nat.add_assoc]
    refine zcr 0 (by omega) _ _ ?_
    simp[hpA,Nat.add_assoc]
    refine⟨by omega,?_⟩
    have hfl3:List.take (j*3) (rz (1::List.replicate (j-1) 0)++zz (ks.length+1-j))++(zak 0++List.drop (j*3+3) (rz (1::List.replicate (j-1) 0)++zz (ks.length+1-j)))=rz (1::List.replicate (j+1-1) 0)++zz (ks.length-j):=hfl2
    rw[hfl3]
    exact hKb _ _ ⟨ks.length+1-(j+1),by omega,Back.here (by simp[hpA]) (zv1 hs fun n=>by rw[List.all_append,zxp,zTT];rfl) (by simp[zmP,ux,AV.sc,AV.scA,AV.scB,AV.scV]) ⟨_,rfl,j+1,by omega,by omega,rfl,rfl,by rw[show ks.length+1-(j+1)=ks.length-j by omega];rfl⟩⟩
   ·obtain rfl:j=ks.length+1:=by omega
    simp[ztt,hpA,Nat.add_assoc]
    refine zTF hk (n:=d) (al:=tks) (.mk vk vn vks) (by omega) hvv _ _ ?_
    rw[hN,show zz 0=[] from rfl,List.append_nil]
    simp
    show ztA _ _ _ _ _ _ _ _ (hpA H d tks ks vk vn vks (rz (1::List.replicate ks.length 0))) _
    have hcsc:∀ M:List Nat,HSc (hpA H d tks ks vk vn vks (rz M)):=fun M=>zv1 hs fun n=>zxp M n
    refine zQl (Inv:=fun q t69 H'=>∃ (p:Nat) (M:List Nat),p≤N.length∧N.length-p=q∧t69=.int .i64 p∧M.length=ks.length+1∧(∀ (j:Nat) (h:j<M.length),M[j]=zar (W.take j) (N.take p))∧H'=hpA H d tks ks vk vn vks (rz M)) N.length ?_ ?_
    ·intro _
     refine⟨0,_,by omega,rfl,rfl,by simp,fun j h=>?_,rfl⟩
     have h':j<ks.length+1:=by simpa using h
     rw[List.take_zero,zxy]
     cases j with
     | zero=>simp
     | succ j=>
      have:W.take (j+1)≠[]:=by
       intro h0
       have:=congrArg List.length h0
       simp at this
       rw[this]at hWl
       simp at hWl
       omega
      simp[this]
    ·rintro q t69 H' ⟨p,M,hp,rfl,rfl,hMl,hM,rfl⟩ hsc'' hlen' hsF' Kb14 hKb14
     by_cases hpl:p<N.length
     ·cases hnode:N[p] with
      | mk nk cn nks=>
      simp[ztu,hpl,hnode,VT.cs,hpA,Nat.add_assoc]
      have hnhas:=hnv N[p] (List.getElem_mem hpl)
      have hnno:=hnn N[p] (List.getElem_mem hpl)
      rw[hnode]at hnhas hnno
      obtain⟨rfl,_,hcn0,_⟩:=zfk hnhas
      have hB:∀ M J,(hpA H d tks ks vk vn vks (rz M)++[AB.cells [.int .i64 5,.int .i64 cn,.sl (VT.css nks) .none]]++J)=H++([.cells [.int .i64 5,.int .i64 d,.sl (VT.css tks) .none],.cells [.int .i64 0,.sl (IT.css ks) .none],.cells [.int .i64 vk,.int .i64 vn,.sl (VT.css vks) .none],.cells [.bool false,.snil,.snil],.cells (rz M),.cells [.int .i64 5,.int .i64 cn,.sl (VT.css nks) .none]]++J):=fun M J=>by simp[hpA]
      have hBsc:∀ M,HSc (hpA H d tks ks vk vn vks (rz M)++[AB.cells [.int .i64 5,.int .i64 cn,.sl (VT.css nks) .none]]):=fun M=>(hcsc M).append (by simp[AB.sc,AV.scA,AV.scB])
      refine zQm (Inv:=fun q t13 H'=>∃ (k:Nat) (M':List Nat),k≤ks.length∧k=q∧t13=.int .i64 k∧M'.length=ks.length+1∧(∀ (j:Nat) (h:j<M'.length),M'[j]=if j≤k then zar (W.take j) (N.take p) else zar (W.take j) (N.take (p+1))) ∧
       H'=hpA H d tks ks vk vn vks (rz M')++[AB.cells [.int .i64 5,.int .i64 cn,.sl (VT.css nks) .none]]) ks.length ?_ ?_
      ·intro _
       exact⟨ks.length,M,by omega,rfl,rfl,hMl,fun j h=>by rw[if_pos (by omega)];exact hM j h,by simp[hpA]⟩
      ·rintro q t13 H' ⟨k,M',hk2,rfl,rfl,hMl',hM',rfl⟩ hsc3 hlen3 hsF3 Kb17 hKb17
       by_cases hk0:k=0
       ·subst hk0
        simp[zmO,wi p (by omega)]
        refine hKb14 _ _ ⟨N.length-(p+1),by omega,Back.at (J:=[AB.cells [.int .i64 5,.int .i64 cn,.sl (VT.css nks) .none]]) (H2:=hpA H d tks ks vk vn vks (rz M')) rfl (by simp[hpA]) (hcsc M') (by simp[zmQ,ux,AV.sc,AV.scA,AV.scB,AV.scV,hpA]) ⟨_,rfl,p+1,M',by omega,rfl,rfl,hMl',fun j h=>?_,rfl⟩⟩
        rw[hM' j h]
        split
        ·rename_i h0
         obtain rfl:j=0:=by omega
         simp[zar]
        ·rfl
       ·obtain⟨j,rfl⟩:∃ j,k=j+1:=⟨k-1,by omega⟩
        have hjk:j<ks.length:=by omega
        have hjW:j<W.length:=by omega
        cases hel:ks[j] with
        | mk c eks=>
        have hWj:W[j]=wtE data (.mk c eks) (.mk 5 d tks):=by
         have:W=ks.map fun e=>wtE data e (.mk 5 d tks):=by rw[←hW,zfF]
         simp[this,hel]
        have hsn:=zkd W[j] N[p] (W.take j) (N.take p)
        rw[←List.take_succ_eq_append_getElem hjW,←List.take_succ_eq_append_getElem hpl]at hsn
        have hwd:IntKind.i64.wrap (((j+1:Nat):Int)-1)=(j:Int):=by rw[wd _ (by omega) (by omega)];simp
        have hwd2:IntKind.i64.wrap ((j:Int)+1-1)=(j:Int):=by simpa using hwd
        have hnextM:∀ x:Nat,x=zar (W.take (j+1)) (N.take (p+1))→∀ (i:Nat) (h:i<(M'.set (j+1) x).length),(M'.set (j+1) x)[i]=if i≤j then zar (W.take i) (N.take p) else zar (W.take i) (N.take (p+1)):=by
         intro x hx i h
         by_cases hij:i=j+1
         ·subst hij
          rw[List.getElem_set_self,if_neg (by omega)];exact hx
         ·rw[List.getElem_set_ne (fun e=>hij e.symm),hM' i (by simpa using h)]
          by_cases h2:i≤j
          ·rw[if_pos (by omega),if_pos h2]
          ·rw[if_neg (by omega),if_neg h2]
        have hwj:IntKind.i64.wrap (j:Int)=(j:Int):=zau (by omega) (by omega)
        have hX:∀ M,hpA H d tks ks vk vn vks (rz M)++[AB.cells [.int .i64 5,.int .i64 cn,.sl (VT.css nks) .none]]=H++[.cells [.int .i64 5,.int .i64 d,.sl (VT.css tks) .none],.cells [.int .i64 0,.sl (IT.css ks) .none],.cells [.int .i64 vk,.int .i64 vn,.sl (VT.css vks) .none],.cells [.bool false,.snil,.snil],.cells (rz M),.cells [.int .i64 5,.int .i64 cn,.sl (VT.css nks) .none]]:=fun M=>by simp[hpA]
        rw[hX]at hsc3 hlen3 ⊢
        have hbackk:∀ (M2:List Nat) (J:zaa),M2.length=ks.length+1→(∀ (i:Nat) (h:i<M2.length),M2[i]=if i≤j then zar (W.take i) (N.take p) else zar (W.take i) (N.take (p+1))) →
          Kb17 (ziu (.sl (data.map Dat.cs) .none) (.ptr H.length 0) (.ptr (H.length+1) 0) (.ptr (H.length+3) 0) (.ms (H.length+4) 0 (ks.length+1) (ks.length+1)) (.ptr (H.length+5) 0) (.int .i64 j) (.sl (VT.css N) .none) (.int .i64 N.length) (.int .i64 p))
           (H++([.cells [.int .i64 5,.int .i64 d,.sl (VT.css tks) .none],.cells [.int .i64 0,.sl (IT.css ks) .none],.cells [.int .i64 vk,.int .i64 vn,.sl (VT.css vks) .none],.cells [.bool false,.snil,.snil],.cells (rz M2),.cells [.int .i64 5,.int .i64 cn,.sl (VT.css nks) .none]]++J)):=by
         intro M2 J h1 h2
         refine hKb17 _ _ ⟨j,by omega,Back.at (J:=J) (H2:=hpA H d tks ks vk vn vks (rz M2)++[AB.cells [.int .i64 5,.int .i64 cn,.sl (VT.css nks) .none]]) (by simp[hpA]) (by simp[hpA]) (hBsc M2) (by simp[ziu,ux,AV.sc,AV.scA,AV.scB,AV.scV,hpA]) ⟨_,rfl,j,M2,by omega,rfl,rfl,h1,h2,rfl⟩⟩
        by_cases hcc:c=cn
        ·subst hcc
         obtain⟨ps,hps1,hps2,hps3,hps6⟩:=zj8 h8 hrd hjk hel
         have hT:(VT.mk 5 (d:Int) tks).nodes≤1000:=hA.tn
         obtain⟨l,hf⟩:∃ l,zaU data (.mk 5 d tks) c=some l:=by
          cases hf:zaU data (.mk 5 d tks) c with
          | none=>simp[za8,hf]at hps1
          | some l=>exact⟨l,rfl⟩
         obtain⟨bs,hbs,hlb,hl8,hpay,h200,_,_,hrec,_,hc0,_⟩:=zj2 hk hf
         rw[hps1]at hpay
         obtain rfl:ps=pick l bs:=Option.some.inj hpay
         obtain⟨hnl,hnh⟩:=zpS hnhas hf hlb
         simp[zmO,hjk,hel,hwd2,hwj,IT.cs,Nat.add_assoc]
         refine zuE data hk (.mk 5 d tks) hT c _ _ ?_
         rw[hps1]
         simp[zb1,Nat.add_assoc]
         refine zTP data hk 5 d tks hT c hf hlb hl8 hrec _ _ ?_
         simp[Nat.add_assoc,zcE]
         unfold zmT
         refine ALoop.own 19 zb8 3 rfl ?_
         have hpn:=zdz (l:=nks) (bs:=bs) (by omega) tz nks.length (Nat.le_refl _)
         rw[List.take_length,hnl,hlb,List.take_length]at hpn
         have hpl2:(pick l bs).length=(pos false bs bs.length).length:=by
          have h0:=zdz (l:=l) (bs:=bs) hlb tz l.length (Nat.le_refl _)
          rw[List.take_length,hlb,List.take_length]at h0
          rw[h0];simp
         have hPlt:∀ j∈pos false bs bs.length,j<nks.length:=fun j hj=>by have:=zd1 hj;omega
         have hP8:=zem false bs bs.length
         generalize pos false bs bs.length=P at *
         have hpn3:(pick nks bs).length=P.length:=by rw[hpn];simp
         have hE:∀ n,HSc (H++[.cells [.int .i64 5,.int .i64 d,.sl (VT.css tks) .none],.cells [.int .i64 0,.sl (IT.css ks) .none],.cells [.int .i64 vk,.int .i64 vn,.sl (VT.css vks) .none],.cells [.bool false,.snil,.snil],.cells (rz M'),.cells [.int .i64 5,.int .i64 c,.sl (VT.css nks) .none],.cells [.int .i64 c,.sl (IT.css eks) .none],.perm zb8 3 n]):=fun n=>by
          have:=(hBsc M').append (J:=[.cells [.int .i64 c,.sl (IT.css eks) .none],.perm zb8 3 n]) (by simp[AB.sc,AV.scA,AV.scB])
          rw[hX]at this
          simpa using this
         have hid:(H++[AB.cells [.int .i64 5,.int .i64 d,.sl (VT.css tks) .none],.cells [.int .i64 0,.sl (IT.css ks) .none],.cells [.int .i64 vk,.int .i64 vn,.sl (VT.css vks) .none],.cells [.bool false,.snil,.snil],.cells (rz M'),.cells [.int .i64 5,.int .i64 c,.sl (VT.css nks) .none],.cells [.int .i64 c,.sl (IT.css eks) .none]]).length=H.length+7:=by simp
         rw[hid,List.append_assoc]
         show zmT _ _ _ _ _ _ _ _ _ (.sl [] (.own (H.length+7))) _ _ _ _ _ _ (H++[.cells [.int .i64 5,.int .i64 d,.sl (VT.css tks) .none],.cells [.int .i64 0,.sl (IT.css ks) .none],.cells [.int .i64 vk,.int .i64 vn,.sl (VT.css vks) .none],.cells [.bool false,.snil,.snil],.cells (rz M'),.cells [.int .i64 5,.int .i64 c,.sl (VT.css nks) .none],.cells [.int .i64 c,.sl (IT.css eks) .none],.perm zb8 3 0]) (Out H.length K) Kb14 Kb17
         refine zQn (Inv:=fun q t19 t109 H'=>∃ i:Nat,i≤P.length∧P.length-i=q∧t109=.int .i64 i∧t19=.sl (VT.css ((P.take i).map fun j=>nks.getD j tz)) (.own (H.length+7)) ∧
          H'=H++[.cells [.int .i64 5,.int .i64 d,.sl (VT.css tks) .none],.cells [.int .i64 0,.sl (IT.css ks) .none],.cells [.int .i64 vk,.int .i64 vn,.sl (VT.css vks) .none],.cells [.bool false,.snil,.snil],.cells (rz M'),.cells [.int .i64 5,.int .i64 c,.sl (VT.css nks) .none],.cells [.int .i64 c,.sl (IT.css eks) .none],.perm zb8 3 i]) P.length ?_ ?_
         ·intro _;exact⟨0,by omega,rfl,rfl,rfl,rfl⟩
         ·rintro q t19 t109 H' ⟨i,hi,rfl,rfl,rfl,rfl⟩ hsc4 hlen4 hsF4 Kb25 hKb25
          by_cases hlt:i<P.length
          ·have hPi:=hPlt _ (List.getElem_mem hlt)
           obtain⟨x,y,z,hvx,hx,hy,hz⟩:=zaO nks[P[i]]
           have hnat:=zjV (l:=P) (i:=i) (by simpa[zcE]using hlt)
           simp[ztv,hlt,zcE,hnat,hPi,hvx,wi i (by omega),Nat.add_assoc]
           rw[←hvx,zeh]
           have hst:(P.take (i+1)).map (fun j=>nks.getD j tz)=(P.take i).map (fun j=>nks.getD j tz)++[nks[P[i]]]:=by
            rw[List.take_succ_eq_append_getElem hlt,List.map_append]
            simp[List.getD_eq_getElem?_getD,hPi]
           have hst2:VT.css ((P.take i).map fun j=>nks.getD j tz)++[(nks[P[i]]).cs]=VT.css ((P.take (i+1)).map fun j=>nks.getD j tz):=by rw[hst,zvu]
           have hst3:VT.css (List.take i (List.map (fun j=>nks[j]?.getD tz) P))++[(nks[P[i]]).cs]=VT.css ((P.take (i+1)).map fun j=>nks.getD j tz):=by
            rw[←hst2];simp[List.getD_eq_getElem?_getD]
           simp[zax,zaY,zaM,Nat.min_eq_left (Nat.le_of_lt hlt),List.set_append]
           refine⟨⟨by omega,by omega⟩,?_⟩
           rw[hst3]
           exact hKb25 _ _ ⟨P.length-(i+1),by omega,Back.here (by simp) (hE _) (by simp[zmR,ux,AV.sc,AV.scA,AV.scB,AV.scV]) ⟨_,_,rfl,i+1,by omega,rfl,rfl,rfl,rfl⟩⟩
          ·obtain rfl:i=P.length:=by omega
           rw[List.take_length]at *
           rw[←hpn]at *
           have hMj:M'[j]'(by omega)=zar (W.take j) (N.take p):=by rw[hM' j (by omega),if_pos (by omega)]
           have hMj1:M'[j+1]'(by omega)=zar (W.take (j+1)) (N.take p):=by rw[hM' (j+1) (by omega),if_pos (by omega)]
           have hg1:=zqh M' j (by omega)
           have hg2:=zqh M' (j+1) (by omega)
           rw[hMj]at hg1
           rw[hMj1]at hg2
           obtain⟨A,hAdef⟩:∃ A,A=atL data eks (pick l bs) (pick nks bs):=⟨_,rfl⟩
           have hwA:W[j] N[p]=A:=by
            rw[hWj,wtE,hnode,hAdef]
            simp only[VT.num,if_true,VT.kids,hps1,Option.getD_some,hbs]
           rw[hwA]at hsn
           have hbnd:∀ i≤ks.length,zar (W.take i) (N.take p)≤1000 ^ 6:=by
            intro i hi
            have e1:W.take i=wtL data (ks.take i) (.mk 5 d tks):=by rw[←hW,zfF,zfF,List.map_take]
            rw[e1]
            have h0:0≤rdE data (ks.take i) (.mk 5 d tks) 0:=by
             have e2:[ks.take i,ks.drop i].flatten=ks:=by simp
             rw[←e2]at hrd
             exact (zeT h8 _ _ 0 (by omega) (by omega) hrd).1 _ (by simp)
            have h6:=zxb (h8:=h8) (ks.take i) (.mk 5 (d:Int) tks)
            refine Nat.le_trans (zqo (N:=1000) (by omega) _ _ (N.take p) 0 (by omega) (by simp;omega) (fun x hx=>hnn x (List.mem_of_mem_take hx)) h0) (Nat.pow_le_pow_right (by omega) (by omega))
           have hAb:A≤1000 ^ 6:=by
            rw[hAdef]
            refine Nat.le_trans (ziS (N:=1000) (by omega) eks (pick l bs) (pick nks bs) 0 (by omega) (fun x hx=>?_) hps3) (Nat.pow_le_pow_right (by omega) (by omega))
            have hx':x∈nks:=zeS hx
            have:=zfm (k:=5) (n:=c) x hx'
            omega
           have hb1:=hbnd j (by omega)
           have hb2:=hbnd (j+1) (by omega)
           have hmulb:zar (W.take j) (N.take p)*A≤1000 ^ 12:=by
            rw[show 12=6+6 from rfl,Nat.pow_add];exact Nat.mul_le_mul hb1 hAb
           have hall:∀ (H:zaa) (K:Kt),K (.agg (zak (A:Int))) H→ACalls tP zhS [.sl (data.map Dat.cs) .none,.sl (VT.css (pick l bs)) .none,.sl (IT.css eks) .none,.sl (VT.css (pick nks bs)) .none] H K:=by
            intro H K hK
            have hpl3:(pick l bs).length=(pick nks bs).length:=by rw[hpl2,hpn3]
            have hinv:=(zd2 (data:=data) eks (pick l bs) 0 (by omega) hps2.symm hps3).1
            have hjn:=IT.kid_lt (n:=0) hjk
            rw[hel]at hjn
            have hie:=hA.inn
            refine zCP h8 hat eks (pick l bs) (pick nks bs) hps2.symm hpl3.symm (by rw[hpl2];omega) (fun i h1 h2 h3=>?_) hps3 _ _ (by rw[←hAdef];exact hK)
            have g1:=IT.kid_lt (n:=c) h1
            have g2:(pick l bs)[i]∈l:=zeS (List.getElem_mem h2)
            have g3:(pick nks bs)[i]∈nks:=zeS (List.getElem_mem h3)
            have g4:=zfm (k:=5) (n:=c) _ g3
            have g5:=h200 _ g2
            exact⟨by omega,⟨by omega,zga hD (zqH hA.tv) hf _ g2,hinv i h1 h2,hnh i h3 h2,by omega,by omega⟩⟩
           simp[ztv,hwj,hwd2,Nat.add_assoc]
           refine⟨⟨by omega,hjk⟩,by omega,by omega,by omega,?_⟩
           rw[hg1,hg2]
           refine zaH (.agg (zak (A:Int))) (fun J=>ACalls.wk (args':=[.sl (data.map Dat.cs) .none,.sl (VT.css (pick l bs)) .none,.sl (IT.css eks) .none,.sl (VT.css (pick nks bs)) .none]) (hall _ _ ⟨rfl,rfl⟩) ⟨.rfl',.rfl',.rfl',.atom (.sl _ _),trivial⟩) ?_
           refine zaH (.agg (zak ((zar (W.take j) (N.take p)*A:Nat):Int))) (fun J=>zdR _ _ (zcx hb1 (by omega)) (zcx hAb (by omega)) _ _ ⟨by rw[Int.natCast_mul],rfl⟩) ?_
           refine zaH (.agg (zak ((zar (W.take (j+1)) (N.take (p+1)):Nat):Int))) (fun J=>zio _ _ (zcx hb2 (by omega)) (zcx hmulb (by omega)) _ _ ⟨by rw[hsn,Int.natCast_add],rfl⟩) ?_
           have hset:=(List.append_assoc ..).symm.trans (zFI M' (j+1) (zar (W.take (j+1)) (N.take (p+1))) (by omega))
           simp[zmS,zty,hwj,hwd2,Nat.add_assoc,zbU]
           refine⟨⟨by omega,hjk⟩,by omega,?_⟩
           rw[hset]
           exact hbackk (M'.set (j+1) _) [.cells [.int .i64 c,.sl (IT.css eks) .none],.perm zb8 3 P.length] (by simp[hMl']) (hnextM _ rfl)
        ·have hb:(c != cn)=true:=by simpa using hcc
         simp[zmO,hjk,hel,hwd2,hwj,IT.cs,Nat.add_assoc,hb,zmS,zty]
         have hw0:W[j] N[p]=0:=by
          rw[hWj,wtE,hnode]
          exact if_neg (fun h=>hcc (Eq.symm h))
         have hsn:zar (W.take (j+1)) (N.take (p+1))=zar (W.take (j+1)) (N.take p):=by rw[hsn,hw0];simp
         refine hbackk M' [.cells [.int .i64 c,.sl (IT.css eks) .none]] hMl' fun i h=>?_
         rw[hM' i h]
         by_cases hij:i=j+1
         ·subst hij;rw[if_pos (by omega),if_neg (by omega),hsn]
         ·by_cases h2:i≤j
          ·rw[if_pos (by omega),if_pos h2]
          ·rw[if_neg (by omega),if_neg h2]
     ·obtain rfl:p=N.length:=by omega
      have hML:=hM ks.length (by omega)
      rw[List.take_length,List.take_of_length_le (by omega)]at hML
      have hg:=zqh M ks.length (by omega)
      rw[hML]at hg
      simp[ztu,hpA,Nat.add_assoc]
      rw[hg]
      refine⟨by omega,by omega,⟨by omega,by rw[zbU];trivial⟩,by omega,?_⟩
      exact zcF hs hK
 ·rw[if_neg hn]at hrd;omega
end Go.Proofs.YtjkkonpjecoieaaGreat
namespace Go.Proofs.YtjkkonpjecoieaaGreat
open Go Go.Abs
def zn7 (data:List Dat) (f:Nat):Prop:=∀ (t:VT) (i j:IT) (v:VT),i.nodes+j.nodes≤f→zav data v t=true→0≤rdV data i t→0≤rdV data j t→zaG (fun x=>atV data x t v) (zbv data f t i j)=atV data i t v*atV data j t v
def ziM (data:List Dat) (f:Nat):Prop:=∀ (ts:List VT) (l m:List IT) (vs:List VT),IT.nodesL l+IT.nodesL m+1≤f→l.length=ts.length→m.length=ts.length→vs.length=ts.length →
 (∀ (j:Nat) (h1:j<vs.length) (h2:j<ts.length),zav data vs[j] ts[j]=true)→(∀ (j:Nat) (h1:j<l.length) (h2:j<ts.length),0≤rdV data l[j] ts[j])→(∀ (j:Nat) (h1:j<m.length) (h2:j<ts.length),0≤rdV data m[j] ts[j]) →
 zbw (fun r=>atL data r ts vs) (zcd data f ts l m)=atL data l ts vs*atL data m ts vs
def ziN (data:List Dat) (f:Nat):Prop:=∀ (tn:Int) (tks:List VT) (l m:List IT) (ns:List VT),IT.nodesL l+IT.nodesL m+1≤f→(∀ x∈ns,zav data x (.mk 5 tn tks)=true)→0≤rdE data l (.mk 5 tn tks) 0→0≤rdE data m (.mk 5 tn tks) 0 →
 zaG (fun x=>zar (wtL data (zaC x) (.mk 5 tn tks)) ns) (zaK data f (.mk 5 tn tks) l m)=zar (wtL data l (.mk 5 tn tks)) ns*zar (wtL data m (.mk 5 tn tks)) ns
theorem zgq {l:List IT} {i:Nat} (h:i<l.length):l[i].nodes≤IT.nodesL l:=by
 have:=IT.kid_lt (n:=0) h
 simp only[IT.nodes]at this
 omega
theorem zG1 {data:List Dat} {f:Nat} (hP:zn7 data f):ziM data (f+1):=by
 intro ts l m vs hf hl hm hv hh hr hr'
 rw[zjb]
 have h:=zFr (data:=data) (f:=f) hl hm hv (fun j hj=>hP ts[j] _ _ _ (by
  have:=zgq (l:=l) (i:=j) (by omega)
  have:=zgq (l:=m) (i:=j) (by omega)
  omega) (hh j (by omega) hj) (hr j (by omega) hj) (hr' j (by omega) hj)) ts.length (Nat.le_refl _)
 rw[List.take_length,List.take_of_length_le (by omega),List.take_of_length_le (l:=l) (by omega),List.take_of_length_le (l:=m) (by omega)]at h
 exact h
theorem zG0 {data:List Dat} {f:Nat} (hQ:ziM data f) (hR:ziN data f):zn7 data (f+1):=by
 intro t i j v hf hh hi hj
 obtain⟨k,tn,tks⟩:=t
 obtain⟨n,l⟩:=i
 obtain⟨n',m⟩:=j
 obtain⟨vk,vn,vks⟩:=v
 simp only[IT.nodes]at hf
 rw[rdV]at hi hj
 rw[zbv]
 by_cases h6:k=6
 ·subst h6
  simp only[VT.kind,VT.kids,if_true]at hi hj ⊢
  by_cases hn:n=0
  ·by_cases hl:tks.length=l.length
   ·by_cases hn':n'=0
    ·by_cases hl':tks.length=m.length
     ·simp[hn,hl]at hi
      simp[hn',hl']at hj
      simp[zav]at hh
      have hvl:=zho hh.2
      have h1:=(zd2 (data:=data) l tks 0 (by omega) hl.symm hi).1
      have h2:=(zd2 (data:=data) m tks 0 (by omega) hl'.symm hj).1
      have e:=hQ tks l m vks (by omega) hl.symm hl'.symm hvl (fun j a b=>zge hh.2 j a b) h1 h2
      rw[zcy,zcQ,Nat.zero_add,zfC]
      have e1:∀ x:List IT,atV data (.mk 0 x) (.mk 6 tn tks) (.mk vk vn vks)=atL data x tks vks:=fun x=>by simp[atV,VT.kind,VT.kids]
      subst hn hn'
      rw[e1,e1,←e]
      simp only[e1,zaC]
      rfl
     ·simp[hn',hl']at hj
    ·simp[hn']at hj
   ·simp[hn,hl]at hi
  ·simp[hn]at hi
 ·by_cases h7:k=7
  ·subst h7
   simp only[VT.kind,h6,if_false,if_true]at hi hj ⊢
   by_cases hc:0≤n∧n≤6∧l.length=0
   ·by_cases hc':0≤n'∧n'≤6∧m.length=0
    ·obtain⟨a1,a2,a3⟩:=hc
     obtain⟨b1,b2,b3⟩:=hc'
     have e1:∀ (x:Int) (y:List IT),atV data (.mk x y) (.mk 7 tn tks) (.mk vk vn vks)=chs vks.length x.toNat:=fun x y=>by simp[atV,VT.kind,VT.kids]
     simp only[zaW]
     rw[e1,e1]
     exact zDt vks.length n.toNat n'.toNat _ (fun k=>by rw[e1];simp) (by omega) (by omega)
    ·rw[if_neg hc']at hj;omega
   ·rw[if_neg hc]at hi;omega
  ·by_cases h5:k=5
   ·subst h5
    simp only[VT.kind,h6,h7,if_false,if_true]at hi hj ⊢
    by_cases hc:n=0∧l.length≤6
    ·by_cases hc':n'=0∧m.length≤6
     ·rw[if_pos hc]at hi
      rw[if_pos hc']at hj
      obtain⟨_,htn0,_⟩:=zfk hh
      obtain⟨d,rfl⟩:∃ d:Nat,tn=d:=⟨tn.toNat,by omega⟩
      have hnv:=zw0 (data:=data) (n:=d) (al:=tks) _ (.mk vk vn vks) (Nat.le_refl _) hh
      have e:=hR d tks l m (zbq (zbm data d) (.mk vk vn vks)) (by omega) hnv hi hj
      have e1:∀ x:IT,atV data x (.mk 5 d tks) (.mk vk vn vks)=zar (wtL data (zaC x) (.mk 5 d tks)) (zbq (zbm data d) (.mk vk vn vks)):=fun x=>by
       obtain⟨a,b⟩:=x
       simp[atV,VT.kind,VT.num,zaC]
      rw[zcy,zcQ,Nat.zero_add]
      simp only[e1,zaC]
      exact e
     ·rw[if_neg hc']at hj;omega
    ·rw[if_neg hc]at hi;omega
   ·simp[VT.kind,h6,h7,h5,atV]
theorem zh9 (f:IT→Nat) (h:IT→IT) (c:Nat):∀ l:List (IT × Nat),zaG f (l.map fun w=>(h w.1,c*w.2))=c*zaG f (l.map fun w=>(h w.1,w.2))
 | []=>by simp
 | w::l=>by
  rw[List.map_cons,List.map_cons,zcq,zcq,zh9 f h c l,Nat.mul_add,Nat.mul_assoc]
theorem zG2 {data:List Dat} (h8:∀ D∈data,D.cons.length≤8) (hk:za2 data) {f:Nat} (hQ:ziM data f) (hR:ziN data f):ziN data (f+1):=by
 intro tn tks l m ns hf hns hl hm
 cases l with
 | nil=>simp[zaK,wtL,zar,zaC]
 | cons a l=>
  cases m with
  | nil=>simp[zaK,wtL,zar,zaC]
  | cons b m=>
   obtain⟨T,hT⟩:∃ T,T=VT.mk 5 tn tks:=⟨_,rfl⟩
   have ha:=a.nodes_pos
   have hb:=b.nodes_pos
   simp only[IT.nodesL]at hf
   have hl2:0≤rdE data l T 0:=by
    subst hT
    have e:[[a],l].flatten=a::l:=by simp
    rw[←e]at hl
    exact (zeT h8 _ _ 0 (by omega) (by omega) hl).1 l (by simp)
   have hm2:0≤rdE data m T 0:=by
    subst hT
    have e:[[b],m].flatten=b::m:=by simp
    rw[←e]at hm
    exact (zeT h8 _ _ 0 (by omega) (by omega) hm).1 m (by simp)
   have hA:∀ ns,(∀ x∈ns,zav data x T=true)→zaG (fun x=>zar (wtL data (zaC x) T) ns) (zaK data f T l (b::m))=zar (wtL data l T) ns*zar (wtL data (b::m) T) ns:=fun ns hns=>by
    subst hT;exact hR tn tks l (b::m) ns (by simp only[IT.nodesL];omega) hns hl2 hm
   have hB:∀ ns,(∀ x∈ns,zav data x T=true)→zaG (fun x=>zar (wtL data (zaC x) T) ns) (zaK data f T (a::l) m)=zar (wtL data (a::l) T) ns*zar (wtL data m T) ns:=fun ns hns=>by
    subst hT;exact hR tn tks (a::l) m ns (by simp only[IT.nodesL];omega) hns hl hm2
   have hC:∀ ns,(∀ x∈ns,zav data x T=true)→zaG (fun x=>zar (wtL data (zaC x) T) ns) (zaK data f T l m)=zar (wtL data l T) ns*zar (wtL data m T) ns:=fun ns hns=>by
    subst hT;exact hR tn tks l m ns (by omega) hns hl2 hm2
   -- what an element ahead counts
   have hbef:∀ (e x:IT) (n:VT) (ns:List VT),zar (wtL data (zaC (bef e x)) T) (n::ns)=wtE data e T n*zar (wtL data (zaC x) T) ns+zar (wtL data (zaC (bef e x)) T) ns:=fun e x n ns=>by
    simp only[bef,zaC,wtL,zar]
   have hbef0:∀ (e x:IT),zar (wtL data (zaC (bef e x)) T) []=0:=fun e x=>by simp only[bef,zaC,wtL,zar]
   -- both elements at once
   have hpay:zaW a=zaW b→∀ n,zav data n T=true→zbw (fun r=>wtE data (.mk (zaW a) r) T n) (zcd data f ((za8 data T (zaW a)).getD []) (zaC a) (zaC b))=wtE data a T n*wtE data b T n:=by
    intro hab n hn
    obtain⟨c,pa⟩:=a
    obtain⟨c',pb⟩:=b
    simp only[zaW]at hab
    subst hab
    subst hT
    obtain⟨ps,hp1,hp2,hp3,_⟩:=zj8 h8 hl (j:=0) (by simp) (c:=c) (eks:=pa) (by simp)
    obtain⟨ps',hq1,hq2,hq3,_⟩:=zj8 h8 hm (j:=0) (by simp) (c:=c) (eks:=pb) (by simp)
    rw[hp1]at hq1
    cases hq1
    obtain⟨nk,nc,nks⟩:=n
    obtain⟨rfl,_⟩:=zfk hn
    simp only[zaW,zaC,wtE,VT.num,VT.kids,hp1,Option.getD_some]
    by_cases hc:nc=c
    ·subst hc
     simp only[if_true]
     obtain⟨lf,hff⟩:∃ lf,zaU data (.mk 5 tn tks) nc=some lf:=by
      cases hff:zaU data (.mk 5 tn tks) nc with
      | none=>simp[za8,hff]at hp1
      | some lf=>exact⟨lf,rfl⟩
     obtain⟨bs,hbs,hlb,hl8,hpay,h200,_,_,_,_,hc0,_⟩:=zj2 hk hff
     rw[hp1]at hpay
     obtain rfl:ps=pick lf bs:=Option.some.inj hpay
     obtain⟨hnl,hnh⟩:=zpS hn hff hlb
     rw[hbs]
     have hpl:(pick nks bs).length=(pick lf bs).length:=by
      have e1:=zdz (l:=nks) (bs:=bs) (by omega) tz nks.length (Nat.le_refl _)
      have e2:=zdz (l:=lf) (bs:=bs) hlb tz lf.length (Nat.le_refl _)
      rw[List.take_length,hnl,hlb,List.take_length]at e1
      rw[List.take_length,hlb,List.take_length]at e2
      rw[e1,e2];simp
     have h1:=(zd2 (data:=data) pa (pick lf bs) 0 (by omega) hp2.symm hp3).1
     have h2:=(zd2 (data:=data) pb (pick lf bs) 0 (by omega) hq2.symm hq3).1
     exact hQ (pick lf bs) pa pb (pick nks bs) (by simp only[IT.nodes]at hf;omega) hp2.symm hq2.symm hpl (fun j h1 h2=>hnh j h1 h2) h1 h2
    ·simp only[hc,if_false,Nat.mul_zero]
     have:∀ s:List (List IT × Nat),zbw (fun _=>0) s=0:=fun s=>by
      induction s with
      | nil=>rfl
      | cons x s ih=>simp[ih]
     exact this _
   have hno:zaW a≠zaW b→∀ n,wtE data a T n*wtE data b T n=0:=by
    intro hab n
    obtain⟨c,pa⟩:=a
    obtain⟨c',pb⟩:=b
    simp only[zaW]at hab
    simp only[wtE]
    by_cases h1:n.num=c
    ·by_cases h2:n.num=c'
     ·exact absurd (h1.symm.trans h2) hab
     ·simp[h2]
    ·simp[h1]
   rw[←hT]at hns ⊢
   -- the three sums
   obtain⟨F1,hF1⟩:∃ F1:List VT→Nat,F1=fun ns=>zaG (fun x=>zar (wtL data (zaC x) T) ns) ((zaK data f T l (b::m)).map fun w=>(bef a w.1,w.2)):=⟨_,rfl⟩
   obtain⟨F2,hF2⟩:∃ F2:List VT→Nat,F2=fun ns=>zaG (fun x=>zar (wtL data (zaC x) T) ns) ((zaK data f T (a::l) m).map fun w=>(bef b w.1,w.2)):=⟨_,rfl⟩
   have f1n:∀ n ns,F1 (n::ns)=wtE data a T n*zaG (fun x=>zar (wtL data (zaC x) T) ns) (zaK data f T l (b::m))+F1 ns:=fun n ns=>by
    rw[hF1]
    simp only
    rw[zkg _ (fun x=>zar (wtL data (zaC x) T) ns) (fun x=>zar (wtL data (zaC (bef a x)) T) ns) (bef a) (wtE data a T n) (fun x=>hbef a x n ns)]
    congr 1
    rw[zdP _ (fun x=>zar (wtL data (zaC (bef a x)) T) ns) (bef a) 1 (fun x=>by rw[Nat.one_mul]),Nat.one_mul]
   have f2n:∀ n ns,F2 (n::ns)=wtE data b T n*zaG (fun x=>zar (wtL data (zaC x) T) ns) (zaK data f T (a::l) m)+F2 ns:=fun n ns=>by
    rw[hF2]
    simp only
    rw[zkg _ (fun x=>zar (wtL data (zaC x) T) ns) (fun x=>zar (wtL data (zaC (bef b x)) T) ns) (bef b) (wtE data b T n) (fun x=>hbef b x n ns)]
    congr 1
    rw[zdP _ (fun x=>zar (wtL data (zaC (bef b x)) T) ns) (bef b) 1 (fun x=>by rw[Nat.one_mul]),Nat.one_mul]
   have f1z:F1 []=0:=by
    rw[hF1]
    simp only
    rw[zdP _ (fun _=>0) (bef a) 0 (fun x=>by rw[hbef0])];simp
   have f2z:F2 []=0:=by
    rw[hF2]
    simp only
    rw[zdP _ (fun _=>0) (bef b) 0 (fun x=>by rw[hbef0])];simp
   rw[zaK]
   by_cases hab:zaW a=zaW b
   ·rw[if_neg (by simpa using hab)]
    obtain⟨R,hR3⟩:∃ R,R=zcd data f ((za8 data T (zaW a)).getD []) (zaC a) (zaC b):=⟨_,rfl⟩
    rw[←hR3]at hpay ⊢
    obtain⟨F3,hF3⟩:∃ F3:List (List IT × Nat)→List VT→Nat,F3=fun R ns=>zaG (fun x=>zar (wtL data (zaC x) T) ns) (R.flatMap fun r=>(zaK data f T l m).map fun w=>(bef (.mk (zaW a) r.1) w.1,r.2*w.2)):=⟨_,rfl⟩
    have f3c:∀ r R ns,F3 (r::R) ns=r.2*zaG (fun x=>zar (wtL data (zaC x) T) ns) ((zaK data f T l m).map fun w=>(bef (.mk (zaW a) r.1) w.1,w.2))+F3 R ns:=fun r R ns=>by
     rw[hF3]
     simp only[List.flatMap_cons]
     rw[zfB,zh9]
    have f3n:∀ n ns R,F3 R (n::ns)=zbw (fun r=>wtE data (.mk (zaW a) r) T n) R*zaG (fun x=>zar (wtL data (zaC x) T) ns) (zaK data f T l m)+F3 R ns:=by
     intro n ns R
     induction R with
     | nil=>rw[hF3];simp
     | cons r R ih=>
      rw[f3c,f3c,ih,zeX,zkg _ (fun x=>zar (wtL data (zaC x) T) ns) (fun x=>zar (wtL data (zaC (bef (.mk (zaW a) r.1) x)) T) ns) (bef (.mk (zaW a) r.1)) (wtE data (.mk (zaW a) r.1) T n) (fun x=>hbef _ x n ns),
       zdP _ (fun x=>zar (wtL data (zaC (bef (.mk (zaW a) r.1) x)) T) ns) (bef (.mk (zaW a) r.1)) 1 (fun x=>by rw[Nat.one_mul])]
      grind
    have f3z:∀ R,F3 R []=0:=by
     intro R
     induction R with
     | nil=>rw[hF3];simp
     | cons r R ih=>
      rw[f3c,ih,zdP _ (fun _=>0) (bef (.mk (zaW a) r.1)) 0 (fun x=>by rw[hbef0])];simp
    have key:∀ ns,(∀ x∈ns,zav data x T=true)→F1 ns+F2 ns+F3 R ns=zar (wtL data (a::l) T) ns*zar (wtL data (b::m) T) ns:=by
     intro ns
     induction ns with
     | nil=>intro _;rw[f1z,f2z,f3z];simp[wtL,zar]
     | cons n ns ih=>
      intro h
      have h':∀ x∈ns,zav data x T=true:=fun x hx=>h x (by simp[hx])
      have ih:=ih h'
      rw[f1n,f2n,f3n,hA ns h',hB ns h',hC ns h',hpay hab n (h n (by simp))]
      simp only[wtL,zar]at ih ⊢
      grind
    rw[zcy,zcy,zcy,zcQ,Nat.zero_add]
    have:=key ns hns
    rw[hF1,hF2,hF3]at this
    exact this
   ·rw[if_pos (by simpa using hab)]
    have key:∀ ns,(∀ x∈ns,zav data x T=true)→F1 ns+F2 ns=zar (wtL data (a::l) T) ns*zar (wtL data (b::m) T) ns:=by
     intro ns
     induction ns with
     | nil=>intro _;rw[f1z,f2z];simp[wtL,zar]
     | cons n ns ih=>
      intro h
      have h':∀ x∈ns,zav data x T=true:=fun x hx=>h x (by simp[hx])
      have ih:=ih h'
      have h0:=hno hab n
      rw[f1n,f2n,hA ns h',hB ns h']
      simp only[wtL,zar]at ih ⊢
      have h0':wtE data a T n*zar (wtL data l T) ns*(wtE data b T n*zar (wtL data m T) ns)=0:=by
       rw[show wtE data a T n*zar (wtL data l T) ns*(wtE data b T n*zar (wtL data m T) ns)=(wtE data a T n*wtE data b T n)*(zar (wtL data l T) ns*zar (wtL data m T) ns) by grind,h0,Nat.zero_mul]
      grind
    rw[zcy,zcy,zcQ,Nat.zero_add]
    have:=key ns hns
    rw[hF1,hF2]at this
    exact this
theorem zyp {data:List Dat} (h8:∀ D∈data,D.cons.length≤8) (hk:za2 data):∀ f,zn7 data f∧ziM data f∧ziN data f
 | 0=>⟨fun t i j v h=>by have:=i.nodes_pos;omega,fun ts l m vs h=>by omega,fun tn tks l m ns h=>by omega⟩
 | f+1=>by
  obtain⟨h1,h2,h3⟩:=zyp h8 hk f
  exact⟨zG0 h2 h3,zG1 h1,zG2 h8 hk h2 h3⟩
end Go.Proofs.YtjkkonpjecoieaaGreat
