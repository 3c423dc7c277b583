import Derived.Test.YtaifokkaaahdoaaGreatDoorKZ1
import Derived.Test.YtaifokkaaahdoaaGreatDoorAbsO4
import Derived.Test.YtaifokkaaahdoaaGreatDoorAbsQ1
import Derived.Test.YtaifokkaaahdoaaGreatDoorLA3
set_option linter.unusedSimpArgs false
set_option linter.unusedVariables false
set_option linter.unusedSectionVars false
set_option maxRecDepth 8000
namespace Go.Proofs.YtaifokkaaahdoaaGreatDoor
open Go Go.Abs
theorem zxj(O:List Nat)(i x:Nat)(h:i<O.length):List.take i (us O)++AV.int .u32 (x:Int)::List.drop (i+1) (us O)=us (O.set i x):=by rw[←zGz O i x h];simp
theorem zwv{O:List Nat}(hO:∀x∈O,x<1000000000){i x:Nat}(hx:x<1000000000):∀y∈O.set i x,y<1000000000:=by
 intro y hy;rcases List.mem_or_eq_of_mem_set hy with hy|rfl
 ·exact hO y hy
 ·exact hx
theorem zD7{O:List Nat}{j:Nat}(h:zau O<1000000000 ^ j):O.getD j 0=0:=by
 by_cases hj:j<O.length
 ·have e:zau O=zau (O.take j)+1000000000 ^ j*(O[j]+1000000000*zau (O.drop (j+1))):=by
   conv=>lhs;rw[←List.take_append_drop j O,zhK,List.drop_eq_getElem_cons hj,zau]
   rw[List.length_take,Nat.min_eq_left (by omega)]
  rw[List.getD_eq_getElem?_getD,List.getElem?_eq_getElem hj,Option.getD_some];refine Nat.eq_zero_of_not_pos λhp=>?_;have h2:1000000000 ^ j*1≤1000000000 ^ j*(O[j]+1000000000*zau (O.drop (j+1))):=Nat.mul_le_mul_left _ (by omega);omega
 ·simp[List.getD_eq_getElem?_getD,show O.length≤j by omega]
theorem zEc(A B:List Nat)(lA:∀ x∈A,x<1000000000)(lB:∀ x∈B,x<1000000000)(ha:A.length≤1000)(hb:B.length≤1000)(H:zaa)(K:Kt)(hK:K (.sl (zap (lim (zau A*zau B))) .none) H):
  ACalls tP zcQ [.sl (zap A) .none,.sl (zap B) .none] H K:=by
 refine ACalls.out (zPz λhs=>?_);by_cases hA0:A=[]
 ·subst hA0;simp[znh,zau]at hK ⊢;exact Out.one0 hs (.atom .snil) rfl rfl (by simpa[zap]using hK)
 by_cases hB0:B=[]
 ·subst hB0;have hAb:((A.length:Int) == 0)=false:=by have:A.length≠0:=λh=>hA0 (List.eq_nil_of_length_eq_zero h);generalize A.length=q at this;simp;omega
  simp[znh,zau,hAb,hA0]at hK ⊢;exact Out.one0 hs (.atom .snil) rfl rfl (by simpa[zap]using hK)
 have hAl0:A.length≠0:=λh=>hA0 (List.eq_nil_of_length_eq_zero h);have hBl0:B.length≠0:=λh=>hB0 (List.eq_nil_of_length_eq_zero h);have hAb:((A.length:Int) == 0)=false:=by generalize A.length=q at hAl0;simp;omega
 have hBb:((B.length:Int) == 0)=false:=by generalize B.length=q at hBl0;simp;omega
 have hw:IntKind.i64.wrap ((A.length:Int)+B.length)=((A.length+B.length:Nat):Int):=by rw[zav (by omega) (by omega)];omega
 simp[znh,hAb,hBb,hA0,hB0,hw,zbu];have hN:((A.length:Int)+B.length).toNat=A.length+B.length:=by omega
 rw[hN,zGA];refine⟨⟨by omega,by omega,by omega⟩,?_⟩;have hsc:∀O:List Nat,HSc (H++[.cells (us O)]):=λO=>hs.append (by simp[AB.sc,us,AV.scA,AV.scB]);have hBlt:=zgw B lB;refine zPw (Inv:=λq t26 H'=>∃(i:Nat) (O:List Nat),i≤A.length∧A.length-i=q∧t26=.int .i64 i∧O.length=A.length+B.length∧(∀x∈O,x<1000000000)∧zau O=zau (A.take i)*zau B∧H'=H++[.cells (us O)]) A.length ?_ ?_
 ·intro _;exact⟨0,_,by omega,rfl,rfl,by simp,by simp,by rw[zD8];simp[zau],rfl⟩
 ·rintro q t26 H' ⟨i,O,hi,rfl,rfl,hOl,hO,hv,rfl⟩ hsc' hlen hsF Kb hKb;by_cases hlt:i<A.length
  ·have hxa:=lA A[i] (List.getElem_mem hlt);have hAl:=zgw (A.take i) (λy hy=>lA y (List.mem_of_mem_take hy));rw[List.length_take,Nat.min_eq_left (by omega)]at hAl;have hO0:O.getD (i+B.length) 0=0:=by refine zD7 ?_;rw[hv,Nat.pow_add];exact Nat.mul_lt_mul'' hAl hBlt
   simp[zsY,hlt];refine zPx (Inv:=λq t7 t31 H'=>∃ (k c:Nat) (R:List Nat),k≤B.length∧B.length-k=q∧t31=.int .i64 k∧t7=.int .u64 c∧R.length=A.length+B.length∧(∀ x∈R,x<1000000000)∧c<1000000000∧R.getD (i+B.length) 0=0 ∧
    zau R+c*1000000000 ^ (i+k)=zau O+A[i]*zau (B.take k)*1000000000 ^ i∧H'=H++[.cells (us R)]) B.length ?_ ?_
   ·intro _;exact⟨0,0,O,by omega,rfl,rfl,rfl,hOl,hO,by omega,hO0,by simp[zau],rfl⟩
   ·rintro q t7 t31 H' ⟨k,c,R,hk,rfl,rfl,rfl,hRl,hR,hc,hR0,hr,rfl⟩ hsc'' hlen' hsF' Kb2 hKb2;by_cases hkb:k<B.length
    ·have hik:IntKind.i64.wrap ((i:Int)+k)=((i+k:Nat):Int):=by rw[zav (by omega) (by omega)];omega
     have hR2:i+k<R.length:=by omega
     have hxb:=lB B[k] (List.getElem_mem hkb);have hxr:=hR R[i+k] (List.getElem_mem hR2);have eT:((i:Int)+k).toNat=i+k:=by omega
     have w1:IntKind.u64.wrap ((R[i+k]:Nat):Int)=R[i+k]:=zcV (by omega);have w2:IntKind.u64.wrap ((A[i]:Nat):Int)=A[i]:=zcV (by omega);have w3:IntKind.u64.wrap ((B[k]:Nat):Int)=B[k]:=zcV (by omega);have hmul:A[i]*B[k]≤999999999*999999999:=Nat.mul_le_mul (by omega) (by omega);obtain⟨m,hm⟩:∃m,m=A[i]*B[k]:=⟨_,rfl⟩;have w4:IntKind.u64.wrap (((A[i]:Nat):Int)*(B[k]:Nat))=(m:Int):=by rw[hm,←Int.natCast_mul];exact zcV (by omega)
     obtain⟨s1,hs1⟩:∃s,s=m+R[i+k]:=⟨_,rfl⟩;have w5:IntKind.u64.wrap ((m:Int)+(R[i+k]:Nat))=(s1:Int):=by rw[hs1,←Int.natCast_add];exact zcV (by omega)
     obtain⟨s,hs2⟩:∃s,s=s1+c:=⟨_,rfl⟩;have w6:IntKind.u64.wrap ((s1:Int)+(c:Int))=(s:Int):=by rw[hs2,←Int.natCast_add];exact zcV (by omega)
     obtain⟨x,c',hx1,hx2,hx3,e1,e2⟩:=zn6 s (by omega);have hnext:Kb2 (zi5 (.sl (zap A) .none) (.sl (zap B) .none) (.ms H.length 0 (A.length+B.length) (A.length+B.length)) (.int .i64 i) (.int .u64 c') (.int .i64 A.length) (.int .i64 i) (.int .i64 B.length) (.int .i64 ((k:Int)+1))) (H++[.cells (us (R.set (i+k) x))]):=by
      have hls:=zoG R (i+k) x hR2;have hb1:=zhM B k hkb;refine hKb2 _ _ ⟨B.length-(k+1),by omega,Back.here (by simp) (hsc _) (by simp[zi5,ux,AV.sc,AV.scA,AV.scB,AV.scV]) ⟨_,_,rfl,k+1,c',R.set (i+k) x,by omega,rfl,by simp,rfl,by simp[hRl],zwv hR hx1,?_,?_,?_,rfl⟩⟩
      ·refine Nat.lt_of_not_le λh=>?_;have:=Nat.mul_le_mul_left 1000000000 h;omega
      ·rw[List.getD_eq_getElem?_getD,List.getElem?_set_ne (by omega),←List.getD_eq_getElem?_getD];exact hR0
      ·rw[hb1,show i+(k+1)=i+k+1 by omega,Nat.pow_succ];rw[Nat.pow_add]at hr hls ⊢;rw[hs2,hs1,hm]at hx2;clear e1 e2 hx3 hKb hKb2 hsc' hsc'' hsF hsF' hBlt hK hs hR0 hO0 w1 w2 w3 w4 w5 w6;generalize zau (R.set (i+k) x)=vS at *;generalize R[i+k]=r at *;generalize A[i]=a at *;generalize B[k]=b at *;generalize zau (List.take k B)=T at *;generalize 1000000000 ^ i=P at *;generalize 1000000000 ^ k=Q at *;generalize zau R=vR at *;generalize zau O=vO at *;grind
     simp only[zsZ];simp[hkb,hlt,hik,eT,w1,w2,w3,w4];refine⟨⟨by omega,by omega⟩,?_⟩;rw[zBE R _ hR2];simp[w1,w5,w6,e1,e2,hx3,hik,eT,wi k (by omega),zxj R (i+k) x hR2];exact⟨⟨by omega,by omega⟩,by omega,hnext⟩
    ·obtain rfl:k=B.length:=by omega
     have hib:IntKind.i64.wrap ((i:Int)+B.length)=((i+B.length:Nat):Int):=by rw[zav (by omega) (by omega)];omega
     have eT:((i:Int)+B.length).toNat=i+B.length:=by omega
     have hR2:i+B.length<R.length:=by omega
     have hls:=zoG R (i+B.length) c hR2;rw[List.getD_eq_getElem?_getD,List.getElem?_eq_getElem hR2,Option.getD_some]at hR0;rw[hR0]at hls;simp only[zsZ];simp[hib,eT,zgY (show c<4294967296 by omega),wi i (by omega),zxj R (i+B.length) c hR2];refine⟨⟨by omega,hlt⟩,by omega,?_⟩;refine hKb _ _ ⟨A.length-(i+1),by omega,Back.here (by simp) (hsc _) (by simp[zni,ux,AV.sc,AV.scA,AV.scB,AV.scV]) ⟨_,rfl,i+1,R.set (i+B.length) c,by omega,rfl,rfl,by simp[hRl],zwv hR hc,?_,rfl⟩⟩;rw[List.take_of_length_le (Nat.le_refl _)]at hr;rw[zhM A i hlt];rw[hv]at hr;clear hKb hKb2 hsc' hsc'' hsF hsF' hBlt hK hs hO0 hsc;grind
  ·obtain rfl:i=A.length:=by omega
   rw[List.take_length]at hv;simp[zsY];rw[←hOl];refine zGm O hO (by omega) (by simp) ?_;rw[hv];simp;exact Out.one hs (.atom (.sl _ _)) rfl rfl hK
def zaY(z:Int):List AV:=[.bool (decide (z<0)),.sl (zap (lim z.natAbs)) .none,.sl (zap [1]) .none]
def Sm(z:Int):Prop:=z.natAbs<1000000000 ^ 30
theorem Sm.len{z:Int}(h:Sm z):(lim z.natAbs).length≤30:=zdo h
theorem zjJ:lim 1=[1]:=zDO (by omega) (by omega)
theorem zDN(n:Nat):∀x∈lim n,x<4294967296:=λx hx=>by have:=zdH n x hx;omega
@[simp] theorem zT5(z:Int):(zaY z).length=3:=rfl
@[simp] theorem zEU(z:Int):(zaY z).all AV.known=true:=rfl
theorem zgJ{H J:zaa}{K:Kt}{z:Int}(hs:HSc H)(hK:K (.agg (zaY z)) H):Out H.length K (.agg (zaY z)) (H++J):=Out.one hs .rfl' rfl rfl hK
theorem zEb{a b:Nat}(ha:a<1000000000 ^ 30)(hb:b<1000000000 ^ 30):a*b<1000000000 ^ 100:=by have:=Nat.mul_lt_mul'' ha hb;rw[←Nat.pow_add]at this;exact Nat.lt_of_lt_of_le this (Nat.pow_le_pow_right (by omega) (by omega))
theorem zps:(1:Nat)<1000000000 ^ 30:=by decide
theorem Sm.neg{z:Int}(h:Sm z):Sm (-z):=by unfold Sm at h ⊢;rwa [Int.natAbs_neg]
theorem zDz(L:List Nat)(hL:L.length≤100000)(H:zaa)(K:Kt)(hK:K (.bool (decide (L=[1]))) H):ACalls tP zjX [.sl (zap L) .none] H K:=by
 refine ACalls.out (zKr λhs=>?_);have hO:∀b,b=decide (L=[1])→Out H.length K (.bool b) H:=λb hb=>Out.bool (J:=[]) (by simp) (Nat.le_refl _) hs (by rw[hb];exact hK)
 match L with
 |[]=>simp[zl0];exact hO false (by simp)
 |[x]=>
  simp[zl0,zap];refine hO _ ?_;by_cases h:x=1
  ·subst h;rfl
  ·have hb:((x:Int) == 1)=false:=by simp;omega
   rw[hb];simp[h]
 |x::y::l=>
  have hb:((l.length:Int)+1+1 == 1)=false:=by simp;omega
  simp[zl0,hb];exact hO false (by simp)
theorem zDX(neg:Bool)(n:Nat)(hn:(lim n).length≤1000)(H:zaa)(K:Kt)(hK:K (.agg (zaY (if neg=true then -(n:Int) else n))) H):
  ACalls tP zoP [.agg [.bool neg,.sl (zap (lim n)) .none,.sl (zap [1]) .none]] H K:=by
 refine ACalls.out (zHA λhs=>?_);by_cases h0:n=0
 ·subst h0;have e0:(if neg=true then -((0:Nat):Int) else ((0:Nat):Int))=0:=by cases neg <;> rfl
  have e1:zaY 0=[.bool false,.sl [] .none,.sl [[.int .u32 1]] .none]:=by simp[zaY,zap]
  rw[e0,e1]at hK;simp[zqx,zas,zbh,plain,AV.pd,zao,zaM,zd4,Nat.add_assoc];exact Out.one hs (WkV.agg (ds:=[.bool false,.sl [] .none,.sl [[.int .u32 1]] .none]) ⟨.refl _,.snil,.sl _ _,trivial⟩) rfl (by simp[AV.scV,AV.scA,AV.scB]) hK
 ·have hp:0<(lim n).length:=by rw[zc2 h0];simp
  have hb:(((lim n).length:Int) == 0)=false:=by generalize (lim n).length=q at hp;simp;omega
  have e1:zaY (if neg=true then -(n:Int) else n)=[.bool neg,.sl (zap (lim n)) .none,.sl (zap [1]) .none]:=by
   cases neg
   ·simp[zaY]
   ·simp[zaY];omega
  rw[e1]at hK;simp[zqx,hb,Nat.add_assoc];refine zDz [1] (by simp) _ _ ?_;simp[Nat.add_assoc];exact Out.one hs (WkV.agg (ds:=[.bool neg,.sl (zap (lim n)) .none,.sl (zap [1]) .none]) ⟨.refl _,.sl _ _,.sl _ _,trivial⟩) rfl (by simp[AV.scV,AV.scA,AV.scB]) hK
theorem zpW(neg:Bool)(n:Nat)(hn:(lim n).length≤1000){z:Int}(hz:(if neg=true then -(n:Int) else n)=z)(H:zaa)(K:Kt)(hK:K (.agg (zaY z)) H):
  ACalls tP zh4 [.agg [.bool neg,.sl (zap (lim n)) .none,.sl (zap [1]) .none]] H K:=by
 refine ACalls.out (zOL λhs=>?_);simp[zAC,Nat.add_assoc];refine zDX neg n hn _ _ ?_;rw[hz];simp[zaY,zao,zaM,zd4,AV.known,Nat.add_assoc];exact zgJ hs hK
theorem zDW(z:Int)(hz:(lim z.natAbs).length≤1000)(H:zaa)(K:Kt)(hK:K (.agg (zaY z)) H):ACalls tP zd6 [.agg (zaY z)] H K:=by
 refine ACalls.out (zAB λhs=>?_);simp[zsJ,zaY,Nat.add_assoc];refine zaV (.sl (zap (lim z.natAbs)) .none) (λJ=>zpq _ (zDN _) (by omega) _ _ (by rw[zc3];exact⟨rfl,rfl⟩)) ?_;refine zaV (.sl (zap [1]) .none) (λJ=>zpq [1] (by simp) (by simp) _ _ (by simp[zau,zjJ])) ?_;by_cases h0:z=0
 ·subst h0;have e1:zaY 0=[.bool false,.sl [] .none,.sl [[.int .u32 1]] .none]:=by simp[zaY,zap]
  rw[e1]at hK;simp[zas,zbh,plain,AV.pd,zao,zaM,zd4,Nat.add_assoc];exact Out.one hs (WkV.agg (ds:=[.bool false,.sl [] .none,.sl [[.int .u32 1]] .none]) ⟨.refl _,.snil,.sl _ _,trivial⟩) rfl (by simp[AV.scV,AV.scA,AV.scB]) hK
 ·have hp:0<(lim z.natAbs).length:=by rw[zc2 (by omega)];simp
  have hb:(((lim z.natAbs).length:Int) == 0)=false:=by generalize (lim z.natAbs).length=q at hp;simp;omega
  simp[hb,zao,zaM,zd4,AV.known,Nat.add_assoc];exact zgJ hs hK
theorem zEa(n:Nat)(hn:n<9223372036854775808)(H:zaa)(K:Kt)(hK:K (.sl (zap (lim n)) .none) H):ACalls tP zpn [.int .i64 n] H K:=by
 refine ACalls.out (zPJ λhs=>?_);have w1:IntKind.u64.wrap (n:Int)=n:=zcV (by omega);have h0:¬((n:Int)<0):=by omega
 simp[zA1,h0,w1];refine zDb n (by omega) _ _ ?_;exact Out.one0 hs (.atom (.sl _ _)) rfl rfl hK
theorem zfo(n:Nat)(hn:n<9223372036854775808)(H:zaa)(K:Kt)(hK:K (.agg (zaY n)) H):ACalls tP ze8 [.int .i64 n] H K:=by
 refine ACalls.out (zNn λhs=>?_);have h0:decide ((n:Int)<0)=false:=by simp
 have hl:=zdo (n:=n) (k:=3) (by omega);simp[zzZ,Nat.add_assoc];refine zEa n hn _ _ ?_;simp[h0,zas,zbh,plain,AV.pd,zao,zaM,zd4,AV.known,Nat.add_assoc];refine ACalls.wk (args':=[.agg [.bool false,.sl (zap (lim n)) .none,.sl (zap [1]) .none]]) (zpW false n (by omega) (z:=n) (by simp) _ _ ?_) ⟨.agg ⟨.refl _,.refl _,.sl _ _,trivial⟩,trivial⟩;simp[zEU,Nat.add_assoc];exact zgJ hs hK
theorem zoK(a b:Nat)(ha:a<1000000000 ^ 30)(hb:b<1000000000 ^ 30)(H:zaa)(K:Kt)(hK:K (.sl (zap (lim (a*b))) .none) H):ACalls tP zcQ [.sl (zap (lim a)) .none,.sl (zap (lim b)) .none] H K:=by have h1:=zdo ha;have h2:=zdo hb;refine zEc (lim a) (lim b) (zdH a) (zdH b) (by omega) (by omega) _ _ ?_;rw[zc3,zc3];exact hK
theorem zvt(H:zaa)(K:Kt)(hK:K (.sl (zap [1]) .none) H):ACalls tP zcQ [.sl (zap [1]) .none,.sl (zap [1]) .none] H K:=by have:=zoK 1 1 zps zps H K (by rw[Nat.mul_one,zjJ];exact hK);rwa [zjJ]at this
structure SI where
 p:Nat
 im:Nat
 it:Nat
 ia:Nat
 ic:Nat
 mc:Nat
structure SI.Ok (I:SI):Prop where
 a1:I.p≠I.im
 a2:I.p≠I.it
 a3:I.p≠I.ia
 a4:I.p≠I.ic
 a5:I.p≠I.mc
 b1:I.im≠I.it
 b2:I.im≠I.ia
 b3:I.im≠I.ic
 b4:I.im≠I.mc
 c1:I.it≠I.ia
 c2:I.it≠I.ic
 c3:I.it≠I.mc
 d1:I.ia≠I.ic
 d2:I.ia≠I.mc
 e1:I.ic≠I.mc
structure SS where
 types:List VT
 made:List Bool
 cons:List (List (Int×List Nat))
 cnt:List ((Int×Int)×Option Nat)
def zcr(data:List Dat):List VT→Nat→List (List UInt8 × AV)
 |[],_=>[]
 |t::ts,k=>(txt data t,.int .i64 k)::zcr data ts (k+1)
def zbW(ws:List (Int×List Nat)):List (List AV):=ws.map λw=>[.int .i64 w.1,.sl (w.2.map λi:Nat=>[AV.int .i64 i]) .none]
def zco(ws:List (Int×List Nat)):AV:=.sl (zbW ws) .none
def zal:Option Nat→List AV
 |none=>[.bool false,.snil,.snil]
 |some n=>zaY (n:Int)
theorem zdt(m:Nat)(o:Option Nat):(zal o).all (AV.scA m)=true:=by
 cases o with
 |none=>rfl
 |some n=>simp[zal,zaY,AV.scA,AV.scB]
def zdE(l:List ((Int×Int)×Option Nat)):List ((Int×Int)×AV):=l.map λe=>(e.1,.agg (zal e.2))
def zbN(ts:List VT):List AV:=(ts.map VT.cs).flatten
section
variable (data:List Dat) (kk:Int) (I:SI)
def za3(S:SS)(x:Nat):Option AB:=
 if x=I.p then some (.cells [.sl (data.map Dat.cs) .none,.int .i64 kk,.map I.im,.ov I.it S.types.length,.ov I.ia S.types.length,.ov I.ic S.types.length,.map I.mc])
 else if x=I.im then some (.map (zcr data S.types 0))
 else if x=I.it then some (.vec za9 3 S.types.length (zbN S.types))
 else if x=I.ia then some (.vec zfA 1 S.types.length (zaJ S.made))
 else if x=I.ic then some (.vec zfz 1 S.types.length (S.cons.map zco))
 else if x=I.mc then some (.mapP (zdE S.cnt)) else none
def shS(S:SS)(H:zaa):zaa:=H.mapIdx λx b=>(za3 data kk I S x).getD b
structure ShS (S:SS) (H:zaa):Prop where
 ok:I.Ok
 at':∀x b,za3 data kk I S x=some b→H[x]?=some b
 ml:S.made.length=S.types.length
 cl:S.cons.length=S.types.length
end
section
variable {data:List Dat} {kk:Int} {I:SI} {S S' S'':SS} {H J:zaa}
theorem zgp(x:Nat):(za3 data kk I S x).isSome=(za3 data kk I S' x).isSome:=by
 unfold za3
 repeat' split
 all_goals rfl
@[simp] theorem zkC:(shS data kk I S H).length=H.length:=by simp[shS]
theorem zcv(x:Nat):(shS data kk I S H)[x]?=(H[x]?).map λb=>(za3 data kk I S x).getD b:=by simp[shS]
theorem ShS.lt(h:ShS data kk I S H){x:Nat}(hx:(za3 data kk I S x).isSome=true):x<H.length:=by obtain⟨b,hb⟩:=Option.isSome_iff_exists.1 hx;exact(List.getElem?_eq_some_iff.1 (h.at' x b hb)).1
theorem ShS.app(h:ShS data kk I S H):ShS data kk I S (H++J):=⟨h.ok,λx b hb=>by
 have:=h.at' x b hb;rw[List.getElem?_append_left (List.getElem?_eq_some_iff.1 this).1];exact this,h.ml,h.cl⟩
theorem ShS.shS_app(h:ShS data kk I S H):shS data kk I S' (H++J)=shS data kk I S' H++J:=by
 apply List.ext_getElem?;intro x;by_cases hx:x<H.length
 ·rw[zcv,List.getElem?_append_left hx,List.getElem?_append_left (by simpa using hx),zcv]
 ·rw[zcv,List.getElem?_append_right (by omega),List.getElem?_append_right (by simpa using hx),zkC];have:za3 data kk I S' x=none:=by
   cases hb:za3 data kk I S' x with
   |none=>rfl
   |some b=>have:=h.lt (x:=x) (by rw[zgp (S':=S'),hb];rfl);omega
  rw[this];simp
theorem ShS.next(h:ShS data kk I S H)(hm:S'.made.length=S'.types.length)(hc:S'.cons.length=S'.types.length):ShS data kk I S' (shS data kk I S' H):=⟨h.ok,λx b hb=>by
 have hx:=h.lt (x:=x) (by rw[zgp (S':=S'),hb];rfl);rw[zcv,hb,List.getElem?_eq_getElem hx];rfl,hm,hc⟩
theorem zdv:shS data kk I S' (shS data kk I S H)=shS data kk I S' H:=by
 apply List.ext_getElem?;intro x;rw[zcv,zcv,zcv];cases hx:H[x]? with
 |none=>rfl
 |some b=>
  simp only[Option.map_some];cases hb:za3 data kk I S' x with
  |some b'=>rfl
  |none=>
   have:=zgp (data:=data) (kk:=kk) (I:=I) (S:=S) (S':=S') x;rw[hb]at this;cases hb2:za3 data kk I S x with
   |none=>rfl
   |some b2=>rw[hb2]at this;cases this
theorem ShS.self(h:ShS data kk I S H):shS data kk I S H=H:=by
 apply List.ext_getElem?;intro x;rw[zcv];cases hb:za3 data kk I S x with
 |none=>cases H[x]? <;> rfl
 |some b=>rw[h.at' x b hb];rfl
theorem ShS.set_one(h:ShS data kk I S H){x:Nat}{b:AB}(hx:za3 data kk I S' x=some b)(hy:∀y,y≠x→za3 data kk I S' y=za3 data kk I S y):H.set x b=shS data kk I S' H:=by
 have hl:=h.lt (x:=x) (by rw[zgp (S':=S'),hx];rfl);apply List.ext_getElem?;intro y;rw[zcv];by_cases e:x=y
 ·subst e;rw[List.getElem?_set_self hl,hx,List.getElem?_eq_getElem hl];rfl
 ·rw[List.getElem?_set_ne e,hy y (λk=>e k.symm)];cases hb:za3 data kk I S y with
  |none=>cases H[y]? <;> rfl
  |some b'=>rw[h.at' y b' hb];rfl
theorem ShS.hp(h:ShS data kk I S H):H[I.p]?=some (.cells [.sl (data.map Dat.cs) .none,.int .i64 kk,.map I.im,.ov I.it S.types.length,.ov I.ia S.types.length,.ov I.ic S.types.length,.map I.mc]):=h.at' _ _ (by simp[za3])
theorem ShS.him(h:ShS data kk I S H):H[I.im]?=some (.map (zcr data S.types 0)):=h.at' _ _ (by simp[za3,h.ok.a1.symm])
theorem ShS.hit(h:ShS data kk I S H):H[I.it]?=some (.vec za9 3 S.types.length (zbN S.types)):=h.at' _ _ (by simp[za3,h.ok.a2.symm,h.ok.b1.symm])
theorem ShS.hia(h:ShS data kk I S H):H[I.ia]?=some (.vec zfA 1 S.types.length (zaJ S.made)):=h.at' _ _ (by simp[za3,h.ok.a3.symm,h.ok.b2.symm,h.ok.c1.symm])
theorem ShS.hic(h:ShS data kk I S H):H[I.ic]?=some (.vec zfz 1 S.types.length (S.cons.map zco)):=h.at' _ _ (by simp[za3,h.ok.a4.symm,h.ok.b3.symm,h.ok.c2.symm,h.ok.d1.symm])
theorem ShS.hmc(h:ShS data kk I S H):H[I.mc]?=some (.mapP (zdE S.cnt)):=h.at' _ _ (by simp[za3,h.ok.a5.symm,h.ok.b4.symm,h.ok.c3.symm,h.ok.d2.symm,h.ok.e1.symm])
theorem zuW(data:List Dat)(n:Nat):∀ (ts:List VT) (k:Nat),(zcr data ts k).all (λp=>p.2.scV n)=true
 |[],_=>rfl
 |t::ts,k=>by simp only[zcr,List.all_cons,zuW data n ts (k+1)];rfl
theorem zxc(n:Nat):∀ ts:List VT,(zbN ts).all (AV.scA n)=true
 |[]=>rfl
 |t::ts=>by have:=zxc n ts;unfold zbN at this ⊢;simp only[List.map_cons,List.flatten_cons,List.all_append,this];cases t;simp[VT.cs,AV.scA,AV.scB]
theorem ShS.scs(h:ShS data kk I S H)(hs:HSc H):HSc (shS data kk I S' H):=by
 intro b hb;obtain⟨x,hx,rfl⟩:=List.mem_iff_getElem.1 hb;rw[zkC]at hx ⊢;have e:(shS data kk I S' H)[x]?=some ((za3 data kk I S' x).getD H[x]):=by rw[zcv,List.getElem?_eq_getElem hx];rfl
 rw[List.getElem?_eq_getElem (by simpa using hx)]at e;rw[Option.some.inj e];have hlt:=λy=>h.lt (x:=y);have l1:=(List.getElem?_eq_some_iff.1 h.him).1;have l2:=(List.getElem?_eq_some_iff.1 h.hit).1;have l3:=(List.getElem?_eq_some_iff.1 h.hia).1;have l4:=(List.getElem?_eq_some_iff.1 h.hic).1;have l5:=(List.getElem?_eq_some_iff.1 h.hmc).1;unfold za3;split
 ·simp[AB.sc,AV.scA,AV.scB,l1,l2,l3,l4,l5]
 ·split
  ·exact zuW _ _ _ _
  ·split
   ·exact zxc _ _
   ·split
    ·simp[AB.sc,zaJ,AV.scA,AV.scB]
    ·split
     ·simp[AB.sc,zco,AV.scA,AV.scB]
     ·split
      ·simp only[AB.sc,zdE];refine List.all_eq_true.2 λe he=>?_;obtain⟨e',_,rfl⟩:=List.mem_map.1 he;exact zdt _ e'.2
      ·exact hs _ (List.getElem_mem hx)
theorem zuT(data:List Dat)(t:VT):∀ (ts:List VT) (k:Nat),zcr data (ts++[t]) k=zcr data ts k++[(txt data t,.int .i64 (k+ts.length:Nat))]
 |[],k=>by simp[zcr]
 |u::ts,k=>by rw[List.cons_append,zcr,zcr,zuT data t ts (k+1),List.cons_append];congr 4;simp;omega
theorem zuU(data:List Dat)(s:List UInt8):∀ (ts:List VT) (k:Nat),zbY (zcr data ts k) s=(ts.findIdx? λu=>txt data u == s).map λi=>AV.int .i64 (k+i:Nat)
 |[],k=>rfl
 |u::ts,k=>by
  rw[zcr,zbY,List.findIdx?_cons];cases h:(txt data u == s) with
  |true=>simp
  |false=>
   simp only[];rw[zuU data s ts (k+1)];cases ts.findIdx? λu=>txt data u == s with
   |none=>rfl
   |some i=>simp;omega
theorem zuV(data:List Dat)(s:List UInt8)(x:AV):∀ (ts:List VT) (k:Nat),(ts.findIdx? λu=>txt data u == s)=none→zcP (zcr data ts k) s x=zcr data ts k++[(s,x)]
 |[],k,_=>rfl
 |u::ts,k,h=>by
  rw[List.findIdx?_cons]at h;rw[zcr,zcP];cases hb:(txt data u == s) with
  |true=>rw[hb]at h;simp at h
  |false=>rw[hb]at h;simp only[Bool.false_eq_true,if_false,Option.map_eq_none_iff]at h;simp only[];rw[zuV data s x ts (k+1) h];rfl
end
theorem znN{e s b id n:Nat}{cs:List AV}{ys:List (List AV)}{t:Tok}{H:zaa}{K:Kt}(h:H[id]?=some (.vec e s n cs))(hy:∀c∈ys,c.length=s)(hb1:(n+ys.length)*b≤140737488355328)(hb2:n+ys.length≤9223372036854775807)(hk:K (.ov id (n+ys.length)) (H.set id (.vec e s (n+ys.length) (cs++ys.flatten)))):zax e s b (.ov id n) (.sl ys t) H K:=by
 simp only[zax,zbc,za2,h,and_self,true_and];exact⟨hy,⟨hb1,hb2⟩,hk⟩
theorem zwL{n id m off e s:Nat}{x:AV}{xs cs:List AV}{H:zaa}{K:zaa→Prop}(hx:x.cs?=some xs)(h:H[id]?=some (.vec e s m cs))(h1:xs.length=n)(h2:off+n≤cs.length)(h3:xs.all AV.known=true)(hk:K (H.set id (.vec e s m (cs.take off++xs++cs.drop (off+n))))):zak n (.vp id m off) x H K:=by
 rw[ztB,hx,h,zBQ];exact⟨⟨rfl,h1,h2,h3⟩,hk⟩
theorem zbd{H H':zaa}{i j:Nat}{b:AB}{o:Option AB}(e:H'=H.set i b)(hne:i≠j)(h:H[j]?=o):H'[j]?=o:=by rw[e,List.getElem?_set_ne hne];exact h
theorem zhC{H H':zaa}{i:Nat}{b:AB}(e:H'=H.set i b)(hi:i<H.length):H'[i]?=some b:=by rw[e,List.getElem?_set_self hi]
theorem zfh(ts:List VT):(zbN ts).length=3*ts.length:=by
 induction ts with
 |nil=>rfl
 |cons t ts ih=>unfold zbN at ih ⊢;cases t;simp only[List.map_cons,List.flatten_cons,List.length_append,ih,VT.cs,List.length_cons,List.length_nil];omega
def zcK(data:List Dat)(S:SS)(t:VT):Option Nat:=S.types.findIdx? λu=>txt data u == txt data t
def zcl(S:SS)(t:VT):SS:=⟨S.types++[t],S.made++[false],S.cons++[[]],S.cnt⟩
def idN(data:List Dat)(S:SS)(t:VT):Nat:=(zcK data S t).getD S.types.length
def idS(data:List Dat)(S:SS)(t:VT):SS:=if (zcK data S t).isSome then S else zcl S t
theorem zkD{data:List Dat}(hD:zaD data=true){kk:Int}{I:SI}{S:SS}{H:zaa}(hS:ShS data kk I S H)(h0:H[0]?=some .nodr)(t:VT)(ht:zaA data 0 t=true)(hn:S.types.length≤1000000000000)(K:Kt)(hK:K (.int .i64 (idN data S t)) (shS data kk I (idS data S t) H)):ACalls tP zgC [.ptr I.p 0,.agg t.cs] H K:=by
 refine ACalls.out (zM1 λhs=>?_);obtain⟨x,y,z,hvx,hx,hy,hz⟩:=zaL t;have hlt0:0<H.length:=(List.getElem?_eq_some_iff.1 h0).1;have hp:=(hS.app (J:=[.cells t.cs])).hp;have him:=(hS.app (J:=[.cells t.cs])).him;have hit:=(hS.app (J:=[.cells t.cs])).hit;have hia:=(hS.app (J:=[.cells t.cs])).hia;have hic:=(hS.app (J:=[.cells t.cs])).hic;have lp:=(List.getElem?_eq_some_iff.1 hS.hp).1;have lim:=(List.getElem?_eq_some_iff.1 hS.him).1;have lit:=(List.getElem?_eq_some_iff.1 hS.hit).1;have lia:=(List.getElem?_eq_some_iff.1 hS.hia).1;have lic:=(List.getElem?_eq_some_iff.1 hS.hic).1;have ht3:List.take 3 t.cs=t.cs:=List.take_of_length_le (by rw[hvx];simp);have ht3':t.cs.length=3:=by rw[hvx];rfl
 obtain⟨A,hA⟩:∃A,A=H++[AB.cells t.cs]:=⟨_,rfl⟩;have hAl:A.length=H.length+1:=by rw[hA];simp
 have ha:A[H.length]?=some (.cells t.cs):=by rw[hA];simp
 simp[zzM,hvx];rw[←hvx,←hA];rw[←hA]at hp him hit hia hic;simp[hp,ha,ht3,ht3'];refine zaV (.str (txt data t)) (λJ=>zO9 hD t ht _ (by rw[hA,List.append_assoc,List.getElem?_append_left hlt0];exact h0) _ ⟨rfl,rfl⟩) ?_;simp[hp,him,zuU];have hany:(S.types.any λu=>txt data u == txt data t)=(zcK data S t).isSome:=by unfold zcK;simp[List.findIdx?_isSome]
 rw[hany];change zag _ (Out _ K ((Option.map _ (zcK data S t)).getD _) A) _;have hput:=zuV data (txt data t) (AV.int .i64 (S.types.length:Nat)) S.types 0;change zcK data S t=none→_ at hput;have hN:idN data S t=(zcK data S t).getD S.types.length:=rfl;have hSd:idS data S t=if (zcK data S t).isSome then S else zcl S t:=rfl
 cases hi:zcK data S t with
 |some i=>rw[hi]at hN hSd;rw[hN,hSd]at hK;simp;rw[hA];refine Out.int rfl (Nat.le_refl _) hs ?_;simpa[hS.self]using hK
 |none=>
  rw[hput hi];rw[hi]at hN hSd;rw[hN,hSd]at hK;simp only[Option.isSome_none,Bool.false_eq_true,if_false,Option.getD_none]at hK;obtain⟨A1,hA1⟩:∃A1,A1=A.set I.im (.map (zcr data S.types 0++[(txt data t,.int .i64 (S.types.length:Nat))])):=⟨_,rfl⟩;have o:=hS.ok;have p1:A1[I.p]?=A[I.p]?:=by rw[hA1,List.getElem?_set_ne o.a1.symm]
  have t1:A1[I.it]?=A[I.it]?:=by rw[hA1,List.getElem?_set_ne o.b1]
  have ia1:A1[I.ia]?=A[I.ia]?:=by rw[hA1,List.getElem?_set_ne o.b2]
  have ic1:A1[I.ic]?=A[I.ic]?:=by rw[hA1,List.getElem?_set_ne o.b3]
  have l1:A1[H.length]?=A[H.length]?:=by rw[hA1,List.getElem?_set_ne (by omega)]
  rw[hp]at p1;rw[hit]at t1;rw[hia]at ia1;rw[hic]at ic1;rw[ha]at l1;have hA1l:A1.length=H.length+1:=by rw[hA1];simp[hAl]
  simp only[zag];rw[←hA1];simp[p1,l1,ht3,ht3',zas,zbh,plain,AV.pd];have hTl:=zfh S.types;refine znN t1 (by simp) (by simp;omega) (by simp;omega) ?_;simp only[List.length_cons,List.length_nil,List.flatten_cons,List.flatten_nil,List.append_nil,Nat.zero_add];obtain⟨A2,hA2⟩:∃A2,A2=A1.set I.it (.vec za9 3 (S.types.length+1) (zbN S.types++[.int .i64 0,.int .i64 0,.sl [] .none])):=⟨_,rfl⟩;rw[←hA2];have p2:=zbd hA2 o.a2.symm p1;have t2:A2[I.it]?=some (.vec za9 3 (S.types.length+1) (zbN S.types++[.int .i64 0,.int .i64 0,.sl [] .none])):=by rw[hA2,List.getElem?_set_self (by omega)]
  have hA2l:A2.length=H.length+1:=by rw[hA2];simp[hA1l]
  obtain⟨A3,hA3⟩:∃A3,A3=A2.set I.it (.vec za9 3 (S.types.length+1) (zbN S.types++t.cs)):=⟨_,rfl⟩;obtain⟨P4,hP4⟩:∃P4,P4=AB.cells [.sl (data.map Dat.cs) .none,.int .i64 kk,.map I.im,.ov I.it (S.types.length+1),.ov I.ia S.types.length,.ov I.ic S.types.length,.map I.mc]:=⟨_,rfl⟩;obtain⟨A4,hA4⟩:∃A4,A4=A3.set I.p P4:=⟨_,rfl⟩;have p3:=zbd hA3 o.a2.symm p2;have t22:(A2.set I.p P4)[I.it]?=some (.vec za9 3 (S.types.length+1) (zbN S.types++[.int .i64 0,.int .i64 0,.sl [] .none])):=by rw[List.getElem?_set_ne o.a2];exact t2
  have hst:∀{D:zaa} {Q:zaa→Prop},D[I.it]?=some (.vec za9 3 (S.types.length+1) (zbN S.types++[.int .i64 0,.int .i64 0,.sl [] .none]))→Q (D.set I.it (.vec za9 3 (S.types.length+1) (zbN S.types++t.cs)))→zak 3 (.vp I.it (S.types.length+1) (S.types.length*3)) (.agg t.cs) D Q:=by intro D Q hd hq;refine zwL rfl hd ht3' (by simp[hTl];omega) (VT.cs_known t) ?_;rw[List.take_left' (by rw[hTl];omega),List.drop_eq_nil_of_le (by simp[hTl];omega),List.append_nil];exact hq
  have hsw:(A2.set I.p P4).set I.it (.vec za9 3 (S.types.length+1) (zbN S.types++t.cs))=A4:=by rw[hA4,hA3,List.set_comm _ _ o.a2.symm]
  suffices hG:zdz (.ptr I.p 0) (.int .i64 (S.types.length:Nat)) A4 (Out H.length K) by
   have hix:zaj 3 (.ov I.it (S.types.length+1)) (.int .i64 (S.types.length:Nat))=λQ:AV→Prop=>Q (.vp I.it (S.types.length+1) (S.types.length*3)):=by funext Q;rw[zBF];simp;intro;omega
   rw[hix];simp only[p2,AV.cs?,zdW];simp only[List.take,List.drop,List.cons_append,List.nil_append,←hP4];refine⟨⟨hst t2 ?_,⟨by simp[AV.known],?_⟩⟩,⟨by simp[AV.known],?_⟩⟩
   ·rw[←hA3];simp only[p3,zdW,List.take,List.drop,List.cons_append,List.nil_append,←hP4,←hA4];exact⟨by simp[AV.known],hG⟩
   ·exact hst t22 (by rw[hsw];exact hG)
   ·exact hst t22 (by rw[hsw];exact hG)
  have p4:A4[I.p]?=some P4:=by rw[hA4,List.getElem?_set_self (by rw[hA3];simp;omega)]
  have ia4:=zbd hA4 o.a3 (zbd hA3 o.c1 (zbd hA2 o.c1 ia1));have ic4:=zbd hA4 o.a4 (zbd hA3 o.c2 (zbd hA2 o.c2 ic1));have hA4l:A4.length=H.length+1:=by rw[hA4,hA3];simp[hA2l]
  unfold zdz;rw[hP4]at p4;simp[p4,zas,zbh,plain,AV.pd];have ml:(zaJ S.made).length=S.types.length:=by simp[zaJ,hS.ml]
  refine znN ia4 (by simp) (by simp;omega) (by simp;omega) ?_;simp only[List.length_cons,List.length_nil,List.flatten_cons,List.flatten_nil,List.append_nil,Nat.zero_add];obtain⟨A5,hA5⟩:∃A5,A5=A4.set I.ia (.vec zfA 1 (S.types.length+1) (zaJ S.made++[.bool false])):=⟨_,rfl⟩;rw[←hA5];have p5:=zbd hA5 o.a3.symm p4;have ic5:=zbd hA5 o.d1 ic4;simp only[p5,AV.cs?,zdW,List.take,List.drop,List.cons_append,List.nil_append];refine⟨by simp[AV.known],?_⟩;obtain⟨P6,hP6⟩:∃P6,P6=AB.cells [.sl (data.map Dat.cs) .none,.int .i64 kk,.map I.im,.ov I.it (S.types.length+1),.ov I.ia (S.types.length+1),.ov I.ic S.types.length,.map I.mc]:=⟨_,rfl⟩;rw[←hP6];obtain⟨A6,hA6⟩:∃A6,A6=A5.set I.p P6:=⟨_,rfl⟩;rw[←hA6];have hA6l:A6.length=H.length+1:=by rw[hA6,hA5];simp[hA4l]
  have p6:A6[I.p]?=some P6:=by rw[hA6,List.getElem?_set_self (by rw[hA5];simp;omega)]
  have ic6:=zbd hA6 o.a4 ic5;rw[hP6]at p6;simp[p6];refine znN ic6 (by simp) (by simp;omega) (by simp;omega) ?_;simp only[List.length_cons,List.length_nil,List.flatten_cons,List.flatten_nil,List.append_nil,Nat.zero_add];obtain⟨A7,hA7⟩:∃A7,A7=A6.set I.ic (.vec zfz 1 (S.types.length+1) (S.cons.map zco++[.sl [] .none])):=⟨_,rfl⟩;rw[←hA7];have p7:=zbd hA7 o.a4.symm p6;simp only[p7,AV.cs?,zdW,List.take,List.drop,List.cons_append,List.nil_append];refine⟨by simp[AV.known],?_⟩;obtain⟨P8,hP8⟩:∃P8,P8=AB.cells [.sl (data.map Dat.cs) .none,.int .i64 kk,.map I.im,.ov I.it (S.types.length+1),.ov I.ia (S.types.length+1),.ov I.ic (S.types.length+1),.map I.mc]:=⟨_,rfl⟩;rw[←hP8];obtain⟨A8,hA8⟩:∃A8,A8=A7.set I.p P8:=⟨_,rfl⟩;rw[←hA8];have hA7l:A7.length=H.length+1:=by rw[hA7];simp[hA6l]
  have hA8l:A8.length=H.length+1:=by rw[hA8];simp[hA7l]
  have p8:A8[I.p]?=some P8:=zhC hA8 (by omega);have im8:=zbd hA8 o.a1 (zbd hA7 o.b3.symm (zbd hA6 o.a1 (zbd hA5 o.b2.symm (zbd hA4 o.a1 (zbd hA3 o.b1.symm (zbd hA2 o.b1.symm (zhC hA1 (by omega))))))));have it8:=zbd hA8 o.a2 (zbd hA7 o.c2.symm (zbd hA6 o.a2 (zbd hA5 o.c1.symm (zbd hA4 o.a2 (zhC hA3 (by omega))))));have ia8:=zbd hA8 o.a3 (zbd hA7 o.d1.symm (zbd hA6 o.a3 (zhC hA5 (by omega))));have ic8:=zbd hA8 o.a4 (zhC hA7 (by omega));have ot8:∀x,x≠I.p→x≠I.im→x≠I.it→x≠I.ia→x≠I.ic→A8[x]?=A[x]?:=λx e1 e2 e3 e4 e5=>
   zbd hA8 e1.symm (zbd hA7 e5.symm (zbd hA6 e1.symm (zbd hA5 e4.symm (zbd hA4 e1.symm (zbd hA3 e3.symm (zbd hA2 e3.symm (zbd hA1 e2.symm rfl)))))))
  have hfin:A8=shS data kk I (zcl S t) H++[AB.cells t.cs]:=by
   apply List.ext_getElem?;intro x;by_cases hx:x<H.length
   ·rw[List.getElem?_append_left (by simpa using hx),zcv,List.getElem?_eq_getElem hx];simp only[Option.map_some];unfold za3;split
    ·rename_i e;subst e;rw[p8,hP8];simp[zcl]
    ·rename_i e1;split
     ·rename_i e;subst e;rw[im8];simp[zcl,zuT]
     ·rename_i e2;split
      ·rename_i e;subst e;rw[it8];simp[zcl,zbN]
      ·rename_i e3;split
       ·rename_i e;subst e;rw[ia8];simp[zcl,zaJ]
       ·rename_i e4;split
        ·rename_i e;subst e;rw[ic8];simp[zcl,zco,zbW]
        ·rename_i e5;rw[ot8 x e1 e2 e3 e4 e5,hA,List.getElem?_append_left hx];split
         ·rename_i e;subst e;rw[hS.hmc];rfl
         ·rw[List.getElem?_eq_getElem hx];rfl
   ·rw[List.getElem?_append_right (by simpa using hx),zkC,ot8 x (by omega) (by omega) (by omega) (by omega) (by omega),hA,List.getElem?_append_right (by omega)]
  have hsH:HSc H:=hs;refine Out.int hfin (by simp) (hS.scs hsH) hK
def sm:Nat→(Nat→Nat)→Nat
 |0,_=>0
 |n+1,f=>sm n f+f n
theorem zch{n:Nat}{f g:Nat→Nat}(h:∀i<n,f i=g i):sm n f=sm n g:=by
 induction n with
 |zero=>rfl
 |succ n ih=>rw[sm,sm,ih λi hi=>h i (by omega),h n (by omega)]
theorem zFl(n:Nat)(f g:Nat→Nat):sm n (λi=>f i+g i)=sm n f+sm n g:=by
 induction n with
 |zero=>rfl
 |succ n ih=>rw[sm,sm,sm,ih];omega
theorem zpS(n c:Nat)(f:Nat→Nat):sm n (λi=>c*f i)=c*sm n f:=by
 induction n with
 |zero=>rfl
 |succ n ih=>rw[sm,sm,ih,Nat.mul_add]
theorem zpT(n:Nat):sm n (λ_=>0)=0:=by
 induction n with
 |zero=>rfl
 |succ n ih=>rw[sm,ih]
theorem zFm{n:Nat}{f g:Nat→Nat}(h:∀i<n,f i≤g i):sm n f≤sm n g:=by
 induction n with
 |zero=>exact Nat.le_refl _
 |succ n ih=>have h1:=ih λi hi=>h i (by omega);have h2:=h n (by omega);rw[sm,sm];omega
theorem zwD{n:Nat}{f:Nat→Nat}{i:Nat}(h:i<n):f i≤sm n f:=by
 induction n with
 |zero=>omega
 |succ n ih=>
  rw[sm];by_cases e:i=n
  ·subst e;omega
  ·have:=ih (by omega);omega
theorem zFn{n:Nat}{f:Nat→Nat}(h:sm n f≠0):∃i<n,f i≠0:=by
 induction n with
 |zero=>exact absurd rfl h
 |succ n ih=>
  rw[sm]at h;by_cases e:f n=0
  ·obtain⟨i,h1,h2⟩:=ih (by omega);exact⟨i,by omega,h2⟩
  ·exact⟨n,by omega,e⟩
theorem zfd(n:Nat)(f:Nat→Nat):sm (n+1) f=f 0+sm n λi=>f (i+1):=by
 induction n with
 |zero=>simp[sm]
 |succ n ih=>rw[sm,ih,sm];omega
theorem zFo(m:Nat)(F:Nat→Nat→Nat):sm (m+1) (λh=>sm (h+1) λa=>F a h)=sm (m+1) λa=>sm (m-a+1) λd=>F a (a+d):=by
 induction m with
 |zero=>simp[sm]
 |succ m ih=>
  rw[sm,ih]
  conv=>rhs;rw[sm]
  have e:sm (m+1) (λa=>sm (m+1-a+1) λd=>F a (a+d))=sm (m+1) (λa=>(sm (m-a+1) λd=>F a (a+d))+F a (m+1)):=by refine zch λa ha=>?_;rw[show m+1-a+1=(m-a+1)+1 from by omega,sm,show a+(m-a+1)=m+1 from by omega]
  rw[e,zFl,sm];rw[show m+1-(m+1)+1=1 from by omega];simp only[sm,Nat.add_zero,Nat.zero_add];omega
def zaU(data:List Dat):VT→List (Int × List VT)
 |.mk k n ks=>if k=6∨k=8 then [(0,ks)] else if k=5 then (List.range (zbv data n).length).filterMap λc:Nat=>(zbq data (.mk k n ks) (c:Int)).map λl=>((c:Int),l) else []
def zcn:VT→VT
 |.mk _ _ ks=>ks.getD 0 (.mk 0 0 [])
def cL(g:VT→Nat→Nat):List VT→Nat→Nat
 |[],m=>if m=0 then 1 else 0
 |t::ts,m=>sm (m+1) λs=>g t s*cL g ts (m-s)
def cAf(g:Nat→Nat):Nat→Nat→Nat
 |0,m=>if m=0 then 1 else 0
 |f+1,m=>if m=0 then 1 else sm (m+1) λs=>g s*cAf g f (m-s)
def cnt(data:List Dat)(kk:Nat):Nat→VT→Nat→Nat
 |0,_,_=>0
 | f+1,t,n=>if n=0 then 0 else if t.kind=3 then (if n=1 then 1 else 0) else if t.kind=2 then (if n=1 then 2 else 0) else if t.kind=1 then (if n=1 then kk else 0) else
  if t.kind=7 then cAf (cnt data kk f (zcn t)) (n-1) (n-1) else ((zaU data t).map λw=>cL (cnt data kk f) w.2 (n-1)).sum
def cV(data:List Dat)(kk:Nat)(t:VT)(n:Nat):Nat:=cnt data kk n t n
theorem znT{g g':VT→Nat→Nat}:∀ (ts:List VT) (m:Nat),(∀ t s,s≤m→g t s=g' t s)→cL g ts m=cL g' ts m
 |[],m,_=>rfl
 |t::ts,m,h=>by rw[cL,cL];refine zch λs hs=>?_;rw[h t s (by omega),znT ts (m-s) λt s' hs'=>h t s' (by omega)]
theorem znS{g g':Nat→Nat}:∀ (f m:Nat),(∀ s,s≤m→g s=g' s)→cAf g f m=cAf g' f m
 |0,m,_=>rfl
 |f+1,m,h=>by
  rw[cAf,cAf];split
  ·rfl
  ·refine zch λs hs=>?_;rw[h s (by omega),znS f (m-s) λs' hs'=>h s' (by omega)]
theorem zCl{g:Nat→Nat}(h0:g 0=0):∀(N m f f':Nat),m≤N→m≤f→m≤f'→cAf g f m=cAf g f' m:=by
 intro N;induction N with
 |zero=>
  intro m f f' h _ _;obtain rfl:m=0:=by omega
  cases f <;> cases f' <;> simp[cAf]
 |succ N ih=>
  intro m f f' h h1 h2;cases m with
  |zero=>cases f <;> cases f' <;> simp[cAf]
  |succ m=>
   obtain⟨f,rfl⟩:∃e,f=e+1:=⟨f-1,by omega⟩;obtain⟨f',rfl⟩:∃e,f'=e+1:=⟨f'-1,by omega⟩;rw[cAf,cAf];simp only[Nat.add_eq_zero_iff,Nat.succ_ne_self,and_false,if_false];refine zch λs hs=>?_;cases s with
   |zero=>simp[h0]
   |succ s=>rw[ih _ f f' (by omega) (by omega) (by omega)]
def cA(g:Nat→Nat)(m:Nat):Nat:=cAf g m m
theorem zCk(g:Nat→Nat):cA g 0=1:=rfl
theorem zjo{g:Nat→Nat}(h0:g 0=0)(m:Nat):cA g (m+1)=sm (m+2) λs=>g s*cA g (m+1-s):=by
 unfold cA;rw[cAf];simp only[Nat.add_eq_zero_iff,Nat.succ_ne_self,and_false,if_false];refine zch λs hs=>?_;cases s with
 |zero=>simp[h0]
 |succ s=>rw[zCl h0 _ _ _ _ (Nat.le_refl _) (by omega) (Nat.le_refl _)]
theorem zjq(data:List Dat)(kk f:Nat)(t:VT):cnt data kk f t 0=0:=by cases f <;> simp[cnt]
theorem zCz(data:List Dat)(kk:Nat):∀(f f':Nat) (t:VT) (n:Nat),n≤f→n≤f'→cnt data kk f t n=cnt data kk f' t n:=by
 intro f;induction f with
 |zero=>
  intro f' t n h _;obtain rfl:n=0:=by omega
  rw[zjq,zjq]
 |succ f ih=>
  intro f' t n h1 h2;cases n with
  |zero=>rw[zjq,zjq]
  |succ n=>obtain⟨f',rfl⟩:∃e,f'=e+1:=⟨f'-1,by omega⟩;have e1:∀t s,s≤n→cnt data kk f t s=cnt data kk f' t s:=λt s hs=>ih f' t s (by omega) (by omega);rw[cnt,cnt];simp only[Nat.add_sub_cancel];rw[znS n n λs hs=>e1 (zcn t) s hs];rw[List.map_congr_left λw _=>znT w.2 n e1]
theorem zb2(data:List Dat)(kk:Nat)(t:VT):cV data kk t 0=0:=rfl
theorem zeX(data:List Dat)(kk:Nat)(t:VT)(n:Nat):cV data kk t (n+1)=if t.kind=3 then (if n=0 then 1 else 0) else if t.kind=2 then (if n=0 then 2 else 0) else if t.kind=1 then (if n=0 then kk else 0) else
  if t.kind=7 then cA (cV data kk (zcn t)) n else ((zaU data t).map λw=>cL (cV data kk) w.2 n).sum:=by
 have e1:∀t s,s≤n→cnt data kk n t s=cV data kk t s:=λt s hs=>zCz data kk n s t s hs (Nat.le_refl _);unfold cV;rw[cnt];simp only[Nat.add_eq_zero_iff,Nat.succ_ne_self,and_false,if_false,Nat.add_sub_cancel,Nat.add_eq_right];unfold cA;rw[znS n n λs hs=>e1 (zcn t) s hs];rw[List.map_congr_left λw _=>znT w.2 n e1];rfl
def cvR(g:Nat→Nat)(r:Nat→Nat)(m:Nat):Nat:=sm (m+1) λh=>r h*g (m-h)
theorem zui(g:VT→Nat→Nat):∀ (ts:List VT) (r:Nat→Nat) (m:Nat),(ts.foldl (λr t=>cvR (g t) r) r) m=sm (m+1) λh=>r h*cL g ts (m-h)
 |[],r,m=>by
  rw[List.foldl_nil,sm];have:sm m (λh=>r h*cL g [] (m-h))=0:=by rw[zch (g:=λ_=>0) λh hh=>by rw[cL,if_neg (by omega),Nat.mul_zero],zpT]
  rw[this];simp[cL]
 |t::ts,r,m=>by
  rw[List.foldl_cons,zui g ts];have e1:sm (m+1) (λh=>cvR (g t) r h*cL g ts (m-h))=sm (m+1) λh=>sm (h+1) λa=>r a*g t (h-a)*cL g ts (m-h):=by refine zch λh hh=>?_;rw[cvR,Nat.mul_comm,←zpS];exact zch λa _=>by rw[Nat.mul_comm]
  rw[e1,zFo m λa h=>r a*g t (h-a)*cL g ts (m-h)];refine zch λa ha=>?_;rw[cL,←zpS];refine zch λd hd=>?_;rw[show a+d-a=d from by omega,show m-(a+d)=m-a-d from by omega,Nat.mul_assoc]
def zif(m:Nat):Nat:=if m=0 then 1 else 0
theorem zCm(g:VT→Nat→Nat)(ts:List VT)(m:Nat):cL g ts m=(ts.foldl (λr t=>cvR (g t) r) zif) m:=by
 rw[zui,zfd];have:sm m (λi=>zif (i+1)*cL g ts (m-(i+1)))=0:=by rw[zch (g:=λ_=>0) λh hh=>by simp[zif],zpT]
 rw[this];simp[zif]
end Go.Proofs.YtaifokkaaahdoaaGreatDoor
namespace Go.Proofs.YtaifokkaaahdoaaGreatDoor
open Go Go.Abs
set_option exponentiation.threshold 2000
theorem geo:∀ m:Nat,sm m (λi=>2 ^ (m-(i+1)))+1=2 ^ m
 |0=>rfl
 |m+1=>by
  rw[zfd];have:=geo m;have e:sm m (λi=>2 ^ (m+1-(i+1+1)))=sm m λi=>2 ^ (m-(i+1)):=zch λi _=>by rw[show m+1-(i+1+1)=m-(i+1) from by omega]
  rw[e,show m+1-(0+1)=m from by omega,Nat.pow_succ];omega
theorem zF3(s d:Nat):3*(s*s)+3*(d*d)≤3*((s+d)*(s+d)):=by
 have e:(s+d)*(s+d)=s*s+d*d+2*(s*d):=by rw[Nat.add_mul,Nat.mul_add,Nat.mul_add,Nat.mul_comm d s];omega
 rw[e];omega
theorem zub{g r:Nat→Nat}{m:Nat}(h0:g 0=0)(hg:∀s,s≤m→g s≤2 ^ (3*(s*s)))(hr:∀s,s<m→r s≤2 ^ (s+3*(s*s))):sm (m+1) (λs=>g s*r (m-s))≤2 ^ (m+3*(m*m)):=by
 rw[zfd,h0,Nat.zero_mul,Nat.zero_add];have h1:sm m (λi=>g (i+1)*r (m-(i+1)))≤sm m λi=>2 ^ (3*(m*m))*2 ^ (m-(i+1)):=by refine zFm λi hi=>?_;refine Nat.le_trans (Nat.mul_le_mul (hg (i+1) (by omega)) (hr (m-(i+1)) (by omega))) ?_;rw[←Nat.pow_add,←Nat.pow_add];refine Nat.pow_le_pow_right (by decide) ?_;have:=zF3 (i+1) (m-(i+1));rw[show i+1+(m-(i+1))=m from by omega]at this;omega
 refine Nat.le_trans h1 ?_;rw[zpS,Nat.add_comm m,Nat.pow_add];have:=geo m;exact Nat.mul_le_mul_left _ (by omega)
theorem znU{g:VT→Nat→Nat}(h0:∀ t,g t 0=0):∀ (ts:List VT) (m:Nat),(∀ t∈ts,∀ s,s≤m→g t s≤2 ^ (3*(s*s)))→cL g ts m≤2 ^ (m+3*(m*m))
 |[],m,_=>by rw[cL];have:0<2 ^ (m+3*(m*m)):=Nat.pow_pos (by decide);split <;> omega
 |t::ts,m,h=>by rw[cL];exact zub (h0 t) (h t (by simp)) λs hs=>znU h0 ts s λt ht s' hs'=>h t (by simp[ht]) s' (by omega)
theorem ztZ{g:Nat→Nat}(h0:g 0=0):∀(m:Nat),(∀s,s≤m→g s≤2 ^ (3*(s*s)))→cA g m≤2 ^ (m+3*(m*m)):=by
 intro m;induction m using Nat.strongRecOn with
 |ind m ih=>
  intro h;cases m with
  |zero=>rw[zCk];simp
  |succ m=>rw[zjo h0];exact zub h0 h λs hs=>ih s hs λs' hs'=>h s' (by omega)
def Kpt(data:List Dat):Prop:=∀D∈data,D.cons.length≤3∧∀c∈D.cons,c.args.length≤3
theorem zCF{data:List Dat}{n:Int}(h:(zbv data n)≠[]):∃D∈data,D.cons=zbv data n:=by
 unfold zbv at h ⊢;rw[List.getD_eq_getElem?_getD]at h ⊢;cases hd:data[n.toNat]? with
 |none=>rw[hd]at h;exact absurd rfl h
 |some D=>exact⟨D,List.mem_of_getElem? hd,rfl⟩
theorem zk2{data:List Dat}(hk:Kpt data)(t:VT):(zaU data t).length≤3:=by
 obtain⟨k,n,ks⟩:=t;rw[zaU];split
 ·simp
 ·split
  ·refine Nat.le_trans (List.length_filterMap_le _ _) ?_;rw[List.length_range];by_cases h:zbv data n=[]
   ·rw[h];simp
   ·obtain⟨D,hD,e⟩:=zCF h;rw[←e];exact(hk D hD).1
  ·simp
theorem zqk{data:List Dat}(hD:zaD data=true){t:VT}(ht:zaA data 0 t=true){w:Int×List VT}(hw:w∈zaU data t):∀x∈w.2,zaA data 0 x=true:=by
 obtain⟨k,n,ks⟩:=t;rw[zaU]at hw;split at hw
 ·simp at hw;subst hw;exact zed ht
 ·split at hw
  ·obtain⟨c,_,hc⟩:=List.mem_filterMap.1 hw;cases hf:zbq data (.mk k n ks) c with
   |none=>rw[hf]at hc;cases hc
   |some l=>rw[hf]at hc;simp at hc;subst hc;exact zjB hD (zdN ht) hf
  ·simp at hw
theorem zwS{α:Type}{f:α→Nat}{B:Nat}:∀ (l:List α),(∀ x∈l,f x≤B)→(l.map f).sum≤l.length*B
 |[],_=>by simp
 |x::l,h=>by have h1:=h x (by simp);have h2:=zwS l λy hy=>h y (by simp[hy]);rw[List.map_cons,List.sum_cons,List.length_cons,Nat.succ_mul];omega
theorem znW{data:List Dat}(hk:Kpt data){kk:Nat}(hkk:kk≤8):∀(n:Nat) (t:VT),cV data kk t n≤2 ^ (3*(n*n)):=by
 intro n;induction n using Nat.strongRecOn with
 |ind n ih=>
  intro t;cases n with
  |zero=>rw[zb2];simp
  |succ n=>
   have e:3*((n+1)*(n+1))=(n+3*(n*n))+(5*n+3):=by
    have:(n+1)*(n+1)=n*n+2*n+1:=by rw[Nat.add_mul,Nat.mul_add];omega
    rw[this];omega
   have e8:8≤2 ^ (3*((n+1)*(n+1))):=Nat.le_trans (show 8≤2 ^ 3 by decide) (Nat.pow_le_pow_right (by decide) (by rw[e];omega));have big:3*2 ^ (n+3*(n*n))≤2 ^ (3*((n+1)*(n+1))):=by rw[e,Nat.pow_add 2 (n+3*(n*n)) (5*n+3),Nat.mul_comm];exact Nat.mul_le_mul_left _ (Nat.le_trans (show 3≤2 ^ 3 by decide) (Nat.pow_le_pow_right (by decide) (by omega)))
   rw[zeX];split
   ·split <;> omega
   ·split
    ·split <;> omega
    ·split
     ·split <;> omega
     ·split
      ·have:=ztZ (zb2 data kk (zcn t)) n λs hs=>ih s (by omega) _;omega
      ·have h1:=zk2 hk t;have h2:=zwS (B:=2 ^ (n+3*(n*n))) (f:=λw:Int×List VT=>cL (cV data kk) w.2 n) (zaU data t) λw _=>znU (zb2 data kk) w.2 n λt _ s hs=>ih s (by omega) t;have h3:=Nat.mul_le_mul_right (2 ^ (n+3*(n*n))) h1;omega
theorem zoA{m:Nat}(h:m≤14):2 ^ (m+3*(m*m))<1000000000 ^ 30:=by have h1:m*m≤14*14:=Nat.mul_le_mul h h;exact Nat.lt_of_le_of_lt (Nat.pow_le_pow_right (by decide) (show m+3*(m*m)≤602 by omega)) (by decide)
theorem znV{data:List Dat}(hk:Kpt data){kk:Nat}(hkk:kk≤8)(ts:List VT){m:Nat}(h:m≤14):cL (cV data kk) ts m<1000000000 ^ 30:=
 Nat.lt_of_le_of_lt (znU (zb2 data kk) ts m λt _ s _=>znW hk hkk s t) (zoA h)
theorem zt0{data:List Dat}(hk:Kpt data){kk:Nat}(hkk:kk≤8)(t:VT){m:Nat}(h:m≤14):cA (cV data kk t) m<1000000000 ^ 30:=
 Nat.lt_of_le_of_lt (ztZ (zb2 data kk t) m λs _=>znW hk hkk s t) (zoA h)
theorem zhp{data:List Dat}(hk:Kpt data){kk:Nat}(hkk:kk≤8)(t:VT){m:Nat}(h:m≤14):cV data kk t m<1000000000 ^ 30:=
 Nat.lt_of_le_of_lt (Nat.le_trans (znW hk hkk m t) (Nat.pow_le_pow_right (by decide) (by omega))) (zoA h)
inductive Rch (data:List Dat) (X:List VT):Nat→VT→Prop
 |zero {t:VT}:t∈X→Rch data X 0 t
 |arr {n:Nat} {t:VT}:t∈X→t.kind=7→Rch data X n (zcn t)→Rch data X (n+1) t
 |mk {n:Nat} {t:VT}:t∈X→t.kind≠7→(∀w∈zaU data t,∀(p:Nat) (h:p<w.2.length),Rch data X (n-p) w.2[p])→Rch data X (n+1) t
theorem Rch.mem{data:List Dat}{X:List VT}{n:Nat}{t:VT}(h:Rch data X n t):t∈X:=by cases h <;> assumption
theorem Rch.mono{data:List Dat}{X Y:List VT}(hXY:∀x∈X,x∈Y){n:Nat}{t:VT}(h:Rch data X n t):Rch data Y n t:=by
 induction h with
 |zero h=>exact .zero (hXY _ h)
 |arr h h2 _ ih=>exact .arr (hXY _ h) h2 ih
 |mk h h2 _ ih=>exact .mk (hXY _ h) h2 ih
theorem Rch.le{data:List Dat}{X:List VT}{n:Nat}{t:VT}(h:Rch data X n t):∀m,m≤n→Rch data X m t:=by
 induction h with
 |zero h=>
  intro m hm;obtain rfl:m=0:=by omega
  exact .zero h
 |arr h h2 _ ih=>
  intro m hm;cases m with
  |zero=>exact .zero h
  |succ m=>exact .arr h h2 (ih m (by omega))
 |mk h h2 _ ih=>
  intro m hm;cases m with
  |zero=>exact .zero h
  |succ m=>exact .mk h h2 λw hw p hp=>ih w hw p hp (m-p) (by omega)
def gB(n:Nat):Nat:=if n=0 then 1 else 3*4 ^ n
theorem zkv{data:List Dat}{n:Nat}(ih:∀ m,m≤n→∀ t,zaA data 0 t=true→∃ X:List VT,X.length≤gB m∧Rch data X m t):∀ (ts:List VT) (q:Nat),(∀ x∈ts,zaA data 0 x=true)→∃ X:List VT,X.length≤sm ts.length (λp=>gB (n-(q+p)))∧∀ (p:Nat) (h:p<ts.length),Rch data X (n-(q+p)) ts[p]
 |[],_,_=>⟨[],by simp,λp h=>by simp at h⟩
 |t::ts,q,hv=>by
  obtain⟨X,h1,h2⟩:=ih (n-q) (by omega) t (hv t (by simp));obtain⟨Y,h3,h4⟩:=zkv ih ts (q+1) λx hx=>hv x (by simp[hx]);refine⟨X++Y,?_,λp hp=>?_⟩
  ·rw[List.length_cons,zfd,List.length_append];have:sm ts.length (λi=>gB (n-(q+(i+1))))=sm ts.length λp=>gB (n-(q+1+p)):=zch λi _=>by rw[show q+(i+1)=q+1+i from by omega]
   rw[this,Nat.add_zero];omega
  ·cases p with
   |zero=>exact h2.mono λx hx=>by simp[hx]
   |succ p=>have:=h4 p (by simpa using hp);rw[show q+1+p=q+(p+1) from by omega]at this;exact this.mono λx hx=>by simp[hx]
theorem zwd{data:List Dat}{n B:Nat}:∀ (ws:List (Int × List VT)),(∀ w∈ws,∃ X:List VT,X.length≤B∧∀ (p:Nat) (h:p<w.2.length),Rch data X (n-p) w.2[p])→∃ X:List VT,X.length≤ws.length*B∧∀ w∈ws,∀ (p:Nat) (h:p<w.2.length),Rch data X (n-p) w.2[p]
 |[],_=>⟨[],by simp,by simp⟩
 |w::ws,h=>by
  obtain⟨X,h1,h2⟩:=h w (by simp);obtain⟨Y,h3,h4⟩:=zwd ws λv hv=>h v (by simp[hv]);refine⟨X++Y,?_,λv hv p hp=>?_⟩
  ·rw[List.length_append,List.length_cons,Nat.succ_mul];omega
  ·rcases List.mem_cons.1 hv with rfl | hv
   ·exact(h2 p hp).mono λx hx=>by simp[hx]
   ·exact(h4 v hv p hp).mono λx hx=>by simp[hx]
theorem zn7{data:List Dat}(hk:Kpt data){t:VT}{c:Int}{l:List VT}(h:zbq data t c=some l):l.length≤3:=by obtain⟨k,n,ks⟩:=t;obtain⟨_,_,_,hn,hc,_,rfl,_⟩:=zjA h;rw[List.length_map];exact(hk _ (List.getElem_mem hn)).2 _ (List.getElem_mem hc)
theorem zfE{m n:Nat}(h:m≤n):gB m≤gB n:=by unfold gB;have h1:=Nat.pow_le_pow_right (show 0<4 by decide) h;have:0<4 ^ n:=Nat.pow_pos (by decide);split <;> split <;> omega
theorem sm3(n:Nat):∀k,k≤3→sm k (λp=>gB (n-(0+p)))≤gB n+gB (n-1)+gB (n-2):=by
 intro k hk
 match k,hk with
 |0,_=>simp[sm]
 |1,_=>simp[sm];omega
 |2,_=>simp[sm]
 |3,_=>simp[sm]
theorem zDc(n:Nat):1+3*(gB n+gB (n-1)+gB (n-2))≤gB (n+1):=by
 unfold gB
 match n with
 |0=>decide
 |1=>decide
 |2=>decide
 |n+3=>
  have a:4 ^ (n+4)=64*4 ^ (n+1):=by rw[show n+4=n+1+3 from rfl,Nat.pow_add];omega
  have b:4 ^ (n+3)=16*4 ^ (n+1):=by rw[show n+3=n+1+2 from rfl,Nat.pow_add];omega
  have c:4 ^ (n+2)=4*4 ^ (n+1):=by rw[Nat.pow_succ,Nat.mul_comm]
  have d:4≤4 ^ (n+1):=by rw[Nat.pow_succ];have:0<4 ^ n:=Nat.pow_pos (by decide);omega
  simp;omega
theorem sm6(n:Nat):∀k,k≤6→sm k (λp=>gB (n-(0+p)))≤3*(gB n+gB (n-1)+gB (n-2)):=by
 intro k hk;have h1:=zfE (show n-3≤n-2 by omega);have h2:=zfE (show n-4≤n-2 by omega);have h3:=zfE (show n-5≤n-2 by omega)
 match k,hk with
 |0,_=>simp[sm]
 |1,_=>simp[sm];omega
 |2,_=>simp[sm];omega
 |3,_=>simp[sm];omega
 |4,_=>simp[sm];omega
 |5,_=>simp[sm];have:=zfE (show n-2≤n-1 by omega);omega
 |6,_=>simp[sm];have:=zfE (show n-2≤n-1 by omega);have:=zfE (show n-1≤n by omega);omega
theorem zEV{data:List Dat}(hD:zaD data=true)(hk:Kpt data):∀(n:Nat) (t:VT),zaA data 0 t=true→∃X:List VT,X.length≤gB n∧Rch data X n t:=by
 intro n;induction n using Nat.strongRecOn with
 |ind n ih=>
  intro t ht;cases n with
  |zero=>exact⟨[t],by simp[gB],.zero (by simp)⟩
  |succ n=>
   have grec:=zDc n;by_cases h7:t.kind=7
   ·obtain⟨k,m,ks⟩:=t;have hv:=zed ht;have hs:=zdN ht;unfold okT at hs;rw[zaz,Bool.and_eq_true]at hs;have hs:=hs.1;change k=7 at h7;subst h7;simp[zaC]at hs;have hl:0<ks.length:=by omega
    obtain⟨X,h1,h2⟩:=ih n (by omega) (zcn (.mk 7 m ks)) (by
     rw[zcn,List.getD_eq_getElem?_getD,List.getElem?_eq_getElem hl];exact hv _ (List.getElem_mem hl))
    exact⟨.mk 7 m ks::X,by rw[List.length_cons];omega,.arr (by simp) rfl (h2.mono λx hx=>by simp[hx])⟩
   ·have hv:=λw (hw:w∈zaU data t)=>zqk hD ht hw;have hih:∀ m,m≤n→∀ t,zaA data 0 t=true→∃ X:List VT,X.length≤gB m∧Rch data X m t:=λm hm t ht=>ih m (by omega) t ht
    suffices hX:∃X:List VT,X.length≤3*(gB n+gB (n-1)+gB (n-2))∧∀w∈zaU data t,∀(p:Nat) (h:p<w.2.length),Rch data X (n-p) w.2[p] by
     obtain⟨X,h1,h2⟩:=hX;exact⟨t::X,by rw[List.length_cons];omega,.mk (by simp) h7 λw hw p hp=>(h2 w hw p hp).mono λx hx=>by simp[hx]⟩
    by_cases h5:t.kind=5
    ·have h3:∀w∈zaU data t,w.2.length≤3:=by
      obtain⟨k,m,ks⟩:=t;change k=5 at h5;subst h5;intro w hw;rw[zaU,if_neg (by omega),if_pos rfl]at hw;obtain⟨c,_,hc⟩:=List.mem_filterMap.1 hw;cases hf:zbq data (.mk 5 m ks) c with
      |none=>rw[hf]at hc;cases hc
      |some l=>rw[hf]at hc;simp at hc;subst hc;exact zn7 hk hf
     obtain⟨X,h1,h2⟩:=zwd (B:=gB n+gB (n-1)+gB (n-2)) (n:=n) (zaU data t) λw hw=>by obtain⟨X,h1,h2⟩:=zkv hih w.2 0 (hv w hw);refine⟨X,Nat.le_trans h1 (sm3 n _ (h3 w hw)),λp hp=>?_⟩;have:=h2 p hp;rwa [Nat.zero_add]at this
     have hl:=Nat.mul_le_mul_right (gB n+gB (n-1)+gB (n-2)) (zk2 hk t);exact⟨X,by omega,h2⟩
    ·obtain⟨k,m,ks⟩:=t;by_cases h68:k=6∨k=8
     ·have e:zaU data (.mk k m ks)=[(0,ks)]:=by rw[zaU,if_pos h68]
      have h6:ks.length≤6:=by have hs:=zdN ht;unfold okT at hs;rw[zaz,Bool.and_eq_true]at hs;have hs:=hs.1;rcases h68 with rfl|rfl <;> simp[zaC]at hs <;> omega
      obtain⟨X,h1,h2⟩:=zkv hih ks 0 (by rw[e]at hv;exact hv (0,ks) (by simp));refine⟨X,Nat.le_trans h1 (sm6 n _ h6),λw hw p hp=>?_⟩;rw[e]at hw;simp at hw;subst hw;have:=h2 p hp;rwa [Nat.zero_add]at this
     ·refine⟨[],by simp,λw hw=>?_⟩;rw[zaU,if_neg h68,if_neg (show ¬k=5 from h5)]at hw;simp at hw
end Go.Proofs.YtaifokkaaahdoaaGreatDoor
namespace Go.Proofs.YtaifokkaaahdoaaGreatDoor
open Go Go.Abs
def IdxOk(T:List VT)(ts:List VT)(is:List Nat):Prop:=is.map (λi=>T[i]?)=ts.map some
def ConOk(T:List VT):List (Int × List VT)→List (Int × List Nat)→Prop
 |[],[]=>True
 |w::ws,c::cs=>(w.1=c.1∧IdxOk T w.2 c.2)∧ConOk T ws cs
 |_,_=>False
theorem IdxOk.len{T ts:List VT}{is:List Nat}(h:IdxOk T ts is):is.length=ts.length:=by have:=congrArg List.length h;simpa using this
theorem IdxOk.mono{T T':List VT}(hT:T <+: T'):∀ {ts:List VT} {is:List Nat},IdxOk T ts is→IdxOk T' ts is
 |[],[],_=>rfl
 |[],i::is,h=>by simp[IdxOk]at h
 |t::ts,[],h=>by simp[IdxOk]at h
 |t::ts,i::is,h=>by simp only[IdxOk,List.map_cons,List.cons.injEq]at h ⊢;refine⟨?_,IdxOk.mono hT h.2⟩;obtain⟨E,rfl⟩:=hT;rw[List.getElem?_append_left (List.getElem?_eq_some_iff.1 h.1).1];exact h.1
theorem ConOk.mono{T T':List VT}(hT:T <+: T'):∀ {ws:List (Int × List VT)} {cs:List (Int × List Nat)},ConOk T ws cs→ConOk T' ws cs
 |[],[],_=>trivial
 |[],_::_,h=>h.elim
 |_::_,[],h=>h.elim
 |w::ws,c::cs,h=>⟨⟨h.1.1,h.1.2.mono hT⟩,ConOk.mono hT h.2⟩
theorem ConOk.snoc{T:List VT}{w:Int × List VT}{c:Int × List Nat}(h1:w.1=c.1)(h2:IdxOk T w.2 c.2):∀ {ws:List (Int × List VT)} {cs:List (Int × List Nat)},ConOk T ws cs→ConOk T (ws++[w]) (cs++[c])
 |[],[],_=>⟨⟨h1,h2⟩,trivial⟩
 |[],_::_,h=>h.elim
 |_::_,[],h=>h.elim
 |_::ws,_::cs,h=>⟨h.1,ConOk.snoc h1 h2 h.2⟩
structure Inv (data:List Dat) (kk:Nat) (X:List VT) (ex:Nat→Prop) (S:SS):Prop where
 ml:S.made.length=S.types.length
 cl:S.cons.length=S.types.length
 nd:S.types.Nodup
 vd:∀t∈S.types,zaA data 0 t=true
 sub:∀t∈S.types,t∈X
 con:∀(i:Nat) (t:VT),¬ex i→S.types[i]?=some t→S.made[i]?=some true→∀c,S.cons[i]?=some c→ConOk S.types (zaU data t) c
 cn:∀e∈S.cnt,∃(i m:Nat) (t:VT),e.1=((i:Int),(m:Int))∧S.types[i]?=some t∧e.2.getD 0=cV data kk t m
theorem zvM:∀ {l X:List VT},l.Nodup→(∀ x∈l,x∈X)→l.length≤X.length
 |[],X,_,_=>by simp
 |a::l,X,hn,hs=>by
  have ha:=hs a (by simp);obtain⟨s,t,rfl⟩:=List.append_of_mem ha;have h2:=zvM (l:=l) (X:=s++t) (List.nodup_cons.1 hn).2 λx hx=>by
   have:=hs x (by simp[hx]);simp at this;rcases this with h|rfl|h
   ·simp[h]
   ·exact absurd hx (List.nodup_cons.1 hn).1
   ·simp[h]
  simp at h2 ⊢;omega
theorem Inv.len{data:List Dat}{kk:Nat}{X:List VT}{ex:Nat→Prop}{S:SS}(h:Inv data kk X ex S):S.types.length≤X.length:=zvM h.nd h.sub
section
variable {data:List Dat} (hD:zaD data=true) {kk:Nat} {X:List VT} {ex:Nat→Prop} {S:SS}
include hD
theorem zGt(h:Inv data kk X ex S){t:VT}(ht:zaA data 0 t=true){i:Nat}(hi:zcK data S t=some i):S.types[i]?=some t:=by unfold zcK at hi;obtain⟨h1,h2,_⟩:=List.findIdx?_eq_some_iff_getElem.1 hi;rw[List.getElem?_eq_getElem h1];have:S.types[i]=t:=zGp hD (zdN (h.vd _ (List.getElem_mem h1))) (zdN ht) (by simpa using h2);rw[this]
theorem zGs(h:Inv data kk X ex S){t:VT}(hi:zcK data S t=none):t ∉ S.types:=by intro hm;unfold zcK at hi;rw[List.findIdx?_eq_none_iff]at hi;have:=hi t hm;simp at this
theorem zoo(t:VT):S.types <+: (idS data S t).types:=by
 unfold idS;split
 ·exact List.prefix_rfl
 ·exact List.prefix_append _ _
theorem zop(h:Inv data kk X ex S){t:VT}(ht:zaA data 0 t=true):(idS data S t).types[idN data S t]?=some t:=by
 unfold idS idN;cases hi:zcK data S t with
 |some i=>simpa using zGt hD h ht hi
 |none=>simp[zcl]
theorem zoq(h:Inv data kk X ex S){t:VT}(ht:zaA data 0 t=true)(hX:t∈X):Inv data kk X ex (idS data S t):=by
 unfold idS;cases hi:zcK data S t with
 |some i=>simpa using h
 |none=>
  have hn:=zGs hD h hi;simp only[Option.isSome_none,Bool.false_eq_true,if_false];refine⟨by simp[zcl,h.ml],by simp[zcl,h.cl],?_,?_,?_,?_,?_⟩
  ·simp only[zcl];rw[List.nodup_append];refine⟨h.nd,by simp,?_⟩;intro a ha b hb;simp at hb;subst hb;exactλe=>hn (e ▸ ha)
  ·intro u hu;simp[zcl]at hu;rcases hu with hu | rfl
   ·exact h.vd u hu
   ·exact ht
  ·intro u hu;simp[zcl]at hu;rcases hu with hu | rfl
   ·exact h.sub u hu
   ·exact hX
  ·intro i u hne hu hm c hc;simp only[zcl]at hu hm hc ⊢;have hlt:i<S.made.length:=by
    by_cases hlt:i<S.made.length
    ·exact hlt
    ·rw[List.getElem?_append_right (by omega)]at hm;cases e:i-S.made.length with
     |zero=>rw[e]at hm;simp at hm
     |succ j=>rw[e]at hm;simp at hm
   rw[List.getElem?_append_left hlt]at hm;rw[List.getElem?_append_left (by rw[←h.ml];exact hlt)]at hu;rw[List.getElem?_append_left (by rw[h.cl,←h.ml];exact hlt)]at hc;exact(h.con i u hne hu hm c hc).mono (List.prefix_append _ _)
  ·intro e he;obtain⟨i,m,u,h1,h2,h3⟩:=h.cn e he;refine⟨i,m,u,h1,?_,h3⟩;simp only[zcl];rw[List.getElem?_append_left (List.getElem?_eq_some_iff.1 h2).1];exact h2
end
def zaK(data:List Dat):SS→List VT→List Nat × SS
 |S,[]=>([],S)
 |S,t::ts=>(idN data S t::(zaK data (idS data S t) ts).1,(zaK data (idS data S t) ts).2)
theorem ztJ(data:List Dat)(t:VT):∀ (ts:List VT) (S:SS),zaK data S (ts++[t])=((zaK data S ts).1++[idN data (zaK data S ts).2 t],idS data (zaK data S ts).2 t)
 |[],S=>rfl
 |u::ts,S=>by rw[List.cons_append,zaK,zaK,ztJ data t ts];rfl
theorem zjg{data:List Dat}{S:SS}{ts:List VT}{j:Nat}(h:j<ts.length):zaK data S (ts.take (j+1))=((zaK data S (ts.take j)).1++[idN data (zaK data S (ts.take j)).2 ts[j]],idS data (zaK data S (ts.take j)).2 ts[j]):=by rw[List.take_succ_eq_append_getElem h,ztJ]
theorem znH(data:List Dat):∀ (ts:List VT) (S:SS),(zaK data S ts).1.length=ts.length
 |[],_=>rfl
 |t::ts,S=>by rw[zaK,List.length_cons,List.length_cons,znH data ts]
theorem zhl{data:List Dat}(hD:zaD data=true){kk:Nat}{X:List VT}{ex:Nat→Prop}:∀ (ts:List VT) (S:SS),Inv data kk X ex S→(∀ t∈ts,zaA data 0 t=true∧t∈X)→Inv data kk X ex (zaK data S ts).2∧S.types <+: (zaK data S ts).2.types∧IdxOk (zaK data S ts).2.types ts (zaK data S ts).1
 |[],S,h,_=>⟨h,List.prefix_rfl,rfl⟩
 |t::ts,S,h,hv=>by have ht:=hv t (by simp);obtain⟨h1,h2,h3⟩:=zhl hD ts (idS data S t) (zoq hD h ht.1 ht.2) λu hu=>hv u (by simp[hu]);have e:=zoo hD (S:=S) t;refine⟨h1,e.trans h2,?_⟩;simp only[zaK,IdxOk,List.map_cons,List.cons.injEq];refine⟨?_,h3⟩;have hg:=zop hD h ht.1;obtain⟨E,hE⟩:=h2;rw[←hE,List.getElem?_append_left (List.getElem?_eq_some_iff.1 hg).1];exact hg
def za6(l:List Nat):List (List AV):=l.map λi:Nat=>[AV.int .i64 i]
@[simp] theorem zuX(l:List Nat):(za6 l).length=l.length:=by simp[za6]
theorem wr{n:Nat}(h:n≤1000000000000):IntKind.i64.wrap ((n:Int)+1)=((n+1:Nat):Int):=by rw[zav (by omega) (by omega)];rfl
theorem ShS.nodr{data:List Dat}{kk:Int}{I:SI}{S S':SS}{H:zaa}(hS:ShS data kk I S H)(h0:H[0]?=some .nodr):(shS data kk I S' H)[0]?=some .nodr:=by
 rw[zcv,h0];have hn:za3 data kk I S 0=none:=by
  cases hb:za3 data kk I S 0 with
  |none=>rfl
  |some b=>
   have:=hS.at' 0 b hb;rw[h0]at this;cases this;unfold za3 at hb;split at hb
   ·cases hb
   ·split at hb
    ·cases hb
    ·split at hb
     ·cases hb
     ·split at hb
      ·cases hb
      ·split at hb
       ·cases hb
       ·split at hb
        ·cases hb
        ·cases hb
 have e:=zgp (data:=data) (kk:=kk) (I:=I) (S:=S) (S':=S') 0;rw[hn]at e;cases hb2:za3 data kk I S' 0 with
 |none=>rfl
 |some b=>rw[hb2]at e;cases e
section
variable {data:List Dat} (hD:zaD data=true) {kk:Nat} {X:List VT} (hX:X.length≤1000000000000) {ex:Nat→Prop} {I:SI} {S:SS} {H:zaa}
include hD hX
theorem zwx(hS:ShS data kk I S H)(hI:Inv data kk X ex S)(h0:H[0]?=some .nodr)(ts:List VT)(htl:ts.length≤200)(hts:∀t∈ts,zaA data 0 t=true∧t∈X)(K:Kt)(hK:K (.sl (za6 (zaK data S ts).1) .none) (shS data kk I (zaK data S ts).2 H)):ACalls tP zjO [.ptr I.p 0,.sl (VT.css ts) .none] H K:=by
 refine ACalls.out (zHF λhs=>?_);have lp:=(List.getElem?_eq_some_iff.1 hS.hp).1;have hlt0:0<H.length:=(List.getElem?_eq_some_iff.1 h0).1;simp only[zxF,zen,VT.css_len];refine ALoop.own 5 zcZ 1 rfl ?_;show zqA _ (.sl (za6 (zaK data S (ts.take 0)).1) (.own H.length)) _ _ _ (H++[.perm zcZ 1 0]) _;have hok:=λj=>zhl hD (ts.take j) S hI λt ht=>hts t (List.mem_of_mem_take ht);have hSS:=λj=>hS.next (S':=(zaK data S (ts.take j)).2) (hok j).1.ml (hok j).1.cl;obtain⟨G,hG⟩:∃G:Nat→zaa,G=λj=>shS data kk I (zaK data S (ts.take j)).2 H++[.perm zcZ 1 j]:=⟨_,rfl⟩;have hGl:∀j,(G j).length=H.length+1:=λj=>by rw[hG];simp
 have hGs:∀j,HSc (G j):=λj=>by rw[hG];exact(hS.scs hs).snoc rfl
 have hlk:=λj=>znH data (ts.take j) S;have h0G:∀j,(G j)[0]?=some .nodr:=λj=>by rw[hG];simp only;rw[List.getElem?_append_left (by simpa using hlt0)];exact hS.nodr h0
 refine zHD (Inv:=λq t5 t10 H'=>∃j:Nat,j≤ts.length∧ts.length-j=q∧t10=.int .i64 j∧t5=.sl (za6 (zaK data S (ts.take j)).1) (.own H.length)∧H'=G j) ts.length ?_ ?_
 ·intro _;refine⟨0,by omega,rfl,rfl,rfl,?_⟩;rw[hG];simp only[List.take_zero,zaK];rw[hS.self]
 ·rintro q t5 t10 H' ⟨j,hj,rfl,rfl,rfl,rfl⟩ hsc' hlen hsF Kb hKb;by_cases hlt:j<ts.length
  ·obtain⟨x1,x2,x3,hvx,hxa,hxb,hxc⟩:=zaL ts[j];have hv:=hts ts[j] (List.getElem_mem hlt);simp[zqy,hlt,hvx,Nat.add_assoc];refine⟨⟨hxa,hxb,hxc⟩,?_⟩;rw[←hvx];have hAp:ShS data kk I (zaK data S (ts.take j)).2 (G j++[.cells (ts[j]).cs]):=by rw[hG];exact ((hSS j).app).app
   refine zkD hD hAp (by rw[List.getElem?_append_left (by rw[hGl];omega)];exact h0G j) ts[j] hv.1 (Nat.le_trans (hok j).1.len hX) _ ?_;have hfin:shS data kk I (idS data (zaK data S (ts.take j)).2 ts[j]) (G j++[.cells (ts[j]).cs])=shS data kk I (zaK data S (ts.take (j+1))).2 H++[.perm zcZ 1 j,.cells (ts[j]).cs]:=by rw[zjg hlt,hG];simp only;rw[List.append_assoc,(hSS j).shS_app,zdv];rfl
   rw[hfin];simp[zas,zbh,plain,AV.pd];simp only[zax,zbc,za2];have hsl:(za6 (zaK data S (ts.take j)).1).length=j:=by rw[zuX,hlk,List.length_take];omega
   simp[List.set_append_right,hsl];refine⟨⟨by omega,by omega⟩,?_⟩;have hst:za6 (zaK data S (ts.take j)).1++[[AV.int .i64 (idN data (zaK data S (ts.take j)).2 ts[j]:Nat)]]=za6 (zaK data S (ts.take (j+1))).1:=by rw[zjg hlt];simp[za6]
   rw[hst,wr (by omega)];refine hKb _ _ ⟨ts.length-(j+1),by omega,Back.at (J:=[.cells (ts[j]).cs]) (H2:=G (j+1)) (by rw[hG];simp) (by rw[hGl];simp) (hGs _) (by rw[hGl];simp[zlh,ux,AV.sc,AV.scA,AV.scB,AV.scV];omega) ⟨_,_,rfl,j+1,by omega,rfl,rfl,rfl,rfl⟩⟩
  ·obtain rfl:j=ts.length:=by omega
   simp[zqy];rw[hG];simp only[List.take_length];exact Out.at rfl (by simp) (hS.scs hs) (.atom (.sl _ _)) rfl rfl hK
end
end Go.Proofs.YtaifokkaaahdoaaGreatDoor
