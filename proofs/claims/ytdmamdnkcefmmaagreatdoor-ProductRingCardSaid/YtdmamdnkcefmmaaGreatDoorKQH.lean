import Derived.Test.YtdmamdnkcefmmaaGreatDoorKGQ9
import Derived.Test.YtdmamdnkcefmmaaGreatDoorKQD
import Derived.Test.YtdmamdnkcefmmaaGreatDoorKV5
import Derived.Test.YtdmamdnkcefmmaaGreatDoorKMG
import Derived.Test.YtdmamdnkcefmmaaGreatDoorKV1
import Derived.Test.YtdmamdnkcefmmaaGreatDoorKZ1
import Derived.Test.YtdmamdnkcefmmaaGreatDoorKNum
import Derived.Test.YtdmamdnkcefmmaaGreatDoorProg
import Derived.KernelRfl
set_option linter.unusedSimpArgs false
set_option linter.unusedVariables false
set_option maxRecDepth 100000
namespace Go.Proofs.YtdmamdnkcefmmaaGreatDoor
theorem zUn(vs:List IT)(hl:vs.length≤1000000)(gP:∀v∈vs,∀(H:zaa) (K:Kt),K (.bool true) H→ACalls tP zgq [.agg v.cs,.agg v.cs] H K)(H:zaa)(K:Kt)(hK:K (.bool true) H):ACalls tP zqb [.sl (IT.css vs) .none,.sl (IT.css vs) .none] H K:=by
 refine ACalls.out (zUl λjv=>?_);simp[zDb];refine zUj (Inv:=λq t13 H'=>∃i:Nat,i≤vs.length∧q=vs.length-i∧t13=.int .i64 i∧H'=H) vs.length ?_ ?_
 ·intro _;exact⟨0,by omega,by omega,rfl,rfl⟩
 ·rintro q t13 H' ⟨i,hi,rfl,rfl,rfl⟩ eA d8 eC Kb ee;by_cases d7:i<vs.length
  ·simp[zun,d7];refine zaH (.bool true) (λJ=>gP _ (ah d7) _ _ ⟨rfl,rfl⟩) ?_;simp;rw[zav (by omega) (by omega)];refine ee _ _ ⟨vs.length-(i+1),by omega,Back.here (by simp) eA ?_ ⟨_,rfl,i+1,by omega,rfl,by simp,rfl⟩⟩;simp[znJ,AV.sc,AV.scV,AV.scA,AV.scB]
  ·simp[zun,d7];exact Out.bool (J:=[]) (by simp) (aa _) jv hK
theorem zCs:∀(m:Nat) (v:IT),v.nodes≤m→v.nodes≤1000000→∀(H:zaa) (K:Kt),K (.bool true) H→ACalls tP zgq [.agg v.cs,.agg v.cs] H K:=by
 intro m;induction m with
 |zero=>intro v h;have:=v.nodes_pos;omega
 |succ m ih=>
  intro v hv hb H K hK;obtain⟨n,ks⟩:=v;have fT:IT.nodesL ks+1≤1000000:=by simpa[IT.nodes]using hb
  have fc:=IT.len_le ks;refine ACalls.out (zSc λjv=>?_);simp[zCr,IT.cs,ae];refine zUn ks (by omega) (λv lM=>by
   obtain⟨i,hi,rfl⟩:=bb lM;have:=IT.kid_lt (n:=n) hi;exact ih _ (by omega) (by omega)) _ _ ?_
  try simp
  exact Out.bool rfl (aa _) jv hK
theorem zVU(dU:List Dat)(d8:dU.length≤9223372036854775807)(t:VT)(H:zaa)(K:Kt)(hK:∀b,(b=true→zbw dU∧t.nodes≤250)→K (.bool b) H):ACalls tP zqf [.sl (dU.map Dat.cs) .none,.agg t.cs] H K:=by
 refine ACalls.out (zVT λhs=>?_);have hO:∀b,(b=true→zbw dU∧t.nodes≤250)→∀J,Out H.length K (.bool b) (H++J):=λb h J=>Out.bool rfl (aa _) hs (hK b h);obtain⟨x,y,z,ei,hx,hy,hz⟩:=zbh t;simp[zq8,ei,ae];refine zSG dU _ _ d8 λb1 fR=>?_;cases b1 with
 |false=>simp;exact hO _ (λh=>by cases h) _
 |true=>
  simp[ae];rw[←ei];refine zSK t _ _ λb2 fq=>?_;try simp
  exact hO _ (λh=>⟨fR rfl,fq h⟩) _
theorem zrU(s:List (IT×Nat))(lQ:∀p∈s,p.1.nodes≤1000000∧Sm (p.2:Int))(hl:s.length≤1000000)(H:zaa)(K:Kt)(hK:K (.bool true) H):ACalls tP zhH [.sl (zaD s) .none,.sl (zaD s) .none] H K:=by
 refine ACalls.out (zLM λhs=>?_);simp[zz4];refine zLK (Inv:=λq t13 H'=>∃i:Nat,i≤s.length∧s.length-i=q∧t13=.int .i64 i∧H'=H) s.length ?_ ?_
 ·intro _;exact⟨0,by omega,rfl,rfl,rfl⟩
 ·rintro q t13 H' ⟨i,hi,rfl,rfl,rfl⟩ eA d8 eC Kb ee;by_cases d7:i<s.length
  ·obtain⟨h1,h2⟩:=lQ _ (ah d7);simp[zrS,d7,zco,zcz,zcQ,ae];refine zaH (.bool true) (λJ=>zCs _ _ (aa _) h1 _ _ ⟨rfl,rfl⟩) ?_;simp[d7,zco,zcz,zcQ];refine zaH (.bool true) (λJ=>ztf _ h2 _ _ ⟨rfl,rfl⟩) ?_;simp[wi i (by omega)];exact ee _ _ ⟨s.length-(i+1),by omega,Back.here (by simp) hs (by simp[zll,ux,AV.sc,AV.scA,AV.scB,AV.scV]) ⟨_,rfl,i+1,by omega,rfl,rfl,rfl⟩⟩
  ·simp[zrS,d7];exact Out.bool (J:=[]) (by simp) (aa _) hs hK
def t17:VT:=.mk 7 0 [.mk 1 0 []]
def i17:IT:=.mk 1 []
theorem zGt:zdf [] t17 i17 i17=.tup [.sl (zaD [(.mk 1 [],1),(.mk 2 [],2)]) .none,.int .i64 0]:=by kernel_rfl
theorem zEV(H:zaa)(K:Kt)(hK:K (.bool true) H):ACalls tP zjq [] H K:=by
 refine ACalls.out (zMu λhs=>?_);simp[zAg,zar,zaL,zau,zaU,plain,AV.pd,AV.known,ae];refine ACalls.wk (args':=[.sl [] .none,.agg t17.cs,.agg i17.cs,.agg i17.cs]) (zk5 (dU:=[]) ⟨by simp,by simp⟩ t17 (by decide) i17 i17 (by decide) (by decide) _ _ ?_) ⟨.atom .snil,.agg ⟨.refl _,.refl _,.sl _ _,trivial⟩,.agg ⟨.refl _,.snil,trivial⟩,.agg ⟨.refl _,.snil,trivial⟩,trivial⟩;rw[zGt];have h0:(tmC (IT.mk 2 [],2))[0]?=some (.int .i64 2):=rfl;simp[zco,zcz,zcQ,ae,zdm _ h0];refine zaH (.agg (zam 2)) (λJ=>zCA 2 (by omega) _ _ ⟨rfl,rfl⟩) ?_;try simp[zco,zcz,zcQ]
 refine zaH (.bool true) (λJ=>ztf 2 (zcP (n:=2) (by decide)) _ _ ⟨rfl,rfl⟩) ?_;exact Out.bool rfl (aa _) hs hK
theorem zG3{dU:List Dat}{t:VT}{i j:IT}(hf:za8 dU t=true)(hi:0≤rdV dU i t)(hj:0≤rdV dU j t)(h6:rdV dU i t+rdV dU j t≤6):
  (∀p∈zbJ dU t (zbE dU (i.nodes+j.nodes) t i j) 7,0<p.2∧p.2≤729∧rdV dU p.1 t≤rdV dU i t+rdV dU j t∧rdV dU i t≤rdV dU p.1 t∧rdV dU j t≤rdV dU p.1 t∧p.1.nodes≤i.nodes+j.nodes)∧(zbJ dU t (zbE dU (i.nodes+j.nodes) t i j) 7).length≤7*729:=by
 have h8:=zcD hf;obtain⟨R1,R2⟩:=(zep h8 (i.nodes+j.nodes)).1 t i j (by omega) hi hj h6
 replace R2:=ar R2 (ze2 h6)
 have Rl:=zwQ λp hp=>(R1 p hp).1;refine⟨λp hp=>?_,?_⟩
 ·have hm:=zG1 p hp;have h1:=R1 p hm;have h2:=zpi hm;omega
 ·have:=zqk (dU:=dU) (t:=t) (s:=zbE dU (i.nodes+j.nodes) t i j) 7;omega
theorem zSj:∀(m:Nat) (v:VT),v.nodes≤m→v.nodes≤1000000→∀(H:zaa) (K:Kt),K (.agg (zaX v).cs) H→ACalls tP zjO [.agg v.cs] H K:=by
 intro m;induction m with
 |zero=>intro v h;have:=v.nodes_pos;omega
 |succ m ih=>
  intro v hm hb H K hK;obtain⟨k,n,ks⟩:=v;have fc:=VT.len_le ks;have ip:(VT.mk k n ks).nodes=VT.nodesL ks+1:=by simp[VT.nodes]
  refine ACalls.out (zSh λhs=>?_);simp[zCt,VT.cs,zar,zaL,AV.known,ae];by_cases kJ:k=6
  ·have hK:K (.agg [.int .i64 0,.sl (IT.css (zbd ks)) .none]) H:=by simpa[zaX,kJ,IT.cs]using hK
   simp[kJ];subst kJ;unfold zm8;refine ALoop.ownC (H.length+2) 1 zba 2 (cs:=[.int .i64 0,.snil]) (by simp) rfl ?_;have eI:(H++[AB.cells [.int .i64 6,.int .i64 n,.sl (VT.css ks) .none],.cells [.int .i64 0,.snil],.cells [.int .i64 0,.snil]]).set (H.length+2) (.cells ([AV.int .i64 0,.snil].set 1 (.sl [] (.own (H++[AB.cells [.int .i64 6,.int .i64 n,.sl (VT.css ks) .none],.cells [.int .i64 0,.snil],.cells [.int .i64 0,.snil]]).length))))++[.perm zba 2 0] =
     H++[.cells [.int .i64 6,.int .i64 n,.sl (VT.css ks) .none],.cells [.int .i64 0,.snil],.cells [.int .i64 0,.sl [] (.own (H.length+3))],.perm zba 2 0]:=by simp[aj]
   rw[eI];show zm8 (.ptr (H.length+1) 0) (.ptr (H.length+2) 0) (.sl (VT.css ks) .none) (.int .i64 ks.length) (.int .i64 0) _ (Out H.length K);have hsc:∀ i,HSc (H++[.cells [.int .i64 6,.int .i64 n,.sl (VT.css ks) .none],.cells [.int .i64 0,.snil],.cells [.int .i64 0,.sl (IT.css (zbd (ks.take i))) (.own (H.length+3))],.perm zba 2 i]):=λi=>hs.append (by simp[AB.sc,AV.scA,AV.scB]);refine zSf (Inv:=λq t13 H'=>∃ i:Nat,i≤ks.length∧q=ks.length-i∧t13=.int .i64 i ∧
    H'=H++[.cells [.int .i64 6,.int .i64 n,.sl (VT.css ks) .none],.cells [.int .i64 0,.snil],.cells [.int .i64 0,.sl (IT.css (zbd (ks.take i))) (.own (H.length+3))],.perm zba 2 i]) ks.length ?_ ?_
   ·intro _;exact⟨0,by omega,by omega,rfl,by simp[zbd,IT.css]⟩
   ·rintro q t13 H' ⟨i,hi,rfl,rfl,rfl⟩ eA d8 eC Kb ee;by_cases d7:i<ks.length
    ·obtain⟨x,y,z,ei,hx,hy,hz⟩:=zbh ks[i];have gC:=VT.kid_lt (k:=6) (n:=n) d7;have jj:(zbd (ks.take i)).length=i:=by simp[zdT,bj hi]
     simp[ztI,d7,ei,hx,hy,hz];rw[←ei];refine zaH (.agg (zaX ks[i]).cs) (λJ=>ih ks[i] (by omega) (by omega) _ _ ⟨rfl,rfl⟩) ?_;rw[zoG];simp[zax,zaO,zaK,jj,AV.known,aj];refine⟨⟨by omega,by omega⟩,?_⟩;rw[zav (by omega) (by omega)];have eD:IT.css (zbd (ks.take i))++[(zaX ks[i]).cs]=IT.css (zbd (ks.take (i+1))):=by rw[zdT,zdT,af d7,IT.css_map,IT.css_map,aP,aP];rfl
     rw[eD];refine ee _ _ ⟨ks.length-(i+1),by omega,Back.at (J:=[.cells (ks[i]).cs]) (H2:=H++[.cells [.int .i64 6,.int .i64 n,.sl (VT.css ks) .none],.cells [.int .i64 0,.snil],.cells [.int .i64 0,.sl (IT.css (zbd (ks.take (i+1)))) (.own (H.length+3))],.perm zba 2 (i+1)]) (by simp) (by simp) (hsc _) ?_ ⟨_,rfl,i+1,by omega,rfl,by simp,rfl⟩⟩;simp[zm6,AV.sc,AV.scV,AV.scA,AV.scB]
    ·obtain rfl:i=ks.length:=by omega
     rw[aq]at *;simp[ztI,zm7,AV.known,aj];exact Out.at rfl (aa _) hs (WkV.agg (ds:=[.int .i64 0,.sl (IT.css (zbd ks)) .none]) ⟨.refl _,.sl _ _,trivial⟩) rfl (by simp[AV.scV,AV.scA,AV.scB]) hK
  ·have hK:K (.agg [.int .i64 0,.sl [] .none]) H:=by simpa[zaX,kJ,IT.cs,IT.css]using hK
   have hb:(k == 6)=false:=by simpa using kJ
   simp[hb,zm7,AV.known,aj];exact Out.at rfl (aa _) hs (WkV.agg (ds:=[.int .i64 0,.sl [] .none]) ⟨.refl _,.snil,trivial⟩) rfl (by simp[AV.scV,AV.scA,AV.scB]) hK
theorem zG2{dU:List Dat}{t:VT}{p:IT×Nat}(h0:0≤rdV dU p.1 t)(h6:rdV dU p.1 t≤6):zbJ dU t [p] 7=[p]:=by
 have:rdV dU p.1 t=0∨rdV dU p.1 t=1∨rdV dU p.1 t=2∨rdV dU p.1 t=3∨rdV dU p.1 t=4∨rdV dU p.1 t=5∨rdV dU p.1 t=6:=by omega
 rcases this with h|h|h|h|h|h|h <;> simp[zbJ,ofD,bO,h]
theorem zyU(g:IT→Nat)(c:Nat):∀ s:List (IT × Nat),zah g (scl s c)=c*zah g s
 |[]=>by simp[scl]
 |p::s=>by have:=zyU g c s;unfold scl at this ⊢;rw[aD,zaW,zaW,this,ch];congr 1;rw[ba p.2 c,cd]
def DlS(f:Nat→Nat):Nat→Nat
 |0=>1
 |b+1=>f (b+1)+DlS f b+f b
def Dl:Nat→Nat→Nat
 |0,_=>1
 |a+1,b=>DlS (Dl a) b
theorem zD6(a b:Nat):Dl (a+1) (b+1)=Dl a (b+1)+Dl (a+1) b+Dl a b:=rfl
set_option maxRecDepth 100000 in
theorem zD5:∀a b c d:Fin 7,a.1≤c.1∧b.1≤d.1∧c.1+d.1≤6→Dl a.1 b.1≤Dl c.1 d.1:=by decide
theorem zgX(a:Nat)(ha:a<7)(b:Nat)(hb:b<7)(c:Nat)(hc:c<7)(d:Nat)(hd:d<7)(h1:a≤c)(h2:b≤d)(h3:c+d≤6):Dl a b≤Dl c d:=zD5 ⟨a,ha⟩ ⟨b,hb⟩ ⟨c,hc⟩ ⟨d,hd⟩ ⟨h1,h2,h3⟩
set_option maxRecDepth 100000 in
theorem zu5:∀a<7,∀b<7,∀c<7,∀d<7,a+b+c+d≤6→Dl a b*Dl c d≤Dl (a+c) (b+d):=by decide
set_option maxRecDepth 100000 in
theorem zD4:∀a<7,∀b<7,a+b≤6→zah (λ_=>1) (za4 a b)≤Dl a b:=by decide
theorem zok:∀a<7,∀b<7,1≤Dl a b:=by decide
def DP(dU:List Dat)(f:Nat):Prop:=∀(t:VT) (i j:IT) (a b:Nat),i.nodes+j.nodes≤f→rdV dU i t=a→rdV dU j t=b→a+b≤6→zah (λ_=>1) (zaA dU f t i j)≤Dl a b
def DQ(dU:List Dat)(f:Nat):Prop:=∀(ts:List VT) (l m:List IT) (a b:Nat),IT.nodesL l+IT.nodesL m+1≤f→l.length=ts.length→m.length=ts.length→rdA dU l ts 0=a→rdA dU m ts 0=b→a+b≤6→zah (λ_=>1) (zbp dU f ts l m)≤Dl a b
def DM(dU:List Dat)(f:Nat):Prop:=∀(t:VT) (l m:List IT) (a b:Nat),IT.nodesL l+IT.nodesL m+1≤f→rdE dU l t 0=a→rdE dU m t 0=b→a+b≤6→zah (λ_=>1) (zaE dU f t l m)≤Dl a b
theorem zI7(ws:List (IT×Nat))(s:List (List IT×Nat)):zah (λ_=>1) (zbD s ws)=zah (λ_=>1) s*zah (λ_=>1) ws:=by
 unfold zbD;rw[zeD (λ_=>1) (λa b=>a++[b]) ws s];have:(λ_:List IT=>zah (λ_:IT=>1) ws)=λ_=>zah (λ_:IT=>1) ws*1:=by funext;rw[bv]
 rw[this,zky];rw[ba]
theorem zwl{dU:List Dat}{f:Nat}(hP:DP dU f){ts:List VT}{l m:List IT}(hf:IT.nodesL l+IT.nodesL m≤f)(hl:l.length=ts.length)(hm:m.length=ts.length)(hA:0≤rdA dU l ts 0)(hB:0≤rdA dU m ts 0)(h6:rdA dU l ts 0+rdA dU m ts 0≤6):
  ∀k,k≤ts.length→∀a b:Nat,rdA dU (l.take k) (ts.take k) 0=a→rdA dU (m.take k) (ts.take k) 0=b→zah (λ_=>1) (za6 dU f ts l m k)≤Dl a b
 |0,_,a,b,ha,hb=>by
  simp only[List.take_zero,rdA]at ha hb;obtain rfl:a=0:=by omega
  obtain rfl:b=0:=by omega
  simp[zfD,zah,Dl]
 |k+1,hk,a,b,ha,hb=>by
  have h1:k<ts.length:=by omega
  have h3:k<l.length:=by omega
  have h4:k<m.length:=by omega
  have n1:=zck h3;have n2:=zck h4;have d1:=(zdO (dU:=dU) l ts 0 (by omega) hl hA).1 k h3 h1;have d2:=(zdO (dU:=dU) m ts 0 (by omega) hm hB).1 k h4 h1;have a1:=zcu l ts 0 k hl (by omega) hA;have a2:=zcu l ts 0 (k+1) hl (by omega) hA;have c1:=zcu m ts 0 k hm (by omega) hB;have c2:=zcu m ts 0 (k+1) hm (by omega) hB;have sl:=ze3 (dU:=dU) l[k] ts[k] (l.take k) (ts.take k) 0 (by simp;omega) (by omega) a1.1;have sm:=ze3 (dU:=dU) m[k] ts[k] (m.take k) (ts.take k) 0 (by simp;omega) (by omega) c1.1;rw[←af h3,←af h1]at sl;rw[←af h4,←af h1]at sm;by_cases cl:rdV dU l[k] ts[k]<0∨rdA dU (l.take k) (ts.take k) 0+rdV dU l[k] ts[k]>6
  ·rw[aA cl]at sl;omega
  rw[ap cl]at sl;by_cases cm:rdV dU m[k] ts[k]<0∨rdA dU (m.take k) (ts.take k) 0+rdV dU m[k] ts[k]>6
  ·rw[aA cm]at sm;omega
  rw[ap cm]at sm;obtain⟨a',oP⟩:∃a':Nat,rdA dU (l.take k) (ts.take k) 0=a':=⟨(rdA dU (l.take k) (ts.take k) 0).toNat,by omega⟩;obtain⟨b',kY⟩:∃b':Nat,rdA dU (m.take k) (ts.take k) 0=b':=⟨(rdA dU (m.take k) (ts.take k) 0).toNat,by omega⟩;obtain⟨p,hp⟩:∃p:Nat,rdV dU l[k] ts[k]=p:=⟨(rdV dU l[k] ts[k]).toNat,by omega⟩;obtain⟨q,hq⟩:∃q:Nat,rdV dU m[k] ts[k]=q:=⟨(rdV dU m[k] ts[k]).toNat,by omega⟩;have ih:=zwl hP hf hl hm hA hB h6 k (by omega) a' b' oP kY;have hw:=hP ts[k] l[k] m[k] p q (by omega) hp hq (by omega);have e1:ts.getD k tz=ts[k]:=by simp[List.getD_eq_getElem?_getD,h1]
  have e2:l.getD k d0=l[k]:=by simp[List.getD_eq_getElem?_getD,h3]
  have e3:m.getD k d0=m[k]:=by simp[List.getD_eq_getElem?_getD,h4]
  rw[zcw,e1,e2,e3,zI7];have hs:=zu5 a' (by omega) b' (by omega) p (by omega) q (by omega) (by omega);obtain rfl:a=a'+p:=by omega
  obtain rfl:b=b'+q:=by omega
  exact ar (bx ih hw) hs
theorem zwk{dU:List Dat}(h8:∀ D∈dU,D.cons.length≤8):∀ f,DP dU f∧DQ dU f∧DM dU f
 |0=>⟨λt i j a b h=>by have:=i.nodes_pos;omega,λts l m a b h=>by omega,λt l m a b h=>by omega⟩
 |f+1=>by
  obtain⟨hP,hQ,hM⟩:=zwk h8 f;refine⟨?_,?_,?_⟩
  ·intro t i j a b hf hi hj h6;obtain⟨k,tn,tks⟩:=t;obtain⟨n,l⟩:=i;obtain⟨n',m⟩:=j;simp only[IT.nodes]at hf;have jf:0≤rdV dU (.mk n l) (.mk k tn tks):=by omega
   have jK:0≤rdV dU (.mk n' m) (.mk k tn tks):=by omega
   have gZ:=zok a (by omega) b (by omega);rw[zdi]at hi hj jf jK;rw[zaA];simp only[VT.kind,VT.kids,zaF,zaI];by_cases k6:k=6
   ·subst k6;simp only[aV]at hi hj jf jK ⊢;by_cases hn:n=0;case neg=>rw[ap hn]at jf;omega
    by_cases ff:n'=0;case neg=>rw[ap ff]at jK;omega
    rw[aA hn]at hi jf;rw[aA ff]at hj jK;by_cases hl:tks.length=l.length;case neg=>rw[ap hl]at jf;omega
    by_cases hm:tks.length=m.length;case neg=>rw[ap hm]at jK;omega
    rw[aA hl]at hi;rw[aA hm]at hj;rw[zb9 (λ_=>1) (λr=>IT.mk 0 r)];exact hQ tks l m a b (by omega) hl.symm hm.symm hi hj h6
   ·simp only[k6,aH]at hi hj jf jK ⊢;by_cases k7:k=7
    ·subst k7;simp only[aV]at hi hj jf jK ⊢;by_cases hc:0≤n∧n≤6∧l.length=0;case neg=>rw[ap hc]at jf;omega
     by_cases iY:0≤n'∧n'≤6∧m.length=0;case neg=>rw[ap iY]at jK;omega
     rw[aA hc]at hi;rw[aA iY]at hj;subst hi hj;rw[Int.toNat_natCast,Int.toNat_natCast,zil];exact zD4 a (by omega) b (by omega) h6
    ·simp only[k7,aH]at hi hj jf jK ⊢;by_cases k5:k=5
     ·subst k5;simp only[aV]at hi hj jf jK ⊢;by_cases hc:n=0∧l.length≤6;case neg=>rw[ap hc]at jf;omega
      by_cases iY:n'=0∧m.length≤6;case neg=>rw[ap iY]at jK;omega
      rw[aA hc]at hi;rw[aA iY]at hj;rw[zb9 (λ_=>1) (λr=>IT.mk 0 r)];exact hM _ l m a b (by omega) hi hj h6
     ·simp only[k5,aH];simpa[zah]using gZ
  ·intro ts l m a b hf hl hm ha hb h6;have:=zwl (f:=f) hP (ts:=ts) (l:=l) (m:=m) (by omega) hl hm (by omega) (by omega) (by omega) ts.length (aa _) a b (by rw[aq,am (by omega)];exact ha) (by rw[aq,am (by omega)];exact hb);rw[zdz];exact this
  ·intro t l m a b hf ha hb h6;have gZ:=zok a (by omega) b (by omega);cases l with
   |nil=>simpa[zaE,zah]using gZ
   |cons x l=>
    cases m with
    |nil=>simpa[zaE,zah]using gZ
    |cons y m=>
     obtain⟨ca,pa⟩:=x;obtain⟨cb,pb⟩:=y;obtain⟨la,ll,el⟩:=zdP h8 _ _ l (show 0≤rdE dU (.mk ca pa::l) t 0 by omega);obtain⟨mb,mm,em⟩:=zdP h8 _ _ m (show 0≤rdE dU (.mk cb pb::m) t 0 by omega);obtain⟨ca0,ca8,psa,ix,k0,mV,ea⟩:=zdy la;obtain⟨cb0,cb8,psb,kP,fV,mW,eb⟩:=zdy mb;have na:=(IT.mk ca pa).nodes_pos;have nb:=(IT.mk cb pb).nodes_pos;simp only[IT.nodesL]at hf;obtain⟨p,hp⟩:∃p:Nat,rdA dU pa psa 0=p:=⟨(rdA dU pa psa 0).toNat,by omega⟩;obtain⟨q,hq⟩:∃q:Nat,rdA dU pb psb 0=q:=⟨(rdA dU pb psb 0).toNat,by omega⟩;obtain⟨a',oP⟩:∃a':Nat,rdE dU l t 0=a':=⟨(rdE dU l t 0).toNat,by omega⟩;obtain⟨b',kY⟩:∃b':Nat,rdE dU m t 0=b':=⟨(rdE dU m t 0).toNat,by omega⟩;have h1:=hM t l (.mk cb pb::m) a' b (by simp only[IT.nodesL];omega) oP hb (by omega);have h2:=hM t (.mk ca pa::l) m a b' (by simp only[IT.nodesL];omega) ha kY (by omega);obtain⟨a0,rfl⟩:∃a0,a=a0+1:=⟨a-1,by omega⟩;obtain⟨b0,rfl⟩:∃b0,b=b0+1:=⟨b-1,by omega⟩;have m1:=zgX a' (by omega) (b0+1) (by omega) a0 (by omega) (b0+1) (by omega) (by omega) (by omega) (by omega);have m2:=zgX (a0+1) (by omega) b' (by omega) (a0+1) (by omega) b0 (by omega) (by omega) (by omega) (by omega);rw[zaE,zdj,zdj,zb9 (λ_=>1) (λr=>IT.mk ca pa::r),zb9 (λ_=>1) (λr=>IT.mk cb pb::r),zD6];have hd:=zok a0 (by omega) b0 (by omega);have h3:zah (λ_=>1) (if zaI (.mk ca pa)=zaI (.mk cb pb) then (zbp dU f ((zbb dU t (zaI (.mk ca pa))).getD []) (zaF (.mk ca pa)) (zaF (.mk cb pb))).flatMap λr=>(zaE dU f t l m).map λx=>(IT.mk (zaI (.mk ca pa)) r.1::x.1,r.2*x.2) else [])≤Dl a0 b0:=by
      by_cases eS:ca=cb
      ·subst eS;rw[ix]at kP;cases kP;simp only[zaI,zaF,ix,Option.getD_some,aV];rw[zeD (λ_=>1) (λr x=>IT.mk ca r::x) (zaE dU f t l m)];have hr:=hQ psa pa pb p q (by simp only[IT.nodes]at hf;omega) k0.symm fV.symm hp hq (by omega);have hm:=hM t l m a' b' (by omega) oP kY (by omega);have hs:=zu5 p (by omega) q (by omega) a' (by omega) b' (by omega) (by omega);have hmo:=zgX (p+a') (by omega) (q+b') (by omega) a0 (by omega) b0 (by omega) (by omega) (by omega) (by omega);have:(λ_:List IT=>zah (λ_:List IT=>1) (zaE dU f t l m))=λ_=>zah (λ_:List IT=>1) (zaE dU f t l m)*1:=by funext;rw[bv]
       rw[this,zky,ba];exact ar (bx hr hm) (ar hs hmo)
      ·rw[ap (by simpa[zaI]using eS)];simp
     omega
theorem zg6:∀ (l s:List (IT × Nat)),(∀ p∈s,0<p.2)→∀ p∈zbU s l,0<p.2
 |[],s,h=>by simpa[zbU]using h
 |x::l,s,h=>by
  have e:zbU s (x::l)=zbU (zda s x.1 x.2) l:=rfl;rw[e];refine zg6 l _ λp hp=>?_;rcases zi1 p hp with ⟨q,hq,he,eH⟩|⟨h0,he,eH⟩
  ·have:=h q hq;omega
  ·omega
structure Wt (dU:List Dat) (t:VT) (B:Nat) (D:Int) (l:List (IT × Nat)):Prop where
 ne:0<l.length
 sm:zah (λ_=>1) l≤1000
 mem:∀p∈l,p.1.nodes≤B∧0<p.2∧0≤rdV dU p.1 t∧rdV dU p.1 t≤D
def zcJ(l:List (IT×Nat)):List (IT×Nat):=zbU [] l
def canL(dU:List Dat)(t:VT)(l:List (IT×Nat)):List (IT×Nat):=zbJ dU t (zcJ l) 7
theorem zfl(g:IT→Nat)(l:List (IT×Nat)):zah g (zcJ l)=zah g l:=by show zaM g (zbU [] l)=_;rw[zcy,zdD,aG,zbS]
theorem zi5(l:List (IT×Nat)):Asc (zcJ l):=zg5 _ _ List.Pairwise.nil
theorem zhf(l:List (IT×Nat)):∀p∈zcJ l,0<p.2:=zg6 _ _ (by simp)
theorem zFb{l:List (IT×Nat)}{p:IT×Nat}(h:p∈zcJ l):∃q∈l,q.1=p.1:=by
 obtain⟨_,h⟩:=zeO l [] (by simp) p h;rcases h with ⟨q,hq,_⟩|⟨q,hq,_,he⟩
 ·simp at hq
 ·exact⟨q,hq,he⟩
theorem zFa{l m:List (IT×Nat)}(h:∀g:IT→Nat,zah g l=zah g m):zcJ l=zcJ m:=zhc (zi5 _) (zi5 _) (zhf _) (zhf _) λg=>by rw[zfl,zfl,h]
theorem zvY{dU:List Dat}{t:VT}{l m:List (IT×Nat)}(h:∀g:IT→Nat,zah g l=zah g m):canL dU t l=canL dU t m:=by unfold canL;rw[zFa h]
theorem zG0{dU:List Dat}{t:VT}{s:List (IT×Nat)}{d:Nat}{p:IT×Nat}(h:p∈zbJ dU t s d):p∈s:=by obtain⟨_,_,h⟩:=bI.1 h;exact(cq.1 h).1
theorem Wt.can{dU:List Dat}{t:VT}{B:Nat}{D:Int}{l:List (IT×Nat)}(h:Wt dU t B D l):Wt dU t B D (zcJ l):=by
 refine⟨?_,by rw[zfl];exact h.sm,λp hp=>?_⟩
 ·have h1:=zfl (λ_=>1) l;have h2:=zdu λp hp=>(h.mem p hp).2.1;have:=h.ne;cases hc:zcJ l with
  |nil=>rw[hc,zc4]at h1;omega
  |cons p s=>simp
 ·obtain⟨q,hq,he⟩:=zFb hp;have:=h.mem q hq;rw[he]at this;exact⟨this.1,zhf l p hp,this.2.2⟩
theorem Wt.canL_sum{dU:List Dat}{t:VT}{B:Nat}{D:Int}{l:List (IT×Nat)}(h:Wt dU t B D l)(hD:D≤6)(g:IT→Nat):zah g (canL dU t l)=zah g l:=by have h1:zaM g (zbJ dU t (zcJ l) 7)=zaM g (zcJ l):=zql (λp hp=>by have:=h.can.mem p hp;omega) g;rw[zbS,zbS,zfl]at h1;exact h1
theorem Wt.canL{dU:List Dat}{t:VT}{B:Nat}{D:Int}{l:List (IT×Nat)}(h:Wt dU t B D l)(hD:D≤6):Wt dU t B D (canL dU t l):=by
 refine⟨?_,by rw[h.canL_sum hD];exact h.sm,λp hp=>h.can.mem p (zG0 hp)⟩;have h1:=h.canL_sum hD (λ_=>1);have h2:=zdu λp hp=>(h.mem p hp).2.1;have:=h.ne;cases hc:Go.Proofs.YtdmamdnkcefmmaaGreatDoor.canL dU t l with
 |nil=>rw[hc,zc4]at h1;omega
 |cons p s=>simp
theorem Wt.len{dU:List Dat}{t:VT}{B:Nat}{D:Int}{l:List (IT×Nat)}(h:Wt dU t B D l):l.length≤1000:=ar (zdu λp hp=>(h.mem p hp).2.1) h.sm
theorem Wt.le{dU:List Dat}{t:VT}{B:Nat}{D:Int}{l:List (IT×Nat)}(h:Wt dU t B D l):∀p∈l,p.2≤1000:=λp hp=>by have:=zd4 (λ_=>1) hp;rw[bv]at this;exact ar this h.sm
theorem Wt.mono{dU:List Dat}{t:VT}{B B':Nat}{D D':Int}{l:List (IT×Nat)}(h:Wt dU t B D l)(hB:B≤B')(hD:D≤D'):Wt dU t B' D' l:=⟨h.ne,h.sm,λp hp=>by have:=h.mem p hp;exact⟨by omega,this.2.1,this.2.2.1,by omega⟩⟩
def rwC(dU:List Dat)(t:VT)(v:IT×Nat)(q:List (IT×Nat)):List (IT×Nat):=q.flatMap λw=>scl (zaA dU (v.1.nodes+w.1.nodes) t v.1 w.1) (v.2*w.2)
def zaZ(dU:List Dat)(t:VT)(p q:List (IT×Nat)):List (IT×Nat):=p.flatMap λv=>rwC dU t v q
theorem zyi{dU:List Dat}{t:VT}(g:IT→Nat)(v:IT × Nat):∀ q:List (IT × Nat),zah g (rwC dU t v q)=v.2*zah (λw=>zah g (zaA dU (v.1.nodes+w.nodes) t v.1 w)) q
 |[]=>by simp[rwC]
 |w::q=>by
  have e:rwC dU t v (w::q)=scl (zaA dU (v.1.nodes+w.1.nodes) t v.1 w.1) (v.2*w.2)++rwC dU t v q:=by simp[rwC]
  rw[e,zdj,zyU,zyi g v q,zaW,ch,cd]
theorem zki{dU:List Dat}{t:VT}(g:IT→Nat)(q:List (IT × Nat)):∀ p:List (IT × Nat),zah g (zaZ dU t p q)=zah (λv=>zah (λw=>zah g (zaA dU (v.nodes+w.nodes) t v w)) q) p
 |[]=>by simp[zaZ]
 |v::p=>by
  have e:zaZ dU t (v::p) q=rwC dU t v q++zaZ dU t p q:=by simp[zaZ]
  rw[e,zdj,zyi,zki g q p,zaW]
theorem zHP{dU:List Dat}{t:VT}{v:IT×Nat}{q:List (IT×Nat)}{j:Nat}(h:j<q.length):rwC dU t v (q.take (j+1))=rwC dU t v (q.take j)++scl (zaA dU (v.1.nodes+q[j].1.nodes) t v.1 q[j].1) (v.2*q[j].2):=by rw[af h];simp only[rwC,bB,bf,cV,aK]
theorem zxY{dU:List Dat}{t:VT}{p q:List (IT×Nat)}{j:Nat}(h:j<p.length):zaZ dU t (p.take (j+1)) q=zaZ dU t (p.take j) q++rwC dU t p[j] q:=by rw[af h];simp only[zaZ,bB,bf,cV,aK]
theorem zHr(dU:List Dat)(t:VT)(p q:List (IT×Nat))(j:Nat):zaZ dU t p q=zaZ dU t (p.take j) q++zaZ dU t (p.drop j) q:=by
 conv=>lhs;rw[←aT j p]
 simp only[zaZ,bB]
theorem zHO(dU:List Dat)(t:VT)(v:IT×Nat)(q:List (IT×Nat))(j:Nat):rwC dU t v q=rwC dU t v (q.take j)++rwC dU t v (q.drop j):=by
 conv=>lhs;rw[←aT j q]
 simp only[rwC,bB]
theorem zHq{dU:List Dat}(h8:∀ D∈dU,D.cons.length≤8){t:VT}{B C:Nat}{D E:Int}{p q:List (IT × Nat)}(hp:Wt dU t B D p)(hq:Wt dU t C E q)(h6:D+E≤6):
  ∀x∈zaZ dU t p q,x.1.nodes≤B+C∧0<x.2∧0≤rdV dU x.1 t∧rdV dU x.1 t≤D+E:=by
 intro x hx;obtain⟨v,hv,hx⟩:=bI.1 hx;obtain⟨w,hw,hx⟩:=bI.1 hx;obtain⟨y,hy,rfl⟩:=aC.1 hx;obtain⟨v1,v2,v3,v4⟩:=hp.mem v hv;obtain⟨w1,w2,w3,w4⟩:=hq.mem w hw;obtain⟨P1,_⟩:=zem h8 (f:=v.1.nodes+w.1.nodes) (t:=t) (i:=v.1) (j:=w.1) (aa _) v3 w3 (by omega);obtain⟨p1,p2,p3,p4,p5,p6,p7⟩:=P1 y hy;exact⟨by show y.1.nodes≤_;omega,da p1 (da v2 w2),p3,by show rdV dU y.1 t≤_;omega⟩
theorem zqv{dU:List Dat}(h8:∀D∈dU,D.cons.length≤8){t:VT}{B C:Nat}{D E:Int}{p q:List (IT×Nat)}(hp:Wt dU t B D p)(hq:Wt dU t C E q)(h6:D+E≤6)(hs:zah (λ_=>1) (zaZ dU t p q)≤1000):Wt dU t (B+C) (D+E) (zaZ dU t p q):=by
 have hm:=zHq h8 hp hq h6;refine⟨?_,hs,hm⟩;have h1:=hp.ne;have h2:=hq.ne;cases p with
 |nil=>simp at h1
 |cons v p=>
  cases q with
  |nil=>simp at h2
  |cons w q=>
   obtain⟨v1,v2,v3,v4⟩:=hp.mem v (by simp);obtain⟨w1,w2,w3,w4⟩:=hq.mem w (by simp);have:=zpo (dU:=dU) (t:=t) (i:=v.1) (j:=w.1) (aa _) v3 w3;have e:zaZ dU t (v::p) (w::q)=scl (zaA dU (v.1.nodes+w.1.nodes) t v.1 w.1) (v.2*w.2)++(rwC dU t v q++zaZ dU t p (w::q)):=by simp[zaZ,rwC]
   rw[e,az,zHV];cases hc:zaA dU (v.1.nodes+w.1.nodes) t v.1 w.1 with
   |nil=>rw[hc,zc4]at this;omega
   |cons x s=>simp;omega
section
variable (t0 t1 t2 t3 t5 t7 t8 t12 t15 t17 t87 t88 t89 t93 t94 t95:AV) (H:zaa) (K:Kt) (Kb2 Kb17:Lt)
def zKO(_:Nat):List Bool:=[]
noncomputable def zKP:=Tryz.f117.body.getD .skip
def zzW:=ACalls tP zxd [t0,t1] H λt7 H=>zad .geq false t7 (.int .i64 0) λt8=>K t8 H
def zlU:Nat→List Bool|2=>rl false [0,2,5,2,10]|_=>[]
noncomputable def zsl:=Tryz.f156.body.getD .skip
noncomputable def zNi:=Tryz.f156.results.toList
def zlV:=t0::t1::ux 5 (t7::t8::ux 10 [])
def zNg:=zlU 2
noncomputable def zNe:=zas [1,0,1,0,0] zsl
def zNd:=zat tP zlU [1,0,1,0] zsl (zaB tP zNi K)
def zAE:=ALoop tP zNe (zNd K) (zlV t0 t1 t7 t8) H
def zsk:=zad .lss false t8 t7 λt9=>zag t9 (zaj 5 t0 t8 λt14=>zae true 5 t14 H λt15=>aCallV tP t1 [t15] H λt16 H=>zag t16 (K t8 H) (zad .add false t8 (.int .i64 1) λt18=>Kb2 (zlV t0 t1 t7 t18) H)) (K (.int .i64 (-1)) H)
def zAD:=zai 1 t0 λt7=>zAE t0 t1 t7 (.int .i64 0) H K
def zKR(_:Nat):List Bool:=[]
noncomputable def zKS:=Tryz.f118.body.getD .skip
def zzX:=zaw t0 H λt3 H=>zae false 1 t1 H λt5=>zae true 3 t2 H λt6=>zaf 0 t3 λt7=>zae true 2 t7 H λt8=>ACalls tP zpt [t5,t6,t8] H λt9 H=>aUn .not t9 λt10=>K t10 H
def zUo(_:Nat):List Bool:=[]
noncomputable def zUp:=Tryz.f66.body.getD .skip
def zDd:=zaw t0 H λt3 H=>zaw t1 H λt4 H=>zae false 1 t3 H λt10=>zae true 3 t4 H λt11=>ACalls tP zp9 [t10,t11] H λt12 H=>zay t12 0 λt13=>zay t12 1 λt14=>zaz [(.int .i64 0),.snil] H λt7 H=>zao 2 t7 t13 H λH=>zac t14 true H (λK'=>K' t2 H) λt17 H=>zac t14 true H (λK'=>zcp zjn [t3,t4] (K' · H)) λt18 H=>zac t14 true H (λK'=>ACalls tP zps [t17,t18] H K') λt19 H=>zac t14 true H (λK'=>aUn .not t19 (K' · H)) λt20 H=>zak t14 t20 (.bool false) λt21=>K t21 H
def zUr(_:Nat):List Bool:=[]
noncomputable def zUs:=Tryz.f67.body.getD .skip
def zDe:=zaw t1 H λt4 H=>zai 1 t2 λt10=>zad .gtr false t10 (.int .i64 2000) λt11=>zag t11 (zaG [.snil,(.int .i64 9)] (K · H)) (zae true 3 t4 H λt13=>ACalls tP zhT [t0,t13] H λt14 H=>ACalls tP zhU [t14,t2] H λt17 H=>ACalls tP zhW [t14] H λt19 H=>zay t19 0 λt20=>zay t19 1 λt21=>zaG [t20,t21] (K · H))
def zSk(_:Nat):List Bool:=[]
noncomputable def zSl:=Tryz.f32.body.getD .skip
def zCu:=zaw t1 H λt4 H=>zae true 3 t4 H λt9=>ACalls tP zhX [t0,t9,t2] H λt11 H=>aUn .not t11 λt12=>zag t12 (zaG [.snil,(.int .i64 1)] (K · H)) (zae true 3 t4 H λt14=>ACalls tP zhY [t0,t14,t2] H λt16 H=>zay t16 0 λt17=>zay t16 1 λt18=>zaG [t17,t18] (K · H))
def zfW:Nat→List Bool|17=>rl false [0,1,4,1,6,1,2,1,71,3,30]|20=>rl false [0,1,4,1,6,1,2,1,1,1,69,3,3,3,24]|200022=>rl false [0,5]|_=>[]
noncomputable def ztM:=Tryz.f34.body.getD .skip
noncomputable def zSu:=Tryz.f34.results.toList
def zm9:=t0::ux 4 (t5::ux 6 (t12::ux 2 (t15::ux 71 (t87::t88::t89::ux 30 []))))
def zCy:=zfW 17
noncomputable def ztN:=zas [1,1,1,1,1,1,1,1,1,1,1,0,1,0,0] ztM
def zCw:=zat tP zfW [1,1,1,1,1,1,1,1,1,1,1,0,1,0] ztM (zaB tP zSu K)
def znb:=ALoop tP ztN (zCw K) (zm9 t0 t5 t12 t15 t87 t88 t89) H
def zna:=t0::ux 4 (t5::ux 6 (t12::ux 2 (t15::ux 1 (t17::ux 69 (t87::t88::t89::ux 3 (t93::t94::t95::ux 24 []))))))
def zSs:=zfW 20
noncomputable def zSp:=zas [1,1,0,0,1,1,0,0] ztN
def zSo:=zat tP zfW [1,1,0,0,1,1,0] ztN (zbR zCy Kb17 (zCw K))
def zCx:=ALoop tP zSp (zSo K Kb17) (zna t0 t5 t12 t15 t17 t87 t88 t89 t93 t94 t95) H
def ztL(t0 t5 t12 t15 t17 t87 t88 t89 t93 t94 t95:AV)(H:zaa)(K:Kt)(Kb17:Lt)(Kb20:Lt):Prop:=zad .lss false t95 t94 λt96=>zag t96 (zaj 5 t93 t95 λt97=>zae true 5 t97 H λt98=>zaz [(.int .i64 0),.snil,(.bool false),.snil,.snil] H λt19 H=>zao 5 t19 t98 H λH=>apm H t15 λt99=>apm H t0 λt100=>apu H (zal true 3 t5 H) λt101=>apu H (zaf 0 t17) λt102=>apu H (zal true 2 t102 H) λt103=>apu H (zaf 0 t19) λt104=>apu H (zal true 2 t104 H) λt105=>zaJ H (λH K'=>ACalls tP zhV [t100,t101,t103,t105] H K') λt106=>apu H (zaf 2 t17) λt107=>apu H (zal true 3 t107 H) λt108=>apu H (zaf 2 t19) λt109=>apu H (zal true 3 t109 H) λt110=>zaJ H (λH K'=>ACalls tP zet [t108,t110] H K') λt111=>zaJ H (λH K'=>ACalls tP zqa [t106,t111] H K') λt112=>ACalls tP zhU [t99,t112] H λt113 H=>zad .add false t95 (.int .i64 1) λt114=>Kb20 (zna t0 t5 t12 t15 t17 t87 t88 t89 t93 t94 t114) H) (zad .add false t89 (.int .i64 1) λt115=>Kb17 (zm9 t0 t5 t12 t15 t87 t88 t115) H)
def ztK:=zad .lss false t89 t88 λt90=>zag t90 (zaj 5 t87 t89 λt91=>zae true 5 t91 H λt92=>zaz [(.int .i64 0),.snil,(.bool false),.snil,.snil] H λt17 H=>zao 5 t17 t92 H λH=>zai 1 t12 λt94=>zCx t0 t5 t12 t15 t17 t87 t88 t89 t12 t94 (.int .i64 0) H K Kb17) (ACalls tP zhW [t15] H λt117 H=>zay t117 0 λt118=>zay t117 1 λt119=>zaG [t118,t119] (K · H))
def zCv:=zaw t1 H λt5 H=>zae true 3 t5 H λt21=>ACalls tP zhX [t0,t21,t2] H λt23 H=>aUn .not t23 λt24=>zac t24 false H (λK'=>K' t0 H) λt26 H=>zac t24 false H (λK'=>zae true 3 t5 H (K' · H)) λt27 H=>zac t24 false H (λK'=>K' t3 H) λt28 H=>zac t24 false H (λK'=>ACalls tP zhX [t26,t27,t28] H K') λt29 H=>zac t24 false H (λK'=>aUn .not t29 (K' · H)) λt30 H=>zak t24 (.bool true) t30 λt31=>zag t31 (zaG [.snil,(.int .i64 1)] (K · H)) (zae true 3 t5 H λt34=>ACalls tP zhY [t0,t34,t2] H λt36 H=>zay t36 0 λt37=>zay t36 1 λt38=>zad .neq false t38 (.int .i64 0) λt40=>zag t40 (zaG [.snil,t38] (K · H)) (zae true 3 t5 H λt44=>ACalls tP zhY [t0,t44,t3] H λt46 H=>zay t46 0 λt47=>zay t46 1 λt48=>zad .neq false t48 (.int .i64 0) λt50=>zag t50 (zaG [.snil,t48] (K · H)) (zai 1 t37 λt53=>zad .eql false t53 (.int .i64 0) λt54=>zac t54 false H (λK'=>K' t47 H) λt56 H=>zac t54 false H (λK'=>zai 1 t56 (K' · H)) λt57 H=>zac t54 false H (λK'=>zad .eql false t57 (.int .i64 0) (K' · H)) λt58 H=>zak t54 (.bool true) t58 λt59=>zag t59 (zaG [.snil,(.int .i64 0)] (K · H)) (apm H t0 λt60=>apu H (zal true 3 t5 H) λt61=>apm H t37 λt62=>apm H t37 λt63=>apu H (zai 1 t63) λt64=>apu H (zad .sub false t64 (.int .i64 1)) λt65=>apu H (zaj 5 t62 t65) λt66=>apu H (zaf 0 t66) λt67=>apu H (zal true 2 t67 H) λt68=>zaJ H (λH K'=>ACalls tP ze1 [t60,t61,t68] H K') λt69=>apm H t69 λt13=>apm H t0 λt70=>apu H (zal true 3 t5 H) λt71=>apm H t47 λt72=>apm H t47 λt73=>apu H (zai 1 t73) λt74=>apu H (zad .sub false t74 (.int .i64 1)) λt75=>apu H (zaj 5 t72 t75) λt76=>apu H (zaf 0 t76) λt77=>apu H (zal true 2 t77 H) λt78=>zaJ H (λH K'=>ACalls tP ze1 [t70,t71,t78] H K') λt79=>apm H t79 λt14=>zad .add false t13 t14 λt82=>zad .gtr false t82 (.int .i64 6) λt83=>zag t83 (zaG [.snil,(.int .i64 13)] (K · H)) (zae true 3 t5 H λt85=>ACalls tP zhT [t0,t85] H λt86 H=>zai 1 t37 λt88=>znb t0 t5 t47 t86 t37 t88 (.int .i64 0) H K)))))
variable {t0 t1 t2 t3 t5 t7 t8 t12 t15 t17 t87 t88 t89 t93 t94 t95} {H} {K} {Kb2 Kb17}
theorem zKQ(h:HSc H→zzW t0 t1 H K):ACalls tP zps [t0,t1] H K:=
 acb zKO Tryz.func117 zKP h
theorem zNf:Lo1 (λt8=>zlV t0 t1 t7 t8) (λt8 H Kb2=>zsk t0 t1 t7 t8 H K Kb2) t8 H (zAE t0 t1 t7 t8 H K):=lq1 zlU zNg
theorem zNh(h:HSc H→zAD t0 t1 H K):ACalls tP zxd [t0,t1] H K:=
 acb zlU Tryz.func156 zsl h
theorem zKT(h:HSc H→zzX t0 t1 t2 H K):ACalls tP zjn [t0,t1,t2] H K:=
 acb zKR Tryz.func118 zKS h
theorem zUq(h:HSc H→zDd t0 t1 t2 H K):ACalls tP zhX [t0,t1,t2] H K:=
 acb zUo Tryz.func66 zUp h
theorem zUt(h:HSc H→zDe t0 t1 t2 H K):ACalls tP zhY [t0,t1,t2] H K:=
 acb zUr Tryz.func67 zUs h
theorem zSm(h:HSc H→zCu t0 t1 t2 H K):ACalls tP zp4 [t0,t1,t2] H K:=
 acb zSk Tryz.func32 zSl h
theorem zSr:Lo1 (λt95=>zna t0 t5 t12 t15 t17 t87 t88 t89 t93 t94 t95) (λt95 H Kb20=>ztL t0 t5 t12 t15 t17 t87 t88 t89 t93 t94 t95 H K Kb17 Kb20) t95 H (zCx t0 t5 t12 t15 t17 t87 t88 t89 t93 t94 t95 H K Kb17):=lq1 zfW zSs
theorem zSq:Lo1 (λt89=>zm9 t0 t5 t12 t15 t87 t88 t89) (λt89 H Kb17=>ztK t0 t5 t12 t15 t87 t88 t89 H K Kb17) t89 H (znb t0 t5 t12 t15 t87 t88 t89 H K):=lq1 zfW zCy
theorem zSt(h:HSc H→zCv t0 t1 t2 t3 H K):ACalls tP zhS [t0,t1,t2,t3] H K:=
 acb zfW Tryz.func34 ztM h
end
theorem zFq(x:List (IT×Nat))(hl:x.length≤1000000000)(fv:AV)(H:zaa)(K:Kt)(mt:fv.sc H.length=true)(step:∀(i:Nat) (h:i<x.length),aCallV tP fv [.agg (tmC x[i])] H λr H''=>r=.bool false∧H''=H)(fin:K (.bool false) H):ACalls tP zps [.sl (zaD x) .none,fv] H K:=by
 refine zKQ λlQ=>?_;unfold zzW;refine zNh λhs=>?_;simp[zAD];refine zNf (Inv:=λq t8 H'=>∃i:Nat,i≤x.length∧x.length-i=q∧t8=.int .i64 i∧H'=H) x.length ?_ ?_
 ·intro _;exact⟨0,by omega,by omega,rfl,rfl⟩
 ·rintro q t8 H' ⟨i,hi,rfl,rfl,rfl⟩ hsc d8 eC Kb ee;by_cases d7:i<x.length
  ·simp[zsk,d7,zcQ];refine(step i d7).mono' λr H'' eA hle' hr=>?_;obtain⟨rfl,rfl⟩:=hr;simp;rw[zav (by omega) (by omega)];refine ee _ _ ⟨x.length-(i+1),by omega,Back.here (by omega) eA ?_ ⟨_,rfl,i+1,by omega,rfl,by simp,rfl⟩⟩;simp[zlV,AV.sc,AV.scV,AV.scA,AV.scB];exact mt
  ·obtain rfl:i=x.length:=by omega
   simp[zsk];exact fin
theorem zE9:zd1 tP zjn=true:=by kernel_rfl
theorem zup{dU:List Dat}(hk:zbw dU)(t:VT)(ht:t.nodes≤1000)(hf:za8 dU t=true)(l:List (IT × Nat))(hl:l.length≤100000)(hv:∀ p∈l,p.1.nodes≤900∧0≤rdV dU p.1 t)(H:zaa)(K:Kt)(hK:K (.bool true) H):
  ACalls tP zhX [.sl (dU.map Dat.cs) .none,.agg t.cs,.sl (zaD l) .none] H K:=by
 refine ACalls.out (zUq λhs=>?_);obtain⟨x,y,z,ei,hx,hy,hz⟩:=zbh t;obtain⟨x3,y3,fM,fC,pN⟩:=zde (zaX t);simp[zDd,ei,ae];rw[←ei];refine zT6 dU hk t ht _ _ (λ_=>?_) hf;simp[ei,fM,ae,IT.cs_known];refine⟨⟨fC,pN⟩,?_⟩;rw[←ei,←fM];obtain⟨A,hA⟩:∃A,A=H++[AB.cells [.sl (dU.map Dat.cs) .none],.cells t.cs,.cells (zaX t).cs]:=⟨_,rfl⟩;have a0:A[H.length]?=some (.cells [.sl (dU.map Dat.cs) .none]):=by rw[hA];simp[List.getElem?_append]
 have a1:A[H.length+1]?=some (.cells t.cs):=by rw[hA];simp[List.getElem?_append]
 have iC:List.take 3 t.cs=t.cs:=am (by obtain⟨a,b,c⟩:=t;simp[VT.cs]);have fX:t.cs.length=3:=by obtain⟨a,b,c⟩:=t;rfl
 rw[←hA];refine⟨⟨rfl,rfl⟩,?_⟩;refine zFq l (by omega) _ _ _ (show (AV.fn zjn [.ptr H.length 0,.ptr (H.length+1) 0]).sc A.length=true by rw[hA];simp[AV.sc,AV.scV,AV.scA,AV.scB]) (λi hi=>?_) ?_
 ·simp only[aCallV,zE9,List.singleton_append];refine ACalls.out (zKT λfx=>?_);simp[zzX,zbj a0,zbj a1,iC,fX,zco];obtain⟨h1,h2⟩:=hv _ (ah hi);refine zKX dU hk t ht l[i].1 h1 _ _ ?_;rw[zdb hf];simp[h2];exact Out.bool rfl (aa _) fx ⟨rfl,rfl⟩
 ·simp;rw[hA];exact Out.bool rfl (aa _) hs hK
theorem zuq{dU:List Dat}(hk:zbw dU)(t:VT)(ht:t.nodes≤250)(hf:za8 dU t=true){B:Nat}{D:Int}(hB:B≤900)(hD:D≤6)(l:List (IT × Nat))(hw:Wt dU t B D l)(H:zaa)(K:Kt)(hK:K (.tup [.sl (zaD (canL dU t l)) .none,.int .i64 0]) H):
  ACalls tP zhY [.sl (dU.map Dat.cs) .none,.agg t.cs,.sl (zaD l) .none] H K:=by
 refine ACalls.out (zUt λhs=>?_);have h8:=zcD hf;obtain⟨x,y,z,ei,hx,hy,hz⟩:=zbh t;have kj:=hw.len;have hln':¬((2000:Int)<(l.length:Int)):=by omega
 simp[zDe,ei,hln',ae];rw[←ei];obtain⟨A,hA⟩:∃A,A=H++[AB.cells t.cs]:=⟨_,rfl⟩;have js:A.length=H.length+1:=by rw[hA];simp
 rw[←hA];obtain⟨C,hC⟩:∃C:List AV,C=AV.sl (dU.map Dat.cs) .none::t.cs:=⟨_,rfl⟩;have h4:C.length=4:=by rw[hC];obtain⟨a,b,c⟩:=t;rfl
 refine ztY dU t _ _ ?_;rw[←hC];refine ACalls.ovC (id:=A.length+2) (j:=5) zaC 5 (zxA A t C) (zxy A h4) ?_;rw[zxz A t h4];refine zqU l (λp hp=>?_) _ _ _ _ _ [] (zh7 A t h4) (by simp) (by simp) ?_ (by simp;omega) _ ?_
 ·obtain⟨h1,h2,h3,h5⟩:=hw.mem p hp;exact⟨by omega,zjb h8 _ p.1 (aa _) t h3⟩
 ·refine aQ (show _≤1000 by rw[zdD,zbS,aG];exact hw.sm) (by decide)
 ·have hS:=(zh7 A t h4).next (s':=zaN [] l)
  rw[hC]at hS;have fg:=zi9 l [] (by simp) (λq hq=>(hw.mem q hq).2.1);have ew:∀g:IT→Nat,zah g (zaN [] l)=zah g (zcJ l):=λg=>by rw[zgb,zc4,aG,zfl]
  have fd:=zf9 l [];have fW:=hw.can;obtain⟨J,hJ⟩:=zqj A t C (zaN [] l);refine zqW hk t (by omega) hf _ _ _ _ (zaN [] l) (zcJ l) (by rw[hC];exact hS) (λp hp=>?_) (zga _ _ (by simp)) ?_ (by simp at fd;omega) (zi5 l) (by have:=fW.len;omega) (zhf l) ew _ (λfa=>?_) (λ_=>?_)
  ·obtain⟨h1,h2⟩:=fg p hp;rcases h2 with ⟨q,hq,_⟩ | ⟨q,hq,he⟩
   ·simp at hq
   ·obtain⟨p1,p2,p3,p4⟩:=hw.mem q hq;have hm:=zd4 (λ_=>1) hp;rw[ew,bv]at hm;have ie:=fW.sm;rw[←he];exact⟨by omega,h1,aQ (ar hm ie) (by decide),p3,by omega⟩
  ·have h1:=ew (λ_=>1);have h2:=zdu λp hp=>(fW.mem p hp).2.1;have h3:=fW.ne;cases hc:zaN [] l with
   |nil=>rw[hc,zc4]at h1;omega
   |cons p s=>simp
  ·simp at fd;omega
  ·simp;rw[hJ,hA,aw];exact⟨⟨rfl,rfl⟩,Out.tup (bs:=[.sl (zaD (canL dU t l)) .none,.int .i64 0]) hs hK ⟨zaY rfl rfl,zaY rfl rfl,trivial⟩⟩
theorem zSn{dU:List Dat}(hk:zbw dU)(t:VT)(ht:t.nodes≤250)(hf:za8 dU t=true){B:Nat}{D:Int}(hB:B≤900)(hD:D≤6)(l:List (IT × Nat))(hw:Wt dU t B D l)(H:zaa)(K:Kt)(hK:K (.tup [.sl (zaD (canL dU t l)) .none,.int .i64 0]) H):
  ACalls tP zp4 [.sl (dU.map Dat.cs) .none,.agg t.cs,.sl (zaD l) .none] H K:=by
 refine ACalls.out (zSm λhs=>?_);obtain⟨x,y,z,ei,hx,hy,hz⟩:=zbh t;have kj:=hw.len;simp[zCu,ei,ae];rw[←ei];refine zup hk t (by omega) hf l (by omega) (λp hp=>by have:=hw.mem p hp;exact⟨by omega,this.2.2.1⟩) _ _ ?_;simp[ei,ae];rw[←ei];refine zuq hk t ht hf hB hD l hw _ _ ?_;simp;exact⟨⟨rfl,rfl⟩,Out.tup (bs:=[.sl (zaD (canL dU t l)) .none,.int .i64 0]) hs hK ⟨zaY rfl rfl,zaY rfl rfl,trivial⟩⟩
theorem ztO{dU:List Dat}(hk:zbw dU)(t:VT)(ht:t.nodes≤250)(hf:za8 dU t=true){B C:Nat}{D E:Int}(hB:B+C≤300)(hD:0≤D)(hE:0≤E)(h6:D+E≤6)(l m:List (IT × Nat))(hl:Wt dU t B D l)(hm:Wt dU t C E m)(gy:zah (λ_=>1) (zaZ dU t (canL dU t l) (canL dU t m))≤1000)(H:zaa)(K:Kt)(hK:K (.tup [.sl (zaD (canL dU t (zaZ dU t (canL dU t l) (canL dU t m)))) .none,.int .i64 0]) H):
  ACalls tP zhS [.sl (dU.map Dat.cs) .none,.agg t.cs,.sl (zaD l) .none,.sl (zaD m) .none] H K:=by
 refine ACalls.out (zSt λhs=>?_);have h8:=zcD hf;obtain⟨hDo,jL⟩:zbB dU=true∧za3 dU 0 t=true:=by unfold za8 at hf;simpa using hf
 obtain⟨x,y,z,ei,hx,hy,hz⟩:=zbh t;have fc:=hl.len;have hml:=hm.len;simp[zCv,ei,ae];rw[←ei];refine zup hk t (by omega) hf l (by omega) (λp hp=>by have:=hl.mem p hp;exact⟨by omega,this.2.2.1⟩) _ _ ?_;simp[ei,ae];rw[←ei];refine zup hk t (by omega) hf m (by omega) (λp hp=>by have:=hm.mem p hp;exact⟨by omega,this.2.2.1⟩) _ _ ?_;simp[ei,ae];rw[←ei];refine zuq hk t ht hf (by omega) (by omega) l hl _ _ ?_;simp[ei,ae];rw[←ei];refine zuq hk t ht hf (by omega) (by omega) m hm _ _ ?_;have wp:=hl.canL (by omega);have wq:=hm.canL (by omega);generalize canL dU t l=p at *;generalize canL dU t m=q at *;have hW:=zqv h8 wp wq h6 gy;obtain⟨n1,iK⟩:∃n,p.length=n+1:=⟨p.length-1,by have:=wp.ne;omega⟩;obtain⟨n2,jR⟩:∃n,q.length=n+1:=⟨q.length-1,by have:=wq.ne;omega⟩;have gd:=wp.len;have lP:=wq.len;have k1:n1<p.length:=by omega
 have k2:n2<q.length:=by omega
 have w1:IntKind.i64.wrap (n1:Int)=(n1:Int):=zav (by omega) (by omega);have w2:IntKind.i64.wrap (n2:Int)=(n2:Int):=zav (by omega) (by omega);obtain⟨e1,e2,e3,e4⟩:=wp.mem _ (ah k1);obtain⟨g1,g2,g3,g4⟩:=wq.mem _ (ah k2);have w3:IntKind.i64.wrap (rdV dU p[n1].1 t+rdV dU q[n2].1 t)=rdV dU p[n1].1 t+rdV dU q[n2].1 t:=zav (by omega) (by omega);have iz:¬(6<rdV dU p[n1].1 t+rdV dU q[n2].1 t):=by omega
 have z1:((n1:Int)+1 == 0)=false:=by simp;omega
 have z2:((n2:Int)+1 == 0)=false:=by simp;omega
 simp[ei,iK,jR,z1,z2,w1,w2,k1,k2,zco,zcQ,ae];rw[←ei];refine⟨by omega,?_⟩;refine zaH (.int .i64 (rdV dU p[n1].1 t)) (λJ=>zgU dU hk t (by omega) p[n1].1 (by omega) _ _ ⟨by rw[zdb hf],rfl⟩) ?_;refine⟨by omega,?_⟩;refine zaH (.int .i64 (rdV dU q[n2].1 t)) (λJ=>zgU dU hk t (by omega) q[n2].1 (by omega) _ _ ⟨by rw[zdb hf],rfl⟩) ?_;simp[ei,w3,iz,ae];rw[←ei];obtain⟨A,hA⟩:∃A,A=H++[AB.cells t.cs]:=⟨_,rfl⟩;have js:A.length=H.length+1:=by rw[hA];simp
 have a0:A[H.length]?=some (.cells t.cs):=by rw[hA];simp
 have hAs:HSc A:=by rw[hA];refine hs.append ?_;obtain⟨t1,t2,t3⟩:=t;simp[AB.sc,AV.scA,AV.scB,VT.cs]
 rw[←hA];obtain⟨Q,hQ⟩:∃Q:List AV,Q=AV.sl (dU.map Dat.cs) .none::t.cs:=⟨_,rfl⟩;have h4:Q.length=4:=by rw[hQ];obtain⟨a,b,c⟩:=t;rfl
 have hQs:∀n,Q.all (AV.scA n)=true:=λn=>by rw[hQ];obtain⟨a,b,c⟩:=t;simp[AV.scA,AV.scB,VT.cs]
 have iC:List.take 3 t.cs=t.cs:=am (by obtain⟨a,b,c⟩:=t;simp[VT.cs]);have fX:t.cs.length=3:=by obtain⟨a,b,c⟩:=t;rfl
 refine ztY dU t _ _ ?_;rw[←hQ];unfold znb;refine ALoop.ovC (id:=A.length+2) (j:=5) zaC 5 (zxA A t Q) (zxy A h4) ?_;rw[zxz A t h4];obtain⟨G,hG⟩:∃G:List (IT×Nat)→zaa,G=λs=>sw (opH A t Q) (A.length+2) (A.length+1) (A.length+3) Q s:=⟨_,rfl⟩;have hS:∀s,Sw (G s) (A.length+2) (A.length+1) (A.length+3) Q s:=λs=>by rw[hG];exact(zh7 A t h4).next
 have hG0:opH A t Q=G []:=by rw[hG];exact((zh7 A t h4).self).symm
 have hGs:∀s,HSc (G s):=λs=>by rw[hG];refine(zh7 A t h4).hsc ?_;unfold opH;refine hAs.append ?_;simp only[AB.sc,List.all_cons,List.all_nil,bo,hQs];obtain⟨t1,t2,t3⟩:=t;simp[AV.scA,AV.scB,VT.cs]
 have nE:∀s,(G s).length=A.length+4:=λs=>by rw[hG];simp[opH]
 have hGG:∀s s' J,sw (G s++J) (A.length+2) (A.length+1) (A.length+3) Q s'=G s'++J:=λs s' J=>by rw[(hS s).sw_app,hG];simp only;rw[zJc (by omega) (by omega) (by omega)]
 have b0:∀s,(G s)[H.length]?=some (.cells t.cs):=λs=>by rw[hG];exact zGS a0
 have iu:∀s,∃J,G s=A++J:=λs=>by rw[hG];exact zqj A t Q s
 clear hG;have oz:∀j1 j2 (jV:j1<p.length),∃r,zaZ dU t p q=(zaZ dU t (p.take j1) q++rwC dU t p[j1] (q.take j2))++r:=λj1 j2 jV=>⟨rwC dU t p[j1] (q.drop j2)++zaZ dU t (p.drop (j1+1)) q,by
  rw[zHr dU t p q (j1+1),zxY jV,zHO dU t p[j1] q j2];simp⟩
 show znb (.sl (dU.map Dat.cs) .none) (.ptr H.length 0) (.sl (zaD q) .none) (.ptr (A.length+2) 0) (.sl (zaD p) .none) (.int .i64 ((n1:Int)+1)) (.int .i64 0) (opH A t Q) (Out H.length K);rw[hG0,show ((n1:Int)+1)=(p.length:Int) by omega];refine zSq (Inv:=λr t89 H'=>∃j1:Nat,j1≤p.length∧p.length-j1=r∧t89=.int .i64 j1∧H'=G (zaN [] (zaZ dU t (p.take j1) q))) p.length ?_ ?_
 ·intro _;exact⟨0,by omega,rfl,rfl,by simp[zaZ,zv8]⟩
 ·rintro r t89 H' ⟨j1,jV,rfl,rfl,rfl⟩ hsc17 hlen17 hsF17 Kb17 hKb17;by_cases d7:j1<p.length
  ·have eD:=zxY (dU:=dU) (t:=t) (q:=q) d7;obtain⟨v1,v2,v3,v4⟩:=wp.mem _ (ah d7);have vle:=wp.le _ (ah d7);obtain⟨S0,oa⟩:∃S0,S0=zaN [] (zaZ dU t (p.take j1) q):=⟨_,rfl⟩;rw[←oa];simp[ztK,d7,zcQ,zea,nE];refine⟨zea _,?_⟩;refine zSr (Inv:=λr t95 H3=>∃j2:Nat,j2≤q.length∧q.length-j2=r∧t95=.int .i64 j2∧H3=G (zaN [] (zaZ dU t (p.take j1) q++rwC dU t p[j1] (q.take j2)))++[.cells (tmC p[j1])]) q.length ?_ ?_
   ·intro _;exact⟨0,by omega,rfl,rfl,by simp[rwC,oa]⟩
   ·rintro r t95 H3 ⟨j2,jD,rfl,rfl,rfl⟩ hsc20 hlen20 hsF20 Kb20 kB;by_cases eM:j2<q.length
    ·obtain⟨u1,u2,u3,u4⟩:=wq.mem _ (ah eM);have ule:=wq.le _ (ah eM);have lU:=zHP (dU:=dU) (t:=t) (v:=p[j1]) eM;obtain⟨W,hWd⟩:∃ W,W=zaA dU (p[j1].1.nodes+q[j2].1.nodes) t p[j1].1 q[j2].1:=⟨_,rfl⟩;obtain⟨P1,P2,P3,P4⟩:=zem h8 (f:=p[j1].1.nodes+q[j2].1.nodes) (t:=t) (i:=p[j1].1) (j:=q[j2].1) (aa _) v3 u3 (by omega);rw[←hWd]at P1 P2 P3 P4 lU;obtain⟨R,hR⟩:∃ R,R=zaZ dU t (p.take j1) q++rwC dU t p[j1] (q.take j2):=⟨_,rfl⟩;have iN:zaZ dU t (p.take j1) q++rwC dU t p[j1] (q.take (j2+1))=R++scl W (p[j1].2*q[j2].2):=by rw[lU,hR,aw]
     obtain⟨rr,hrr⟩:=oz j1 (j2+1) d7;rw[iN]at hrr;have kE:=gy;have d8:=hW.len;have hWm:=hW.mem;rw[hrr]at kE d8 hWm;rw[zdj,zdj]at kE;rw[az,az]at d8;rw[←hR];have hSm:zaM (λ_=>1) (zaN [] R)=zah (λ_=>1) R:=by rw[zbS,zgb,zc4,aG]
     have hSl:=zf9 R [];have hSn:((zaN [] R).map Prod.fst).Nodup:=zga _ _ (by simp);have hSdg:∀x∈zaN [] R,Dig x.1:=λx hx=>by
      rcases zoK _ _ x hx with ⟨y,hy,he⟩|⟨y,hy,he⟩
      ·simp at hy
      ·have:=hWm y (by simp[hy]);rw[←he];exact zjb h8 _ y.1 (aa _) t this.2.2.1
     have eL:zaN [] (R++scl W (p[j1].2*q[j2].2))=zaN (zaN [] R) (scl W (p[j1].2*q[j2].2)):=zFk _ _ _;generalize hSd:zaN [] R=S at *;have c0:=b0 S;have kf:p[j1].2*q[j2].2≤1000*1000:=bx vle ule;simp[ztL,eM,zcQ,zea,zco,zcz,nE,zbj c0,iC,fX];refine⟨zea _,?_⟩;refine zaH (.sl (zaD W) .none) (λJ=>by rw[hWd];exact(zpn hk h8 hDo (p[j1].1.nodes+q[j2].1.nodes)).1 t p[j1].1 q[j2].1 (aa _) (by omega) jL v3 u3 (by omega) (by omega) _ _ ⟨rfl,rfl⟩) ?_;refine zaH (.agg (zam ((p[j1].2*q[j2].2:Nat):Int))) (λJ=>zgV _ _ (zcP (aQ vle (by decide))) (zcP (aQ ule (by decide))) _ _ ⟨by rw[Int.natCast_mul],rfl⟩) ?_;refine zaH (.sl (zaD (scl W (p[j1].2*q[j2].2))) .none) (λJ=>zUg W (p[j1].2*q[j2].2) (by omega) (zcP (aQ kf (by decide))) (λx hx=>zcP (aQ (P1 x hx).2.1 (by decide))) _ _ ⟨rfl,rfl⟩) ?_;refine zqU (scl W (p[j1].2*q[j2].2)) (λx hx=>?_) _ _ _ _ _ S (hS S).app hSn hSdg ?_ (by simp at hSl d8 ⊢;omega) _ ?_
     ·obtain⟨y,hy,rfl⟩:=aC.1 hx;obtain⟨p1,p2,p3,p4,p5,p6,p7⟩:=P1 y hy;exact⟨by show y.1.nodes≤1000;omega,zjb h8 _ y.1 (aa _) t p3⟩
     ·rw[hSm,zbS];refine aQ (show _≤1000 by omega) (by decide)
     ·rw[hGG,←eL,←iN,wi j2 (by omega)];refine kB _ _ ⟨q.length-(j2+1),by omega,Back.at (J:=[.cells (tmC q[j2])]) (H2:=G (zaN [] (zaZ dU t (p.take j1) q++rwC dU t p[j1] (q.take (j2+1))))++[.cells (tmC p[j1])]) (by simp) (by simp[nE]) ((hGs _).append (by simp[AB.sc,zJg])) (by simp[zna,ux,AV.sc,AV.scA,AV.scB,AV.scV,nE];omega) ⟨_,rfl,j2+1,by omega,rfl,rfl,rfl⟩⟩
    ·obtain rfl:j2=q.length:=by omega
     rw[aq]at *;simp[ztL,wi j1 (by omega)];rw[←eD];refine hKb17 _ _ ⟨p.length-(j1+1),by omega,Back.at (J:=[.cells (tmC p[j1])]) (H2:=G (zaN [] (zaZ dU t (p.take (j1+1)) q))) rfl (by simp[nE]) (hGs _) (by simp[zm9,ux,AV.sc,AV.scA,AV.scB,AV.scV,nE];omega) ⟨_,rfl,j1+1,by omega,rfl,rfl,rfl⟩⟩
  ·obtain rfl:j1=p.length:=by omega
   rw[aq];simp[ztK];have hSw:=hS (zaN [] (zaZ dU t p q));obtain⟨J,hJ⟩:=iu (zaN [] (zaZ dU t p q));generalize zaZ dU t p q=R at *;have fg:=zi9 R [] (by simp) (λx hx=>(hW.mem x hx).2.1);have ew:∀g:IT→Nat,zah g (zaN [] R)=zah g (zcJ R):=λg=>by rw[zgb,zc4,aG,zfl]
   have fd:=zf9 R [];have fW:=hW.can;have k9:=hW.len;refine zqW hk t (by omega) hf _ _ _ _ (zaN [] R) (zcJ R) (by rw[←hQ];exact hSw) (λx hx=>?_) (zga _ _ (by simp)) ?_ (by simp at fd;omega) (zi5 R) (by have:=fW.len;omega) (zhf R) ew _ (λfa=>?_) (λ_=>?_)
   ·obtain⟨h1,h2⟩:=fg x hx;rcases h2 with ⟨y,hy,_⟩ | ⟨y,hy,he⟩
    ·simp at hy
    ·obtain⟨p1,p2,p3,p4⟩:=hW.mem y hy;have hm:=zd4 (λ_=>1) hx;rw[ew,bv]at hm;have ie:=fW.sm;rw[←he];exact⟨by omega,h1,aQ (ar hm ie) (by decide),p3,by omega⟩
   ·have h1:=ew (λ_=>1);have h2:=zdu λx hx=>(fW.mem x hx).2.1;have h3:=fW.ne;cases hc:zaN [] R with
    |nil=>rw[hc,zc4]at h1;omega
    |cons x s=>simp
   ·simp at fd;omega
   ·simp;rw[hJ,hA,aw];exact⟨⟨rfl,rfl⟩,Out.tup (bs:=[.sl (zaD (canL dU t R)) .none,.int .i64 0]) hs hK ⟨zaY rfl rfl,zaY rfl rfl,trivial⟩⟩
end Go.Proofs.YtdmamdnkcefmmaaGreatDoor
