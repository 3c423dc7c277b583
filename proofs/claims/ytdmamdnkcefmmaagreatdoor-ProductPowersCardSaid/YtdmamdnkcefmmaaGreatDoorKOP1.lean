import Derived.Test.YtdmamdnkcefmmaaGreatDoorKOX
import Derived.Test.YtdmamdnkcefmmaaGreatDoorKNum
import Derived.Test.YtdmamdnkcefmmaaGreatDoorProg
import Derived.KernelRfl
set_option linter.unusedSimpArgs false
set_option linter.unusedVariables false
set_option maxRecDepth 100000
namespace Go.Proofs.YtdmamdnkcefmmaaGreatDoor
theorem zVB:∀(m:Nat) (v:VT),v.nodes≤m→v.nodes≤1000000→∀(H:zaa) (K:Kt),K (.agg (zaP v).cs) H→ACalls tP zkA [.agg v.cs] H K:=by
 intro m;induction m with
 |zero=>intro v h;have:=v.nodes_pos;omega
 |succ m ih=>
  intro v hm hb H K hK;obtain⟨k,n,ks⟩:=v;have fh:=VT.len_le ks;have iK:(VT.mk k n ks).nodes=VT.nodesL ks+1:=by simp[VT.nodes]
  refine ACalls.out (zVz λhs=>?_);simp[zE6,VT.cs,zaq,zaJ,AV.known,aa];by_cases lH:k=6
  ·have hK:K (.agg [.int .i64 0,.sl (IT.css (zbl ks)) .none]) H:=by simpa[zaP,lH,IT.cs]using hK
   simp[lH];subst lH;unfold zoh;refine ALoop.ownC (H.length+2) 1 zaY 2 (cs:=[.int .i64 0,.snil]) (by simp) rfl ?_;have eQ:(H++[AB.cells [.int .i64 6,.int .i64 n,.sl (VT.css ks) .none],.cells [.int .i64 0,.snil],.cells [.int .i64 0,.snil]]).set (H.length+2) (.cells ([AV.int .i64 0,.snil].set 1 (.sl [] (.own (H++[AB.cells [.int .i64 6,.int .i64 n,.sl (VT.css ks) .none],.cells [.int .i64 0,.snil],.cells [.int .i64 0,.snil]]).length))))++[.perm zaY 2 0] =
     H++[.cells [.int .i64 6,.int .i64 n,.sl (VT.css ks) .none],.cells [.int .i64 0,.snil],.cells [.int .i64 0,.sl [] (.own (H.length+3))],.perm zaY 2 0]:=by simp[ah]
   rw[eQ];show zoh (.ptr (H.length+1) 0) (.ptr (H.length+2) 0) (.sl (VT.css ks) .none) (.int .i64 ks.length) (.int .i64 0) _ (Out H.length K);have hsc:∀ i,HSc (H++[.cells [.int .i64 6,.int .i64 n,.sl (VT.css ks) .none],.cells [.int .i64 0,.snil],.cells [.int .i64 0,.sl (IT.css (zbl (ks.take i))) (.own (H.length+3))],.perm zaY 2 i]):=λi=>hs.append (by simp[AB.sc,AV.scA,AV.scB]);refine zVx (Inv:=λq t13 H'=>∃ i:Nat,i≤ks.length∧q=ks.length-i∧t13=.int .i64 i ∧
    H'=H++[.cells [.int .i64 6,.int .i64 n,.sl (VT.css ks) .none],.cells [.int .i64 0,.snil],.cells [.int .i64 0,.sl (IT.css (zbl (ks.take i))) (.own (H.length+3))],.perm zaY 2 i]) ks.length ?_ ?_
   ·intro _;exact⟨0,by omega,by omega,rfl,by simp[zbl,IT.css]⟩
   ·rintro q t13 H' ⟨i,hi,rfl,rfl,rfl⟩ eE ek eK Kb eq;by_cases ei:i<ks.length
    ·obtain⟨x,y,z,ew,hx,hy,hz⟩:=zbk ks[i];have fI:=VT.kid_lt (k:=6) (n:=n) ei;have jR:(zbl (ks.take i)).length=i:=by simp[zd7,bc hi]
     simp[zvC,ei,ew,hx,hy,hz];rw[←ew];refine zaD (.agg (zaP ks[i]).cs) (λJ=>ih ks[i] (by omega) (by omega) _ _ ⟨rfl,rfl⟩) ?_;rw[zjH];simp[zax,zaM,zaK,jR,AV.known,ah];refine⟨⟨by omega,by omega⟩,?_⟩;rw[zay (by omega) (by omega)];have eL:IT.css (zbl (ks.take i))++[(zaP ks[i]).cs]=IT.css (zbl (ks.take (i+1))):=by rw[zd7,zd7,ae ei,IT.css_map,IT.css_map,aK,aK];rfl
     rw[eL];refine eq _ _ ⟨ks.length-(i+1),by omega,Back.at (J:=[.cells (ks[i]).cs]) (H2:=H++[.cells [.int .i64 6,.int .i64 n,.sl (VT.css ks) .none],.cells [.int .i64 0,.snil],.cells [.int .i64 0,.sl (IT.css (zbl (ks.take (i+1)))) (.own (H.length+3))],.perm zaY 2 (i+1)]) (by simp) (by simp) (hsc _) ?_ ⟨_,rfl,i+1,by omega,rfl,by simp,rfl⟩⟩;simp[zof,AV.sc,AV.scV,AV.scA,AV.scB]
    ·obtain rfl:i=ks.length:=by omega
     rw[ak]at *;simp[zvC,zog,AV.known,ah];exact Out.at rfl (ac _) hs (WkV.agg (ds:=[.int .i64 0,.sl (IT.css (zbl ks)) .none]) ⟨.refl _,.sl _ _,trivial⟩) rfl (by simp[AV.scV,AV.scA,AV.scB]) hK
  ·have hK:K (.agg [.int .i64 0,.sl [] .none]) H:=by simpa[zaP,lH,IT.cs,IT.css]using hK
   have hb:(k == 6)=false:=by simpa using lH
   simp[hb,zog,AV.known,ah];exact Out.at rfl (ac _) hs (WkV.agg (ds:=[.int .i64 0,.sl [] .none]) ⟨.refl _,.snil,trivial⟩) rfl (by simp[AV.scV,AV.scA,AV.scB]) hK
theorem zll(g:IT→Nat)(c:Nat):∀ s:List (IT × Nat),zat g (scl s c)=c*zat g s
 |[]=>by simp[scl]
 |p::s=>by have:=zll g c s;unfold scl at this ⊢;rw[aF,zbc,zbc,this,cH];congr 1;rw[bi p.2 c,cV]
theorem zJX{d7:List Dat}{t:VT}{i:IT}(hd:0≤rdV d7 i t):za3 d7 t i 1=[(i,1)]:=by have h:=(zzt (d7:=d7) ((zaP t).nodes+i.nodes) t i (ac _) hd).1;simp[za3,zbe,h,scl,zaZ,zbg]
def DlS(f:Nat→Nat):Nat→Nat
 |0=>1
 |b+1=>f (b+1)+DlS f b+f b
def Dl:Nat→Nat→Nat
 |0,_=>1
 |a+1,b=>DlS (Dl a) b
theorem zG1(a b:Nat):Dl (a+1) (b+1)=Dl a (b+1)+Dl (a+1) b+Dl a b:=rfl
set_option maxRecDepth 100000 in
theorem zG0:∀a b c d:Fin 7,a.1≤c.1∧b.1≤d.1∧c.1+d.1≤6→Dl a.1 b.1≤Dl c.1 d.1:=by decide
theorem zjt(a:Nat)(ha:a<7)(b:Nat)(hb:b<7)(c:Nat)(hc:c<7)(d:Nat)(hd:d<7)(h1:a≤c)(h2:b≤d)(h3:c+d≤6):Dl a b≤Dl c d:=zG0 ⟨a,ha⟩ ⟨b,hb⟩ ⟨c,hc⟩ ⟨d,hd⟩ ⟨h1,h2,h3⟩
set_option maxRecDepth 100000 in
theorem zxl:∀a<7,∀b<7,∀c<7,∀d<7,a+b+c+d≤6→Dl a b*Dl c d≤Dl (a+c) (b+d):=by decide
set_option maxRecDepth 100000 in
theorem zGZ:∀a<7,∀b<7,a+b≤6→zat (λ_=>1) (zaU a b)≤Dl a b:=by decide
theorem zpT:∀a<7,∀b<7,1≤Dl a b:=by decide
def DP(d7:List Dat)(f:Nat):Prop:=∀(t:VT) (i j:IT) (a b:Nat),i.nodes+j.nodes≤f→rdV d7 i t=a→rdV d7 j t=b→a+b≤6→zat (λ_=>1) (zaT d7 f t i j)≤Dl a b
def DQ(d7:List Dat)(f:Nat):Prop:=∀(ts:List VT) (l m:List IT) (a b:Nat),IT.nodesL l+IT.nodesL m+1≤f→l.length=ts.length→m.length=ts.length→rdA d7 l ts 0=a→rdA d7 m ts 0=b→a+b≤6→zat (λ_=>1) (zcs d7 f ts l m)≤Dl a b
def DM(d7:List Dat)(f:Nat):Prop:=∀(t:VT) (l m:List IT) (a b:Nat),IT.nodesL l+IT.nodesL m+1≤f→rdE d7 l t 0=a→rdE d7 m t 0=b→a+b≤6→zat (λ_=>1) (zaW d7 f t l m)≤Dl a b
theorem zLA(ws:List (IT×Nat))(s:List (List IT×Nat)):zat (λ_=>1) (zbV s ws)=zat (λ_=>1) s*zat (λ_=>1) ws:=by
 unfold zbV;rw[zf4 (λ_=>1) (λa b=>a++[b]) ws s];have:(λ_:List IT=>zat (λ_:IT=>1) ws)=λ_=>zat (λ_:IT=>1) ws*1:=by funext;rw[bl]
 rw[this,zlk];rw[bi]
theorem zyC{d7:List Dat}{f:Nat}(hP:DP d7 f){ts:List VT}{l m:List IT}(hf:IT.nodesL l+IT.nodesL m≤f)(hl:l.length=ts.length)(hm:m.length=ts.length)(hA:0≤rdA d7 l ts 0)(hB:0≤rdA d7 m ts 0)(h6:rdA d7 l ts 0+rdA d7 m ts 0≤6):
  ∀k,k≤ts.length→∀a b:Nat,rdA d7 (l.take k) (ts.take k) 0=a→rdA d7 (m.take k) (ts.take k) 0=b→zat (λ_=>1) (zct d7 f ts l m k)≤Dl a b
 |0,_,a,b,ha,hb=>by
  simp only[List.take_zero,rdA]at ha hb;obtain rfl:a=0:=by omega
  obtain rfl:b=0:=by omega
  simp[ziH,zat,Dl]
 |k+1,hk,a,b,ha,hb=>by
  have h1:k<ts.length:=by omega
  have h3:k<l.length:=by omega
  have h4:k<m.length:=by omega
  have n1:=zc3 h3;have n2:=zc3 h4;have d1:=(zd3 (d7:=d7) l ts 0 (by omega) hl hA).1 k h3 h1;have d2:=(zd3 (d7:=d7) m ts 0 (by omega) hm hB).1 k h4 h1;have a1:=zck l ts 0 k hl (by omega) hA;have a2:=zck l ts 0 (k+1) hl (by omega) hA;have c1:=zck m ts 0 k hm (by omega) hB;have c2:=zck m ts 0 (k+1) hm (by omega) hB;have sl:=zej (d7:=d7) l[k] ts[k] (l.take k) (ts.take k) 0 (by simp;omega) (by omega) a1.1;have sm:=zej (d7:=d7) m[k] ts[k] (m.take k) (ts.take k) 0 (by simp;omega) (by omega) c1.1;rw[←ae h3,←ae h1]at sl;rw[←ae h4,←ae h1]at sm;by_cases cl:rdV d7 l[k] ts[k]<0∨rdA d7 (l.take k) (ts.take k) 0+rdV d7 l[k] ts[k]>6
  ·rw[az cl]at sl;omega
  rw[au cl]at sl;by_cases cm:rdV d7 m[k] ts[k]<0∨rdA d7 (m.take k) (ts.take k) 0+rdV d7 m[k] ts[k]>6
  ·rw[az cm]at sm;omega
  rw[au cm]at sm;obtain⟨a',pZ⟩:∃a':Nat,rdA d7 (l.take k) (ts.take k) 0=a':=⟨(rdA d7 (l.take k) (ts.take k) 0).toNat,by omega⟩;obtain⟨b',mf⟩:∃b':Nat,rdA d7 (m.take k) (ts.take k) 0=b':=⟨(rdA d7 (m.take k) (ts.take k) 0).toNat,by omega⟩;obtain⟨p,hp⟩:∃p:Nat,rdV d7 l[k] ts[k]=p:=⟨(rdV d7 l[k] ts[k]).toNat,by omega⟩;obtain⟨q,hq⟩:∃q:Nat,rdV d7 m[k] ts[k]=q:=⟨(rdV d7 m[k] ts[k]).toNat,by omega⟩;have ih:=zyC hP hf hl hm hA hB h6 k (by omega) a' b' pZ mf;have hw:=hP ts[k] l[k] m[k] p q (by omega) hp hq (by omega);have e1:ts.getD k tz=ts[k]:=by simp[List.getD_eq_getElem?_getD,h1]
  have e2:l.getD k d0=l[k]:=by simp[List.getD_eq_getElem?_getD,h3]
  have e3:m.getD k d0=m[k]:=by simp[List.getD_eq_getElem?_getD,h4]
  rw[zg4,e1,e2,e3,zLA];have hs:=zxl a' (by omega) b' (by omega) p (by omega) q (by omega) (by omega);obtain rfl:a=a'+p:=by omega
  obtain rfl:b=b'+q:=by omega
  exact ap (bf ih hw) hs
theorem zyA{d7:List Dat}(h8:∀ D∈d7,D.cons.length≤8):∀ f,DP d7 f∧DQ d7 f∧DM d7 f
 |0=>⟨λt i j a b h=>by have:=i.nodes_pos;omega,λts l m a b h=>by omega,λt l m a b h=>by omega⟩
 |f+1=>by
  obtain⟨hP,hQ,hM⟩:=zyA h8 f;refine⟨?_,?_,?_⟩
  ·intro t i j a b hf hi hj h6;obtain⟨k,tn,tks⟩:=t;obtain⟨n,l⟩:=i;obtain⟨n',m⟩:=j;simp only[IT.nodes]at hf;have jl:0≤rdV d7 (.mk n l) (.mk k tn tks):=by omega
   have kE:0≤rdV d7 (.mk n' m) (.mk k tn tks):=by omega
   have iC:=zpT a (by omega) b (by omega);rw[zla]at hi hj jl kE;rw[zaT];simp only[VT.kind,VT.kids,zaI,zaO];by_cases k6:k=6
   ·subst k6;simp only[a6]at hi hj jl kE ⊢;by_cases hn:n=0;case neg=>rw[au hn]at jl;omega
    by_cases fN:n'=0;case neg=>rw[au fN]at kE;omega
    rw[az hn]at hi jl;rw[az fN]at hj kE;by_cases hl:tks.length=l.length;case neg=>rw[au hl]at jl;omega
    by_cases hm:tks.length=m.length;case neg=>rw[au hm]at kE;omega
    rw[az hl]at hi;rw[az hm]at hj;rw[zd6 (λ_=>1) (λr=>IT.mk 0 r)];exact hQ tks l m a b (by omega) hl.symm hm.symm hi hj h6
   ·simp only[k6,aN]at hi hj jl kE ⊢;by_cases k7:k=7
    ·subst k7;simp only[a6]at hi hj jl kE ⊢;by_cases hc:0≤n∧n≤6∧l.length=0;case neg=>rw[au hc]at jl;omega
     by_cases kL:0≤n'∧n'≤6∧m.length=0;case neg=>rw[au kL]at kE;omega
     rw[az hc]at hi;rw[az kL]at hj;subst hi hj;rw[Int.toNat_natCast,Int.toNat_natCast,zlj];exact zGZ a (by omega) b (by omega) h6
    ·simp only[k7,aN]at hi hj jl kE ⊢;by_cases k5:k=5
     ·subst k5;simp only[a6]at hi hj jl kE ⊢;by_cases hc:n=0∧l.length≤6;case neg=>rw[au hc]at jl;omega
      by_cases kL:n'=0∧m.length≤6;case neg=>rw[au kL]at kE;omega
      rw[az hc]at hi;rw[az kL]at hj;rw[zd6 (λ_=>1) (λr=>IT.mk 0 r)];exact hM _ l m a b (by omega) hi hj h6
     ·simp only[k5,aN];simpa[zat]using iC
  ·intro ts l m a b hf hl hm ha hb h6;have:=zyC (f:=f) hP (ts:=ts) (l:=l) (m:=m) (by omega) hl hm (by omega) (by omega) (by omega) ts.length (ac _) a b (by rw[ak,ai (by omega)];exact ha) (by rw[ak,ai (by omega)];exact hb);rw[zfX];exact this
  ·intro t l m a b hf ha hb h6;have iC:=zpT a (by omega) b (by omega);cases l with
   |nil=>simpa[zaW,zat]using iC
   |cons x l=>
    cases m with
    |nil=>simpa[zaW,zat]using iC
    |cons y m=>
     obtain⟨ca,pa⟩:=x;obtain⟨cb,pb⟩:=y;obtain⟨la,ll,el⟩:=zfl h8 _ _ l (show 0≤rdE d7 (.mk ca pa::l) t 0 by omega);obtain⟨mb,mm,em⟩:=zfl h8 _ _ m (show 0≤rdE d7 (.mk cb pb::m) t 0 by omega);obtain⟨ca0,ca8,psa,iz,lu,m9,ea⟩:=zeP la;obtain⟨cb0,cb8,psb,lI,gf,nc,eb⟩:=zeP mb;have na:=(IT.mk ca pa).nodes_pos;have nb:=(IT.mk cb pb).nodes_pos;simp only[IT.nodesL]at hf;obtain⟨p,hp⟩:∃p:Nat,rdA d7 pa psa 0=p:=⟨(rdA d7 pa psa 0).toNat,by omega⟩;obtain⟨q,hq⟩:∃q:Nat,rdA d7 pb psb 0=q:=⟨(rdA d7 pb psb 0).toNat,by omega⟩;obtain⟨a',pZ⟩:∃a':Nat,rdE d7 l t 0=a':=⟨(rdE d7 l t 0).toNat,by omega⟩;obtain⟨b',mf⟩:∃b':Nat,rdE d7 m t 0=b':=⟨(rdE d7 m t 0).toNat,by omega⟩;have h1:=hM t l (.mk cb pb::m) a' b (by simp only[IT.nodesL];omega) pZ hb (by omega);have h2:=hM t (.mk ca pa::l) m a b' (by simp only[IT.nodesL];omega) ha mf (by omega);obtain⟨a0,rfl⟩:∃a0,a=a0+1:=⟨a-1,by omega⟩;obtain⟨b0,rfl⟩:∃b0,b=b0+1:=⟨b-1,by omega⟩;have m1:=zjt a' (by omega) (b0+1) (by omega) a0 (by omega) (b0+1) (by omega) (by omega) (by omega) (by omega);have m2:=zjt (a0+1) (by omega) b' (by omega) (a0+1) (by omega) b0 (by omega) (by omega) (by omega) (by omega);rw[zaW,zel,zel,zd6 (λ_=>1) (λr=>IT.mk ca pa::r),zd6 (λ_=>1) (λr=>IT.mk cb pb::r),zG1];have hd:=zpT a0 (by omega) b0 (by omega);have h3:zat (λ_=>1) (if zaO (.mk ca pa)=zaO (.mk cb pb) then (zcs d7 f ((zbi d7 t (zaO (.mk ca pa))).getD []) (zaI (.mk ca pa)) (zaI (.mk cb pb))).flatMap λr=>(zaW d7 f t l m).map λx=>(IT.mk (zaO (.mk ca pa)) r.1::x.1,r.2*x.2) else [])≤Dl a0 b0:=by
      by_cases eY:ca=cb
      ·subst eY;rw[iz]at lI;cases lI;simp only[zaO,zaI,iz,Option.getD_some,a6];rw[zf4 (λ_=>1) (λr x=>IT.mk ca r::x) (zaW d7 f t l m)];have hr:=hQ psa pa pb p q (by simp only[IT.nodes]at hf;omega) lu.symm gf.symm hp hq (by omega);have hm:=hM t l m a' b' (by omega) pZ mf (by omega);have hs:=zxl p (by omega) q (by omega) a' (by omega) b' (by omega) (by omega);have hmo:=zjt (p+a') (by omega) (q+b') (by omega) a0 (by omega) b0 (by omega) (by omega) (by omega) (by omega);have:(λ_:List IT=>zat (λ_:List IT=>1) (zaW d7 f t l m))=λ_=>zat (λ_:List IT=>1) (zaW d7 f t l m)*1:=by funext;rw[bl]
       rw[this,zlk,bi];exact ap (bf hr hm) (ap hs hmo)
      ·rw[au (by simpa[zaO]using eY)];simp
     omega
def Sb(d:Nat):Nat→Nat
 |0=>1
 |k+1=>Sb d k*Dl (k*d) d
theorem zjA:∀d n:Fin 7,n.1*d.1≤6→Sb d.1 n.1≤10395∧∀k:Fin 7,k.1<n.1→Sb d.1 k.1≤945:=by decide
theorem zAn{d7:List Dat}{t:VT}{i:IT}{M:Nat}:∀ {u:List (IT × Nat)},(∀ w∈u,zat (λ_=>1) (zaT d7 (w.1.nodes+i.nodes) t w.1 i)≤M)→zat (λ_=>1) (zbe d7 t i u)≤zat (λ_=>1) u*M
 |[],_=>by simp[zbe]
 |w::u,h=>by
  have h1:=h w (by simp);have h2:=zAn (d7:=d7) (t:=t) (i:=i) (M:=M) (u:=u) λx hx=>h x (by simp[hx]);have e:zbe d7 t i (w::u)=scl (zaT d7 (w.1.nodes+i.nodes) t w.1 i) w.2++zbe d7 t i u:=by simp[zbe]
  rw[e,zel,zll,zbc,a8,bl];have:=bj w.2 h1;omega
theorem zjV{s:List (IT×Nat)}(h:∀p∈s,0<p.2):s.length≤zat (λ_=>1) s:=zeI h
theorem zk6{d7:List Dat}(h8:∀ D∈d7,D.cons.length≤8){t:VT}(ht:t.nodes≤250){i:IT}(hi:i.nodes≤40){d:Nat}(hd:rdV d7 i t=d):∀ k:Nat,k≤6→k*d≤6 →
  (∀p∈za3 d7 t i k,0<p.2∧0≤rdV d7 p.1 t∧rdV d7 p.1 t≤(k*d:Nat)∧p.1.nodes≤(if k=0 then 250 else k*40))∧zat (λ_=>1) (za3 d7 t i k)≤Sb d k∧0<(za3 d7 t i k).length∧(∀j<k,PowOk d7 t i (za3 d7 t i j))
 |0,_,_=>by have hn:=zlB t;have hz:=zs1 (d7:=d7) t;refine⟨λp hp=>?_,by simp[za3,zat,Sb],by simp[za3],λj hj=>by omega⟩;simp[za3]at hp;subst hp;exact⟨Nat.one_pos,by show 0≤rdV d7 (zaP t) t;omega,by show rdV d7 (zaP t) t≤_;omega,by show (zaP t).nodes≤_;simp;omega⟩
 |k+1,hk,mX=>by
  have hkd':k*d+d≤6:=by rw[←bI];exact mX
  obtain⟨A,B,C,E⟩:=zk6 h8 ht hi hd k (by omega) (by omega);have gA:0≤rdV d7 i t:=by omega
  have lY:=(zjA ⟨d,by
   rcases Nat.eq_zero_or_pos d with h|h
   ·omega
   ·have:d≤(k+1)*d:=dN _ (by omega);omega⟩ ⟨k+1,by omega⟩ mX)
  have pe:∀w∈za3 d7 t i k,zat (λ_=>1) (zaT d7 (w.1.nodes+i.nodes) t w.1 i)≤Dl (k*d) d:=λw hw=>by obtain⟨w1,w2,w3,w4⟩:=A w hw;obtain⟨a,ha⟩:∃a:Nat,rdV d7 w.1 t=a:=⟨(rdV d7 w.1 t).toNat,by omega⟩;have h1:=(zyA h8 (w.1.nodes+i.nodes)).1 t w.1 i a d (ac _) ha hd (by omega);exact ap h1 (zjt a (by omega) d (by omega) (k*d) (by omega) d (by omega) (by omega) (ac _) (by omega))
  have lZ:zat (λ_=>1) (zbe d7 t i (za3 d7 t i k))≤Sb d (k+1):=ap (zAn pe) (ar _ B);have hsk:zat (λ_=>1) (za3 d7 t i k)≤10395:=by have:=lY.2 ⟨k,by omega⟩ (by show k<k+1;omega);show _≤_;exact ap B (ap this (by decide))
  have mh:∀p∈za3 d7 t i k,p.1.nodes+i.nodes≤300∧0≤rdV d7 p.1 t∧rdV d7 p.1 t+rdV d7 i t≤6∧p.2<1000000000 ^ 20:=λp hp=>by
   obtain⟨w1,w2,w3,w4⟩:=A p hp;have hm:=zdX (λ_=>1) hp;rw[bl]at hm;refine⟨?_,w2,by omega,aD (ap hm hsk) (by decide)⟩;split at w4
   ·omega
   ·have:k*40≤5*40:=ar _ (by omega);omega
  have pY:=zAo h8 gA mh;have hrp:∀p∈zbe d7 t i (za3 d7 t i k),0<p.2:=λp hp=>by obtain⟨w,hw,_,_,_,h⟩:=pY p hp;exact h (A w hw).1
  have jT:=zjV hrp;have eu:PowOk d7 t i (za3 d7 t i k):=⟨mh,aD (ap lZ lY.1) (by decide),by have:=lY.1;simp only at this;omega,by
   have:=zjV (s:=za3 d7 t i k) λp hp=>(A p hp).1;omega⟩
  have fa:∀p∈za3 d7 t i (k+1),0<p.2∧∃q∈zbe d7 t i (za3 d7 t i k),q.1=p.1:=λp hp=>by
   obtain⟨h1,h2⟩:=zqo (zbe d7 t i (za3 d7 t i k)) [] (by simp) hrp p hp;rcases h2 with ⟨q,hq,_⟩|h2
   ·simp at hq
   ·exact⟨h1,h2⟩
  have fH:∀g:IT→Nat,zat g (za3 d7 t i (k+1))=zat g (zbe d7 t i (za3 d7 t i k)):=λg=>by show zat g (zaZ [] _)=_;rw[zgE,zf5,aC]
  refine⟨λp hp=>?_,by rw[fH];exact lZ,?_,λj hj=>?_⟩
  ·obtain⟨h1,q,hq,he⟩:=fa p hp;obtain⟨w,hw,n1,n2,n3,_⟩:=pY q hq;obtain⟨w1,w2,w3,w4⟩:=A w hw;rw[←he];refine⟨h1,n2,?_,?_⟩
   ·have:((k+1)*d:Nat)=k*d+d:=bI k d;rw[this];omega
   ·rw[au (by omega)];by_cases gG:k=0
    ·subst gG;have h1:=zJX (d7:=d7) (t:=t) (i:=i) gA;rw[h1]at hp;simp at hp;subst hp;have:q.1=i:=he;rw[this];omega
    ·rw[au gG]at w4;have:(k+1)*40=k*40+40:=bI k 40;omega
  ·have ey:=fH (λ_=>1);cases hp:za3 d7 t i (k+1) with
   |cons p s=>simp
   |nil=>
    rw[hp,zf5]at ey;cases hu:za3 d7 t i k with
    |nil=>rw[hu]at C;simp at C
    |cons w u=>
     obtain⟨w1,w2,w3,w4⟩:=A w (by rw[hu];simp);have h1:=zzs (d7:=d7) (t:=t) (i:=w.1) (j:=i) (ac _) w2 gA;have e:zbe d7 t i (w::u)=scl (zaT d7 (w.1.nodes+i.nodes) t w.1 i) w.2++zbe d7 t i u:=by simp[zbe]
     rw[hu,e,zel,zll]at ey;have:=du w1 h1;omega
  ·by_cases qN:j=k
   ·subst qN;exact eu
   ·exact E j (by omega)
def zbO(c:Nat)(l:List (IT×Nat)):List (IT×Nat):=l.map λx=>(x.1,c*x.2)
def zbr(d7:List Dat)(t:VT)(i:IT)(s:List (IT×Nat)):List (IT×Nat):=s.flatMap λw=>zbO w.2 (zbd d7 (w.1.nodes+i.nodes) t w.1 i)
def zbn(d7:List Dat)(t:VT)(i:IT):Nat→List (IT × Nat)
 |0=>[(zaP t,1)]
 |k+1=>zaA [] (zbr d7 t i (zbn d7 t i k))
theorem zAm(d7:List Dat)(t:VT)(i:IT)(g:IT→Nat):∀ s:List (IT × Nat),zat g (zbr d7 t i s)=zat (λw=>zat g (zbd d7 (w.nodes+i.nodes) t w i)) s
 |[]=>rfl
 |w::s=>by
  have e:zbr d7 t i (w::s)=zbO w.2 (zbd d7 (w.1.nodes+i.nodes) t w.1 i)++zbr d7 t i s:=by simp[zbr]
  rw[e,zel,zbc,zAm d7 t i g s];congr 1;exact zsx g (λx=>x) w.2 _
theorem zAq(d7:List Dat)(t:VT)(i:IT)(g:IT→Nat):∀ s:List (IT × Nat),zat g (zbe d7 t i s)=zat (λw=>zat g (zbd d7 (w.nodes+i.nodes) t w i)) s
 |[]=>rfl
 |w::s=>by
  have e:zbe d7 t i (w::s)=scl (zaT d7 (w.1.nodes+i.nodes) t w.1 i) w.2++zbe d7 t i s:=by simp[zbe]
  have h:zat g (zaT d7 (w.1.nodes+i.nodes) t w.1 i)=zat g (zbd d7 (w.1.nodes+i.nodes) t w.1 i):=(zf8 d7 _).1 t w.1 i g;rw[e,zel,zbc,zAq d7 t i g s,zll,h]
theorem zfm(d7:List Dat)(t:VT)(i:IT):∀ (k:Nat) (g:IT→Nat),zat g (zbn d7 t i k)=zat g (za3 d7 t i k)
 |0,g=>rfl
 |k+1,g=>by
  have h1:zat g (zbn d7 t i (k+1))=zat g (zbr d7 t i (zbn d7 t i k)):=by show zaH g (zaA [] _)=_;rw[zcl,zcw,aC];rfl
  have h2:zat g (za3 d7 t i (k+1))=zat g (zbe d7 t i (za3 d7 t i k)):=by show zat g (zaZ [] _)=_;rw[zgE,zf5,aC]
  rw[h1,h2,zAm,zAq,zfm d7 t i k]
theorem zAs(d7:List Dat)(t:VT)(i:IT):∀ k,Asc (zbn d7 t i k)
 |0=>dG _ _
 |k+1=>zgz _ _ List.Pairwise.nil
theorem zp6:∀ (l s:List (IT × Nat)),(∀ p∈s,0<p.2)→∀ p∈zaA s l,0<p.2
 |[],s,h=>by simpa[zaA]using h
 |x::l,s,h=>by
  have e:zaA s (x::l)=zaA (za5 s x.1 x.2) l:=rfl;rw[e];refine zp6 l _ λp hp=>?_;rcases zjC p hp with ⟨q,hq,he,eP⟩|⟨h0,he,eP⟩
  ·have:=h q hq;omega
  ·omega
theorem zg1(d7:List Dat)(t:VT)(i:IT):∀ k,∀ p∈zbn d7 t i k,0<p.2
 |0=>by simp[zbn]
 |k+1=>zp6 _ _ (by simp)
theorem zxQ{i:IT}{c:Nat}:∀ {s:List (IT × Nat)},(∀ p∈s,p.1≠i)→(zbF s i c).length=s.length+1∧∀ p∈zbF s i c,p=(i,c)∨p∈s
 |[],_=>by simp[zbF]
 |p::s,h=>by
  have ih:=zxQ (i:=i) (c:=c) (s:=s) λq hq=>h q (by simp[hq]);have hp:IT.cmp p.1 i≠0:=λhe=>h p (by simp) (zjL he);unfold zbF;split
  ·refine⟨by simp[ih.1],λq hq=>?_⟩;rcases aP.1 hq with rfl | hq
   ·simp
   ·rcases ih.2 q hq with h|h <;> simp[h]
  ·simp[hp]
theorem zxK:∀ (l s:List (IT × Nat)),(∀ p∈l,0<p.2)→(l.map Prod.fst).Nodup→(∀ p∈l,∀ q∈s,q.1≠p.1)→(zaA s l).length=s.length+l.length
 |[],s,_,_,_=>by simp[zaA]
 |x::l,s,h0,hn,hd=>by
  simp only[aF,cv]at hn;have e:zaA s (x::l)=zaA (za5 s x.1 x.2) l:=rfl;have hx:=h0 x (by simp);have ha:za5 s x.1 x.2=zbF s x.1 x.2:=by unfold za5;rw[au (by omega)]
  obtain⟨h1,h2⟩:=zxQ (i:=x.1) (c:=x.2) (s:=s) λq hq=>hd x (by simp) q hq;rw[e,ha,zxK l _ (λp hp=>h0 p (by simp[hp])) hn.2 (λp hp q hq=>?_),h1,List.length_cons]
  ·omega
  ·rcases h2 q hq with rfl | hq
   ·intro he;exact hn.1 (by rw[he];exact aA.2 ⟨p,hp,rfl⟩)
   ·exact hd p (by simp[hp]) q hq
theorem zHJ{U L:List (IT×Nat)}(hU:(U.map Prod.fst).Nodup)(hU0:∀p∈U,0<p.2)(hL:Asc L)(iR:∀p∈L,0<p.2)(h:∀g:IT→Nat,zat g U=zat g L):U.length=L.length:=by
 have h1:=zxK U [] hU0 hU (by simp);have h2:zaA [] U=L:=zqf (zgz _ _ List.Pairwise.nil) hL (zp6 _ _ (by simp)) iR λg=>by rw[←h];show zaH g (zaA [] U)=_;rw[zcl,zcw,aC];rfl
 rw[h2]at h1;simp at h1;exact h1.symm
section
variable (t0 t1 t2 t3 t5 t6 t11 t12 t13 t15 t43 t44 t45 t54 t55 t56:AV) (H:zaa) (K:Kt) (Kb10 Kb14:Lt)
def zXa(_:Nat):List Bool:=[]
noncomputable def zXb:=Tryz.f6.body.getD .skip
def zq4:=zav t1 H λt5 H=>zav t2 H λt6 H=>zae true 3 t5 H λt14=>ACalls tP zr0 [t0,t14] H λt15 H=>aUn .not t15 λt16=>zad t16 false H (λK'=>zae true 2 t6 H (K' · H)) λt18 H=>zad t16 false H (λK'=>ACalls tP zr5 [t18] H K') λt19 H=>zad t16 false H (λK'=>aUn .not t19 (K' · H)) λt20 H=>zam t16 (.bool true) t20 λt21=>zag t21 (K (.bool true) H) (zae true 3 t5 H λt24=>zae true 2 t6 H λt25=>ACalls tP zkv [t0,t24,t25,t3] H λt27 H=>zaE t27 0 λt28=>zaE t27 1 λt29=>zae true 3 t5 H λt32=>zae true 2 t6 H λt33=>ACalls tP zkx [t0,t32,t33,t3] H λt35 H=>zaE t35 0 λt36=>zaE t35 1 λt37=>zac .eql false t29 t37 λt40=>zad t40 true H (λK'=>K' t28 H) λt42 H=>zad t40 true H (λK'=>K' t36 H) λt43 H=>zad t40 true H (λK'=>ACalls tP zq6 [t42,t43] H K') λt44 H=>zam t40 t44 (.bool false) λt45=>zad t45 true H (λK'=>ACalls tP zrf [] H K') λt47 H=>zam t45 t47 (.bool false) λt48=>K t48 H)
def zep:Nat→List Bool|10=>rl false [0,1,2,1,1,2,4,2,66]|14=>rl false [0,1,2,1,1,2,5,2,29,3,33]|17=>rl false [0,1,2,1,1,2,5,2,1,1,27,3,8,3,22]|200019=>rl false [0,6]|_=>[]
noncomputable def zvz:=Tryz.f27.body.getD .skip
noncomputable def zVp:=Tryz.f27.results.toList
def zoa:=t0::ux 2 (t3::ux 1 (t5::t6::ux 4 (t11::t12::ux 66 [])))
def zE2:=zep 10
noncomputable def zvA:=zar [1,1,1,1,1,1,0,1,0,0] zvz
def zEY:=zas tP zep [1,1,1,1,1,1,0,1,0] zvz (zaB tP zVp K)
def zE0:=ALoop tP zvA (zEY K) (zoa t0 t3 t5 t6 t11 t12) H
def zob:=t0::ux 2 (t3::ux 1 (t5::t6::ux 5 (t12::t13::ux 29 (t43::t44::t45::ux 33 []))))
def zE3:=zep 14
noncomputable def zvB:=zar [1,0,0,1,0,1,0,0] zvA
def zEZ:=zas tP zep [1,0,0,1,0,1,0] zvA (zbC zE2 Kb10 (zEY K))
def zod:=ALoop tP zvB (zEZ K Kb10) (zob t0 t3 t5 t6 t12 t13 t43 t44 t45) H
def zoc:=t0::ux 2 (t3::ux 1 (t5::t6::ux 5 (t12::t13::ux 1 (t15::ux 27 (t43::t44::t45::ux 8 (t54::t55::t56::ux 22 []))))))
def zVo:=zep 17
noncomputable def zVk:=zar [1,1,0,0,1,1,0,0] zvB
def zVi:=zas tP zep [1,1,0,0,1,1,0] zvB (zbC zE3 Kb14 (zEZ K Kb10))
def zE1:=ALoop tP zVk (zVi K Kb10 Kb14) (zoc t0 t3 t5 t6 t12 t13 t15 t43 t44 t45 t54 t55 t56) H
def zvy(t0 t3 t5 t6 t12 t13 t15 t43 t44 t45 t54 t55 t56:AV)(H:zaa)(K:Kt)(Kb10:Lt)(Kb14:Lt)(Kb17:Lt):Prop:=zac .lss false t56 t55 λt57=>zag t57 (zak 5 t54 t56 λt58=>zae true 5 t58 H λt59=>zaz [(.int .i64 0),.snil,(.bool false),.snil,.snil] H λt17 H=>zan 5 t17 t59 H λH=>apm H t13 λt60=>apu H (zaf 0 t17) λt61=>apu H (zaj true 2 t61 H) λt62=>apu H (zaf 2 t15) λt63=>apu H (zaj true 3 t63 H) λt64=>apu H (zaf 2 t17) λt65=>apu H (zaj true 3 t65 H) λt66=>zaC H (λH K'=>ACalls tP zfi [t64,t66] H K') λt67=>ACalls tP zc2 [t60,t62,t67] H λt68 H=>zac .add false t56 (.int .i64 1) λt69=>Kb17 (zoc t0 t3 t5 t6 t12 t68 t15 t43 t44 t45 t54 t55 t69) H) (zac .add false t45 (.int .i64 1) λt70=>Kb14 (zob t0 t3 t5 t6 t12 t13 t43 t44 t70) H)
def zn9:=zac .lss false t45 t44 λt46=>zag t46 (zak 5 t43 t45 λt47=>zae true 5 t47 H λt48=>zaz [(.int .i64 0),.snil,(.bool false),.snil,.snil] H λt15 H=>zan 5 t15 t48 H λH=>zae true 3 t5 H λt50=>zaf 0 t15 λt51=>zae true 2 t51 H λt52=>zae true 2 t6 H λt53=>ACalls tP zkD [t0,t50,t52,t53] H λt54 H=>zah 1 t54 λt55=>zE1 t0 t3 t5 t6 t12 t13 t15 t43 t44 t45 t54 t55 (.int .i64 0) H K Kb10 Kb14) (zah 1 t13 λt73=>zac .gtr false t73 (.int .i64 1000) λt74=>zag t74 (zaF [.snil,(.int .i64 9)] (K · H)) (zac .add false t12 (.int .i64 1) λt42=>Kb10 (zoa t0 t3 t5 t6 t13 t42) H))
def zvx:=zac .lss false t12 t3 λt40=>zag t40 (zah 1 t11 λt44=>zod t0 t3 t5 t6 t12 .snil t11 t44 (.int .i64 0) H K Kb10) (zae true 3 t5 H λt76=>ACalls tP zrR [t0,t76,t11] H λt78 H=>zaF [t78,(.int .i64 0)] (K · H))
def zvs:=zav t1 H λt5 H=>zav t2 H λt6 H=>zae true 3 t5 H λt19=>zae true 2 t6 H λt20=>ACalls tP zrD [t0,t19,t20] H λt21 H=>zac .lss false t21 (.int .i64 0) λt23=>zag t23 (zaF [.snil,(.int .i64 1)] (K · H)) (zac .lss false t3 (.int .i64 0) λt25=>zad t25 false H (λK'=>K' t3 H) λt27 H=>zad t25 false H (λK'=>zac .gtr false t27 (.int .i64 6) (K' · H)) λt28 H=>zam t25 (.bool true) t28 λt29=>zag t29 (zaF [.snil,(.int .i64 8)] (K · H)) (zac .mul false t3 t21 λt32=>zac .gtr false t32 (.int .i64 6) λt33=>zag t33 (zaF [.snil,(.int .i64 13)] (K · H)) (zae true 3 t5 H λt34=>ACalls tP zkA [t34] H λt35 H=>ACalls tP zdJ [(.int .i64 1)] H λt36 H=>ACalls tP zc2 [.snil,t35,t36] H λt37 H=>zE0 t0 t3 t5 t6 t37 (.int .i64 0) H K)))
variable {t0 t1 t2 t3 t5 t6 t11 t12 t13 t15 t43 t44 t45 t54 t55 t56} {H} {K} {Kb10 Kb14}
theorem zXc(h:HSc H→zq4 t0 t1 t2 t3 H K):ACalls tP zrQ [t0,t1,t2,t3] H K:=
 acb zXa Tryz.func6 zXb h
theorem zVn:Lo2 (λt13 t56=>zoc t0 t3 t5 t6 t12 t13 t15 t43 t44 t45 t54 t55 t56) (λt13 t56 H Kb17=>zvy t0 t3 t5 t6 t12 t13 t15 t43 t44 t45 t54 t55 t56 H K Kb10 Kb14 Kb17) t13 t56 H (zE1 t0 t3 t5 t6 t12 t13 t15 t43 t44 t45 t54 t55 t56 H K Kb10 Kb14):=lq2 zep zVo
theorem zVm:Lo2 (λt13 t45=>zob t0 t3 t5 t6 t12 t13 t43 t44 t45) (λt13 t45 H Kb14=>zn9 t0 t3 t5 t6 t12 t13 t43 t44 t45 H K Kb10 Kb14) t13 t45 H (zod t0 t3 t5 t6 t12 t13 t43 t44 t45 H K Kb10):=lq2 zep zE3
theorem zVl:Lo2 (λt11 t12=>zoa t0 t3 t5 t6 t11 t12) (λt11 t12 H Kb10=>zvx t0 t3 t5 t6 t11 t12 H K Kb10) t11 t12 H (zE0 t0 t3 t5 t6 t11 t12 H K):=lq2 zep zE2
theorem zE4(h:HSc H→zvs t0 t1 t2 t3 H K):ACalls tP zkx [t0,t1,t2,t3] H K:=
 acb zep Tryz.func27 zvz h
end
theorem ACalls.frzV3{P:Program}{H:zaa}{f:FuncId}{K:Kt}{a b:AV}(id e size n:Nat)(cs:List AV)(es:List (List AV))(hH:H[id]?=some (.vec e size n cs))(hp:plain cs=some es.flatten)(ek:es.length=n)(eB:∀c∈es,c.length=size)(h:ACalls P f [a,b,.sl es .none] (H.set id .dead) K):ACalls P f [a,b,.ov id n] H K:=by
 intro B w G vs hR hv;obtain⟨G',hE,jA,hd⟩:=hR.frzV hH hp ek eB;refine(h B w G' vs jA ?_).mono λe w' ⟨v,r,H',G'',k1,k2,k3,k4,k5⟩=>⟨v,r,H',G'',k1,hE.trans k2,k3,k4,k5⟩;generalize vs.toList=l at *
 match l,hv with
 |[u,v,w0],⟨h1,h2,h3,_⟩=>exact⟨hE.trel h1,hE.trel h2,hd w0 h3,trivial⟩
def zdN(d7:List Dat)(t:VT)(i:IT)(n:Nat):AV:=
 if 1000<(zbn d7 t i n).length then .tup [.sl [] .none,.int .i64 9] else .tup [.sl (zaG (zbB d7 t (zbn d7 t i n) 7)) .none,.int .i64 0]
theorem zJ3{d7:List Dat}{t:VT}{i:IT}{s:List (IT×Nat)}{j:Nat}(h:j<s.length):zbr d7 t i (s.take (j+1))=zbr d7 t i (s.take j)++zbO s[j].2 (zbd d7 (s[j].1.nodes+i.nodes) t s[j].1 i):=by rw[ae h];simp only[zbr,bm,aZ,bZ,aG]
theorem zJ2(d7:List Dat)(t:VT)(i:IT)(s:List (IT×Nat))(j:Nat):zbr d7 t i s=zbr d7 t i (s.take j)++zbr d7 t i (s.drop j):=by
 conv=>lhs;rw[←aJ j s]
 simp only[zbr,bm]
theorem zKs{c:Nat}{M:List (IT×Nat)}{m:Nat}(h:m<M.length):zbO c (M.take (m+1))=zbO c (M.take m)++[(M[m].1,c*M[m].2)]:=by rw[ae h];simp only[zbO,aK,aF,bx]
theorem zVq{d7:List Dat}(hk:zbx d7)(t:VT)(ht:t.nodes≤250)(i:IT)(hi:i.nodes≤40)(hf:zb3 d7 t=true){d:Nat}(hd:rdV d7 i t=d)(n:Nat)(hn:n≤6)(me:n*d≤6)(H:zaa)(K:Kt)(hK:K (zdN d7 t i n) H):
  ACalls tP zkx [.sl (d7.map Dat.cs) .none,.agg t.cs,.agg i.cs,.int .i64 n] H K:=by
 refine ACalls.out (zE4 λhs=>?_);have h8:=zeG hf;obtain⟨hD,gE⟩:zbz d7=true∧za0 d7 0 t=true:=by unfold zb3 at hf;simpa using hf
 have oo:=λk (hk:k≤n)=>zk6 h8 ht hi hd k (by omega) (ap (ar d hk) me);have r1:=zeQ (h8:=h8) i t;have pV:d<7:=by omega
 have lY:=zjA ⟨d,pV⟩ ⟨n,by omega⟩ me;have hsumN:∀k≤n,zat (λ_=>1) (zbn d7 t i k)≤10395:=λk fI=>by
  rw[zfm];have h1:=(oo k fI).2.1;by_cases jv:k=n
  ·subst jv;exact ap h1 lY.1
  ·have:=lY.2 ⟨k,by omega⟩ (by show k<n;omega);exact ap h1 (ap this (by decide))
 have hlenN:∀k<n,(zbn d7 t i k).length≤945:=λk fI=>by have h1:=(oo k (by omega)).2.1;have h2:=lY.2 ⟨k,by omega⟩ fI;have h3:=zjV (zg1 d7 t i k);rw[zfm]at h3;exact ap h3 (ap h1 h2)
 have hterm:∀k≤n,∀p∈zbn d7 t i k,p.1.nodes+i.nodes≤300∧p.1.nodes≤250∧0≤rdV d7 p.1 t∧rdV d7 p.1 t≤(k*d:Nat):=λk fI p hp=>by
  obtain⟨q,hq,he⟩:=zdY (λg=>zfm d7 t i k g) hp (zg1 d7 t i k p hp);obtain⟨w1,w2,w3,w4⟩:=(oo k fI).1 q hq;rw[←he];split at w4
  ·exact⟨by omega,by omega,w2,w3⟩
  ·have:k*40≤6*40:=ar _ (by omega);exact⟨by omega,by omega,w2,w3⟩
 obtain⟨x,y,z,ew,hx,hy,hz⟩:=zbk t;obtain⟨x2,y2,eF,fc,jm⟩:=zci i;have q8:=zdp hf i;have jj:¬(d:Int)<0:=by omega
 have q9:¬((6:Int)<(n:Int)):=by omega
 have i5:¬((n:Int)<0):=by omega
 have hndI:(n:Int)*(d:Int)≤6:=by rw[←Int.natCast_mul];omega
 have wnd:IntKind.i64.wrap ((n:Int)*(d:Int))=(n:Int)*(d:Int):=zay (by rw[←Int.natCast_mul];omega) (by omega);have og:¬(6<(n:Int)*(d:Int)):=by omega
 simp[zvs,ew,eF,aa];rw[←ew,←eF];refine zEu d7 hk t (by omega) i (by omega) _ _ ?_;rw[q8,hd];simp[jj,q9,i5,wnd,og,ew,eF,aa];rw[←ew,←eF];obtain⟨A,hA⟩:∃A,A=H++[AB.cells t.cs,.cells i.cs]:=⟨_,rfl⟩;have i7:A.length=H.length+2:=by rw[hA];simp
 have a0:A[H.length]?=some (.cells t.cs):=by rw[hA];simp[List.getElem?_append]
 have a1:A[H.length+1]?=some (.cells i.cs):=by rw[hA];simp[List.getElem?_append]
 have hAs:HSc A:=by rw[hA];refine hs.append ?_;obtain⟨t1,t2,t3⟩:=t;obtain⟨i1,i2⟩:=i;simp[AB.sc,AV.scA,AV.scB,VT.cs,IT.cs]
 rw[←hA];have hzn:=zlB t;refine zVB _ t (ac _) (by omega) _ _ ?_;refine zeY 1 (by omega) _ _ ?_;refine ACalls.vecA zau 5 ?_;have hau:=zez (s:=[]) Gd.nil (by simp) (zaP t) (by omega) 1 (by omega) A.length (A++[.vec zau 5 0 []]);simp only[List.length_nil,Int.natCast_one]at hau;refine hau _ (by simp[tms]) ?_;have e0:za5 [] (zaP t) 1=zbn d7 t i 0:=by simp[za5,zbF,zbn]
 rw[e0];have hset0:(A++[AB.vec zau 5 0 []]).set A.length (.vec zau 5 (zbn d7 t i 0).length (tms (zbn d7 t i 0)))=A++[.vec zau 5 (zbn d7 t i 0).length (tms (zbn d7 t i 0))]:=by simp[ah]
 rw[hset0];have fb:∀(r:AV) (H':zaa) (hv:zdN d7 t i n=r),A <+: H'→∃J,H'=H++J:=λr H' _ h=>by obtain⟨J,rfl⟩:=h;rw[hA,aq];exact⟨_,rfl⟩
 refine zVl (Inv:=λq t11 t12 H'=>∃(k id:Nat),k≤n∧n-k=q∧t12=.int .i64 k∧t11=.ov id (zbn d7 t i k).length∧H'[id]?=some (.vec zau 5 (zbn d7 t i k).length (tms (zbn d7 t i k)))∧A <+: H'∧(zbn d7 t i k).length≤1000∧A.length≤id) n ?_ ?_
 ·intro _;exact⟨0,A.length,by omega,rfl,rfl,rfl,by simp,⟨_,rfl⟩,by simp[zbn],ac _⟩
 ·rintro q t11 t12 H' ⟨k,id,fI,rfl,rfl,rfl,en,fw,hl1000,hAid⟩ lL fZ hsF10 Kb10 iE;have oh:∀ {x:Nat} {b:AB},A[x]?=some b→H'[x]?=some b:=λh=>by obtain⟨J,rfl⟩:=fw;exact zbK h
  have iq:=cS fw;have ja:=zbm en;have mT:List.take 3 t.cs=t.cs:=ai (by obtain⟨a,b,c⟩:=t;simp[VT.cs]);have lX:t.cs.length=3:=by obtain⟨a,b,c⟩:=t;rfl
  have ol:List.take 2 i.cs=i.cs:=ai (by simp);by_cases jv:k<n
  ·have eC:(k:Int)<(n:Int):=by omega
   have ff:=hterm k (by omega);have hNk1:=hsumN (k+1) (by omega);obtain⟨s,kG⟩:∃s,s=zbn d7 t i k:=⟨_,rfl⟩;have nf:zbn d7 t i (k+1)=zaA [] (zbr d7 t i s):=by rw[kG];rfl
   rw[←kG]at en ff hl1000 ⊢;have hspos:∀p∈s,0<p.2:=by rw[kG];exact zg1 d7 t i k
   have lZ:zaH (λ_=>1) (zbr d7 t i s)≤10395:=by
    have:zaH (λ_=>1) (zaA [] (zbr d7 t i s))=zaH (λ_=>1) (zbr d7 t i s):=by rw[zcl,zcw,aC]
    rw[←this,←nf];exact hNk1
   have mX:(k*d:Nat)+d≤6:=by rw[←bI];exact ap (ar d jv) me
   have hGd:∀X:List (IT×Nat),X <+: zbr d7 t i s→Gd (zaA [] X)∧zaH (λ_=>1) (zaA [] X)≤10395:=λX hX=>by
    obtain⟨Y,hY⟩:=hX;refine⟨λp hp=>?_,?_⟩
    ·obtain⟨h1,h2⟩:=ze5 X [] (by simp) p hp;refine⟨?_,h1⟩;rcases h2 with ⟨q,hq,_⟩ | ⟨q,hq,oY,he⟩
     ·simp at hq
     ·have mQ:q∈zbr d7 t i s:=by rw[←hY];exact List.mem_append_left _ hq
      obtain⟨w,hw,qk⟩:=bY.1 mQ;obtain⟨r,hr,rfl⟩:=aA.1 qk;obtain⟨w1,w2,w3,w4⟩:=ff w hw;have:=((zcC h8 (w.1.nodes+i.nodes)).1 t w.1 i (ac _) w3 (by omega) (by omega)).1 r hr;rw[←he];show r.1.nodes≤1000;omega
    ·rw[zcl,zcw,aC];rw[←hY,zf2]at lZ;omega
   simp[zvx,eC];unfold zod;refine ALoop.vec 13 zau 5 rfl ?_;obtain⟨hp,ng⟩:∃hp:List (IT×Nat)→zaa,hp=λX=>H'++[.vec zau 5 (zaA [] X).length (tms (zaA [] X))]:=⟨_,rfl⟩;have fe:∀X,(hp X).length=H'.length+1:=λX=>by rw[ng];simp
   have hpg:∀X J,(hp X++J)[H'.length]?=some (.vec zau 5 (zaA [] X).length (tms (zaA [] X))):=λX J=>by rw[ng];simp
   have iM:∀X J {x:Nat} {b:AB},H'[x]?=some b→(hp X++J)[x]?=some b:=λX J x b h=>by rw[ng,aq];exact zbK h
   have gJ:∀X,HSc (hp X):=λX=>by rw[ng];exact lL.append (by simp only[AB.sc,List.all_cons,List.all_nil,zfr];rfl)
   have hpset:∀X Y J,(hp X++J).set H'.length (.vec zau 5 (zaA [] Y).length (tms (zaA [] Y)))=hp Y++J:=λX Y J=>by rw[ng];simp[ah]
   show zod (.sl (d7.map Dat.cs) .none) (.int .i64 n) (.ptr H.length 0) (.ptr (H.length+1) 0) (.int .i64 k) (.ov H'.length 0) (.ov id s.length) (.int .i64 s.length) (.int .i64 0) (H'++[.vec zau 5 0 []]) (Out H.length K) Kb10;have hidl':=ja;refine zVm (Inv:=λq t13 t45 H2=>∃j:Nat,j≤s.length∧s.length-j=q∧t45=.int .i64 j∧t13=.ov H'.length (zaA [] (zbr d7 t i (s.take j))).length∧H2=hp (zbr d7 t i (s.take j))) s.length ?_ ?_
   ·intro _;exact⟨0,by omega,rfl,rfl,by simp[zbr,zaA],by rw[ng];simp[zbr,zaA,tms]⟩
   ·rintro q t13 t45 H2 ⟨j,hj,rfl,rfl,rfl,rfl⟩ hsc14 hlen14 hsF14 Kb14 lW;by_cases eI:j<s.length
    ·obtain⟨w1,w1',w2,w3⟩:=ff _ (af eI);have hwp:=hspos _ (af eI);have eL:=zJ3 (d7:=d7) (t:=t) (i:=i) eI;have l4:=zJ2 d7 t i s (j+1);obtain⟨M,hM⟩:∃ M,M=zbd d7 (s[j].1.nodes+i.nodes) t s[j].1 i:=⟨_,rfl⟩;obtain⟨R1,R2⟩:=(zcC h8 (s[j].1.nodes+i.nodes)).1 t s[j].1 i (ac _) w2 (by omega) (by omega);rw[←hM]at eL R1 R2
     replace R2:=ap R2 (zcS (by omega))
     have Rl:=zeI λp hp=>(R1 p hp).1;obtain⟨X,hX⟩:∃X,X=zbr d7 t i (s.take j):=⟨_,rfl⟩;rw[←hX]at eL ⊢;rw[eL]at l4;have ki:s[j].2≤10395:=by have h1:=zdX (λ_=>1) (af eI);have h2:=hsumN k (by omega);rw[←kG]at h2;omega
     have hs5:=zsJ eI;have hs5':j*5+5≤s.length*5:=by omega
     have hid0:(hp X)[id]?=some (.vec zau 5 s.length (tms s)):=by have:=iM X [] en;simpa using this
     have md:=λJ=>iM X J (oh a0);have hA1:=λJ=>iM X J (oh a1);have hcw:∀X J,(hp X++(AB.cells (tmC s[j])::J))[H'.length+1]?=some (.cells (tmC s[j])):=λX J=>by rw[←fe X];simp
     simp[zn9,eI,hid0,hs5,hs5',zcK,md,hA1,mT,lX,ol,fe,hcw,zcm,zcn];refine⟨zcK _,?_⟩;refine(zzu hk h8 hD (s[j].1.nodes+i.nodes)).1 t s[j].1 i (ac _) (by omega) gE w2 (by omega) (by omega) (by omega) _ _ ?_;rw[←hM];simp;refine zVn (Inv:=λq t13 t56 H3=>∃m:Nat,m≤M.length∧M.length-m=q∧t56=.int .i64 m∧t13=.ov H'.length (zaA [] (X++zbO s[j].2 (M.take m))).length∧H3=hp (X++zbO s[j].2 (M.take m))++[.cells (tmC s[j])]) M.length ?_ ?_
     ·intro _;exact⟨0,by omega,rfl,rfl,by simp[zbO],by simp[zbO]⟩
     ·rintro q t13 t56 H3 ⟨m,hm,rfl,rfl,rfl,rfl⟩ hsc17 hlen17 hsF17 Kb17 hKb17;by_cases oy:m<M.length
      ·have qq:=af oy;obtain⟨R11,R12,R13,R14,R15,R16⟩:=R1 _ qq;have hM729:=zeg qq;have mR:=zKs (c:=s[j].2) oy;have gq:zaA [] (X++zbO s[j].2 (M.take (m+1)))=za5 (zaA [] (X++zbO s[j].2 (M.take m))) M[m].1 (s[j].2*M[m].2):=by rw[mR,←aq,zxM]
       have hpx:X++zbO s[j].2 (M.take m) <+: zbr d7 t i s:=by
        have h1:zbO s[j].2 M=zbO s[j].2 (M.take m)++zbO s[j].2 (M.drop m):=by
         conv=>lhs;rw[←aJ m M]
         simp only[zbO,aK]
        rw[l4,h1];exact⟨zbO s[j].2 (M.drop m)++zbr d7 t i (s.drop (j+1)),by simp⟩
       obtain⟨hG,hN⟩:=hGd _ hpx;have fO:s[j].2*M[m].2≤10395:=by
        obtain⟨Y,hY⟩:∃Y,zbr d7 t i s=X++zbO s[j].2 (M.take (m+1))++Y:=by
         have h1:zbO s[j].2 M=zbO s[j].2 (M.take (m+1))++zbO s[j].2 (M.drop (m+1)):=by
          conv=>lhs;rw[←aJ (m+1) M]
          simp only[zbO,aK]
         rw[l4,h1];exact⟨zbO s[j].2 (M.drop (m+1))++zbr d7 t i (s.drop (j+1)),by simp⟩
        have h2:=lZ;rw[hY,mR]at h2;simp only[zf2,zc5,zcw,bl]at h2;omega
       obtain⟨Z,hZ⟩:∃Z,Z=X++zbO s[j].2 (M.take m):=⟨_,rfl⟩;rw[←hZ]at gq hG hN ⊢;have qc:∀X J,(hp X++(AB.cells (tmC s[j])::AB.cells (tmC M[m])::J))[H'.length+2]?=some (.cells (tmC M[m])):=λX J=>by rw[List.getElem?_append_right (by rw[fe];omega),fe,show H'.length+2-(H'.length+1)=1 by omega];rfl
       simp[zvy,oy,zcU,zcK,hcw,qc,fe,zcm,zcn];refine⟨zcK _,?_⟩;refine zaD (.agg (zai ((s[j].2*M[m].2:Nat):Int))) (λJ=>zhn _ _ (zb0 (aD ki (by decide))) (zb0 (aD (show M[m].2≤729 by omega) (by decide))) _ _ ⟨by rw[Int.natCast_mul],rfl⟩) ?_;refine zez hG (by omega) M[m].1 (by omega) (s[j].2*M[m].2) (by omega) H'.length _ _ (hpg Z _) ?_;rw[←gq,hpset Z (X++zbO s[j].2 (M.take (m+1))),wi m (by omega)];exact hKb17 _ _ ⟨M.length-(m+1),by omega,Back.at (J:=[.cells (tmC M[m])]) (H2:=hp (X++zbO s[j].2 (M.take (m+1)))++[.cells (tmC s[j])]) (by simp) (by simp[fe]) ((gJ _).append (by
        have:=zfr [s[j]] ;simp only[AB.sc,List.all_cons,List.all_nil];simpa[tms]using this _)) (by simp[zoc,ux,AV.sc,AV.scA,AV.scB,AV.scV,fe];omega) ⟨_,_,rfl,m+1,by omega,rfl,rfl,rfl,rfl⟩⟩
      ·obtain rfl:m=M.length:=by omega
       rw[ak]at *;have qX:X++zbO s[j].2 M=zbr d7 t i (s.take (j+1)):=eL.symm;rw[qX];simp[zvy,wi j (by omega)];exact lW _ _ ⟨s.length-(j+1),by omega,Back.at (J:=[.cells (tmC s[j])]) (H2:=hp (zbr d7 t i (s.take (j+1)))) rfl (by simp[fe]) (gJ _) (by simp[zob,ux,AV.sc,AV.scA,AV.scB,AV.scV,fe];omega) ⟨_,_,rfl,j+1,by omega,rfl,rfl,rfl,rfl⟩⟩
    ·obtain rfl:j=s.length:=by omega
     rw[ak]at *;by_cases fW:1000<(zaA [] (zbr d7 t i s)).length
     ·have fG:(1000:Int)<((zaA [] (zbr d7 t i s)).length:Int):=by omega
      simp[zn9,fG];have hkn1:k+1=n:=by
       by_cases h:k+1=n
       ·exact h
       ·have:=hlenN (k+1) (by omega);rw[nf]at this;omega
      have oW:zdN d7 t i n=.tup [.sl [] .none,.int .i64 9]:=by unfold zdN;rw[←hkn1,nf,az fW]
      rw[oW]at hK;obtain⟨J,hJ⟩:=fb _ H' rfl fw;obtain⟨J',ra⟩:∃J',hp (zbr d7 t i s)=H++J':=by rw[ng];simp only[];rw[hJ,aq];exact⟨_,rfl⟩
      rw[ra];exact⟨⟨rfl,rfl⟩,Out.tup (bs:=[.sl [] .none,.int .i64 9]) hs hK ⟨zdj,zaV rfl rfl,trivial⟩⟩
     ·have fG:¬ (1000:Int)<((zaA [] (zbr d7 t i s)).length:Int):=by omega
      simp[zn9,fG,wi k (by omega)];have hg:=hpg (zbr d7 t i s) [];rw[aG]at hg;exact iE _ _ ⟨n-(k+1),by omega,Back.here (ap fZ (by rw[fe];exact bL _)) (gJ _) (by simp[zoa,ux,AV.sc,AV.scA,AV.scB,AV.scV,fe];omega) ⟨_,_,rfl,k+1,H'.length,by omega,rfl,rfl,by rw[nf],by rw[nf];exact hg,by rw[ng];exact List.IsPrefix.trans fw ⟨_,rfl⟩,by rw[nf];omega,iq⟩⟩
  ·obtain rfl:k=n:=by omega
   obtain⟨J,hJ⟩:=fb _ H' rfl fw;simp[zvx,oh a0,mT,lX];have fe:(zaG (zbn d7 t i k)).flatten=tms (zbn d7 t i k):=rfl;refine ACalls.frzV3 id zau 5 (zbn d7 t i k).length _ (zaG (zbn d7 t i k)) en (by rw[fe];exact zk5 _) (by simp) (λc hc=>by
    obtain⟨p,_,rfl⟩:=aA.1 hc;simp) ?_
   refine zWR hk h8 t (by omega) (zbn d7 t i k) (λp hp=>by have:=hterm k fI p hp;omega) hl1000 _ _ ?_;have oW:zdN d7 t i k=.tup [.sl (zaG (zbB d7 t (zbn d7 t i k) 7)) .none,.int .i64 0]:=by unfold zdN;rw[au (by omega)]
   rw[oW]at hK;obtain⟨J',ra⟩:∃J',H'.set id .dead=H++J':=by rw[hJ,ah _ _ (by omega)];exact⟨_,rfl⟩
   rw[ra];exact⟨⟨rfl,rfl⟩,Out.tup (bs:=[.sl (zaG (zbB d7 t (zbn d7 t i k) 7)) .none,.int .i64 0]) hs hK ⟨zaV rfl rfl,zaV rfl rfl,trivial⟩⟩
def zcT(d7:List Dat)(t:VT)(i:IT)(n:Int):AV:=
 if za6 d7 t i<0 then .tup [.sl [] .none,.int .i64 1] else if n<0∨6<n then .tup [.sl [] .none,.int .i64 8] else if 6<n*za6 d7 t i then .tup [.sl [] .none,.int .i64 13]
 else zdN d7 t i n.toNat
theorem zhP{d7:List Dat}{t:VT}{i:IT}(h:¬za6 d7 t i<0):zb3 d7 t=true:=by
 by_cases hf:zb3 d7 t=true
 ·exact hf
 ·exact absurd (by unfold za6;rw[au hf];omega) h
theorem zUH{d7:List Dat}(hk:zbx d7)(t:VT)(ht:t.nodes≤250)(i:IT)(hi:i.nodes≤40)(n:Int)(H:zaa)(K:Kt)(hK:K (zcT d7 t i n) H):
  ACalls tP zkv [.sl (d7.map Dat.cs) .none,.agg t.cs,.agg i.cs,.int .i64 n] H K:=by
 by_cases jd:¬za6 d7 t i<0∧¬(n<0∨6<n)∧¬ 6<n*za6 d7 t i
 ·obtain⟨g1,g2,g3⟩:=jd;have hf:=zhP g1;have h8:=zeG hf;unfold zcT at hK;rw[au g1,au g2,au g3]at hK;rw[zdp hf]at g1 g3;obtain⟨m,rfl⟩:∃ m:Nat,n=m:=⟨n.toNat,by omega⟩;rw[Int.toNat_natCast]at hK;obtain⟨d,hd⟩:∃ d:Nat,rdV d7 i t=d:=⟨(rdV d7 i t).toNat,by omega⟩;have oq:m*d≤6:=by rw[hd,←Int.natCast_mul]at g3;omega
  obtain⟨A,B,C,E⟩:=zk6 h8 ht hi hd m (by omega) oq;have r1:=zeQ (h8:=h8) i t;have lY:=(zjA ⟨d,by omega⟩ ⟨m,by omega⟩ oq).1;have fH:zat (λ_=>1) (za3 d7 t i m)≤10395:=ap B lY;have fe:=zjV (s:=za3 d7 t i m) λp hp=>(A p hp).1;have ek:=zHJ (zAg d7 t i m) (λp hp=>(A p hp).1) (zAs d7 t i m) (zg1 d7 t i m) λg=>(zfm d7 t i m g).symm;refine zUN hk t ht i hi hf (by omega) m (by omega) (by rw[hd,←Int.natCast_mul];omega) E (λp hp=>?_) C (by omega) (zbn d7 t i m) (zAs d7 t i m) (by omega) (zg1 d7 t i m) (λg=>(zfm d7 t i m g).symm) H K (λh=>?_) (λh=>?_)
  ·obtain⟨w1,w2,w3,w4⟩:=A p hp;have hm:=zdX (λ_=>1) hp;rw[bl]at hm;refine⟨?_,w1,aD (ap hm fH) (by decide),w2,by omega⟩;split at w4
   ·omega
   ·have:m*40≤6*40:=ar _ (by omega);omega
  ·have hp:zdN d7 t i m=.tup [.sl [] .none,.int .i64 9]:=by unfold zdN;rw[az (by omega)]
   rw[←hp];exact hK
  ·have hp:zdN d7 t i m=.tup [.sl (zaG (zbB d7 t (zbn d7 t i m) 7)) .none,.int .i64 0]:=by unfold zdN;rw[au (by omega)]
   rw[←hp];exact hK
 ·refine ACalls.out (zEO λhs=>?_);have hO:∀ (e:Int) J,zcT d7 t i n=.tup [.sl [] .none,.int .i64 e]→Out H.length K (.tup [.snil,.int .i64 e]) (H++J):=λe J he=>Out.tup (bs:=[.sl [] .none,.int .i64 e]) hs (by rw[←he];exact hK) ⟨zdj,zaV rfl rfl,trivial⟩;obtain⟨x,y,z,ew,hx,hy,hz⟩:=zbk t;obtain⟨x2,y2,eF,fc,jm⟩:=zci i;simp[zvm,ew,eF,aa];rw[←ew,←eF];refine zjb d7 hk t (by omega) i (by omega) _ _ ?_;by_cases g1:za6 d7 t i<0
  ·simp[g1];exact⟨⟨rfl,rfl⟩,hO 1 _ (by unfold zcT;rw[az g1])⟩
  ·by_cases g2:n<0
   ·simp[g1,g2];exact⟨⟨rfl,rfl⟩,hO 8 _ (by unfold zcT;rw[au g1,az (.inl g2)])⟩
   ·by_cases g3:6<n
    ·simp[g1,g2,g3];exact⟨⟨rfl,rfl⟩,hO 8 _ (by unfold zcT;rw[au g1,az (.inr g3)])⟩
    ·have g4:6<n*za6 d7 t i:=by
      by_cases h:6<n*za6 d7 t i
      ·exact h
      ·exact absurd ⟨g1,by omega,h⟩ jd
     have hf:=zhP g1;have h8:=zeG hf;have r1:=zeQ (h8:=h8) i t;have hb:n*za6 d7 t i≤6*6:=by rw[zdp hf]at g1 ⊢;exact Int.mul_le_mul (by omega) (by omega) (by omega) (by omega)
     have w:IntKind.i64.wrap (n*za6 d7 t i)=n*za6 d7 t i:=zay (by omega) (by omega);simp[g1,g2,g3,g4,w];exact⟨⟨rfl,rfl⟩,hO 13 _ (by unfold zcT;rw[au g1,au (by omega),az g4])⟩
theorem zVj{d7:List Dat}(hk:zbx d7)(t:VT)(ht:t.nodes≤250)(i:IT)(hi:i.nodes≤40)(n:Int)(H:zaa)(K:Kt)(hK:K (zcT d7 t i n) H):
  ACalls tP zkx [.sl (d7.map Dat.cs) .none,.agg t.cs,.agg i.cs,.int .i64 n] H K:=by
 by_cases jd:¬za6 d7 t i<0∧¬(n<0∨6<n)∧¬ 6<n*za6 d7 t i
 ·obtain⟨g1,g2,g3⟩:=jd;have hf:=zhP g1;unfold zcT at hK;rw[au g1,au g2,au g3]at hK;rw[zdp hf]at g1 g3;obtain⟨m,rfl⟩:∃ m:Nat,n=m:=⟨n.toNat,by omega⟩;rw[Int.toNat_natCast]at hK;obtain⟨d,hd⟩:∃ d:Nat,rdV d7 i t=d:=⟨(rdV d7 i t).toNat,by omega⟩;have oq:m*d≤6:=by rw[hd,←Int.natCast_mul]at g3;omega
  exact zVq hk t ht i hi hf hd m (by omega) oq H K hK
 ·refine ACalls.out (zE4 λhs=>?_);have hO:∀ (e:Int) J,zcT d7 t i n=.tup [.sl [] .none,.int .i64 e]→Out H.length K (.tup [.snil,.int .i64 e]) (H++J):=λe J he=>Out.tup (bs:=[.sl [] .none,.int .i64 e]) hs (by rw[←he];exact hK) ⟨zdj,zaV rfl rfl,trivial⟩;obtain⟨x,y,z,ew,hx,hy,hz⟩:=zbk t;obtain⟨x2,y2,eF,fc,jm⟩:=zci i;simp[zvs,ew,eF,aa];rw[←ew,←eF];refine zEu d7 hk t (by omega) i (by omega) _ _ ?_;by_cases g1:za6 d7 t i<0
  ·simp[g1];exact⟨⟨rfl,rfl⟩,hO 1 _ (by unfold zcT;rw[az g1])⟩
  ·by_cases g2:n<0
   ·simp[g1,g2];exact⟨⟨rfl,rfl⟩,hO 8 _ (by unfold zcT;rw[au g1,az (.inl g2)])⟩
   ·by_cases g3:6<n
    ·simp[g1,g2,g3];exact⟨⟨rfl,rfl⟩,hO 8 _ (by unfold zcT;rw[au g1,az (.inr g3)])⟩
    ·have g4:6<n*za6 d7 t i:=by
      by_cases h:6<n*za6 d7 t i
      ·exact h
      ·exact absurd ⟨g1,by omega,h⟩ jd
     have hf:=zhP g1;have h8:=zeG hf;have r1:=zeQ (h8:=h8) i t;have hb:n*za6 d7 t i≤6*6:=by rw[zdp hf]at g1 ⊢;exact Int.mul_le_mul (by omega) (by omega) (by omega) (by omega)
     have w:IntKind.i64.wrap (n*za6 d7 t i)=n*za6 d7 t i:=zay (by omega) (by omega);simp[g1,g2,g3,g4,w];exact⟨⟨rfl,rfl⟩,hO 13 _ (by unfold zcT;rw[au g1,au (by omega),az g4])⟩
theorem zJW(d7:List Dat)(t:VT)(ht:t.nodes≤250)(i:IT)(hi:i.nodes≤40)(n:Int):∃(s:List (IT×Nat)) (e:Int),zcT d7 t i n=.tup [.sl (zaG s) .none,.int .i64 e]∧(∀p∈s,p.1.nodes≤1000000∧Sm (p.2:Int))∧s.length≤1000000:=by
 unfold zcT;split
 ·exact⟨[],1,rfl,by simp,by simp⟩
 ·rename_i g1;split
  ·exact⟨[],8,rfl,by simp,by simp⟩
  ·rename_i g2;split
   ·exact⟨[],13,rfl,by simp,by simp⟩
   ·rename_i g3;have hf:=zhP g1;have h8:=zeG hf;rw[zdp hf]at g1 g3;obtain⟨m,rfl⟩:∃ m:Nat,n=m:=⟨n.toNat,by omega⟩;rw[Int.toNat_natCast];obtain⟨d,hd⟩:∃ d:Nat,rdV d7 i t=d:=⟨(rdV d7 i t).toNat,by omega⟩;have oq:m*d≤6:=by rw[hd,←Int.natCast_mul]at g3;omega
    obtain⟨A,B,C,E⟩:=zk6 h8 ht hi hd m (by omega) oq;have r1:=zeQ (h8:=h8) i t;have lY:=(zjA ⟨d,by omega⟩ ⟨m,by omega⟩ oq).1;unfold zdN;split
    ·exact⟨[],9,rfl,by simp,by simp⟩
    ·rename_i g4;refine⟨zbB d7 t (zbn d7 t i m) 7,0,rfl,λp hp=>?_,?_⟩
     ·have pr:=zJE p hp;obtain⟨q,hq,he⟩:=zdY (λg=>zfm d7 t i m g) pr (zg1 d7 t i m p pr);obtain⟨w1,w2,w3,w4⟩:=A q hq;have hm:=zdX (λ_=>1) pr;rw[bl,zfm]at hm;rw[←he];refine⟨?_,zb0 (aD (ap hm (ap B lY)) (by decide))⟩;split at w4
      ·omega
      ·have:m*40≤6*40:=ar _ (by omega);omega
     ·have:=zkX (d7:=d7) (t:=t) (s:=zbn d7 t i m) 7;omega
theorem zG8(d7:List Dat)(ek:d7.length≤9223372036854775807)(t:VT)(i:IT)(n:Int)(H:zaa)(K:Kt)(hK:K (.bool true) H):
  ACalls tP zrQ [.sl (d7.map Dat.cs) .none,.agg t.cs,.agg i.cs,.int .i64 n] H K:=by
 refine ACalls.out (zXc λhs=>?_);have hO:∀J,Out H.length K (.bool true) (H++J):=λJ=>Out.bool rfl (ac _) hs hK;obtain⟨x,y,z,ew,hx,hy,hz⟩:=zbk t;obtain⟨x2,y2,eF,fc,jm⟩:=zci i;simp[zq4,ew,eF,aa];rw[←ew];refine zZ8 d7 ek t _ _ λb0 fL=>?_;cases b0 with
 |false=>simp;exact hO _
 |true=>
 obtain⟨hk,ht⟩:=fL rfl;simp[aa];rw[←eF];refine yaS i _ _ λb1 fz=>?_;cases b1 with
 |false=>simp;exact hO _
 |true=>
 have hi:=fz rfl;obtain⟨s,e,hr,kO,gN⟩:=zJW d7 t ht i hi n;simp[ew,eF,aa];rw[←ew,←eF];refine zUH hk t ht i hi n _ _ ?_;rw[hr];simp[ew,eF,aa];rw[←ew,←eF];refine zVj hk t ht i hi n _ _ ?_;rw[hr];simp;refine zOr s kO gN _ _ ?_;simp;refine zHM _ _ ?_;exact hO _
end Go.Proofs.YtdmamdnkcefmmaaGreatDoor
