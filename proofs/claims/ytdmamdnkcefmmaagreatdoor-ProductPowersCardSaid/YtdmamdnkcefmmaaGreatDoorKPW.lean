import Derived.Test.YtdmamdnkcefmmaaGreatDoorKI6
import Derived.Test.YtdmamdnkcefmmaaGreatDoorKI2
import Derived.Test.YtdmamdnkcefmmaaGreatDoorIT
import Derived.Test.YtdmamdnkcefmmaaGreatDoorKY10
import Derived.Test.YtdmamdnkcefmmaaGreatDoorKN4
import Derived.Test.YtdmamdnkcefmmaaGreatDoorKNum
import Derived.Shelf.SlSortCmp.NoneTotal
import Derived.Test.YtdmamdnkcefmmaaGreatDoorVO
set_option linter.unusedSimpArgs false
set_option linter.unusedVariables false
set_option maxRecDepth 8000
namespace Go.Proofs.YtdmamdnkcefmmaaGreatDoor
theorem zla(d7:List Dat)(n:Int)(ks:List IT)(tk tn:Int)(tks:List VT):rdV d7 (.mk n ks) (.mk tk tn tks) =
  if tk=6 then (if n=0 then (if tks.length=ks.length then rdA d7 ks tks 0 else -1) else -1)
  else if tk=7 then (if 0≤n∧n≤6∧ks.length=0 then n else -1)
  else if tk=5 then (if n=0∧ks.length≤6 then rdE d7 ks (.mk tk tn tks) 0 else -1)
  else (if n=0∧ks.length=0 then 0 else -1):=by
 rw[rdV];rfl
theorem zxX{m:Int×Bool}{r:Int}(h:agr m r):-1≤r∧r≤6:=by
 obtain⟨h1,h2⟩:=h;cases hb:m.2 with
 |true=>have:=h1 hb;omega
 |false=>have:=h2 hb;omega
def zc7(d7:List Dat)(vs:List IT)(ts:List VT):Int:=if ts.length=vs.length then rdA d7 vs ts 0 else -1
theorem zLO{d7:List Dat}(h8:∀D∈d7,D.cons.length≤8)(vs:List IT)(ts:List VT):-1≤zc7 d7 vs ts∧zc7 d7 vs ts≤6:=by
 unfold zc7;split
 ·exact zxX ((zjD h8 vs ts 0 (by omega)).1 (by omega))
 ·omega
def zjq(d7:List Dat)(v:IT):Prop:=∀t:VT,t.nodes≤1000→∀(H:zaa) (K:Kt),K (.int .i64 (rdV d7 v t)) H→ACalls tP zip [.sl (d7.map Dat.cs) .none,.agg t.cs,.agg v.cs] H K
theorem zCf{d7:List Dat}(h8:∀D∈d7,D.cons.length≤8)(vs:List IT)(hv:vs.length≤1000)(iG:∀v∈vs,zjq d7 v)(ts:List VT)(ht:∀t∈ts,t.nodes≤1000)(H:zaa)(K:Kt)(hK:K (.int .i64 (zc7 d7 vs ts)) H):ACalls tP zj5 [.sl (d7.map Dat.cs) .none,.sl (VT.css ts) .none,.sl (IT.css vs) .none] H K:=by
 refine ACalls.out (zM8 λhs=>?_);have hO:∀r J,zc7 d7 vs ts=r→Out H.length K (.int .i64 r) (H++J):=λr J h=>by subst h;exact Out.int rfl (ac _) hs hK
 have m4:∀r,zc7 d7 vs ts=r→Out H.length K (.int .i64 r) H:=λr h=>by simpa using hO r [] h
 by_cases hl:ts.length=vs.length;case neg=>
  have:((ts.length:Int) != (vs.length:Int))=true:=by simp[bne];omega
  simp[ztf,this];exact m4 _ (by simp[zc7,hl])
 have lr:zc7 d7 vs ts=rdA d7 vs ts 0:=by simp[zc7,hl]
 simp[ztf,hl];refine zM6 (Inv:=λq t7 t17 H'=>∃(i:Nat) (a:Int),i≤vs.length∧q=vs.length-i∧t17=.int .i64 i∧t7=.int .i64 a∧0≤a∧a≤6∧rdA d7 (vs.drop i) (ts.drop i) a=zc7 d7 vs ts∧H'=H) vs.length ?_ ?_
 ·intro _;exact⟨0,0,by omega,by omega,rfl,rfl,by omega,by omega,by simp[lr],rfl⟩
 ·rintro q t7 t17 H' ⟨i,a,hi,rfl,rfl,rfl,m5,pK,ho,rfl⟩ eE ek eK Kb eq;by_cases ei:i<vs.length
  ·have eC:i<ts.length:=by omega
   rw[ag ei,ag eC]at ho;simp only[rdA]at ho;have qH:=ht _ (af eC);have qI:=iG _ (af ei);have pe:=zxX (zhA h8 vs[i] ts[i]);simp[ztg,hl,ei,eC,aa];refine zaD (.int .i64 (rdV d7 vs[i] ts[i])) (λJ=>qI _ qH _ _ ⟨rfl,rfl⟩) ?_;generalize rdV d7 vs[i] ts[i]=r at *;by_cases hr:r<0
   ·rw[az (.inl hr)]at ho;simp[hr];exact m4 _ ho.symm
   ·have q1:IntKind.i64.wrap (a+r)=a+r:=zay (by omega) (by omega);by_cases h6:a+r>6
    ·rw[az (.inr h6)]at ho;simp[hr,q1,h6];exact m4 _ ho.symm
    ·rw[au (by omega)]at ho;simp[hr,q1,h6];rw[zay (by omega) (by omega)];refine eq _ _ ⟨vs.length-(i+1),by omega,Back.at (J:=[]) (by simp) (ac _) hs ?_ ⟨_,_,rfl,i+1,_,by omega,rfl,by simp,rfl,by omega,by omega,ho,rfl⟩⟩;simp[zl0,AV.sc,AV.scV,AV.scA,AV.scB]
  ·obtain rfl:i=vs.length:=by omega
   rw[aI]at ho;simp only[rdA]at ho;simp[ztg,hl];exact m4 _ ho.symm
theorem zVY:∀ (m:Nat) (v:IT),v.nodes≤m→∀ (left:Int),left≤1000000→-1≤left→∀ (H:zaa) (id:Nat),H[id]?=some (.cells [.int .i64 left])→∀ (K:AV→zaa→Prop),
  ((v.nodes:Int)≤left→K (.bool true) (H.set id (.cells [.int .i64 (left-v.nodes)])))→(¬(v.nodes:Int)≤left→∀l',K (.bool false) (H.set id (.cells [.int .i64 l']))) →
  ACalls tP zkB [.agg v.cs,.ptr id 0] H K:=by
 intro m;induction m with
 |zero=>intro v h;have:=v.nodes_pos;omega
 |succ m ih=>
  intro v hv left i9 ik H id en K hK hF;obtain⟨n,ks⟩:=v;have ei:=zbm en;have iK:(IT.mk n ks).nodes=IT.nodesL ks+1:=by simp[IT.nodes]
  refine ACalls.out (zVW λhs=>?_);have eA:(H++[AB.cells [.int .i64 n,.sl (IT.css ks) .none]])[id]?=some (.cells [.int .i64 left]):=zbK en;have bad:(¬((IT.mk n ks).nodes:Int)≤left)→∀l' H',H'=H.set id (.cells [.int .i64 l'])++[.cells [.int .i64 n,.sl (IT.css ks) .none]]→Out H.length K (.bool false) H':=by intro h l' H' he;exact Out.bool he (by simp) (hs.set rfl) (hF h l')
  simp[zFg,IT.cs,eA,AV.known];rw[zay (by omega) (by omega),zeB _ en,zbK (zdO _ en)];by_cases h0:left-1<0
  ·simp[h0];exact bad (by omega) _ _ rfl
  ·simp[h0];refine zVU (Inv:=λq t5 H'=>∃i:Nat,i≤ks.length∧q=ks.length-i∧t5=.int .i64 i∧((IT.nodesL (ks.take i):Int)+1≤left)∧H'=H.set id (.cells [.int .i64 (left-1-IT.nodesL (ks.take i))])++[.cells [.int .i64 n,.sl (IT.css ks) .none]]) ks.length ?_ ?_
   ·intro _;exact⟨0,by omega,by omega,rfl,by simp[IT.nodesL];omega,by simp[IT.nodesL]⟩
   ·rintro q t5 H' ⟨i,hi,rfl,rfl,hb,rfl⟩ hsc ek eK Kb eq;by_cases fg:i<ks.length
    ·have fm:=IT.kid_lt (n:=n) fg;have h1:=IT.nodesL_take fg;have h2:=IT.nodesL_take_le ks (i+1);have fh:=IT.len_le (ks.take i);simp only[aT]at fh;have gK:(H.set id (.cells [.int .i64 (left-1-IT.nodesL (ks.take i))])++[AB.cells [.int .i64 n,.sl (IT.css ks) .none]])[id]?=some (.cells [.int .i64 (left-1-IT.nodesL (ks.take i))]):=zbK (zdO _ en);simp[zvL,fg];refine ih ks[i] (by omega) (left-1-IT.nodesL (ks.take i)) (by omega) (by omega) _ id gK _ ?_ ?_
     ·intro eP;rw[zeB _ (zdO _ en),bD];simp;rw[zay (by omega) (by omega)];refine eq _ _ ⟨ks.length-(i+1),by omega,Back.here (by simp) ((hs.set rfl).snoc rfl) ?_ ⟨_,rfl,i+1,by omega,rfl,by simp,by omega,?_⟩⟩
      ·simp[zol,AV.sc,AV.scV,AV.scA,AV.scB];omega
      ·rw[h1];congr 5;omega
     ·intro eP l';rw[zeB _ (zdO _ en),bD];simp;exact bad (by omega) _ _ rfl
    ·obtain rfl:i=ks.length:=by omega
     rw[ak]at hb ⊢;simp[zvL];refine Out.bool rfl (by simp) (hs.set rfl) ?_;have:=hK (by omega);rw[iK]at this;rw[show left-1-(IT.nodesL ks:Int)=left-((IT.nodesL ks+1:Nat):Int) by omega];exact this
theorem yaS(v:IT)(H:zaa)(K:Kt)(hK:∀b,(b=true→v.nodes≤40)→K (.bool b) H):ACalls tP zr5 [.agg v.cs] H K:=by
 refine ACalls.out (yaR λhs=>?_);simp[zq9,AV.known];refine zVY _ v (ac _) 40 (by omega) (by omega) _ (H.length+1) (by simp) _ ?_ ?_
 ·intro h;exact Out.bool (J:=[_,_]) (by simp;exact⟨rfl,rfl⟩) (ac _) hs (hK true λ_=>by omega)
 ·intro h l';exact Out.bool (J:=[_,_]) (by simp;exact⟨rfl,rfl⟩) (ac _) hs (hK false λh=>by cases h)
theorem zFQ{d7:List Dat}(hk:zbx d7)(h8:∀D∈d7,D.cons.length≤8):∀(m:Nat) (v:IT),v.nodes≤m→v.nodes≤900→zjq d7 v:=by
 intro m;induction m with
 |zero=>intro v h;have:=v.nodes_pos;omega
 |succ m ih=>
  intro v hv hb t ht H K hK;obtain⟨n,ks⟩:=v;obtain⟨tk,tn,tks⟩:=t;have gd:IT.nodesL ks+1≤900:=by simpa[IT.nodes]using hb
  have fh:=IT.len_le ks;have gX:∀v∈ks,zjq d7 v:=λv mJ=>by obtain⟨i,hi,rfl⟩:=be mJ;have:=IT.kid_lt (n:=n) hi;exact ih _ (by omega) (by omega)
  refine ACalls.out (zXK λhs=>?_);rw[zla]at hK;have hO:∀r J,K (.int .i64 r) H→Out H.length K (.int .i64 r) (H++J):=λr J h=>Out.int rfl (ac _) hs h;by_cases h6:tk=6
  ·subst h6;rw[az rfl]at hK;by_cases hn:n=0
   ·subst hn;rw[az rfl]at hK;simp[zdy,VT.cs,IT.cs,aa];have ff:∀ t∈tks,t.nodes≤1000:=λt mh=>by obtain⟨i,hi,rfl⟩:=be mh;have:=VT.kid_lt (k:=6) (n:=tn) hi;omega
    refine zCf h8 ks (by omega) gX tks ff _ _ ?_;exact hO _ _ hK
   ·have:(n != 0)=true:=by simp[bne,hn]
    rw[au hn]at hK;simp[zdy,VT.cs,IT.cs,aa,this];exact hO _ _ hK
  have jJ:(tk == 6)=false:=by simp[h6]
  rw[au h6]at hK;by_cases h7:tk=7
  ·subst h7;rw[az rfl]at hK;by_cases g1:n<0
   ·rw[au (by omega)]at hK;simp[zdy,VT.cs,IT.cs,aa,g1];exact hO _ _ hK
   ·by_cases g2:n>6
    ·rw[au (by omega)]at hK;simp[zdy,VT.cs,IT.cs,aa,g1,g2];exact hO _ _ hK
    ·by_cases g3:0<ks.length
     ·rw[au (by omega)]at hK;have g3':(0:Int)<ks.length:=by omega
      simp[zdy,VT.cs,IT.cs,aa,g1,g2,g3,g3'];exact hO _ _ hK
     ·rw[az (by omega)]at hK;have g3':¬ (0:Int)<ks.length:=by omega
      simp[zdy,VT.cs,IT.cs,aa,g1,g2,g3,g3'];exact hO _ _ hK
  have nT:(tk == 7)=false:=by simp[h7]
  rw[au h7]at hK;by_cases h5:tk=5;case neg=>
   have lz:(tk == 5)=false:=by simp[h5]
   rw[au h5]at hK;by_cases g1:n=0
   ·subst g1;by_cases g2:0<ks.length
    ·have g2':(0:Int)<ks.length:=by omega
     rw[au (by omega)]at hK;simp[zdy,VT.cs,IT.cs,aa,jJ,nT,lz,g2,g2'];exact hO _ _ hK
    ·have g2':¬ (0:Int)<ks.length:=by omega
     rw[az (by omega)]at hK;simp[zdy,VT.cs,IT.cs,aa,jJ,nT,lz,g2,g2'];exact hO _ _ hK
   ·have g1':(n != 0)=true:=by simp[bne,g1]
    rw[au (by omega)]at hK;simp[zdy,VT.cs,IT.cs,aa,jJ,nT,lz,g1,g1'];exact hO _ _ hK
  subst h5;rw[az rfl]at hK;by_cases hn:n=0;case neg=>
   have:(n != 0)=true:=by simp[bne,hn]
   rw[au (by omega)]at hK;simp[zdy,VT.cs,IT.cs,aa,this];exact hO _ _ hK
  subst hn;by_cases hl6:ks.length>6
  ·rw[au (by omega)]at hK;have:(6:Int)<ks.length:=by omega
   simp[zdy,VT.cs,IT.cs,aa,this];exact hO _ _ hK
  have hl6':¬(6:Int)<ks.length:=by omega
  rw[az (by omega)]at hK;simp[zdy,VT.cs,IT.cs,aa,hl6'];have hT:(VT.mk 5 tn tks).nodes≤1000:=ht;have pf:(VT.mk 5 tn tks).cs=[.int .i64 5,.int .i64 tn,.sl (VT.css tks) .none]:=rfl;generalize hTg:VT.mk 5 tn tks=T at *;have gm:HSc (H++[.cells [.int .i64 5,.int .i64 tn,.sl (VT.css tks) .none],.cells [.int .i64 0,.sl (IT.css ks) .none]]):=hs.append (by simp[AB.sc,AV.scA,AV.scB]);have hF:∀ r,r=rdE d7 ks T 0→∀ J,Out H.length K (.int .i64 r) (H++J):=λr h J=>hO _ _ (by rw[h];exact hK);refine zXI (Inv:=λq t7 t58 H'=>∃ (i:Nat) (a:Int),i≤ks.length∧q=ks.length-i∧t58=.int .i64 i∧t7=.int .i64 a∧0≤a∧a≤6∧rdE d7 (ks.drop i) T a=rdE d7 ks T 0 ∧
   H'=H++[.cells [.int .i64 5,.int .i64 tn,.sl (VT.css tks) .none],.cells [.int .i64 0,.sl (IT.css ks) .none]]) ks.length ?_ ?_
  ·intro _;exact⟨0,0,by omega,by omega,rfl,rfl,by omega,by omega,by simp,rfl⟩
  ·rintro q t7 t58 H' ⟨i,a,hi,rfl,rfl,rfl,m5,pK,ho,rfl⟩ eE ek eK Kb eq;by_cases ei:i<ks.length
   ·rw[ag ei]at ho;have fI:=IT.kid_lt (n:=0) ei;obtain⟨c,es,hx⟩:∃ c es,ks[i]=IT.mk c es:=by cases h:ks[i] with | mk a b=>exact⟨a,b,rfl⟩
    rw[hx]at ho fI;have hesl:=IT.len_le es;have hen:IT.nodesL es+1≤900:=by
     have:(IT.mk c es).nodes=IT.nodesL es+1:=by simp[IT.nodes]
     have:(IT.mk 0 ks).nodes=IT.nodesL ks+1:=by simp[IT.nodes]
     omega
    have eX:∀v∈es,zjq d7 v:=λv mJ=>by obtain⟨j,hj,rfl⟩:=be mJ;have:=IT.kid_lt (n:=c) hj;exact ih _ (by omega) (by omega)
    simp only[rdE]at ho;by_cases c1:c<0
    ·rw[az (.inl c1)]at ho;simp[zjj,ei,hx,IT.cs,aa,c1];exact hF _ ho _
    by_cases c2:8≤c
    ·rw[az (.inr c2)]at ho;simp[zjj,ei,hx,IT.cs,aa,c1,c2];exact hF _ ho _
    rw[au (by omega)]at ho;simp[zjj,ei,hx,IT.cs,aa,c1,c2];rw[←pf];refine zB0 d7 hk T hT c _ _ ?_;cases hp:zbi d7 T c with
    |none=>rw[hp]at ho;simp only at ho;simp[zcO];exact hF _ ho _
    |some ps=>
     rw[hp]at ho;simp only at ho;simp[zcO];have qJ:∀t∈ps,t.nodes≤1000:=zz6 hp;refine zCf h8 es (by omega) eX ps qJ _ _ ?_;have htb:=zLO h8 es ps;have gv:(if zc7 d7 es ps<0∨a+1+zc7 d7 es ps>6 then -1 else rdE d7 (ks.drop (i+1)) T (a+(1+zc7 d7 es ps)))=rdE d7 ks T 0:=by
      rw[←ho];unfold zc7;by_cases hl:ps.length=es.length
      ·simp only[hl,a6]
      ·simp only[hl,aN];rfl
     generalize zc7 d7 es ps=w at *;by_cases w0:w<0
     ·rw[az (.inl w0)]at gv;simp[w0];exact hF _ gv _
     ·have q1:IntKind.i64.wrap (a+1)=a+1:=zay (by omega) (by omega);have q2:IntKind.i64.wrap (a+1+w)=a+1+w:=zay (by omega) (by omega);have q3:IntKind.i64.wrap (1+w)=1+w:=zay (by omega) (by omega);have q4:IntKind.i64.wrap (a+(1+w))=a+(1+w):=zay (by omega) (by omega);by_cases hh:a+1+w>6
      ·rw[az (.inr hh)]at gv;simp[w0,q1,q2,hh];exact hF _ gv _
      ·rw[au (by omega)]at gv;simp[w0,q1,q2,hh,q3,q4];rw[zay (by omega) (by omega)];refine eq _ _ ⟨ks.length-(i+1),by omega,Back.at (J:=[.cells [.int .i64 c,.sl (IT.css es) .none]]) (H2:=H++[.cells [.int .i64 5,.int .i64 tn,.sl (VT.css tks) .none],.cells [.int .i64 0,.sl (IT.css ks) .none]]) (by simp[pf]) (by simp) gm ?_ ⟨_,_,rfl,i+1,_,by omega,rfl,by simp,rfl,by omega,by omega,gv,rfl⟩⟩;simp[zoY,AV.sc,AV.scV,AV.scA,AV.scB]
   ·obtain rfl:i=ks.length:=by omega
    rw[aI]at ho;simp only[rdE]at ho;simp[zjj];exact hF _ ho _
section
variable {d7:List Dat} (hD:DOk d7)
def zpU(d7:List Dat)(v:VT):Prop:=∀(t:VT),za0 d7 0 t=true→∀(H:zaa) (K:AV→zaa→Prop),K (.bool (za2 d7 v t)) H→ACalls tP zkF [.sl (d7.map Dat.cs) .none,.agg v.cs,.agg t.cs] H K
theorem zIr{f:VT→VT→Bool}{x y:List VT}{i:Nat}(h:i<x.length)(h':i<y.length):zc0 f (x.drop i) (y.drop i)=(f x[i] y[i] && zc0 f (x.drop (i+1)) (y.drop (i+1))):=by rw[ag h,ag h',zc0]
theorem zGU(vs ts:List VT)(hl:vs.length≤1000000)(hv:∀ v∈vs,zpU d7 v)(ht:∀ t∈ts,za0 d7 0 t=true)(H:zaa)(K:AV→zaa→Prop)(hK:K (.bool (zcP d7 vs ts)) H):
  ACalls tP zkS [.sl (d7.map Dat.cs) .none,.sl (VT.css vs) .none,.sl (VT.css ts) .none] H K:=by
 refine ACalls.out (yaH λhs=>?_);rw[zqF]at hK;have hO:∀b,zc0 (za2 d7) vs ts=b→Out H.length K (.bool b) H:=λb h=>by have:=Out.bool (J:=[]) rfl (ac _) hs (h ▸ hK);simpa using this
 by_cases ek:vs.length=ts.length;case neg=>
  have gF:((vs.length:Int) != ts.length)=true:=by simp;omega
  simp[zxd,gF];exact hO _ (zqz ek)
 simp[zxd,ek];refine yaF (Inv:=λq t H'=>∃i:Nat,i≤vs.length∧q=vs.length-i∧t=.int .i64 i∧zc0 (za2 d7) (vs.drop i) (ts.drop i)=zc0 (za2 d7) vs ts∧H=H') vs.length ?_ ?_
 ·intro _;exact⟨0,by omega,by omega,rfl,by simp,rfl⟩
 rintro q t H' ⟨i,hi,rfl,rfl,ho,rfl⟩ hsc eP eK Kb eq;by_cases ei:i<vs.length
 ·have eC:i<ts.length:=by omega
  have eW:(i:Int)<ts.length:=by omega
  rw[zIr ei eC]at ho;obtain⟨x,y,z,ew,hx,hy,hz⟩:=zbk vs[i];obtain⟨x2,y2,z2,eF,fc,jm,pg⟩:=zbk ts[i];simp[zxe,ei,eC,eW,ew,eF];rw[←ew,←eF];refine zaD (.bool (za2 d7 vs[i] ts[i])) (λJ=>hv _ (af ei) _ (ht _ (af eC)) _ _ ⟨rfl,rfl⟩) ?_;cases hb:za2 d7 vs[i] ts[i] with
  |false=>rw[hb,aY]at ho;simp;exact hO _ ho.symm
  |true=>rw[hb,bk]at ho;simp;rw[zay (by omega) (by omega)];refine eq _ _ ⟨vs.length-(i+1),by omega,Back.here (ac _) hs ?_ ⟨_,rfl,i+1,by omega,rfl,by simp,ho,rfl⟩⟩;simp[zpN,AV.sc,AV.scV,AV.scA,AV.scB]
 ·obtain rfl:i=vs.length:=by omega
  rw[aI,ek,aI,zc0]at ho;simp[zxe,ek];exact hO _ ho.symm
theorem zIG{d7:List Dat}{vks ks:List VT}(h1:vks.length=1)(h2:ks.length=1):zcP d7 vks ks=zdV d7 vks (ks[0]'(by omega)):=by
 match vks,ks,h1,h2 with
 |[v],[k],_,_=>simp[zcP,zdV]
include hD in
theorem yeV:∀(m:Nat) (v:VT),v.nodes≤m→v.nodes≤1000000→zpU d7 v:=by
 intro m;induction m with
 |zero=>intro v h;have:=v.nodes_pos;omega
 |succ m ih=>
  intro v hm hb t ht H K hK;obtain⟨vk,vn,vks⟩:=v;obtain⟨k,n,ks⟩:=t;refine ACalls.out (zW8 λhs=>?_);have hO:∀b J,za2 d7 (.mk vk vn vks) (.mk k n ks)=b→Out H.length K (.bool b) (H++J):=λb J h=>Out.bool rfl (ac _) hs (h ▸ hK);have fh:=VT.len_le vks;have iK:(VT.mk vk vn vks).nodes=VT.nodesL vks+1:=by simp[VT.nodes]
  have gX:∀x∈vks,zpU d7 x:=λx hx=>ih x (by have:=zjU (k:=vk) (n:=vn) x hx;omega) (by have:=zhX (k:=vk) (n:=vn) x hx;omega);have ff:=zsO ht;have hto:zbb d7 0 (.mk k n ks)=true:=by rw[za0,aj]at ht;exact ht.2
  have iY:(VT.mk k n ks).nodes≤200:=by rw[za0,aj]at ht;exact ce ht.1
  obtain⟨f1,f2,f3⟩:=zfM hD.k;have loop:∀ (hk:ks.length=1) ,za2 d7 (.mk vk vn vks) (.mk k n ks)=zdV d7 vks (ks[0]'(by omega)) →
    zwf (.sl (d7.map Dat.cs) .none) (.ptr H.length 0) (.ptr (H.length+1) 0) (.int .i64 vks.length) (.int .i64 0) (H++[.cells [.int .i64 vk,.int .i64 vn,.sl (VT.css vks) .none],.cells [.int .i64 k,.int .i64 n,.sl (VT.css ks) .none]]) (Out H.length K):=by
   intro hk e;have gG:0<ks.length:=by omega
   refine zW6 (Inv:=λq t10 H'=>∃i:Nat,i≤vks.length∧q=vks.length-i∧t10=.int .i64 i∧zdV d7 (vks.drop i) ks[0]=zdV d7 vks ks[0]∧H'=H++[.cells [.int .i64 vk,.int .i64 vn,.sl (VT.css vks) .none],.cells [.int .i64 k,.int .i64 n,.sl (VT.css ks) .none]]) vks.length ?_ ?_
   ·intro _;exact⟨0,by omega,by omega,rfl,by simp,rfl⟩
   rintro q t10 H' ⟨i,hi,rfl,rfl,ho,rfl⟩ hsc eP eK Kb eq;by_cases ei:i<vks.length
   ·rw[zIF ei]at ho;obtain⟨x,y,z,ew,hx,hy,hz⟩:=zbk vks[i];obtain⟨x2,y2,z2,eF,fc,jm,pg⟩:=zbk ks[0];simp[zwd,ei,ew,gG,eF];rw[←ew,←eF];refine zaD (.bool (za2 d7 vks[i] ks[0])) (λJ=>gX _ (af ei) ks[0] (ff _ (af gG)) _ _ ⟨rfl,rfl⟩) ?_;cases fD:za2 d7 vks[i] ks[0] with
    |false=>rw[fD,aY]at ho;simp;exact hO _ _ (e.trans ho.symm)
    |true=>rw[fD,bk]at ho;simp;rw[zay (by omega) (by omega)];refine eq _ _ ⟨vks.length-(i+1),by omega,Back.here (by simp) hsc ?_ ⟨_,rfl,i+1,by omega,rfl,by simp,ho,rfl⟩⟩;simp[zoP,AV.sc,AV.scV,AV.scA,AV.scB]
   ·obtain rfl:i=vks.length:=by omega
    rw[aI,zdV]at ho;simp[zwd];exact hO _ _ (e.trans ho.symm)
  rcases zLT hto with ⟨rfl,rfl⟩|⟨rfl,rfl⟩|⟨rfl,rfl⟩|rfl|⟨rfl,hk⟩|⟨rfl,hk⟩|⟨rfl,hk⟩|⟨rfl,hk⟩
  ·simp[zeZ,VT.cs,aa];cases h1:(vk == 3) <;> simp
   ·exact hO _ _ (by simp[za2,h1])
   by_cases h2:-1099511627776≤vn <;> simp[h2]
   ·by_cases h3:vn≤1099511627776 <;> simp[h3]
    ·exact hO _ _ (by simp[za2,h1,h2,h3,i0])
    ·exact hO _ _ (by simp[za2,h1,h2,h3])
   ·exact hO _ _ (by simp[za2,h1,h2])
  ·simp[zeZ,VT.cs,aa];cases h1:(vk == 2) <;> simp
   ·exact hO _ _ (by simp[za2,h1])
   cases h2:(vn == 0) <;> simp
   ·cases h3:(vn == 1) <;> simp
    ·exact hO _ _ (by simp[za2,h1,h2,h3])
    ·exact hO _ _ (by simp[za2,h1,h2,h3,i0])
   ·exact hO _ _ (by simp[za2,h1,h2,i0])
  ·simp[zeZ,VT.cs,aa];cases h1:(vk == 1) <;> simp
   ·exact hO _ _ (by simp[za2,h1])
   cases h2:(vn == 0) <;> simp
   ·exact hO _ _ (by simp[za2,h1,h2])
   ·exact hO _ _ (by simp[za2,h1,h2,i0])
  ·-- a d7 type
   simp[zeZ,VT.cs,aa];cases h1:(vk == 5) with
   |false=>
    have:(vk != 5)=true:=by simp[bne,h1]
    simp[this];exact hO _ _ (by simp[za2,h1])
   |true=>
   have gz:(vk != 5)=false:=by simp[bne,h1]
   by_cases h2:vn<0
   ·simp[gz,h2];exact hO _ _ (by simp[za2,h1];omega)
   by_cases h3:8≤vn
   ·simp[gz,h2,h3];exact hO _ _ (by simp[za2,h1];omega)
   simp[gz,h2,h3,aa];have e:∀o,zbt d7 (.mk 5 n ks) vn=o→za2 d7 (.mk vk vn vks) (.mk 5 n ks)=zfL d7 vks o:=λo ho=>by
    have q1:0≤vn:=by omega
    have q2:vn<8:=by omega
    simp[za2,h1,q1,q2,ho]
   have eN:(VT.mk 5 n ks).cs=[.int .i64 5,.int .i64 n,.sl (VT.css ks) .none]:=rfl;rw[←eN];refine zxi d7 f1 f2 f3 (.mk 5 n ks) (by omega) vn _ _ ?_;cases hf:zbt d7 (.mk 5 n ks) vn with
   |none=>simp[zcO];exact hO _ _ (by rw[e _ hf,zIH])
   |some l=>simp[zcO,eN];refine zGU vks l (by omega) gX (zqA hD.ok hto hf) _ _ ?_;exact hO _ _ (by rw[e _ hf,zII])
  ·simp[zeZ,VT.cs,aa];cases h1:(vk == 4) <;> simp
   ·exact hO _ _ (by simp[za2,h1])
   cases h2:(vn == 0) <;> simp
   ·exact hO _ _ (by simp[za2,h1,h2])
   refine zGU vks ks (by omega) gX ff _ _ ?_;exact hO _ _ (by simp[za2,h1,h2])
  ·-- an array
   simp[zeZ,zji,VT.cs,aa];have gG:0<ks.length:=by omega
   cases h1:(vk == 6) with
   |false=>
    have:(vk != 6)=true:=by simp[bne,h1]
    simp[this];exact hO _ _ (by simp[za2,h1])
   |true=>
   have gz:(vk != 6)=false:=by simp[bne,h1]
   by_cases h3:vks.length≤4096;case neg=>
    have mK:(4096:Int)<vks.length:=by omega
    simp[gz,mK];exact hO _ _ (by simp[za2,h1,h3])
   have mK:¬(4096:Int)<vks.length:=by omega
   cases h2:(vn == 0) with
   |false=>
    have:(vn != 0)=true:=by simp[bne,h2]
    simp[gz,mK,this];exact hO _ _ (by simp[za2,h1,h2])
   |true=>
   have oM:(vn != 0)=false:=by simp[bne,h2]
   simp[gz,mK,oM];exact loop hk (by have:=zIB gG;simp[za2,h1,h2,h3,this,gG])
  ·simp[zeZ,zji,VT.cs,aa];have gG:0<ks.length:=by omega
   cases h1:(vk == 7) with
   |false=>
    have:(vk != 7)=true:=by simp[bne,h1]
    simp[this];exact hO _ _ (by simp[za2,h1])
   |true=>
   have gz:(vk != 7)=false:=by simp[bne,h1]
   by_cases h3:vks.length=1;case neg=>
    have mK:((vks.length:Int) != 1)=true:=by simp;omega
    simp[gz,mK];refine hO _ _ ?_;have:zcP d7 vks ks=false:=by rw[zqF];exact zqz (by omega)
    simp[za2,h1,this]
   have mK:((vks.length:Int) != 1)=false:=by simp;omega
   cases h2:(vn == 0) with
   |false=>
    have:(vn != 0)=true:=by simp[bne,h2]
    simp[gz,mK,this];exact hO _ _ (by simp[za2,h1,h2])
   |true=>
   have oM:(vn != 0)=false:=by simp[bne,h2]
   simp[gz,mK,oM];exact loop hk (by rw[←zIG h3 hk];simp[za2,h1,h2])
  ·simp[zeZ,zji,VT.cs,aa];cases h1:(vk == 8) <;> simp
   ·exact hO _ _ (by simp[za2,h1])
   by_cases h2:0≤vn <;> simp[h2]
   ·by_cases h3:vn<64 <;> simp[h3]
    ·exact hO _ _ (by simp[za2,h1,h2,h3,i0])
    ·exact hO _ _ (by simp[za2,h1,h2,h3])
   ·exact hO _ _ (by simp[za2,h1,h2])
end
theorem zIV{d7:List Dat}(h:zbx d7):zhu d7:=λD hD=>by obtain⟨_,h2⟩:=h;obtain⟨_,h3,h4⟩:=h2 D hD;refine⟨by omega,λc hc=>?_⟩;obtain⟨_,h5,h6⟩:=h4 c hc;exact⟨by omega,λx hx=>by have:=h6 x hx;omega⟩
theorem zyw{d7:List Dat}:∀ {l:List Dat} {d:Nat},zdc d7 l d=true→∀ D∈l,D.cons.length≤8
 |[],_,_,D,h=>by cases h
 |E::l,d,h,D,hD=>by
  simp only[zdc,aj]at h;rcases aP.1 hD with rfl|hD
  ·have:=h.1;simp only[zcY,aj,aS]at this;exact this.1.2
  ·exact zyw h.2 D hD
theorem zeG{d7:List Dat}{t:VT}(h:zb3 d7 t=true):∀D∈d7,D.cons.length≤8:=by simp only[zb3,zbz,aj]at h;exact zyw h.1.1.1.2
def za6(d7:List Dat)(t:VT)(v:IT):Int:=if zb3 d7 t then rdV d7 v t else -1
theorem zF5(d7:List Dat)(hk:zbx d7)(t:VT)(ht:t.nodes≤1000000)(H:zaa)(K:Kt)(hK:K (.bool (zb3 d7 t)) H):ACalls tP zkH [.sl (d7.map Dat.cs) .none,.agg t.cs] H K:=by
 refine ACalls.out (zYu λhs=>?_);obtain⟨x,y,z,ew,hx,hy,hz⟩:=zbk t;simp[zF4,zaq,zaJ,ew,aa];refine zNL d7 (zIV hk) (by have:=hk.1;omega) ?_;unfold zb3 at hK;cases hd:zbz d7 with
 |false=>rw[hd]at hK;simp;exact Out.bool rfl (ac _) hs hK
 |true=>rw[hd,bk]at hK;simp;rw[←ew];refine zCs d7 0 t (by omega) _ _ ?_;exact Out.bool rfl (ac _) hs hK
theorem zXg(d7:List Dat)(hk:zbx d7)(t:VT)(ht:t.nodes≤1000000)(H:zaa)(K:Kt)(hK:K (.bool (zb3 d7 t)) H):ACalls tP zrT [.sl (d7.map Dat.cs) .none,.agg t.cs] H K:=by
 refine ACalls.out (zXf λhs=>?_);obtain⟨x,y,z,ew,hx,hy,hz⟩:=zbk t;simp[zFD,ew,aa];refine zW0 d7 hk _ _ λb hb=>?_;have pe:b=zbz d7:=by rw[ct,hb,zIg]
 subst pe;unfold zb3 at hK;cases hd:zbz d7 with
 |false=>rw[hd]at hK;simp;exact Out.bool rfl (ac _) hs hK
 |true=>rw[hd,bk]at hK;simp;rw[←ew];refine zFC d7 (by have:=hk.1;omega) 0 t (by omega) _ _ ?_;exact Out.bool rfl (ac _) hs hK
theorem zjb(d7:List Dat)(hk:zbx d7)(t:VT)(ht:t.nodes≤1000)(v:IT)(hv:v.nodes≤900)(H:zaa)(K:Kt)(hK:K (.int .i64 (za6 d7 t v)) H):ACalls tP zgS [.sl (d7.map Dat.cs) .none,.agg t.cs,.agg v.cs] H K:=by
 refine ACalls.out (zV1 λhs=>?_);have hO:∀r J,za6 d7 t v=r→Out H.length K (.int .i64 r) (H++J):=λr J h=>by subst h;exact Out.int rfl (ac _) hs hK
 obtain⟨x,y,z,ew,hx,hy,hz⟩:=zbk t;obtain⟨x2,y2,eF,fc,jm⟩:=it2 v;simp[zFi,ew,eF,aa];rw[←ew];refine zF5 d7 hk t (by omega) _ _ ?_;cases hf:zb3 d7 t with
 |false=>simp;exact hO _ _ (by simp[za6,hf])
 |true=>
  have h8:=zeG hf;obtain⟨g1,g2⟩:=zhA h8 v t;simp[aa];rw[←eF];refine zYB hk h8 _ v (ac _) hv t ht _ _ ?_;cases hb:(zcz d7 v t).2 with
  |false=>simp;exact hO _ _ (by simp[za6,hf,g2 hb])
  |true=>simp;exact hO _ _ (by simp[za6,hf,(g1 hb).1])
theorem zEu(d7:List Dat)(hk:zbx d7)(t:VT)(ht:t.nodes≤1000)(v:IT)(hv:v.nodes≤900)(H:zaa)(K:Kt)(hK:K (.int .i64 (za6 d7 t v)) H):ACalls tP zrD [.sl (d7.map Dat.cs) .none,.agg t.cs,.agg v.cs] H K:=by
 refine ACalls.out (zTX λhs=>?_);have hO:∀r J,za6 d7 t v=r→Out H.length K (.int .i64 r) (H++J):=λr J h=>by subst h;exact Out.int rfl (ac _) hs hK
 obtain⟨x,y,z,ew,hx,hy,hz⟩:=zbk t;obtain⟨x2,y2,eF,fc,jm⟩:=it2 v;simp[zEs,ew,eF,aa];rw[←ew];refine zXg d7 hk t (by omega) _ _ ?_;cases hf:zb3 d7 t with
 |false=>simp;exact hO _ _ (by simp[za6,hf])
 |true=>have h8:=zeG hf;simp[aa];rw[←eF];refine zFQ hk h8 _ v (ac _) hv t ht _ _ ?_;exact hO _ _ (by simp[za6,hf])
theorem zXP(d7:List Dat)(hk:zbx d7)(t:VT)(ht:t.nodes≤1000)(H:zaa)(K:Kt)(hK:zb3 d7 t=true→K (.tup [.agg (zaP t).cs,.bool true]) H)(hf:zb3 d7 t=true):
  ACalls tP zrV [.sl (d7.map Dat.cs) .none,.agg t.cs] H K:=by
 refine ACalls.out (zXO λhs=>?_);obtain⟨x,y,z,ew,hx,hy,hz⟩:=zbk t;simp[zFR,ew,hx,hy,hz];rw[←ew];refine zF5 d7 hk t (by omega) _ _ ?_;simp[hf,ew,hx,hy,hz];rw[←ew];refine zNk _ t (ac _) (by omega) _ _ ?_;obtain⟨p,q,hzz,hp,hq⟩:=zci (zaP t);have hK:=hK hf;rw[hzz]at hK ⊢;simp[hp,hq];refine⟨⟨rfl,rfl⟩,?_⟩;exact Out.tup (bs:=[.agg [p,q],.bool true]) hs hK ⟨zaV rfl (by have:=(zaP t).cs_scA H.length;rw[hzz]at this;simpa[AV.scV]using this),zaV rfl rfl,trivial⟩
theorem zfU{H:zaa}{K:AV→zaa→Prop}{r:AV}(hsc:HSc H)(hv:r.isV=true)(hr:r.scV H.length=true)(h:K r H):Out H.length K r H:=by have:=Out.same (J:=[]) rfl hsc hv hr h;simpa using this
theorem zzD(a:Int)(H:zaa)(K:AV→zaa→Prop)(hK:K (.bool false) H):ACalls tP zkj [.int .i64 a] H K:=by refine ACalls.out (zSf λhs=>?_);simp[zDZ];exact zfU hs rfl rfl hK
theorem zyn(a b:Int)(H:zaa)(K:AV→zaa→Prop)(hK:K (.int .i64 (icmp a b)) H):ACalls tP zka [.int .i64 a,.int .i64 b] H K:=by
 refine ACalls.out (zOZ λhs=>?_);unfold zCO;refine zzD _ _ _ (zzD _ _ _ ?_);have hO:=zfU (K:=K) (H:=H) (r:=.int .i64 (icmp a b)) hs rfl rfl hK;by_cases h1:a<b
 ·simp[h1];simpa[icmp,h1]using hO
 ·by_cases h2:b<a
  ·simp[h1,h2];simpa[icmp,h1,h2]using hO
  ·simp[h1,h2];simpa[icmp,h1,h2]using hO
def orL:List Int→Int
 |[]=>0
 |a::l=>cor a (orL l)
theorem zJD(l:List Int)(tok:Tok)(hl:l.length≤1000000)(H:zaa)(K:AV→zaa→Prop)(hK:K (.int .i64 (orL l)) H):ACalls tP zrj [.sl (l.map λx=>[.int .i64 x]) tok] H K:=by
 refine ACalls.out (zOV λhs=>?_);simp[zCM];refine zOT (Inv:=λq t8 H'=>∃i:Nat,i≤l.length∧q=l.length-i∧t8=.int .i64 i∧orL (l.drop i)=orL l∧H'=H) l.length ?_ ?_
 ·intro _;exact⟨0,by omega,by omega,rfl,by simp,rfl⟩
 ·rintro q t8 H' ⟨i,hi,rfl,rfl,ho,rfl⟩ hsc ek eK Kb eq;by_cases ei:i<l.length
  ·rw[ag ei,orL]at ho;by_cases hz:l[i]=0
   ·rw[zqq hz]at ho;simp[zmu,ei,hz];rw[zay (by omega) (by omega)];refine eq _ _ ⟨l.length-(i+1),by omega,Back.here (ac _) hs ?_ ⟨_,rfl,i+1,by omega,rfl,by simp,ho,rfl⟩⟩;simpa[zmv,AV.sc,AV.scV,AV.scA,AV.scB]using eK
   ·rw[zjN hz]at ho;have hz:(l[i] != 0)=true:=by simpa using hz
    simp[zmu,ei,hz];rw[←ho]at hK;exact zfU hs rfl rfl hK
  ·simp[zmu,ei];obtain rfl:i=l.length:=by omega
   rw[aI]at ho;rw[←ho]at hK;exact zfU hs rfl rfl hK
theorem zH3(ks ks':List IT)(he:ks.length=ks'.length)(hb:ks.length≤1000000)(hc:∀(i:Nat) (h:i<ks.length) (h':i<ks'.length) (H:zaa) (K:AV→zaa→Prop),K (.int .i64 (IT.cmp ks[i] ks'[i])) H→ACalls tP zgU [.agg ks[i].cs,.agg ks'[i].cs] H K)(H:zaa)(K:AV→zaa→Prop)(hK:K (.int .i64 (IT.cmpL ks ks')) H):ACalls tP zrk [.sl (IT.css ks) .none,.sl (IT.css ks') .none,.fn zgU []] H K:=by
 refine ACalls.out (zO4 λhs=>?_);simp[zCP];refine zO2 (Inv:=λq t13 H'=>∃i:Nat,i≤ks.length∧q=ks.length-i∧t13=.int .i64 i∧IT.cmpL (ks.drop i) (ks'.drop i)=IT.cmpL ks ks'∧H'=H) ks.length ?_ ?_
 ·intro _;exact⟨0,by omega,by omega,rfl,by simp,rfl⟩
 ·rintro q t8 H' ⟨i,hi,rfl,rfl,ho,rfl⟩ hsc ek eK Kb eq;by_cases ei:i<ks.length
  ·have eC:i<ks'.length:=by omega
   have eP:¬ks'.length≤i:=by omega
   rw[IT.cmpL_drop ei eC]at ho;simp[ztK,ei,eC,eP];refine hc i ei eC _ _ ?_;by_cases hz:IT.cmp ks[i] ks'[i]=0
   ·rw[zqq hz]at ho;simp[hz];rw[zay (by omega) (by omega)];refine eq _ _ ⟨ks.length-(i+1),by omega,Back.same (ac _) hs ?_ ⟨_,rfl,i+1,by omega,rfl,by simp,ho,rfl⟩⟩;simp[zmx,AV.sc,AV.scV,AV.scA,AV.scB]
   ·rw[zjN hz]at ho;have hz:(IT.cmp ks[i] ks'[i] != 0)=true:=by simpa using hz
    simp[hz];rw[←ho]at hK;exact Out.same rfl hs rfl rfl hK
  ·have gd:¬ ks.length<ks'.length:=by omega
   simp[ztK,ei,gd];obtain rfl:i=ks.length:=by omega
   rw[aI,he,aI]at ho;rw[←ho]at hK;exact zfU hs rfl rfl hK
theorem zIM:∀(m:Nat) (v w:IT),v.nodes≤m→v.nodes≤1000000→∀(H:zaa) (K:AV→zaa→Prop),K (.int .i64 (IT.cmp v w)) H→ACalls tP zgU [.agg v.cs,.agg w.cs] H K:=by
 intro m;induction m with
 |zero=>intro v w h;have:=v.nodes_pos;omega
 |succ m ih=>
  intro v w hv hb H K hK;obtain⟨n,ks⟩:=v;obtain⟨n',ks'⟩:=w;have gd:IT.nodesL ks+1≤1000000:=by simpa[IT.nodes]using hb
  have fh:=IT.len_le ks;refine ACalls.out (zZo λhs=>?_);simp[IT.cs,zGo];refine zaD _ (λJ=>zyn _ _ _ _ ⟨rfl,rfl⟩) ?_;refine zaD _ (λJ=>zyn _ _ _ _ ⟨rfl,rfl⟩) ?_;simp[zaw,zaR,plain,List.replicate];refine zaD _ (λJ=>zJD [icmp n n',icmp ks.length ks'.length] _ (by simp) _ _ ⟨rfl,rfl⟩) ?_;by_cases hz:orL [icmp n n',icmp ks.length ks'.length]=0
  ·have mH:=hz;simp only[orL,zhI]at hz;have ek:ks.length=ks'.length:=by have:=(zjS _ _).mp hz.2.1;omega
   simp[mH];refine zH3 ks ks' ek (by omega) (λi h h' H K hK=>?_) _ _ ?_
   ·have:=IT.kid_lt (n:=n) h;exact ih _ _ (by omega) (by omega) H K hK
   ·refine Out.same rfl hs rfl rfl ?_;simpa[IT.cmp,hz,cor]using hK
  ·have oU:(orL [icmp n n',icmp ks.length ks'.length] != 0)=true:=by simpa using hz
   simp[oU];refine Out.same rfl hs rfl rfl ?_;have e:IT.cmp (.mk n ks) (.mk n' ks')=orL [icmp n n',icmp ks.length ks'.length]:=by simp only[IT.cmp,orL,cor]at hz ⊢;split <;> (try split) <;> (try split) <;> simp_all
   rwa [e]at hK
theorem zzY(b:Bool)(H:zaa)(K:AV→zaa→Prop)(hK:K (.int .i64 (if b then -1 else 1)) H):ACalls tP zkd [.bool b] H K:=by refine ACalls.out (zP6 λhs=>?_);have hO:=zfU (K:=K) (H:=H) (r:=.int .i64 (if b then -1 else 1)) hs rfl rfl hK;cases b <;> simp[zC1] <;> simpa using hO
theorem zHA(ks ks':List IT)(hb:ks.length≤1000000)(hc:∀(i:Nat) (h:i<ks.length) (h':i<ks'.length) (H:zaa) (K:AV→zaa→Prop),K (.int .i64 (IT.cmp ks[i] ks'[i])) H→ACalls tP zgL [.agg ks[i].cs,.agg ks'[i].cs] H K)(H:zaa)(K:AV→zaa→Prop)(hK:K (.int .i64 (cor (icmp ks.length ks'.length) (IT.cmpL ks ks'))) H):ACalls tP zrp [.sl (IT.css ks) .none,.sl (IT.css ks') .none] H K:=by
 refine ACalls.out (zQb λhs=>?_);have fin:=zfU (K:=K) (H:=H) (r:=.int .i64 (cor (icmp ks.length ks'.length) (IT.cmpL ks ks'))) hs rfl rfl hK;by_cases he:ks.length=ks'.length
 ·have e:cor (icmp ks.length ks'.length) (IT.cmpL ks ks')=IT.cmpL ks ks':=by simp[he,zyZ,cor]
  rw[e]at fin;simp[zt5,he];refine zP9 (Inv:=λq t13 H'=>∃i:Nat,i≤ks.length∧q=ks.length-i∧t13=.int .i64 i∧IT.cmpL (ks.drop i) (ks'.drop i)=IT.cmpL ks ks'∧H'=H) ks.length ?_ ?_
  ·intro _;exact⟨0,by omega,by omega,rfl,by simp,rfl⟩
  ·rintro q t8 H' ⟨i,hi,rfl,rfl,ho,rfl⟩ hsc ek eK Kb eq;by_cases ei:i<ks.length
   ·have eC:i<ks'.length:=by omega
    rw[IT.cmpL_drop ei eC]at ho;simp[zt6,ei,eC];refine zaD _ (λJ=>hc i ei eC _ _ ⟨rfl,rfl⟩) ?_;by_cases hz:IT.cmp ks[i] ks'[i]=0
    ·rw[zqq hz]at ho;simp[hz];rw[zay (by omega) (by omega)];refine eq _ _ ⟨ks.length-(i+1),by omega,Back.here (ac _) hs ?_ ⟨_,rfl,i+1,by omega,rfl,by simp,ho,rfl⟩⟩;simp[zmW,AV.sc,AV.scV,AV.scA,AV.scB]
    ·rw[zjN hz]at ho;have hz:(IT.cmp ks[i] ks'[i] != 0)=true:=by simpa using hz
     simp[hz];rw[ho];exact fin
   ·have eC:¬ i<ks'.length:=by omega
    simp[zt6,ei,eC];obtain rfl:i=ks.length:=by omega
    rw[aI,he,aI]at ho;simp only[IT.cmpL]at ho;rw[←ho]at fin;exact fin
 ·have hb:((ks.length:Int) != ks'.length)=true:=by simp;omega
  simp[zt5,hb];refine zzY _ _ _ ?_;have e:cor (icmp ks.length ks'.length) (IT.cmpL ks ks')=if decide (ks.length<ks'.length)=true then -1 else 1:=by rw[zyY (by omega),zjN (by split <;> omega)];simp
  rw[e]at fin;exact fin
theorem zAt:∀(m:Nat) (v w:IT),v.nodes≤m→v.nodes≤1000000→∀(H:zaa) (K:AV→zaa→Prop),K (.int .i64 (IT.cmp v w)) H→ACalls tP zgL [.agg v.cs,.agg w.cs] H K:=by
 intro m;induction m with
 |zero=>intro v w h;have:=v.nodes_pos;omega
 |succ m ih=>
  intro v w hv hb H K hK;obtain⟨n,ks⟩:=v;obtain⟨n',ks'⟩:=w;have gd:IT.nodesL ks+1≤1000000:=by simpa[IT.nodes]using hb
  have fh:=IT.len_le ks;refine ACalls.out (zNs λhs=>?_);have fin:∀J,Out H.length K (.int .i64 (IT.cmp (.mk n ks) (.mk n' ks'))) (H++J):=λJ=>Out.same rfl hs rfl rfl hK;by_cases h2:n=n'
  ·subst h2;simp[IT.cs,ztl];have e:IT.cmp (.mk n ks) (.mk n ks')=cor (icmp ks.length ks'.length) (IT.cmpL ks ks'):=by simp[IT.cmp,zyZ,cor]
   rw[e]at fin;refine zHA ks ks' (by omega) (λi h h' H K hK=>?_) _ _ (fin _);have:=IT.kid_lt (n:=n) h;exact ih _ _ (by omega) (by omega) H K hK
  ·have hb:(n != n')=true:=by simpa using h2
   simp[IT.cs,ztl,hb];refine zzY _ _ _ ?_;have e:IT.cmp (.mk n ks) (.mk n' ks')=if decide (n<n')=true then -1 else 1:=by simp only[IT.cmp,cor];rw[zyY h2];split <;> simp <;> omega
   rw[e]at fin;exact fin _
section
open Go.Proofs (sortWorld ltOf CmpLays1)
open Go.RowKit
open Go.Sort (grow putRow putCells mapBlock onCells ahead SWO PermIn SortedIn Holds)
variable {P:Program} {B:Nat} {w:World} {G:Gh} {H:zaa}
theorem zIE{W w':World}(hd:W.drawn≤w'.drawn)(hb:Below W.heap.size W w'):∃q os,w'=grow (W.drewN q) os:=by
 refine⟨w'.drawn-W.drawn,w'.heap.extract W.heap.size w'.heap.size,?_⟩;obtain⟨h1,h2,h3,h4,h5⟩:=hb;obtain⟨heap,tape,drawn,os,output⟩:=W;obtain⟨kg,tape',drawn',os',output'⟩:=w';simp only at *;subst h1 h2 h3;have e1:kg=heap++kg.extract heap.size kg.size:=by
  refine Array.ext_getElem? λi=>?_;by_cases hi:i<heap.size
  ·rw[Array.getElem?_append_left hi,h5 i hi]
  ·rw[Array.getElem?_append_right (by omega),Array.getElem?_extract];by_cases h:i<kg.size
   ·rw[az (by omega),show heap.size+(i-heap.size)=i by omega]
   ·rw[au (by omega),Array.getElem?_eq_none (by omega)]
 have e2:drawn'=drawn+(drawn'-drawn):=by omega
 simp only[grow,World.drewN];rw[←e1,←e2]
theorem HRel.alone(h:HRel B w G H)(o:Obj):Ext B w G (w.alloc o) G∧HRel B (w.alloc o) G H:=by have he:=Ext.alloc h o G.L (λ_ _=>rfl) [];simp only[aG]at he;refine⟨he,h.keep he rfl (λid gi b h1 h2=>⟨zcX (h.lt id gi b h1 h2),rfl⟩) (λb hb=>?_)⟩;rw[zcg]at hb;exact h.fresh b (by omega)
theorem HRel.grown:∀ (os:List Obj) {w:World},HRel B w G H→Ext B w G (grow w os.toArray) G∧HRel B (grow w os.toArray) G H
 |[],w,h=>by
  have:grow w #[]=w:=by simp[grow]
  rw[show ([]:List Obj).toArray=#[] from rfl,this];exact⟨Ext.refl _ _ _,h⟩
 |o::l,w,h=>by
  obtain⟨h1,h2⟩:=h.alone o;obtain⟨h3,h4⟩:=HRel.grown l h2;have:grow w (o::l).toArray=grow (w.alloc o) l.toArray:=by rw[Go.Sort.alloc_eq_grow,Go.Sort.grow_grow];simp
  rw[this];exact⟨h1.trans h3,h4⟩
theorem zJ0{α:Type}[Inhabited α](vals:α→Value)(d:Array α)(cur:Array Value)(h:d.size≤cur.size):(putCells vals 0 d cur).toList.take d.size=d.toList.map vals:=by refine bB (by simp[putCells];omega) λi h1 h2=>?_;simp at h2;simp[putCells,h2]
def Lx(w:World)(G:Gh)(blk b:Nat):Nat:=if b=blk then 0 else max (G.L b) (zcF w b)
def Rd(H:zaa)(id0:Nat)(a:AV)(row:List (List AV)):Prop:=
 a=.sl row .none ∨
 (∃id off len cap size cs,a=.ms id off len cap∧H[id]?=some (.cells cs)∧off+len*size≤cs.length∧plain ((cs.drop off).take (len*size))=some row.flatten∧row.length=len∧(∀c∈row,c.length=size)∧len≤cap) ∨
 (∃id e size m cs,a=.ov id m∧id≠id0∧H[id]?=some (.vec e size m cs)∧plain cs=some row.flatten∧row.length=m∧∀c∈row,c.length=size)
theorem Rd.rel(h:HRel B w G H){id e n g cap:Nat}{cs:List AV}(hH:H[id]?=some (.vec e 1 n cs))(hμ:G.μ[id]?=some (.own (.slice (some ⟨g,0,none⟩) n cap) 1 n)){a:AV}{row:List (List AV)}(hr:Rd H id a row){v:Value}(hv:ARel w G v a):
  DRel w (Lx w G g) v (.sl row .none):=by
 obtain⟨_,_,_,iR⟩:=h.ok id _ _ hH hμ;have ku:G.L g=0:=iR g rfl;have hlev:∀b,G.L b≤Lx w G g b:=λb=>by
  unfold Lx;split
  ·rename_i hb;rw[hb,ku];exact ac _
  ·exact Nat.le_max_left _ _
 have gb:∀{v:Value} {a:AV},DRel w G.L v a→DRel w (Lx w G g) v a:=λh=>h.mono hlev λ_ _ _=>rfl;rcases hr with rfl|⟨i2,off,len,cap2,size,cs2,rfl,gI,fd,hp,ek,eB,eM⟩|⟨i2,e2,size,m,cs2,rfl,ey,gI,hp,ek,eB⟩
 ·exact gb hv
 ·obtain⟨b,hb,rfl⟩:=hv;obtain⟨_,_,vs,_,hw,eN⟩:=h.ok i2 _ _ gI hb;have gZ:b≠g:=λgZ=>by have:=h.dist i2 id _ _ b hb hμ rfl (by rw[gZ];rfl);subst this;rw[hH]at gI;cases gI
  subst ek;by_cases eX:row=[]
  ·subst eX;exact .slE _ _
  ·have hl:=eN.length;refine DRel.of_flat_at (zs:=(vs.toList.drop off).take (row.length*size)) eB eX eM ?_ ((zdM ((eN.drop off).take _) hp).mono λ_ _=>gb) ?_
   ·unfold Lx;rw[au gZ];refine ap ?_ (dc _ _);simp[zcF,hw];simp at hl;omega
   ·intro j u hj;rw[List.getElem?_take]at hj;split at hj
    ·simp only[World.cell?,hw];simpa using hj
    ·cases hj
 ·obtain⟨⟨a,cap0,rfl,_⟩,v',s0,n',hμ2,_,heq⟩:=hv;obtain⟨rfl,rfl,⟨xs,er,eN⟩,_⟩:=h.ok i2 _ _ gI hμ2;obtain rfl:=heq rfl;subst ek;by_cases eX:row=[]
  ·subst eX;exact .slE _ _
  ·have ga:=er;obtain⟨hl,fk⟩:=ga;rcases fk with ⟨h1,h2⟩ | ⟨g2,cap2,cur,h1,h2,h3,h4,h5,h6,h7⟩
   ·cases row <;> simp_all
   ·simp at h1;obtain⟨rfl,rfl⟩:=h1;obtain⟨_,_,_,eG⟩:=zdL er;have gZ:g2≠g:=λgZ=>ey (h.dist i2 id _ _ g2 hμ2 hμ rfl (by rw[gZ];rfl));refine DRel.of_flat_at (zs:=xs) eB eX h4 ?_ ((zdM eN hp).mono λ_ _=>gb) ?_
    ·unfold Lx;rw[au gZ];refine ap ?_ (dc _ _);simp only[zcF,h3,h6,aC];exact ar _ h4
    ·intro j u hj;rw[aC,eG j (by rw[←hl];exact(List.getElem?_eq_some_iff.1 hj).1)];exact hj
theorem zyH{α:Type}(d:Array α){k:Nat}(h:d.size=k):d.extract 0 k=d:=by subst h;exact Array.extract_size
theorem zJr(n:Nat):((Array.ofFn λi:Fin n=>i).toList.map Fin.val)=List.range n:=
 bB (by simp) λi h1 h2=>by simp only[bX,Array.getElem_toList,Array.getElem_ofFn,cc]
theorem zKR{α:Type}[Inhabited α](vals:α→Value)(w:World)(g m:Nat)(d:Array α)(os:Array Obj):w.heap.size≤(sortWorld vals w g 0 m d os).heap.size:=by unfold sortWorld;simp[grow]
theorem zKQ{α:Type}[Inhabited α](vals:α→Value)(w:World)(g m:Nat)(d:Array α)(os:Array Obj)(a:Addr)(h1:a.block≠g)(h2:a.block<w.heap.size):(sortWorld vals w g 0 m d os).cell? a=w.cell? a:=by unfold sortWorld;rw[Go.Sort.cell?_grow _ _ _ (by rw[Go.Sort.size_putRow];exact h2),Go.Sort.cell?_putRow_other vals _ g 0 d a (Or.inl h1)];rfl
end
section
open Go.RowKit
variable {P:Program} {B:Nat} {w:World} {G:Gh} {H:zaa}
def Lmx(w:World)(G:Gh)(b:Nat):Nat:=Nat.max (G.L b) (zcF w b)
inductive RdA (H:zaa):AV→AV→Prop
 |sl (es:List (List AV)):RdA H (.sl es .none) (.sl es .none)
 |int (k:IntKind) (n:Int):RdA H (.int k n) (.int k n)
 |bool (b:Bool):RdA H (.bool b) (.bool b)
 |str (s:List UInt8):RdA H (.str s) (.str s)
 | ms (id off len cap size:Nat) (cs:List AV) (row:List (List AV)) (hH:H[id]?=some (.cells cs)) (fd:off+len*size≤cs.length) (hp:plain ((cs.drop off).take (len*size))=some row.flatten) (ek:row.length=len)
   (eB:∀c∈row,c.length=size) (eM:len≤cap):RdA H (.ms id off len cap) (.sl row .none)
 |ov (id e size m:Nat) (cs:List AV) (row:List (List AV)) (hH:H[id]?=some (.vec e size m cs)) (hp:plain cs=some row.flatten) (ek:row.length=m) (eB:∀c∈row,c.length=size):RdA H (.ov id m) (.sl row .none)
theorem RdA.rel(h:HRel B w G H){a b:AV}(hr:RdA H a b){v:Value}(hv:ARel w G v a):DRel w (Lmx w G) v b:=by
 have gb:∀{v:Value} {a:AV},DRel w G.L v a→DRel w (Lmx w G) v a:=λh=>h.mono (λb=>Nat.le_max_left _ _) λ_ _ _=>rfl;cases hr with
 |sl es=>exact gb hv
 |int k n=>have hv:v=.int k n:=hv;subst hv;exact .int k n
 |bool b=>have hv:v=.bool b:=hv;subst hv;exact .bool b
 |str s=>have hv:v=.string ⟨s.toArray⟩:=hv;subst hv;exact .str s
 |ms i2 off len cap2 size cs2 row gI fd hp ek eB eM=>
  obtain⟨b,hb,rfl⟩:=hv;obtain⟨_,_,vs,_,hw,eN⟩:=h.ok i2 _ _ gI hb;subst ek;by_cases eX:row=[]
  ·subst eX;exact .slE _ _
  ·have hl:=eN.length;refine DRel.of_flat_at (zs:=(vs.toList.drop off).take (row.length*size)) eB eX eM ?_ ((zdM ((eN.drop off).take _) hp).mono λ_ _=>gb) ?_
   ·refine ap ?_ (dc _ _);simp[zcF,hw];simp at hl;omega
   ·intro j u hj;rw[List.getElem?_take]at hj;split at hj
    ·simp only[World.cell?,hw];simpa using hj
    ·cases hj
 |ov i2 e2 size m cs2 row gI hp ek eB=>
  obtain⟨⟨a,cap0,rfl,_⟩,v',s0,n',hμ2,_,heq⟩:=hv;obtain⟨rfl,rfl,⟨xs,er,eN⟩,_⟩:=h.ok i2 _ _ gI hμ2;obtain rfl:=heq rfl;subst ek;by_cases eX:row=[]
  ·subst eX;exact .slE _ _
  ·have ga:=er;obtain⟨hl,fk⟩:=ga;rcases fk with ⟨h1,h2⟩ | ⟨g2,cap2,cur,h1,h2,h3,h4,h5,h6,h7⟩
   ·cases row <;> simp_all
   ·simp at h1;obtain⟨rfl,rfl⟩:=h1;obtain⟨_,_,_,eG⟩:=zdL er;refine DRel.of_flat_at (zs:=xs) eB eX h4 ?_ ((zdM eN hp).mono λ_ _=>gb) ?_
    ·refine ap ?_ (dc _ _);simp only[zcF,h3,h6,aC];exact ar _ h4
    ·intro j u hj;rw[aC,eG j (by rw[←hl];exact(List.getElem?_eq_some_iff.1 hj).1)];exact hj
theorem RdA.trel(h:HRel B w G H){a b:AV}(hr:RdA H a b){v:Value}(hv:ARel w G v a):ARel w ⟨Lmx w G,[]⟩ v b:=by
 have hd:=hr.rel h hv;cases hr with
 |sl es=>exact hd
 |int k n=>exact hv
 |bool b=>exact hv
 |str s=>exact hv
 |ms i2 off len cap2 size cs2 row gI fd hp ek eB eM=>exact hd
 |ov i2 e2 size m cs2 row gI hp ek eB=>exact hd
inductive RdT (H:zaa):AV→AV→Prop
 |one {a b:AV} (h:RdA H a b):RdT H a b
 |agg {asx bs:List AV} (h:All2 (RdA H) asx bs):RdT H (.agg asx) (.agg bs)
theorem RdT.rel(h:HRel B w G H){a b:AV}(hr:RdT H a b){v:Value}(hv:TRel w G v a):TRel w ⟨Lmx w G,[]⟩ v b:=by
 cases hr with
 |one hr=>
  have fR:ARel w G v a:=by cases hr <;> exact hv
  exact TRel.of_v (VRel.of_a (hr.trel h fR))
 |agg hr=>
  obtain⟨us,hu,hv⟩:=hv;refine⟨us,hu,?_⟩;exact All2.of_get (hv.length.trans hr.length) λi x y hx hy=>by obtain⟨a,ha,jV⟩:=All2.get' hv hx;obtain⟨y',iW,mC⟩:=All2.get' hr ha;rw[hy]at iW;cases iW;exact mC.trel h jV
end
def zaI:IT→List IT
 |.mk _ ks=>ks
mutual
theorem zlB:∀ t:VT,(zaP t).nodes≤t.nodes
 |.mk k n ks=>by
  have:=zBW ks;simp only[zaP,VT.nodes,IT.nodes];split
  ·omega
  ·simp[IT.nodesL]
theorem zBW:∀ ts:List VT,IT.nodesL (zbl ts)≤VT.nodesL ts
 |[]=>by simp[zbl,IT.nodesL,VT.nodesL]
 |t::ts=>by have:=zlB t;have:=zBW ts;simp only[zbl,IT.nodesL,VT.nodesL];omega
end
def d0:IT:=.mk 0 []
def tz:VT:=.mk 0 0 []
theorem ziF{d7:List Dat}(m n:Int)(kk:List IT)(ks:List VT):rdV d7 (.mk m kk) (.mk 5 n ks)=if m=0∧kk.length≤6 then rdE d7 kk (.mk 5 n ks) 0 else -1:=by simp[rdV,VT.kind]
mutual
theorem zs1{d7:List Dat}:∀ x:VT,rdV d7 (zaP x) x=0
 |.mk k n ks=>by
  have hA:=zBX (d7:=d7) ks 0 (by omega) (by omega);by_cases h6:k=6
  ·subst h6;have:rdV d7 (zaP (.mk 6 n ks)) (.mk 6 n ks)=rdA d7 (zbl ks) ks 0:=by simp[zaP,rdV,VT.kind,VT.kids,zd7]
   rw[this,hA]
  ·by_cases h7:k=7
   ·subst h7;simp[zaP,rdV,VT.kind]
   ·by_cases h5:k=5
    ·subst h5;simp[zaP,rdV,VT.kind,rdE]
    ·simp[zaP,rdV,VT.kind,h6,h7,h5]
theorem zBX{d7:List Dat}:∀ (ts:List VT) (a:Int),0≤a→a≤6→rdA d7 (zbl ts) ts a=a
 |[],a,_,_=>by simp only[zbl,rdA]
 |t::ts,a,h,h6=>by have h1:=zs1 (d7:=d7) t;rw[zbl,zAr,h1,au (by omega),Int.add_zero,zBX ts a h h6]
end
theorem zk9{d7:List Dat}(h8:∀ D∈d7,D.cons.length≤8)(t:VT):∀ (rs:List (List IT)) (a:Int),0≤a→a≤6→0≤rdE d7 rs.flatten t a→(∀ r∈rs,0≤rdE d7 r t 0)∧rdE d7 rs.flatten t a=a+(rs.map λr=>rdE d7 r t 0).sum
 |[],a,h,h6,_=>by simp only[List.flatten_nil,rdE];simp
 |r::rs,a,h,h6,hd=>by
  rw[List.flatten_cons,zsg h8 _ _ _ _ h h6,zk7 r t a h h6]at hd ⊢;by_cases hr:rdE d7 r t 0<0∨a+rdE d7 r t 0>6
  ·rw[zdo hr]at hd;simp at hd
  ·rw[zfE (by omega) (by omega)]at hd ⊢;rw[au (by omega)]at hd ⊢;obtain⟨g1,g2⟩:=zk9 h8 t rs _ (by omega) (by omega) hd;refine⟨λx hx=>?_,by rw[g2];simp;omega⟩;rcases aP.1 hx with rfl | hx
   ·omega
   ·exact g1 x hx
theorem zd3{d7:List Dat}:∀ (vs:List IT) (ts:List VT) (a:Int),0≤a→vs.length=ts.length→0≤rdA d7 vs ts a→(∀ k (h1:k<vs.length) (h2:k<ts.length),0≤rdV d7 vs[k] ts[k])∧rdA d7 vs ts a=a+(List.zipWith (rdV d7) vs ts).sum
 |[],[],a,h,_,_=>by simp only[rdA];simp
 |[],_::_,_,_,hl,_=>by simp at hl
 |_::_,[],_,_,hl,_=>by simp at hl
 |v::vs,t::ts,a,h,hl,hd=>by
  rw[zAr]at hd ⊢;by_cases hr:rdV d7 v t<0∨a+rdV d7 v t>6
  ·rw[az hr]at hd;omega
  ·rw[au hr]at hd ⊢;obtain⟨g1,g2⟩:=zd3 vs ts _ (by omega) (by simpa using hl) hd;refine⟨λk h1 h2=>?_,by rw[g2];simp;omega⟩;cases k with
   |zero=>simp;omega
   |succ k=>simpa using g1 k (by simpa using h1) (by simpa using h2)
def zcJ{α:Type}:List (α→Nat)→List α→Nat
 |[],_=>1
 |_::_,[]=>0
 |w::ws,n::ns=>w n*zcJ ws ns+zcJ (w::ws) ns
def zf6(l:List Nat):Nat:=l.foldr (·+·) 0
@[simp] theorem yeJ:zf6 []=0:=rfl
@[simp] theorem zBh(a:Nat)(l:List Nat):zf6 (a::l)=a+zf6 l:=rfl
theorem zKx{α:Type}(ws:List (α→Nat))(a:α)(l:List α):zcJ ws l≤zcJ ws (a::l):=by cases ws <;> simp[zcJ]
theorem zAO{α:Type}(w:α→Nat)(ws:List (α→Nat)):∀ l:List α,zcJ (w::ws) l≤zf6 (l.map w)*zcJ ws l
 |[]=>by simp[zcJ]
 |a::l=>by have ih:=zAO w ws l;have h1:=zKx ws a l;simp only[zcJ,aF,zBh,a8];have h2:w a*zcJ ws l≤w a*zcJ ws (a::l):=bj _ h1;have h3:zf6 (l.map w)*zcJ ws l≤zf6 (l.map w)*zcJ ws (a::l):=bj _ h1;omega
theorem zBi{α:Type}{w:α→Nat}{b:Nat}:∀ l:List α,(∀ a∈l,w a≤b)→zf6 (l.map w)≤l.length*b
 |[],_=>by simp
 |a::l,h=>by have h1:=h a (by simp);have h2:=zBi l (λx hx=>h x (by simp[hx]));simp only[aF,zBh,List.length_cons,bI];omega
mutual
def atV(d7:List Dat):IT→VT→VT→Nat
 |.mk n ks,t,v=>
  if t.kind=6 then atL d7 ks t.kids v.kids
  else if t.kind=7 then chs v.kids.length n.toNat
  else if t.kind=5 then zcJ (wtL d7 ks t) (zfV (zd4 d7 t.num.toNat) v)
  else 1
def atL(d7:List Dat):List IT→List VT→List VT→Nat
 |[],_,_=>1
 | i::l,ts,vs=>match ts,vs with
  |t::ts,v::vs=>atV d7 i t v*atL d7 l ts vs
  |_,_=>1
def wtL(d7:List Dat):List IT→VT→List (VT→Nat)
 |[],_=>[]
 |e::es,t=>wtE d7 e t::wtL d7 es t
def wtE(d7:List Dat):IT→VT→VT→Nat
 |.mk c ks,t,n=>if n.num=c then atL d7 ks ((zbi d7 t c).getD []) (pick n.kids ((zd4 d7 t.num.toNat).getD c.toNat [])) else 0
end
mutual
theorem zHL(d7:List Dat):∀ (t v:VT),atV d7 (zaP t) t v=1
 |.mk k n ks,v=>by
  have:=zx4 d7 ks v.kids;unfold zaP;rw[atV];by_cases h6:k=6
  ·simp[h6,VT.kind,VT.kids];simpa[VT.kids]using this
  ·by_cases h7:k=7
   ·simp[h6,h7,VT.kind,VT.kids]
   ·simp only[h6,VT.kind,aN,h7];split <;> simp[wtL,zcJ]
theorem zx4(d7:List Dat):∀ (ts vs:List VT),atL d7 (zbl ts) ts vs=1
 |[],vs=>by simp[zbl,atL]
 |t::ts,[]=>by simp[zbl,atL]
 |t::ts,v::vs=>by simp[zbl,atL,zHL d7 t v,zx4 d7 ts vs]
end
@[simp] theorem ydh(k:AV→Prop):zaF [] k=k (.tup []):=by simp[zaF]
theorem zLR{n:Nat}{H2 J H':zaa}{K:Kt}(he:H'=H2++J)(hn:n≤H2.length)(hs:HSc H2)(h:K (.tup []) H2):Out n K (.tup []) H':=by subst he;exact⟨.tup [],H2,J,rfl,hn,hs,.tup trivial,h⟩
def pw(H:zaa)(io iv:Nat)(l:List VT):zaa:=(H.set iv (.vec zIq 3 l.length (VT.css l).flatten)).set io (.cells [.ov iv l.length])
section
variable {H J:zaa} {io iv ir is:Nat} {rs:List (List Bool)} {l l':List VT}
@[simp] theorem yek:(pw H io iv l).length=H.length:=by simp[pw]
end
theorem zk4:∀ {a b c d:List AV},plain a=some c→plain b=some d→plain (a++b)=some (c++d)
 |[],b,c,d,h,h'=>by simp[plain]at h;subst h;simpa using h'
 |x::a,b,c,d,h,h'=>by
  simp only[plain]at h;split at h
  ·rename_i p q hp hq;cases h;simp only[List.cons_append,plain];rw[hp,zk4 hq h']
  ·cases h
section
open Go.RowKit
theorem zJZ(rs:List (List Bool))(b:Nat):∀v:VT,v.nodes≤b→∀x∈zfV rs v,x.nodes≤b:=by
 intro v;induction hm:v.nodes using Nat.strongRecOn generalizing v with
 |_ m ih=>
  intro hb x hx;obtain⟨k,n,ks⟩:=v;have key:∀(l:List VT) (bs:List Bool),(∀y∈l,y.nodes<m)→∀x∈zeh rs l bs,x.nodes≤b:=by
   intro l;induction l with
   |nil=>intro bs _ x hx;simp[zeh]at hx
   |cons y l ihl=>
    intro bs hy x hx
    match bs with
    |[]=>simp[zeh]at hx
    |c::bs=>
     simp only[zeh,aX]at hx;rcases hx with hx|hx
     ·split at hx
      ·have h1:=hy y (by simp);exact ih _ h1 y rfl (by omega) x hx
      ·simp at hx
     ·exact ihl bs (λz hz=>hy z (by simp[hz])) x hx
  simp only[zfV,aP]at hx;rcases hx with rfl|hx
  ·omega
  ·exact key ks _ (λy hy=>by have:=zjU (k:=k) (n:=n) y hy;omega) x hx
end
end Go.Proofs.YtdmamdnkcefmmaaGreatDoor
