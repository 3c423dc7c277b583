import Derived.Test.YtdmamdnkcefmmaaGreatDoorKI5
import Derived.Shelf.SlSortCmp.NoneTotal
set_option linter.unusedSimpArgs false
set_option linter.unusedVariables false
set_option linter.unusedSectionVars false
set_option linter.defProp false
set_option maxRecDepth 100000
namespace Go.Proofs.YtdmamdnkcefmmaaGreatDoor
def it2(v:IT):∃a b,v.cs=[a,b]∧a.ZP=true∧b.ZP=true:=by obtain⟨n,ks⟩:=v;exact⟨_,_,rfl,rfl,rfl⟩
def zBP{eq:List Dat}(h8:∀D∈eq,D.cons.length≤8)(v:IT)(t:VT)(h:(xe eq v t).2=true):0≤(xe eq v t).1∧(xe eq v t).1≤6:=by obtain⟨e1,e2,e3⟩:=(Ft h8 v t).1 h;omega
theorem zBO{eq:List Dat}(h8:∀ D∈eq,D.cons.length≤8):∀ (vs:List IT) (ts:List VT) (a:Int),0≤a→0≤(wB eq vs ts a).1∧(wB eq vs ts a).1≤a+6*vs.length
 |[],ts,a,h=>by simp[wB];omega
 |v::vs,[],a,h=>by simp[wB];omega
 |v::vs,t::ts,a,h=>by
  simp only[wB];split
  ·rename_i hb;have:=zBP h8 v t hb;have:=zBO h8 vs ts (a+(xe eq v t).1) (by omega);simp only[List.length_cons];omega
  ·simp;omega
theorem Ds{x:VT}:∀ {l:List VT} {bs:List Bool},x∈pick l bs→x∈l
 |[],_,h=>by simp[pick]at h
 |_::_,[],h=>by simp[pick]at h
 |c::l,b::bs,h=>by
  cases b with
  |true=>simp[pick]at h;exact be _ (Ds h)
  |false=>
   simp[pick]at h;rcases h with rfl|h
   ·exact bu
   ·exact be _ (Ds h)
def zCy{eq:List Dat}{t:VT}{c:Int}{ps:List VT}(h:vt eq t c=some ps):∀x∈ps,x.ZO≤1000:=by
 unfold vt at h;obtain⟨k,n,ks⟩:=t;cases hf:wa eq (.mk k n ks) c with
 |none=>rw[hf]at h;cases h
 |some l=>rw[hf]at h;obtain⟨_,_,_,_,_,_,_,h2⟩:=Fs hf;simp at h;subst h;exactλx hx=>by have:=h2 x (Ds hx);omega
def zMt(eq:List Dat)(n:Int)(ks:List IT)(tk tn:Int)(tks:List VT):xe eq (.mk n ks) (.mk tk tn tks) =
  if tk=6 then (if n=0 then (if tks.length=ks.length then wB eq ks tks 0 else (0,false)) else (0,false))
  else if tk=7 then (n,decide (0≤n) && decide (n≤6) && decide (ks.length=0))
  else if tk=5 then (if n=0 then yg eq ks (.mk tk tn tks) 0 else (0,false))
  else (0,decide (n=0) && decide (ks.length=0)):=by
 rw[xe];rfl
def xS(eq:List Dat)(vs:List IT)(ts:List VT):Int×Bool:=if ts.length=vs.length then wB eq vs ts 0 else (0,false)
def Mf(eq:List Dat)(v:IT):Prop:=∀t:VT,t.ZO≤1000→∀(H:or) (K:Kt),K (.tup [I6 (xe eq v t).1,.bool (xe eq v t).2]) H→ge tP 74 [.sl (eq.map Dat.cs) .none,.agg t.cs,.agg v.cs] H K
def yh{H:or}{K:Kt}{a:Int}{b:Bool}(hs:HSc H)(h:K (.tup [I6 a,.bool b]) H)(J:or):Out H.length K (.tup [I6 a,.bool b]) (H++J):=Out.tup hs h ⟨uJ rfl rfl,uJ rfl rfl,trivial⟩
def zFe{eq:List Dat}(h8:∀D∈eq,D.cons.length≤8)(vs:List IT)(hv:vs.length≤1000)(ja:∀v∈vs,Mf eq v)(ts:List VT)(ht:∀t∈ts,t.ZO≤1000)(H:or)(K:Kt)(hK:K (.tup [I6 (xS eq vs ts).1,.bool (xS eq vs ts).2]) H):ge tP 124 [.sl (eq.map Dat.cs) .none,.sl (VT.css ts) .none,.sl (IT.css vs) .none] H K:=by
 refine ge.out (zR6 λhs=>?_);have h0:∀b J,xS eq vs ts=(0,b)→Out H.length K (.tup [I0,.bool b]) (H++J):=λb J h=>by rw[h]at hK;exact yh hs hK J
 by_cases hl:ts.length=vs.length;case neg=>
  have:((ts.length:Int) != (vs.length:Int))=true:=by simp[bne];omega
  simp[Sq,this];refine⟨⟨rfl,rfl⟩,?_⟩;simpa using h0 false [] (by simp[xS,hl])
 have mW:xS eq vs ts=wB eq vs ts 0:=by simp[xS,hl]
 rw[mW]at hK h0;simp[Sq,hl];refine zR4 (Inv:=λq t8 t20 H'=>∃(i:Nat) (a:Int),i≤vs.length∧q=vs.length-i∧t20=I6 i∧t8=I6 a∧0≤a∧a≤6*i∧wB eq (vs.drop i) (ts.drop i) a=wB eq vs ts 0∧H'=H) vs.length ?_ ?_
 ·intro _;exact⟨0,0,by omega,by omega,rfl,rfl,by omega,by omega,by simp,rfl⟩
 ·rintro q t8 t20 H' ⟨i,a,hi,rfl,rfl,rfl,qB,sf,ho,rfl⟩ fG fz fM Kb fB;by_cases fy:i<vs.length
  ·have fK:i<ts.length:=by omega
   rw[ai fy,ai fK]at ho;simp only[wB]at ho;obtain⟨x,y,z,fD,hx,hy,hz⟩:=ve ts[i];obtain⟨x2,y2,gd,gf,lx⟩:=it2 vs[i];have tg:=ht _ (ae fK);have th:=ja _ (ae fy);simp[Sp,hl,fy,fK,fD,gd,aa];refine⟨⟨hx,hy,hz⟩,?_⟩;rw[←fD,←gd];refine ur (.tup [I6 (xe eq vs[i] ts[i]).1,.bool (xe eq vs[i] ts[i]).2]) (λJ=>th _ tg _ _ ⟨rfl,rfl⟩) ?_;cases hb:(xe eq vs[i] ts[i]).2 with
   |false=>rw[hb]at ho;simp at ho;simp;exact⟨⟨rfl,rfl⟩,h0 _ _ ho.symm⟩
   |true=>rw[hb]at ho;simp at ho;have tj:=zBP h8 _ _ hb;simp;rw[um (by omega) (by omega),um (by omega) (by omega)];refine fB _ _ ⟨vs.length-(i+1),by omega,Back.at (J:=[_]) rfl (af _) hs ?_ ⟨_,_,rfl,i+1,_,by omega,rfl,by simp,rfl,by omega,by simp;omega,ho,rfl⟩⟩;simp[LO,AV.sc,AV.ZJ,AV.ZH,AV.ZI]
  ·obtain rfl:i=vs.length:=by omega
   rw[aV]at ho;simp only[wB]at ho;rw[←ho]at hK;simp[Sp,hl];refine⟨⟨rfl,rfl⟩,?_⟩;have:=yh hs hK [];simpa using this
def ydH{eq:List Dat}(hk:vj eq)(h8:∀D∈eq,D.cons.length≤8):∀(m:Nat) (v:IT),v.ZO≤m→v.ZO≤900→Mf eq v:=by
 intro m;induction m with
 |zero=>intro v h;have:=v.ZB;omega
 |succ m ih=>
  intro v hv hb t ht H K hK;obtain⟨n,ks⟩:=v;obtain⟨tk,tn,tks⟩:=t;have iM:IT.ZA ks+1≤900:=by simpa[IT.ZO]using hb
  have gy:=IT.ZQ ks;have jm:∀v∈ks,Mf eq v:=λv oA=>by obtain⟨i,hi,rfl⟩:=bv oA;have:=IT.ZM (n:=n) hi;exact ih _ (by omega) (by omega)
  refine ge.out (ydF λhs=>?_);rw[zMt]at hK;by_cases h6:tk=6
  ·subst h6;by_cases hn:n=0
   ·subst hn;simp[yQ,VT.cs,IT.cs,aa];have gj:∀ t∈tks,t.ZO≤1000:=λt rh=>by obtain⟨i,hi,rfl⟩:=bv rh;have:=VT.ZM (k:=6) (n:=tn) hi;omega
    refine zFe h8 ks (by omega) jm tks gj _ _ ?_;simp;refine⟨⟨rfl,rfl⟩,?_⟩;exact yh hs (by simpa[xS]using hK) _
   ·have:(n != 0)=true:=by simp[bne,hn]
    simp[yQ,VT.cs,IT.cs,aa,this];simp[hn]at hK;exact⟨⟨rfl,rfl⟩,yh hs hK _⟩
  have jN:(tk == 6)=false:=by simp[h6]
  rw[aG h6]at hK;by_cases h7:tk=7
  ·subst h7;simp only[br]at hK;by_cases g1:0≤n
   ·by_cases g2:n≤6
    ·by_cases g3:ks.length=0
     ·simp[yQ,VT.cs,IT.cs,aa,g1,g2,g3];simp[g1,g2,g3]at hK;exact⟨⟨rfl,rfl⟩,yh hs hK _⟩
     ·have g3':((ks.length:Int) == 0)=false:=by simp;exact λh=>g3 (by simp[h])
      simp[yQ,VT.cs,IT.cs,aa,g1,g2,g3,g3'];simp[g1,g2,g3]at hK;exact⟨⟨rfl,rfl⟩,yh hs hK _⟩
    ·simp[yQ,VT.cs,IT.cs,aa,g1,g2];simp[g1,g2]at hK;exact⟨⟨rfl,rfl⟩,yh hs hK _⟩
   ·simp[yQ,VT.cs,IT.cs,aa,g1];simp[g1]at hK;exact⟨⟨rfl,rfl⟩,yh hs hK _⟩
  have pP:(tk == 7)=false:=by simp[h7]
  rw[aG h7]at hK;by_cases h5:tk=5;case neg=>
   have ng:(tk == 5)=false:=by simp[h5]
   rw[aG h5]at hK;by_cases g1:n=0
   ·by_cases g2:ks.length=0
    ·simp[yQ,VT.cs,IT.cs,aa,jN,pP,ng,g1,g2,ub];simp[g1,g2]at hK;exact⟨⟨rfl,rfl⟩,yh hs hK _⟩
    ·have g2':((ks.length:Int) == 0)=false:=by simp;exact λh=>g2 (by simp[h])
     simp[yQ,VT.cs,IT.cs,aa,jN,pP,ng,g1,g2,g2',ub];simp[g1,g2]at hK;exact⟨⟨rfl,rfl⟩,yh hs hK _⟩
   ·have g1':(n == 0)=false:=by simp[g1]
    simp[yQ,VT.cs,IT.cs,aa,jN,pP,ng,g1,g1',ub];simp[g1]at hK;exact⟨⟨rfl,rfl⟩,yh hs hK _⟩
  subst h5;simp only[br]at hK;by_cases hn:n=0;case neg=>
   have:(n != 0)=true:=by simp[bne,hn]
   simp[yQ,VT.cs,IT.cs,aa,this];simp[hn]at hK;exact⟨⟨rfl,rfl⟩,yh hs hK _⟩
  subst hn;simp only[br]at hK;simp[yQ,VT.cs,IT.cs,aa];have hT:(VT.mk 5 tn tks).ZO≤1000:=ht;have ri:(VT.mk 5 tn tks).cs=[I6 5,I6 tn,.sl (VT.css tks) .none]:=rfl;generalize hTg:VT.mk 5 tn tks=T at *;have gw:HSc (H++[.cells [I6 5,I6 tn,.sl (VT.css tks) .none],.cells [I0,.sl (IT.css ks) .none]]):=hs.append (by simp[AB.sc,AV.ZH,AV.ZI]);have hF:yg eq ks T 0=(0,false)→∀ J,Out H.length K (.tup [I0,.bool false]) (H++J):=λh J=>yh hs (by rw[h]at hK;exact hK) J;refine ydD (Inv:=λq t8 t55 H'=>∃ (i:Nat) (a:Int),i≤ks.length∧q=ks.length-i∧t55=I6 i∧t8=I6 a∧0≤a∧a≤6∧yg eq (ks.drop i) T a=yg eq ks T 0 ∧
   H'=H++[.cells [I6 5,I6 tn,.sl (VT.css tks) .none],.cells [I0,.sl (IT.css ks) .none]]) ks.length ?_ ?_
  ·intro _;exact⟨0,0,by omega,by omega,rfl,rfl,by omega,by omega,by simp,rfl⟩
  ·rintro q t8 t55 H' ⟨i,a,hi,rfl,rfl,rfl,qB,sf,ho,rfl⟩ fG fz fM Kb fB;by_cases fy:i<ks.length
   ·rw[ai fy]at ho;have jF:=IT.ZM (n:=0) fy;obtain⟨c,es,hx⟩:∃ c es,ks[i]=IT.mk c es:=by cases h:ks[i] with | mk a b=>exact⟨a,b,rfl⟩
    rw[hx]at ho jF;have hesl:=IT.ZQ es;have hen:IT.ZA es+1≤900:=by
     have:(IT.mk c es).ZO=IT.ZA es+1:=by simp[IT.ZO]
     have:(IT.mk 0 ks).ZO=IT.ZA ks+1:=by simp[IT.ZO]
     omega
    have gm:∀v∈es,Mf eq v:=λv oA=>by obtain⟨j,hj,rfl⟩:=bv oA;have:=IT.ZM (n:=c) hj;exact ih _ (by omega) (by omega)
    simp only[yg]at ho;simp[So,fy,hx,IT.cs,aa];rw[←ri];refine zSe eq hk T hT c _ _ ?_;cases hp:vt eq T c with
    |none=>rw[hp]at ho;simp only at ho;simp[xC];exact⟨⟨rfl,rfl⟩,hF ho.symm _⟩
    |some ps=>
     rw[hp]at ho;simp only at ho;simp[xC];have tl:∀t∈ps,t.ZO≤1000:=zCy hp;refine zFe h8 es (by omega) gm ps tl _ _ ?_;have htb:0≤(xS eq es ps).1∧(xS eq es ps).1≤6*es.length:=by
      unfold xS;split
      ·have:=zBO h8 es ps 0 (by omega);omega
      ·simp;omega
     have iS:(if (xS eq es ps).2 && decide (a+(1+(xS eq es ps).1)≤6) then yg eq (ks.drop (i+1)) T (a+(1+(xS eq es ps).1)) else (0,false))=yg eq ks T 0:=by
      rw[←ho];unfold xS;by_cases hl:ps.length=es.length
      ·simp only[hl,br]
      ·simp only[hl,ba];rfl
     generalize xS eq es ps=w at *;obtain⟨w1,w2⟩:=w;simp only at htb iS;simp;have q1:IntKind.i64.wrap (1+w1)=1+w1:=um (by omega) (by omega);have q2:IntKind.i64.wrap (a+(1+w1))=a+(1+w1):=um (by omega) (by omega);rw[q1,q2];cases w2 with
     |false=>simp at iS ⊢;exact⟨⟨rfl,rfl⟩,hF iS.symm _⟩
     |true=>
      by_cases hh:a+(1+w1)≤6
      ·have to:¬ (6:Int)<a+(1+w1):=by omega
       simp[hh]at iS;simp[to];rw[um (by omega) (by omega)];refine fB _ _ ⟨ks.length-(i+1),by omega,Back.at (J:=[.cells [I6 c,.sl (IT.css es) .none]]) (H2:=H++[.cells [I6 5,I6 tn,.sl (VT.css tks) .none],.cells [I0,.sl (IT.css ks) .none]]) (by simp[ri]) (by simp) gw ?_ ⟨_,_,rfl,i+1,_,by omega,rfl,by simp,rfl,by omega,by omega,iS,rfl⟩⟩;simp[LK,AV.sc,AV.ZJ,AV.ZH,AV.ZI]
      ·have to:(6:Int)<a+(1+w1):=by omega
       simp[hh]at iS;simp[to];exact⟨⟨rfl,rfl⟩,hF iS.symm _⟩
   ·obtain rfl:i=ks.length:=by omega
    rw[aV]at ho;simp only[yg]at ho;rw[←ho]at hK;simp[So];exact⟨⟨rfl,rfl⟩,yh hs hK _⟩
def zNG(eq:List Dat)(n:Int)(ks:List IT)(tk tn:Int)(tks:List VT):rdV eq (.mk n ks) (.mk tk tn tks) =
  if tk=6 then (if n=0 then (if tks.length=ks.length then rdA eq ks tks 0 else -1) else -1)
  else if tk=7 then (if 0≤n∧n≤6∧ks.length=0 then n else -1)
  else if tk=5 then (if n=0∧ks.length≤6 then rdE eq ks (.mk tk tn tks) 0 else -1)
  else (if n=0∧ks.length=0 then 0 else -1):=by
 rw[rdV];rfl
def zz3{m:Int×Bool}{r:Int}(h:agr m r):-1≤r∧r≤6:=by
 obtain⟨h1,h2⟩:=h;cases hb:m.2 with
 |true=>have:=h1 hb;omega
 |false=>have:=h2 hb;omega
def xT(eq:List Dat)(vs:List IT)(ts:List VT):Int:=if ts.length=vs.length then rdA eq vs ts 0 else -1
def zPC{eq:List Dat}(h8:∀D∈eq,D.cons.length≤8)(vs:List IT)(ts:List VT):-1≤xT eq vs ts∧xT eq vs ts≤6:=by
 unfold xT;split
 ·exact zz3 ((LE h8 vs ts 0 (by omega)).1 (by omega))
 ·omega
def Mg(eq:List Dat)(v:IT):Prop:=∀t:VT,t.ZO≤1000→∀(H:or) (K:Kt),K (I6 (rdV eq v t)) H→ge tP 59 [.sl (eq.map Dat.cs) .none,.agg t.cs,.agg v.cs] H K
def zEW{eq:List Dat}(h8:∀D∈eq,D.cons.length≤8)(vs:List IT)(hv:vs.length≤1000)(ja:∀v∈vs,Mg eq v)(ts:List VT)(ht:∀t∈ts,t.ZO≤1000)(H:or)(K:Kt)(hK:K (I6 (xT eq vs ts)) H):ge tP 111 [.sl (eq.map Dat.cs) .none,.sl (VT.css ts) .none,.sl (IT.css vs) .none] H K:=by
 refine ge.out (zQ9 λhs=>?_);have hO:∀r J,xT eq vs ts=r→Out H.length K (I6 r) (H++J):=λr J h=>by subst h;exact Out.int rfl (af _) hs hK
 have oV:∀r,xT eq vs ts=r→Out H.length K (I6 r) H:=λr h=>by simpa using hO r [] h
 by_cases hl:ts.length=vs.length;case neg=>
  have:((ts.length:Int) != (vs.length:Int))=true:=by simp[bne];omega
  simp[Su,this];exact oV _ (by simp[xT,hl])
 have mW:xT eq vs ts=rdA eq vs ts 0:=by simp[xT,hl]
 simp[Su,hl];refine zQ7 (Inv:=λq t7 t17 H'=>∃(i:Nat) (a:Int),i≤vs.length∧q=vs.length-i∧t17=I6 i∧t7=I6 a∧0≤a∧a≤6∧rdA eq (vs.drop i) (ts.drop i) a=xT eq vs ts∧H'=H) vs.length ?_ ?_
 ·intro _;exact⟨0,0,by omega,by omega,rfl,rfl,by omega,by omega,by simp[mW],rfl⟩
 ·rintro q t7 t17 H' ⟨i,a,hi,rfl,rfl,rfl,qB,sf,ho,rfl⟩ fG fz fM Kb fB;by_cases fy:i<vs.length
  ·have fK:i<ts.length:=by omega
   rw[ai fy,ai fK]at ho;simp only[rdA]at ho;have tg:=ht _ (ae fK);have th:=ja _ (ae fy);have tj:=zz3 (Ft h8 vs[i] ts[i]);simp[St,hl,fy,fK,aa];refine ur (I6 (rdV eq vs[i] ts[i])) (λJ=>th _ tg _ _ ⟨rfl,rfl⟩) ?_;generalize rdV eq vs[i] ts[i]=r at *;by_cases hr:r<0
   ·rw[aN (.inl hr)]at ho;simp[hr];exact oV _ ho.symm
   ·have q1:IntKind.i64.wrap (a+r)=a+r:=um (by omega) (by omega);by_cases h6:a+r>6
    ·rw[aN (.inr h6)]at ho;simp[hr,q1,h6];exact oV _ ho.symm
    ·rw[aG (by omega)]at ho;simp[hr,q1,h6];rw[um (by omega) (by omega)];refine fB _ _ ⟨vs.length-(i+1),by omega,Back.at (J:=[]) (by simp) (af _) hs ?_ ⟨_,_,rfl,i+1,_,by omega,rfl,by simp,rfl,by omega,by omega,ho,rfl⟩⟩;simp[L2,AV.sc,AV.ZJ,AV.ZH,AV.ZI]
  ·obtain rfl:i=vs.length:=by omega
   rw[aV]at ho;simp only[rdA]at ho;simp[St,hl];exact oV _ ho.symm
def yaM:∀ (m:Nat) (v:IT),v.ZO≤m→∀ (left:Int),left≤1000000→-1≤left→∀ (H:or) (id:Nat),H[id]?=some (.cells [I6 left])→∀ (K:AV→or→Prop),
  ((v.ZO:Int)≤left→K (.bool true) (H.set id (.cells [I6 (left-v.ZO)])))→(¬(v.ZO:Int)≤left→∀l',K (.bool false) (H.set id (.cells [I6 l']))) →
  ge tP 39 [.agg v.cs,.ptr id 0] H K:=by
 intro m;induction m with
 |zero=>intro v h;have:=v.ZB;omega
 |succ m ih=>
  intro v hv left jY jC H id fA K hK hF;obtain⟨n,ks⟩:=v;have fy:=uR fA;have kr:(IT.mk n ks).ZO=IT.ZA ks+1:=by simp[IT.ZO]
  refine ge.out (yaK λhs=>?_);have fJ:(H++[AB.cells [I6 n,.sl (IT.css ks) .none]])[id]?=some (.cells [I6 left]):=vq fA;have bad:(¬((IT.mk n ks).ZO:Int)≤left)→∀l' H',H'=H.set id (.cells [I6 l'])++[.cells [I6 n,.sl (IT.css ks) .none]]→Out H.length K (.bool false) H':=by intro h l' H' he;exact Out.bool he (by simp) (hs.set rfl) (hF h l')
  simp[zIb,IT.cs,fJ,AV.ZP];rw[um (by omega) (by omega),zS _ fA,vq (yI _ fA)];by_cases h0:left-1<0
  ·simp[h0];exact bad (by omega) _ _ rfl
  ·simp[h0];refine yaI (Inv:=λq t5 H'=>∃i:Nat,i≤ks.length∧q=ks.length-i∧t5=I6 i∧((IT.ZA (ks.take i):Int)+1≤left)∧H'=H.set id (.cells [I6 (left-1-IT.ZA (ks.take i))])++[.cells [I6 n,.sl (IT.css ks) .none]]) ks.length ?_ ?_
   ·intro _;exact⟨0,by omega,by omega,rfl,by simp[IT.ZA];omega,by simp[IT.ZA]⟩
   ·rintro q t5 H' ⟨i,hi,rfl,rfl,hb,rfl⟩ hsc fz fM Kb fB;by_cases gq:i<ks.length
    ·have gB:=IT.ZM (n:=n) gq;have h1:=IT.ZE gq;have h2:=IT.ZD ks (i+1);have gy:=IT.ZQ (ks.take i);simp only[a7]at gy;have gW:(H.set id (.cells [I6 (left-1-IT.ZA (ks.take i))])++[AB.cells [I6 n,.sl (IT.css ks) .none]])[id]?=some (.cells [I6 (left-1-IT.ZA (ks.take i))]):=vq (yI _ fA);simp[Sn,gq];refine ih ks[i] (by omega) (left-1-IT.ZA (ks.take i)) (by omega) (by omega) _ id gW _ ?_ ?_
     ·intro fS;rw[zS _ (yI _ fA),bX];simp;rw[um (by omega) (by omega)];refine fB _ _ ⟨ks.length-(i+1),by omega,Back.here (by simp) ((hs.set rfl).snoc rfl) ?_ ⟨_,rfl,i+1,by omega,rfl,by simp,by omega,?_⟩⟩
      ·simp[LI,AV.sc,AV.ZJ,AV.ZH,AV.ZI];omega
      ·rw[h1];congr 5;omega
     ·intro fS l';rw[zS _ (yI _ fA),bX];simp;exact bad (by omega) _ _ rfl
    ·obtain rfl:i=ks.length:=by omega
     rw[az]at hb ⊢;simp[Sn];refine Out.bool rfl (by simp) (hs.set rfl) ?_;have:=hK (by omega);rw[kr]at this;rw[show left-1-(IT.ZA ks:Int)=left-((IT.ZA ks+1:Nat):Int) by omega];exact this
def yfU(v:IT)(H:or)(K:Kt)(hK:∀b,(b=true→v.ZO≤40)→K (.bool b) H):ge tP 11 [.agg v.cs] H K:=by
 refine ge.out (yfT λhs=>?_);simp[zq9,AV.ZP];refine yaM _ v (af _) 40 (by omega) (by omega) _ (H.length+1) (by simp) _ ?_ ?_
 ·intro h;exact Out.bool (J:=[_,_]) (by simp;exact⟨rfl,rfl⟩) (af _) hs (hK true λ_=>by omega)
 ·intro h l';exact Out.bool (J:=[_,_]) (by simp;exact⟨rfl,rfl⟩) (af _) hs (hK false λh=>by cases h)
def zIM{eq:List Dat}(hk:vj eq)(h8:∀D∈eq,D.cons.length≤8):∀(m:Nat) (v:IT),v.ZO≤m→v.ZO≤900→Mg eq v:=by
 intro m;induction m with
 |zero=>intro v h;have:=v.ZB;omega
 |succ m ih=>
  intro v hv hb t ht H K hK;obtain⟨n,ks⟩:=v;obtain⟨tk,tn,tks⟩:=t;have iM:IT.ZA ks+1≤900:=by simpa[IT.ZO]using hb
  have gy:=IT.ZQ ks;have jm:∀v∈ks,Mg eq v:=λv oA=>by obtain⟨i,hi,rfl⟩:=bv oA;have:=IT.ZM (n:=n) hi;exact ih _ (by omega) (by omega)
  refine ge.out (ycr λhs=>?_);rw[zNG]at hK;have hO:∀r J,K (I6 r) H→Out H.length K (I6 r) (H++J):=λr J h=>Out.int rfl (af _) hs h;by_cases h6:tk=6
  ·subst h6;rw[aN rfl]at hK;by_cases hn:n=0
   ·subst hn;rw[aN rfl]at hK;simp[yz,VT.cs,IT.cs,aa];have gj:∀ t∈tks,t.ZO≤1000:=λt rh=>by obtain⟨i,hi,rfl⟩:=bv rh;have:=VT.ZM (k:=6) (n:=tn) hi;omega
    refine zEW h8 ks (by omega) jm tks gj _ _ ?_;exact hO _ _ hK
   ·have:(n != 0)=true:=by simp[bne,hn]
    rw[aG hn]at hK;simp[yz,VT.cs,IT.cs,aa,this];exact hO _ _ hK
  have jN:(tk == 6)=false:=by simp[h6]
  rw[aG h6]at hK;by_cases h7:tk=7
  ·subst h7;rw[aN rfl]at hK;by_cases g1:n<0
   ·rw[aG (by omega)]at hK;simp[yz,VT.cs,IT.cs,aa,g1];exact hO _ _ hK
   ·by_cases g2:n>6
    ·rw[aG (by omega)]at hK;simp[yz,VT.cs,IT.cs,aa,g1,g2];exact hO _ _ hK
    ·by_cases g3:0<ks.length
     ·rw[aG (by omega)]at hK;have g3':(0:Int)<ks.length:=by omega
      simp[yz,VT.cs,IT.cs,aa,g1,g2,g3,g3'];exact hO _ _ hK
     ·rw[aN (by omega)]at hK;have g3':¬ (0:Int)<ks.length:=by omega
      simp[yz,VT.cs,IT.cs,aa,g1,g2,g3,g3'];exact hO _ _ hK
  have pP:(tk == 7)=false:=by simp[h7]
  rw[aG h7]at hK;by_cases h5:tk=5;case neg=>
   have ng:(tk == 5)=false:=by simp[h5]
   rw[aG h5]at hK;by_cases g1:n=0
   ·subst g1;by_cases g2:0<ks.length
    ·have g2':(0:Int)<ks.length:=by omega
     rw[aG (by omega)]at hK;simp[yz,VT.cs,IT.cs,aa,jN,pP,ng,g2,g2'];exact hO _ _ hK
    ·have g2':¬ (0:Int)<ks.length:=by omega
     rw[aN (by omega)]at hK;simp[yz,VT.cs,IT.cs,aa,jN,pP,ng,g2,g2'];exact hO _ _ hK
   ·have g1':(n != 0)=true:=by simp[bne,g1]
    rw[aG (by omega)]at hK;simp[yz,VT.cs,IT.cs,aa,jN,pP,ng,g1,g1'];exact hO _ _ hK
  subst h5;rw[aN rfl]at hK;by_cases hn:n=0;case neg=>
   have:(n != 0)=true:=by simp[bne,hn]
   rw[aG (by omega)]at hK;simp[yz,VT.cs,IT.cs,aa,this];exact hO _ _ hK
  subst hn;by_cases hl6:ks.length>6
  ·rw[aG (by omega)]at hK;have:(6:Int)<ks.length:=by omega
   simp[yz,VT.cs,IT.cs,aa,this];exact hO _ _ hK
  have hl6':¬(6:Int)<ks.length:=by omega
  rw[aN (by omega)]at hK;simp[yz,VT.cs,IT.cs,aa,hl6'];have hT:(VT.mk 5 tn tks).ZO≤1000:=ht;have ri:(VT.mk 5 tn tks).cs=[I6 5,I6 tn,.sl (VT.css tks) .none]:=rfl;generalize hTg:VT.mk 5 tn tks=T at *;have gw:HSc (H++[.cells [I6 5,I6 tn,.sl (VT.css tks) .none],.cells [I0,.sl (IT.css ks) .none]]):=hs.append (by simp[AB.sc,AV.ZH,AV.ZI]);have hF:∀ r,r=rdE eq ks T 0→∀ J,Out H.length K (I6 r) (H++J):=λr h J=>hO _ _ (by rw[h];exact hK);refine ycp (Inv:=λq t7 t58 H'=>∃ (i:Nat) (a:Int),i≤ks.length∧q=ks.length-i∧t58=I6 i∧t7=I6 a∧0≤a∧a≤6∧rdE eq (ks.drop i) T a=rdE eq ks T 0 ∧
   H'=H++[.cells [I6 5,I6 tn,.sl (VT.css tks) .none],.cells [I0,.sl (IT.css ks) .none]]) ks.length ?_ ?_
  ·intro _;exact⟨0,0,by omega,by omega,rfl,rfl,by omega,by omega,by simp,rfl⟩
  ·rintro q t7 t58 H' ⟨i,a,hi,rfl,rfl,rfl,qB,sf,ho,rfl⟩ fG fz fM Kb fB;by_cases fy:i<ks.length
   ·rw[ai fy]at ho;have jF:=IT.ZM (n:=0) fy;obtain⟨c,es,hx⟩:∃ c es,ks[i]=IT.mk c es:=by cases h:ks[i] with | mk a b=>exact⟨a,b,rfl⟩
    rw[hx]at ho jF;have hesl:=IT.ZQ es;have hen:IT.ZA es+1≤900:=by
     have:(IT.mk c es).ZO=IT.ZA es+1:=by simp[IT.ZO]
     have:(IT.mk 0 ks).ZO=IT.ZA ks+1:=by simp[IT.ZO]
     omega
    have gm:∀v∈es,Mg eq v:=λv oA=>by obtain⟨j,hj,rfl⟩:=bv oA;have:=IT.ZM (n:=c) hj;exact ih _ (by omega) (by omega)
    simp only[rdE]at ho;by_cases c1:c<0
    ·rw[aN (.inl c1)]at ho;simp[Fu,fy,hx,IT.cs,aa,c1];exact hF _ ho _
    by_cases c2:8≤c
    ·rw[aN (.inr c2)]at ho;simp[Fu,fy,hx,IT.cs,aa,c1,c2];exact hF _ ho _
    rw[aG (by omega)]at ho;simp[Fu,fy,hx,IT.cs,aa,c1,c2];rw[←ri];refine zEI eq hk T hT c _ _ ?_;cases hp:vt eq T c with
    |none=>rw[hp]at ho;simp only at ho;simp[xC];exact hF _ ho _
    |some ps=>
     rw[hp]at ho;simp only at ho;simp[xC];have tl:∀t∈ps,t.ZO≤1000:=zCy hp;refine zEW h8 es (by omega) gm ps tl _ _ ?_;have htb:=zPC h8 es ps;have iS:(if xT eq es ps<0∨a+1+xT eq es ps>6 then -1 else rdE eq (ks.drop (i+1)) T (a+(1+xT eq es ps)))=rdE eq ks T 0:=by
      rw[←ho];unfold xT;by_cases hl:ps.length=es.length
      ·simp only[hl,br]
      ·simp only[hl,ba];rfl
     generalize xT eq es ps=w at *;by_cases w0:w<0
     ·rw[aN (.inl w0)]at iS;simp[w0];exact hF _ iS _
     ·have q1:IntKind.i64.wrap (a+1)=a+1:=um (by omega) (by omega);have q2:IntKind.i64.wrap (a+1+w)=a+1+w:=um (by omega) (by omega);have q3:IntKind.i64.wrap (1+w)=1+w:=um (by omega) (by omega);have q4:IntKind.i64.wrap (a+(1+w))=a+(1+w):=um (by omega) (by omega);by_cases hh:a+1+w>6
      ·rw[aN (.inr hh)]at iS;simp[w0,q1,q2,hh];exact hF _ iS _
      ·rw[aG (by omega)]at iS;simp[w0,q1,q2,hh,q3,q4];rw[um (by omega) (by omega)];refine fB _ _ ⟨ks.length-(i+1),by omega,Back.at (J:=[.cells [I6 c,.sl (IT.css es) .none]]) (H2:=H++[.cells [I6 5,I6 tn,.sl (VT.css tks) .none],.cells [I0,.sl (IT.css ks) .none]]) (by simp[ri]) (by simp) gw ?_ ⟨_,_,rfl,i+1,_,by omega,rfl,by simp,rfl,by omega,by omega,iS,rfl⟩⟩;simp[LM,AV.sc,AV.ZJ,AV.ZH,AV.ZI]
   ·obtain rfl:i=ks.length:=by omega
    rw[aV]at ho;simp only[rdE]at ho;simp[Fu];exact hF _ ho _
section
variable {eq:List Dat} (hD:DOk eq)
def SN(eq:List Dat)(v:VT):Prop:=∀(t:VT),uW eq 0 t=true→∀(H:or) (K:AV→or→Prop),K (.bool (uX eq v t)) H→ge tP 51 [.sl (eq.map Dat.cs) .none,.agg v.cs,.agg t.cs] H K
theorem zLK{f:VT→VT→Bool}{x y:List VT}{i:Nat}(h:i<x.length)(h':i<y.length):xO f (x.drop i) (y.drop i)=(f x[i] y[i] && xO f (x.drop (i+1)) (y.drop (i+1))):=by rw[ai h,ai h',xO]
theorem zJS(vs ts:List VT)(hl:vs.length≤1000000)(hv:∀ v∈vs,SN eq v)(ht:∀ t∈ts,uW eq 0 t=true)(H:or)(K:AV→or→Prop)(hK:K (.bool (xF eq vs ts)) H):
  ge tP 97 [.sl (eq.map Dat.cs) .none,.sl (VT.css vs) .none,.sl (VT.css ts) .none] H K:=by
 refine ge.out (yfJ λhs=>?_);rw[SJ]at hK;have hO:∀b,xO (uX eq) vs ts=b→Out H.length K (.bool b) H:=λb h=>by have:=Out.bool (J:=[]) rfl (af _) hs (h ▸ hK);simpa using this
 by_cases fz:vs.length=ts.length;case neg=>
  have i6:((vs.length:Int) != ts.length)=true:=by simp;omega
  simp[SI,i6];exact hO _ (Rw fz)
 simp[SI,fz];refine yfH (Inv:=λq t H'=>∃i:Nat,i≤vs.length∧q=vs.length-i∧t=I6 i∧xO (uX eq) (vs.drop i) (ts.drop i)=xO (uX eq) vs ts∧H=H') vs.length ?_ ?_
 ·intro _;exact⟨0,by omega,by omega,rfl,by simp,rfl⟩
 rintro q t H' ⟨i,hi,rfl,rfl,ho,rfl⟩ hsc fS fM Kb fB;by_cases fy:i<vs.length
 ·have fK:i<ts.length:=by omega
  have fT:(i:Int)<ts.length:=by omega
  rw[zLK fy fK]at ho;obtain⟨x,y,z,fD,hx,hy,hz⟩:=ve vs[i];obtain⟨x2,y2,z2,gd,gf,lx,oX⟩:=ve ts[i];simp[SH,fy,fK,fT,fD,gd];rw[←fD,←gd];refine ur (.bool (uX eq vs[i] ts[i])) (λJ=>hv _ (ae fy) _ (ht _ (ae fK)) _ _ ⟨rfl,rfl⟩) ?_;cases hb:uX eq vs[i] ts[i] with
  |false=>rw[hb,bm]at ho;simp;exact hO _ ho.symm
  |true=>rw[hb,bE]at ho;simp;rw[um (by omega) (by omega)];refine fB _ _ ⟨vs.length-(i+1),by omega,Back.here (af _) hs ?_ ⟨_,rfl,i+1,by omega,rfl,by simp,ho,rfl⟩⟩;simp[Me,AV.sc,AV.ZJ,AV.ZH,AV.ZI]
 ·obtain rfl:i=vs.length:=by omega
  rw[aV,fz,aV,xO]at ho;simp[SH,fz];exact hO _ ho.symm
theorem zL3{eq:List Dat}{vks ks:List VT}(h1:vks.length=1)(h2:ks.length=1):xF eq vks ks=y0 eq vks (ks[0]'(by omega)):=by
 match vks,ks,h1,h2 with
 |[v],[k],_,_=>simp[xF,y0]
include hD in
theorem yjk:∀(m:Nat) (v:VT),v.ZO≤m→v.ZO≤1000000→SN eq v:=by
 intro m;induction m with
 |zero=>intro v h;have:=v.ZB;omega
 |succ m ih=>
  intro v hm hb t ht H K hK;obtain⟨vk,vn,vks⟩:=v;obtain⟨k,n,ks⟩:=t;refine ge.out (ybV λhs=>?_);have hO:∀b J,uX eq (.mk vk vn vks) (.mk k n ks)=b→Out H.length K (.bool b) (H++J):=λb J h=>Out.bool rfl (af _) hs (h ▸ hK);have gy:=VT.ZQ vks;have kr:(VT.mk vk vn vks).ZO=VT.ZA vks+1:=by simp[VT.ZO]
  have jm:∀x∈vks,SN eq x:=λx hx=>ih x (by have:=Kp (k:=vk) (n:=vn) x hx;omega) (by have:=Fg (k:=vk) (n:=vn) x hx;omega);have gj:=Si ht;have hto:vg eq 0 (.mk k n ks)=true:=by rw[uW,ap]at ht;exact ht.2
  have ky:(VT.mk k n ks).ZO≤200:=by rw[uW,ap]at ht;exact c6 ht.1
  obtain⟨f1,f2,f3⟩:=BP hD.k;have loop:∀ (hk:ks.length=1) ,uX eq (.mk vk vn vks) (.mk k n ks)=y0 eq vks (ks[0]'(by omega)) →
    SF (.sl (eq.map Dat.cs) .none) (.ptr H.length 0) (.ptr (H.length+1) 0) (I6 vks.length) I0 (H++[.cells [I6 vk,I6 vn,.sl (VT.css vks) .none],.cells [I6 k,I6 n,.sl (VT.css ks) .none]]) (Out H.length K):=by
   intro hk e;have jU:0<ks.length:=by omega
   refine ybT (Inv:=λq t10 H'=>∃i:Nat,i≤vks.length∧q=vks.length-i∧t10=I6 i∧y0 eq (vks.drop i) ks[0]=y0 eq vks ks[0]∧H'=H++[.cells [I6 vk,I6 vn,.sl (VT.css vks) .none],.cells [I6 k,I6 n,.sl (VT.css ks) .none]]) vks.length ?_ ?_
   ·intro _;exact⟨0,by omega,by omega,rfl,by simp,rfl⟩
   rintro q t10 H' ⟨i,hi,rfl,rfl,ho,rfl⟩ hsc fS fM Kb fB;by_cases fy:i<vks.length
   ·rw[zL2 fy]at ho;obtain⟨x,y,z,fD,hx,hy,hz⟩:=ve vks[i];obtain⟨x2,y2,z2,gd,gf,lx,oX⟩:=ve ks[0];simp[SG,fy,fD,jU,gd];rw[←fD,←gd];refine ur (.bool (uX eq vks[i] ks[0])) (λJ=>jm _ (ae fy) ks[0] (gj _ (ae jU)) _ _ ⟨rfl,rfl⟩) ?_;cases gF:uX eq vks[i] ks[0] with
    |false=>rw[gF,bm]at ho;simp;exact hO _ _ (e.trans ho.symm)
    |true=>rw[gF,bE]at ho;simp;rw[um (by omega) (by omega)];refine fB _ _ ⟨vks.length-(i+1),by omega,Back.here (by simp) hsc ?_ ⟨_,rfl,i+1,by omega,rfl,by simp,ho,rfl⟩⟩;simp[Mc,AV.sc,AV.ZJ,AV.ZH,AV.ZI]
   ·obtain rfl:i=vks.length:=by omega
    rw[aV,y0]at ho;simp[SG];exact hO _ _ (e.trans ho.symm)
  rcases zPN hto with ⟨rfl,rfl⟩|⟨rfl,rfl⟩|⟨rfl,rfl⟩|rfl|⟨rfl,hk⟩|⟨rfl,hk⟩|⟨rfl,hk⟩|⟨rfl,hk⟩
  ·simp[z8,VT.cs,aa];cases h1:(vk == 3) <;> simp
   ·exact hO _ _ (by simp[uX,h1])
   by_cases h2:-1099511627776≤vn <;> simp[h2]
   ·by_cases h3:vn≤1099511627776 <;> simp[h3]
    ·exact hO _ _ (by simp[uX,h1,h2,h3,i0])
    ·exact hO _ _ (by simp[uX,h1,h2,h3])
   ·exact hO _ _ (by simp[uX,h1,h2])
  ·simp[z8,VT.cs,aa];cases h1:(vk == 2) <;> simp
   ·exact hO _ _ (by simp[uX,h1])
   cases h2:(vn == 0) <;> simp
   ·cases h3:(vn == 1) <;> simp
    ·exact hO _ _ (by simp[uX,h1,h2,h3])
    ·exact hO _ _ (by simp[uX,h1,h2,h3,i0])
   ·exact hO _ _ (by simp[uX,h1,h2,i0])
  ·simp[z8,VT.cs,aa];cases h1:(vk == 1) <;> simp
   ·exact hO _ _ (by simp[uX,h1])
   cases h2:(vn == 0) <;> simp
   ·exact hO _ _ (by simp[uX,h1,h2])
   ·exact hO _ _ (by simp[uX,h1,h2,i0])
  ·-- a eq type
   simp[z8,VT.cs,aa];cases h1:(vk == 5) with
   |false=>
    have:(vk != 5)=true:=by simp[bne,h1]
    simp[this];exact hO _ _ (by simp[uX,h1])
   |true=>
   have iz:(vk != 5)=false:=by simp[bne,h1]
   by_cases h2:vn<0
   ·simp[iz,h2];exact hO _ _ (by simp[uX,h1];omega)
   by_cases h3:8≤vn
   ·simp[iz,h2,h3];exact hO _ _ (by simp[uX,h1];omega)
   simp[iz,h2,h3,aa];have e:∀o,wa eq (.mk 5 n ks) vn=o→uX eq (.mk vk vn vks) (.mk 5 n ks)=BL eq vks o:=λo ho=>by
    have q1:0≤vn:=by omega
    have q2:vn<8:=by omega
    simp[uX,h1,q1,q2,ho]
   have f5:(VT.mk 5 n ks).cs=[I6 5,I6 n,.sl (VT.css ks) .none]:=rfl;rw[←f5];refine QW eq f1 f2 f3 (.mk 5 n ks) (by omega) vn _ _ ?_;cases hf:wa eq (.mk 5 n ks) vn with
   |none=>simp[xC];exact hO _ _ (by rw[e _ hf,zL4])
   |some l=>simp[xC,f5];refine zJS vks l (by omega) jm (Sj hD.ok hto hf) _ _ ?_;exact hO _ _ (by rw[e _ hf,zL5])
  ·simp[z8,VT.cs,aa];cases h1:(vk == 4) <;> simp
   ·exact hO _ _ (by simp[uX,h1])
   cases h2:(vn == 0) <;> simp
   ·exact hO _ _ (by simp[uX,h1,h2])
   refine zJS vks ks (by omega) jm gj _ _ ?_;exact hO _ _ (by simp[uX,h1,h2])
  ·-- an array
   simp[z8,Fv,VT.cs,aa];have jU:0<ks.length:=by omega
   cases h1:(vk == 6) with
   |false=>
    have:(vk != 6)=true:=by simp[bne,h1]
    simp[this];exact hO _ _ (by simp[uX,h1])
   |true=>
   have iz:(vk != 6)=false:=by simp[bne,h1]
   by_cases h3:vks.length≤4096;case neg=>
    have oB:(4096:Int)<vks.length:=by omega
    simp[iz,oB];exact hO _ _ (by simp[uX,h1,h3])
   have oB:¬(4096:Int)<vks.length:=by omega
   cases h2:(vn == 0) with
   |false=>
    have:(vn != 0)=true:=by simp[bne,h2]
    simp[iz,oB,this];exact hO _ _ (by simp[uX,h1,h2])
   |true=>
   have n8:(vn != 0)=false:=by simp[bne,h2]
   simp[iz,oB,n8];exact loop hk (by have:=zLX jU;simp[uX,h1,h2,h3,this,jU])
  ·simp[z8,Fv,VT.cs,aa];have jU:0<ks.length:=by omega
   cases h1:(vk == 7) with
   |false=>
    have:(vk != 7)=true:=by simp[bne,h1]
    simp[this];exact hO _ _ (by simp[uX,h1])
   |true=>
   have iz:(vk != 7)=false:=by simp[bne,h1]
   by_cases h3:vks.length=1;case neg=>
    have oB:((vks.length:Int) != 1)=true:=by simp;omega
    simp[iz,oB];refine hO _ _ ?_;have:xF eq vks ks=false:=by rw[SJ];exact Rw (by omega)
    simp[uX,h1,this]
   have oB:((vks.length:Int) != 1)=false:=by simp;omega
   cases h2:(vn == 0) with
   |false=>
    have:(vn != 0)=true:=by simp[bne,h2]
    simp[iz,oB,this];exact hO _ _ (by simp[uX,h1,h2])
   |true=>
   have n8:(vn != 0)=false:=by simp[bne,h2]
   simp[iz,oB,n8];exact loop hk (by rw[←zL3 h3 hk];simp[uX,h1,h2])
  ·simp[z8,Fv,VT.cs,aa];cases h1:(vk == 8) <;> simp
   ·exact hO _ _ (by simp[uX,h1])
   by_cases h2:0≤vn <;> simp[h2]
   ·by_cases h3:vn<64 <;> simp[h3]
    ·exact hO _ _ (by simp[uX,h1,h2,h3,i0])
    ·exact hO _ _ (by simp[uX,h1,h2,h3])
   ·exact hO _ _ (by simp[uX,h1,h2])
end
def zMf{eq:List Dat}(h:vj eq):LC eq:=λD hD=>by obtain⟨_,h2⟩:=h;obtain⟨_,h3,h4⟩:=h2 D hD;refine⟨by omega,λc hc=>?_⟩;obtain⟨_,h5,h6⟩:=h4 c hc;exact⟨by omega,λx hx=>by have:=h6 x hx;omega⟩
theorem zAM{eq:List Dat}:∀ {l:List Dat} {d:Nat},yf eq l d=true→∀ D∈l,D.cons.length≤8
 |[],_,_,D,h=>by cases h
 |E::l,d,h,D,hD=>by
  simp only[yf,ap]at h;rcases aT.1 hD with rfl|hD
  ·have:=h.1;simp only[xR,ap,bc]at this;exact this.1.2
  ·exact zAM h.2 D hD
def BQ{eq:List Dat}{t:VT}(h:wC eq t=true):∀D∈eq,D.cons.length≤8:=by simp only[wC,vM,ap]at h;exact zAM h.1.1.1.2
def xU(eq:List Dat)(t:VT)(v:IT):Int:=if wC eq t then rdV eq v t else -1
def SO(eq:List Dat)(hk:vj eq)(t:VT)(ht:t.ZO≤1000000)(H:or)(K:Kt)(hK:K (.bool (wC eq t)) H):ge tP 73 [.sl (eq.map Dat.cs) .none,.agg t.cs] H K:=by
 refine ge.out (ydA λhs=>?_);obtain⟨x,y,z,fD,hx,hy,hz⟩:=ve t;simp[zI4,ug,uv,fD,aa];refine zRX eq (zMf hk) (by have:=hk.1;omega) ?_;unfold wC at hK;cases hd:vM eq with
 |false=>rw[hd]at hK;simp;exact Out.bool rfl (af _) hs hK
 |true=>rw[hd,bE]at hK;simp;rw[←fD];refine zFc eq 0 t (by omega) _ _ ?_;exact Out.bool rfl (af _) hs hK
def zIy(eq:List Dat)(hk:vj eq)(t:VT)(ht:t.ZO≤1000000)(H:or)(K:Kt)(hK:K (.bool (wC eq t)) H):ge tP 53 [.sl (eq.map Dat.cs) .none,.agg t.cs] H K:=by
 refine ge.out (ybZ λhs=>?_);obtain⟨x,y,z,fD,hx,hy,hz⟩:=ve t;simp[zIx,fD,aa];refine ybN eq hk _ _ λb hb=>?_;have tj:b=vM eq:=by rw[dj,hb,zLv]
 subst tj;unfold wC at hK;cases hd:vM eq with
 |false=>rw[hd]at hK;simp;exact Out.bool rfl (af _) hs hK
 |true=>rw[hd,bE]at hK;simp;rw[←fD];refine zIw eq (by have:=hk.1;omega) 0 t (by omega) _ _ ?_;exact Out.bool rfl (af _) hs hK
def Dt(eq:List Dat)(hk:vj eq)(t:VT)(ht:t.ZO≤1000)(v:IT)(hv:v.ZO≤900)(H:or)(K:Kt)(hK:K (I6 (xU eq t v)) H):ge tP 40 [.sl (eq.map Dat.cs) .none,.agg t.cs,.agg v.cs] H K:=by
 refine ge.out (yaP λhs=>?_);have hO:∀r J,xU eq t v=r→Out H.length K (I6 r) (H++J):=λr J h=>by subst h;exact Out.int rfl (af _) hs hK
 obtain⟨x,y,z,fD,hx,hy,hz⟩:=ve t;obtain⟨x2,y2,gd,gf,lx⟩:=it2 v;simp[zId,fD,gd,aa];rw[←fD];refine SO eq hk t (by omega) _ _ ?_;cases hf:wC eq t with
 |false=>simp;exact hO _ _ (by simp[xU,hf])
 |true=>
  have h8:=BQ hf;obtain⟨g1,g2⟩:=Ft h8 v t;simp[aa];rw[←gd];refine ydH hk h8 _ v (af _) hv t ht _ _ ?_;cases hb:(xe eq v t).2 with
  |false=>simp;exact hO _ _ (by simp[xU,hf,g2 hb])
  |true=>simp;exact hO _ _ (by simp[xU,hf,(g1 hb).1])
def SP(eq:List Dat)(hk:vj eq)(t:VT)(ht:t.ZO≤1000)(v:IT)(hv:v.ZO≤900)(H:or)(K:Kt)(hK:K (I6 (xU eq t v)) H):ge tP 23 [.sl (eq.map Dat.cs) .none,.agg t.cs,.agg v.cs] H K:=by
 refine ge.out (zYk λhs=>?_);have hO:∀r J,xU eq t v=r→Out H.length K (I6 r) (H++J):=λr J h=>by subst h;exact Out.int rfl (af _) hs hK
 obtain⟨x,y,z,fD,hx,hy,hz⟩:=ve t;obtain⟨x2,y2,gd,gf,lx⟩:=it2 v;simp[zHc,fD,gd,aa];rw[←fD];refine zIy eq hk t (by omega) _ _ ?_;cases hf:wC eq t with
 |false=>simp;exact hO _ _ (by simp[xU,hf])
 |true=>have h8:=BQ hf;simp[aa];rw[←gd];refine zIM hk h8 _ v (af _) hv t ht _ _ ?_;exact hO _ _ (by simp[xU,hf])
def zRK(eq:List Dat)(hk:vj eq)(t:VT)(ht:t.ZO≤1000)(v:IT)(hv:v.ZO≤900)(H:or)(K:Kt)(hK:K (.bool (decide (0≤xU eq t v))) H):ge tP 119 [.sl (eq.map Dat.cs) .none,.agg t.cs,.agg v.cs] H K:=by refine ge.out (zRJ λhs=>?_);obtain⟨x,y,z,fD,hx,hy,hz⟩:=ve t;obtain⟨x2,y2,gd,gf,lx⟩:=it2 v;simp[zE3,fD,gd,aa];rw[←fD,←gd];refine Dt eq hk t ht v hv _ _ ?_;simp;exact Out.bool rfl (af _) hs (by simpa using hK)
def zZU(eq:List Dat)(hk:vj eq)(t:VT)(ht:t.ZO≤1000)(v:IT)(hv:v.ZO≤900)(H:or)(K:Kt)(hK:K (.bool (decide (0≤xU eq t v))) H):ge tP 28 [.sl (eq.map Dat.cs) .none,.agg t.cs,.agg v.cs] H K:=by refine ge.out (zZT λhs=>?_);obtain⟨x,y,z,fD,hx,hy,hz⟩:=ve t;obtain⟨x2,y2,gd,gf,lx⟩:=it2 v;simp[zHK,fD,gd,aa];rw[←fD,←gd];refine SP eq hk t ht v hv _ _ ?_;simp;exact Out.bool rfl (af _) hs (by simpa using hK)
def ycw(eq:List Dat)(hk:vj eq)(t:VT)(ht:t.ZO≤1000)(H:or)(K:Kt)(hK:wC eq t=true→K (.tup [.agg (wL t).cs,.bool true]) H)(hf:wC eq t=true):
  ge tP 60 [.sl (eq.map Dat.cs) .none,.agg t.cs] H K:=by
 refine ge.out (YJ λhs=>?_);obtain⟨x,y,z,fD,hx,hy,hz⟩:=ve t;simp[Qn,fD,hx,hy,hz];rw[←fD];refine SO eq hk t (by omega) _ _ ?_;simp[hf,fD,hx,hy,hz];rw[←fD];refine zRk _ t (af _) (by omega) _ _ ?_;obtain⟨p,q,hzz,hp,hq⟩:=yb (wL t);have hK:=hK hf;rw[hzz]at hK ⊢;simp[hp,hq];refine⟨⟨rfl,rfl⟩,?_⟩;exact Out.tup (bs:=[.agg [p,q],.bool true]) hs hK ⟨uJ rfl (by have:=(wL t).cs_scA H.length;rw[hzz]at this;simpa[AV.ZJ]using this),uJ rfl rfl,trivial⟩
section
open Go.Proofs (sortWorld ltOf CmpLays1)
open Go.RowKit
open Go.Sort (grow putRow putCells mapBlock onCells ahead SWO PermIn SortedIn Holds)
variable {P:Program} {B:Nat} {w:World} {G:Gh} {H:or}
theorem zL0{W w':World}(hd:W.drawn≤w'.drawn)(hb:Below W.heap.size W w'):∃q os,w'=grow (W.drewN q) os:=by
 refine⟨w'.drawn-W.drawn,w'.heap.extract W.heap.size w'.heap.size,?_⟩;obtain⟨h1,h2,h3,h4,h5⟩:=hb;obtain⟨heap,tape,drawn,os,output⟩:=W;obtain⟨l0,tape',drawn',os',output'⟩:=w';simp only at *;subst h1 h2 h3;have e1:l0=heap++l0.extract heap.size l0.size:=by
  refine Array.ext_getElem? λi=>?_;by_cases hi:i<heap.size
  ·rw[Array.getElem?_append_left hi,h5 i hi]
  ·rw[Array.getElem?_append_right (by omega),Array.getElem?_extract];by_cases h:i<l0.size
   ·rw[aN (by omega),show heap.size+(i-heap.size)=i by omega]
   ·rw[aG (by omega),eQ (by omega)]
 have e2:drawn'=drawn+(drawn'-drawn):=by omega
 simp only[grow,World.drewN];rw[←e1,←e2]
theorem tU.alone(h:tU B w G H)(o:Obj):Ext B w G (w.alloc o) G∧tU B (w.alloc o) G H:=by have he:=Ext.alloc h o G.L (λ_ _=>rfl) [];simp only[aP]at he;refine⟨he,h.keep he rfl (λid gi b h1 h2=>⟨yk (h.lt id gi b h1 h2),rfl⟩) (λb hb=>?_)⟩;rw[wR]at hb;exact h.fresh b (by omega)
theorem tU.grown:∀ (os:List Obj) {w:World},tU B w G H→Ext B w G (grow w os.toArray) G∧tU B (grow w os.toArray) G H
 |[],w,h=>by
  have:grow w #[]=w:=by simp[grow]
  rw[show ([]:List Obj).toArray=#[] from rfl,this];exact⟨Ext.refl _ _ _,h⟩
 |o::l,w,h=>by
  obtain⟨h1,h2⟩:=h.alone o;obtain⟨h3,h4⟩:=tU.grown l h2;have:grow w (o::l).toArray=grow (w.alloc o) l.toArray:=by rw[Go.Sort.alloc_eq_grow,Go.Sort.grow_grow];simp
  rw[this];exact⟨h1.trans h3,h4⟩
theorem zNq{α:Type}[Inhabited α](vals:α→Value)(d:Array α)(cur:Array Value)(h:d.size≤cur.size):(putCells vals 0 d cur).toList.take d.size=d.toList.map vals:=by refine bU (by simp[putCells];omega) λi h1 h2=>?_;simp at h2;simp[putCells,h2]
theorem zAW{α:Type}(d:Array α){k:Nat}(h:d.size=k):d.extract 0 k=d:=by subst h;exact Array.extract_size
theorem zMN(n:Nat):((Array.ofFn λi:Fin n=>i).toList.map Fin.val)=List.range n:=
 bU (by simp) λi h1 h2=>by simp only[cS,Array.getElem_toList,Array.getElem_ofFn,cU]
theorem zOF{α:Type}[Inhabited α](vals:α→Value)(w:World)(g m:Nat)(d:Array α)(os:Array Obj):w.heap.size≤(sortWorld vals w g 0 m d os).heap.size:=by unfold sortWorld;simp[grow]
theorem zOE{α:Type}[Inhabited α](vals:α→Value)(w:World)(g m:Nat)(d:Array α)(os:Array Obj)(a:Addr)(h1:a.block≠g)(h2:a.block<w.heap.size):(sortWorld vals w g 0 m d os).cell? a=w.cell? a:=by unfold sortWorld;rw[Go.Sort.cell?_grow _ _ _ (by rw[Go.Sort.size_putRow];exact h2),Go.Sort.cell?_putRow_other vals _ g 0 d a (Or.inl h1)];rfl
end
section
open Go.RowKit
variable {P:Program} {B:Nat} {w:World} {G:Gh} {H:or}
end
def uz:IT→List IT
 |.mk _ ks=>ks
mutual
theorem zP4:∀ t:VT,(wL t).ZO≤t.ZO
 |.mk k n ks=>by
  have:=zED ks;simp only[wL,VT.ZO,IT.ZO];split
  ·omega
  ·simp[IT.ZA]
theorem zED:∀ ts:List VT,IT.ZA (wu ts)≤VT.ZA ts
 |[]=>by simp[wu,IT.ZA,VT.ZA]
 |t::ts=>by have:=zP4 t;have:=zED ts;simp only[wu,IT.ZA,VT.ZA];omega
end
def d0:IT:=.mk 0 []
def tz:VT:=.mk 0 0 []
def Fz{eq:List Dat}(m n:Int)(kk:List IT)(ks:List VT):rdV eq (.mk m kk) (.mk 5 n ks)=if m=0∧kk.length≤6 then rdE eq kk (.mk 5 n ks) 0 else -1:=by simp[rdV,VT.kind]
mutual
theorem zP5{eq:List Dat}:∀ x:VT,rdV eq (wL x) x=0
 |.mk k n ks=>by
  have hA:=zEE (eq:=eq) ks 0 (by omega) (by omega);by_cases h6:k=6
  ·subst h6;have:rdV eq (wL (.mk 6 n ks)) (.mk 6 n ks)=rdA eq (wu ks) ks 0:=by simp[wL,rdV,VT.kind,VT.kids,Fh]
   rw[this,hA]
  ·by_cases h7:k=7
   ·subst h7;simp[wL,rdV,VT.kind]
   ·by_cases h5:k=5
    ·subst h5;simp[wL,rdV,VT.kind,rdE]
    ·simp[wL,rdV,VT.kind,h6,h7,h5]
theorem zEE{eq:List Dat}:∀ (ts:List VT) (a:Int),0≤a→a≤6→rdA eq (wu ts) ts a=a
 |[],a,_,_=>by simp only[wu,rdA]
 |t::ts,a,h,h6=>by have h1:=zP5 (eq:=eq) t;rw[wu,zCT,h1,aG (by omega),Int.add_zero,zEE ts a h h6]
end
theorem Mh{eq:List Dat}(h8:∀ D∈eq,D.cons.length≤8)(t:VT):∀ (rs:List (List IT)) (a:Int),0≤a→a≤6→0≤rdE eq rs.flatten t a→(∀ r∈rs,0≤rdE eq r t 0)∧rdE eq rs.flatten t a=a+(rs.map λr=>rdE eq r t 0).sum
 |[],a,h,h6,_=>by simp only[List.flatten_nil,rdE];simp
 |r::rs,a,h,h6,hd=>by
  rw[List.flatten_cons,Sk h8 _ _ _ _ h h6,LG r t a h h6]at hd ⊢;by_cases hr:rdE eq r t 0<0∨a+rdE eq r t 0>6
  ·rw[yy hr]at hd;simp at hd
  ·rw[BN (by omega) (by omega)]at hd ⊢;rw[aG (by omega)]at hd ⊢;obtain⟨g1,g2⟩:=Mh h8 t rs _ (by omega) (by omega) hd;refine⟨λx hx=>?_,by rw[g2];simp;omega⟩;rcases aT.1 hx with rfl | hx
   ·omega
   ·exact g1 x hx
theorem Du{eq:List Dat}:∀ (vs:List IT) (ts:List VT) (a:Int),0≤a→vs.length=ts.length→0≤rdA eq vs ts a→(∀ k (h1:k<vs.length) (h2:k<ts.length),0≤rdV eq vs[k] ts[k])∧rdA eq vs ts a=a+(List.zipWith (rdV eq) vs ts).sum
 |[],[],a,h,_,_=>by simp only[rdA];simp
 |[],_::_,_,_,hl,_=>by simp at hl
 |_::_,[],_,_,hl,_=>by simp at hl
 |v::vs,t::ts,a,h,hl,hd=>by
  rw[zCT]at hd ⊢;by_cases hr:rdV eq v t<0∨a+rdV eq v t>6
  ·rw[aN hr]at hd;omega
  ·rw[aG hr]at hd ⊢;obtain⟨g1,g2⟩:=Du vs ts _ (by omega) (by simpa using hl) hd;refine⟨λk h1 h2=>?_,by rw[g2];simp;omega⟩;cases k with
   |zero=>simp;omega
   |succ k=>simpa using g1 k (by simpa using h1) (by simpa using h2)
def xu{α:Type}:List (α→Nat)→List α→Nat
 |[],_=>1
 |_::_,[]=>0
 |w::ws,n::ns=>w n*xu ws ns+xu (w::ws) ns
def BR(l:List Nat):Nat:=l.foldr (·+·) 0
@[simp] theorem yi6:BR []=0:=rfl
@[simp] theorem zDO(a:Nat)(l:List Nat):BR (a::l)=a+BR l:=rfl
def zOd{α:Type}(ws:List (α→Nat))(a:α)(l:List α):xu ws l≤xu ws (a::l):=by cases ws <;> simp[xu]
theorem zDj{α:Type}(w:α→Nat)(ws:List (α→Nat)):∀ l:List α,xu (w::ws) l≤BR (l.map w)*xu ws l
 |[]=>by simp[xu]
 |a::l=>by have ih:=zDj w ws l;have h1:=zOd ws a l;simp only[xu,aL,zDO,bp];have h2:w a*xu ws l≤w a*xu ws (a::l):=bf _ h1;have h3:BR (l.map w)*xu ws l≤BR (l.map w)*xu ws (a::l):=bf _ h1;omega
theorem zDP{α:Type}{w:α→Nat}{b:Nat}:∀ l:List α,(∀ a∈l,w a≤b)→BR (l.map w)≤l.length*b
 |[],_=>by simp
 |a::l,h=>by have h1:=h a (by simp);have h2:=zDP l (λx hx=>h x (by simp[hx]));simp only[aL,zDO,List.length_cons,bD];omega
def chs:Nat→Nat→Nat
 |_,0=>1
 |0,_+1=>0
 |n+1,k+1=>chs n k+chs n (k+1)
@[simp] theorem zLa(n:Nat):chs n 0=1:=by cases n <;> rfl
theorem FA:∀ {n k:Nat},n<k→chs n k=0
 |0,k+1,_=>rfl
 |n+1,k+1,h=>by rw[chs,FA (by omega),FA (by omega)]
theorem Mi:∀ (n k:Nat),(k+1)*chs n (k+1)=chs n k*(n-k)
 |0,k=>by simp[chs]
 |n+1,0=>by have:=Mi n 0;simp only[chs,zLa]at this ⊢;omega
 |n+1,k+1=>by
  have h1:=Mi n k;have h2:=Mi n (k+1);simp only[chs];rw[show n+1-(k+1)=n-k by omega];by_cases hk:k+1≤n
  ·obtain⟨m,rfl⟩:∃m,n=k+1+m:=⟨n-(k+1),by omega⟩;rw[show k+1+m-k=m+1 by omega]at h1 ⊢;rw[show k+1+m-(k+1)=m by omega]at h2;grind
  ·rw[FA (show n<k+1 by omega),FA (show n<k+1+1 by omega),show n-k=0 by omega];simp
theorem Mj:∀ (n k:Nat),chs n k≤n ^ k
 |n,0=>by simp
 |0,k+1=>by simp[chs]
 |n+1,k+1=>by have h1:=Mj n k;have h2:=Mj n (k+1);have h3:n ^ k≤(n+1) ^ k:=en (by omega) k;simp only[chs,Nat.pow_succ]at h2 ⊢;have h4:n ^ k*n≤(n+1) ^ k*n:=aD _ h3;rw[dW];omega
mutual
def atV(eq:List Dat):IT→VT→VT→Nat
 |.mk n ks,t,v=>
  if t.kind=6 then atL eq ks t.kids v.kids
  else if t.kind=7 then chs v.kids.length n.toNat
  else if t.kind=5 then xu (BS eq ks t) (BM (y4 eq t.num.toNat) v)
  else 1
def atL(eq:List Dat):List IT→List VT→List VT→Nat
 |[],_,_=>1
 | i::l,ts,vs=>match ts,vs with
  |t::ts,v::vs=>atV eq i t v*atL eq l ts vs
  |_,_=>1
def BS(eq:List Dat):List IT→VT→List (VT→Nat)
 |[],_=>[]
 |e::es,t=>Mk eq e t::BS eq es t
def Mk(eq:List Dat):IT→VT→VT→Nat
 |.mk c ks,t,n=>if n.num=c then atL eq ks ((vt eq t c).getD []) (pick n.kids ((y4 eq t.num.toNat).getD c.toNat [])) else 0
end
mutual
theorem zKO(eq:List Dat):∀ (t v:VT),atV eq (wL t) t v=1
 |.mk k n ks,v=>by
  have:=zAb eq ks v.kids;unfold wL;rw[atV];by_cases h6:k=6
  ·simp[h6,VT.kind,VT.kids];simpa[VT.kids]using this
  ·by_cases h7:k=7
   ·simp[h6,h7,VT.kind,VT.kids]
   ·simp only[h6,VT.kind,ba,h7];split <;> simp[BS,xu]
theorem zAb(eq:List Dat):∀ (ts vs:List VT),atL eq (wu ts) ts vs=1
 |[],vs=>by simp[wu,atL]
 |t::ts,[]=>by simp[wu,atL]
 |t::ts,v::vs=>by simp[wu,atL,zKO eq t v,zAb eq ts vs]
end
@[simp] theorem yhD(k:AV→Prop):ut [] k=k (.tup []):=by simp[ut]
def zPE{n:Nat}{H2 J H':or}{K:Kt}(he:H'=H2++J)(hn:n≤H2.length)(hs:HSc H2)(h:K (.tup []) H2):Out n K (.tup []) H':=by subst he;exact⟨.tup [],H2,J,rfl,hn,hs,.tup trivial,h⟩
section
variable {H J:or} {io iv ir is:Nat} {rs:List (List Bool)} {l l':List VT}
end
section
variable (t0 t1 t12 t13:AV) (H:or) (K:Kt) (Kb4:Lt)
def zXI(_:Nat):List Bool:=[]
def zGR:=ul t0 H λt2 H=>ul t1 H λt3 H=>tN 0 t2 λt5=>tL false 1 t5 H λt6=>tN 0 t3 λt7=>tL false 1 t7 H λt8=>gt .eql true t6 t8 λt9=>agu t9 true H (tN 1 t2) λt11 H=>agu t9 true H (tL false 1 t11 H) λt12 H=>agu t9 true H (tN 1 t3) λt13 H=>agu t9 true H (tL false 1 t13 H) λt14 H=>agc tP t9 true H 55 [t12,t14] λt15 H=>tZ t9 t15 (.bool false) λt16=>agu t16 true H (tN 2 t2) λt18 H=>agu t16 true H (tL false 1 t18 H) λt19 H=>agu t16 true H (tN 2 t3) λt20 H=>agu t16 true H (tL false 1 t20 H) λt21 H=>agc tP t16 true H 55 [t19,t21] λt22 H=>tZ t16 t22 (.bool false) λt23=>K t23 H
def Ml:Nat→List Bool|4=>rl false [0,2,10,2,12]|_=>[]
noncomputable def zyj:=bd Tryz.f55
def Mm:=t0::t1::ux 10 (t12::t13::ux 12 [])
def yb7:=Ml 4
noncomputable def yb5:=uc [1,1,0,1,0,0] zyj
def yb4:=ud tP Ml [1,1,0,1,0] zyj (uq tP Tryz.f55.results.toList K)
def zIB:=tM tP yb5 (yb4 K) (Mm t0 t1 t12 t13) H
def SQ:=gt .lss false t13 t12 λt14=>tO t14 (apm H t0 λt16=>apm H t13 λt17=>apu H (tW 1 t16 t17) λt18=>apu H (tY false 1 t18 H) λt19=>apm H t1 λt20=>apm H t13 λt21=>apu H (tW 1 t20 t21) λt22=>apu H (tY false 1 t22 H) λt23=>apu H (gt .neq false t19 t23) λt24=>tO t24 (K (.bool false) H) (gt .add false t13 I1 λt25=>Kb4 (Mm t0 t1 t12 t25) H)) (K (.bool true) H)
def zIA:=tV 1 t0 λt7=>tV 1 t1 λt9=>gt .neq false t7 t9 λt10=>tO t10 (K (.bool false) H) (tV 1 t0 λt12=>zIB t0 t1 t12 I0 H K)
variable {t0 t1 t12 t13} {H} {K} {Kb4}
def zXK(h:HSc H→zGR t0 t1 H K):ge tP 21 [t0,t1] H K:=
 acb zXI Tryz.func21 h
def yb6:Lo1 (λt13=>Mm t0 t1 t12 t13) (λt13 H Kb4=>SQ t0 t1 t12 t13 H K Kb4) t13 H (zIB t0 t1 t12 t13 H K):=lq1 Ml yb7
def yb8(h:HSc H→zIA t0 t1 H K):ge tP 55 [t0,t1] H K:=
 acb Ml Tryz.func55 h
end
section
open Go.RowKit
def zNm(rs:List (List Bool))(b:Nat):∀v:VT,v.ZO≤b→∀x∈BM rs v,x.ZO≤b:=by
 intro v;induction hm:v.ZO using Nat.strongRecOn generalizing v with
 |_ m ih=>
  intro hb x hx;obtain⟨k,n,ks⟩:=v;have key:∀(l:List VT) (bs:List Bool),(∀y∈l,y.ZO<m)→∀x∈zx rs l bs,x.ZO≤b:=by
   intro l;induction l with
   |nil=>intro bs _ x hx;simp[zx]at hx
   |cons y l ihl=>
    intro bs hy x hx
    match bs with
    |[]=>simp[zx]at hx
    |c::bs=>
     simp only[zx,bg]at hx;rcases hx with hx|hx
     ·split at hx
      ·have h1:=hy y (by simp);exact ih _ h1 y rfl (by omega) x hx
      ·simp at hx
     ·exact ihl bs (λz hz=>hy z (by simp[hz])) x hx
  simp only[BM,aT]at hx;rcases hx with rfl|hx
  ·omega
  ·exact key ks _ (λy hy=>by have:=Kp (k:=k) (n:=n) y hy;omega) x hx
end
theorem SR{eq:List Dat}:∀ (l:List IT) (ts:List VT) (a:Int),0≤a→0≤rdA eq l ts a→a≤rdA eq l ts a
 |[],ts,a,_,_=>by rw[rdA];exact Int.le_refl _
 |i::l,[],a,_,h=>by simp[rdA]at h
 |i::l,t::ts,a,ha,h=>by
  simp only[rdA]at h ⊢;by_cases hc:rdV eq i t<0∨a+rdV eq i t>6
  ·rw[aN hc]at h;omega
  ·rw[aG hc]at h ⊢;have:=SR l ts _ (by omega) h;omega
mutual
theorem zKN{eq:List Dat}{N:Nat}(hN:1≤N):∀(i:IT) (t v:VT),v.ZO≤N→0≤rdV eq i t→atV eq i t v≤N ^ (rdV eq i t).toNat
 |.mk n ks,t,v,hv,hd=>by
  have oe:∀x∈v.kids,x.ZO≤N:=by obtain⟨a,b,c⟩:=v;intro x hx;simp only[VT.kids]at hx;have:=Kp (k:=a) (n:=b) x hx;omega
  rw[rdV]at hd ⊢;rw[atV];by_cases h6:t.kind=6
  ·simp only[h6,br]at hd ⊢;by_cases hn:n=0
   ·by_cases hl:t.kids.length=ks.length
    ·simp only[hn,hl,br]at hd ⊢;have:=SS hN ks t.kids v.kids 0 (by omega) oe hd;simpa using this
    ·simp[hn,hl]at hd
   ·simp[hn]at hd
  ·by_cases h7:t.kind=7
   ·simp only[h6,h7,ba,br]at hd ⊢;by_cases hc:0≤n∧n≤6∧ks.length=0
    ·simp only[hc,and_self,br]at hd ⊢;simp;refine aC (Mj _ _) (en ?_ _);obtain⟨a,b,c⟩:=v;have:=VT.ZQ c;simp only[VT.kids,VT.ZO]at hv ⊢;omega
    ·rw[aG hc]at hd;omega
   ·by_cases h5:t.kind=5
    ·simp only[h6,h7,h5,ba,br]at hd ⊢;by_cases hc:n=0∧ks.length≤6
     ·simp only[hc,and_self,br]at hd ⊢;have gQ:=zCJ (y4 eq t.num.toNat) v;have:=zDk hN ks t (BM (y4 eq t.num.toNat) v) 0 (by omega) (by omega) (zNm _ N v hv) hd;simpa using this
     ·rw[aG hc]at hd;omega
    ·simp only[h6,h7,h5,ba]at hd ⊢;exact dS hN
theorem SS{eq:List Dat}{N:Nat}(hN:1≤N):∀(l:List IT) (ts vs:List VT) (a:Int),0≤a→(∀x∈vs,x.ZO≤N)→0≤rdA eq l ts a→atL eq l ts vs≤N ^ (rdA eq l ts a-a).toNat
 |[],ts,vs,a,_,_,_=>by rw[atL];exact dS hN
 |i::l,[],vs,a,_,_,_=>by simp only[atL];exact dS hN
 |i::l,t::ts,[],a,_,_,_=>by simp only[atL];exact dS hN
 |i::l,t::ts,v::vs,a,ha,hv,hd=>by
  simp only[rdA]at hd ⊢;by_cases hc:rdV eq i t<0∨a+rdV eq i t>6
  ·rw[aN hc]at hd;omega
  ·rw[aG hc]at hd ⊢;have h1:=zKN (eq:=eq) hN i t v (hv v (by simp)) (by omega);have h2:=SS hN l ts vs (a+rdV eq i t) (by omega) (λx hx=>hv x (by simp[hx])) hd;have gW:=(SR l ts (a+rdV eq i t) (by omega) hd);simp only[atL];refine aC (aZ h1 h2) ?_;rw[←dU];exact bi hN (by omega)
theorem zDk{eq:List Dat}{N:Nat}(hN:1≤N):∀(es:List IT) (t:VT) (ZO:List VT) (a:Int),0≤a→ZO.length≤N→(∀x∈ZO,x.ZO≤N)→0≤rdE eq es t a→xu (BS eq es t) ZO≤N ^ (rdE eq es t a-a).toNat
 |[],t,ZO,a,_,_,_,_=>by simp only[BS,xu];exact dS hN
 |.mk c ks::es,t,ZO,a,ha,hl,hv,hd=>by
  rw[z7]at hd ⊢;by_cases hc:c<0∨8≤c
  ·rw[aN hc]at hd;omega
  ·rw[aG hc]at hd ⊢;cases hp:vt eq t c with
   |none=>rw[hp]at hd;simp at hd
   |some ps=>
    rw[hp]at hd;simp only at hd ⊢;by_cases fz:ps.length=ks.length
    ·rw[aN fz]at hd ⊢;by_cases hx:rdA eq ks ps 0<0∨a+1+rdA eq ks ps 0>6
     ·rw[aN hx]at hd;omega
     ·rw[aG hx]at hd ⊢;have h2:=zDk hN es t ZO (a+(1+rdA eq ks ps 0)) (by omega) hl hv hd;have hw:∀x∈ZO,Mk eq (.mk c ks) t x≤N ^ (rdA eq ks ps 0).toNat:=by
       intro x hxm;rw[Mk];split
       ·rw[hp];have hpk:∀ y∈pick x.kids ((y4 eq t.num.toNat).getD c.toNat []),y.ZO≤N:=by intro y hy;have h3:=hv x hxm;obtain⟨p,q,r⟩:=x;have nR:y∈r:=Ds hy;have:=Kp (k:=p) (n:=q) y nR;omega
        have:=SS (eq:=eq) hN ks ps (pick x.kids ((y4 eq t.num.toNat).getD c.toNat [])) 0 (by omega) hpk (by omega);simpa using this
       ·exact bM _
      have h3:=zDj (Mk eq (.mk c ks) t) (BS eq es t) ZO;have h4:=zDP ZO hw;have gW:rdE eq es t (a+(1+rdA eq ks ps 0))=-1∨(a+(1+rdA eq ks ps 0))+es.length≤rdE eq es t (a+(1+rdA eq ks ps 0)):=LF es t _ (by omega);rw[BS];refine aC h3 (aC (aZ (aC h4 (aD _ hl)) h2) ?_);rw[show N*N ^ (rdA eq ks ps 0).toNat=N ^ ((rdA eq ks ps 0).toNat+1) by rw[Nat.pow_succ,bh],←dU];exact bi hN (by omega)
    ·rw[aG fz]at hd;omega
end
def uT:IT→Int
 |.mk n _=>n
def bef(e i:IT):IT:=.mk 0 (e::uz i)
def fct:Nat→Nat
 |0=>1
 |n+1=>(n+1)*fct n
def pcf(a b k:Nat):Nat:=if max a b≤k then fct k / (fct (k-a)*fct (k-b)*fct (a+b-k)) else 0
def u9(a b:Nat):List (IT×Nat):=(List.range (a+b+1)).map λ(k:Nat)=>(.mk (k:Int) [],pcf a b k)
def vZ(out:List (List IT×Nat))(ws:List (IT×Nat)):List (List IT×Nat):=ws.flatMap λw=>out.map λr=>(r.1++[w.1],r.2*w.2)
mutual
def we(eq:List Dat):Nat→VT→IT→IT→List (IT × Nat)
 |0,_,_,_=>[]
 | f+1,t,i,j=>if t.kind=6 then uu [] ((wU eq f t.kids (uz i) (uz j)).map λr=>(.mk 0 r.1,r.2))
  else if t.kind=7 then uu [] (u9 (uT i).toNat (uT j).toNat)
  else if t.kind=5 then uu [] (uM eq f t (uz i) (uz j)) else [(.mk 0 [],1)]
def wU(eq:List Dat):Nat→List VT→List IT→List IT→List (List IT × Nat)
 |0,_,_,_=>[]
 |f+1,ts,l,m=>(List.range ts.length).foldl (λout k=>vZ out (we eq f (ts.getD k tz) (l.getD k d0) (m.getD k d0))) [([],1)]
def uM(eq:List Dat):Nat→VT→List IT→List IT→List (IT × Nat)
 |0,_,_,_=>[]
 |f+1,t,[],m=>[(.mk 0 m,1)]
 |f+1,t,a::l,[]=>[(.mk 0 (a::l),1)]
 |f+1,t,a::l,b::m=>
  if uT a≠uT b then uu (uu [] ((uM eq f t l (b::m)).map λw=>(bef a w.1,w.2))) ((uM eq f t (a::l) m).map λw=>(bef b w.1,w.2))
  else uu (uu (uu [] ((uM eq f t l (b::m)).map λw=>(bef a w.1,w.2))) ((uM eq f t (a::l) m).map λw=>(bef b w.1,w.2)))
   ((wU eq f ((vt eq t (uT a)).getD []) (uz a) (uz b)).flatMap λr=>(uM eq f t l m).map λw=>(bef (.mk (uT a) r.1) w.1,r.2*w.2))
end
def vw(g:List IT→Nat)(s:List (List IT×Nat)):Nat:=(s.map λr=>r.2*g r.1).foldr (·+·) 0
@[simp] theorem yi7(g:List IT→Nat):vw g []=0:=rfl
@[simp] theorem BT(g:List IT→Nat)(r:List IT×Nat)(s:List (List IT×Nat)):vw g (r::s)=r.2*g r.1+vw g s:=rfl
theorem FB(g:List IT→Nat):∀ a b,vw g (a++b)=vw g a+vw g b
 |[],b=>by simp
 |p::a,b=>by simp[FB g a b];omega
theorem Dv{β:Type}(f:IT→Nat)(h:β→IT × Nat):∀ l:List β,uB f (l.map h)=(l.map λx=>(h x).2*f (h x).1).foldr (·+·) 0
 |[]=>rfl
 |x::l=>by simp[Dv f h l]
theorem FC(f g:IT→Nat)(h:IT→IT)(c:Nat)(he:∀ x,f (h x)=c*g x):∀ l:List (IT × Nat),uB f (l.map λw=>(h w.1,w.2))=c*uB g l
 |[]=>by simp
 |w::l=>by rw[aL,yu,yu,FC f g h c he l,he,dW];simp only[bh,Nat.mul_left_comm,ee]
def zNS(g:List IT→Nat)(g':List IT→Nat)(u:IT→Nat)(ws:List (IT×Nat))(out:List (List IT×Nat))(h:∀r∈out,∀w∈ws,g (r.1++[w.1])=g' r.1*u w.1):vw g (vZ out ws)=vw g' out*uB u ws:=by
 unfold vZ;induction ws with
 |nil=>simp
 |cons w ws ih=>
  rw[bj,FB,ih (λr hr x hx=>h r hr x (by simp[hx])),yu,dW];congr 1;have:∀out:List (List IT×Nat),(∀r∈out,g (r.1++[w.1])=g' r.1*u w.1)→vw g (out.map λr=>(r.1++[w.1],r.2*w.2))=vw g' out*(w.2*u w.1):=by
   intro out ho;induction out with
   |nil=>simp
   |cons r out ih=>rw[List.map_cons,BT,BT,ih (λx hx=>ho x (by simp[hx])),ho r (by simp),Nat.add_mul];grind
  exact this out (λr hr=>h r hr w (by simp))
def zC7{out:List (List IT×Nat)}{ws:List (IT×Nat)}{x:List IT×Nat}(h:x∈vZ out ws):∃r∈out,∃w∈ws,x=(r.1++[w.1],r.2*w.2):=by unfold vZ at h;obtain⟨w,hw,h⟩:=cG.1 h;obtain⟨r,hr,rfl⟩:=aF.1 h;exact⟨r,hr,w,hw,rfl⟩
def wA(eq:List Dat)(f:Nat)(ts:List VT)(l m:List IT)(k:Nat):List (List IT×Nat):=(List.range k).foldl (λout k=>vZ out (we eq f (ts.getD k tz) (l.getD k d0) (m.getD k d0))) [([],1)]
def FD(eq:List Dat)(f:Nat)(ts:List VT)(l m:List IT):wA eq f ts l m 0=[([],1)]:=rfl
def Dw(eq:List Dat)(f:Nat)(ts:List VT)(l m:List IT)(k:Nat):wA eq f ts l m (k+1)=vZ (wA eq f ts l m k) (we eq f (ts.getD k tz) (l.getD k d0) (m.getD k d0)):=by rw[wA,c5,List.foldl_append];rfl
def FE(eq:List Dat)(f:Nat)(ts:List VT)(l m:List IT):wU eq (f+1) ts l m=wA eq f ts l m ts.length:=by rw[wU];rfl
def zC2{eq:List Dat}{f:Nat}{ts:List VT}{l m:List IT}:∀k,∀r∈wA eq f ts l m k,r.1.length=k:=by
 intro k;induction k with
 |zero=>intro r hr;simp[FD]at hr;subst hr;rfl
 |succ k ih=>intro r hr;rw[Dw]at hr;obtain⟨q,hq,w,_,rfl⟩:=zC7 hr;simp[ih q hq]
def Mn(K:Nat)(f:Nat→Nat):Nat:=((List.range K).map f).foldr (·+·) 0
def zIC(L:List Nat)(hL:L.length≤1000)(H:or)(K:Kt)(hK:K (.bool true) H):ge tP 55 [.sl (tX L) .none,.sl (tX L) .none] H K:=by
 refine ge.out (yb8 λhs=>?_);simp[zIA];refine yb6 (Inv:=λq t13 H'=>∃i:Nat,i≤L.length∧L.length-i=q∧t13=I6 i∧H'=H) L.length ?_ ?_
 ·intro _;exact⟨0,by omega,rfl,rfl,rfl⟩
 ·rintro q t13 H' ⟨i,hi,rfl,rfl,rfl⟩ fG fz fM Kb fB;by_cases fy:i<L.length
  ·simp[SQ,fy,wi i (by omega)];exact fB _ _ ⟨L.length-(i+1),by omega,Back.here (by simp) hs (by simp[Mm,ux,AV.sc,AV.ZH,AV.ZI,AV.ZJ]) ⟨_,rfl,i+1,by omega,rfl,rfl,rfl⟩⟩
  ·simp[SQ,fy];exact Out.bool (J:=[]) (by simp) (af _) hs hK
def xf{n:Nat}(h:n<1000000000 ^ 30):Sm (n:Int):=by unfold Sm;rw[Int.natAbs_natCast];exact h
@[simp] theorem yiQ(z:Int):List.take 3 (ue z)=ue z:=rfl
@[simp] theorem yiO(z:Int):List.drop 3 (ue z)=[]:=rfl
@[simp] theorem zy(z:Int):(∀x∈ue z,x.ZP=true)=True:=by simp[ue,AV.ZP]
def ST{eq:List Dat}{k n:Int}{ks:List VT}{c:Int}{l:List VT}(hk:vj eq)(hf:wa eq (.mk k n ks) c=some l):
  ∃ bs,(y4 eq n.toNat).getD c.toNat []=bs∧l.length=bs.length∧l.length≤8∧vt eq (.mk k n ks) c=some (pick l bs)∧(∀ x∈l,x.ZO≤200)∧k=5 ∧
   (∀H K,K (.sl (wz bs) .none) H→ge tP 168 [.sl (eq.map Dat.cs) .none,I6 n,I6 c] H K) ∧
   (∀H K,K (.sl (wz bs) .none) H→ge tP 196 [.sl (eq.map Dat.cs) .none,I6 n,I6 c] H K) ∧
   (∀j,bs.getD j false=true→l.getD j tz=.mk 5 n ks)∧0≤c∧∃(hn:n.toNat<eq.length) (hc:c.toNat<(eq[n.toNat]).cons.length),l.length=((eq[n.toNat]).cons[c.toNat]).args.length:=by
 obtain⟨k5,n0,c0,hn,hc,hv,rfl,iP⟩:=Fs hf;obtain⟨f1,f2,f3⟩:=BP hk;have hd:=ae hn;have iw:=ae hc;obtain⟨g1,g2⟩:=f2 _ hd _ iw;have g3:=f3 _ hd;have h8:=((hk.2 _ hd).2.2 _ iw).2.1;refine⟨xt n.toNat eq[n.toNat] (eq[n.toNat]).cons[c.toNat],by simp[y4,hn,hc,aq],by simp[xt],by simpa using h8,?_,iP,k5,λH K hK=>?_,λH K hK=>?_,λj hj=>?_,c0,hn,hc,by simp⟩
 ·simp[vt,hf,y4,hn,hc,aq,VT.num]
 ·have:=Ry eq n.toNat c.toNat hn hc f1 g3 (by omega) (λx hx=>by have:=g2 x hx;omega) H K (by simpa[wz,xt,Function.comp_def]using hK);rwa [bO n0,bO c0]at this
 ·have:=zGX eq n.toNat c.toNat hn hc f1 g3 (by omega) (λx hx=>by have:=g2 x hx;omega) H K hK;rwa [bO n0,bO c0]at this
 ·have fU:j<((eq[n.toNat]).cons[c.toNat]).args.length:=by refine cE λfS=>?_;rw[aq,aW (by simpa[xt]using fS)]at hj;simp at hj
  simp only[aq,xt,bn,aw fU,Option.map_some,Option.getD_some]at hj ⊢;rw[zOc hj hv,bO n0]
def zEf{eq:List Dat}{t:VT}(ht:uW eq 0 t=true):vg eq 0 t=true:=by rw[uW,ap]at ht;exact ht.2
theorem SU:∀ l:List IT,l=(l.map λx=>[x]).flatten
 |[]=>rfl
 |x::l=>by rw[aL,List.flatten_cons,←SU l];rfl
def zNE{eq:List Dat}(h8:∀ D∈eq,D.cons.length≤8){t:VT}{ks:List IT}(h:0≤rdE eq ks t 0){j:Nat}(hj:j<ks.length){c:Int}{eks:List IT}(he:ks[j]=.mk c eks):
  ∃ps,vt eq t c=some ps∧ps.length=eks.length∧0≤rdA eq eks ps 0∧rdA eq eks ps 0≤6:=by
 rw[SU ks]at h;have h1:=(Mh h8 t (ks.map λx=>[x]) 0 (by omega) (by omega) h).1 [ks[j]] (aF.2 ⟨ks[j],ae hj,rfl⟩);rw[he,z7]at h1;split at h1
 ·omega
 ·split at h1
  ·omega
  ·rename_i ps hp;split at h1
   ·rename_i hl;split at h1
    ·omega
    ·rename_i hc;exact⟨ps,hp,hl,by omega,by omega⟩
   ·omega
def Aa{l:List IT}{i:Nat}(h:i<l.length):l[i].ZO≤IT.ZA l:=by have:=IT.ZM (n:=0) h;simp only[IT.ZO]at this;omega
theorem Mo(f:IT→Nat)(h:IT→IT)(c:Nat):∀ l:List (IT × Nat),uB f (l.map λw=>(h w.1,c*w.2))=c*uB f (l.map λw=>(h w.1,w.2))
 |[]=>by simp
 |w::l=>by rw[aL,aL,yu,yu,Mo f h c l,dW,ee]
end Go.Proofs.YtdmamdnkcefmmaaGreatDoor
