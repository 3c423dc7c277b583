import Derived.Test.YtdmamdnkcefmmaaGreatDoorKMF
set_option linter.unusedSimpArgs false
set_option linter.unusedVariables false
set_option linter.unusedSectionVars false
set_option linter.defProp false
set_option maxRecDepth 100000
namespace Go.Proofs.YtdmamdnkcefmmaaGreatDoor
def SV{s:List (IT×Nat)}{i:IT}{c:Nat}:∀p∈vU s i c,(∃q∈s,q.1=p.1∧q.2≤p.2)∨(0<c∧p.1=i∧c≤p.2):=by
 intro p hp;unfold vU at hp;split at hp
 ·exact .inl ⟨p,hp,rfl,af _⟩
 ·rename_i hc;rcases zKy p hp with (h | h) | ⟨q,hq,h⟩
  ·exact .inl ⟨p,h,rfl,af _⟩
  ·exact .inr ⟨by omega,by rw[h],by rw[h];exact af _⟩
  ·exact .inl ⟨q,hq,by rw[h],by rw[h];simp⟩
theorem BU:∀ (l s:List (IT × Nat)),(∀ q∈s,0<q.2)→∀ p∈uu s l,0<p.2∧((∃ q∈s,q.1=p.1)∨∃ q∈l,0<q.2∧q.1=p.1)
 |[],s,hs,p,hp=>⟨hs p hp,.inl ⟨p,hp,rfl⟩⟩
 |x::l,s,hs,p,hp=>by
  have hp:p∈uu (vU s x.1 x.2) l:=hp;have h1:∀q∈vU s x.1 x.2,0<q.2:=λq hq=>by
   rcases SV q hq with ⟨r,hr,_,h⟩|⟨h,_,h2⟩
   ·have:=hs r hr;omega
   ·omega
  obtain⟨h2,h3⟩:=BU l _ h1 p hp;refine⟨h2,?_⟩;rcases h3 with ⟨q,hq,he⟩|⟨q,hq,h4,he⟩
  ·rcases SV q hq with ⟨r,hr,h5,_⟩ | ⟨h5,h6,_⟩
   ·exact .inl ⟨r,hr,by rw[h5,he]⟩
   ·exact .inr ⟨x,by simp,h5,by rw[←he,h6]⟩
  ·exact .inr ⟨q,by simp[hq],h4,he⟩
def Ab{s:List (IT×Nat)}{p:IT×Nat}(h:p∈s):p.2≤uB (λ_=>1) s:=by
 induction s with
 |nil=>simp at h
 |cons q s ih=>
  rw[yu];rcases aT.1 h with rfl|h
  ·omega
  ·have:=ih h;omega
def BV{s:List (IT×Nat)}(h:∀p∈s,0<p.2):s.length≤uB (λ_=>1) s:=by
 induction s with
 |nil=>simp
 |cons q s ih=>have h1:=ih λp hp=>h p (by simp[hp]);have h2:=h q (by simp);rw[yu,List.length_cons];omega
def FF(f:IT→Nat)(l:List (IT×Nat))(k:Nat):uB f (l.take k)≤uB f l:=by have h:=JA f (l.take k) (l.drop k);rw[aJ]at h;omega
theorem AR{eq:List Dat}(x:IT)(t:VT):∀ (a:List IT) (ts:List VT) (s:Int),a.length=ts.length→0≤s→0≤rdA eq a ts s→rdA eq (a++[x]) (ts++[t]) s=if rdV eq x t<0∨rdA eq a ts s+rdV eq x t>6 then -1 else rdA eq a ts s+rdV eq x t
 |[],[],s,_,hs,_=>by
  have e:rdA eq [] [] s=s:=by simp only[rdA]
  rw[e,List.nil_append,List.nil_append];simp only[rdA]
 |[],_::_,_,h,_,_=>by simp at h
 |_::_,[],_,h,_,_=>by simp at h
 |v::a,t'::ts,s,h,hs,hr=>by
  simp only[rdA]at hr;by_cases hc:rdV eq v t'<0∨s+rdV eq v t'>6
  ·rw[aN hc]at hr;omega
  ·rw[aG hc]at hr;have:=AR x t a ts (s+rdV eq v t') (by simpa using h) (by omega) hr;simp only[List.cons_append,rdA,aG hc];exact this
theorem xw{eq:List Dat}:∀ (a:List IT) (ts:List VT) (s:Int) (k:Nat),a.length=ts.length→0≤s→0≤rdA eq a ts s→0≤rdA eq (a.take k) (ts.take k) s∧rdA eq (a.take k) (ts.take k) s≤rdA eq a ts s
 |a,ts,s,0,_,hs,hr=>by have:=SR a ts s hs hr;simp only[List.take_zero,rdA];omega
 |[],[],s,k+1,_,hs,hr=>by simp only[List.take_nil,rdA];omega
 |[],_::_,_,_+1,h,_,_=>by simp at h
 |_::_,[],_,_+1,h,_,_=>by simp at h
 |v::a,t::ts,s,k+1,h,hs,hr=>by
  simp only[rdA]at hr;by_cases hc:rdV eq v t<0∨s+rdV eq v t>6
  ·rw[aN hc]at hr;omega
  ·rw[aG hc]at hr;have:=xw a ts (s+rdV eq v t) k (by simpa using h) (by omega) hr;simp only[List.take_succ_cons,rdA,aG hc];exact this
def Dx{eq:List Dat}(h8:∀D∈eq,D.cons.length≤8)(t:VT)(a:IT)(l:List IT)(h:0≤rdE eq (a::l) t 0):0≤rdE eq [a] t 0∧0≤rdE eq l t 0∧rdE eq (a::l) t 0=rdE eq [a] t 0+rdE eq l t 0:=by
 have e:[[a],l].flatten=a::l:=by simp
 rw[←e]at h;obtain⟨h1,h2⟩:=Mh h8 _ _ 0 (by omega) (by omega) h;rw[e]at h2;refine⟨h1 [a] (by simp),h1 l (by simp),?_⟩;rw[h2];simp
def SW{eq:List Dat}(h8:∀D∈eq,D.cons.length≤8)(t:VT)(a:IT)(l:List IT)(h1:0≤rdE eq [a] t 0)(h2:0≤rdE eq l t 0)(h3:rdE eq [a] t 0+rdE eq l t 0≤6):rdE eq (a::l) t 0=rdE eq [a] t 0+rdE eq l t 0:=by have e:a::l=[a]++l:=rfl;rw[e,Sk h8 _ _ _ _ (by omega) (by omega),aG (by omega),LG l t _ h1 (by omega),BN h2 h3]
def zNF{eq:List Dat}{c:Int}{ks:List IT}{t:VT}{ps:List VT}(h0:0≤c)(h8:c<8)(hp:vt eq t c=some ps)(hl:ps.length=ks.length)(hr:0≤rdA eq ks ps 0)(h6:1+rdA eq ks ps 0≤6):rdE eq [.mk c ks] t 0=1+rdA eq ks ps 0:=by rw[z7,aG (by omega),hp];simp only;rw[aN hl,aG (by omega)];simp only[rdE];omega
def BW{eq:List Dat}{c:Int}{ks:List IT}{t:VT}(h:0≤rdE eq [.mk c ks] t 0):0≤c∧c<8∧∃ps,vt eq t c=some ps∧ps.length=ks.length∧0≤rdA eq ks ps 0∧rdE eq [.mk c ks] t 0=1+rdA eq ks ps 0:=by
 rw[z7]at h ⊢;split at h
 ·omega
 ·rename_i hc;cases hp:vt eq t c with
  |none=>rw[hp]at h;simp at h
  |some ps=>
   rw[hp]at h;simp only at h;by_cases hl:ps.length=ks.length
   ·rw[aN hl]at h;by_cases hx:rdA eq ks ps 0<0∨0+1+rdA eq ks ps 0>6
    ·rw[aN hx]at h;omega
    ·refine⟨by omega,by omega,ps,rfl,hl,by omega,?_⟩;rw[aG hc];simp only;rw[aN hl,aG hx];simp only[rdE];omega
   ·rw[aG hl]at h;omega
def p3{a b:Int}(h0:0≤a)(h:a≤b):3 ^ a.toNat≤3 ^ b.toNat:=bi (by omega) (by omega)
def Mp{a b:Int}(h0:0≤a)(h:0≤b):3 ^ (a+b).toNat=3 ^ a.toNat*3 ^ b.toNat:=by rw[show (a+b).toNat=a.toNat+b.toNat by omega,dU]
def SX(eq:List Dat)(f:Nat):Prop:=∀ (t:VT) (i j:IT),i.ZO+j.ZO≤f→0≤rdV eq i t→0≤rdV eq j t→rdV eq i t+rdV eq j t≤6 →
 (∀p∈we eq f t i j,0<p.2∧0≤rdV eq p.1 t∧rdV eq p.1 t≤rdV eq i t+rdV eq j t∧rdV eq i t≤rdV eq p.1 t∧rdV eq j t≤rdV eq p.1 t∧p.1.ZO≤i.ZO+j.ZO)∧uB (λ_=>1) (we eq f t i j)≤3 ^ (rdV eq i t+rdV eq j t).toNat
def Mq(eq:List Dat)(f:Nat):Prop:=∀ (ts:List VT) (l m:List IT),IT.ZA l+IT.ZA m+1≤f→l.length=ts.length→m.length=ts.length→0≤rdA eq l ts 0→0≤rdA eq m ts 0→rdA eq l ts 0+rdA eq m ts 0≤6 →
 (∀ r∈wU eq f ts l m,0<r.2∧r.1.length=ts.length∧0≤rdA eq r.1 ts 0∧rdA eq r.1 ts 0≤rdA eq l ts 0+rdA eq m ts 0∧rdA eq l ts 0≤rdA eq r.1 ts 0∧rdA eq m ts 0≤rdA eq r.1 ts 0∧IT.ZA r.1≤IT.ZA l+IT.ZA m) ∧
  vw (λ_=>1) (wU eq f ts l m)≤3 ^ (rdA eq l ts 0+rdA eq m ts 0).toNat
def Mr(eq:List Dat)(f:Nat):Prop:=∀ (t:VT) (l m:List IT),IT.ZA l+IT.ZA m+1≤f→0≤rdE eq l t 0→0≤rdE eq m t 0→rdE eq l t 0+rdE eq m t 0≤6 →
 (∀ p∈uM eq f t l m,0<p.2∧uT p.1=0∧0≤rdE eq (uz p.1) t 0∧rdE eq (uz p.1) t 0≤rdE eq l t 0+rdE eq m t 0∧rdE eq l t 0≤rdE eq (uz p.1) t 0∧rdE eq m t 0≤rdE eq (uz p.1) t 0∧IT.ZA (uz p.1)≤IT.ZA l+IT.ZA m) ∧
  uB (λ_=>1) (uM eq f t l m)≤3 ^ (rdE eq l t 0+rdE eq m t 0).toNat
def zNR(out:List (List IT×Nat))(ws:List (IT×Nat)):vw (λ_=>1) (vZ out ws)=vw (λ_=>1) out*uB (λ_=>1) ws:=zNS _ (λ_=>1) (λ_=>1) ws out (λr _ w _=>by simp)
def zLy{eq:List Dat}{f:Nat}(hP:SX eq f):Mq eq (f+1):=by
 intro ts l m hf hl hm hA hB h6;rw[FE];have key:∀ k,k≤ts.length→(∀ r∈wA eq f ts l m k,0<r.2∧0≤rdA eq r.1 (ts.take k) 0∧rdA eq r.1 (ts.take k) 0≤rdA eq (l.take k) (ts.take k) 0+rdA eq (m.take k) (ts.take k) 0∧rdA eq (l.take k) (ts.take k) 0≤rdA eq r.1 (ts.take k) 0∧rdA eq (m.take k) (ts.take k) 0≤rdA eq r.1 (ts.take k) 0 ∧
   IT.ZA r.1≤IT.ZA (l.take k)+IT.ZA (m.take k))∧vw (λ_=>1) (wA eq f ts l m k)≤3 ^ (rdA eq (l.take k) (ts.take k) 0+rdA eq (m.take k) (ts.take k) 0).toNat:=by
  intro k;induction k with
  |zero=>intro _;refine⟨λr hr=>?_,by simp[FD,rdA]⟩;simp[FD]at hr;subst hr;simp[rdA,IT.ZA]
  |succ k ih=>
   intro hk;obtain⟨ih1,ih2⟩:=ih (by omega);have h1:k<ts.length:=by omega
   have h3:k<l.length:=by omega
   have h4:k<m.length:=by omega
   have eg:we eq f (ts.getD k tz) (l.getD k d0) (m.getD k d0)=we eq f ts[k] l[k] m[k]:=by simp[aq,h1,h3,h4]
   have a1:=xw l ts 0 k hl (by omega) hA;have a2:=xw l ts 0 (k+1) hl (by omega) hA;have b1:=xw m ts 0 k hm (by omega) hB;have b2:=xw m ts 0 (k+1) hm (by omega) hB;have ea:ts.take (k+1)=ts.take k++[ts[k]]:=ag h1;have el:l.take (k+1)=l.take k++[l[k]]:=ag h3;have em:m.take (k+1)=m.take k++[m[k]]:=ag h4;have sl:=AR (eq:=eq) l[k] ts[k] (l.take k) (ts.take k) 0 (by simp;omega) (by omega) a1.1;have sm:=AR (eq:=eq) m[k] ts[k] (m.take k) (ts.take k) 0 (by simp;omega) (by omega) b1.1;rw[←el,←ea]at sl;rw[←em,←ea]at sm;by_cases cl:rdV eq l[k] ts[k]<0∨rdA eq (l.take k) (ts.take k) 0+rdV eq l[k] ts[k]>6
   ·rw[aN cl]at sl;omega
   ·rw[aG cl]at sl;by_cases cm:rdV eq m[k] ts[k]<0∨rdA eq (m.take k) (ts.take k) 0+rdV eq m[k] ts[k]>6
    ·rw[aN cm]at sm;omega
    ·rw[aG cm]at sm;have n1:=Aa h3;have n2:=Aa h4;obtain⟨kT,o6⟩:=hP ts[k] l[k] m[k] (by omega) (by omega) (by omega) (by omega);have nl:=IT.ZE h3;have nm:=IT.ZE h4;rw[Dw,eg];constructor
     ·intro r hr;obtain⟨q,hq,w,hw,rfl⟩:=zC7 hr;obtain⟨q1,q2,q3,q4,q5,q6⟩:=ih1 q hq;obtain⟨w1,w2,w3,w4,w5,w6⟩:=kT w hw;have jw:=zC2 k q hq;have sr:=AR (eq:=eq) w.1 ts[k] q.1 (ts.take k) 0 (by simp;omega) (by omega) q2;rw[←ea,aG (by omega)]at sr;simp only;rw[sr,IT.ZF];simp only[IT.ZA];exact⟨fa q1 w1,by omega,by omega,by omega,by omega,by omega⟩
     ·rw[zNR,sl,sm];rw[show rdA eq (l.take k) (ts.take k) 0+rdV eq l[k] ts[k]+(rdA eq (m.take k) (ts.take k) 0+rdV eq m[k] ts[k])=(rdA eq (l.take k) (ts.take k) 0+rdA eq (m.take k) (ts.take k) 0)+(rdV eq l[k] ts[k]+rdV eq m[k] ts[k]) by omega,Mp (by omega) (by omega)];exact aZ ih2 o6
 obtain⟨k1,k2⟩:=key ts.length (af _);rw[az,am (l:=l) (by omega),am (l:=m) (by omega)]at k1 k2;exact⟨λr hr=>by
  obtain⟨q1,q2,q3,q4,q5,q6⟩:=k1 r hr;exact⟨q1,zC2 _ r hr,q2,q3,q4,q5,q6⟩,k2⟩
def zLz{eq:List Dat}(h8:∀D∈eq,D.cons.length≤8){f:Nat}(hQ:Mq eq f)(hR:Mr eq f):Mr eq (f+1):=by
 intro t l m hf hl hm h6;cases l with
 |nil=>
  have e0:rdE eq [] t 0=0:=by simp only[rdE]
  have hN:=p3 (a:=0) (b:=rdE eq m t 0) (by omega) (by omega);refine⟨λp hp=>?_,by simp[uM,e0];simpa using hN⟩;simp[uM]at hp;subst hp;simp only[uT,uz,e0,IT.ZA];exact⟨by omega,trivial,hm,by omega,by omega,by omega,by omega⟩
 |cons a l=>
  cases m with
  |nil=>
   have e0:rdE eq [] t 0=0:=by simp only[rdE]
   have hN:=p3 (a:=0) (b:=rdE eq (a::l) t 0) (by omega) (by omega);refine⟨λp hp=>?_,by simp[uM,e0];simpa using hN⟩;simp[uM]at hp;subst hp;simp only[uT,uz,e0,IT.ZA];exact⟨by omega,trivial,hl,by omega,by omega,by omega,by omega⟩
  |cons b m=>
   have hna:=a.ZB;have mU:=b.ZB;obtain⟨la,ll,el⟩:=Dx h8 t a l hl;obtain⟨mb,mm,em⟩:=Dx h8 t b m hm;simp only[IT.ZA]at hf;obtain⟨ca,pa⟩:=a;obtain⟨cb,pb⟩:=b;obtain⟨ca0,ca8,psa,kG,jL,pQ,ea⟩:=BW la;obtain⟨cb0,cb8,psb,mq,iI,pR,eb⟩:=BW mb;obtain⟨A1,A2⟩:=hR t l (.mk cb pb::m) (by simp only[IT.ZA];omega) ll hm (by omega);obtain⟨B1,B2⟩:=hR t (.mk ca pa::l) m (by simp only[IT.ZA];omega) hl mm (by omega);obtain⟨C1,C2⟩:=hR t l m (by omega) ll mm (by omega);obtain⟨s,hs⟩:∃s,s=rdE eq (.mk ca pa::l) t 0+rdE eq (.mk cb pb::m) t 0:=⟨_,rfl⟩;have n1:uB (λ_=>1) (uu [] ((uM eq f t l (.mk cb pb::m)).map λw=>(bef (.mk ca pa) w.1,w.2)))≤3 ^ (s-1).toNat:=by rw[xm,x9,aX,FC _ (λ_=>1) (bef (.mk ca pa)) 1 (λx=>by simp),c9];exact aC A2 (p3 (by omega) (by omega))
   have n2:uB (λ_=>1) ((uM eq f t (.mk ca pa::l) m).map λw=>(bef (.mk cb pb) w.1,w.2))≤3 ^ (s-1).toNat:=by rw[FC _ (λ_=>1) (bef (.mk cb pb)) 1 (λx=>by simp),c9];exact aC B2 (p3 (by omega) (by omega))
   have h3s:3 ^ s.toNat=3*3 ^ (s-1).toNat:=by rw[show s.toNat=(s-1).toNat+1 by omega,Nat.pow_succ,bh]
   -- the terms of the three fq
   have t1:∀w∈uM eq f t l (.mk cb pb::m),0<w.2→uT (bef (.mk ca pa) w.1)=0∧0≤rdE eq (uz (bef (.mk ca pa) w.1)) t 0∧rdE eq (uz (bef (.mk ca pa) w.1)) t 0≤s∧rdE eq (.mk ca pa::l) t 0≤rdE eq (uz (bef (.mk ca pa) w.1)) t 0∧rdE eq (.mk cb pb::m) t 0≤rdE eq (uz (bef (.mk ca pa) w.1)) t 0∧IT.ZA (uz (bef (.mk ca pa) w.1))≤IT.ZA (.mk ca pa::l)+IT.ZA (.mk cb pb::m):=by intro w hw _;obtain⟨_,_,w2,w3,w4,w5,w6⟩:=A1 w hw;have ej:=SW h8 t (.mk ca pa) (uz w.1) la w2 (by omega);have eb:uz (bef (.mk ca pa) w.1)=.mk ca pa::uz w.1:=rfl;rw[eb];simp only[IT.ZA]at w6 ⊢;exact⟨rfl,by omega,by omega,by omega,by omega,by omega⟩
   have t2:∀w∈uM eq f t (.mk ca pa::l) m,0<w.2→uT (bef (.mk cb pb) w.1)=0∧0≤rdE eq (uz (bef (.mk cb pb) w.1)) t 0∧rdE eq (uz (bef (.mk cb pb) w.1)) t 0≤s∧rdE eq (.mk ca pa::l) t 0≤rdE eq (uz (bef (.mk cb pb) w.1)) t 0∧rdE eq (.mk cb pb::m) t 0≤rdE eq (uz (bef (.mk cb pb) w.1)) t 0∧IT.ZA (uz (bef (.mk cb pb) w.1))≤IT.ZA (.mk ca pa::l)+IT.ZA (.mk cb pb::m):=by intro w hw _;obtain⟨_,_,w2,w3,w4,w5,w6⟩:=B1 w hw;have ej:=SW h8 t (.mk cb pb) (uz w.1) mb w2 (by omega);have eb:uz (bef (.mk cb pb) w.1)=.mk cb pb::uz w.1:=rfl;rw[eb];simp only[IT.ZA]at w6 ⊢;exact⟨rfl,by omega,by omega,by omega,by omega,by omega⟩
   rw[←hs];have emp:∀q∈([]:List (IT×Nat)),0<q.2:=λq hq=>by simp at hq
   have g1:=BU ((uM eq f t l (.mk cb pb::m)).map λw=>(bef (.mk ca pa) w.1,w.2)) [] emp;have g2:=BU ((uM eq f t (.mk ca pa::l) m).map λw=>(bef (.mk cb pb) w.1,w.2)) (uu [] ((uM eq f t l (.mk cb pb::m)).map λw=>(bef (.mk ca pa) w.1,w.2))) (λq hq=>(g1 q hq).1);have two:∀p∈uu (uu [] ((uM eq f t l (.mk cb pb::m)).map λw=>(bef (.mk ca pa) w.1,w.2))) ((uM eq f t (.mk ca pa::l) m).map λw=>(bef (.mk cb pb) w.1,w.2)),0<p.2∧uT p.1=0∧0≤rdE eq (uz p.1) t 0∧rdE eq (uz p.1) t 0≤s∧rdE eq (.mk ca pa::l) t 0≤rdE eq (uz p.1) t 0∧rdE eq (.mk cb pb::m) t 0≤rdE eq (uz p.1) t 0∧IT.ZA (uz p.1)≤IT.ZA (.mk ca pa::l)+IT.ZA (.mk cb pb::m):=by
    intro p hp;obtain⟨h0,h|h⟩:=g2 p hp
    ·obtain⟨q,hq,he⟩:=h;obtain⟨_,h | h⟩:=g1 q hq
     ·obtain⟨x,hx,_⟩:=h;simp at hx
     ·obtain⟨x,hx,kO,kU⟩:=h;obtain⟨w,hw,rfl⟩:=aF.1 hx;simp only at kU kO;rw[←he,←kU];exact⟨h0,t1 w hw kO⟩
    ·obtain⟨x,hx,kO,kU⟩:=h;obtain⟨w,hw,rfl⟩:=aF.1 hx;simp only at kU kO;rw[←kU];exact⟨h0,t2 w hw kO⟩
   rw[uM];by_cases gc:uT (.mk ca pa)=uT (.mk cb pb)
   ·rw[aG (by simpa using gc)];simp only[uT]at gc;subst gc;rw[kG]at mq;cases mq;obtain⟨Q1,Q2⟩:=hQ psa pa pb (by simp only[IT.ZO]at hf;omega) jL.symm iI.symm pQ pR (by omega);have t3:∀ r∈wU eq f psa pa pb,∀ w∈uM eq f t l m,uT (bef (.mk ca r.1) w.1)=0∧0≤rdE eq (uz (bef (.mk ca r.1) w.1)) t 0∧rdE eq (uz (bef (.mk ca r.1) w.1)) t 0≤s∧rdE eq (.mk ca pa::l) t 0≤rdE eq (uz (bef (.mk ca r.1) w.1)) t 0∧rdE eq (.mk ca pb::m) t 0≤rdE eq (uz (bef (.mk ca r.1) w.1)) t 0∧IT.ZA (uz (bef (.mk ca r.1) w.1))≤IT.ZA (.mk ca pa::l)+IT.ZA (.mk ca pb::m):=by intro r hr w hw;obtain⟨_,r1,r2,r3,r4,r5,r6⟩:=Q1 r hr;obtain⟨_,_,w2,w3,w4,w5,w6⟩:=C1 w hw;have eo:=zNF ca0 ca8 kG r1.symm r2 (by omega);have ej:=SW h8 t (.mk ca r.1) (uz w.1) (by omega) w2 (by omega);have eb:uz (bef (.mk ca r.1) w.1)=.mk ca r.1::uz w.1:=rfl;rw[eb];simp only[IT.ZA,IT.ZO]at w6 ⊢;exact⟨rfl,by omega,by omega,by omega,by omega,by omega⟩
    simp only[uT,uz,kG,Option.getD_some];have g3:=BU ((wU eq f psa pa pb).flatMap λr=>(uM eq f t l m).map λw=>(bef (.mk ca r.1) w.1,r.2*w.2)) _ (λq hq=>(g2 q hq).1);constructor
    ·intro p hp;obtain⟨h0,h | h⟩:=g3 p hp
     ·obtain⟨q,hq,he⟩:=h;have:=(two q hq).2;rw[he]at this;exact⟨h0,this⟩
     ·obtain⟨x,hx,_,kU⟩:=h;obtain⟨r,hr,hx⟩:=cG.1 hx;obtain⟨w,hw,rfl⟩:=aF.1 hx;simp only at kU;rw[←kU];exact⟨h0,t3 r hr w hw⟩
    ·rw[xm,xm];have n3:uB (λ_=>1) ((wU eq f psa pa pb).flatMap λr=>(uM eq f t l m).map λw=>(bef (.mk ca r.1) w.1,r.2*w.2))=vw (λ_=>1) (wU eq f psa pa pb)*uB (λ_=>1) (uM eq f t l m):=by
      generalize wU eq f psa pa pb=R;induction R with
      |nil=>simp
      |cons r R ih=>rw[bj,JA,ih,Mo,FC _ (λ_=>1) (bef (.mk ca r.1)) 1 (λx=>by simp),BT,bp];simp
     have n4:vw (λ_=>1) (wU eq f psa pa pb)*uB (λ_=>1) (uM eq f t l m)≤3 ^ (s-1).toNat:=by refine aC (aZ Q2 C2) ?_;rw[←Mp (by omega) (by omega)];exact p3 (by omega) (by omega)
     rw[n3,h3s];omega
   ·rw[aN (by simpa using gc)];refine⟨two,?_⟩;rw[xm,h3s];omega
def SY:∀a,a<7→∀b,b<7→a+b≤6→Mn (a+b+1) (λk=>pcf a b k)≤3 ^ (a+b):=by decide +kernel
def zNd:∀a,a<7→∀b,b<7→∀k,k<13→0<pcf a b k→a≤k∧b≤k:=by
 intro a _ b _ k _ h;unfold pcf at h;split at h
 ·omega
 ·omega
def zLx{eq:List Dat}(h8:∀D∈eq,D.cons.length≤8){f:Nat}(hQ:Mq eq f)(hR:Mr eq f):SX eq (f+1):=by
 intro t i j hf hi hj h6;obtain⟨k,tn,tks⟩:=t;obtain⟨n,l⟩:=i;obtain⟨n',m⟩:=j;simp only[IT.ZO]at hf;have emp:∀q∈([]:List (IT×Nat)),0<q.2:=λq hq=>by simp at hq
 rw[we];by_cases k6:k=6
 ·subst k6;have ev:∀(n:Int) (l:List IT),0≤rdV eq (.mk n l) (.mk 6 tn tks)→n=0∧l.length=tks.length∧rdV eq (.mk n l) (.mk 6 tn tks)=rdA eq l tks 0:=λn l h=>by
   rw[rdV]at h ⊢;simp only[VT.kind,VT.kids,br]at h ⊢;by_cases hn:n=0
   ·by_cases hl:tks.length=l.length
    ·simp[hn,hl]
    ·simp[hn,hl]at h
   ·simp[hn]at h
  have ev2:∀l:List IT,l.length=tks.length→rdV eq (.mk 0 l) (.mk 6 tn tks)=rdA eq l tks 0:=λl h=>by rw[rdV];simp[VT.kind,VT.kids,h]
  obtain⟨i1,i2,i3⟩:=ev n l hi;obtain⟨j1,j2,j3⟩:=ev n' m hj;rw[i3]at hi h6 ⊢;rw[j3]at hj h6 ⊢;obtain⟨Q1,Q2⟩:=hQ tks l m (by omega) i2 j2 hi hj h6;simp only[VT.kind,VT.kids,br,uz,IT.ZO];constructor
  ·intro p hp;obtain⟨h0,h | h⟩:=BU _ _ emp p hp
   ·obtain⟨x,hx,_⟩:=h;simp at hx
   ·obtain⟨x,hx,_,kU⟩:=h;obtain⟨r,hr,rfl⟩:=aF.1 hx;simp only at kU;obtain⟨_,r1,r2,r3,r4,r5,r6⟩:=Q1 r hr;rw[←kU,ev2 r.1 r1];simp only[IT.ZO];exact⟨h0,r2,r3,r4,r5,by omega⟩
  ·rw[xm,x9,aX,Dv];exact Q2
 ·by_cases k7:k=7
  ·subst k7;have ev:∀(n:Int) (l:List IT),0≤rdV eq (.mk n l) (.mk 7 tn tks)→0≤n∧n≤6∧rdV eq (.mk n l) (.mk 7 tn tks)=n:=λn l h=>by
    rw[rdV]at h ⊢;simp only[VT.kind,k6,ba,br]at h ⊢;by_cases hc:0≤n∧n≤6∧l.length=0
    ·rw[aN hc];exact⟨hc.1,hc.2.1,rfl⟩
    ·rw[aG hc]at h;omega
   obtain⟨i1,i2,i3⟩:=ev n l hi;obtain⟨j1,j2,j3⟩:=ev n' m hj;rw[i3]at hi h6 ⊢;rw[j3]at hj h6 ⊢;obtain⟨a,rfl⟩:∃a:Nat,n=a:=⟨n.toNat,by omega⟩;obtain⟨b,rfl⟩:∃b:Nat,n'=b:=⟨n'.toNat,by omega⟩;simp only[VT.kind,k6,ba,br,uT,IT.ZO,Int.toNat_natCast];constructor
   ·intro p hp;obtain⟨h0,h | h⟩:=BU _ _ emp p hp
    ·obtain⟨x,hx,_⟩:=h;simp at hx
    ·obtain⟨x,hx,kO,kU⟩:=h;obtain⟨q,hq,rfl⟩:=aF.1 hx;rw[bP]at hq;simp only at kO kU;obtain⟨q1,q2⟩:=zNd a (by omega) b (by omega) q (by omega) kO;have e:rdV eq (.mk (q:Int) []) (.mk 7 tn tks)=q:=by rw[rdV];simp only[VT.kind,k6,ba,br];rw[aN ⟨by omega,by omega,rfl⟩]
     rw[←kU,e];simp only[IT.ZO,IT.ZA];exact⟨h0,by omega,by omega,by omega,by omega,by omega⟩
   ·rw[xm,x9,aX,u9,Dv];have:=SY a (by omega) b (by omega) (by omega);unfold Mn at this;rw[show ((a:Int)+(b:Int)).toNat=a+b by omega];simpa using this
  ·by_cases k5:k=5
   ·subst k5;have ev:∀(n:Int) (l:List IT),0≤rdV eq (.mk n l) (.mk 5 tn tks)→n=0∧l.length≤6∧rdV eq (.mk n l) (.mk 5 tn tks)=rdE eq l (.mk 5 tn tks) 0:=λn l h=>by
     rw[Fz]at h ⊢;by_cases hc:n=0∧l.length≤6
     ·rw[aN hc];exact⟨hc.1,hc.2,rfl⟩
     ·rw[aG hc]at h;omega
    obtain⟨i1,i2,i3⟩:=ev n l hi;obtain⟨j1,j2,j3⟩:=ev n' m hj;rw[i3]at hi h6 ⊢;rw[j3]at hj h6 ⊢;obtain⟨R1,R2⟩:=hR (.mk 5 tn tks) l m (by omega) hi hj h6;simp only[VT.kind,k6,k7,ba,br,uz,IT.ZO];constructor
    ·intro p hp;obtain⟨h0,h | h⟩:=BU _ _ emp p hp
     ·obtain⟨x,hx,_⟩:=h;simp at hx
     ·obtain⟨x,hx,kO,kU⟩:=h;obtain⟨_,r1,r2,r3,r4,r5,r6⟩:=R1 x hx;rw[←kU];obtain⟨⟨xn,xk⟩,xc⟩:=x;simp only[uT,uz]at r1 r2 r3 r4 r5 r6 ⊢;subst r1;have gW:=LF (eq:=eq) xk (.mk 5 tn tks) 0 (by omega);have e:rdV eq (.mk 0 xk) (.mk 5 tn tks)=rdE eq xk (.mk 5 tn tks) 0:=by rw[Fz,aN ⟨rfl,by omega⟩]
      rw[e];simp only[IT.ZO];exact⟨h0,r2,r3,r4,r5,by omega⟩
    ·rw[xm,x9,aX];exact R2
   ·have ev:∀(n:Int) (l:List IT),0≤rdV eq (.mk n l) (.mk k tn tks)→rdV eq (.mk n l) (.mk k tn tks)=0:=λn l h=>by
     rw[rdV]at h ⊢;simp only[VT.kind,k6,k7,k5,ba]at h ⊢;by_cases hc:n=0∧l.length=0
     ·rw[aN hc]
     ·rw[aG hc]at h;omega
    rw[ev n l hi,ev n' m hj];simp only[VT.kind,k6,k7,k5,ba];refine⟨λp hp=>?_,by simp⟩;simp at hp;subst hp;have e:rdV eq (.mk 0 []) (.mk k tn tks)=0:=by rw[rdV];simp[VT.kind,k6,k7,k5]
    rw[e];simp only[IT.ZO,IT.ZA];exact⟨by omega,by omega,by omega,by omega,by omega,by omega⟩
theorem xV{eq:List Dat}(h8:∀ D∈eq,D.cons.length≤8):∀ f,SX eq f∧Mq eq f∧Mr eq f
 |0=>⟨λt i j h=>by have:=i.ZB;omega,λts l m h=>by omega,λt l m h=>by omega⟩
 |f+1=>by obtain⟨h1,h2,h3⟩:=xV h8 f;exact⟨zLx h8 h2 h3,zLy h1,zLz h8 h2 h3⟩
def wE(out:List (List IT×Nat))(ws:List (IT×Nat)):List (List IT×Nat):=out.flatMap λr=>ws.map λw=>(r.1++[w.1],r.2*w.2)
mutual
def wg(eq:List Dat):Nat→VT→IT→IT→List (IT × Nat)
 |0,_,_,_=>[]
 | f+1,t,i,j=>if t.kind=6 then (xg eq f t.kids (uz i) (uz j)).map λr=>(.mk 0 r.1,r.2)
  else if t.kind=7 then (u9 (uT i).toNat (uT j).toNat).filter λp=>p.2 != 0
  else if t.kind=5 then (vu eq f t (uz i) (uz j)).map λr=>(.mk 0 r.1,r.2) else [(.mk 0 [],1)]
def xg(eq:List Dat):Nat→List VT→List IT→List IT→List (List IT × Nat)
 |0,_,_,_=>[]
 |f+1,ts,l,m=>(List.range ts.length).foldl (λout k=>wE out (wg eq f (ts.getD k tz) (l.getD k d0) (m.getD k d0))) [([],1)]
def vu(eq:List Dat):Nat→VT→List IT→List IT→List (List IT × Nat)
 |0,_,_,_=>[]
 |f+1,t,[],m=>[(m,1)]
 |f+1,t,a::l,[]=>[(a::l,1)]
 |f+1,t,a::l,b::m=>
  (vu eq f t l (b::m)).map (λr=>(a::r.1,r.2))++(vu eq f t (a::l) m).map (λr=>(b::r.1,r.2)) ++
   if uT a=uT b then (xg eq f ((vt eq t (uT a)).getD []) (uz a) (uz b)).flatMap λr=>(vu eq f t l m).map λx=>(.mk (uT a) r.1::x.1,r.2*x.2) else []
end
def uK{α:Type}(g:α→Nat)(s:List (α×Nat)):Nat:=(s.map λp=>p.2*g p.1).foldr (·+·) 0
def Ac(g:IT→Nat)(s:List (IT×Nat)):uB g s=uK g s:=rfl
def BX(g:List IT→Nat)(s:List (List IT×Nat)):vw g s=uK g s:=rfl
section
variable {α β γ:Type}
@[simp] theorem yi5(g:α→Nat):uK g []=0:=rfl
@[simp] theorem xh(g:α→Nat)(p:α×Nat)(s:List (α×Nat)):uK g (p::s)=p.2*g p.1+uK g s:=rfl
theorem zDJ(g:α→Nat):∀ a b:List (α × Nat),uK g (a++b)=uK g a+uK g b
 |[],b=>by simp
 |p::a,b=>by rw[List.cons_append,xh,xh,zDJ g a b];omega
theorem BY(g:β→Nat)(h:α→β):∀ s:List (α × Nat),uK g (s.map λp=>(h p.1,p.2))=uK (λx=>g (h x)) s
 |[]=>rfl
 |p::s=>by rw[aL,xh,xh,BY g h s]
theorem zDL(g:β→Nat)(h:α→β)(c:Nat):∀ s:List (α × Nat),uK g (s.map λp=>(h p.1,c*p.2))=c*uK (λx=>g (h x)) s
 |[]=>rfl
 |p::s=>by rw[aL,xh,xh,zDL g h c s,dW,ee]
theorem FG(g:γ→Nat)(h:α→β→γ)(ws:List (β × Nat)):∀ s:List (α × Nat),uK g (s.flatMap λr=>ws.map λw=>(h r.1 w.1,r.2*w.2))=uK (λa=>uK (λb=>g (h a b)) ws) s
 |[]=>rfl
 |p::s=>by rw[bj,zDJ,xh,FG g h ws s,zDL g (h p.1)]
theorem zDI(g1 g2:α→Nat):∀ s:List (α × Nat),uK (λx=>g1 x+g2 x) s=uK g1 s+uK g2 s
 |[]=>rfl
 |p::s=>by rw[xh,xh,xh,zDI g1 g2 s,dW];omega
theorem zDK(c:Nat)(g:α→Nat):∀ s:List (α × Nat),uK (λx=>c*g x) s=c*uK g s
 |[]=>by simp
 |p::s=>by rw[xh,xh,zDK c g s,dW,Nat.mul_left_comm]
theorem zDN:∀ s:List (α × Nat),uK (λ_=>0) s=0
 |[]=>rfl
 |p::s=>by rw[xh,zDN s];rfl
theorem zDM(h:α→β→Nat)(ws:List (β × Nat)):∀ s:List (α × Nat),uK (λa=>uK (λb=>h a b) ws) s=uK (λb=>uK (λa=>h a b) s) ws
 |[]=>by simp[zDN]
 |p::s=>by
  rw[xh,zDM h ws s];have:(λb=>uK (λa=>h a b) (p::s))=λb=>p.2*h p.1 b+uK (λa=>h a b) s:=by funext b;rw[xh]
  rw[this,zDI,zDK]
theorem SZ(g:α→Nat):∀ s:List (α × Nat),uK g (s.filter λp=>p.2 != 0)=uK g s
 |[]=>rfl
 |p::s=>by
  rw[dz];by_cases h:p.2=0
  ·simp[h,SZ g s]
  ·simp[h,SZ g s]
end
def zzB(eq:List Dat)(f:Nat):Prop:=∀(t:VT) (i j:IT) (g:IT→Nat),uB g (wg eq f t i j)=uB g (we eq f t i j)
def zJ7(eq:List Dat)(f:Nat):Prop:=∀(ts:List VT) (l m:List IT) (g:List IT→Nat),vw g (xg eq f ts l m)=vw g (wU eq f ts l m)
def zJ6(eq:List Dat)(f:Nat):Prop:=∀(t:VT) (l m:List IT) (g:IT→Nat),vw (λx=>g (.mk 0 x)) (vu eq f t l m)=uB g (uM eq f t l m)
def S1(g:List IT→Nat)(out:List (List IT×Nat))(ws:List (IT×Nat)):vw g (vZ out ws)=uK (λx=>uK (λl=>g (l++[x])) out) ws:=by
 have h:vZ out ws=ws.flatMap λw=>out.map λr=>(r.1++[w.1],w.2*r.2):=by unfold vZ;congr 1;funext w;congr 1;funext r;rw[bh]
 rw[h,BX];exact FG g (λx l=>l++[x]) out ws
def zPi(g:List IT→Nat)(out:List (List IT×Nat))(ws:List (IT×Nat)):vw g (wE out ws)=vw g (vZ out ws):=by rw[S1,BX];unfold wE;rw[FG g (λl x=>l++[x]) ws out,zDM]
def xG(eq:List Dat)(f:Nat)(ts:List VT)(l m:List IT)(k:Nat):List (List IT×Nat):=(List.range k).foldl (λout k=>wE out (wg eq f (ts.getD k tz) (l.getD k d0) (m.getD k d0))) [([],1)]
def zC4(eq:List Dat)(f:Nat)(ts:List VT)(l m:List IT):xG eq f ts l m 0=[([],1)]:=rfl
def S2(eq:List Dat)(f:Nat)(ts:List VT)(l m:List IT)(k:Nat):xG eq f ts l m (k+1)=wE (xG eq f ts l m k) (wg eq f (ts.getD k tz) (l.getD k d0) (m.getD k d0)):=by rw[xG,c5,List.foldl_append];rfl
def S3(eq:List Dat)(f:Nat)(ts:List VT)(l m:List IT):xg eq (f+1) ts l m=xG eq f ts l m ts.length:=by rw[xg];rfl
theorem S4{eq:List Dat}{f:Nat}(hP:zzB eq f)(ts:List VT)(l m:List IT):∀ (k:Nat) (g:List IT→Nat),vw g (xG eq f ts l m k)=vw g (wA eq f ts l m k)
 |0,g=>rfl
 |k+1,g=>by rw[S2,Dw,zPi,S1,S1];have h1:∀x,uK (λl=>g (l++[x])) (xG eq f ts l m k)=uK (λl=>g (l++[x])) (wA eq f ts l m k):=λx=>S4 hP ts l m k λl=>g (l++[x]);simp only[h1];exact hP (ts.getD k tz) (l.getD k d0) (m.getD k d0) λx=>uK (λl=>g (l++[x])) (wA eq f ts l m k)
theorem Dy(eq:List Dat):∀ f,zzB eq f∧zJ7 eq f∧zJ6 eq f
 |0=>⟨λt i j g=>by rw[wg,we],λts l m g=>by rw[xg,wU],λt l m g=>by rw[vu,uM];rfl⟩
 |f+1=>by
  obtain⟨hP,hQ,hM⟩:=Dy eq f;refine⟨λt i j g=>?_,λts l m g=>?_,λt l m g=>?_⟩
  ·rw[wg,we];by_cases k6:t.kind=6
   ·simp only[k6,br];rw[xm,x9,aX,Ac,Ac,BY g (λl=>IT.mk 0 l),BY g (λl=>IT.mk 0 l)];exact hQ t.kids (uz i) (uz j) λl=>g (.mk 0 l)
   ·by_cases k7:t.kind=7
    ·simp only[k7,br,aG (show ¬(7:Int)=6 by omega)];rw[xm,x9,aX,Ac,Ac,SZ]
    ·by_cases k5:t.kind=5
     ·simp only[k5,br,aG (show ¬(5:Int)=6 by omega),aG (show ¬(5:Int)=7 by omega)];rw[xm,x9,aX,Ac,BY g (λl=>IT.mk 0 l)];exact hM _ _ _ _
     ·simp only[k6,k7,k5,ba]
  ·rw[S3,FE];exact S4 hP ts l m _ g
  ·cases l with
   |nil=>rw[vu,uM];rfl
   |cons a l=>
    cases m with
    |nil=>rw[vu,uM];rfl
    |cons b m=>
     have e1:=hM t l (b::m) λi=>g (bef a i);have e2:=hM t (a::l) m λi=>g (bef b i);rw[vu,uM];have h1:∀(c:IT) (s:List (List IT×Nat)),vw (λx=>g (.mk 0 x)) (s.map λr=>(c::r.1,r.2))=vw (λx=>g (bef c (.mk 0 x))) s:=λc s=>BY (λx=>g (.mk 0 x)) (λx=>c::x) s;have h2:∀(c:IT) (s:List (IT×Nat)),uB g (s.map λw=>(bef c w.1,w.2))=uB (λi=>g (bef c i)) s:=λc s=>BY g (bef c) s;by_cases gc:uT a=uT b
     ·rw[aN gc,aG (by simpa using gc),FB,FB,xm,xm,xm,x9,h1,h1,h2,h2,e1,e2];have h3:=FG (λx=>g (.mk 0 x)) (λ(r x:List IT)=>IT.mk (uT a) r::x) (vu eq f t l m) (xg eq f ((vt eq t (uT a)).getD []) (uz a) (uz b));have h4:=FG g (λ(r:List IT) (x:IT)=>bef (.mk (uT a) r) x) (uM eq f t l m) (wU eq f ((vt eq t (uT a)).getD []) (uz a) (uz b));rw[BX,Ac _ (List.flatMap _ _),h3,h4];have h5:∀r,uK (λx=>g (.mk 0 (IT.mk (uT a) r::x))) (vu eq f t l m)=uK (λx=>g (bef (.mk (uT a) r) x)) (uM eq f t l m):=λr=>hM t l m λi=>g (bef (.mk (uT a) r) i);simp only[h5];have h6:=hQ ((vt eq t (uT a)).getD []) (uz a) (uz b) λr=>uK (λx=>g (bef (.mk (uT a) r) x)) (uM eq f t l m);rw[BX,BX]at h6;rw[h6,Ac,Ac];omega
     ·rw[aG gc,aN (by simpa using gc),aP,FB,xm,xm,x9,h1,h1,h2,h2,e1,e2];omega
def zAA{a b c:IT}(h1:IT.cmp a b<0)(h2:IT.cmp b c≤0):IT.cmp a c<0:=by
 obtain⟨h3,h4⟩:=IT.cmp_tri a b c (by omega) h2;by_cases h:IT.cmp a c=0
 ·have:=h4 h;omega
 ·omega
def S5(a:IT):IT.cmp a a=0:=by have:=IT.ZN a a;omega
open Classical in
noncomputable def one{α:Type}(x:α):α→Nat:=λy=>if y=x then 1 else 0
def zMP{α:Type}(x:α):one x x=1:=by simp[one]
def zMQ{α:Type}{x y:α}(h:y≠x):one x y=0:=by simp[one,h]
theorem zDR{α:Type}{g:α→Nat}:∀ {s:List (α × Nat)},0<uK g s→∃ q∈s,0<q.2∧0<g q.1
 |[],h=>by simp at h
 |p::s,h=>by
  rw[xh]at h;by_cases h0:0<p.2*g p.1
  ·exact⟨p,bu,Nat.pos_of_mul_pos_right h0,Nat.pos_of_mul_pos_left h0⟩
  ·obtain⟨q,hq,h1⟩:=zDR (s:=s) (g:=g) (by omega);exact⟨q,be _ hq,h1⟩
theorem Dz{α:Type}(g:α→Nat):∀ {s:List (α × Nat)} {p:α × Nat},p∈s→p.2*g p.1≤uK g s
 |x::s,p,h=>by
  rw[xh];rcases aT.1 h with rfl|h
  ·omega
  ·have:=Dz g h;omega
def Ms{α:Type}{s s':List (α×Nat)}(h:∀g:α→Nat,uK g s=uK g s'){p:α×Nat}(hp:p∈s)(h0:0<p.2):∃q∈s',q.1=p.1:=by
 have h1:=Dz (one p.1) hp;rw[zMP,h]at h1;obtain⟨q,hq,_,h2⟩:=zDR (s:=s') (g:=one p.1) (by omega);refine⟨q,hq,?_⟩;by_cases he:q.1=p.1
 ·exact he
 ·rw[zMQ he]at h2;omega
def ofZ(z:Int):ue z=(ofR (z:Rat)).cs:=by rw[E3,AF]
def okZ{z:Int}(h:Sm z):(ofR (z:Rat)).ok 400:=by have:=h.len;exact x7 ⟨by rw[Rat.num_intCast];omega,by rw[Rat.den_intCast,xA];decide⟩
def zA7(n:Nat):uS (frR false n 1)=ue n:=by rw[←AF];congr 1;unfold frR sgQ;simp[dL]
def Mt(a b:Int)(ha:Sm a)(hb:Sm b)(H:or)(K:Kt)(hK:K (.agg (ue (a*b))) H):ge tP 70 [.agg (ue a),.agg (ue b)] H K:=by rw[ofZ a,ofZ b];exact Jx _ _ (okZ ha) (okZ hb) H K (by rw[wt,wt,←Rat.intCast_mul,AF];exact hK)
def FH(a b:Int)(ha:Sm a)(hb:Sm b)(H:or)(K:Kt)(hK:K (.agg (ue (a*b))) H):ge tP 22 [.agg (ue a),.agg (ue b)] H K:=by rw[ofZ a,ofZ b];exact Ru _ _ (okZ ha) (okZ hb) H K (by rw[wt,wt,←Rat.intCast_mul,AF];exact hK)
def zNw(a:Nat)(ha:Sm (a:Int))(H:or)(K:Kt)(hK:K (I6 (if a=0 then 0 else 1)) H):ge tP 80 [.agg (ue (a:Int))] H K:=by
 rw[ofZ];refine Yp _ (okZ ha) H K ?_;rw[wt];have:sgR ((a:Int):Rat)=if a=0 then 0 else 1:=by
  unfold sgR;rw[Rat.num_intCast,aG (by omega:¬((a:Int)<0))];by_cases h:a=0
  ·subst h;rfl
  ·rw[aG h,aG];intro hz;have:=congrArg Rat.num hz;rw[Rat.num_intCast]at this;exact h (by simpa using this)
 rw[this];exact hK
def Ad(n:Nat)(hn:n<9223372036854775808)(H:or)(K:Kt)(hK:K (.agg (ue n)) H):ge tP 61 [I6 n] H K:=by
 refine ge.out (ycz λhs=>?_);have h0:decide ((n:Int)<0)=false:=by simp
 have hl:=wx (n:=n) (k:=3) (by omega);have fN:=λJ K' hk=>E4 false n 1 (by omega) (by omega) (by rw[xA];decide) J K' hk;rw[zA7]at fN;unfold u0 at fN;rw[xA]at fN;simp[VM,aa];refine PO n hn _ _ ?_;simp[h0,uk,uI,plain,AV.pd,ug,uv,xb,AV.ZP,aa];refine ge.wk (args':=[.agg [.bool false,.sl (tX (lim n)) .none,.sl (tX [1]) .none]]) (fN _ _ ?_) ⟨.agg ⟨.refl _,.refl _,.sl _ _,trivial⟩,trivial⟩;simp[IS,aa];exact EY hs hK
def AS(n:Nat)(hn:n<9223372036854775808)(H:or)(K:Kt)(hK:K (.agg (ue n)) H):ge tP 36 [I6 n] H K:=by
 refine ge.out (yas λhs=>?_);have w1:IntKind.u64.wrap (n:Int)=n:=uE (by omega);have h0:¬((n:Int)<0):=by omega
 have hl:=wx (n:=n) (k:=3) (by omega);have fN:=λJ K' hk=>Dh false n 1 (by omega) (by omega) (by rw[xA];decide) J K' hk;rw[zA7,xA]at fN;simp[Wz,h0,w1];refine EU n (by omega) _ _ ?_;simp[uk,uI,plain,AV.pd];refine ge.wk (args':=[.bool false,.sl (tX (lim n)) .none,.sl (tX [1]) .none]) (fN _ _ ?_) ⟨.rfl',.rfl',.atom (.sl _ _),trivial⟩;simp[IS];exact EY hs hK
def zCW(z:Int)(hz:Sm z)(H:or)(K:Kt)(hK:K (.agg (ue z)) H):ge tP 56 [.agg (ue z)] H K:=by have h:=okZ hz;rw[ofZ z];exact BB _ ⟨h.1,h.2.1,by have:=h.2.2.1;omega,by have:=h.2.2.2;omega⟩ H K (by rw[wt,AF];exact hK)
def zNL(q d:Nat)(hq:q*d<1000000000 ^ 30)(jX:0<d)(hd:d<1000000000)(H:or)(K:Kt)(hK:K (.tup [.agg (ue q),.bool true]) H):
  ge tP 143 [.agg (ue ((q*d:Nat):Int)),.agg (ue d)] H K:=by
 refine ge.out (zTs λhs=>?_);have hdS:(d:Nat)<1000000000 ^ 30:=bK hd (by decide);have ha:Sm ((q*d:Nat):Int):=by unfold Sm;rw[Int.natAbs_natCast];exact hq
 have hb:Sm (d:Int):=by unfold Sm;rw[Int.natAbs_natCast];exact hdS
 have ea:(ue ((q*d:Nat):Int))=[.bool false,.sl (tX (lim (q*d))) .none,.sl (tX [1]) .none]:=by unfold ue;rw[Int.natAbs_natCast,bz (by omega)]
 have eb:(ue (d:Int))=[.bool false,.sl (tX (lim d)) .none,.sl (tX [1]) .none]:=by unfold ue;rw[Int.natAbs_natCast,bz (by omega)]
 have l8:lim d=[d]:=ER (by omega) hd;have hv:frR false (q*d) d=((q:Int):Rat):=by unfold frR sgQ;have:=dC (n:=(q:Int)) (d:=1) (show d≠0 by omega);simpa[dL]using this
 rw[ea,eb];simp[W5,aa];refine ur (.agg (ue ((q*d:Nat):Int))) (λJ=>by rw[←ea];exact zCW _ ha _ _ ⟨rfl,rfl⟩) ?_;refine ur (.agg (ue (d:Int))) (λJ=>by rw[←eb];exact zCW _ hb _ _ ⟨rfl,rfl⟩) ?_;rw[ea,eb];simp[AV.ZP,aa,show (lim d).length=1 by rw[l8];rfl];refine ur (.sl (tX (lim (q*d))) .none) (λJ=>zMx _ hq _ _ ⟨rfl,rfl⟩) ?_;refine ur (.sl (tX (lim d)) .none) (λJ=>zMw _ hdS _ _ ⟨rfl,rfl⟩) ?_;refine ur (.agg (ue q)) (λJ=>Dh false (q*d) d (by omega) (by have:=wx hq;omega) (by rw[l8];simp) _ _ ⟨by rw[hv,AF],rfl⟩) ?_;simp[aa];exact⟨⟨rfl,rfl⟩,Out.tup (bs:=[.agg (ue q),.bool true]) hs hK ⟨uJ rfl rfl,uJ rfl rfl,trivial⟩⟩
def zNx(a b:Nat)(ha:a<1000000000)(gk:b≠0)(hb:b<1000000000)(H:or)(K:Kt)(hK:K (.agg (uS (frR false a b))) H):
  ge tP 216 [I6 a,I6 b] H K:=by
 refine ge.out (zYh λhs=>?_);have h0:decide ((a:Int)<0)=false:=by simp
 have h1:decide ((b:Int)<0)=false:=by simp
 have h2:((b:Int) == 0)=false:=by simp;omega
 have l1:=wx (n:=a) (k:=1) (by omega);have l2:=wx (n:=b) (k:=1) (by omega);simp[Wm,h2,h0,h1,aa];refine PO a (by omega) _ _ ?_;refine PO b (by omega) _ _ ?_;simp[ug,uv,xb,AV.ZP,aa];refine E4 false a b gk (by omega) (by omega) _ _ ?_;simp[aa];exact zo hs hK
def zLO{a b:Nat}(ha:a<1000000000)(gk:b≠0)(hb:b<1000000000):Lim 400 (frR false a b):=by
 have h1:∀c,c<1000000000→(lim c).length≤400:=λc hc=>aC (wx (k:=1) (by omega)) (by omega);refine⟨?_,?_⟩
 ·rw[E0 gk,C5];exact h1 _ (aI (cy _ _) ha)
 ·rw[I9 gk];exact h1 _ (aI (cy _ _) hb)
def zK9{n i d j:Nat}(hj:j≠0)(h:j*chs n j=chs n i*d):((chs n i:Int):Rat)*frR false d j=((chs n j:Int):Rat):=by
 have e1:((chs n i:Int):Rat)=frR false (chs n i) 1:=by unfold frR sgQ;simp[dL]
 rw[e1,P0,c9,←h,bh];unfold frR sgQ;have:=dC (n:=(chs n j:Int)) (d:=1) hj;simpa[dL]using this
def zAX(n k:Nat)(hn:n≤900)(hk:k≤6)(H:or)(K:Kt)(hK:K (.agg (ue (chs n k))) H):ge tP 175 [I6 n,I6 k] H K:=by
 refine ge.out (zWB λhs=>?_);simp[Wx,aa];refine Ad 1 (by omega) _ _ ?_;simp[aa];have hsc:∀z:Int,HSc (H++[.cells [.bool false,.ZG,.ZG],.cells (ue z)]):=λz=>hs.append (by simp[AB.sc,ue,AV.ZH,AV.ZI]);refine zWz (Inv:=λq t9 H'=>∃i:Nat,i≤k∧i≤n∧k-i=q∧t9=I6 i∧H'=H++[.cells [.bool false,.ZG,.ZG],.cells (ue ((chs n i:Nat):Int))]) k ?_ ?_
 ·intro _;exact⟨0,by omega,by omega,rfl,rfl,by simp⟩
 ·rintro q t9 H' ⟨i,hi,oQ,rfl,rfl,rfl⟩ fG fz fM Kb fB;by_cases fy:i<k
  ·by_cases qO:n=i
   ·subst qO;rw[FA fy]at hK;simp[H9,fy,aa];refine Ad 0 (by omega) _ _ ?_;simp[aa];exact EY hs hK
   ·have hb:((n:Int) == (i:Int))=false:=by simp;omega
    have rj:chs n i≤900 ^ 6:=aC (Mj n i) (aC (en hn i) (bi (by omega) (by omega)));have w1:IntKind.i64.wrap ((n:Int)-i)=((n-i:Nat):Int):=by rw[um (by omega) (by omega)];omega
    obtain⟨j,hj⟩:∃j,j=i+1:=⟨_,rfl⟩;have w2:IntKind.i64.wrap ((i:Int)+1)=(j:Int):=by rw[wi i (by omega),hj]
    have f5:=Mi n i;rw[←hj]at f5;have fN:=zK9 (j:=j) (by omega) f5;have fH:(ofR (frR false (n-i) (j))).ok 400:=x7 (zLO (by omega) (by omega) (by omega));simp[H9,fy,hb,w1,w2,aa];refine ur (.agg (uS (frR false (n-i) (j)))) (λJ=>zNx (n-i) (j) (by omega) (by omega) (by omega) _ _ ⟨rfl,rfl⟩) ?_;refine ur (.agg (ue ((chs n (j):Nat):Int))) (λJ=>by
     have hm:=λJ' K' hk=>Jx (ofR ((chs n i:Int):Rat)) (ofR (frR false (n-i) (j))) (okZ (xf (aI rj (by decide)))) fH J' K' hk;rw[wt,wt,fN,AF,←ofZ,E3]at hm;refine hm _ _ ?_;exact⟨rfl,rfl⟩) ?_
    simp[aa];exact fB _ _ ⟨k-(i+1),by omega,Back.here (by simp) (hsc _) (by simp[H8,ux,AV.sc,AV.ZH,AV.ZI,AV.ZJ]) ⟨_,rfl,j,by omega,by omega,by omega,rfl,rfl⟩⟩
  ·obtain rfl:i=k:=by omega
   simp[H9,aa];exact EY hs hK
def nQ(s:List (IT×Nat)):List (IT×Rat):=s.map λp=>(p.1,((p.2:Int):Rat))
@[simp] theorem S6(s:List (IT×Nat)):(nQ s).length=s.length:=by simp[nQ]
def zDY(s:List (IT×Nat)):tms s=tw (up (nQ s)):=by
 induction s with
 |nil=>rfl
 |cons p s ih=>simp only[tms,nQ,up,tw,aL,List.flatten_cons]at ih ⊢;rw[ih];congr 1;unfold tmC twC;rw[ofZ]
def FI{n:Nat}(h:n≠0):((n:Int):Rat)≠0:=by intro hz;have:=congrArg Rat.num hz;rw[Rat.num_intCast]at this;exact h (by simpa using this)
theorem zBX(i:IT)(c:Nat):∀ s:List (IT × Nat),(∀ p∈s,0<p.2)→uO (nQ s) i ((c:Int):Rat)=nQ (vU s i c)
 |[],_=>by
  by_cases h:c=0
  ·subst h;rfl
  ·have h':((c:Int):Rat)≠0:=FI h;simp[nQ,uO,vU,yY,h,h']
 |p::s,hp=>by
  have ih:=zBX i c s λq hq=>hp q (by simp[hq]);have h0:=hp p (by simp);show uO ((p.1,((p.2:Int):Rat))::nQ s) i _=_;rw[uO,ih];have h2:((p.2:Int):Rat)+((c:Int):Rat)=(((p.2+c:Nat):Int):Rat):=by rw[←eW,Int.natCast_add]
  by_cases h:c=0
  ·subst h;have hz:(((0:Nat):Int):Rat)=0:=rfl;have h3:((p.2:Int):Rat)≠0:=FI (by omega);simp only[hz,ce,vU,br,aG h3];split
   ·rfl
   ·split <;> rfl
  ·have h':((c:Int):Rat)≠0:=FI h;have h3:(((p.2+c:Nat):Int):Rat)≠0:=FI (by omega);rw[h2,aG h3,aG h'];simp only[vU,aG h,yY];split
   ·rfl
   ·split <;> rfl
def ycM(s:List (IT × Nat))(i:IT)(c:Nat)(hi:i.ZO≤1000)(nW:∀ p∈s,p.1.ZO≤1000∧0<p.2∧p.2<1000000000 ^ 20)(hc:c<1000000000 ^ 20)(hl:s.length≤1000000)(id:Nat)(H:or)(K:Kt)(fA:H[id]?=some (.vec 55 5 s.length (tms s)))(hK:K (.ov id (vU s i c).length) (H.set id (.vec 55 5 (vU s i c).length (tms (vU s i c))))):
  ge tP 63 [.ov id s.length,.agg i.cs,.agg (ue (c:Int))] H K:=by
 have hq:=zBX i c s λp hp=>(nW p hp).2.1;have lu:∀n:Nat,n<2*1000000000 ^ 20→Sm (n:Int):=λn hn=>xf (eu hn (by decide));have hL:∀z:Int,Sm z→Lim 400 (z:Rat):=λz hz=>⟨(okZ hz).2.2.1,(okZ hz).2.2.2⟩;have:=zCU (nQ s) i (ofR ((c:Int):Rat)) hi (λp hp=>by
  obtain⟨r,hr,rfl⟩:=aF.1 hp;obtain⟨r1,r2,r3⟩:=nW r hr;exact⟨r1,hL _ (lu _ (by omega))⟩) (okZ (lu _ (by omega))) (λp hp _=>by
  obtain⟨r,hr,rfl⟩:=aF.1 hp;obtain⟨r1,r2,r3⟩:=nW r hr;rw[wt,←eW,←Int.natCast_add];exact hL _ (lu _ (by omega))) (by simpa using hl) id H K (by rw[S6,←zDY];exact fA) (by
  intro _;rw[wt,hq,S6,←zDY];exact hK) (λ⟨p,hp,hz⟩=>by
  obtain⟨r,hr,rfl⟩:=aF.1 hp;obtain⟨r1,r2,r3⟩:=nW r hr;rw[wt,←eW,←Int.natCast_add]at hz;exact absurd hz (FI (by omega)))
 rw[S6,←ofZ]at this;exact this
section
variable (t0 t1 t2 t3 t4:AV) (H:or) (K:Kt) (Kb3:Lt)
def zTt(_:Nat):List Bool:=[]
def S7:=ul t0 H λt2 H=>ul t1 H λt3 H=>un [I0,.ZG] H λt4 H=>tL true 2 t2 H λt5=>uk 2 [I0,.ZG] 1 [(0,t5)] λt6=>tN 1 t3 λt7=>tL false 1 t7 H λt8=>uj 28 2 32 t6 t8 H λt9 H=>ug [I0,.ZG] [(0,1),(1,1)] [(1,t9)] λt10=>ua 2 t4 t10 H λH=>tL true 2 t4 H λr0=>K r0 H
def Mu:Nat→List Bool|3=>rl false [0,1,1,3,11]|_=>[]
noncomputable def zvC:=bd Tryz.f142
def Mv:=t0::ux 1 (t2::t3::t4::ux 11 [])
def zTn:=Mu 3
noncomputable def zTk:=uc [1,1,0,1,0,0] zvC
def zTj:=ud tP Mu [1,1,0,1,0] zvC (uq tP Tryz.f142.results.toList K)
def zFC:=tM tP zTk (zTj K) (Mv t0 t2 t3 t4) H
def S8:=gt .leq false t4 t0 λt8=>tO t8 (apu H (tY true 3 t3 H) λt11=>apm H t4 λt12=>apc tP H 36 [t12] λt13=>apc tP H 22 [t11,t13] λt14=>ua 3 t3 t14 H λH=>gt .add false t4 I1 λt10=>Kb3 (Mv t0 t2 t3 t10) H) (tL true 3 t3 H λt15=>ua 3 t2 t15 H λH=>tL true 3 t2 H λr0=>K r0 H)
def zFB:=un [(.bool false),.ZG,.ZG] H λt2 H=>ge tP 36 [I1] H λt5 H=>un [(.bool false),.ZG,.ZG] H λt3 H=>ua 3 t3 t5 H λH=>zFC t0 t2 t3 (I6 2) H K
variable {t0 t1 t2 t3 t4} {H} {K} {Kb3}
def zTv(h:HSc H→S7 t0 t1 H K):ge tP 144 [t0,t1] H K:=
 acb zTt Tryz.func144 h
def zTl:Lo1 (λt4=>Mv t0 t2 t3 t4) (λt4 H Kb3=>S8 t0 t2 t3 t4 H K Kb3) t4 H (zFC t0 t2 t3 t4 H K):=lq1 Mu zTn
def zTo(h:HSc H→zFB t0 H K):ge tP 142 [t0] H K:=
 acb Mu Tryz.func142 h
end
def vi(s:List (IT×Nat)):List (List AV):=s.map tmC
@[simp] theorem yja(s:List (IT×Nat)):(vi s).length=s.length:=by simp[vi]
def zPz(s:List (IT×Nat)):(vi s).flatten=tms s:=rfl
@[simp] theorem yi9{s:List (IT×Nat)}{i:Nat}(h:i<(vi s).length):(vi s)[i]=tmC (s[i]'(by simpa using h)):=by simp[vi]
theorem BZ:∀ {a b c d:List AV},plain a=some c→plain b=some d→plain (a++b)=some (c++d)
 |[],b,c,d,h,h'=>by simp[plain]at h;subst h;simpa using h'
 |x::a,b,c,d,h,h'=>by
  simp only[plain]at h;split at h
  ·rename_i p q hp hq;cases h;simp only[List.cons_append,plain];rw[hp,BZ hq h']
  ·cases h
def DA(v:IT):plain v.cs=some v.cs:=by obtain⟨n,ks⟩:=v;simp[IT.cs,plain,AV.pd]
def xH(z:Int):plain (ue z)=some (ue z):=rfl
def zNh(p:IT×Nat):plain (tmC p)=some (tmC p):=BZ (DA p.1) (xH _)
theorem zCH:∀ s:List (IT × Nat),plain (tms s)=some (tms s)
 |[]=>rfl
 |p::s=>by rw[zDW];exact BZ (zNh p) (zCH s)
def S9{H J:or}{K:Kt}(s:List (IT×Nat))(id:Nat)(fS:H.length≤id)(fA:(H++J)[id]?=some (.vec 55 5 s.length (tms s)))(hs:HSc H)(hK:K (.sl (vi s) .none) H):Out H.length K (.ov id s.length) (H++J):=
 ⟨.sl (vi s) .none,H,J,rfl,af _,hs,.one (.vfz id 55 5 s.length (tms s) (vi s) fS fA (by rw[zPz];exact zCH s) (by simp) (λc hc=>by
  obtain⟨p,_,rfl⟩:=aF.1 hc;simp)),hK⟩
def ge.vecA{P:Program}{f:FuncId}{us:List AV}{H:or}{K:AV→or→Prop}(e size:Nat)(h:ge P f (.ov H.length 0::us) (H++[.vec e size 0 []]) K):ge P f (.ZG::us) H K:=by
 intro B w G vs hH hv;obtain⟨hE,f7⟩:=hH.newVec e size;have jS:All2 (TRel w ⟨G.L,G.μ++[.own (.slice none 0 0) size 0]⟩) vs.toList (.ov H.length 0::us):=by
  generalize vs.toList=l at *
  match l,hv with
  |x::l,⟨h1,h2⟩=>have h1:x=.slice none 0 0:=h1;subst h1;exact⟨Xp hH e size,h2.mono λ_ _=>hE.trel⟩
 refine(h B w _ vs f7 jS).mono λe' w' hp=>?_;obtain⟨v,r,H',G'',h1,h2,h3⟩:=hp;exact⟨v,r,H',G'',h1,hE.trans h2,h3⟩
def Ta(e i:IT)(hi:i.ZO≤1000)(H:or)(K:Kt)(hK:K (.agg (bef e i).cs) H):ge tP 144 [.agg e.cs,.agg i.cs] H K:=by
 refine ge.out (zTv λhs=>?_);obtain⟨n,ks⟩:=i;obtain⟨m,es⟩:=e;have gy:=IT.ZQ ks;have kr:(IT.mk n ks).ZO=IT.ZA ks+1:=by simp[IT.ZO]
 have hb:(bef (.mk m es) (.mk n ks)).cs=[I0,.sl ([I6 m,.sl (IT.css es) .none]::IT.css ks) .none]:=rfl;rw[hb]at hK;cases ks with
 |nil=>simp[S7,IT.cs,IT.css,ug,uv,uk,uI,plain,AV.pd,AV.ZP,uj,uD,uy,aa];exact Out.one hs (vK.agg (ds:=[I0,.sl [[I6 m,.sl (IT.css es) .none]] .none]) ⟨.refl _,.sl _ _,trivial⟩) rfl (by simp[AV.ZJ,AV.ZH,AV.ZI]) (by simpa[IT.css]using hK)
 |cons k ks=>
  simp[S7,IT.cs,IT.css,ug,uv,uk,uI,plain,AV.pd,AV.ZP,uj,uD,uy,aa];have h2:∀a∈IT.css ks,a.length=2:=λa ha=>by rw[IT.ZC]at ha;obtain⟨v,_,rfl⟩:=aF.1 ha;simp
  refine⟨h2,⟨by simp at gy;omega,by simp at gy;omega⟩,?_⟩;exact Out.one hs (vK.agg (ds:=[I0,.sl ([I6 m,.sl (IT.css es) .none]::k.cs::IT.css ks) .none]) ⟨.refl _,.sl _ _,trivial⟩) rfl (by simp[AV.ZJ,AV.ZH,AV.ZI]) (by simpa[IT.css]using hK)
def uC(out:List (List IT×Nat)):List (List AV):=out.map λr=>.sl (IT.css r.1) .none::ue (r.2:Int)
@[simp] theorem yiS(s:List (List IT×Nat)):(uC s).length=s.length:=by simp[uC]
@[simp] theorem yiR{s:List (List IT×Nat)}{i:Nat}(h:i<(uC s).length):(uC s)[i]=.sl (IT.css (s[i]'(by simpa using h)).1) .none::ue ((s[i]'(by simpa using h)).2:Int):=by simp[uC]
def Mw(a b:List (List IT×Nat)):uC (a++b)=uC a++uC b:=by simp[uC]
def zC3{eq:List Dat}{f:Nat}{ts:List VT}{l m:List IT}{k:Nat}:∀j,j≤k→wA eq f (ts.take k) (l.take k) (m.take k) j=wA eq f ts l m j:=by
 intro j;induction j with
 |zero=>intro _;rfl
 |succ j ih=>intro h;rw[Dw,Dw,ih (by omega)];simp[aq,bQ,show j<k by omega]
def Tb{s:List (List IT×Nat)}{p:List IT×Nat}(h:p∈s):p.2≤vw (λ_=>1) s:=by
 induction s with
 |nil=>simp at h
 |cons q s ih=>
  rw[BT];rcases aT.1 h with rfl|h
  ·omega
  ·have:=ih h;omega
def Tc{s:List (List IT×Nat)}(h:∀p∈s,0<p.2):s.length≤vw (λ_=>1) s:=by
 induction s with
 |nil=>simp
 |cons q s ih=>have h1:=ih λp hp=>h p (by simp[hp]);have h2:=h q (by simp);rw[BT,List.length_cons];omega
def xW{a:Int}(h:a≤6):3 ^ a.toNat≤729:=aC (bi (by omega) (show a.toNat≤6 by omega)) (by decide)
def zC1{eq:List Dat}(h8:∀ D∈eq,D.cons.length≤8){f:Nat}{ts:List VT}{l m:List IT}(hf:IT.ZA l+IT.ZA m≤f)(hl:l.length=ts.length)(hm:m.length=ts.length)(hA:0≤rdA eq l ts 0)(hB:0≤rdA eq m ts 0)(h6:rdA eq l ts 0+rdA eq m ts 0≤6)(k:Nat)(hk:k≤ts.length):
  (∀r∈wA eq f ts l m k,0<r.2∧r.2≤729∧IT.ZA r.1≤IT.ZA l+IT.ZA m)∧(wA eq f ts l m k).length≤729:=by
 have a1:=xw l ts 0 k hl (by omega) hA;have b1:=xw m ts 0 k hm (by omega) hB;have n1:=IT.ZD l k;have n2:=IT.ZD m k;obtain⟨h1,h2⟩:=(xV h8 (f+1)).2.1 (ts.take k) (l.take k) (m.take k) (by omega) (by simp;omega) (by simp;omega) a1.1 b1.1 (by omega);have e:wU eq (f+1) (ts.take k) (l.take k) (m.take k)=wA eq f ts l m k:=by rw[FE,a7,bo hk,zC3 k (af _)]
 rw[e]at h1 h2;have hN:vw (λ_=>1) (wA eq f ts l m k)≤729:=aC h2 (xW (by omega));refine⟨λr hr=>?_,aC (Tc λp hp=>(h1 p hp).1) hN⟩;obtain⟨q1,_,_,_,_,_,q6⟩:=h1 r hr;have:=Tb hr;exact⟨q1,by omega,by omega⟩
def zPj{out:List (List IT×Nat)}{ws:List (IT×Nat)}(h1:∀r∈out,0<r.2)(h2:∀w∈ws,0<w.2):∀r∈wE out ws,0<r.2:=by intro r hr;obtain⟨x,hx,hr⟩:=cG.1 hr;obtain⟨w,hw,rfl⟩:=aF.1 hr;exact fa (h1 x hx) (h2 w hw)
theorem Td{eq:List Dat}{f:Nat}(hP:∀ (t:VT) (i j:IT),∀ p∈wg eq f t i j,0<p.2)(ts:List VT)(l m:List IT):∀ k,∀ r∈xG eq f ts l m k,0<r.2
 |0,r,hr=>by rw[zC4]at hr;simp at hr;rw[hr];omega
 |k+1,r,hr=>by rw[S2]at hr;exact zPj (Td hP ts l m k) (hP _ _ _) r hr
theorem FJ(eq:List Dat):∀ f,(∀ (t:VT) (i j:IT),∀ p∈wg eq f t i j,0<p.2)∧(∀ (ts:List VT) (l m:List IT),∀ r∈xg eq f ts l m,0<r.2)∧(∀ (t:VT) (l m:List IT),∀ r∈vu eq f t l m,0<r.2)
 |0=>⟨λt i j p hp=>by rw[wg]at hp;simp at hp,λts l m r hr=>by rw[xg]at hr;simp at hr,λt l m r hr=>by rw[vu]at hr;simp at hr⟩
 |f+1=>by
  obtain⟨hP,hQ,hM⟩:=FJ eq f;refine⟨λt i j p hp=>?_,λts l m r hr=>?_,λt l m r hr=>?_⟩
  ·rw[wg]at hp;split at hp
   ·obtain⟨r,hr,rfl⟩:=aF.1 hp;exact hQ _ _ _ r hr
   ·split at hp
    ·have:=(cx.1 hp).2;simp at this;omega
    ·split at hp
     ·obtain⟨r,hr,rfl⟩:=aF.1 hp;exact hM _ _ _ r hr
     ·simp at hp;rw[hp];omega
  ·rw[S3]at hr;exact Td hP ts l m _ r hr
  ·cases l with
   |nil=>rw[vu]at hr;simp at hr;rw[hr];omega
   |cons a l=>
    cases m with
    |nil=>rw[vu]at hr;simp at hr;rw[hr];omega
    |cons b m=>
     rw[vu]at hr;rcases bg.1 hr with hr|hr
     ·rcases bg.1 hr with hr | hr
      ·obtain⟨x,hx,rfl⟩:=aF.1 hr;exact hM _ _ _ x hx
      ·obtain⟨x,hx,rfl⟩:=aF.1 hr;exact hM _ _ _ x hx
     ·split at hr
      ·obtain⟨x,hx,hr⟩:=cG.1 hr;obtain⟨w,hw,rfl⟩:=aF.1 hr;exact fa (hQ _ _ _ x hx) (hM _ _ _ w hw)
      ·simp at hr
theorem B0{α:Type}:∀ {s:List (α × Nat)},(∀ p∈s,0<p.2)→s.length≤uK (λ_=>1) s
 |[],_=>by simp
 |p::s,h=>by rw[List.length_cons,xh];have:=h p bu;have:=B0 λq hq=>h q (be p hq);omega
def zAf{eq:List Dat}(h8:∀ D∈eq,D.cons.length≤8){f:Nat}{t:VT}{i j:IT}(hf:i.ZO+j.ZO≤f)(hi:0≤rdV eq i t)(hj:0≤rdV eq j t)(h6:rdV eq i t+rdV eq j t≤6):
  (∀p∈wg eq f t i j,0<p.2∧p.2≤729∧0≤rdV eq p.1 t∧rdV eq p.1 t≤rdV eq i t+rdV eq j t∧rdV eq i t≤rdV eq p.1 t∧rdV eq j t≤rdV eq p.1 t∧p.1.ZO≤i.ZO+j.ZO)∧uK (λ_=>1) (wg eq f t i j)≤3 ^ (rdV eq i t+rdV eq j t).toNat∧uK (λ_=>1) (wg eq f t i j)≤729∧(wg eq f t i j).length≤729:=by
 obtain⟨d1,d2⟩:=(xV h8 f).1 t i j hf hi hj h6;have hs:=(Dy eq f).1 t i j;have ib:=(FJ eq f).1 t i j;have h1:uK (λ_=>1) (wg eq f t i j)≤3 ^ (rdV eq i t+rdV eq j t).toNat:=by rw[←Ac,hs];exact d2
 have h2:=aC h1 (xW h6);refine⟨λp hp=>?_,h1,h2,aC (B0 ib) h2⟩;obtain⟨q,hq,he⟩:=Ms (s:=wg eq f t i j) (s':=we eq f t i j) hs hp (ib p hp);have:=d1 q hq;rw[he]at this;have hm:=Dz (λ_=>1) hp;rw[dX]at hm;exact⟨ib p hp,by omega,this.2⟩
def zAg{eq:List Dat}(h8:∀ D∈eq,D.cons.length≤8){f:Nat}{ts:List VT}{l m:List IT}(hf:IT.ZA l+IT.ZA m+1≤f)(hl:l.length=ts.length)(hm:m.length=ts.length)(hi:0≤rdA eq l ts 0)(hj:0≤rdA eq m ts 0)(h6:rdA eq l ts 0+rdA eq m ts 0≤6):
  (∀r∈xg eq f ts l m,0<r.2∧r.2≤729∧r.1.length=ts.length∧0≤rdA eq r.1 ts 0∧rdA eq r.1 ts 0≤rdA eq l ts 0+rdA eq m ts 0∧IT.ZA r.1≤IT.ZA l+IT.ZA m)∧uK (λ_=>1) (xg eq f ts l m)≤3 ^ (rdA eq l ts 0+rdA eq m ts 0).toNat∧uK (λ_=>1) (xg eq f ts l m)≤729∧(xg eq f ts l m).length≤729:=by
 obtain⟨d1,d2⟩:=(xV h8 f).2.1 ts l m hf hl hm hi hj h6;have hs:=(Dy eq f).2.1 ts l m;have ib:=(FJ eq f).2.1 ts l m;have h1:uK (λ_=>1) (xg eq f ts l m)≤3 ^ (rdA eq l ts 0+rdA eq m ts 0).toNat:=by rw[←BX,hs];exact d2
 have h2:=aC h1 (xW h6);refine⟨λp hp=>?_,h1,h2,aC (B0 ib) h2⟩;obtain⟨q,hq,he⟩:=Ms (s:=xg eq f ts l m) (s':=wU eq f ts l m) hs hp (ib p hp);obtain⟨_,e1,e2,e3,_,_,e6⟩:=d1 q hq;rw[he]at e1 e2 e3 e6;have hm:=Dz (λ_=>1) hp;rw[dX]at hm;exact⟨ib p hp,by omega,e1,e2,e3,e6⟩
def Mx{eq:List Dat}(h8:∀ D∈eq,D.cons.length≤8){f:Nat}{t:VT}{l m:List IT}(hf:IT.ZA l+IT.ZA m+1≤f)(hi:0≤rdE eq l t 0)(hj:0≤rdE eq m t 0)(h6:rdE eq l t 0+rdE eq m t 0≤6):
  (∀r∈vu eq f t l m,0<r.2∧r.2≤729∧0≤rdE eq r.1 t 0∧rdE eq r.1 t 0≤rdE eq l t 0+rdE eq m t 0∧IT.ZA r.1≤IT.ZA l+IT.ZA m)∧uK (λ_=>1) (vu eq f t l m)≤3 ^ (rdE eq l t 0+rdE eq m t 0).toNat∧uK (λ_=>1) (vu eq f t l m)≤729∧(vu eq f t l m).length≤729:=by
 obtain⟨d1,d2⟩:=(xV h8 f).2.2 t l m hf hi hj h6;have hs:=(Dy eq f).2.2 t l m;have ib:=(FJ eq f).2.2 t l m;have h1:uK (λ_=>1) (vu eq f t l m)≤3 ^ (rdE eq l t 0+rdE eq m t 0).toNat:=by have:=hs λ_=>1;rw[BX]at this;rw[this];exact d2
 have h2:=aC h1 (xW h6);refine⟨λp hp=>?_,h1,h2,aC (B0 ib) h2⟩;have gK:∀g:IT→Nat,uK g ((vu eq f t l m).map λr=>(IT.mk 0 r.1,r.2))=uK g (uM eq f t l m):=λg=>by rw[BY g (λx=>IT.mk 0 x)];exact hs g
 obtain⟨q,hq,he⟩:=Ms gK (p:=(IT.mk 0 p.1,p.2)) (aF.2 ⟨p,hp,rfl⟩) (ib p hp);obtain⟨_,_,e2,e3,_,_,e6⟩:=d1 q hq;simp only at he;rw[he]at e2 e3 e6;have hm:=Dz (λ_=>1) hp;rw[dX]at hm;exact⟨ib p hp,by omega,e2,e3,e6⟩
def Te(eq:List Dat)(f:Nat):Prop:=∀ (t:VT) (i j:IT),i.ZO+j.ZO≤f→t.ZO≤1000→uW eq 0 t=true→0≤rdV eq i t→0≤rdV eq j t→rdV eq i t+rdV eq j t≤6→i.ZO+j.ZO≤300 →
 ∀(H:or) (K:Kt),K (.sl (vi (we eq f t i j)) .none) H→ge tP 45 [.sl (eq.map Dat.cs) .none,.agg t.cs,.agg i.cs,.agg j.cs] H K
def My(eq:List Dat)(f:Nat):Prop:=∀ (ts:List VT) (l m:List IT),IT.ZA l+IT.ZA m+1≤f→l.length=ts.length→m.length=ts.length→ts.length≤1000→(∀ x∈ts,x.ZO≤1000∧uW eq 0 x=true)→0≤rdA eq l ts 0→0≤rdA eq m ts 0→rdA eq l ts 0+rdA eq m ts 0≤6→IT.ZA l+IT.ZA m≤300 →
 ∀(H:or) (K:Kt),K (.sl (uC (wU eq f ts l m)) .none) H→ge tP 88 [.sl (eq.map Dat.cs) .none,.sl (VT.css ts) .none,.sl (IT.css l) .none,.sl (IT.css m) .none] H K
def Mz(eq:List Dat)(f:Nat):Prop:=∀ (t:VT) (l m:List IT),IT.ZA l+IT.ZA m+1≤f→t.ZO≤1000→uW eq 0 t=true→t.kind=5→0≤rdE eq l t 0→0≤rdE eq m t 0→rdE eq l t 0+rdE eq m t 0≤6→IT.ZA l+IT.ZA m≤300 →
 ∀(H:or) (K:Kt),K (.sl (vi (uM eq f t l m)) .none) H→ge tP 90 [.sl (eq.map Dat.cs) .none,.agg t.cs,.sl (IT.css l) .none,.sl (IT.css m) .none] H K
def zNT{out:List (List IT×Nat)}{ws:List (IT×Nat)}{j:Nat}(h:j<ws.length):vZ out (ws.take (j+1))=vZ out (ws.take j)++out.map λr=>(r.1++[ws[j].1],r.2*ws[j].2):=by rw[ag h];simp only[vZ,bF,bj,dc,aP]
theorem zC6(out:List (List IT × Nat)):∀ ws:List (IT × Nat),(vZ out ws).length=ws.length*out.length
 |[]=>by simp[vZ]
 |w::ws=>by have:=zC6 out ws;unfold vZ at this ⊢;rw[bj,aH,this,cC,List.length_cons,bD];omega
def zMA{eq:List Dat}(h8:∀D∈eq,D.cons.length≤8){f:Nat}(hM:Te eq f):My eq (f+1):=by
 intro ts l m hf hl hm tp jn hA hB h6 hn H K hK;rw[FE]at hK;refine ge.out (yeG λhs=>?_);have i9:AV.sl ([[.sl [] .none]++ue 1]) .full=.sl (uC (wA eq f ts l m 0)) .full:=by simp[FD,uC,IT.css]
 simp[zJt,aa];refine AS 1 (by omega) _ _ ?_;simp[ug,uv,uk,uI,plain,AV.pd,AV.ZP,xH,aa];have i9:([[AV.sl [] .none]++ue 1]:List (List AV))=uC (wA eq f ts l m 0):=by simp[FD,uC,IT.css]
 have ij:([AV.sl [] .none::ue 1]:List (List AV))=uC (wA eq f ts l m 0):=i9;rw[ij];refine yeD (Inv:=λq t9 t21 H'=>∃(k:Nat) (J:or) (tok:Tok),k≤ts.length∧ts.length-k=q∧t21=I6 k∧t9=.sl (uC (wA eq f ts l m k)) tok∧H'=H++J) ts.length ?_ ?_
 ·intro _;exact⟨0,[],.full,by omega,rfl,rfl,rfl,by simp⟩
 ·rintro q t9 t21 H' ⟨k,J,tok,hk,rfl,rfl,rfl,rfl⟩ fG fz fM Kb fB;have nu:=zC1 (f:=f) h8 (by omega) hl hm hA hB h6 k hk;obtain⟨out,gz⟩:∃ out,out=wA eq f ts l m k:=⟨_,rfl⟩;rw[←gz]at nu fM ⊢;obtain⟨b1,b2⟩:=nu;by_cases fy:k<ts.length
  ·have h3:k<l.length:=by omega
   have h4:k<m.length:=by omega
   obtain⟨x1,x2,x3,fD,gG,gf,gL⟩:=ve ts[k];obtain⟨y1,y2,md,hy1,lx⟩:=yb l[k];obtain⟨z1,z2,rn,ol,oX⟩:=yb m[k];have n1:=Aa h3;have n2:=Aa h4;have d1:=(Du (eq:=eq) l ts 0 (by omega) hl hA).1 k h3 fy;have d2:=(Du (eq:=eq) m ts 0 (by omega) hm hB).1 k h4 fy;have a1:=xw l ts 0 k hl (by omega) hA;have a2:=xw l ts 0 (k+1) hl (by omega) hA;have c1:=xw m ts 0 k hm (by omega) hB;have c2:=xw m ts 0 (k+1) hm (by omega) hB;have sl:=AR (eq:=eq) l[k] ts[k] (l.take k) (ts.take k) 0 (by simp;omega) (by omega) a1.1;have sm:=AR (eq:=eq) m[k] ts[k] (m.take k) (ts.take k) 0 (by simp;omega) (by omega) c1.1;rw[←ag h3,←ag fy]at sl;rw[←ag h4,←ag fy]at sm;have dd:rdV eq l[k] ts[k]+rdV eq m[k] ts[k]≤6:=by
    by_cases cl:rdV eq l[k] ts[k]<0∨rdA eq (l.take k) (ts.take k) 0+rdV eq l[k] ts[k]>6
    ·rw[aN cl]at sl;omega
    ·rw[aG cl]at sl;by_cases cm:rdV eq m[k] ts[k]<0∨rdA eq (m.take k) (ts.take k) 0+rdV eq m[k] ts[k]>6
     ·rw[aN cm]at sm;omega
     ·rw[aG cm]at sm;omega
   obtain⟨iW,jS⟩:=jn _ (ae fy);obtain⟨ws,mD⟩:∃ws,ws=we eq f ts[k] l[k] m[k]:=⟨_,rfl⟩;obtain⟨p1,p2⟩:=(xV h8 f).1 ts[k] l[k] m[k] (by omega) d1 d2 dd;rw[←mD]at p1 p2;have p3:uB (λ_=>1) ws≤729:=aC p2 (xW dd);have p4:ws.length≤729:=aC (BV λp hp=>(p1 p hp).1) p3;have gb:wA eq f ts l m (k+1)=vZ out ws:=by rw[Dw,←gz];simp[aq,fy,h3,h4,mD]
   simp[Ra,fy,h3,h4,fD,md,rn,aa];rw[←fD,←md,←rn];refine ur (.sl (vi ws) .none) (λJ=>by rw[mD];exact hM ts[k] l[k] m[k] (by omega) iW jS d1 d2 dd (by omega) _ _ ⟨rfl,rfl⟩) ?_;simp[aa];unfold KC;refine tM.own 11 132 4 rfl ?_;generalize tq:H++J=HB at *;show KC _ _ _ _ _ (.sl (uC (vZ out (ws.take 0))) (.own HB.length)) _ _ _ _ _ (HB++[.perm 132 4 0]) _ _;have ro:∀n,HSc (HB++[.perm 132 4 n]):=λn=>fG.append (by simp[AB.sc]);have lI:∀J,(AV.sl (uC out) tok).sc (HB++J).length=true:=λJ=>by
    have h0:(AV.sl (uC out) tok).sc HB.length=true:=by rw[aA]at fM;exact fM _ (by simp[Fj,ux])
    exact wJ (by simp) h0
   refine yeE (Inv:=λq t11 t39 H'=>∃j:Nat,j≤ws.length∧ws.length-j=q∧t39=I6 j∧t11=.sl (uC (vZ out (ws.take j))) (.own HB.length)∧H'=HB++[.perm 132 4 (vZ out (ws.take j)).length]) ws.length ?_ ?_
   ·intro _;exact⟨0,by omega,rfl,rfl,rfl,by simp[vZ]⟩
   ·rintro q t11 t39 H' ⟨j,hj,rfl,rfl,rfl,rfl⟩ hsc7 hlen7 hsF7 Kb7 nv;have jG:(vZ out (ws.take j)).length≤729*729:=by rw[zC6];exact aZ (by simp;omega) b2
    by_cases fU:j<ws.length
    ·obtain⟨w1,w2,w3,w4,w5,w6⟩:=p1 ws[j] (ae fU);have w7:=Ab (ae fU);obtain⟨u1,u2,hvu,hu1,te⟩:=yb ws[j].1;have fC:=zNT (out:=out) fU;have tk5:List.take 5 (tmC ws[j])=tmC ws[j]:=am (by simp);have tk2:List.take 2 (tmC ws[j])=ws[j].1.cs:=by rw[tmC,cc (by simp)]
     have tk3:List.take 3 (List.drop 2 (tmC ws[j]))=ue (ws[j].2:Int):=by rw[tmC,bS (by simp),am (by simp[ue])]
     have tkn:∀x∈tmC ws[j],x.ZP=true:=aA.1 (by rw[tmC,bl,IT.cs_known,IS];rfl);have tsc:∀n,(tmC ws[j]).all (AV.ZH n)=true:=λn=>by rw[tmC,bl,IT.cs_scA,EX];rfl
     simp[Q9,fU,tk5,aa];refine⟨tkn,?_⟩;have oC:∀n,HSc (HB++[.perm 132 4 n,.cells (tmC ws[j])]):=λn=>fG.append (by simp only[AB.sc,List.all_cons,List.all_nil,tsc];rfl);obtain⟨fu,jO⟩:∃fu,fu=vZ out (ws.take j):=⟨_,rfl⟩;rw[←jO]at jG fC ⊢;obtain⟨g,hg⟩:∃g:List IT×Nat→List IT×Nat,g=λr=>(r.1++[ws[j].1],r.2*ws[j].2):=⟨_,rfl⟩;rw[←hg]at fC;refine yeC (Inv:=λq t11 t45 H'=>∃i:Nat,i≤out.length∧out.length-i=q∧t45=I6 i∧t11=.sl (uC (fu++(out.take i).map g)) (.own HB.length)∧H'=HB++[.perm 132 4 (fu.length+i),.cells (tmC ws[j])]) out.length ?_ ?_
     ·intro _;exact⟨0,by omega,rfl,rfl,by simp,rfl⟩
     ·rintro q t11 t45 H' ⟨i,hi,rfl,rfl,rfl,rfl⟩ hsc10 jo hsF10 Kb10 l5;have ly:(fu++(out.take i).map g).length=fu.length+i:=by simp;omega
      by_cases gq:i<out.length
      ·obtain⟨r1,r2,r3⟩:=b1 out[i] (ae gq);have i7:fu++(out.take (i+1)).map g=(fu++(out.take i).map g)++[g out[i]]:=by rw[ag gq];simp only[a6,aL,bI,aB]
       have gy:=IT.ZQ out[i].1;simp[Q8,gq,tk2,tk3,aa];have l6:Sm (ws[j].2:Int):=xf (aI (show ws[j].2≤729 by omega) (by decide));have ij:Sm (out[i].2:Int):=xf (aI r2 (by decide));have rj:∀(a:List IT) (x:IT),IT.css a++[x.cs]=IT.css (a++[x]):=λa x=>by rw[IT.ZC,IT.ZC,a6];rfl
       simp only[uj,uD,uy];have iU:∀(a:List IT),∀c∈IT.css a,c.length=2:=λa c hc=>by rw[IT.ZC]at hc;obtain⟨v,_,rfl⟩:=aF.1 hc;simp
       refine⟨iU _,?_⟩;simp[tk2,tk3,uk,uI,plain,AV.pd,DA,au,rj,aa];refine⟨⟨by omega,by omega⟩,⟨by omega,by omega⟩,?_⟩;refine ur (.agg (ue ((out[i].2*ws[j].2:Nat):Int))) (λJ=>FH _ _ ij l6 _ _ ⟨by rw[Int.natCast_mul],rfl⟩) ?_;have gQ:plain (AV.sl (IT.css (out[i].1++[ws[j].1])) (.own (HB.length+3))::ue ((out[i].2*ws[j].2:Nat):Int))=some (.sl (IT.css (out[i].1++[ws[j].1])) .none::ue ((out[i].2*ws[j].2:Nat):Int)):=by simp[plain,AV.pd,xH]
       have nw:uC (fu++(out.take i).map g)++[.sl (IT.css (out[i].1++[ws[j].1])) .none::ue ((out[i].2*ws[j].2:Nat):Int)]=uC (fu++(out.take (i+1)).map g):=by rw[i7,Mw _ [g out[i]],hg];rfl
       rw[Int.natCast_mul]at gQ nw;simp only[bT]at nw;have iQ:min i out.length=i:=by omega
       simp[ug,uv,gQ,wi i (by omega),iQ];refine⟨⟨by omega,by omega⟩,?_⟩;rw[nw];exact l5 _ _ ⟨out.length-(i+1),by omega,Back.at (J:=[.cells (.sl (IT.css out[i].1) .none::ue (out[i].2:Int)),.perm 28 2 (out[i].1.length+1)]) (H2:=HB++[.perm 132 4 (fu.length+(i+1)),.cells (tmC ws[j])]) (by simp) (by simp) (oC _) (by
        have:=lI [.perm 132 4 (fu.length+(i+1)),.cells (tmC ws[j])];simp only[KD,ux,List.all_cons,bl,dh,List.all_nil,this];simp[AV.sc,AV.ZH,AV.ZI,AV.ZJ]) ⟨_,_,rfl,i+1,by omega,rfl,rfl,by simp only[bT],rfl⟩⟩
      ·obtain rfl:i=out.length:=by omega
       rw[az,←fC];simp[Q8,wi j (by omega)];have jo:fu.length+out.length=(vZ out (ws.take (j+1))).length:=by rw[fC];simp
       exact nv _ _ ⟨ws.length-(j+1),by omega,Back.at (J:=[.cells (tmC ws[j])]) (H2:=HB++[.perm 132 4 (vZ out (ws.take (j+1))).length]) (by rw[←jo];simp) (by simp) (ro _) (by
        have:=lI [.perm 132 4 (vZ out (ws.take (j+1))).length];simp only[KB,ux,List.all_cons,bl,dh,List.all_nil,this];simp[AV.sc,AV.ZH,AV.ZI,AV.ZJ]) ⟨_,_,rfl,j+1,by omega,rfl,rfl,rfl,rfl⟩⟩
    ·obtain rfl:j=ws.length:=by omega
     rw[az]at jG ⊢;simp[Q9,wi k (by omega)];exact fB _ _ ⟨ts.length-(k+1),by omega,Back.here (by simp;omega) (ro _) (by simp[Fj,ux,AV.sc,AV.ZH,AV.ZI,AV.ZJ]) ⟨_,_,rfl,k+1,J++[.perm 132 4 (vZ out ws).length],.own HB.length,by omega,rfl,rfl,by rw[gb],by rw[←tq];simp⟩⟩
  ·obtain rfl:k=ts.length:=by omega
   rw[←gz]at hK;simp[Ra];exact Out.at (b:=.sl (uC out) .none) rfl (af _) hs (.atom (.sl _ _)) rfl rfl hK
end Go.Proofs.YtdmamdnkcefmmaaGreatDoor
