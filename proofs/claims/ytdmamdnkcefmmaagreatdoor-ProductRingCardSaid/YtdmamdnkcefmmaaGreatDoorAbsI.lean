import Derived.Test.YtdmamdnkcefmmaaGreatDoorAbsH
set_option linter.unusedSimpArgs false
set_option linter.unusedVariables false
set_option maxRecDepth 8000
namespace Go.Proofs.YtdmamdnkcefmmaaGreatDoor
section
open Go.RowKit

variable {P:Program} {B:Nat} {w:World} {G:Gh} {H:zaa}

theorem HRel.newOwn(h:HRel B w G H)(e size:Nat):
  Ext B w G w ⟨G.L,G.μ++[.own (.slice none 0 0) size 0]⟩∧HRel B w ⟨G.L,G.μ++[.own (.slice none 0 0) size 0]⟩ (H++[.perm e size 0]):=by
 have he:Ext B w G w ⟨G.L,G.μ++[.own (.slice none 0 0) size 0]⟩:=⟨aa _,Below.refl _ _,λ_=>aa _,λ_ _ _=>rfl,λid gi hg=>⟨gi,by
  have:id<G.μ.length:=(List.getElem?_eq_some_iff.1 hg).1;simp only[];rw[List.getElem?_append_left this];exact hg,gi.le_refl⟩⟩
 have split:∀(id:Nat) gi,(G.μ++[.own (.slice none 0 0) size 0])[id]?=some gi→G.μ[id]?=some gi∨(id=G.μ.length∧gi=.own (.slice none 0 0) size 0):=by
  intro id gi hg;by_cases d7:id<G.μ.length
  ·rw[List.getElem?_append_left d7]at hg;exact .inl hg
  ·have eM:=(List.getElem?_eq_some_iff.1 hg).1;simp at eM;have:id=G.μ.length:=by omega
   subst this;simp at hg;exact .inr ⟨rfl,hg.symm⟩
 refine⟨he,by simp[h.len],?_,?_,h.fresh,?_,h.base⟩
 ·intro id ab gi h1 h2;rcases split id gi h2 with h2 | ⟨rfl,rfl⟩
  ·have d7:id<H.length:=by rw[←h.len];exact (List.getElem?_eq_some_iff.1 h2).1
   rw[List.getElem?_append_left d7]at h1;exact(h.ok id ab gi h1 h2).keep he (λb hb=>⟨rfl,rfl⟩)
  ·rw[h.len]at h1;simp at h1;subst h1;exact⟨rfl,rfl,⟨[],World.ownsRow_nil w B e size⟩,λb hb=>by simp[Value.ownBlock]at hb⟩
 ·intro id id' gi gi' b h1 h2 h3 h4;rcases split id gi h1 with k1 | ⟨e1,e2⟩ <;> rcases split id' gi' h2 with k2 | ⟨e3,e4⟩
  ·exact h.dist id id' gi gi' b k1 k2 h3 h4
  ·rw[e4]at h4;simp[GI.block,Value.ownBlock]at h4
  ·rw[e2]at h3;simp[GI.block,Value.ownBlock]at h3
  ·rw[e1,e3]
 ·intro id gi b h1 h2;rcases split id gi h1 with k1 | ⟨e1,e2⟩
  ·exact h.lt id gi b k1 h2
  ·rw[e2]at h2;simp[GI.block,Value.ownBlock]at h2

theorem zwo{v:Value}{a:AV}(h:DRel w G.L v a):v.oneCell'=true:=by cases h <;> rfl

theorem zrn{e size n:Nat}{v:Value}{xs:List Value}{es:List (List AV)}(ed:w.ownsRow B e size v n xs)(hd:DRel w G.L v (.sl es .none))(eO:es.length=n)(ep:∀c∈es,c.length=size):All2 (DRel w G.L) xs es.flatten:=by
 by_cases en:es=[]
 ·subst en;simp at eO;subst eO;have:xs=[]:=aB (by simpa using ed.1);rw[this];trivial
 ·obtain⟨b,off,cap,zs,hv,hl,hr,hc,_⟩:=hd.flat en ep;have gT:off=0:=by
   rcases ed.2 with ⟨h1,_⟩|⟨g,cap',cur,h1,_⟩
   ·rw[hv]at h1;simp at h1
   ·rw[hv]at h1;simp at h1;exact h1.1.2
  subst gT;rw[hv,eO]at ed;obtain⟨fN,_,_,hcx⟩:=zdw ed;have:xs=zs:=by
   apply aJ;intro j;by_cases hj:j<n*size
   ·have hz:j<zs.length:=by rw[hl,eO];exact hj
    have:=hc j zs[j] (by simp[hz]);rw[aG]at this;rw[←hcx j hj,this];simp[hz]
   ·rw[List.getElem?_eq_none (by omega),List.getElem?_eq_none (by rw[hl,eO];omega)]
  rw[this];exact hr

theorem HRel.newVec0(h:HRel B w G H)(e size:Nat):Ext B w G w ⟨G.L,G.μ++[.own (.slice none 0 0) size 0]⟩∧HRel B w ⟨G.L,G.μ++[.own (.slice none 0 0) size 0]⟩ (H++[.vec e size 0 []]):=by
 obtain⟨hE,hH⟩:=h.newOwn e size;refine⟨hE,by simpa using hH.len,λid ab gi h1 h2=>?_,hH.dist,hH.fresh,hH.lt,hH.base⟩;by_cases d7:id<H.length
 ·rw[List.getElem?_append_left d7]at h1;exact hH.ok id ab gi (by rw[List.getElem?_append_left d7];exact h1) h2
 ·have eM:=(List.getElem?_eq_some_iff.1 h2).1;simp[h.len]at eM;obtain rfl:id=H.length:=by omega
  simp at h1;have h2:(G.μ++[GI.own (.slice none 0 0) size 0])[H.length]?=some gi:=h2;rw[←h.len]at h2;simp at h2;subst h1 h2;exact⟨rfl,rfl,⟨[],World.ownsRow_nil w B e size,trivial⟩,λb hb=>by simp[Value.ownBlock]at hb⟩
theorem zyy{t e ty:TypeId}{size bytes:Nat}{z:Value}{vx vy:Value}{x:AV}{m:Nat}{ds:List AV}{K:AV→zaa→Prop}(hH:HRel B w G H)(he:zbc P t=some e)(hn:za0 P e=some size)(fh:zc5 P e=some bytes)(hz:zbA P e=some z)(jj:(zbx z).length=size)(hx:TRel w G vx x)(news:List Value)(ay:Option Addr)(capy:Nat)(kW:vy=.slice ay m capy)(jS:All2 (ARel w G) news ds)(fY:0<m→∃ b off,ay=some ⟨b,off,none⟩∧∀ j u,news[j]?=some u→w.cell? ⟨b,off+j,none⟩=some u)(h:zdV e size bytes x m ds H K):
  OpOK P B w G K (((do pure (.value (←Builtin.append_ #[t,t] ty #[vx,vy]))):Sem Next).run P w):=by
 subst kW;have gQ:=zdR (w:=w) (G:=G) z;have gR:z.cells.size=size:=by have:=gQ.length;simp at this;omega
 have fm:ds.all AV.known=true→∀u∈news,u.oneCell'=true:=λhk=>zqr jS (λc hc=>λhu=>by
  subst hu;have:=ak.1 hk _ hc;simp[AV.known]at this)
 have d8:=jS.length;unfold zdV at h;split at h
 ·rename_i id n;split at h
  ·rename_i e' s' n' cs d9;obtain⟨⟨⟨rfl,rfl,rfl⟩,gC,lZ,fR,fq⟩,hk⟩:=h;obtain⟨ia,v',s0,n0,hμ,eH,heq⟩:=hx;obtain⟨rfl,rfl,⟨xs,ed,lm⟩,_⟩:=hH.ok id _ _ d9 hμ;obtain rfl:=heq rfl;by_cases lr:m=0
   ·subst lr;obtain⟨ax,capx,rfl,eH⟩:=zkd ed;have ef:=zig (P:=P) (w:=w) (ty:=ty) (a:=ax) (c:=ay) (cap':=capy) he he ⟨_,hn⟩ eH;rw[Sem.run_bind,ef];refine⟨.ov id n',G,H,Ext.refl _ _ _,hH,⟨ia,_,_,n',hμ,aa _,λ_=>rfl⟩,?_⟩;have ji:ds=[]:=by cases ds <;> simp_all
    subst ji;have:H.set id (.vec e' s' n' cs)=H:=by
     apply aJ;intro k;by_cases hk:k=id
     ·subst hk;rw[List.getElem?_set_self (List.getElem?_eq_some_iff.1 d9).1];exact d9.symm
     ·rw[List.getElem?_set_ne (λh=>hk h.symm)]
    simp only[Nat.add_zero,aK,this]at hk;exact hk
   ·have gB:0<m:=by omega
    obtain⟨b,off,rfl,fS⟩:=fY gB;unfold za0 at hn;unfold zc5 at fh;unfold zbA at hz;cases hi:P.info? e' with
    |none=>simp[hi]at hn
    |some i=>simp[hi]at hn fh hz;subst hn;subst fh;obtain⟨v2,w',ef,eF,eq⟩:=zkb (P:=P) (ty:=ty) (zb6 he) hi hz gR ed ⟨b,off,none⟩ m capy news (by omega) (λj u hj=>by rw[add_lit];exact fS j u hj) (fm gC) gB (by simp only[maxLen];omega) fR hH.base;obtain⟨G',iW,eJ,hT⟩:=zir hH d9 hμ ed eF eq gB lm jS;rw[Sem.run_bind,ef];exact⟨_,G',_,iW,eJ,hT,hk⟩
  ·exact h.elim
 ·split at h
  ·obtain⟨mo,ax,rfl⟩:=hx;have ef:=zig (P:=P) (w:=w) (ty:=ty) (a:=ax) (c:=ay) (cap':=capy) he he ⟨_,hn⟩ (aa 0);rw[Sem.run_bind];simp only[List.length_nil];rw[ef];exact⟨.sl [] .none,G,H,Ext.refl _ _ _,hH,.slE _ _,h⟩
  ·rename_i m';obtain⟨⟨gC,lZ,fR,fq⟩,hk⟩:=h;obtain⟨mo,ax,rfl⟩:=hx;have gB:0<m'+1:=by omega
   obtain⟨b,off,rfl,fS⟩:=fY gB;unfold za0 at hn;unfold zc5 at fh;unfold zbA at hz;cases hi:P.info? e with
   |none=>simp[hi]at hn
   |some i=>
    simp[hi]at hn fh hz;subst hn;subst fh;obtain⟨v',w',ef,eF,mq,fk⟩:=zwC (P:=P) (ty:=ty) (n:=0) (xs:=[]) (zb6 he) hi hz gR (by simp) (λb hb j u hj=>by simp at hj) (λh=>rfl) ⟨b,off,none⟩ (m'+1) capy news (by omega) (λj u hj=>by rw[add_lit];exact fS j u hj) gB (by simp only[maxLen];omega) (by simpa using fR) hH.base;obtain⟨hE,iL⟩:=hH.newVec0 e i.size;have d9:(H++[.vec e i.size 0 []])[H.length]?=some (.vec e i.size 0 []):=by simp
    obtain⟨G',iW,eJ,hT⟩:=zir (n:=0) (cs:=[]) (xs:=[]) iL d9 (by rw[←hH.len];simp) (World.ownsRow_nil w B e i.size) (by simpa using eF) (.inr ⟨mq,fk⟩) gB trivial (jS.mono λ_ _=>hE.arel);rw[Sem.run_bind];simp only[List.length_nil];rw[ef];refine⟨_,G',_,hE.trans iW,eJ,hT,?_⟩;simpa using hk
 ·exact h.elim

theorem zIp{t e ty:TypeId}{size bytes:Nat}{z:Value}{vx vy:Value}{x y:AV}{K:AV→zaa→Prop}(hH:HRel B w G H)(he:zbc P t=some e)(hn:za0 P e=some size)(fh:zc5 P e=some bytes)(hz:zbA P e=some z)(jj:(zbx z).length=size)(hx:TRel w G vx x)(hy:TRel w G vy y)(h:zax e size bytes x y H K):
  OpOK P B w G K (((do pure (.value (←Builtin.append_ #[t,t] ty #[vx,vy]))):Sem Next).run P w):=by
 unfold zax at h;split at h
 ·rename_i id off len cap;split at h
  ·rename_i cs d9;obtain⟨b,hμ,rfl⟩:=hy;obtain⟨_,_,vs,_,hw,ew⟩:=hH.ok id _ _ d9 hμ;have hl:=ew.length;refine zyy hH he hn fh hz jj hx ((vs.toList.drop off).take (len*size)) _ _ rfl ((ew.drop off).take _) (λ_=>⟨b,off,rfl,λj u hj=>?_⟩) h.2;rw[List.getElem?_take]at hj;split at hj
   ·simp only[World.cell?,hw];simpa using hj
   ·cases hj
  ·exact h.elim
 ·rename_i id n;split at h
  ·rename_i e' s' n' cs d9;obtain⟨⟨rfl,rfl⟩,h⟩:=h;obtain⟨⟨a,cap0,rfl,_⟩,v',s0,n0,hμ,_,heq⟩:=hy;obtain⟨rfl,rfl,⟨xs,ed,ew⟩,_⟩:=hH.ok id _ _ d9 hμ;obtain rfl:=heq rfl;refine zyy hH he hn fh hz jj hx xs _ _ rfl ew (λhm=>?_) h;obtain⟨hl,eW⟩:=ed;rcases eW with ⟨h1,h2⟩ | ⟨g,cap,cur,h1,h2,h3,h4,h5,h6,h7⟩
   ·omega
   ·simp at h1;obtain⟨rfl,rfl⟩:=h1;obtain⟨_,_,_,er⟩:=zdw ⟨hl,.inr ⟨g,cap0,cur,rfl,h2,h3,h4,h5,h6,h7⟩⟩;exact⟨g,0,rfl,λj u hj=>by
     rw[aG,er j (by rw[←hl];exact(List.getElem?_eq_some_iff.1 hj).1)];exact hj⟩
  ·exact h.elim
 obtain⟨ys,np,lY,h⟩:∃ys,DRel w G.L vy (.sl ys .none)∧(∀c∈ys,c.length=size)∧zaK e size bytes x ys H K:=by
  unfold zaO at h;split at h
  ·rename_i ys tok _ _;exact⟨ys,zii hy,h.1,h.2⟩
  ·cases hy;exact⟨[],.slE _ _,h.1,h.2⟩
  ·exact h.elim
 have gQ:=zdR (w:=w) (G:=G) z;have gR:z.cells.size=size:=by have:=gQ.length;simp at this;omega
 -- the general step, for a right that is there already
 have main:∀ (G0:Gh) (H0:zaa) (id:Nat) (es:List (List AV)) (v:Value),Ext B w G w G0→HRel B w G0 H0→H0[id]?=some (.perm e size es.length)→G0.μ[id]?=some (.own v size es.length)→DRel w G.L v (.sl es .none) →
   (∀c∈es,c.length=size)→vx=v→(es.length+ys.length)*bytes≤140737488355328→es.length+ys.length≤9223372036854775807→K (.sl (es++ys) (.own id)) (H0.set id (.perm e size (es.length+ys.length))) →
   OpOK P B w G K (((do pure (.value (←Builtin.append_ #[t,t] ty #[vx,vy]))):Sem Next).run P w):=by
  intro G0 H0 id es v hE iL d9 hμ mo l0 ei fR fq hk;subst ei;obtain⟨_,_,⟨xs,ed⟩,_⟩:=iL.ok id _ _ d9 hμ;by_cases lr:ys=[]
  ·subst lr;obtain⟨ay,capy,rfl,_⟩:=np.slice_form;obtain⟨ax,capx,rfl,eH⟩:=zkd ed;have ef:=zig (P:=P) (w:=w) (ty:=ty) (a:=ax) (c:=ay) (cap':=capy) he he ⟨size,hn⟩ eH;simp only[List.length_nil];rw[Sem.run_bind,ef];refine⟨.sl es (.own id),G0,H0,hE,iL,⟨hE.drel mo,_,size,es.length,hμ,aa _,λ_=>⟨rfl,l0⟩⟩,?_⟩;have:H0.set id (.perm e size (es.length+0))=H0:=by
    apply aJ;intro k;by_cases hk:k=id
    ·subst hk;rw[List.getElem?_set_self (List.getElem?_eq_some_iff.1 d9).1];exact d9.symm
    ·rw[List.getElem?_set_ne (λh=>hk h.symm)]
   rw[List.length_nil,this]at hk;simpa using hk
  ·obtain⟨b,off,capy,news,kW,kj,jS,fY,_⟩:=np.flat lr lY;subst kW;have gB:0<ys.length:=by cases ys <;> simp_all
   unfold za0 at hn;unfold zc5 at fh;unfold zbA at hz;cases hi:P.info? e with
   |none=>simp[hi]at hn
   |some i=>
    simp[hi]at hn fh hz;subst hn;subst fh;have fm:∀u∈news,u.oneCell'=true:=λu hu=>by obtain⟨j,hj⟩:=aM.1 hu;obtain⟨c,_,h2⟩:=jS.get' hj;exact zwo h2
    obtain⟨v',w',ef,eF,eq⟩:=zkb (P:=P) (ty:=ty) (zb6 he) hi hz gR ed ⟨b,off,none⟩ ys.length capy news kj (λj u hj=>by rw[add_lit];exact fY j u hj) fm gB (by simp only[maxLen];omega) fR iL.base;obtain⟨G',iW,eJ,hT⟩:=zkc iL d9 hμ ed eF eq rfl gB rfl l0 lY (zrn ed (hE.drel mo) rfl l0) (jS.mono λ_ _=>hE.drel);rw[Sem.run_bind,ef];exact⟨_,G',_,hE.trans iW,eJ,hT,hk⟩
 unfold zaK at h;split at h
 ·cases hx;obtain⟨hE,iL⟩:=hH.newOwn e size;have d9:(H++[.perm e size 0])[H.length]?=some (.perm e size ([]:List (List AV)).length):=by simp
  refine main _ _ H.length [] _ hE iL d9 (by rw[←hH.len];simp) (.slE _ _) (by simp) rfl (by simpa using h.1.1) (by simpa using h.1.2) ?_;simpa using h.2
 ·rename_i es id _;obtain⟨h1,⟨h2,h3⟩,hk⟩:=h;obtain⟨hd,v',s',n',hμ,eH,heq⟩:=hx;have eh:=hH.ok id _ _ h1 hμ;obtain⟨oX,ip,_⟩:=eh;subst ip;subst oX;obtain⟨oc,l0⟩:=heq rfl;subst oc;exact main G H id es _ (Ext.refl _ _ _) hH h1 hμ hd l0 rfl h2 h3 hk
 ·rename_i id n _;split at h
  ·rename_i e' s' n' cs d9;obtain⟨⟨⟨rfl,rfl,rfl⟩,fR,fq⟩,hk⟩:=h;obtain⟨ia,v',s0,n0,hμ,eH,heq⟩:=hx;obtain⟨rfl,rfl,⟨xs,ed,lm⟩,_⟩:=hH.ok id _ _ d9 hμ;obtain rfl:=heq rfl;by_cases lr:ys=[]
   ·subst lr;obtain⟨ay,capy,rfl,_⟩:=np.slice_form;obtain⟨ax,capx,rfl,eH⟩:=zkd ed;have ef:=zig (P:=P) (w:=w) (ty:=ty) (a:=ax) (c:=ay) (cap':=capy) he he ⟨_,hn⟩ eH;simp only[List.length_nil];rw[Sem.run_bind,ef];refine⟨.ov id n',G,H,Ext.refl _ _ _,hH,⟨ia,_,_,n',hμ,aa _,λ_=>rfl⟩,?_⟩;have:H.set id (.vec e' s' n' cs)=H:=by
     apply aJ;intro k;by_cases hk:k=id
     ·subst hk;rw[List.getElem?_set_self (List.getElem?_eq_some_iff.1 d9).1];exact d9.symm
     ·rw[List.getElem?_set_ne (λh=>hk h.symm)]
    simp only[List.length_nil,Nat.add_zero,List.flatten_nil,aK,this]at hk;exact hk
   ·obtain⟨b,off,capy,news,kW,kj,jS,fY,_⟩:=np.flat lr lY;subst kW;have gB:0<ys.length:=by cases ys <;> simp_all
    unfold za0 at hn;unfold zc5 at fh;unfold zbA at hz;cases hi:P.info? e' with
    |none=>simp[hi]at hn
    |some i=>
     simp[hi]at hn fh hz;subst hn;subst fh;have fm:∀u∈news,u.oneCell'=true:=λu hu=>by obtain⟨j,hj⟩:=aM.1 hu;obtain⟨c,_,h2⟩:=jS.get' hj;exact zwo h2
     obtain⟨v2,w',ef,eF,eq⟩:=zkb (P:=P) (ty:=ty) (zb6 he) hi hz gR ed ⟨b,off,none⟩ ys.length capy news kj (λj u hj=>by rw[add_lit];exact fY j u hj) fm gB (by simp only[maxLen];omega) fR hH.base;obtain⟨G',iW,eJ,hT⟩:=zir hH d9 hμ ed eF eq gB lm (jS.mono λ_ _ h=>ARel.of_b h.toB);rw[Sem.run_bind,ef];exact⟨_,G',_,iW,eJ,hT,hk⟩
  ·exact h.elim
 ·rename_i es _;obtain⟨mo,ax,rfl⟩:=hx;by_cases hys0:ys=[]
  ·subst hys0;have hk:K (.sl es .full) H:=h;obtain⟨ay,capy,rfl,_⟩:=np.slice_form;have ef:=zig (P:=P) (w:=w) (ty:=ty) (a:=ax) (c:=ay) (n:=es.length) (cap:=es.length) (cap':=capy) he he ⟨size,hn⟩ (aa _);simp only[List.length_nil];rw[Sem.run_bind,ef];exact⟨.sl es .full,G,H,Ext.refl _ _ _,hH,⟨mo,ax,rfl⟩,hk⟩
  have h:(0<ys.length∧(∀c∈es,c.length=size)∧(es.length+ys.length)*bytes≤140737488355328∧es.length+ys.length≤9223372036854775807)∧K (.sl (es++ys) (.own H.length)) (H++[.perm e size (es.length+ys.length)]):=by
   cases ys with
   |nil=>exact absurd rfl hys0
   |cons y ys=>exact h
  obtain⟨⟨gB,l0,fR,fq⟩,hk⟩:=h;have lr:ys≠[]:=λh=>by rw[h]at gB;simp at gB
  obtain⟨b,off,capy,news,kW,kj,jS,fY,_⟩:=np.flat lr lY;subst kW;unfold za0 at hn;unfold zc5 at fh;unfold zbA at hz;cases hi:P.info? e with
  |none=>simp[hi]at hn
  |some i=>
   simp[hi]at hn fh hz;subst hn;subst fh;obtain⟨xs,fN,lm,od,iJ⟩:∃xs:List Value,xs.length=es.length*i.size∧All2 (DRel w G.L) xs es.flatten∧(∀b,ax=some b→∀j u,xs[j]?=some u→w.cell? (b.add j)=some u)∧(ax=none→es.length=0):=by
    by_cases en:es=[]
    ·subst en;exact⟨[],by simp,trivial,λb hb j u hj=>by simp at hj,λ_=>rfl⟩
    ·obtain⟨b2,off2,cap2,xs,mr,fN,lm,od,_⟩:=mo.flat en l0;injection mr with e1 e2 e3
     subst e1;refine⟨xs,fN,lm,λb hb j u hj=>?_,λh=>by cases h⟩;injection hb with hb
     subst hb;rw[add_lit];exact od j u hj
   obtain⟨v',w',ef,eF,mq,fk⟩:=zwC (P:=P) (ty:=ty) (zb6 he) hi hz gR fN od iJ ⟨b,off,none⟩ ys.length capy news kj (λj u hj=>by rw[add_lit];exact fY j u hj) gB (by simp only[maxLen];omega) fR hH.base;obtain⟨hE,iL⟩:=hH.newOwn e i.size;have d9:(H++[.perm e i.size 0])[H.length]?=some (.perm e i.size 0):=by simp
   obtain⟨G',iW,eJ,hT⟩:=zkc (es:=[]) (ys:=es++ys) (xs:=[]) (news:=xs++news) (m:=es.length+ys.length) (v':=v') (w':=w') iL d9 (by rw[←hH.len];simp) (World.ownsRow_nil w B e i.size)
    (by simpa using eF) (.inr ⟨mq,fk⟩) (by simp) (by omega) rfl (by simp) (λc hc=>by
     rcases aX.1 hc with hc|hc
     ·exact l0 c hc
     ·exact lY c hc) trivial (by rw[cg];exact(lm.append jS).mono λ_ _=>hE.drel)
   rw[Sem.run_bind,ef];refine⟨_,G',_,hE.trans iW,eJ,hT,?_⟩;simpa using hk
 ·exact h.elim

theorem zF9{v:Value}{a:AV}(h:TRel w G v a)(hb:a.isB=true):BRel w G v a:=by cases a <;> first|exact h|(simp[AV.isB]at hb;done)
theorem zwJ:∀ {vs:List Value} {asx:List AV},All2 (TRel w G) vs asx→asx.all AV.isB=true→All2 (BRel w G) vs asx
 |[],[],_,_=>trivial
 |v::vs,a::asx,h,hb=>by simp only[List.all_cons,ai]at hb;exact⟨zF9 h.1 hb.1,zwJ h.2 hb.2⟩


theorem zce{s:Sem Value}{K:AV→zaa→Prop}(hH:HRel B w G H)(h:∃r,s.run P w=.ok r w∧∃av,TRel w G r av∧K av H):OpOK P B w G K (((do pure (.value (←s))):Sem Next).run P w):=by obtain⟨r,h1,av,h2,h3⟩:=h;rw[Sem.run_bind,h1];exact⟨av,G,H,Ext.refl _ _ _,hH,h2,h3⟩

theorem zj9{a:Act}{F:List AV}(hF:FRel w G a.tmps F)(x:Option Operand):All2 (TRel w G) (x.map a.eval).toList (x.map (ev F)).toList:=by
 cases x with
 |none=>trivial
 |some x=>exact⟨zaP hF x,trivial⟩

theorem zqp{a:Act}{F:List AV}(hF:FRel w G a.tmps F)(ps:List (Nat × Operand)):
  All2 (λ(p:Nat×Value) (q:Nat×AV)=>p.1=q.1∧TRel w G p.2 q.2) (ps.map λ(i,x)=>(i,a.eval x)) (ps.map λp=>(p.1,ev F p.2)):=by
 induction ps with
 |nil=>trivial
 |cons p ps ih=>exact⟨⟨rfl,zaP hF p.2⟩,ih⟩

theorem zHK{f:FuncId}{vs:Array Value}(h:zd1 P f=true):(callFunc f vs).run P w=.ok (.enter f vs) w:=by
 unfold zd1 at h;cases hf:P.funcs[f]? with
 |none=>simp[hf]at h
 |some fn=>
  simp only[hf,ai,cw]at h;obtain⟨h1,h2⟩:=h;have h3:fn.body.isNone=false:=by cases hb:fn.body <;> simp_all
  simp only[callFunc,Sem.run_bind,run_program,Result.andThen_ok,hf,h1,h3,aF,aH,Sem.run_pure]

theorem zIw{c:Call}{ty:TypeId}{a:Act}{F:List AV}{fo:Operand}{K:AV→zaa→Prop}(hH:HRel B w G H)(hF:FRel w G a.tmps F)(hc:c.callee=.value fo)(h:aCallV P (ev F fo) (c.args.toList.map (ev F)) H K):OpOK P B w G K (((do let d ←resolve a.eval c ty;invoke d.target d.args):Sem Next).run P w):=by
 have hf:=zaP hF fo;unfold aCallV at h;split at h
 ·rename_i f caps iX;rw[iX]at hf;obtain⟨cs,mt,hcaps⟩:=hf;split at h
  ·rename_i hcall;have ef:((do let d ←resolve a.eval c ty;invoke d.target d.args):Sem Next).run P w=.ok (.enter f (c.args.map a.eval++cs)) w:=by simp only[resolve,hc,mt,Deferred.ofValue,Sem.run_bind,Sem.run_pure,Result.andThen_ok,invoke,cM];exact zHK hcall
   rw[ef];refine⟨rfl,h B w G _ hH ?_⟩;have h1:=zwp hF c.args.toList;have h2:All2 (TRel w G) cs.toList caps:=hcaps.mono λ_ _ hb=>TRel.of_v (VRel.of_a (ARel.of_b hb));simpa using h1.append h2
  ·exact h.elim
 ·exact h.elim

theorem zvG{α:Type}{xs:Array α}{x:α}(h:xs.toList=[x]):xs=#[x]:=by cases xs;simp_all
theorem zhb{α:Type}{xs:Array α}{x y:α}(h:xs.toList=[x,y]):xs=#[x,y]:=by cases xs;simp_all

theorem zIA{t t' ty e:TypeId}{size:Nat}{x y:AV}{u v:Value}{K:AV→zaa→Prop}(hH:HRel B w G H)(he:zbc P t=some e)(hs:za0 P e=some size)(hx:TRel w G u x)(hy:TRel w G v y)(h:zg0 size x y H K):OpOK P B w G K (((do pure (.value (←Builtin.copy_ #[t,t'] ty #[u,v]))):Sem Next).run P w):=by
 unfold zg0 at h;split at h
 ·rename_i id n lo z id' n' lo' z';split at h
  ·rename_i e0 s m cs ew;obtain⟨⟨⟨⟨rfl,rfl,rfl⟩,rfl,rfl,rfl⟩,gC⟩,hk⟩:=h;obtain⟨⟨iH,a,c,rfl,hc⟩,v1,s1,n1,hμ,_,heq⟩:=hx;obtain⟨⟨hlo',a',c',rfl,iY⟩,v2,s2,n2,hμ2,_,lu⟩:=hy;rw[hμ]at hμ2;cases hμ2;obtain⟨rfl,rfl,⟨xs,ed,hr⟩,_⟩:=hH.ok _ _ _ ew hμ
   replace heq:=heq rfl
   replace lu:=lu rfl
   have jB:=hr.length;obtain⟨hyl,eW⟩:=ed;obtain⟨k,oe⟩:∃k,k=min (m-lo') (m-lo):=⟨_,rfl⟩;have hkd2:Nat.min (m-lo') (m-lo)=k:=oe.symm;rw[←oe]at hk;by_cases gI:k=0
   ·have eV:H.set id' (.vec e0 s m (zfr cs (lo*s) ((cs.drop (lo'*s)).take (k*s))))=H:=by
     rw[gI];simp only[zfr,dN,List.take_zero,aK,List.length_nil,Nat.add_zero,aT];apply aJ;intro j;by_cases hj:id'=j
     ·subst hj;rw[List.getElem?_set_self (List.getElem?_eq_some_iff.1 ew).1,ew]
     ·rw[List.getElem?_set_ne hj]
    rw[eV]at hk;have ef:((do pure (.value (←Builtin.copy_ #[t,t'] ty #[.slice a (m-lo) c,.slice a' (m-lo') c']))):Sem Next).run P w=.ok (.value (.int .i64 ((k:Nat):Int))) w:=by
     have hl:∀(x:Addr),(loadCells x 0).run P w=.ok #[] w:=λx=>by simpa using run_loadCells_list (P:=P) w x [] (by simp)
     cases a <;> cases a' <;> simp[Builtin.copy_,za1 (zb6 he),Builtin.lenOf,Builtin.firstCells,zbX hs,hkd2,gI,storeCells,hl,goInt]
    rw[ef];exact OpOK.same (av:=.int .i64 ((k:Nat):Int)) hH rfl hk
   ·rcases eW with ⟨rfl,jC⟩ | ⟨g,cap,cur,rfl,jx,hw,fE,gO,iF,jh⟩
    ·omega
    ·simp only[zih,ap (show ¬ cap=lo by omega),ap (show ¬ cap=lo' by omega),add_lit,aG,Value.slice.injEq]at heq lu;obtain⟨rfl,_,rfl⟩:=heq;obtain⟨rfl,_,rfl⟩:=lu;obtain⟨vals,km⟩:∃ vals,vals=(xs.drop (lo'*s)).take (k*s):=⟨_,rfl⟩;have fP:lo'*s+k*s≤m*s:=by rw[←aZ];exact au _ (by omega)
     have hks2:lo*s+k*s≤m*s:=by rw[←aZ];exact au _ (by omega)
     have nq:vals.length=k*s:=by rw[km];simp;omega
     have mu:All2 (ARel w G) vals ((cs.drop (lo'*s)).take (k*s)):=by rw[km];exact(hr.drop _).take _
     have fm:∀v∈vals,v.oneCell'=true:=zqr mu (λc hc=>by
      have:=ak.1 gC c (List.mem_of_mem_drop (bE hc));intro oQ;subst oQ;simp[AV.known]at this)
     obtain⟨_,_,_,er⟩:=zdw (w:=w) (B:=B) (e:=e0) (size:=s) (n:=m) (cap:=cap) (g:=g) (xs:=xs) ⟨hyl,.inr ⟨g,cap,cur,rfl,jx,hw,fE,gO,iF,jh⟩⟩;have hload:(loadCells ⟨g,lo'*s,none⟩ (k*s)).run P w=.ok vals.toArray w:=by rw[←nq];refine run_loadCells_list (P:=P) w ⟨g,lo'*s,none⟩ vals λj v hj=>?_;have eN:j<vals.length:=(List.getElem?_eq_some_iff.1 hj).1;rw[add_lit,er _ (by omega)];rw[km,List.getElem?_take_of_lt (by omega),List.getElem?_drop]at hj;exact hj
     have hms:m*s≤cur.size:=by rw[iF];exact au _ fE
     have eD:=run_storeCells_at P g (lo*s) e0 vals 0 cur w hw (by omega) fm;simp only[Nat.add_zero]at eD;have eX:(cur.toList.take (lo*s)++vals++cur.toList.drop (lo*s+vals.length)).toArray.toList.take (m*s)=xs.take (lo*s)++vals++xs.drop (lo*s+vals.length):=by
      rw[←jh];simp only[dJ,aW,Array.length_toList,az,nq];rw[cR,cR,du,am (l:=vals) (by omega)];congr 2
      ·congr 1;omega
      ·congr 1;omega
     have hvl2:((cs.drop (lo'*s)).take (k*s)).length=vals.length:=mu.length.symm;obtain⟨hE,eJ⟩:=hH.storeV (cs':=zfr cs (lo*s) ((cs.drop (lo'*s)).take (k*s))) ew hμ hw jx fE gO (by simp[az,nq];omega) eX (by simp[nq];omega) (by
      have:=((hr.take (lo*s)).append mu).append (hr.drop (lo*s+vals.length));unfold zfr;rw[hvl2];simpa using this)
     have ef:((do pure (.value (←Builtin.copy_ #[t,t'] ty #[.slice (some ⟨g,lo*s,none⟩) (m-lo) (cap-lo),.slice (some ⟨g,lo'*s,none⟩) (m-lo') (cap-lo')]))):Sem Next).run P w=.ok (.value (.int .i64 ((k:Nat):Int))) (w.setRow g (cur.toList.take (lo*s)++vals++cur.toList.drop (lo*s+vals.length)).toArray):=by simp[Builtin.copy_,za1 (zb6 he),Builtin.lenOf,Builtin.firstCells,zbX hs,hkd2,hload,eD,goInt]
     rw[ef];exact⟨.int .i64 ((k:Nat):Int),G,_,hE,eJ,rfl,hk⟩
  ·exact h.elim
 ·exact h.elim
theorem zIv{c:Call}{ty:TypeId}{a:Act}{F:List AV}{b:Builtin}{K:AV→zaa→Prop}(hH:HRel B w G H)(hF:FRel w G a.tmps F)(hc:c.callee=.builtin b)(h:zeL P b c F H K):OpOK P B w G K (((do let d ←resolve a.eval c ty;invoke d.target d.args):Sem Next).run P w):=by
 cases b <;> simp only[zeL]at h <;> (try exact h.elim)
 case append=>
  split at h
  ·rename_i x y t t' e5 gj;split at h
   ·rename_i e size bytes z he hs hb hz htt;simp only[a6]at htt;subst htt;split at h
    ·rename_i hq;simp only[ai,aR,a6]at hq;simp only[he,Option.bind_some]at hs hz hb;have h1:=zhb e5;have h2:=zhb gj;have ef:((do let d ←resolve a.eval c ty;invoke d.target d.args):Sem Next).run P w=((do pure (.value (←Builtin.append_ #[t,t] ty #[a.eval x,a.eval y]))):Sem Next).run P w:=by simp only[resolve,hc,h1,h2,ci,aD,bJ,Sem.run_bind,Sem.run_pure,Result.andThen_ok,invoke,builtin]
     rw[ef];exact zIp hH he hs hb hz hq.2 (zaP hF x) (zaP hF y) h
    ·exact h.elim
   ·exact h.elim
  ·exact h.elim
 case copy=>
  split at h
  ·rename_i x y t t' e5 gj;split at h
   ·rename_i size hs;have h1:=zhb e5;have h2:=zhb gj;cases he:zbc P t with
    |none=>simp[he]at hs
    |some e=>
     simp only[he,Option.bind_some]at hs;have ef:((do let d ←resolve a.eval c ty;invoke d.target d.args):Sem Next).run P w=((do pure (.value (←Builtin.copy_ #[t,t'] ty #[a.eval x,a.eval y]))):Sem Next).run P w:=by simp only[resolve,hc,h1,h2,ci,aD,bJ,Sem.run_bind,Sem.run_pure,Result.andThen_ok,invoke,builtin]
     rw[ef];exact zIA hH he hs (zaP hF x) (zaP hF y) h
   ·exact h.elim
  ·exact h.elim
 case max=>
  split at h
  ·rename_i x y e5;have h1:=zhb e5;have ef:((do let d ←resolve a.eval c ty;invoke d.target d.args):Sem Next).run P w=((do pure (.value (←Builtin.max_ c.argTypes ty #[a.eval x,a.eval y]))):Sem Next).run P w:=by simp only[resolve,hc,h1,ci,aD,bJ,Sem.run_bind,Sem.run_pure,Result.andThen_ok,invoke,builtin]
   rw[ef];unfold zf5 at h;have hx:=zaP hF x;have hy:=zaP hF y;split at h
   ·rename_i k m k' n e1 e2;rw[e1]at hx;rw[e2]at hy;have hx:a.eval x=.int k m:=hx;have hy:a.eval y=.int k' n:=hy;rw[hx,hy];have hr:((do pure (.value (←Builtin.max_ c.argTypes ty #[.int k m,.int k' n]))):Sem Next).run P w=.ok (.value (.int k (if n>m then n else m))) w:=by
     have h2:(Builtin.max_ c.argTypes ty #[.int k m,.int k' n]).run P w=.ok (.int k (if n>m then n else m)) w:=by simp[Builtin.max_,Builtin.max2]
     rw[Sem.run_bind,h2];rfl
    rw[hr];exact OpOK.same (av:=.int k (if n>m then n else m)) hH rfl h
   ·exact h.elim
  ·exact h.elim
 case len=>
  split at h
  ·rename_i x t e5 gj;split at h
   ·rename_i u hu;have h1:=zvG e5;have h2:=zvG gj;have ef:((do let d ←resolve a.eval c ty;invoke d.target d.args):Sem Next).run P w=((do pure (.value (←Builtin.len_ #[t] ty #[a.eval x]))):Sem Next).run P w:=by simp only[resolve,hc,h1,h2,ci,aD,bJ,Sem.run_bind,Sem.run_pure,Result.andThen_ok,invoke,builtin]
    rw[ef];exact zce hH (zIH (zaP hF x) hu h)
   ·exact h.elim
  ·exact h.elim

theorem zGO{o:Oper}{a:Act}{F:List AV}{K:AV→zaa→Prop}(hH:HRel B w G H)(hF:FRel w G a.tmps F)(h:zdr P o F H K):OpOK P B w G K ((execOp a.eval o).run P w):=by
 obtain⟨dst,op,type,pos,after,guard⟩:=o;unfold zdr at h;simp only[]at h;cases op <;> (try simp only[]at h) <;> (try exact h.elim) <;> simp only[execOp]
 case move x=>exact OpOK.same hH (zaP hF x) h
 case assign x=>exact OpOK.same hH (zaP hF x) h
 case pick c x y=>
  unfold zak at h;split at h
  ·rename_i t ht;have hc:=zaP hF c;rw[ht]at hc;have hc:a.eval c=.bool t:=hc;have ef:((do pure (.value (if ←asBool (a.eval c) then a.eval x else a.eval y))):Sem Next).run P w=.ok (.value (if t=true then a.eval x else a.eval y)) w:=by rw[hc];cases t <;> rfl
   rw[ef];refine OpOK.same hH ?_ h;cases t
   ·exact zaP hF y
   ·exact zaP hF x
  ·exact h.elim
 case alloc t=>
  split at h
  ·rename_i z hz;exact zIo hH hz h
  ·exact h.elim
 case box t x=>exact zIr hH (zaP hF x) h
 case build t dX=>
  split at h
  ·rename_i z ps hz hp;exact zce hH (zIs hz hp (by simpa using zqp hF dX.toList) h)
  ·exact h.elim
 case buildSlice t len dX=>
  split at h
  ·rename_i size z hs hz;split at h
   ·rename_i hb;simp only[ai,aR,a6]at hb;cases he:zbc P t with
    |none=>simp[he]at hs
    |some e=>simp only[he,Option.bind_some]at hs hz;exact zIt hH he hs hz hb.1.1 hb.1.2 hb.2 (by simpa using zqp hF dX.toList) h
   ·exact h.elim
  ·exact h.elim
 case load t x=>
  split at h
  ·rename_i g n hg hn;obtain⟨u,h1,av,h2,h3⟩:=zyz hH (zaP hF x) hg hn h;exact zce hH ⟨u,h1,av,h2,h3⟩
  ·exact h.elim
 case store t x y=>
  split at h
  ·rename_i n hn;obtain⟨w',H',h1,h2,h3,h4⟩:=zIQ hH (zaP hF x) (zaP hF y) hn h;have ef:((do Instr.storeAt t (a.eval x) (a.eval y);pure .skip):Sem Next).run P w=.ok .skip w':=by rw[Sem.run_bind,h1];rfl
   rw[ef];exact⟨G,H',h2,h3,h4⟩
  ·exact h.elim
 case nilCheck x=>
  have hx:=zaP hF x;rw[zEs]at h;split at h
  ·rename_i id off d9;rw[d9]at hx h;obtain⟨b,hμ,hv⟩:=hx;rw[hv];exact OpOK.same hH (av:=.ptr id off) ⟨b,hμ,rfl⟩ h
  ·rename_i cs d9;rw[d9]at hx h;obtain⟨b,off,hv,hc⟩:=hx;rw[hv];exact OpOK.same hH (av:=.view cs) ⟨b,off,rfl,hc⟩ h
  ·rename_i f cs d9;rw[d9]at hx h;obtain⟨vs,hv,hc⟩:=hx;rw[hv];exact OpOK.same hH (av:=.fn f cs) ⟨vs,rfl,hc⟩ h
  ·rename_i id m off d9;rw[d9]at hx h;obtain⟨⟨b,o,hv⟩,hr⟩:=hx;rw[hv]at hr ⊢;exact OpOK.same hH (av:=.vp id m off) ⟨⟨b,o,rfl⟩,hr⟩ h
  ·exact h.elim
 case binOp op t x y yt=>
  split at h
  ·rename_i hy;exact zce hH (zIM (zaP hF x) hy h)
  ·exact zce hH (zIq (zaP hF x) (zaP hF y) h)
 case unOp op t x=>exact zce hH (zIR (zaP hF x) h)
 case convert s t x=>
  have ko:∀ k,cvK P s t=some k→(match k with
    |.ints k=>(∃j,P.underlying s=some (.int j))∧P.underlying t=some (.int k)
    |.strs=>P.underlying s=some .string∧P.underlying t=some .string
    |.bytes=>∃e,P.underlying s=some (.slice e)∧P.underlying t=some .string∧tU8 P e=true):=by
   intro k hk;unfold cvK at hk;split at hk
   ·rename_i hs;split at hk
    ·rename_i ht;cases hk;exact⟨⟨_,hs⟩,ht⟩
    ·cases hk
   ·rename_i hs;split at hk
    ·rename_i ht;cases hk;exact⟨hs,ht⟩
    ·cases hk
   ·rename_i hs;split at hk
    ·rename_i ht;split at hk
     ·rename_i he;cases hk;exact⟨_,hs,ht,he⟩
     ·cases hk
    ·cases hk
   ·cases hk
  split at h
  ·rename_i k hk;obtain⟨⟨j,hs⟩,ht⟩:=ko _ hk;exact zce hH (zIx (zaP hF x) hs ht h)
  ·rename_i hk;obtain⟨hs,ht⟩:=ko _ hk;exact zce hH (zIz (zaP hF x) hs ht h)
  ·rename_i hk;obtain⟨e,hs,ht,he⟩:=ko _ hk;exact zce hH (zIy (zaP hF x) hs ht he h)
  ·exact h.elim
 case makeFunc fn first caps=>
  cases fn <;> simp only[]at h <;> (try exact h.elim)
  rename_i f;split at h
  ·rename_i hfirst;obtain⟨hb,hk⟩:=h;have hf0:first=#[]:=by cases first;simp_all
   subst hf0;have ef:((do pure (.value (←Instr.makeFunc (.func f) (Array.map a.eval #[]) (caps.map a.eval)))):Sem Next).run P w=.ok (.value (.func (.func f) #[] (caps.map a.eval))) w:=by simp[Instr.makeFunc]
   rw[ef];refine OpOK.same hH (av:=.fn f (caps.toList.map (ev F))) ⟨_,rfl,?_⟩ hk;have:=zwJ (zwp hF caps.toList) hb;simpa using this
  ·exact h.elim
 case makeSlice t l c=>
  split at h
  ·rename_i size bytes z hs hb hz;split at h
   ·rename_i hq;simp only[ai,aR,a6]at hq;cases he:zbc P t with
    |none=>simp[he]at hs
    |some e=>simp only[he,Option.bind_some]at hs hz hb;exact zIJ hH he hs hb hz hq.1 hq.2 (zaP hF l) (zaP hF c) h
   ·exact h.elim
  ·exact h.elim
 case slice t x lo hi mx=>
  cases mx <;> simp only[]at h <;> (try exact h.elim)
  split at h
  ·rename_i ht;exact zce hH (zqQ (zaP hF x) (zj9 hF lo) (zj9 hF hi) ht (by omega) h)
  ·rename_i ht;split at h
   ·rename_i size hs;exact zce hH (zqQ (zaP hF x) (zj9 hF lo) (zj9 hF hi) ht (λ_=>hs) h)
   ·exact h.elim
  ·exact h.elim
 case fieldAddr s x i=>
  split at h
  ·rename_i f hf;split at h
   ·rename_i n hn;exact zce hH (zID (zaP hF x) hf hn h)
   ·exact h.elim
  ·exact h.elim
 case field s x i=>
  split at h
  ·rename_i f hf;split at h
   ·rename_i g n hg hn;exact zce hH (zIE (zaP hF x) hf hg hn h)
   ·exact h.elim
  ·exact h.elim
 case indexAddr t x i=>
  split at h
  ·rename_i size hs;cases he:zbc P t with
   |none=>simp[he]at hs
   |some e=>simp only[he,Option.bind_some]at hs;exact zce hH (zIF (zaP hF x) (zaP hF i) he hs h)
  ·exact h.elim
 case index t x i=>
  split at h
  ·rename_i ht;exact zce hH (zIG (zaP hF x) (zaP hF i) ht h)
  ·exact h.elim
 case extract x i=>exact zce hH (zIB (zaP hF x) h)
 case call c=>
  split at h
  ·rename_i fo hc;exact zIw hH hF hc h
  ·rename_i b hc;exact zIv hH hF hc h
  ·exact h.elim

theorem zGT{o:Oper}{a:Act}{F:List AV}{K:AV→zaa→Prop}(hH:HRel B w G H)(hF:FRel w G a.tmps F)(h:zeP P o.op F H K):OpOK P B w G K ((execOp a.eval o).run P w):=by
 obtain⟨dst,op,type,pos,after,guard⟩:=o;unfold zeP at h;simp only[]at h;cases op <;> (try simp only[]at h) <;> (try exact h.elim) <;> simp only[execOp]
 case makeMap t r=>
  split at h
  ·exact zIL hH h
  ·exact h.elim
 case lookup t x i ok=>
  split at h
  ·rename_i z hz;cases he:zeE P t with
   |none=>simp[he]at hz
   |some e=>simp only[he,Option.bind_some]at hz;exact zce hH (zII hH he hz (zaP hF x) (zaP hF i) h)
  ·exact h.elim
 case mapUpdate t m k x=>
  split at h
  ·rename_i e he;obtain⟨w',H',h1,h2,h3,h4⟩:=zyA hH he (zaP hF m) (zaP hF k) (zaP hF x) h;have ef:((do Instr.mapUpdate t (a.eval m) (a.eval k) (a.eval x);pure .skip):Sem Next).run P w=.ok .skip w':=by rw[Sem.run_bind,h1];rfl
   rw[ef];exact⟨G,H',h2,h3,h4⟩
  ·exact h.elim
 case insert t m k x=>
  split at h
  ·rename_i e he;obtain⟨w',H',h1,h2,h3,h4⟩:=zyA hH he (zaP hF m) (zaP hF k) (zaP hF x) h;have ef:((do Instr.mapUpdate t (a.eval m) (a.eval k) (a.eval x);pure .skip):Sem Next).run P w=.ok .skip w':=by rw[Sem.run_bind,h1];rfl
   rw[ef];exact⟨G,H',h2,h3,h4⟩
  ·exact h.elim
theorem zfA{o:Oper}{a:Act}{F:List AV}{K:AV→zaa→Prop}(hH:HRel B w G H)(hF:FRel w G a.tmps F)(h:aop P o F H K):OpOK P B w G K ((execOp a.eval o).run P w):=by
 unfold aop at h;split at h
 ·exact zGT hH hF h
 ·exact zGO hH hF h

end
end Go.Proofs.YtdmamdnkcefmmaaGreatDoor
