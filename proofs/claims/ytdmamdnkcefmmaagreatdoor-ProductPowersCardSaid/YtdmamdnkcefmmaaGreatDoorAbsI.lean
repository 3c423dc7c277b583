import Derived.Test.YtdmamdnkcefmmaaGreatDoorAbsH
set_option linter.unusedSimpArgs false
set_option linter.unusedVariables false
set_option maxRecDepth 8000
namespace Go.Proofs.YtdmamdnkcefmmaaGreatDoor
section
open Go.RowKit

variable {P:Program} {B:Nat} {w:World} {G:Gh} {H:zaa}

theorem HRel.newOwn(h:HRel B w G H)(e size:Nat):
  Ext B w G w ⟨G.L,G.μ++[.own (.slice none 0 0) size 0]⟩∧HRel B w ⟨G.L,G.μ++[.own (.slice none 0 0) size 0]⟩ (H++[.perm e size 0]):=by
 have he:Ext B w G w ⟨G.L,G.μ++[.own (.slice none 0 0) size 0]⟩:=⟨ac _,Below.refl _ _,λ_=>ac _,λ_ _ _=>rfl,λid gi hg=>⟨gi,by
  have:id<G.μ.length:=(List.getElem?_eq_some_iff.1 hg).1;simp only[];rw[List.getElem?_append_left this];exact hg,gi.le_refl⟩⟩
 have split:∀(id:Nat) gi,(G.μ++[.own (.slice none 0 0) size 0])[id]?=some gi→G.μ[id]?=some gi∨(id=G.μ.length∧gi=.own (.slice none 0 0) size 0):=by
  intro id gi hg;by_cases ei:id<G.μ.length
  ·rw[List.getElem?_append_left ei]at hg;exact .inl hg
  ·have eW:=(List.getElem?_eq_some_iff.1 hg).1;simp at eW;have:id=G.μ.length:=by omega
   subst this;simp at hg;exact .inr ⟨rfl,hg.symm⟩
 refine⟨he,by simp[h.len],?_,?_,h.fresh,?_,h.base⟩
 ·intro id ab gi h1 h2;rcases split id gi h2 with h2 | ⟨rfl,rfl⟩
  ·have ei:id<H.length:=by rw[←h.len];exact (List.getElem?_eq_some_iff.1 h2).1
   rw[List.getElem?_append_left ei]at h1;exact(h.ok id ab gi h1 h2).keep he (λb hb=>⟨rfl,rfl⟩)
  ·rw[h.len]at h1;simp at h1;subst h1;exact⟨rfl,rfl,⟨[],World.ownsRow_nil w B e size⟩,λb hb=>by simp[Value.ownBlock]at hb⟩
 ·intro id id' gi gi' b h1 h2 h3 h4;rcases split id gi h1 with k1 | ⟨e1,e2⟩ <;> rcases split id' gi' h2 with k2 | ⟨e3,e4⟩
  ·exact h.dist id id' gi gi' b k1 k2 h3 h4
  ·rw[e4]at h4;simp[GI.block,Value.ownBlock]at h4
  ·rw[e2]at h3;simp[GI.block,Value.ownBlock]at h3
  ·rw[e1,e3]
 ·intro id gi b h1 h2;rcases split id gi h1 with k1 | ⟨e1,e2⟩
  ·exact h.lt id gi b k1 h2
  ·rw[e2]at h2;simp[GI.block,Value.ownBlock]at h2

theorem zyF{v:Value}{a:AV}(h:DRel w G.L v a):v.oneCell'=true:=by cases h <;> rfl

theorem zs0{e size n:Nat}{v:Value}{xs:List Value}{es:List (List AV)}(er:w.ownsRow B e size v n xs)(hd:DRel w G.L v (.sl es .none))(eX:es.length=n)(eB:∀c∈es,c.length=size):All2 (DRel w G.L) xs es.flatten:=by
 by_cases ey:es=[]
 ·subst ey;simp at eX;subst eX;have:xs=[]:=aB (by simpa using er.1);rw[this];trivial
 ·obtain⟨b,off,cap,zs,hv,hl,hr,hc,_⟩:=hd.flat ey eB;have iJ:off=0:=by
   rcases er.2 with ⟨h1,_⟩|⟨g,cap',cur,h1,_⟩
   ·rw[hv]at h1;simp at h1
   ·rw[hv]at h1;simp at h1;exact h1.1.2
  subst iJ;rw[hv,eX]at er;obtain⟨gc,_,_,qc⟩:=zdL er;have:xs=zs:=by
   apply aL;intro j;by_cases hj:j<n*size
   ·have hz:j<zs.length:=by rw[hl,eX];exact hj
    have:=hc j zs[j] (by simp[hz]);rw[aC]at this;rw[←qc j hj,this];simp[hz]
   ·rw[List.getElem?_eq_none (by omega),List.getElem?_eq_none (by rw[hl,eX];omega)]
  rw[this];exact hr

theorem HRel.newVec0(h:HRel B w G H)(e size:Nat):Ext B w G w ⟨G.L,G.μ++[.own (.slice none 0 0) size 0]⟩∧HRel B w ⟨G.L,G.μ++[.own (.slice none 0 0) size 0]⟩ (H++[.vec e size 0 []]):=by
 obtain⟨hE,hH⟩:=h.newOwn e size;refine⟨hE,by simpa using hH.len,λid ab gi h1 h2=>?_,hH.dist,hH.fresh,hH.lt,hH.base⟩;by_cases ei:id<H.length
 ·rw[List.getElem?_append_left ei]at h1;exact hH.ok id ab gi (by rw[List.getElem?_append_left ei];exact h1) h2
 ·have eW:=(List.getElem?_eq_some_iff.1 h2).1;simp[h.len]at eW;obtain rfl:id=H.length:=by omega
  simp at h1;have h2:(G.μ++[GI.own (.slice none 0 0) size 0])[H.length]?=some gi:=h2;rw[←h.len]at h2;simp at h2;subst h1 h2;exact⟨rfl,rfl,⟨[],World.ownsRow_nil w B e size,trivial⟩,λb hb=>by simp[Value.ownBlock]at hb⟩
theorem zAW{t e ty:TypeId}{size bytes:Nat}{z:Value}{vx vy:Value}{x:AV}{m:Nat}{ds:List AV}{K:AV→zaa→Prop}(hH:HRel B w G H)(he:zbj P t=some e)(hn:za4 P e=some size)(fA:zdk P e=some bytes)(hz:zbJ P e=some z)(jR:(zbG z).length=size)(hx:TRel w G vx x)(news:List Value)(ay:Option Addr)(capy:Nat)(kv:vy=.slice ay m capy)(jr:All2 (ARel w G) news ds)(gu:0<m→∃ b off,ay=some ⟨b,off,none⟩∧∀ j u,news[j]?=some u→w.cell? ⟨b,off+j,none⟩=some u)(h:zd9 e size bytes x m ds H K):
  OpOK P B w G K (((do pure (.value (←Builtin.append_ #[t,t] ty #[vx,vy]))):Sem Next).run P w):=by
 subst kv;have iH:=zd5 (w:=w) (G:=G) z;have iI:z.cells.size=size:=by have:=iH.length;simp at this;omega
 have fC:ds.all AV.known=true→∀u∈news,u.oneCell'=true:=λhk=>zsc jr (λc hc=>λhu=>by
  subst hu;have:=am.1 hk _ hc;simp[AV.known]at this)
 have ek:=jr.length;unfold zd9 at h;split at h
 ·rename_i id n;split at h
  ·rename_i e' s' n' cs en;obtain⟨⟨⟨rfl,rfl,rfl⟩,fI,mo,fz,fD⟩,hk⟩:=h;obtain⟨gN,v',s0,n0,hμ,eP,heq⟩:=hx;obtain⟨rfl,rfl,⟨xs,er,mq⟩,_⟩:=hH.ok id _ _ en hμ;obtain rfl:=heq rfl;by_cases mr:m=0
   ·subst mr;obtain⟨ax,capx,rfl,eP⟩:=zk2 er;have et:=ziJ (P:=P) (w:=w) (ty:=ty) (a:=ax) (c:=ay) (cap':=capy) he he ⟨_,hn⟩ eP;rw[Sem.run_bind,et];refine⟨.ov id n',G,H,Ext.refl _ _ _,hH,⟨gN,_,_,n',hμ,ac _,λ_=>rfl⟩,?_⟩;have jQ:ds=[]:=by cases ds <;> simp_all
    subst jQ;have:H.set id (.vec e' s' n' cs)=H:=by
     apply aL;intro k;by_cases hk:k=id
     ·subst hk;rw[List.getElem?_set_self (List.getElem?_eq_some_iff.1 en).1];exact en.symm
     ·rw[List.getElem?_set_ne (λh=>hk h.symm)]
    simp only[Nat.add_zero,aG,this]at hk;exact hk
   ·have g7:0<m:=by omega
    obtain⟨b,off,rfl,gk⟩:=gu g7;unfold za4 at hn;unfold zdk at fA;unfold zbJ at hz;cases hi:P.info? e' with
    |none=>simp[hi]at hn
    |some i=>simp[hi]at hn fA hz;subst hn;subst fA;obtain⟨v2,w',et,eR,eD⟩:=zk0 (P:=P) (ty:=ty) (zcf he) hi hz iI er ⟨b,off,none⟩ m capy news (by omega) (λj u hj=>by rw[add_lit];exact gk j u hj) (fC fI) g7 (by simp only[maxLen];omega) fz hH.base;obtain⟨G',js,eU,hT⟩:=ziU hH en hμ er eR eD g7 mq jr;rw[Sem.run_bind,et];exact⟨_,G',_,js,eU,hT,hk⟩
  ·exact h.elim
 ·split at h
  ·obtain⟨nq,ax,rfl⟩:=hx;have et:=ziJ (P:=P) (w:=w) (ty:=ty) (a:=ax) (c:=ay) (cap':=capy) he he ⟨_,hn⟩ (ac 0);rw[Sem.run_bind];simp only[List.length_nil];rw[et];exact⟨.sl [] .none,G,H,Ext.refl _ _ _,hH,.slE _ _,h⟩
  ·rename_i m';obtain⟨⟨fI,mo,fz,fD⟩,hk⟩:=h;obtain⟨nq,ax,rfl⟩:=hx;have g7:0<m'+1:=by omega
   obtain⟨b,off,rfl,gk⟩:=gu g7;unfold za4 at hn;unfold zdk at fA;unfold zbJ at hz;cases hi:P.info? e with
   |none=>simp[hi]at hn
   |some i=>
    simp[hi]at hn fA hz;subst hn;subst fA;obtain⟨v',w',et,eR,nr,fB⟩:=zyS (P:=P) (ty:=ty) (n:=0) (xs:=[]) (zcf he) hi hz iI (by simp) (λb hb j u hj=>by simp at hj) (λh=>rfl) ⟨b,off,none⟩ (m'+1) capy news (by omega) (λj u hj=>by rw[add_lit];exact gk j u hj) g7 (by simp only[maxLen];omega) (by simpa using fz) hH.base;obtain⟨hE,ji⟩:=hH.newVec0 e i.size;have en:(H++[.vec e i.size 0 []])[H.length]?=some (.vec e i.size 0 []):=by simp
    obtain⟨G',js,eU,hT⟩:=ziU (n:=0) (cs:=[]) (xs:=[]) ji en (by rw[←hH.len];simp) (World.ownsRow_nil w B e i.size) (by simpa using eR) (.inr ⟨nr,fB⟩) g7 trivial (jr.mono λ_ _=>hE.arel);rw[Sem.run_bind];simp only[List.length_nil];rw[et];refine⟨_,G',_,hE.trans js,eU,hT,?_⟩;simpa using hk
 ·exact h.elim

theorem zKV{t e ty:TypeId}{size bytes:Nat}{z:Value}{vx vy:Value}{x y:AV}{K:AV→zaa→Prop}(hH:HRel B w G H)(he:zbj P t=some e)(hn:za4 P e=some size)(fA:zdk P e=some bytes)(hz:zbJ P e=some z)(jR:(zbG z).length=size)(hx:TRel w G vx x)(hy:TRel w G vy y)(h:zax e size bytes x y H K):
  OpOK P B w G K (((do pure (.value (←Builtin.append_ #[t,t] ty #[vx,vy]))):Sem Next).run P w):=by
 unfold zax at h;split at h
 ·rename_i id off len cap;split at h
  ·rename_i cs en;obtain⟨b,hμ,rfl⟩:=hy;obtain⟨_,_,vs,_,hw,eN⟩:=hH.ok id _ _ en hμ;have hl:=eN.length;refine zAW hH he hn fA hz jR hx ((vs.toList.drop off).take (len*size)) _ _ rfl ((eN.drop off).take _) (λ_=>⟨b,off,rfl,λj u hj=>?_⟩) h.2;rw[List.getElem?_take]at hj;split at hj
   ·simp only[World.cell?,hw];simpa using hj
   ·cases hj
  ·exact h.elim
 ·rename_i id n;split at h
  ·rename_i e' s' n' cs en;obtain⟨⟨rfl,rfl⟩,h⟩:=h;obtain⟨⟨a,cap0,rfl,_⟩,v',s0,n0,hμ,_,heq⟩:=hy;obtain⟨rfl,rfl,⟨xs,er,eN⟩,_⟩:=hH.ok id _ _ en hμ;obtain rfl:=heq rfl;refine zAW hH he hn fA hz jR hx xs _ _ rfl eN (λhm=>?_) h;obtain⟨hl,fk⟩:=er;rcases fk with ⟨h1,h2⟩ | ⟨g,cap,cur,h1,h2,h3,h4,h5,h6,h7⟩
   ·omega
   ·simp at h1;obtain⟨rfl,rfl⟩:=h1;obtain⟨_,_,_,eG⟩:=zdL ⟨hl,.inr ⟨g,cap0,cur,rfl,h2,h3,h4,h5,h6,h7⟩⟩;exact⟨g,0,rfl,λj u hj=>by
     rw[aC,eG j (by rw[←hl];exact(List.getElem?_eq_some_iff.1 hj).1)];exact hj⟩
  ·exact h.elim
 obtain⟨ys,ow,mV,h⟩:∃ys,DRel w G.L vy (.sl ys .none)∧(∀c∈ys,c.length=size)∧zaK e size bytes x ys H K:=by
  unfold zaM at h;split at h
  ·rename_i ys tok _ _;exact⟨ys,ziL hy,h.1,h.2⟩
  ·cases hy;exact⟨[],.slE _ _,h.1,h.2⟩
  ·exact h.elim
 have iH:=zd5 (w:=w) (G:=G) z;have iI:z.cells.size=size:=by have:=iH.length;simp at this;omega
 -- the general step, for a right that is there already
 have main:∀ (G0:Gh) (H0:zaa) (id:Nat) (es:List (List AV)) (v:Value),Ext B w G w G0→HRel B w G0 H0→H0[id]?=some (.perm e size es.length)→G0.μ[id]?=some (.own v size es.length)→DRel w G.L v (.sl es .none) →
   (∀c∈es,c.length=size)→vx=v→(es.length+ys.length)*bytes≤140737488355328→es.length+ys.length≤9223372036854775807→K (.sl (es++ys) (.own id)) (H0.set id (.perm e size (es.length+ys.length))) →
   OpOK P B w G K (((do pure (.value (←Builtin.append_ #[t,t] ty #[vx,vy]))):Sem Next).run P w):=by
  intro G0 H0 id es v hE ji en hμ nq mW ew fz fD hk;subst ew;obtain⟨_,_,⟨xs,er⟩,_⟩:=ji.ok id _ _ en hμ;by_cases mr:ys=[]
  ·subst mr;obtain⟨ay,capy,rfl,_⟩:=ow.slice_form;obtain⟨ax,capx,rfl,eP⟩:=zk2 er;have et:=ziJ (P:=P) (w:=w) (ty:=ty) (a:=ax) (c:=ay) (cap':=capy) he he ⟨size,hn⟩ eP;simp only[List.length_nil];rw[Sem.run_bind,et];refine⟨.sl es (.own id),G0,H0,hE,ji,⟨hE.drel nq,_,size,es.length,hμ,ac _,λ_=>⟨rfl,mW⟩⟩,?_⟩;have:H0.set id (.perm e size (es.length+0))=H0:=by
    apply aL;intro k;by_cases hk:k=id
    ·subst hk;rw[List.getElem?_set_self (List.getElem?_eq_some_iff.1 en).1];exact en.symm
    ·rw[List.getElem?_set_ne (λh=>hk h.symm)]
   rw[List.length_nil,this]at hk;simpa using hk
  ·obtain⟨b,off,capy,news,kv,kx,jr,gu,_⟩:=ow.flat mr mV;subst kv;have g7:0<ys.length:=by cases ys <;> simp_all
   unfold za4 at hn;unfold zdk at fA;unfold zbJ at hz;cases hi:P.info? e with
   |none=>simp[hi]at hn
   |some i=>
    simp[hi]at hn fA hz;subst hn;subst fA;have fC:∀u∈news,u.oneCell'=true:=λu hu=>by obtain⟨j,hj⟩:=aQ.1 hu;obtain⟨c,_,h2⟩:=jr.get' hj;exact zyF h2
    obtain⟨v',w',et,eR,eD⟩:=zk0 (P:=P) (ty:=ty) (zcf he) hi hz iI er ⟨b,off,none⟩ ys.length capy news kx (λj u hj=>by rw[add_lit];exact gu j u hj) fC g7 (by simp only[maxLen];omega) fz ji.base;obtain⟨G',js,eU,hT⟩:=zk1 ji en hμ er eR eD rfl g7 rfl mW mV (zs0 er (hE.drel nq) rfl mW) (jr.mono λ_ _=>hE.drel);rw[Sem.run_bind,et];exact⟨_,G',_,hE.trans js,eU,hT,hk⟩
 unfold zaK at h;split at h
 ·cases hx;obtain⟨hE,ji⟩:=hH.newOwn e size;have en:(H++[.perm e size 0])[H.length]?=some (.perm e size ([]:List (List AV)).length):=by simp
  refine main _ _ H.length [] _ hE ji en (by rw[←hH.len];simp) (.slE _ _) (by simp) rfl (by simpa using h.1.1) (by simpa using h.1.2) ?_;simpa using h.2
 ·rename_i es id _;obtain⟨h1,⟨h2,h3⟩,hk⟩:=h;obtain⟨hd,v',s',n',hμ,eP,heq⟩:=hx;have eu:=hH.ok id _ _ h1 hμ;obtain⟨oK,iK,_⟩:=eu;subst iK;subst oK;obtain⟨pv,mW⟩:=heq rfl;subst pv;exact main G H id es _ (Ext.refl _ _ _) hH h1 hμ hd mW rfl h2 h3 hk
 ·rename_i id n _;split at h
  ·rename_i e' s' n' cs en;obtain⟨⟨⟨rfl,rfl,rfl⟩,fz,fD⟩,hk⟩:=h;obtain⟨gN,v',s0,n0,hμ,eP,heq⟩:=hx;obtain⟨rfl,rfl,⟨xs,er,mq⟩,_⟩:=hH.ok id _ _ en hμ;obtain rfl:=heq rfl;by_cases mr:ys=[]
   ·subst mr;obtain⟨ay,capy,rfl,_⟩:=ow.slice_form;obtain⟨ax,capx,rfl,eP⟩:=zk2 er;have et:=ziJ (P:=P) (w:=w) (ty:=ty) (a:=ax) (c:=ay) (cap':=capy) he he ⟨_,hn⟩ eP;simp only[List.length_nil];rw[Sem.run_bind,et];refine⟨.ov id n',G,H,Ext.refl _ _ _,hH,⟨gN,_,_,n',hμ,ac _,λ_=>rfl⟩,?_⟩;have:H.set id (.vec e' s' n' cs)=H:=by
     apply aL;intro k;by_cases hk:k=id
     ·subst hk;rw[List.getElem?_set_self (List.getElem?_eq_some_iff.1 en).1];exact en.symm
     ·rw[List.getElem?_set_ne (λh=>hk h.symm)]
    simp only[List.length_nil,Nat.add_zero,List.flatten_nil,aG,this]at hk;exact hk
   ·obtain⟨b,off,capy,news,kv,kx,jr,gu,_⟩:=ow.flat mr mV;subst kv;have g7:0<ys.length:=by cases ys <;> simp_all
    unfold za4 at hn;unfold zdk at fA;unfold zbJ at hz;cases hi:P.info? e' with
    |none=>simp[hi]at hn
    |some i=>
     simp[hi]at hn fA hz;subst hn;subst fA;have fC:∀u∈news,u.oneCell'=true:=λu hu=>by obtain⟨j,hj⟩:=aQ.1 hu;obtain⟨c,_,h2⟩:=jr.get' hj;exact zyF h2
     obtain⟨v2,w',et,eR,eD⟩:=zk0 (P:=P) (ty:=ty) (zcf he) hi hz iI er ⟨b,off,none⟩ ys.length capy news kx (λj u hj=>by rw[add_lit];exact gu j u hj) fC g7 (by simp only[maxLen];omega) fz hH.base;obtain⟨G',js,eU,hT⟩:=ziU hH en hμ er eR eD g7 mq (jr.mono λ_ _ h=>ARel.of_b h.toB);rw[Sem.run_bind,et];exact⟨_,G',_,js,eU,hT,hk⟩
  ·exact h.elim
 ·rename_i es _;obtain⟨nq,ax,rfl⟩:=hx;by_cases hys0:ys=[]
  ·subst hys0;have hk:K (.sl es .full) H:=h;obtain⟨ay,capy,rfl,_⟩:=ow.slice_form;have et:=ziJ (P:=P) (w:=w) (ty:=ty) (a:=ax) (c:=ay) (n:=es.length) (cap:=es.length) (cap':=capy) he he ⟨size,hn⟩ (ac _);simp only[List.length_nil];rw[Sem.run_bind,et];exact⟨.sl es .full,G,H,Ext.refl _ _ _,hH,⟨nq,ax,rfl⟩,hk⟩
  have h:(0<ys.length∧(∀c∈es,c.length=size)∧(es.length+ys.length)*bytes≤140737488355328∧es.length+ys.length≤9223372036854775807)∧K (.sl (es++ys) (.own H.length)) (H++[.perm e size (es.length+ys.length)]):=by
   cases ys with
   |nil=>exact absurd rfl hys0
   |cons y ys=>exact h
  obtain⟨⟨g7,mW,fz,fD⟩,hk⟩:=h;have mr:ys≠[]:=λh=>by rw[h]at g7;simp at g7
  obtain⟨b,off,capy,news,kv,kx,jr,gu,_⟩:=ow.flat mr mV;subst kv;unfold za4 at hn;unfold zdk at fA;unfold zbJ at hz;cases hi:P.info? e with
  |none=>simp[hi]at hn
  |some i=>
   simp[hi]at hn fA hz;subst hn;subst fA;obtain⟨xs,gc,mq,px,jh⟩:∃xs:List Value,xs.length=es.length*i.size∧All2 (DRel w G.L) xs es.flatten∧(∀b,ax=some b→∀j u,xs[j]?=some u→w.cell? (b.add j)=some u)∧(ax=none→es.length=0):=by
    by_cases ey:es=[]
    ·subst ey;exact⟨[],by simp,trivial,λb hb j u hj=>by simp at hj,λ_=>rfl⟩
    ·obtain⟨b2,off2,cap2,xs,kU,gc,mq,px,_⟩:=nq.flat ey mW;injection kU with e1 e2 e3
     subst e1;refine⟨xs,gc,mq,λb hb j u hj=>?_,λh=>by cases h⟩;injection hb with hb
     subst hb;rw[add_lit];exact px j u hj
   obtain⟨v',w',et,eR,nr,fB⟩:=zyS (P:=P) (ty:=ty) (zcf he) hi hz iI gc px jh ⟨b,off,none⟩ ys.length capy news kx (λj u hj=>by rw[add_lit];exact gu j u hj) g7 (by simp only[maxLen];omega) fz hH.base;obtain⟨hE,ji⟩:=hH.newOwn e i.size;have en:(H++[.perm e i.size 0])[H.length]?=some (.perm e i.size 0):=by simp
   obtain⟨G',js,eU,hT⟩:=zk1 (es:=[]) (ys:=es++ys) (xs:=[]) (news:=xs++news) (m:=es.length+ys.length) (v':=v') (w':=w') ji en (by rw[←hH.len];simp) (World.ownsRow_nil w B e i.size)
    (by simpa using eR) (.inr ⟨nr,fB⟩) (by simp) (by omega) rfl (by simp) (λc hc=>by
     rcases aX.1 hc with hc|hc
     ·exact mW c hc
     ·exact mV c hc) trivial (by rw[cg];exact(mq.append jr).mono λ_ _=>hE.drel)
   rw[Sem.run_bind,et];refine⟨_,G',_,hE.trans js,eU,hT,?_⟩;simpa using hk
 ·exact h.elim

theorem zIR{v:Value}{a:AV}(h:TRel w G v a)(hb:a.isB=true):BRel w G v a:=by cases a <;> first|exact h|(simp[AV.isB]at hb;done)
theorem zy2:∀ {vs:List Value} {asx:List AV},All2 (TRel w G) vs asx→asx.all AV.isB=true→All2 (BRel w G) vs asx
 |[],[],_,_=>trivial
 |v::vs,a::asx,h,hb=>by simp only[List.all_cons,aj]at hb;exact⟨zIR h.1 hb.1,zy2 h.2 hb.2⟩


theorem zcx{s:Sem Value}{K:AV→zaa→Prop}(hH:HRel B w G H)(h:∃r,s.run P w=.ok r w∧∃av,TRel w G r av∧K av H):OpOK P B w G K (((do pure (.value (←s))):Sem Next).run P w):=by obtain⟨r,h1,av,h2,h3⟩:=h;rw[Sem.run_bind,h1];exact⟨av,G,H,Ext.refl _ _ _,hH,h2,h3⟩

theorem zkW{a:Act}{F:List AV}(hF:FRel w G a.tmps F)(x:Option Operand):All2 (TRel w G) (x.map a.eval).toList (x.map (ev F)).toList:=by
 cases x with
 |none=>trivial
 |some x=>exact⟨zaQ hF x,trivial⟩

theorem zr9{a:Act}{F:List AV}(hF:FRel w G a.tmps F)(ps:List (Nat × Operand)):
  All2 (λ(p:Nat×Value) (q:Nat×AV)=>p.1=q.1∧TRel w G p.2 q.2) (ps.map λ(i,x)=>(i,a.eval x)) (ps.map λp=>(p.1,ev F p.2)):=by
 induction ps with
 |nil=>trivial
 |cons p ps ih=>exact⟨⟨rfl,zaQ hF p.2⟩,ih⟩

theorem zKj{f:FuncId}{vs:Array Value}(h:zeD P f=true):(callFunc f vs).run P w=.ok (.enter f vs) w:=by
 unfold zeD at h;cases hf:P.funcs[f]? with
 |none=>simp[hf]at h
 |some fn=>
  simp only[hf,aj,cz]at h;obtain⟨h1,h2⟩:=h;have h3:fn.body.isNone=false:=by cases hb:fn.body <;> simp_all
  simp only[callFunc,Sem.run_bind,run_program,Result.andThen_ok,hf,h1,h3,aH,aN,Sem.run_pure]

theorem zK2{c:Call}{ty:TypeId}{a:Act}{F:List AV}{fo:Operand}{K:AV→zaa→Prop}(hH:HRel B w G H)(hF:FRel w G a.tmps F)(hc:c.callee=.value fo)(h:aCallV P (ev F fo) (c.args.toList.map (ev F)) H K):OpOK P B w G K (((do let d ←resolve a.eval c ty;invoke d.target d.args):Sem Next).run P w):=by
 have hf:=zaQ hF fo;unfold aCallV at h;split at h
 ·rename_i f caps jt;rw[jt]at hf;obtain⟨cs,oL,hcaps⟩:=hf;split at h
  ·rename_i hcall;have et:((do let d ←resolve a.eval c ty;invoke d.target d.args):Sem Next).run P w=.ok (.enter f (c.args.map a.eval++cs)) w:=by simp only[resolve,hc,oL,Deferred.ofValue,Sem.run_bind,Sem.run_pure,Result.andThen_ok,invoke,cO];exact zKj hcall
   rw[et];refine⟨rfl,h B w G _ hH ?_⟩;have h1:=zyG hF c.args.toList;have h2:All2 (TRel w G) cs.toList caps:=hcaps.mono λ_ _ hb=>TRel.of_v (VRel.of_a (ARel.of_b hb));simpa using h1.append h2
  ·exact h.elim
 ·exact h.elim

theorem zx2{α:Type}{xs:Array α}{x:α}(h:xs.toList=[x]):xs=#[x]:=by cases xs;simp_all
theorem zhD{α:Type}{xs:Array α}{x y:α}(h:xs.toList=[x,y]):xs=#[x,y]:=by cases xs;simp_all

theorem zK6{t t' ty e:TypeId}{size:Nat}{x y:AV}{u v:Value}{K:AV→zaa→Prop}(hH:HRel B w G H)(he:zbj P t=some e)(hs:za4 P e=some size)(hx:TRel w G u x)(hy:TRel w G v y)(h:zfA size x y H K):OpOK P B w G K (((do pure (.value (←Builtin.copy_ #[t,t'] ty #[u,v]))):Sem Next).run P w):=by
 unfold zfA at h;split at h
 ·rename_i id n lo z id' n' lo' z';split at h
  ·rename_i e0 s m cs eN;obtain⟨⟨⟨⟨rfl,rfl,rfl⟩,rfl,rfl,rfl⟩,fI⟩,hk⟩:=h;obtain⟨⟨jg,a,c,rfl,hc⟩,v1,s1,n1,hμ,_,heq⟩:=hx;obtain⟨⟨hlo',a',c',rfl,kL⟩,v2,s2,n2,hμ2,_,mt⟩:=hy;rw[hμ]at hμ2;cases hμ2;obtain⟨rfl,rfl,⟨xs,er,hr⟩,_⟩:=hH.ok _ _ _ eN hμ
   replace heq:=heq rfl
   replace mt:=mt rfl
   have jT:=hr.length;obtain⟨hyl,fk⟩:=er;obtain⟨k,mX⟩:∃k,k=min (m-lo') (m-lo):=⟨_,rfl⟩;have hkd2:Nat.min (m-lo') (m-lo)=k:=mX.symm;rw[←mX]at hk;by_cases gG:k=0
   ·have eZ:H.set id' (.vec e0 s m (zds cs (lo*s) ((cs.drop (lo'*s)).take (k*s))))=H:=by
     rw[gG];simp only[zds,dZ,List.take_zero,aG,List.length_nil,Nat.add_zero,aJ];apply aL;intro j;by_cases hj:id'=j
     ·subst hj;rw[List.getElem?_set_self (List.getElem?_eq_some_iff.1 eN).1,eN]
     ·rw[List.getElem?_set_ne hj]
    rw[eZ]at hk;have et:((do pure (.value (←Builtin.copy_ #[t,t'] ty #[.slice a (m-lo) c,.slice a' (m-lo') c']))):Sem Next).run P w=.ok (.value (.int .i64 ((k:Nat):Int))) w:=by
     have hl:∀(x:Addr),(loadCells x 0).run P w=.ok #[] w:=λx=>by simpa using run_loadCells_list (P:=P) w x [] (by simp)
     cases a <;> cases a' <;> simp[Builtin.copy_,za7 (zcf he),Builtin.lenOf,Builtin.firstCells,zb6 hs,hkd2,gG,storeCells,hl,goInt]
    rw[et];exact OpOK.same (av:=.int .i64 ((k:Nat):Int)) hH rfl hk
   ·rcases fk with ⟨rfl,i5⟩ | ⟨g,cap,cur,rfl,ko,hw,fP,ib,je,jP⟩
    ·omega
    ·simp only[ziK,au (show ¬ cap=lo by omega),au (show ¬ cap=lo' by omega),add_lit,aC,Value.slice.injEq]at heq mt;obtain⟨rfl,_,rfl⟩:=heq;obtain⟨rfl,_,rfl⟩:=mt;obtain⟨vals,kV⟩:∃ vals,vals=(xs.drop (lo'*s)).take (k*s):=⟨_,rfl⟩;have gh:lo'*s+k*s≤m*s:=by rw[←a8];exact ar _ (by omega)
     have hks2:lo*s+k*s≤m*s:=by rw[←a8];exact ar _ (by omega)
     have ox:vals.length=k*s:=by rw[kV];simp;omega
     have nu:All2 (ARel w G) vals ((cs.drop (lo'*s)).take (k*s)):=by rw[kV];exact(hr.drop _).take _
     have fC:∀v∈vals,v.oneCell'=true:=zsc nu (λc hc=>by
      have:=am.1 fI c (List.mem_of_mem_drop (bu hc));intro p8;subst p8;simp[AV.known]at this)
     obtain⟨_,_,_,eG⟩:=zdL (w:=w) (B:=B) (e:=e0) (size:=s) (n:=m) (cap:=cap) (g:=g) (xs:=xs) ⟨hyl,.inr ⟨g,cap,cur,rfl,ko,hw,fP,ib,je,jP⟩⟩;have hload:(loadCells ⟨g,lo'*s,none⟩ (k*s)).run P w=.ok vals.toArray w:=by rw[←ox];refine run_loadCells_list (P:=P) w ⟨g,lo'*s,none⟩ vals λj v hj=>?_;have eI:j<vals.length:=(List.getElem?_eq_some_iff.1 hj).1;rw[add_lit,eG _ (by omega)];rw[kV,List.getElem?_take_of_lt (by omega),List.getElem?_drop]at hj;exact hj
     have hms:m*s≤cur.size:=by rw[je];exact ar _ fP
     have eL:=run_storeCells_at P g (lo*s) e0 vals 0 cur w hw (by omega) fC;simp only[Nat.add_zero]at eL;have ff:(cur.toList.take (lo*s)++vals++cur.toList.drop (lo*s+vals.length)).toArray.toList.take (m*s)=xs.take (lo*s)++vals++xs.drop (lo*s+vals.length):=by
      rw[←jP];simp only[dJ,aT,Array.length_toList,aw,ox];rw[cD,cD,dz,ai (l:=vals) (by omega)];congr 2
      ·congr 1;omega
      ·congr 1;omega
     have hvl2:((cs.drop (lo'*s)).take (k*s)).length=vals.length:=nu.length.symm;obtain⟨hE,eU⟩:=hH.storeV (cs':=zds cs (lo*s) ((cs.drop (lo'*s)).take (k*s))) eN hμ hw ko fP ib (by simp[aw,ox];omega) ff (by simp[ox];omega) (by
      have:=((hr.take (lo*s)).append nu).append (hr.drop (lo*s+vals.length));unfold zds;rw[hvl2];simpa using this)
     have et:((do pure (.value (←Builtin.copy_ #[t,t'] ty #[.slice (some ⟨g,lo*s,none⟩) (m-lo) (cap-lo),.slice (some ⟨g,lo'*s,none⟩) (m-lo') (cap-lo')]))):Sem Next).run P w=.ok (.value (.int .i64 ((k:Nat):Int))) (w.setRow g (cur.toList.take (lo*s)++vals++cur.toList.drop (lo*s+vals.length)).toArray):=by simp[Builtin.copy_,za7 (zcf he),Builtin.lenOf,Builtin.firstCells,zb6 hs,hkd2,hload,eL,goInt]
     rw[et];exact⟨.int .i64 ((k:Nat):Int),G,_,hE,eU,rfl,hk⟩
  ·exact h.elim
 ·exact h.elim
theorem zK1{c:Call}{ty:TypeId}{a:Act}{F:List AV}{b:Builtin}{K:AV→zaa→Prop}(hH:HRel B w G H)(hF:FRel w G a.tmps F)(hc:c.callee=.builtin b)(h:ze2 P b c F H K):OpOK P B w G K (((do let d ←resolve a.eval c ty;invoke d.target d.args):Sem Next).run P w):=by
 cases b <;> simp only[ze2]at h <;> (try exact h.elim)
 case append=>
  split at h
  ·rename_i x y t t' fq gO;split at h
   ·rename_i e size bytes z he hs hb hz htt;simp only[ba]at htt;subst htt;split at h
    ·rename_i hq;simp only[aj,aS,ba]at hq;simp only[he,Option.bind_some]at hs hz hb;have h1:=zhD fq;have h2:=zhD gO;have et:((do let d ←resolve a.eval c ty;invoke d.target d.args):Sem Next).run P w=((do pure (.value (←Builtin.append_ #[t,t] ty #[a.eval x,a.eval y]))):Sem Next).run P w:=by simp only[resolve,hc,h1,h2,cj,aF,bx,Sem.run_bind,Sem.run_pure,Result.andThen_ok,invoke,builtin]
     rw[et];exact zKV hH he hs hb hz hq.2 (zaQ hF x) (zaQ hF y) h
    ·exact h.elim
   ·exact h.elim
  ·exact h.elim
 case copy=>
  split at h
  ·rename_i x y t t' fq gO;split at h
   ·rename_i size hs;have h1:=zhD fq;have h2:=zhD gO;cases he:zbj P t with
    |none=>simp[he]at hs
    |some e=>
     simp only[he,Option.bind_some]at hs;have et:((do let d ←resolve a.eval c ty;invoke d.target d.args):Sem Next).run P w=((do pure (.value (←Builtin.copy_ #[t,t'] ty #[a.eval x,a.eval y]))):Sem Next).run P w:=by simp only[resolve,hc,h1,h2,cj,aF,bx,Sem.run_bind,Sem.run_pure,Result.andThen_ok,invoke,builtin]
     rw[et];exact zK6 hH he hs (zaQ hF x) (zaQ hF y) h
   ·exact h.elim
  ·exact h.elim
 case max=>
  split at h
  ·rename_i x y fq;have h1:=zhD fq;have et:((do let d ←resolve a.eval c ty;invoke d.target d.args):Sem Next).run P w=((do pure (.value (←Builtin.max_ c.argTypes ty #[a.eval x,a.eval y]))):Sem Next).run P w:=by simp only[resolve,hc,h1,cj,aF,bx,Sem.run_bind,Sem.run_pure,Result.andThen_ok,invoke,builtin]
   rw[et];unfold zfB at h;have hx:=zaQ hF x;have hy:=zaQ hF y;split at h
   ·rename_i k m k' n e1 e2;rw[e1]at hx;rw[e2]at hy;have hx:a.eval x=.int k m:=hx;have hy:a.eval y=.int k' n:=hy;rw[hx,hy];have hr:((do pure (.value (←Builtin.max_ c.argTypes ty #[.int k m,.int k' n]))):Sem Next).run P w=.ok (.value (.int k (if n>m then n else m))) w:=by
     have h2:(Builtin.max_ c.argTypes ty #[.int k m,.int k' n]).run P w=.ok (.int k (if n>m then n else m)) w:=by simp[Builtin.max_,Builtin.max2]
     rw[Sem.run_bind,h2];rfl
    rw[hr];exact OpOK.same (av:=.int k (if n>m then n else m)) hH rfl h
   ·exact h.elim
  ·exact h.elim
 case len=>
  split at h
  ·rename_i x t fq gO;split at h
   ·rename_i u hu;have h1:=zx2 fq;have h2:=zx2 gO;have et:((do let d ←resolve a.eval c ty;invoke d.target d.args):Sem Next).run P w=((do pure (.value (←Builtin.len_ #[t] ty #[a.eval x]))):Sem Next).run P w:=by simp only[resolve,hc,h1,h2,cj,aF,bx,Sem.run_bind,Sem.run_pure,Result.andThen_ok,invoke,builtin]
    rw[et];exact zcx hH (zLd (zaQ hF x) hu h)
   ·exact h.elim
  ·exact h.elim

theorem zJs{o:Oper}{a:Act}{F:List AV}{K:AV→zaa→Prop}(hH:HRel B w G H)(hF:FRel w G a.tmps F)(h:zdF P o F H K):OpOK P B w G K ((execOp a.eval o).run P w):=by
 obtain⟨dst,op,type,pos,after,guard⟩:=o;unfold zdF at h;simp only[]at h;cases op <;> (try simp only[]at h) <;> (try exact h.elim) <;> simp only[execOp]
 case move x=>exact OpOK.same hH (zaQ hF x) h
 case assign x=>exact OpOK.same hH (zaQ hF x) h
 case pick c x y=>
  unfold zam at h;split at h
  ·rename_i t ht;have hc:=zaQ hF c;rw[ht]at hc;have hc:a.eval c=.bool t:=hc;have et:((do pure (.value (if ←asBool (a.eval c) then a.eval x else a.eval y))):Sem Next).run P w=.ok (.value (if t=true then a.eval x else a.eval y)) w:=by rw[hc];cases t <;> rfl
   rw[et];refine OpOK.same hH ?_ h;cases t
   ·exact zaQ hF y
   ·exact zaQ hF x
  ·exact h.elim
 case alloc t=>
  split at h
  ·rename_i z hz;exact zKU hH hz h
  ·exact h.elim
 case box t x=>exact zKX hH (zaQ hF x) h
 case build t ec=>
  split at h
  ·rename_i z ps hz hp;exact zcx hH (zKY hz hp (by simpa using zr9 hF ec.toList) h)
  ·exact h.elim
 case buildSlice t len ec=>
  split at h
  ·rename_i size z hs hz;split at h
   ·rename_i hb;simp only[aj,aS,ba]at hb;cases he:zbj P t with
    |none=>simp[he]at hs
    |some e=>simp only[he,Option.bind_some]at hs hz;exact zKZ hH he hs hz hb.1.1 hb.1.2 hb.2 (by simpa using zr9 hF ec.toList) h
   ·exact h.elim
  ·exact h.elim
 case load t x=>
  split at h
  ·rename_i g n hg hn;obtain⟨u,h1,av,h2,h3⟩:=zAX hH (zaQ hF x) hg hn h;exact zcx hH ⟨u,h1,av,h2,h3⟩
  ·exact h.elim
 case store t x y=>
  split at h
  ·rename_i n hn;obtain⟨w',H',h1,h2,h3,h4⟩:=zLm hH (zaQ hF x) (zaQ hF y) hn h;have et:((do Instr.storeAt t (a.eval x) (a.eval y);pure .skip):Sem Next).run P w=.ok .skip w':=by rw[Sem.run_bind,h1];rfl
   rw[et];exact⟨G,H',h2,h3,h4⟩
  ·exact h.elim
 case nilCheck x=>
  have hx:=zaQ hF x;rw[zHm]at h;split at h
  ·rename_i id off en;rw[en]at hx h;obtain⟨b,hμ,hv⟩:=hx;rw[hv];exact OpOK.same hH (av:=.ptr id off) ⟨b,hμ,rfl⟩ h
  ·rename_i cs en;rw[en]at hx h;obtain⟨b,off,hv,hc⟩:=hx;rw[hv];exact OpOK.same hH (av:=.view cs) ⟨b,off,rfl,hc⟩ h
  ·rename_i f cs en;rw[en]at hx h;obtain⟨vs,hv,hc⟩:=hx;rw[hv];exact OpOK.same hH (av:=.fn f cs) ⟨vs,rfl,hc⟩ h
  ·rename_i id m off en;rw[en]at hx h;obtain⟨⟨b,o,hv⟩,hr⟩:=hx;rw[hv]at hr ⊢;exact OpOK.same hH (av:=.vp id m off) ⟨⟨b,o,rfl⟩,hr⟩ h
  ·exact h.elim
 case binOp op t x y yt=>
  split at h
  ·rename_i hy;exact zcx hH (zLi (zaQ hF x) hy h)
  ·exact zcx hH (zKW (zaQ hF x) (zaQ hF y) h)
 case unOp op t x=>exact zcx hH (zLn (zaQ hF x) h)
 case convert s t x=>
  have kW:∀ k,cvK P s t=some k→(match k with
    |.ints k=>(∃j,P.underlying s=some (.int j))∧P.underlying t=some (.int k)
    |.strs=>P.underlying s=some .string∧P.underlying t=some .string
    |.bytes=>∃e,P.underlying s=some (.slice e)∧P.underlying t=some .string∧tU8 P e=true):=by
   intro k hk;unfold cvK at hk;split at hk
   ·rename_i hs;split at hk
    ·rename_i ht;cases hk;exact⟨⟨_,hs⟩,ht⟩
    ·cases hk
   ·rename_i hs;split at hk
    ·rename_i ht;cases hk;exact⟨hs,ht⟩
    ·cases hk
   ·rename_i hs;split at hk
    ·rename_i ht;split at hk
     ·rename_i he;cases hk;exact⟨_,hs,ht,he⟩
     ·cases hk
    ·cases hk
   ·cases hk
  split at h
  ·rename_i k hk;obtain⟨⟨j,hs⟩,ht⟩:=kW _ hk;exact zcx hH (zK3 (zaQ hF x) hs ht h)
  ·rename_i hk;obtain⟨hs,ht⟩:=kW _ hk;exact zcx hH (zK5 (zaQ hF x) hs ht h)
  ·rename_i hk;obtain⟨e,hs,ht,he⟩:=kW _ hk;exact zcx hH (zK4 (zaQ hF x) hs ht he h)
  ·exact h.elim
 case makeFunc fn first caps=>
  cases fn <;> simp only[]at h <;> (try exact h.elim)
  rename_i f;split at h
  ·rename_i hfirst;obtain⟨hb,hk⟩:=h;have hf0:first=#[]:=by cases first;simp_all
   subst hf0;have et:((do pure (.value (←Instr.makeFunc (.func f) (Array.map a.eval #[]) (caps.map a.eval)))):Sem Next).run P w=.ok (.value (.func (.func f) #[] (caps.map a.eval))) w:=by simp[Instr.makeFunc]
   rw[et];refine OpOK.same hH (av:=.fn f (caps.toList.map (ev F))) ⟨_,rfl,?_⟩ hk;have:=zy2 (zyG hF caps.toList) hb;simpa using this
  ·exact h.elim
 case makeSlice t l c=>
  split at h
  ·rename_i size bytes z hs hb hz;split at h
   ·rename_i hq;simp only[aj,aS,ba]at hq;cases he:zbj P t with
    |none=>simp[he]at hs
    |some e=>simp only[he,Option.bind_some]at hs hz hb;exact zLf hH he hs hb hz hq.1 hq.2 (zaQ hF l) (zaQ hF c) h
   ·exact h.elim
  ·exact h.elim
 case slice t x lo hi mx=>
  cases mx <;> simp only[]at h <;> (try exact h.elim)
  split at h
  ·rename_i ht;exact zcx hH (zsw (zaQ hF x) (zkW hF lo) (zkW hF hi) ht (by omega) h)
  ·rename_i ht;split at h
   ·rename_i size hs;exact zcx hH (zsw (zaQ hF x) (zkW hF lo) (zkW hF hi) ht (λ_=>hs) h)
   ·exact h.elim
  ·exact h.elim
 case fieldAddr s x i=>
  split at h
  ·rename_i f hf;split at h
   ·rename_i n hn;exact zcx hH (zK9 (zaQ hF x) hf hn h)
   ·exact h.elim
  ·exact h.elim
 case field s x i=>
  split at h
  ·rename_i f hf;split at h
   ·rename_i g n hg hn;exact zcx hH (zLa (zaQ hF x) hf hg hn h)
   ·exact h.elim
  ·exact h.elim
 case indexAddr t x i=>
  split at h
  ·rename_i size hs;cases he:zbj P t with
   |none=>simp[he]at hs
   |some e=>simp only[he,Option.bind_some]at hs;exact zcx hH (zLb (zaQ hF x) (zaQ hF i) he hs h)
  ·exact h.elim
 case index t x i=>
  split at h
  ·rename_i ht;exact zcx hH (zLc (zaQ hF x) (zaQ hF i) ht h)
  ·exact h.elim
 case extract x i=>exact zcx hH (zK7 (zaQ hF x) h)
 case call c=>
  split at h
  ·rename_i fo hc;exact zK2 hH hF hc h
  ·rename_i b hc;exact zK1 hH hF hc h
  ·exact h.elim

theorem zJx{o:Oper}{a:Act}{F:List AV}{K:AV→zaa→Prop}(hH:HRel B w G H)(hF:FRel w G a.tmps F)(h:ze6 P o.op F H K):OpOK P B w G K ((execOp a.eval o).run P w):=by
 obtain⟨dst,op,type,pos,after,guard⟩:=o;unfold ze6 at h;simp only[]at h;cases op <;> (try simp only[]at h) <;> (try exact h.elim) <;> simp only[execOp]
 case makeMap t r=>
  split at h
  ·exact zLh hH h
  ·exact h.elim
 case lookup t x i ok=>
  split at h
  ·rename_i z hz;cases he:zeV P t with
   |none=>simp[he]at hz
   |some e=>simp only[he,Option.bind_some]at hz;exact zcx hH (zLe hH he hz (zaQ hF x) (zaQ hF i) h)
  ·exact h.elim
 case mapUpdate t m k x=>
  split at h
  ·rename_i e he;obtain⟨w',H',h1,h2,h3,h4⟩:=zAY hH he (zaQ hF m) (zaQ hF k) (zaQ hF x) h;have et:((do Instr.mapUpdate t (a.eval m) (a.eval k) (a.eval x);pure .skip):Sem Next).run P w=.ok .skip w':=by rw[Sem.run_bind,h1];rfl
   rw[et];exact⟨G,H',h2,h3,h4⟩
  ·exact h.elim
 case insert t m k x=>
  split at h
  ·rename_i e he;obtain⟨w',H',h1,h2,h3,h4⟩:=zAY hH he (zaQ hF m) (zaQ hF k) (zaQ hF x) h;have et:((do Instr.mapUpdate t (a.eval m) (a.eval k) (a.eval x);pure .skip):Sem Next).run P w=.ok .skip w':=by rw[Sem.run_bind,h1];rfl
   rw[et];exact⟨G,H',h2,h3,h4⟩
  ·exact h.elim
theorem zfT{o:Oper}{a:Act}{F:List AV}{K:AV→zaa→Prop}(hH:HRel B w G H)(hF:FRel w G a.tmps F)(h:aop P o F H K):OpOK P B w G K ((execOp a.eval o).run P w):=by
 unfold aop at h;split at h
 ·exact zJx hH hF h
 ·exact zJs hH hF h

end
end Go.Proofs.YtdmamdnkcefmmaaGreatDoor
