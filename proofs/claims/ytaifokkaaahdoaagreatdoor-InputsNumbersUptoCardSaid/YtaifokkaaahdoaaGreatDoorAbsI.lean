import Derived.Test.YtaifokkaaahdoaaGreatDoorAbsP2
set_option linter.unusedSimpArgs false
set_option linter.unusedVariables false
set_option linter.unusedSectionVars false
set_option maxRecDepth 8000
namespace Go.Proofs.YtaifokkaaahdoaaGreatDoor
section
open Go.RowKit

variable {P:Program} {B:Nat} {w:World} {G:Gh} {H:zaa}

theorem HRel.newOwn(h:HRel B w G H)(e size:Nat):
  Ext B w G w ⟨G.L,G.μ++[.own (.slice none 0 0) size 0]⟩∧HRel B w ⟨G.L,G.μ++[.own (.slice none 0 0) size 0]⟩ (H++[.perm e size 0]):=by
 have he:Ext B w G w ⟨G.L,G.μ++[.own (.slice none 0 0) size 0]⟩:=⟨DR.app (aa _) rfl (by simp),Below.refl _ _,λ_=>aa _,λ_ _ _=>rfl,λid gi hg=>⟨gi,by
  have:id<G.μ.length:=(List.getElem?_eq_some_iff.1 hg).1;simp only[];rw[List.getElem?_append_left this];exact hg,gi.le_refl⟩⟩
 have split:∀(id:Nat) gi,(G.μ++[.own (.slice none 0 0) size 0])[id]?=some gi→G.μ[id]?=some gi∨(id=G.μ.length∧gi=.own (.slice none 0 0) size 0):=by
  intro id gi hg;by_cases hlt:id<G.μ.length
  ·rw[List.getElem?_append_left hlt]at hg;exact .inl hg
  ·have hlt2:=(List.getElem?_eq_some_iff.1 hg).1;simp at hlt2;have:id=G.μ.length:=by omega
   subst this;simp at hg;exact .inr ⟨rfl,hg.symm⟩
 refine⟨he,by simp[h.len],?_,?_,h.fresh,?_,h.base⟩
 ·intro id ab gi h1 h2;rcases split id gi h2 with h2 | ⟨rfl,rfl⟩
  ·have hlt:id<H.length:=by rw[←h.len];exact (List.getElem?_eq_some_iff.1 h2).1
   rw[List.getElem?_append_left hlt]at h1;exact(h.ok id ab gi h1 h2).keep he (λb hb=>⟨rfl,rfl⟩)
  ·rw[h.len]at h1;simp at h1;subst h1;exact⟨rfl,rfl,⟨[],World.ownsRow_nil w B e size⟩,λb hb=>by simp[Value.ownBlock]at hb⟩
 ·intro id id' gi gi' b h1 h2 h3 h4;rcases split id gi h1 with k1 | ⟨e1,e2⟩ <;> rcases split id' gi' h2 with k2 | ⟨e3,e4⟩
  ·exact h.dist id id' gi gi' b k1 k2 h3 h4
  ·rw[e4]at h4;simp[GI.block,Value.ownBlock]at h4
  ·rw[e2]at h3;simp[GI.block,Value.ownBlock]at h3
  ·rw[e1,e3]
 ·intro id gi b h1 h2;rcases split id gi h1 with k1 | ⟨e1,e2⟩
  ·exact h.lt id gi b k1 h2
  ·rw[e2]at h2;simp[GI.block,Value.ownBlock]at h2

theorem zwP{v:Value}{a:AV}(h:DRel w G.L v a):v.oneCell'=true:=by cases h <;> rfl

theorem zKT{e size n:Nat}{v:Value}{xs:List Value}{es:List (List AV)}(hown:w.ownsRow B e size v n xs)(hd:DRel w G.L v (.sl es .none))(hes:es.length=n)(hsz:∀c∈es,c.length=size):All2 (DRel w G.L) xs es.flatten:=by
 by_cases hne:es=[]
 ·subst hne;simp at hes;subst hes;have:xs=[]:=az (by simpa using hown.1);rw[this];trivial
 ·obtain⟨b,off,cap,zs,hv,hl,hr,hc,_⟩:=hd.flat hne hsz;have hoff:off=0:=by
   rcases hown.2 with ⟨h1,_⟩|⟨g,cap',cur,h1,_⟩
   ·rw[hv]at h1;simp at h1
   ·rw[hv]at h1;simp at h1;exact h1.1.2
  subst hoff;rw[hv,hes]at hown;obtain⟨hxl,_,_,hcx⟩:=zdL hown;have:xs=zs:=by
   apply aI;intro j;by_cases hj:j<n*size
   ·have hz:j<zs.length:=by rw[hl,hes];exact hj
    have:=hc j zs[j] (by simp[hz]);rw[aF]at this;rw[←hcx j hj,this];simp[hz]
   ·rw[List.getElem?_eq_none (by omega),List.getElem?_eq_none (by rw[hl,hes];omega)]
  rw[this];exact hr

theorem HRel.newVec0(h:HRel B w G H)(e size:Nat):Ext B w G w ⟨G.L,G.μ++[.own (.slice none 0 0) size 0]⟩∧HRel B w ⟨G.L,G.μ++[.own (.slice none 0 0) size 0]⟩ (H++[.vec e size 0 []]):=by
 obtain⟨hE,hH⟩:=h.newOwn e size;refine⟨hE,by simpa using hH.len,λid ab gi h1 h2=>?_,hH.dist,hH.fresh,hH.lt,hH.base⟩;by_cases hlt:id<H.length
 ·rw[List.getElem?_append_left hlt]at h1;exact hH.ok id ab gi (by rw[List.getElem?_append_left hlt];exact h1) h2
 ·have hlt2:=(List.getElem?_eq_some_iff.1 h2).1;simp[h.len]at hlt2;obtain rfl:id=H.length:=by omega
  simp at h1;have h2:(G.μ++[GI.own (.slice none 0 0) size 0])[H.length]?=some gi:=h2;rw[←h.len]at h2;simp at h2;subst h1 h2;exact⟨rfl,rfl,⟨[],World.ownsRow_nil w B e size,trivial⟩,λb hb=>by simp[Value.ownBlock]at hb⟩
theorem zzl{t e ty:TypeId}{size bytes:Nat}{z:Value}{vx vy:Value}{x:AV}{m:Nat}{ds:List AV}{K:AV→zaa→Prop}(hH:HRel B w G H)(he:zbe P t=some e)(hn:zaQ P e=some size)(hby:zcO P e=some bytes)(hz:zbq P e=some z)(hzl:(zbt z).length=size)(hx:TRel w G vx x)(news:List Value)(ay:Option Addr)(capy:Nat)(hvy:vy=.slice ay m capy)(hrn:All2 (ARel w G) news ds)(hcn:0<m→∃ b off,ay=some ⟨b,off,none⟩∧∀ j u,news[j]?=some u→w.cell? ⟨b,off+j,none⟩=some u)(h:zdY e size bytes x m ds H K):
  OpOK P B w G K (((do pure (.value (←Builtin.append_ #[t,t] ty #[vx,vy]))):Sem Next).run P w):=by
 subst hvy;have hzr:=zdO (w:=w) (G:=G) z;have hzs:z.cells.size=size:=by have:=hzr.length;simp at this;omega
 have hone:ds.all AV.known=true→∀u∈news,u.oneCell'=true:=λhk=>zk0 hrn (λc hc=>λhu=>by
  subst hu;have:=am.1 hk _ hc;simp[AV.known]at this)
 have hlen:=hrn.length;unfold zdY at h;split at h
 ·rename_i id n;split at h
  ·rename_i e' s' n' cs hid;obtain⟨⟨⟨rfl,rfl,rfl⟩,hkn,hdl,hb1,hb2⟩,hk⟩:=h;obtain⟨hsl,v',s0,n0,hμ,hle,heq⟩:=hx;obtain⟨rfl,rfl,⟨xs,hown,hrx⟩,_⟩:=hH.ok id _ _ hid hμ;obtain rfl:=heq rfl;by_cases hys:m=0
   ·subst hys;obtain⟨ax,capx,rfl,hle⟩:=zkZ hown;have hrun:=ziN (P:=P) (w:=w) (ty:=ty) (a:=ax) (c:=ay) (cap':=capy) he he ⟨_,hn⟩ hle;rw[Sem.run_bind,hrun];refine⟨.ov id n',G,H,Ext.refl _ _ _,hH,⟨hsl,_,_,n',hμ,aa _,λ_=>rfl⟩,?_⟩;have hds:ds=[]:=by cases ds <;> simp_all
    subst hds;have:H.set id (.vec e' s' n' cs)=H:=by
     apply aI;intro k;by_cases hk:k=id
     ·subst hk;rw[List.getElem?_set_self (List.getElem?_eq_some_iff.1 hid).1];exact hid.symm
     ·rw[List.getElem?_set_ne (λh=>hk h.symm)]
    simp only[Nat.add_zero,aE,this]at hk;exact hk
   ·have hm0:0<m:=by omega
    obtain⟨b,off,rfl,hcc⟩:=hcn hm0;unfold zaQ at hn;unfold zcO at hby;unfold zbq at hz;cases hi:P.info? e' with
    |none=>simp[hi]at hn
    |some i=>simp[hi]at hn hby hz;subst hn;subst hby;obtain⟨v2,w',hrun,hown',hcase⟩:=zq9 (P:=P) (ty:=ty) (zbI he) hi hz hzs hown ⟨b,off,none⟩ m capy news (by omega) (λj u hj=>by rw[add_lit];exact hcc j u hj) (hone hkn) hm0 (by simp only[maxLen];omega) hb1 hH.base;obtain⟨G',hE',hH',hT⟩:=zhy hH hid hμ hown hown' hcase hm0 hrx hrn;rw[Sem.run_bind,hrun];exact⟨_,G',_,hE',hH',hT,hk⟩
  ·exact h.elim
 ·split at h
  ·obtain⟨hdx,ax,rfl⟩:=hx;have hrun:=ziN (P:=P) (w:=w) (ty:=ty) (a:=ax) (c:=ay) (cap':=capy) he he ⟨_,hn⟩ (aa 0);rw[Sem.run_bind];simp only[List.length_nil];rw[hrun];exact⟨.sl [] .none,G,H,Ext.refl _ _ _,hH,.slE _ _,h⟩
  ·rename_i m';obtain⟨⟨hkn,hdl,hb1,hb2⟩,hk⟩:=h;obtain⟨hdx,ax,rfl⟩:=hx;have hm0:0<m'+1:=by omega
   obtain⟨b,off,rfl,hcc⟩:=hcn hm0;unfold zaQ at hn;unfold zcO at hby;unfold zbq at hz;cases hi:P.info? e with
   |none=>simp[hi]at hn
   |some i=>
    simp[hi]at hn hby hz;subst hn;subst hby;obtain⟨v',w',hrun,hown',hblk,hgr⟩:=zpJ (P:=P) (ty:=ty) (n:=0) (xs:=[]) (zbI he) hi hz hzs (by simp) (λb hb j u hj=>by simp at hj) (λh=>rfl) ⟨b,off,none⟩ (m'+1) capy news (by omega) (λj u hj=>by rw[add_lit];exact hcc j u hj) hm0 (by simp only[maxLen];omega) (by simpa using hb1) hH.base;obtain⟨hE,hH0⟩:=hH.newVec0 e i.size;have hid:(H++[.vec e i.size 0 []])[H.length]?=some (.vec e i.size 0 []):=by simp
    obtain⟨G',hE',hH',hT⟩:=zhy (n:=0) (cs:=[]) (xs:=[]) hH0 hid (by rw[←hH.len];simp) (World.ownsRow_nil w B e i.size) (by simpa using hown') (.inr ⟨hblk,hgr⟩) hm0 trivial (hrn.mono λ_ _=>hE.arel);rw[Sem.run_bind];simp only[List.length_nil];rw[hrun];refine⟨_,G',_,hE.trans hE',hH',hT,?_⟩;simpa using hk
 ·split at h
  ·exact h.elim
  ·rename_i m';obtain⟨⟨hkn,hdl,hb1,hb2⟩,hk⟩:=h;obtain rfl:vx=.slice none 0 0:=hx;obtain⟨ax,hax⟩:∃ ax:Option Addr,ax=none:=⟨_,rfl⟩;rw[←hax];have hm0:0<m'+1:=by omega
   obtain⟨b,off,rfl,hcc⟩:=hcn hm0;unfold zaQ at hn;unfold zcO at hby;unfold zbq at hz;cases hi:P.info? e with
   |none=>simp[hi]at hn
   |some i=>
    simp[hi]at hn hby hz;subst hn;subst hby;obtain⟨v',w',hrun,hown',hblk,hgr⟩:=zpJ (P:=P) (ty:=ty) (n:=0) (xs:=[]) (zbI he) hi hz hzs (by simp) (λb hb j u hj=>by simp at hj) (λh=>rfl) ⟨b,off,none⟩ (m'+1) capy news (by omega) (λj u hj=>by rw[add_lit];exact hcc j u hj) hm0 (by simp only[maxLen];omega) (by simpa using hb1) hH.base;obtain⟨hE,hH0⟩:=hH.newVec0 e i.size;have hid:(H++[.vec e i.size 0 []])[H.length]?=some (.vec e i.size 0 []):=by simp
    obtain⟨G',hE',hH',hT⟩:=zhy (n:=0) (cs:=[]) (xs:=[]) hH0 hid (by rw[←hH.len];simp) (World.ownsRow_nil w B e i.size) (by simpa using hown') (.inr ⟨hblk,hgr⟩) hm0 trivial (hrn.mono λ_ _=>hE.arel);rw[Sem.run_bind];rw[hrun];refine⟨_,G',_,hE.trans hE',hH',hT,?_⟩;simpa using hk
 ·exact h.elim

theorem zJm{t e ty:TypeId}{size bytes:Nat}{z:Value}{vx vy:Value}{x y:AV}{K:AV→zaa→Prop}(hH:HRel B w G H)(he:zbe P t=some e)(hn:zaQ P e=some size)(hby:zcO P e=some bytes)(hz:zbq P e=some z)(hzl:(zbt z).length=size)(hx:TRel w G vx x)(hy:TRel w G vy y)(h:zax e size bytes x y H K):
  OpOK P B w G K (((do pure (.value (←Builtin.append_ #[t,t] ty #[vx,vy]))):Sem Next).run P w):=by
 unfold zax at h;split at h
 ·rename_i id off len cap;split at h
  ·rename_i cs hid;obtain⟨b,hμ,rfl⟩:=hy;obtain⟨_,_,vs,_,hw,hcs⟩:=hH.ok id _ _ hid hμ;have hl:=hcs.length;refine zzl hH he hn hby hz hzl hx ((vs.toList.drop off).take (len*size)) _ _ rfl ((hcs.drop off).take _) (λ_=>⟨b,off,rfl,λj u hj=>?_⟩) h.2;rw[List.getElem?_take]at hj;split at hj
   ·simp only[World.cell?,hw];simpa using hj
   ·cases hj
  ·exact h.elim
 ·rename_i id n;split at h
  ·rename_i e' s' n' cs hid;obtain⟨⟨rfl,rfl⟩,h⟩:=h;obtain⟨⟨a,cap0,rfl,_⟩,v',s0,n0,hμ,_,heq⟩:=hy;obtain⟨rfl,rfl,⟨xs,hown,hcs⟩,_⟩:=hH.ok id _ _ hid hμ;obtain rfl:=heq rfl;refine zzl hH he hn hby hz hzl hx xs _ _ rfl hcs (λhm=>?_) h;obtain⟨hl,hrow⟩:=hown;rcases hrow with ⟨h1,h2⟩ | ⟨g,cap,cur,h1,h2,h3,h4,h5,h6,h7⟩
   ·omega
   ·simp at h1;obtain⟨rfl,rfl⟩:=h1;obtain⟨_,_,_,hcell⟩:=zdL ⟨hl,.inr ⟨g,cap0,cur,rfl,h2,h3,h4,h5,h6,h7⟩⟩;exact⟨g,0,rfl,λj u hj=>by
     rw[aF,hcell j (by rw[←hl];exact(List.getElem?_eq_some_iff.1 hj).1)];exact hj⟩
  ·exact h.elim
 obtain⟨ys,hdy,hsy,h⟩:∃ys,DRel w G.L vy (.sl ys .none)∧(∀c∈ys,c.length=size)∧zaZ e size bytes x ys H K:=by
  unfold za6 at h;split at h
  ·rename_i ys tok _ _;exact⟨ys,ziQ hy,h.1,h.2⟩
  ·cases hy;exact⟨[],.slE _ _,h.1,h.2⟩
  ·exact h.elim
 have hzr:=zdO (w:=w) (G:=G) z;have hzs:z.cells.size=size:=by have:=hzr.length;simp at this;omega
 -- the general step, for a right that is there already
 have main:∀ (G0:Gh) (H0:zaa) (id:Nat) (es:List (List AV)) (v:Value),Ext B w G w G0→HRel B w G0 H0→H0[id]?=some (.perm e size es.length)→G0.μ[id]?=some (.own v size es.length)→DRel w G.L v (.sl es .none) →
   (∀c∈es,c.length=size)→vx=v→(es.length+ys.length)*bytes≤140737488355328→es.length+ys.length≤9223372036854775807→K (.sl (es++ys) (.own id)) (H0.set id (.perm e size (es.length+ys.length))) →
   OpOK P B w G K (((do pure (.value (←Builtin.append_ #[t,t] ty #[vx,vy]))):Sem Next).run P w):=by
  intro G0 H0 id es v hE hH0 hid hμ hdx hsx hvx hb1 hb2 hk;subst hvx;obtain⟨_,_,⟨xs,hown⟩,_⟩:=hH0.ok id _ _ hid hμ;by_cases hys:ys=[]
  ·subst hys;obtain⟨ay,capy,rfl,_⟩:=hdy.slice_form;obtain⟨ax,capx,rfl,hle⟩:=zkZ hown;have hrun:=ziN (P:=P) (w:=w) (ty:=ty) (a:=ax) (c:=ay) (cap':=capy) he he ⟨size,hn⟩ hle;simp only[List.length_nil];rw[Sem.run_bind,hrun];refine⟨.sl es (.own id),G0,H0,hE,hH0,⟨hE.drel hdx,_,size,es.length,hμ,aa _,λ_=>⟨rfl,hsx⟩⟩,?_⟩;have:H0.set id (.perm e size (es.length+0))=H0:=by
    apply aI;intro k;by_cases hk:k=id
    ·subst hk;rw[List.getElem?_set_self (List.getElem?_eq_some_iff.1 hid).1];exact hid.symm
    ·rw[List.getElem?_set_ne (λh=>hk h.symm)]
   rw[List.length_nil,this]at hk;simpa using hk
  ·obtain⟨b,off,capy,news,hvy,hln,hrn,hcn,_⟩:=hdy.flat hys hsy;subst hvy;have hm0:0<ys.length:=by cases ys <;> simp_all
   unfold zaQ at hn;unfold zcO at hby;unfold zbq at hz;cases hi:P.info? e with
   |none=>simp[hi]at hn
   |some i=>
    simp[hi]at hn hby hz;subst hn;subst hby;have hone:∀u∈news,u.oneCell'=true:=λu hu=>by obtain⟨j,hj⟩:=aJ.1 hu;obtain⟨c,_,h2⟩:=hrn.get' hj;exact zwP h2
    obtain⟨v',w',hrun,hown',hcase⟩:=zq9 (P:=P) (ty:=ty) (zbI he) hi hz hzs hown ⟨b,off,none⟩ ys.length capy news hln (λj u hj=>by rw[add_lit];exact hcn j u hj) hone hm0 (by simp only[maxLen];omega) hb1 hH0.base;obtain⟨G',hE',hH',hT⟩:=zyv hH0 hid hμ hown hown' hcase rfl hm0 rfl hsx hsy (zKT hown (hE.drel hdx) rfl hsx) (hrn.mono λ_ _=>hE.drel);rw[Sem.run_bind,hrun];exact⟨_,G',_,hE.trans hE',hH',hT,hk⟩
 unfold zaZ at h;split at h
 ·cases hx;obtain⟨hE,hH0⟩:=hH.newOwn e size;have hid:(H++[.perm e size 0])[H.length]?=some (.perm e size ([]:List (List AV)).length):=by simp
  refine main _ _ H.length [] _ hE hH0 hid (by rw[←hH.len];simp) (.slE _ _) (by simp) rfl (by simpa using h.1.1) (by simpa using h.1.2) ?_;simpa using h.2
 ·rename_i es id _;obtain⟨h1,⟨h2,h3⟩,hk⟩:=h;obtain⟨hd,v',s',n',hμ,hle,heq⟩:=hx;have hok:=hH.ok id _ _ h1 hμ;obtain⟨hss,hnn,_⟩:=hok;subst hnn;subst hss;obtain⟨hvv,hsx⟩:=heq rfl;subst hvv;exact main G H id es _ (Ext.refl _ _ _) hH h1 hμ hd hsx rfl h2 h3 hk
 ·rename_i id n _;split at h
  ·rename_i e' s' n' cs hid;obtain⟨⟨⟨rfl,rfl,rfl⟩,hb1,hb2⟩,hk⟩:=h;obtain⟨hsl,v',s0,n0,hμ,hle,heq⟩:=hx;obtain⟨rfl,rfl,⟨xs,hown,hrx⟩,_⟩:=hH.ok id _ _ hid hμ;obtain rfl:=heq rfl;by_cases hys:ys=[]
   ·subst hys;obtain⟨ay,capy,rfl,_⟩:=hdy.slice_form;obtain⟨ax,capx,rfl,hle⟩:=zkZ hown;have hrun:=ziN (P:=P) (w:=w) (ty:=ty) (a:=ax) (c:=ay) (cap':=capy) he he ⟨_,hn⟩ hle;simp only[List.length_nil];rw[Sem.run_bind,hrun];refine⟨.ov id n',G,H,Ext.refl _ _ _,hH,⟨hsl,_,_,n',hμ,aa _,λ_=>rfl⟩,?_⟩;have:H.set id (.vec e' s' n' cs)=H:=by
     apply aI;intro k;by_cases hk:k=id
     ·subst hk;rw[List.getElem?_set_self (List.getElem?_eq_some_iff.1 hid).1];exact hid.symm
     ·rw[List.getElem?_set_ne (λh=>hk h.symm)]
    simp only[List.length_nil,Nat.add_zero,List.flatten_nil,aE,this]at hk;exact hk
   ·obtain⟨b,off,capy,news,hvy,hln,hrn,hcn,_⟩:=hdy.flat hys hsy;subst hvy;have hm0:0<ys.length:=by cases ys <;> simp_all
    unfold zaQ at hn;unfold zcO at hby;unfold zbq at hz;cases hi:P.info? e' with
    |none=>simp[hi]at hn
    |some i=>
     simp[hi]at hn hby hz;subst hn;subst hby;have hone:∀u∈news,u.oneCell'=true:=λu hu=>by obtain⟨j,hj⟩:=aJ.1 hu;obtain⟨c,_,h2⟩:=hrn.get' hj;exact zwP h2
     obtain⟨v2,w',hrun,hown',hcase⟩:=zq9 (P:=P) (ty:=ty) (zbI he) hi hz hzs hown ⟨b,off,none⟩ ys.length capy news hln (λj u hj=>by rw[add_lit];exact hcn j u hj) hone hm0 (by simp only[maxLen];omega) hb1 hH.base;obtain⟨G',hE',hH',hT⟩:=zhy hH hid hμ hown hown' hcase hm0 hrx (hrn.mono λ_ _ h=>ARel.of_b h.toB);rw[Sem.run_bind,hrun];exact⟨_,G',_,hE',hH',hT,hk⟩
  ·exact h.elim
 ·rename_i es _;obtain⟨hdx,ax,rfl⟩:=hx;by_cases hys0:ys=[]
  ·subst hys0;have hk:K (.sl es .full) H:=h;obtain⟨ay,capy,rfl,_⟩:=hdy.slice_form;have hrun:=ziN (P:=P) (w:=w) (ty:=ty) (a:=ax) (c:=ay) (n:=es.length) (cap:=es.length) (cap':=capy) he he ⟨size,hn⟩ (aa _);simp only[List.length_nil];rw[Sem.run_bind,hrun];exact⟨.sl es .full,G,H,Ext.refl _ _ _,hH,⟨hdx,ax,rfl⟩,hk⟩
  have h:(0<ys.length∧(∀c∈es,c.length=size)∧(es.length+ys.length)*bytes≤140737488355328∧es.length+ys.length≤9223372036854775807)∧K (.sl (es++ys) (.own H.length)) (H++[.perm e size (es.length+ys.length)]):=by
   cases ys with
   |nil=>exact absurd rfl hys0
   |cons y ys=>exact h
  obtain⟨⟨hm0,hsx,hb1,hb2⟩,hk⟩:=h;have hys:ys≠[]:=λh=>by rw[h]at hm0;simp at hm0
  obtain⟨b,off,capy,news,hvy,hln,hrn,hcn,_⟩:=hdy.flat hys hsy;subst hvy;unfold zaQ at hn;unfold zcO at hby;unfold zbq at hz;cases hi:P.info? e with
  |none=>simp[hi]at hn
  |some i=>
   simp[hi]at hn hby hz;subst hn;subst hby;obtain⟨xs,hxl,hrx,hxc,hx0⟩:∃xs:List Value,xs.length=es.length*i.size∧All2 (DRel w G.L) xs es.flatten∧(∀b,ax=some b→∀j u,xs[j]?=some u→w.cell? (b.add j)=some u)∧(ax=none→es.length=0):=by
    by_cases hne:es=[]
    ·subst hne;exact⟨[],by simp,trivial,λb hb j u hj=>by simp at hj,λ_=>rfl⟩
    ·obtain⟨b2,off2,cap2,xs,hv2,hxl,hrx,hxc,_⟩:=hdx.flat hne hsx;injection hv2 with e1 e2 e3
     subst e1;refine⟨xs,hxl,hrx,λb hb j u hj=>?_,λh=>by cases h⟩;injection hb with hb
     subst hb;rw[add_lit];exact hxc j u hj
   obtain⟨v',w',hrun,hown',hblk,hgr⟩:=zpJ (P:=P) (ty:=ty) (zbI he) hi hz hzs hxl hxc hx0 ⟨b,off,none⟩ ys.length capy news hln (λj u hj=>by rw[add_lit];exact hcn j u hj) hm0 (by simp only[maxLen];omega) hb1 hH.base;obtain⟨hE,hH0⟩:=hH.newOwn e i.size;have hid:(H++[.perm e i.size 0])[H.length]?=some (.perm e i.size 0):=by simp
   obtain⟨G',hE',hH',hT⟩:=zyv (es:=[]) (ys:=es++ys) (xs:=[]) (news:=xs++news) (m:=es.length+ys.length) (v':=v') (w':=w') hH0 hid (by rw[←hH.len];simp) (World.ownsRow_nil w B e i.size)
    (by simpa using hown') (.inr ⟨hblk,hgr⟩) (by simp) (by omega) rfl (by simp) (λc hc=>by
     rcases aP.1 hc with hc|hc
     ·exact hsx c hc
     ·exact hsy c hc) trivial (by rw[cR];exact(hrx.append hrn).mono λ_ _=>hE.drel)
   rw[Sem.run_bind,hrun];refine⟨_,G',_,hE.trans hE',hH',hT,?_⟩;simpa using hk
 ·exact h.elim

theorem zHp{v:Value}{a:AV}(h:TRel w G v a)(hb:a.isB=true):BRel w G v a:=by cases a <;> first|exact h|(simp[AV.isB]at hb;done)
theorem zxz:∀ {vs:List Value} {asx:List AV},All2 (TRel w G) vs asx→asx.all AV.isB=true→All2 (BRel w G) vs asx
 |[],[],_,_=>trivial
 |v::vs,a::asx,h,hb=>by simp only[List.all_cons,ac]at hb;exact⟨zHp h.1 hb.1,zxz h.2 hb.2⟩


theorem zb1{s:Sem Value}{K:AV→zaa→Prop}(hH:HRel B w G H)(h:∃r,s.run P w=.ok r w∧∃av,TRel w G r av∧K av H):OpOK P B w G K (((do pure (.value (←s))):Sem Next).run P w):=by obtain⟨r,h1,av,h2,h3⟩:=h;rw[Sem.run_bind,h1];exact⟨av,G,H,Ext.refl _ _ _,hH,h2,h3⟩

theorem zkX{a:Act}{F:List AV}(hF:FRel w G a.tmps F)(x:Option Operand):All2 (TRel w G) (x.map a.eval).toList (x.map (ev F)).toList:=by
 cases x with
 |none=>trivial
 |some x=>exact⟨zaJ hF x,trivial⟩

theorem zrc{a:Act}{F:List AV}(hF:FRel w G a.tmps F)(ps:List (Nat × Operand)):
  All2 (λ(p:Nat×Value) (q:Nat×AV)=>p.1=q.1∧TRel w G p.2 q.2) (ps.map λ(i,x)=>(i,a.eval x)) (ps.map λp=>(p.1,ev F p.2)):=by
 induction ps with
 |nil=>trivial
 |cons p ps ih=>exact⟨⟨rfl,zaJ hF p.2⟩,ih⟩

theorem zIP{f:FuncId}{vs:Array Value}(h:zdE P f=true):(callFunc f vs).run P w=.ok (.enter f vs) w:=by
 unfold zdE at h;cases hf:P.funcs[f]? with
 |none=>simp[hf]at h
 |some fn=>
  simp only[hf,ac,bY]at h;obtain⟨h1,h2⟩:=h;have h3:fn.body.isNone=false:=by cases hb:fn.body <;> simp_all
  simp only[callFunc,Sem.run_bind,run_program,Result.andThen_ok,hf,h1,h3,aD,aT,Sem.run_pure]

theorem zJt{c:Call}{ty:TypeId}{a:Act}{F:List AV}{fo:Operand}{K:AV→zaa→Prop}(hH:HRel B w G H)(hF:FRel w G a.tmps F)(hc:c.callee=.value fo)(h:aCallV P (ev F fo) (c.args.toList.map (ev F)) H K):OpOK P B w G K (((do let d ←resolve a.eval c ty;invoke d.target d.args):Sem Next).run P w):=by
 have hf:=zaJ hF fo;unfold aCallV at h;split at h
 ·rename_i f caps hfe;rw[hfe]at hf;obtain⟨cs,hfv,hcaps⟩:=hf;split at h
  ·rename_i hcall;have hrun:((do let d ←resolve a.eval c ty;invoke d.target d.args):Sem Next).run P w=.ok (.enter f (c.args.map a.eval++cs)) w:=by simp only[resolve,hc,hfv,Deferred.ofValue,Sem.run_bind,Sem.run_pure,Result.andThen_ok,invoke,cW];exact zIP hcall
   rw[hrun];refine⟨rfl,h B w G _ hH ?_⟩;have h1:=zwS hF c.args.toList;have h2:All2 (TRel w G) cs.toList caps:=hcaps.mono λ_ _ hb=>TRel.of_v (VRel.of_a (ARel.of_b hb));simpa using h1.append h2
  ·exact h.elim
 ·exact h.elim

theorem zwk{α:Type}{xs:Array α}{x:α}(h:xs.toList=[x]):xs=#[x]:=by cases xs;simp_all
theorem zgP{α:Type}{xs:Array α}{x y:α}(h:xs.toList=[x,y]):xs=#[x,y]:=by cases xs;simp_all

theorem zJx{t t' ty e:TypeId}{size:Nat}{x y:AV}{u v:Value}{K:AV→zaa→Prop}(hH:HRel B w G H)(he:zbe P t=some e)(hs:zaQ P e=some size)(hx:TRel w G u x)(hy:TRel w G v y)(h:zez size x y H K):OpOK P B w G K (((do pure (.value (←Builtin.copy_ #[t,t'] ty #[u,v]))):Sem Next).run P w):=by
 unfold zez at h;split at h
 ·rename_i id n lo z id' n' lo' z';split at h
  ·rename_i e0 s m cs hcs;obtain⟨⟨⟨⟨rfl,rfl,rfl⟩,rfl,rfl,rfl⟩,hkn⟩,hk⟩:=h;obtain⟨⟨hlo,a,c,rfl,hc⟩,v1,s1,n1,hμ,_,heq⟩:=hx;obtain⟨⟨hlo',a',c',rfl,hc'⟩,v2,s2,n2,hμ2,_,heq2⟩:=hy;rw[hμ]at hμ2;cases hμ2;obtain⟨rfl,rfl,⟨xs,hown,hr⟩,_⟩:=hH.ok _ _ _ hcs hμ
   replace heq:=heq rfl
   replace heq2:=heq2 rfl
   have hrl:=hr.length;obtain⟨hyl,hrow⟩:=hown;obtain⟨k,hkd⟩:∃k,k=min (m-lo') (m-lo):=⟨_,rfl⟩;have hkd2:Nat.min (m-lo') (m-lo)=k:=hkd.symm;rw[←hkd]at hk;by_cases hk0:k=0
   ·have hsame:H.set id' (.vec e0 s m (zcC cs (lo*s) ((cs.drop (lo'*s)).take (k*s))))=H:=by
     rw[hk0];simp only[zcC,bx,List.take_zero,aE,List.length_nil,Nat.add_zero,aN];apply aI;intro j;by_cases hj:id'=j
     ·subst hj;rw[List.getElem?_set_self (List.getElem?_eq_some_iff.1 hcs).1,hcs]
     ·rw[List.getElem?_set_ne hj]
    rw[hsame]at hk;have hrun:((do pure (.value (←Builtin.copy_ #[t,t'] ty #[.slice a (m-lo) c,.slice a' (m-lo') c']))):Sem Next).run P w=.ok (.value (.int .i64 ((k:Nat):Int))) w:=by
     have hl:∀(x:Addr),(loadCells x 0).run P w=.ok #[] w:=λx=>by simpa using run_loadCells_list (P:=P) w x [] (by simp)
     cases a <;> cases a' <;> simp[Builtin.copy_,zaT (zbI he),Builtin.lenOf,Builtin.firstCells,zby hs,hkd2,hk0,storeCells,hl,goInt]
    rw[hrun];exact OpOK.same (av:=.int .i64 ((k:Nat):Int)) hH rfl hk
   ·rcases hrow with ⟨rfl,hn0⟩ | ⟨g,cap,cur,rfl,hBg,hw,hc1,hc2,hc3,hc4⟩
    ·omega
    ·simp only[ziP,ap (show ¬ cap=lo by omega),ap (show ¬ cap=lo' by omega),add_lit,aF,Value.slice.injEq]at heq heq2;obtain⟨rfl,_,rfl⟩:=heq;obtain⟨rfl,_,rfl⟩:=heq2;obtain⟨vals,hvals⟩:∃ vals,vals=(xs.drop (lo'*s)).take (k*s):=⟨_,rfl⟩;have hks:lo'*s+k*s≤m*s:=by rw[←bb];exact aq _ (by omega)
     have hks2:lo*s+k*s≤m*s:=by rw[←bb];exact aq _ (by omega)
     have hvl:vals.length=k*s:=by rw[hvals];simp;omega
     have hvr:All2 (ARel w G) vals ((cs.drop (lo'*s)).take (k*s)):=by rw[hvals];exact(hr.drop _).take _
     have hone:∀v∈vals,v.oneCell'=true:=zk0 hvr (λc hc=>by
      have:=am.1 hkn c (List.mem_of_mem_drop (aW hc));intro hcu;subst hcu;simp[AV.known]at this)
     obtain⟨_,_,_,hcell⟩:=zdL (w:=w) (B:=B) (e:=e0) (size:=s) (n:=m) (cap:=cap) (g:=g) (xs:=xs) ⟨hyl,.inr ⟨g,cap,cur,rfl,hBg,hw,hc1,hc2,hc3,hc4⟩⟩;have hload:(loadCells ⟨g,lo'*s,none⟩ (k*s)).run P w=.ok vals.toArray w:=by rw[←hvl];refine run_loadCells_list (P:=P) w ⟨g,lo'*s,none⟩ vals λj v hj=>?_;have hjl:j<vals.length:=(List.getElem?_eq_some_iff.1 hj).1;rw[add_lit,hcell _ (by omega)];rw[hvals,List.getElem?_take_of_lt (by omega),List.getElem?_drop]at hj;exact hj
     have hms:m*s≤cur.size:=by rw[hc3];exact aq _ hc1
     have hst:=run_storeCells_at P g (lo*s) e0 vals 0 cur w hw (by omega) hone;simp only[Nat.add_zero]at hst;have htk:(cur.toList.take (lo*s)++vals++cur.toList.drop (lo*s+vals.length)).toArray.toList.take (m*s)=xs.take (lo*s)++vals++xs.drop (lo*s+vals.length):=by
      rw[←hc4];simp only[cP,aM,Array.length_toList,ao,hvl];rw[cJ,cJ,c0,ak (l:=vals) (by omega)];congr 2
      ·congr 1;omega
      ·congr 1;omega
     have hvl2:((cs.drop (lo'*s)).take (k*s)).length=vals.length:=hvr.length.symm;obtain⟨hE,hH'⟩:=hH.storeV (cs':=zcC cs (lo*s) ((cs.drop (lo'*s)).take (k*s))) hcs hμ hw hBg hc1 hc2 (by simp[ao,hvl];omega) htk (by simp[hvl];omega) (by
      have:=((hr.take (lo*s)).append hvr).append (hr.drop (lo*s+vals.length));unfold zcC;rw[hvl2];simpa using this)
     have hrun:((do pure (.value (←Builtin.copy_ #[t,t'] ty #[.slice (some ⟨g,lo*s,none⟩) (m-lo) (cap-lo),.slice (some ⟨g,lo'*s,none⟩) (m-lo') (cap-lo')]))):Sem Next).run P w=.ok (.value (.int .i64 ((k:Nat):Int))) (w.setRow g (cur.toList.take (lo*s)++vals++cur.toList.drop (lo*s+vals.length)).toArray):=by simp[Builtin.copy_,zaT (zbI he),Builtin.lenOf,Builtin.firstCells,zby hs,hkd2,hload,hst,goInt]
     rw[hrun];exact⟨.int .i64 ((k:Nat):Int),G,_,hE,hH',rfl,hk⟩
  ·exact h.elim
 ·rename_i id off len cap es tk;split at h
  ·rename_i cs hcs;obtain⟨⟨⟨hfit,hsz⟩,hkn⟩,hk⟩:=h;obtain⟨b,hμ,rfl⟩:=hx;obtain⟨hB,_,vs,e0,hw,hr⟩:=hH.ok id _ _ hcs hμ;have hd:DRel w G.L v (.sl es .none):=by
    cases tk with
    |none=>exact hy
    |full=>exact hy.1
    |own id=>exact hy.1
   have hrl:=hr.length;obtain⟨k,hkd⟩:∃k,k=min es.length len:=⟨_,rfl⟩;have hkd2:Nat.min es.length len=k:=hkd.symm;rw[←hkd]at hk hfit;have hl:∀(x:Addr),(loadCells x 0).run P w=.ok #[] w:=λx=>by simpa using run_loadCells_list (P:=P) w x [] (by simp)
   by_cases hk0:k=0
   ·have hsame:H.set id (.cells (zcC cs off (es.flatten.take (k*size))))=H:=by
     rw[hk0];simp only[zcC,bx,List.take_zero,aE,List.length_nil,Nat.add_zero,aN];apply aI;intro j;by_cases hj:id=j
     ·subst hj;rw[List.getElem?_set_self (List.getElem?_eq_some_iff.1 hcs).1,hcs]
     ·rw[List.getElem?_set_ne hj]
    rw[hsame]at hk;have hlv:∃a c,v=.slice a es.length c:=by
     generalize hq:AV.sl es .none=q at hd;cases hd <;> cases hq
     ·exact⟨_,_,rfl⟩
     ·exact⟨_,_,rfl⟩
    obtain⟨a',c',rfl⟩:=hlv;have hrun:((do pure (.value (←Builtin.copy_ #[t,t'] ty #[.slice (some ⟨b,off,none⟩) len cap,.slice a' es.length c']))):Sem Next).run P w=.ok (.value (.int .i64 ((k:Nat):Int))) w:=by cases a' <;> simp[Builtin.copy_,zaT (zbI he),Builtin.lenOf,Builtin.firstCells,zby hs,hkd2,hk0,storeCells,hl,goInt]
    rw[hrun];exact OpOK.same (av:=.int .i64 ((k:Nat):Int)) hH rfl hk
   ·have hne:es≠[]:=by intro h0;subst h0;simp at hkd;exact hk0 hkd
    obtain⟨b',off',cap',zs,rfl,hzl,hzr,hzc,_⟩:=hd.flat hne hsz;have hkes:k*size≤es.length*size:=aq _ (by omega);obtain⟨vals,hvals⟩:∃vals,vals=zs.take (k*size):=⟨_,rfl⟩;have hvl:vals.length=k*size:=by rw[hvals];simp;omega
    have hvr:All2 (ARel w G) vals (es.flatten.take (k*size)):=by rw[hvals];exact(hzr.mono λ_ _ hx=>ARel.of_b (DRel.toB hx)).take _
    have hone:∀v∈vals,v.oneCell'=true:=zk0 hvr (λc hc=>by
     have:=am.1 hkn c (aW hc);intro hcu;subst hcu;simp[AV.known]at this)
    have hload:(loadCells ⟨b',off',none⟩ (k*size)).run P w=.ok vals.toArray w:=by
     rw[←hvl];refine run_loadCells_list (P:=P) w ⟨b',off',none⟩ vals λj v hj=>?_;rw[add_lit];refine hzc j v ?_;rw[hvals]at hj;have hjl:j<k*size:=by rw[←hvl,hvals];exact(List.getElem?_eq_some_iff.1 hj).1
     rwa [List.getElem?_take_of_lt hjl]at hj
    have hst:=run_storeCells_at P b off e0 vals 0 vs w hw (by simp at hrl ⊢;omega) hone;simp only[Nat.add_zero]at hst;have hvl2:(es.flatten.take (k*size)).length=vals.length:=hvr.length.symm;obtain⟨hE,hH'⟩:=hH.store (cs':=zcC cs off (es.flatten.take (k*size))) (vs':=(vs.toList.take off++vals++vs.toList.drop (off+vals.length)).toArray) hcs hμ hw hB (by
     have:=((hr.take off).append hvr).append (hr.drop (off+vals.length));unfold zcC;rw[hvl2];simpa using this)
    have hrun:((do pure (.value (←Builtin.copy_ #[t,t'] ty #[.slice (some ⟨b,off,none⟩) len cap,.slice (some ⟨b',off',none⟩) es.length cap']))):Sem Next).run P w=.ok (.value (.int .i64 ((k:Nat):Int))) (w.setRow b (vs.toList.take off++vals++vs.toList.drop (off+vals.length)).toArray):=by simp[Builtin.copy_,zaT (zbI he),Builtin.lenOf,Builtin.firstCells,zby hs,hkd2,hload,hst,goInt]
    rw[hrun];exact⟨.int .i64 ((k:Nat):Int),G,_,hE,hH',rfl,hk⟩
  ·exact h.elim
 ·exact h.elim
theorem zJs{c:Call}{ty:TypeId}{a:Act}{F:List AV}{b:Builtin}{K:AV→zaa→Prop}(hH:HRel B w G H)(hF:FRel w G a.tmps F)(hc:c.callee=.builtin b)(h:ze6 P b c F H K):OpOK P B w G K (((do let d ←resolve a.eval c ty;invoke d.target d.args):Sem Next).run P w):=by
 cases b <;> simp only[ze6]at h <;> (try exact h.elim)
 case append=>
  split at h
  ·rename_i x y t t' hargs htypes;split at h
   ·rename_i e size bytes z he hs hb hz htt;simp only[aY]at htt;subst htt;split at h
    ·rename_i hq;simp only[ac,aH,aY]at hq;simp only[he,Option.bind_some]at hs hz hb;have h1:=zgP hargs;have h2:=zgP htypes;have hrun:((do let d ←resolve a.eval c ty;invoke d.target d.args):Sem Next).run P w=((do pure (.value (←Builtin.append_ #[t,t] ty #[a.eval x,a.eval y]))):Sem Next).run P w:=by simp only[resolve,hc,h1,h2,cv,aA,cm,Sem.run_bind,Sem.run_pure,Result.andThen_ok,invoke,builtin]
     rw[hrun];exact zJm hH he hs hb hz hq.2 (zaJ hF x) (zaJ hF y) h
    ·exact h.elim
   ·exact h.elim
  ·exact h.elim
 case copy=>
  split at h
  ·rename_i x y t t' hargs htypes;split at h
   ·rename_i size hs;have h1:=zgP hargs;have h2:=zgP htypes;cases he:zbe P t with
    |none=>simp[he]at hs
    |some e=>
     simp only[he,Option.bind_some]at hs;have hrun:((do let d ←resolve a.eval c ty;invoke d.target d.args):Sem Next).run P w=((do pure (.value (←Builtin.copy_ #[t,t'] ty #[a.eval x,a.eval y]))):Sem Next).run P w:=by simp only[resolve,hc,h1,h2,cv,aA,cm,Sem.run_bind,Sem.run_pure,Result.andThen_ok,invoke,builtin]
     rw[hrun];exact zJx hH he hs (zaJ hF x) (zaJ hF y) h
   ·exact h.elim
  ·exact h.elim
 case max=>
  split at h
  ·rename_i x y hargs;have h1:=zgP hargs;have hrun:((do let d ←resolve a.eval c ty;invoke d.target d.args):Sem Next).run P w=((do pure (.value (←Builtin.max_ c.argTypes ty #[a.eval x,a.eval y]))):Sem Next).run P w:=by simp only[resolve,hc,h1,cv,aA,cm,Sem.run_bind,Sem.run_pure,Result.andThen_ok,invoke,builtin]
   rw[hrun];unfold zhT at h;have hx:=zaJ hF x;have hy:=zaJ hF y;split at h
   ·rename_i k m k' n e1 e2;rw[e1]at hx;rw[e2]at hy;have hx:a.eval x=.int k m:=hx;have hy:a.eval y=.int k' n:=hy;rw[hx,hy];have hr:((do pure (.value (←Builtin.max_ c.argTypes ty #[.int k m,.int k' n]))):Sem Next).run P w=.ok (.value (.int k (if n>m then n else m))) w:=by
     have h2:(Builtin.max_ c.argTypes ty #[.int k m,.int k' n]).run P w=.ok (.int k (if n>m then n else m)) w:=by simp[Builtin.max_,Builtin.max2]
     rw[Sem.run_bind,h2];rfl
    rw[hr];exact OpOK.same (av:=.int k (if n>m then n else m)) hH rfl h
   ·exact h.elim
  ·exact h.elim
 case min=>
  split at h
  ·rename_i x y hargs;have h1:=zgP hargs;have hrun:((do let d ←resolve a.eval c ty;invoke d.target d.args):Sem Next).run P w=((do pure (.value (←Builtin.min_ c.argTypes ty #[a.eval x,a.eval y]))):Sem Next).run P w:=by simp only[resolve,hc,h1,cv,aA,cm,Sem.run_bind,Sem.run_pure,Result.andThen_ok,invoke,builtin]
   rw[hrun];unfold zgL at h;have hx:=zaJ hF x;have hy:=zaJ hF y;split at h
   ·rename_i k m k' n e1 e2;rw[e1]at hx;rw[e2]at hy;have hx:a.eval x=.int k m:=hx;have hy:a.eval y=.int k' n:=hy;rw[hx,hy];have hr:((do pure (.value (←Builtin.min_ c.argTypes ty #[.int k m,.int k' n]))):Sem Next).run P w=.ok (.value (.int k (if n<m then n else m))) w:=by
     have h2:(Builtin.min_ c.argTypes ty #[.int k m,.int k' n]).run P w=.ok (.int k (if n<m then n else m)) w:=by simp[Builtin.min_,Builtin.min2]
     rw[Sem.run_bind,h2];rfl
    rw[hr];exact OpOK.same (av:=.int k (if n<m then n else m)) hH rfl h
   ·exact h.elim
  ·exact h.elim
 case len=>
  split at h
  ·rename_i x t hargs htypes;split at h
   ·rename_i u hu;have h1:=zwk hargs;have h2:=zwk htypes;have hrun:((do let d ←resolve a.eval c ty;invoke d.target d.args):Sem Next).run P w=((do pure (.value (←Builtin.len_ #[t] ty #[a.eval x]))):Sem Next).run P w:=by simp only[resolve,hc,h1,h2,cv,aA,cm,Sem.run_bind,Sem.run_pure,Result.andThen_ok,invoke,builtin]
    rw[hrun];exact zb1 hH (zJF (zaJ hF x) hu h)
   ·exact h.elim
  ·exact h.elim

theorem zIg{o:Oper}{a:Act}{F:List AV}{K:AV→zaa→Prop}(hH:HRel B w G H)(hF:FRel w G a.tmps F)(h:zdq P o F H K):OpOK P B w G K ((execOp a.eval o).run P w):=by
 obtain⟨dst,op,type,pos,after,guard⟩:=o;unfold zdq at h;simp only[]at h;cases op <;> (try simp only[]at h) <;> (try exact h.elim) <;> simp only[execOp]
 case move x=>exact OpOK.same hH (zaJ hF x) h
 case assign x=>exact OpOK.same hH (zaJ hF x) h
 case pick c x y=>
  unfold zak at h;split at h
  ·rename_i t ht;have hc:=zaJ hF c;rw[ht]at hc;have hc:a.eval c=.bool t:=hc;have hrun:((do pure (.value (if ←asBool (a.eval c) then a.eval x else a.eval y))):Sem Next).run P w=.ok (.value (if t=true then a.eval x else a.eval y)) w:=by rw[hc];cases t <;> rfl
   rw[hrun];refine OpOK.same hH ?_ h;cases t
   ·exact zaJ hF y
   ·exact zaJ hF x
  ·exact h.elim
 case alloc t=>
  split at h
  ·rename_i z hz;exact zJl hH hz h
  ·exact h.elim
 case box t x=>exact zJo hH (zaJ hF x) h
 case build t parts=>
  split at h
  ·rename_i z ps hz hp;exact zb1 hH (zJp hz hp (by simpa using zrc hF parts.toList) h)
  ·exact h.elim
 case buildSlice t len parts=>
  split at h
  ·rename_i size z hs hz;split at h
   ·rename_i hb;simp only[ac,aH,aY]at hb;cases he:zbe P t with
    |none=>simp[he]at hs
    |some e=>simp only[he,Option.bind_some]at hs hz;exact zJq hH he hs hz hb.1.1 hb.1.2 hb.2 (by simpa using zrc hF parts.toList) h
   ·exact h.elim
  ·exact h.elim
 case load t x=>
  split at h
  ·rename_i g n hg hn;obtain⟨u,h1,av,h2,h3⟩:=zzm hH (zaJ hF x) hg hn h;exact zb1 hH ⟨u,h1,av,h2,h3⟩
  ·exact h.elim
 case store t x y=>
  split at h
  ·rename_i n hn;obtain⟨w',H',h1,h2,h3,h4⟩:=zJQ hH (zaJ hF x) (zaJ hF y) hn h;have hrun:((do Instr.storeAt t (a.eval x) (a.eval y);pure .skip):Sem Next).run P w=.ok .skip w':=by rw[Sem.run_bind,h1];rfl
   rw[hrun];exact⟨G,H',h2,h3,h4⟩
  ·exact h.elim
 case nilCheck x=>
  have hx:=zaJ hF x;rw[zFA]at h;split at h
  ·rename_i id off hid;rw[hid]at hx h;obtain⟨b,hμ,hv⟩:=hx;rw[hv];exact OpOK.same hH (av:=.ptr id off) ⟨b,hμ,rfl⟩ h
  ·rename_i cs hid;rw[hid]at hx h;obtain⟨b,off,hv,hc⟩:=hx;rw[hv];exact OpOK.same hH (av:=.view cs) ⟨b,off,rfl,hc⟩ h
  ·rename_i f cs hid;rw[hid]at hx h;obtain⟨vs,hv,hc⟩:=hx;rw[hv];exact OpOK.same hH (av:=.fn f cs) ⟨vs,rfl,hc⟩ h
  ·rename_i id m off hid;rw[hid]at hx h;obtain⟨⟨b,o,hv⟩,hr⟩:=hx;rw[hv]at hr ⊢;exact OpOK.same hH (av:=.vp id m off) ⟨⟨b,o,rfl⟩,hr⟩ h
  ·exact h.elim
 case binOp op t x y yt=>
  split at h
  ·rename_i hy;exact zb1 hH (zJM (zaJ hF x) hy h)
  ·exact zb1 hH (zJn (zaJ hF x) (zaJ hF y) h)
 case unOp op t x=>exact zb1 hH (zJR (zaJ hF x) h)
 case convert s t x=>
  have hspec:∀ k,cvK P s t=some k→(match k with
    |.ints k=>(∃j,P.underlying s=some (.int j))∧P.underlying t=some (.int k)
    |.strs=>P.underlying s=some .string∧P.underlying t=some .string
    |.bytes=>∃e,P.underlying s=some (.slice e)∧P.underlying t=some .string∧tU8 P e=true):=by
   intro k hk;unfold cvK at hk;split at hk
   ·rename_i hs;split at hk
    ·rename_i ht;cases hk;exact⟨⟨_,hs⟩,ht⟩
    ·cases hk
   ·rename_i hs;split at hk
    ·rename_i ht;cases hk;exact⟨hs,ht⟩
    ·cases hk
   ·rename_i hs;split at hk
    ·rename_i ht;split at hk
     ·rename_i he;cases hk;exact⟨_,hs,ht,he⟩
     ·cases hk
    ·cases hk
   ·cases hk
  split at h
  ·rename_i k hk;obtain⟨⟨j,hs⟩,ht⟩:=hspec _ hk;exact zb1 hH (zJu (zaJ hF x) hs ht h)
  ·rename_i hk;obtain⟨hs,ht⟩:=hspec _ hk;exact zb1 hH (zJw (zaJ hF x) hs ht h)
  ·rename_i hk;obtain⟨e,hs,ht,he⟩:=hspec _ hk;exact zb1 hH (zJv (zaJ hF x) hs ht he h)
  ·exact h.elim
 case makeFunc fn first caps=>
  cases fn <;> simp only[]at h <;> (try exact h.elim)
  rename_i f;split at h
  ·rename_i hfirst;obtain⟨hb,hk⟩:=h;have hf0:first=#[]:=by cases first;simp_all
   subst hf0;have hrun:((do pure (.value (←Instr.makeFunc (.func f) (Array.map a.eval #[]) (caps.map a.eval)))):Sem Next).run P w=.ok (.value (.func (.func f) #[] (caps.map a.eval))) w:=by simp[Instr.makeFunc]
   rw[hrun];refine OpOK.same hH (av:=.fn f (caps.toList.map (ev F))) ⟨_,rfl,?_⟩ hk;have:=zxz (zwS hF caps.toList) hb;simpa using this
  ·exact h.elim
 case makeSlice t l c=>
  split at h
  ·rename_i size bytes z hs hb hz;split at h
   ·rename_i hq;simp only[ac,aH,aY]at hq;cases he:zbe P t with
    |none=>simp[he]at hs
    |some e=>simp only[he,Option.bind_some]at hs hz hb;exact zJI hH he hs hb hz hq.1 hq.2 (zaJ hF l) (zaJ hF c) h
   ·exact h.elim
  ·exact h.elim
 case slice t x lo hi mx=>
  cases mx <;> simp only[]at h <;> (try exact h.elim)
  split at h
  ·rename_i ht;exact zb1 hH (zry (zaJ hF x) (zkX hF lo) (zkX hF hi) ht (by omega) h)
  ·rename_i ht;split at h
   ·rename_i size hs;exact zb1 hH (zry (zaJ hF x) (zkX hF lo) (zkX hF hi) ht (λ_=>hs) h)
   ·exact h.elim
  ·exact h.elim
 case fieldAddr s x i=>
  split at h
  ·rename_i f hf;split at h
   ·rename_i n hn;exact zb1 hH (zJA (zaJ hF x) hf hn h)
   ·exact h.elim
  ·exact h.elim
 case field s x i=>
  split at h
  ·rename_i f hf;split at h
   ·rename_i g n hg hn;exact zb1 hH (zJB (zaJ hF x) hf hg hn h)
   ·exact h.elim
  ·exact h.elim
 case indexAddr t x i=>
  split at h
  ·rename_i size hs;cases he:zbe P t with
   |none=>simp[he]at hs
   |some e=>simp only[he,Option.bind_some]at hs;exact zb1 hH (zJC (zaJ hF x) (zaJ hF i) he hs h)
  ·rename_i a size hs ha hz;simp only[ha,Option.bind_some]at hz;exact zb1 hH (zJD (zaJ hF x) (zaJ hF i) ha hz h)
  ·exact h.elim
 case index t x i=>
  split at h
  ·rename_i ht;exact zb1 hH (zJE (zaJ hF x) (zaJ hF i) ht h)
  ·exact h.elim
 case extract x i=>exact zb1 hH (zJy (zaJ hF x) h)
 case call c=>
  split at h
  ·rename_i fo hc;exact zJt hH hF hc h
  ·rename_i b hc;exact zJs hH hF hc h
  ·exact h.elim

theorem zIk{o:Oper}{a:Act}{F:List AV}{K:AV→zaa→Prop}(hH:HRel B w G H)(hF:FRel w G a.tmps F)(h:zfa P o.op F H K):OpOK P B w G K ((execOp a.eval o).run P w):=by
 obtain⟨dst,op,type,pos,after,guard⟩:=o;unfold zfa at h;simp only[]at h;cases op <;> (try simp only[]at h) <;> (try exact h.elim) <;> simp only[execOp]
 case makeMap t r=>
  split at h
  ·exact zJK hH h
  ·exact zJL hH h
  ·exact h.elim
 case lookup t x i ok=>
  split at h
  ·rename_i z hz;cases he:zeU P t with
   |none=>simp[he]at hz
   |some e=>simp only[he,Option.bind_some]at hz;exact zb1 hH (zJG hH he hz (zaJ hF x) (zaJ hF i) h)
  ·rename_i z _ hz;cases he:zeT P t with
   |none=>simp[he]at hz
   |some e=>simp only[he,Option.bind_some]at hz;exact zb1 hH (zJH hH he hz (zaJ hF x) (zaJ hF i) h)
  ·exact h.elim
 case mapUpdate t m k x=>
  split at h
  ·rename_i e he;obtain⟨w',H',h1,h2,h3,h4⟩:=zzn hH he (zaJ hF m) (zaJ hF k) (zaJ hF x) h;have hrun:((do Instr.mapUpdate t (a.eval m) (a.eval k) (a.eval x);pure .skip):Sem Next).run P w=.ok .skip w':=by rw[Sem.run_bind,h1];rfl
   rw[hrun];exact⟨G,H',h2,h3,h4⟩
  ·rename_i e _ he;obtain⟨w',H',h1,h2,h3,h4⟩:=zzo hH he (zaJ hF m) (zaJ hF k) (zaJ hF x) h;have hrun:((do Instr.mapUpdate t (a.eval m) (a.eval k) (a.eval x);pure .skip):Sem Next).run P w=.ok .skip w':=by rw[Sem.run_bind,h1];rfl
   rw[hrun];exact⟨G,H',h2,h3,h4⟩
  ·exact h.elim
 case insert t m k x=>
  split at h
  ·rename_i e he;obtain⟨w',H',h1,h2,h3,h4⟩:=zzn hH he (zaJ hF m) (zaJ hF k) (zaJ hF x) h;have hrun:((do Instr.mapUpdate t (a.eval m) (a.eval k) (a.eval x);pure .skip):Sem Next).run P w=.ok .skip w':=by rw[Sem.run_bind,h1];rfl
   rw[hrun];exact⟨G,H',h2,h3,h4⟩
  ·rename_i e _ he;obtain⟨w',H',h1,h2,h3,h4⟩:=zzo hH he (zaJ hF m) (zaJ hF k) (zaJ hF x) h;have hrun:((do Instr.mapUpdate t (a.eval m) (a.eval k) (a.eval x);pure .skip):Sem Next).run P w=.ok .skip w':=by rw[Sem.run_bind,h1];rfl
   rw[hrun];exact⟨G,H',h2,h3,h4⟩
  ·exact h.elim
theorem zgb{o:Oper}{a:Act}{F:List AV}{K:AV→zaa→Prop}(hH:HRel B w G H)(hF:FRel w G a.tmps F)(h:aop P o F H K):OpOK P B w G K ((execOp a.eval o).run P w):=by
 unfold aop at h;split at h
 ·exact zIk hH hF h
 ·exact zIg hH hF h

end
end Go.Proofs.YtaifokkaaahdoaaGreatDoor
