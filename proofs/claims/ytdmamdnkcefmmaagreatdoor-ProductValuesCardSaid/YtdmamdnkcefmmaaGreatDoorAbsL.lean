import Derived.Test.YtdmamdnkcefmmaaGreatDoorAbsH
import Derived.Still
import Derived.Scope
set_option linter.unusedSimpArgs false
set_option linter.unusedVariables false
set_option maxRecDepth 8000
namespace Go.Abs
open Go Go.RowKit

variable {P:Program} {B:Nat} {w:World} {G:Gh} {H:zaa}

theorem HRel.newOwn (h:HRel B w G H) (e size:Nat) :
  Ext B w G w ⟨G.L,G.μ++[.own (.slice none 0 0) size 0]⟩∧HRel B w ⟨G.L,G.μ++[.own (.slice none 0 0) size 0]⟩ (H++[.perm e size 0]):=by
 have he:Ext B w G w ⟨G.L,G.μ++[.own (.slice none 0 0) size 0]⟩:=⟨Nat.le_refl _,Below.refl _ _,λ_=>Nat.le_refl _,λ_ _ _=>rfl,λid gi hg=>⟨gi,by
  have:id<G.μ.length:=(List.getElem?_eq_some_iff.1 hg).1;simp only[];rw[List.getElem?_append_left this];exact hg,gi.le_refl⟩⟩
 have split:∀ (id:Nat) gi,(G.μ++[.own (.slice none 0 0) size 0])[id]?=some gi→G.μ[id]?=some gi∨(id=G.μ.length∧gi=.own (.slice none 0 0) size 0):=by
  intro id gi hg;by_cases ap:id<G.μ.length
  ·rw[List.getElem?_append_left ap]at hg;exact .inl hg
  ·have aZ:=(List.getElem?_eq_some_iff.1 hg).1;simp at aZ;have:id=G.μ.length:=by omega
   subst this;simp at hg;exact .inr ⟨rfl,hg.symm⟩
 refine⟨he,by simp[h.len],?_,?_,h.fresh,?_,h.base⟩
 ·intro id ab gi h1 h2;rcases split id gi h2 with h2 | ⟨rfl,rfl⟩
  ·have ap:id<H.length:=by rw[←h.len];exact (List.getElem?_eq_some_iff.1 h2).1
   rw[List.getElem?_append_left ap]at h1;exact (h.ok id ab gi h1 h2).keep he (λb hb=>⟨rfl,rfl⟩)
  ·rw[h.len]at h1;simp at h1;subst h1;exact⟨rfl,rfl,⟨[],World.ownsRow_nil w B e size⟩,λb hb=>by simp[Value.ownBlock]at hb⟩
 ·intro id id' gi gi' b h1 h2 h3 h4;rcases split id gi h1 with k1 | ⟨e1,e2⟩ <;> rcases split id' gi' h2 with k2 | ⟨e3,e4⟩
  ·exact h.dist id id' gi gi' b k1 k2 h3 h4
  ·rw[e4]at h4;simp[GI.block,Value.ownBlock]at h4
  ·rw[e2]at h3;simp[GI.block,Value.ownBlock]at h3
  ·rw[e1,e3]
 ·intro id gi b h1 h2;rcases split id gi h1 with k1 | ⟨e1,e2⟩
  ·exact h.lt id gi b k1 h2
  ·rw[e2]at h2;simp[GI.block,Value.ownBlock]at h2

theorem zwY {v:Value} {a:AV} (h:DRel w G.L v a):v.oneCell'=true:=by cases h <;> rfl

theorem zrL {e size n:Nat} {v:Value} {xs:List Value} {es:List (List AV)} (au:w.ownsRow B e size v n xs) (hd:DRel w G.L v (.sl es .none)) (ba:es.length=n) (aF:∀ c∈es,c.length=size):All2 (DRel w G.L) xs es.flatten:=by
 by_cases aD:es=[]
 ·subst aD;simp at ba;subst ba;have:xs=[]:=List.eq_nil_of_length_eq_zero (by simpa using au.1);rw[this];trivial
 ·obtain⟨b,off,cap,zs,hv,hl,hr,hc,_⟩:=hd.flat aD aF;have dC:off=0:=by
   rcases au.2 with ⟨h1,_⟩ | ⟨g,cap',cur,h1,_⟩
   ·rw[hv]at h1;simp at h1
   ·rw[hv]at h1;simp at h1;exact h1.1.2
  subst dC;rw[hv,ba]at au;obtain⟨cj,_,_,hcx⟩:=zdy au;have:xs=zs:=by
   apply List.ext_getElem?;intro j;by_cases hj:j<n*size
   ·have hz:j<zs.length:=by rw[hl,ba];exact hj
    have:=hc j zs[j] (by simp[hz]);rw[Nat.zero_add]at this;rw[←hcx j hj,this];simp[hz]
   ·rw[List.getElem?_eq_none (by omega),List.getElem?_eq_none (by rw[hl,ba];omega)]
  rw[this];exact hr

theorem HRel.newVec0 (h:HRel B w G H) (e size:Nat):Ext B w G w ⟨G.L,G.μ++[.own (.slice none 0 0) size 0]⟩∧HRel B w ⟨G.L,G.μ++[.own (.slice none 0 0) size 0]⟩ (H++[.vec e size 0 []]):=by
 obtain⟨hE,hH⟩:=h.newOwn e size;refine⟨hE,by simpa using hH.len,λid ab gi h1 h2=>?_,hH.dist,hH.fresh,hH.lt,hH.base⟩;by_cases ap:id<H.length
 ·rw[List.getElem?_append_left ap]at h1;exact hH.ok id ab gi (by rw[List.getElem?_append_left ap];exact h1) h2
 ·have aZ:=(List.getElem?_eq_some_iff.1 h2).1;simp[h.len]at aZ;obtain rfl:id=H.length:=by omega
  simp at h1;have h2:(G.μ++[GI.own (.slice none 0 0) size 0])[H.length]?=some gi:=h2;rw[←h.len]at h2;simp at h2;subst h1 h2;exact⟨rfl,rfl,⟨[],World.ownsRow_nil w B e size,trivial⟩,λb hb=>by simp[Value.ownBlock]at hb⟩
theorem zy1 {t e ty:TypeId} {size bytes:Nat} {z:Value} {vx vy:Value} {x:AV} {m:Nat} {ds:List AV} {K:AV→zaa→Prop} (hH:HRel B w G H) (he:za9 P t=some e) (hn:zaW P e=some size) (bu:zc4 P e=some bytes)
  (hz:zbu P e=some z) (gH:(zbs z).length=size) (hx:TRel w G vx x) (news:List Value) (ay:Option Addr) (capy:Nat) (gI:vy=.slice ay m capy) (fF:All2 (ARel w G) news ds)
  (cx:0<m→∃ b off,ay=some ⟨b,off,none⟩∧∀ j u,news[j]?=some u→w.cell? ⟨b,off+j,none⟩=some u) (h:zdV e size bytes x m ds H K) :
  OpOK P B w G K (((do pure (.value (←Builtin.append_ #[t,t] ty #[vx,vy]))):Sem Next).run P w):=by
 subst gI;have dA:=zdR (w:=w) (G:=G) z;have dB:z.cells.size=size:=by have:=dA.length;simp at this;omega
 have bx:ds.all AV.known=true→∀ u∈news,u.oneCell'=true:=λhk=>zqJ fF (λc hc=>λhu=>by
  subst hu;have:=List.all_eq_true.1 hk _ hc;simp[AV.known]at this)
 have aq:=fF.length;unfold zdV at h;split at h
 ·rename_i id n;split at h
  ·rename_i e' s' n' cs ar;obtain⟨⟨⟨rfl,rfl,rfl⟩,dm,iF,bG,bz⟩,hk⟩:=h;obtain⟨eh,v',s0,n0,hμ,aQ,heq⟩:=hx;obtain⟨rfl,rfl,⟨xs,au,gT⟩,_⟩:=hH.ok id _ _ ar hμ;obtain rfl:=heq rfl;by_cases gU:m=0
   ·subst gU;obtain⟨ax,capx,rfl,aQ⟩:=zke au;have az:=zh6 (P:=P) (w:=w) (ty:=ty) (a:=ax) (c:=ay) (cap':=capy) he he ⟨_,hn⟩ aQ;rw[Sem.run_bind,az];refine⟨.ov id n',G,H,Ext.refl _ _ _,hH,⟨eh,_,_,n',hμ,Nat.le_refl _,λ_=>rfl⟩,?_⟩;have eU:ds=[]:=by cases ds <;> simp_all
    subst eU;have:H.set id (.vec e' s' n' cs)=H:=by
     apply List.ext_getElem?;intro k;by_cases hk:k=id
     ·subst hk;rw[List.getElem?_set_self (List.getElem?_eq_some_iff.1 ar).1];exact ar.symm
     ·rw[List.getElem?_set_ne (λh=>hk h.symm)]
    simp only[Nat.add_zero,List.append_nil,this]at hk;exact hk
   ·have ct:0<m:=by omega
    obtain⟨b,off,rfl,bR⟩:=cx ct;unfold zaW at hn;unfold zc4 at bu;unfold zbu at hz;cases hi:P.info? e' with
    | none=>simp[hi]at hn
    | some i=>simp[hi]at hn bu hz;subst hn;subst bu;obtain⟨v2,w',az,aU,aG⟩:=zkc (P:=P) (ty:=ty) (zb9 he) hi hz dB au ⟨b,off,none⟩ m capy news (by omega) (λj u hj=>by rw[add_lit];exact bR j u hj) (bx dm) ct (by simp only[maxLen];omega) bG hH.base;obtain⟨G',ey,aW,hT⟩:=zig hH ar hμ au aU aG ct gT fF;rw[Sem.run_bind,az];exact⟨_,G',_,ey,aW,hT,hk⟩
  ·exact h.elim
 ·split at h
  ·obtain⟨i4,ax,rfl⟩:=hx;have az:=zh6 (P:=P) (w:=w) (ty:=ty) (a:=ax) (c:=ay) (cap':=capy) he he ⟨_,hn⟩ (Nat.le_refl 0);rw[Sem.run_bind];simp only[List.length_nil];rw[az];exact⟨.sl [] .none,G,H,Ext.refl _ _ _,hH,.slE _ _,h⟩
  ·rename_i m';obtain⟨⟨dm,iF,bG,bz⟩,hk⟩:=h;obtain⟨i4,ax,rfl⟩:=hx;have ct:0<m'+1:=by omega
   obtain⟨b,off,rfl,bR⟩:=cx ct;unfold zaW at hn;unfold zc4 at bu;unfold zbu at hz;cases hi:P.info? e with
   | none=>simp[hi]at hn
   | some i=>
    simp[hi]at hn bu hz;subst hn;subst bu;obtain⟨v',w',az,aU,i5,bv⟩:=zxb (P:=P) (ty:=ty) (n:=0) (xs:=[]) (zb9 he) hi hz dB (by simp) (λb hb j u hj=>by simp at hj) (λh=>rfl) ⟨b,off,none⟩ (m'+1) capy news (by omega) (λj u hj=>by rw[add_lit];exact bR j u hj) ct (by simp only[maxLen];omega) (by simpa using bG) hH.base;obtain⟨hE,ei⟩:=hH.newVec0 e i.size;have ar:(H++[.vec e i.size 0 []])[H.length]?=some (.vec e i.size 0 []):=by simp
    obtain⟨G',ey,aW,hT⟩:=zig (n:=0) (cs:=[]) (xs:=[]) ei ar (by rw[←hH.len];simp) (World.ownsRow_nil w B e i.size) (by simpa using aU) (.inr ⟨i5,bv⟩) ct trivial (fF.mono λ_ _=>hE.arel);rw[Sem.run_bind];simp only[List.length_nil];rw[az];refine⟨_,G',_,hE.trans ey,aW,hT,?_⟩;simpa using hk
 ·exact h.elim

theorem zID {t e ty:TypeId} {size bytes:Nat} {z:Value} {vx vy:Value} {x y:AV} {K:AV→zaa→Prop} (hH:HRel B w G H) (he:za9 P t=some e) (hn:zaW P e=some size) (bu:zc4 P e=some bytes)
  (hz:zbu P e=some z) (gH:(zbs z).length=size) (hx:TRel w G vx x) (hy:TRel w G vy y) (h:zax e size bytes x y H K) :
  OpOK P B w G K (((do pure (.value (←Builtin.append_ #[t,t] ty #[vx,vy]))):Sem Next).run P w):=by
 unfold zax at h;split at h
 ·rename_i id off len cap;split at h
  ·rename_i cs ar;obtain⟨b,hμ,rfl⟩:=hy;obtain⟨_,_,vs,_,hw,aR⟩:=hH.ok id _ _ ar hμ;have hl:=aR.length;refine zy1 hH he hn bu hz gH hx ((vs.toList.drop off).take (len*size)) _ _ rfl ((aR.drop off).take _) (λ_=>⟨b,off,rfl,λj u hj=>?_⟩) h.2;rw[List.getElem?_take]at hj;split at hj
   ·simp only[World.cell?,hw];simpa using hj
   ·cases hj
  ·exact h.elim
 ·rename_i id n;split at h
  ·rename_i e' s' n' cs ar;obtain⟨⟨rfl,rfl⟩,h⟩:=h;obtain⟨⟨a,cap0,rfl,_⟩,v',s0,n0,hμ,_,heq⟩:=hy;obtain⟨rfl,rfl,⟨xs,au,aR⟩,_⟩:=hH.ok id _ _ ar hμ;obtain rfl:=heq rfl;refine zy1 hH he hn bu hz gH hx xs _ _ rfl aR (λhm=>?_) h;obtain⟨hl,bl⟩:=au;rcases bl with ⟨h1,h2⟩ | ⟨g,cap,cur,h1,h2,h3,h4,h5,h6,h7⟩
   ·omega
   ·simp at h1;obtain⟨rfl,rfl⟩:=h1;obtain⟨_,_,_,aH⟩:=zdy ⟨hl,.inr ⟨g,cap0,cur,rfl,h2,h3,h4,h5,h6,h7⟩⟩;exact⟨g,0,rfl,λj u hj=>by
     rw[Nat.zero_add,aH j (by rw[←hl];exact (List.getElem?_eq_some_iff.1 hj).1)];exact hj⟩
  ·exact h.elim
 obtain⟨ys,jO,iE,h⟩:∃ ys,DRel w G.L vy (.sl ys .none)∧(∀ c∈ys,c.length=size)∧zaK e size bytes x ys H K:=by
  unfold zaN at h;split at h
  ·rename_i ys tok _ _;exact⟨ys,zh8 hy,h.1,h.2⟩
  ·cases hy;exact⟨[],.slE _ _,h.1,h.2⟩
  ·exact h.elim
 have dA:=zdR (w:=w) (G:=G) z;have dB:z.cells.size=size:=by have:=dA.length;simp at this;omega
 -- the general step, for a right that is there already
 have main:∀ (G0:Gh) (H0:zaa) (id:Nat) (es:List (List AV)) (v:Value),Ext B w G w G0→HRel B w G0 H0→H0[id]?=some (.perm e size es.length)→G0.μ[id]?=some (.own v size es.length)→DRel w G.L v (.sl es .none) →
   (∀ c∈es,c.length=size)→vx=v→(es.length+ys.length)*bytes≤140737488355328→es.length+ys.length≤9223372036854775807→K (.sl (es++ys) (.own id)) (H0.set id (.perm e size (es.length+ys.length))) →
   OpOK P B w G K (((do pure (.value (←Builtin.append_ #[t,t] ty #[vx,vy]))):Sem Next).run P w):=by
  intro G0 H0 id es v hE ei ar hμ i4 iG aB bG bz hk;subst aB;obtain⟨_,_,⟨xs,au⟩,_⟩:=ei.ok id _ _ ar hμ;by_cases gU:ys=[]
  ·subst gU;obtain⟨ay,capy,rfl,_⟩:=jO.slice_form;obtain⟨ax,capx,rfl,aQ⟩:=zke au;have az:=zh6 (P:=P) (w:=w) (ty:=ty) (a:=ax) (c:=ay) (cap':=capy) he he ⟨size,hn⟩ aQ;simp only[List.length_nil];rw[Sem.run_bind,az];refine⟨.sl es (.own id),G0,H0,hE,ei,⟨hE.drel i4,_,size,es.length,hμ,Nat.le_refl _,λ_=>⟨rfl,iG⟩⟩,?_⟩;have:H0.set id (.perm e size (es.length+0))=H0:=by
    apply List.ext_getElem?;intro k;by_cases hk:k=id
    ·subst hk;rw[List.getElem?_set_self (List.getElem?_eq_some_iff.1 ar).1];exact ar.symm
    ·rw[List.getElem?_set_ne (λh=>hk h.symm)]
   rw[List.length_nil,this]at hk;simpa using hk
  ·obtain⟨b,off,capy,news,gI,gV,fF,cx,_⟩:=jO.flat gU iE;subst gI;have ct:0<ys.length:=by cases ys <;> simp_all
   unfold zaW at hn;unfold zc4 at bu;unfold zbu at hz;cases hi:P.info? e with
   | none=>simp[hi]at hn
   | some i=>
    simp[hi]at hn bu hz;subst hn;subst bu;have bx:∀ u∈news,u.oneCell'=true:=λu hu=>by obtain⟨j,hj⟩:=List.mem_iff_getElem?.1 hu;obtain⟨c,_,h2⟩:=fF.get' hj;exact zwY h2
    obtain⟨v',w',az,aU,aG⟩:=zkc (P:=P) (ty:=ty) (zb9 he) hi hz dB au ⟨b,off,none⟩ ys.length capy news gV (λj u hj=>by rw[add_lit];exact cx j u hj) bx ct (by simp only[maxLen];omega) bG ei.base;obtain⟨G',ey,aW,hT⟩:=zkd ei ar hμ au aU aG rfl ct rfl iG iE (zrL au (hE.drel i4) rfl iG) (fF.mono λ_ _=>hE.drel);rw[Sem.run_bind,az];exact⟨_,G',_,hE.trans ey,aW,hT,hk⟩
 unfold zaK at h;split at h
 ·cases hx;obtain⟨hE,ei⟩:=hH.newOwn e size;have ar:(H++[.perm e size 0])[H.length]?=some (.perm e size ([]:List (List AV)).length):=by simp
  refine main _ _ H.length [] _ hE ei ar (by rw[←hH.len];simp) (.slE _ _) (by simp) rfl (by simpa using h.1.1) (by simpa using h.1.2) ?_;simpa using h.2
 ·rename_i es id _;obtain⟨h1,⟨h2,h3⟩,hk⟩:=h;obtain⟨hd,v',s',n',hμ,aQ,heq⟩:=hx;have aA:=hH.ok id _ _ h1 hμ;obtain⟨l5,cy,_⟩:=aA;subst cy;subst l5;obtain⟨cK,iG⟩:=heq rfl;subst cK;exact main G H id es _ (Ext.refl _ _ _) hH h1 hμ hd iG rfl h2 h3 hk
 ·rename_i id n _;split at h
  ·rename_i e' s' n' cs ar;obtain⟨⟨⟨rfl,rfl,rfl⟩,bG,bz⟩,hk⟩:=h;obtain⟨eh,v',s0,n0,hμ,aQ,heq⟩:=hx;obtain⟨rfl,rfl,⟨xs,au,gT⟩,_⟩:=hH.ok id _ _ ar hμ;obtain rfl:=heq rfl;by_cases gU:ys=[]
   ·subst gU;obtain⟨ay,capy,rfl,_⟩:=jO.slice_form;obtain⟨ax,capx,rfl,aQ⟩:=zke au;have az:=zh6 (P:=P) (w:=w) (ty:=ty) (a:=ax) (c:=ay) (cap':=capy) he he ⟨_,hn⟩ aQ;simp only[List.length_nil];rw[Sem.run_bind,az];refine⟨.ov id n',G,H,Ext.refl _ _ _,hH,⟨eh,_,_,n',hμ,Nat.le_refl _,λ_=>rfl⟩,?_⟩;have:H.set id (.vec e' s' n' cs)=H:=by
     apply List.ext_getElem?;intro k;by_cases hk:k=id
     ·subst hk;rw[List.getElem?_set_self (List.getElem?_eq_some_iff.1 ar).1];exact ar.symm
     ·rw[List.getElem?_set_ne (λh=>hk h.symm)]
    simp only[List.length_nil,Nat.add_zero,List.flatten_nil,List.append_nil,this]at hk;exact hk
   ·obtain⟨b,off,capy,news,gI,gV,fF,cx,_⟩:=jO.flat gU iE;subst gI;have ct:0<ys.length:=by cases ys <;> simp_all
    unfold zaW at hn;unfold zc4 at bu;unfold zbu at hz;cases hi:P.info? e' with
    | none=>simp[hi]at hn
    | some i=>
     simp[hi]at hn bu hz;subst hn;subst bu;have bx:∀ u∈news,u.oneCell'=true:=λu hu=>by obtain⟨j,hj⟩:=List.mem_iff_getElem?.1 hu;obtain⟨c,_,h2⟩:=fF.get' hj;exact zwY h2
     obtain⟨v2,w',az,aU,aG⟩:=zkc (P:=P) (ty:=ty) (zb9 he) hi hz dB au ⟨b,off,none⟩ ys.length capy news gV (λj u hj=>by rw[add_lit];exact cx j u hj) bx ct (by simp only[maxLen];omega) bG hH.base;obtain⟨G',ey,aW,hT⟩:=zig hH ar hμ au aU aG ct gT (fF.mono λ_ _ h=>ARel.of_b h.toB);rw[Sem.run_bind,az];exact⟨_,G',_,ey,aW,hT,hk⟩
  ·exact h.elim
 ·rename_i es _;obtain⟨i4,ax,rfl⟩:=hx;by_cases hys0:ys=[]
  ·subst hys0;have hk:K (.sl es .full) H:=h;obtain⟨ay,capy,rfl,_⟩:=jO.slice_form;have az:=zh6 (P:=P) (w:=w) (ty:=ty) (a:=ax) (c:=ay) (n:=es.length) (cap:=es.length) (cap':=capy) he he ⟨size,hn⟩ (Nat.le_refl _);simp only[List.length_nil];rw[Sem.run_bind,az];exact⟨.sl es .full,G,H,Ext.refl _ _ _,hH,⟨i4,ax,rfl⟩,hk⟩
  have h:(0<ys.length∧(∀ c∈es,c.length=size)∧(es.length+ys.length)*bytes≤140737488355328∧es.length+ys.length≤9223372036854775807)∧K (.sl (es++ys) (.own H.length)) (H++[.perm e size (es.length+ys.length)]):=by
   cases ys with
   | nil=>exact absurd rfl hys0
   | cons y ys=>exact h
  obtain⟨⟨ct,iG,bG,bz⟩,hk⟩:=h;have gU:ys≠[]:=λh=>by rw[h]at ct;simp at ct
  obtain⟨b,off,capy,news,gI,gV,fF,cx,_⟩:=jO.flat gU iE;subst gI;unfold zaW at hn;unfold zc4 at bu;unfold zbu at hz;cases hi:P.info? e with
  | none=>simp[hi]at hn
  | some i=>
   simp[hi]at hn bu hz;subst hn;subst bu;obtain⟨xs,cj,gT,kX,ef⟩:∃ xs:List Value,xs.length=es.length*i.size∧All2 (DRel w G.L) xs es.flatten∧(∀ b,ax=some b→∀ j u,xs[j]?=some u→w.cell? (b.add j)=some u)∧(ax=none→es.length=0):=by
    by_cases aD:es=[]
    ·subst aD;exact⟨[],by simp,trivial,λb hb j u hj=>by simp at hj,λ_=>rfl⟩
    ·obtain⟨b2,off2,cap2,xs,gW,cj,gT,kX,_⟩:=i4.flat aD iG;injection gW with e1 e2 e3
     subst e1;refine⟨xs,cj,gT,λb hb j u hj=>?_,λh=>by cases h⟩;injection hb with hb
     subst hb;rw[add_lit];exact kX j u hj
   obtain⟨v',w',az,aU,i5,bv⟩:=zxb (P:=P) (ty:=ty) (zb9 he) hi hz dB cj kX ef ⟨b,off,none⟩ ys.length capy news gV (λj u hj=>by rw[add_lit];exact cx j u hj) ct (by simp only[maxLen];omega) bG hH.base;obtain⟨hE,ei⟩:=hH.newOwn e i.size;have ar:(H++[.perm e i.size 0])[H.length]?=some (.perm e i.size 0):=by simp
   obtain⟨G',ey,aW,hT⟩:=zkd (es:=[]) (ys:=es++ys) (xs:=[]) (news:=xs++news) (m:=es.length+ys.length) (v':=v') (w':=w') ei ar (by rw[←hH.len];simp) (World.ownsRow_nil w B e i.size)
    (by simpa using aU) (.inr ⟨i5,bv⟩) (by simp) (by omega) rfl (by simp) (λc hc=>by
     rcases List.mem_append.1 hc with hc | hc
     ·exact iG c hc
     ·exact iE c hc) trivial (by rw[List.flatten_append];exact (gT.append fF).mono λ_ _=>hE.drel)
   rw[Sem.run_bind,az];refine⟨_,G',_,hE.trans ey,aW,hT,?_⟩;simpa using hk
 ·exact h.elim

theorem zGF {v:Value} {a:AV} (h:TRel w G v a) (hb:a.isB=true):BRel w G v a:=by cases a <;> first | exact h | (simp[AV.isB]at hb;done)
theorem zxl:∀ {vs:List Value} {asx:List AV},All2 (TRel w G) vs asx→asx.all AV.isB=true→All2 (BRel w G) vs asx
 | [],[],_,_=>trivial
 | v::vs,a::asx,h,hb=>by simp only[List.all_cons,Bool.and_eq_true]at hb;exact⟨zGF h.1 hb.1,zxl h.2 hb.2⟩


theorem zcl {s:Sem Value} {K:AV→zaa→Prop} (hH:HRel B w G H) (h:∃ r,s.run P w=.ok r w∧∃ av,TRel w G r av∧K av H):OpOK P B w G K (((do pure (.value (←s))):Sem Next).run P w):=by obtain⟨r,h1,av,h2,h3⟩:=h;rw[Sem.run_bind,h1];exact⟨av,G,H,Ext.refl _ _ _,hH,h2,h3⟩

theorem zka {a:Act} {F:List AV} (hF:FRel w G a.tmps F) (x:Option Operand):All2 (TRel w G) (x.map a.eval).toList (x.map (ev F)).toList:=by
 cases x with
 | none=>trivial
 | some x=>exact⟨zaM hF x,trivial⟩

theorem zqH {a:Act} {F:List AV} (hF:FRel w G a.tmps F) (ps:List (Nat × Operand)) :
  All2 (λ(p:Nat × Value) (q:Nat × AV)=>p.1=q.1∧TRel w G p.2 q.2) (ps.map λ(i,x)=>(i,a.eval x)) (ps.map λp=>(p.1,ev F p.2)):=by
 induction ps with
 | nil=>trivial
 | cons p ps ih=>exact⟨⟨rfl,zaM hF p.2⟩,ih⟩

theorem zH1 {f:FuncId} {vs:Array Value} (h:zej P f=true):(callFunc f vs).run P w=.ok (.enter f vs) w:=by
 unfold zej at h;cases hf:P.funcs[f]? with
 | none=>simp[hf]at h
 | some fn=>
  simp only[hf,Bool.and_eq_true,Bool.not_eq_true']at h;obtain⟨h1,h2⟩:=h;have h3:fn.body.isNone=false:=by cases hb:fn.body <;> simp_all
  simp only[callFunc,Sem.run_bind,run_program,Result.andThen_ok,hf,h1,h3,Bool.false_eq_true,if_false,Sem.run_pure]

theorem zIK {c:Call} {ty:TypeId} {a:Act} {F:List AV} {fo:Operand} {K:AV→zaa→Prop} (hH:HRel B w G H) (hF:FRel w G a.tmps F) (hc:c.callee=.value fo)
  (h:aCallV P (ev F fo) (c.args.toList.map (ev F)) H K):OpOK P B w G K (((do let d ←resolve a.eval c ty;invoke d.target d.args):Sem Next).run P w):=by
 have hf:=zaM hF fo;unfold aCallV at h;split at h
 ·rename_i f caps eA;rw[eA]at hf;obtain⟨cs,ki,hcaps⟩:=hf;split at h
  ·rename_i hcall;have az:((do let d ←resolve a.eval c ty;invoke d.target d.args):Sem Next).run P w=.ok (.enter f (c.args.map a.eval++cs)) w:=by simp only[resolve,hc,ki,Deferred.ofValue,Sem.run_bind,Sem.run_pure,Result.andThen_ok,invoke,Array.empty_append];exact zH1 hcall
   rw[az];refine⟨rfl,h B w G _ hH ?_⟩;have h1:=zwZ hF c.args.toList;have h2:All2 (TRel w G) cs.toList caps:=hcaps.mono λ_ _ hb=>TRel.of_v (VRel.of_a (ARel.of_b hb));simpa using h1.append h2
  ·exact h.elim
 ·exact h.elim

theorem zwd {α:Type} {xs:Array α} {x:α} (h:xs.toList=[x]):xs=#[x]:=by cases xs;simp_all
theorem zg7 {α:Type} {xs:Array α} {x y:α} (h:xs.toList=[x,y]):xs=#[x,y]:=by cases xs;simp_all

theorem zIO {t t' ty e:TypeId} {size:Nat} {x y:AV} {u v:Value} {K:AV→zaa→Prop} (hH:HRel B w G H) (he:za9 P t=some e) (hs:zaW P e=some size) (hx:TRel w G u x) (hy:TRel w G v y)
  (h:zgY size x y H K):OpOK P B w G K (((do pure (.value (←Builtin.copy_ #[t,t'] ty #[u,v]))):Sem Next).run P w):=by
 unfold zgY at h;split at h
 ·rename_i id n lo z id' n' lo' z';split at h
  ·rename_i e0 s m cs aR;obtain⟨⟨⟨⟨rfl,rfl,rfl⟩,rfl,rfl,rfl⟩,dm⟩,hk⟩:=h;obtain⟨⟨dh,a,c,rfl,hc⟩,v1,s1,n1,hμ,_,heq⟩:=hx;obtain⟨⟨hlo',a',c',rfl,fG⟩,v2,s2,n2,hμ2,_,gX⟩:=hy;rw[hμ]at hμ2;cases hμ2;obtain⟨rfl,rfl,⟨xs,au,hr⟩,_⟩:=hH.ok _ _ _ aR hμ
   replace heq:=heq rfl
   replace gX:=gX rfl
   have dP:=hr.length;obtain⟨hyl,bl⟩:=au;obtain⟨k,kY⟩:∃ k,k=min (m-lo') (m-lo):=⟨_,rfl⟩;have hkd2:Nat.min (m-lo') (m-lo)=k:=kY.symm;rw[←kY]at hk;by_cases cH:k=0
   ·have bg:H.set id' (.vec e0 s m (zfq cs (lo*s) ((cs.drop (lo'*s)).take (k*s))))=H:=by
     rw[cH];simp only[zfq,Nat.zero_mul,List.take_zero,List.append_nil,List.length_nil,Nat.add_zero,List.take_append_drop];apply List.ext_getElem?;intro j;by_cases hj:id'=j
     ·subst hj;rw[List.getElem?_set_self (List.getElem?_eq_some_iff.1 aR).1,aR]
     ·rw[List.getElem?_set_ne hj]
    rw[bg]at hk;have az:((do pure (.value (←Builtin.copy_ #[t,t'] ty #[.slice a (m-lo) c,.slice a' (m-lo') c']))):Sem Next).run P w=.ok (.value (.int .i64 ((k:Nat):Int))) w:=by
     have hl:∀ (x:Addr),(loadCells x 0).run P w=.ok #[] w:=λx=>by simpa using run_loadCells_list (P:=P) w x [] (by simp)
     cases a <;> cases a' <;> simp[Builtin.copy_,zaY (zb9 he),Builtin.lenOf,Builtin.firstCells,zbW hs,hkd2,cH,storeCells,hl,goInt]
    rw[az];exact OpOK.same (av:=.int .i64 ((k:Nat):Int)) hH rfl hk
   ·rcases bl with ⟨rfl,fp⟩ | ⟨g,cap,cur,rfl,fe,hw,bL,dz,ec,eR⟩
    ·omega
    ·simp only[zh7,if_neg (show ¬ cap=lo by omega),if_neg (show ¬ cap=lo' by omega),add_lit,Nat.zero_add,Value.slice.injEq]at heq gX;obtain⟨rfl,_,rfl⟩:=heq;obtain⟨rfl,_,rfl⟩:=gX;obtain⟨vals,fS⟩:∃ vals,vals=(xs.drop (lo'*s)).take (k*s):=⟨_,rfl⟩;have bY:lo'*s+k*s≤m*s:=by rw[←Nat.add_mul];exact Nat.mul_le_mul_right _ (by omega)
     have hks2:lo*s+k*s≤m*s:=by rw[←Nat.add_mul];exact Nat.mul_le_mul_right _ (by omega)
     have gJ:vals.length=k*s:=by rw[fS];simp;omega
     have i6:All2 (ARel w G) vals ((cs.drop (lo'*s)).take (k*s)):=by rw[fS];exact (hr.drop _).take _
     have bx:∀ v∈vals,v.oneCell'=true:=zqJ i6 (λc hc=>by
      have:=List.all_eq_true.1 dm c (List.mem_of_mem_drop (List.mem_of_mem_take hc));intro lW;subst lW;simp[AV.known]at this)
     obtain⟨_,_,_,aH⟩:=zdy (w:=w) (B:=B) (e:=e0) (size:=s) (n:=m) (cap:=cap) (g:=g) (xs:=xs) ⟨hyl,.inr ⟨g,cap,cur,rfl,fe,hw,bL,dz,ec,eR⟩⟩;have hload:(loadCells ⟨g,lo'*s,none⟩ (k*s)).run P w=.ok vals.toArray w:=by rw[←gJ];refine run_loadCells_list (P:=P) w ⟨g,lo'*s,none⟩ vals λj v hj=>?_;have a6:j<vals.length:=(List.getElem?_eq_some_iff.1 hj).1;rw[add_lit,aH _ (by omega)];rw[fS,List.getElem?_take_of_lt (by omega),List.getElem?_drop]at hj;exact hj
     have hms:m*s≤cur.size:=by rw[ec];exact Nat.mul_le_mul_right _ bL
     have aT:=run_storeCells_at P g (lo*s) e0 vals 0 cur w hw (by omega) bx;simp only[Nat.add_zero]at aT;have bm:(cur.toList.take (lo*s)++vals++cur.toList.drop (lo*s+vals.length)).toArray.toList.take (m*s)=xs.take (lo*s)++vals++xs.drop (lo*s+vals.length):=by
      rw[←eR];simp only[List.take_append,List.length_take,Array.length_toList,List.length_append,gJ];rw[List.take_take,List.take_take,List.drop_take,List.take_of_length_le (l:=vals) (by omega)];congr 2
      ·congr 1;omega
      ·congr 1;omega
     have hvl2:((cs.drop (lo'*s)).take (k*s)).length=vals.length:=i6.length.symm;obtain⟨hE,aW⟩:=hH.storeV (cs':=zfq cs (lo*s) ((cs.drop (lo'*s)).take (k*s))) aR hμ hw fe bL dz (by simp[List.length_append,gJ];omega) bm (by simp[gJ];omega) (by
      have:=((hr.take (lo*s)).append i6).append (hr.drop (lo*s+vals.length));unfold zfq;rw[hvl2];simpa using this)
     have az:((do pure (.value (←Builtin.copy_ #[t,t'] ty #[.slice (some ⟨g,lo*s,none⟩) (m-lo) (cap-lo),.slice (some ⟨g,lo'*s,none⟩) (m-lo') (cap-lo')]))):Sem Next).run P w=.ok (.value (.int .i64 ((k:Nat):Int))) (w.setRow g (cur.toList.take (lo*s)++vals++cur.toList.drop (lo*s+vals.length)).toArray):=by simp[Builtin.copy_,zaY (zb9 he),Builtin.lenOf,Builtin.firstCells,zbW hs,hkd2,hload,aT,goInt]
     rw[az];exact⟨.int .i64 ((k:Nat):Int),G,_,hE,aW,rfl,hk⟩
  ·exact h.elim
 ·exact h.elim
theorem zIJ {c:Call} {ty:TypeId} {a:Act} {F:List AV} {b:Builtin} {K:AV→zaa→Prop} (hH:HRel B w G H) (hF:FRel w G a.tmps F) (hc:c.callee=.builtin b)
  (h:zeI P b c F H K):OpOK P B w G K (((do let d ←resolve a.eval c ty;invoke d.target d.args):Sem Next).run P w):=by
 cases b <;> simp only[zeI]at h <;> (try exact h.elim)
 case append=>
  split at h
  ·rename_i x y t t' bo cP;split at h
   ·rename_i e size bytes z he hs hb hz htt;simp only[beq_iff_eq]at htt;subst htt;split at h
    ·rename_i hq;simp only[Bool.and_eq_true,decide_eq_true_eq,beq_iff_eq]at hq;simp only[he,Option.bind_some]at hs hz hb;have h1:=zg7 bo;have h2:=zg7 cP;have az:((do let d ←resolve a.eval c ty;invoke d.target d.args):Sem Next).run P w=((do pure (.value (←Builtin.append_ #[t,t] ty #[a.eval x,a.eval y]))):Sem Next).run P w:=by simp only[resolve,hc,h1,h2,List.map_toArray,List.map_cons,List.map_nil,Sem.run_bind,Sem.run_pure,Result.andThen_ok,invoke,builtin]
     rw[az];exact zID hH he hs hb hz hq.2 (zaM hF x) (zaM hF y) h
    ·exact h.elim
   ·exact h.elim
  ·exact h.elim
 case copy=>
  split at h
  ·rename_i x y t t' bo cP;split at h
   ·rename_i size hs;have h1:=zg7 bo;have h2:=zg7 cP;cases he:za9 P t with
    | none=>simp[he]at hs
    | some e=>
     simp only[he,Option.bind_some]at hs;have az:((do let d ←resolve a.eval c ty;invoke d.target d.args):Sem Next).run P w=((do pure (.value (←Builtin.copy_ #[t,t'] ty #[a.eval x,a.eval y]))):Sem Next).run P w:=by simp only[resolve,hc,h1,h2,List.map_toArray,List.map_cons,List.map_nil,Sem.run_bind,Sem.run_pure,Result.andThen_ok,invoke,builtin]
     rw[az];exact zIO hH he hs (zaM hF x) (zaM hF y) h
   ·exact h.elim
  ·exact h.elim
 case max=>
  split at h
  ·rename_i x y bo;have h1:=zg7 bo;have az:((do let d ←resolve a.eval c ty;invoke d.target d.args):Sem Next).run P w=((do pure (.value (←Builtin.max_ c.argTypes ty #[a.eval x,a.eval y]))):Sem Next).run P w:=by simp only[resolve,hc,h1,List.map_toArray,List.map_cons,List.map_nil,Sem.run_bind,Sem.run_pure,Result.andThen_ok,invoke,builtin]
   rw[az];unfold zf7 at h;have hx:=zaM hF x;have hy:=zaM hF y;split at h
   ·rename_i k m k' n e1 e2;rw[e1]at hx;rw[e2]at hy;have hx:a.eval x=.int k m:=hx;have hy:a.eval y=.int k' n:=hy;rw[hx,hy];have hr:((do pure (.value (←Builtin.max_ c.argTypes ty #[.int k m,.int k' n]))):Sem Next).run P w=.ok (.value (.int k (if n>m then n else m))) w:=by
     have h2:(Builtin.max_ c.argTypes ty #[.int k m,.int k' n]).run P w=.ok (.int k (if n>m then n else m)) w:=by simp[Builtin.max_,Builtin.max2]
     rw[Sem.run_bind,h2];rfl
    rw[hr];exact OpOK.same (av:=.int k (if n>m then n else m)) hH rfl h
   ·exact h.elim
  ·exact h.elim
 case len=>
  split at h
  ·rename_i x t bo cP;split at h
   ·rename_i u hu;have h1:=zwd bo;have h2:=zwd cP;have az:((do let d ←resolve a.eval c ty;invoke d.target d.args):Sem Next).run P w=((do pure (.value (←Builtin.len_ #[t] ty #[a.eval x]))):Sem Next).run P w:=by simp only[resolve,hc,h1,h2,List.map_toArray,List.map_cons,List.map_nil,Sem.run_bind,Sem.run_pure,Result.andThen_ok,invoke,builtin]
    rw[az];exact zcl hH (zIV (zaM hF x) hu h)
   ·exact h.elim
  ·exact h.elim

theorem zHe {o:Oper} {a:Act} {F:List AV} {K:AV→zaa→Prop} (hH:HRel B w G H) (hF:FRel w G a.tmps F) (h:zds P o F H K):OpOK P B w G K ((execOp a.eval o).run P w):=by
 obtain⟨dst,op,type,pos,after,guard⟩:=o;unfold zds at h;simp only[]at h;cases op <;> (try simp only[]at h) <;> (try exact h.elim) <;> simp only[execOp]
 case move x=>exact OpOK.same hH (zaM hF x) h
 case assign x=>exact OpOK.same hH (zaM hF x) h
 case pick c x y=>
  unfold zam at h;split at h
  ·rename_i t ht;have hc:=zaM hF c;rw[ht]at hc;have hc:a.eval c=.bool t:=hc;have az:((do pure (.value (if ←asBool (a.eval c) then a.eval x else a.eval y))):Sem Next).run P w=.ok (.value (if t=true then a.eval x else a.eval y)) w:=by rw[hc];cases t <;> rfl
   rw[az];refine OpOK.same hH ?_ h;cases t
   ·exact zaM hF y
   ·exact zaM hF x
  ·exact h.elim
 case alloc t=>
  split at h
  ·rename_i z hz;exact zIC hH hz h
  ·exact h.elim
 case box t x=>exact zIF hH (zaM hF x) h
 case build t af=>
  split at h
  ·rename_i z ps hz hp;exact zcl hH (zIG hz hp (by simpa using zqH hF af.toList) h)
  ·exact h.elim
 case buildSlice t len af=>
  split at h
  ·rename_i size z hs hz;split at h
   ·rename_i hb;simp only[Bool.and_eq_true,decide_eq_true_eq,beq_iff_eq]at hb;cases he:za9 P t with
    | none=>simp[he]at hs
    | some e=>simp only[he,Option.bind_some]at hs hz;exact zIH hH he hs hz hb.1.1 hb.1.2 hb.2 (by simpa using zqH hF af.toList) h
   ·exact h.elim
  ·exact h.elim
 case load t x=>
  split at h
  ·rename_i g n hg hn;obtain⟨u,h1,av,h2,h3⟩:=zy2 hH (zaM hF x) hg hn h;exact zcl hH ⟨u,h1,av,h2,h3⟩
  ·exact h.elim
 case store t x y=>
  split at h
  ·rename_i n hn;obtain⟨w',H',h1,h2,h3,h4⟩:=zI4 hH (zaM hF x) (zaM hF y) hn h;have az:((do Instr.storeAt t (a.eval x) (a.eval y);pure .skip):Sem Next).run P w=.ok .skip w':=by rw[Sem.run_bind,h1];rfl
   rw[az];exact⟨G,H',h2,h3,h4⟩
  ·exact h.elim
 case nilCheck x=>
  have hx:=zaM hF x;rw[zFh]at h;split at h
  ·rename_i id off ar;rw[ar]at hx h;obtain⟨b,hμ,hv⟩:=hx;rw[hv];exact OpOK.same hH (av:=.ptr id off) ⟨b,hμ,rfl⟩ h
  ·rename_i cs ar;rw[ar]at hx h;obtain⟨b,off,hv,hc⟩:=hx;rw[hv];exact OpOK.same hH (av:=.view cs) ⟨b,off,rfl,hc⟩ h
  ·rename_i f cs ar;rw[ar]at hx h;obtain⟨vs,hv,hc⟩:=hx;rw[hv];exact OpOK.same hH (av:=.fn f cs) ⟨vs,rfl,hc⟩ h
  ·rename_i id m off ar;rw[ar]at hx h;obtain⟨⟨b,o,hv⟩,hr⟩:=hx;rw[hv]at hr ⊢;exact OpOK.same hH (av:=.vp id m off) ⟨⟨b,o,rfl⟩,hr⟩ h
  ·exact h.elim
 case binOp op t x y yt=>
  split at h
  ·rename_i hy;exact zcl hH (zI0 (zaM hF x) hy h)
  ·exact zcl hH (zIE (zaM hF x) (zaM hF y) h)
 case unOp op t x=>exact zcl hH (zI5 (zaM hF x) h)
 case convert s t x=>
  have fT:∀ k,cvK P s t=some k→(match k with
    | .ints k=>(∃ j,P.underlying s=some (.int j))∧P.underlying t=some (.int k)
    | .strs=>P.underlying s=some .string∧P.underlying t=some .string
    | .bytes=>∃ e,P.underlying s=some (.slice e)∧P.underlying t=some .string∧tU8 P e=true):=by
   intro k hk;unfold cvK at hk;split at hk
   ·rename_i hs;split at hk
    ·rename_i ht;cases hk;exact⟨⟨_,hs⟩,ht⟩
    ·cases hk
   ·rename_i hs;split at hk
    ·rename_i ht;cases hk;exact⟨hs,ht⟩
    ·cases hk
   ·rename_i hs;split at hk
    ·rename_i ht;split at hk
     ·rename_i he;cases hk;exact⟨_,hs,ht,he⟩
     ·cases hk
    ·cases hk
   ·cases hk
  split at h
  ·rename_i k hk;obtain⟨⟨j,hs⟩,ht⟩:=fT _ hk;exact zcl hH (zIL (zaM hF x) hs ht h)
  ·rename_i hk;obtain⟨hs,ht⟩:=fT _ hk;exact zcl hH (zIN (zaM hF x) hs ht h)
  ·rename_i hk;obtain⟨e,hs,ht,he⟩:=fT _ hk;exact zcl hH (zIM (zaM hF x) hs ht he h)
  ·exact h.elim
 case makeFunc fn first caps=>
  cases fn <;> simp only[]at h <;> (try exact h.elim)
  rename_i f;split at h
  ·rename_i hfirst;obtain⟨hb,hk⟩:=h;have hf0:first=#[]:=by cases first;simp_all
   subst hf0;have az:((do pure (.value (←Instr.makeFunc (.func f) (Array.map a.eval #[]) (caps.map a.eval)))):Sem Next).run P w=.ok (.value (.func (.func f) #[] (caps.map a.eval))) w:=by simp[Instr.makeFunc]
   rw[az];refine OpOK.same hH (av:=.fn f (caps.toList.map (ev F))) ⟨_,rfl,?_⟩ hk;have:=zxl (zwZ hF caps.toList) hb;simpa using this
  ·exact h.elim
 case makeSlice t l c=>
  split at h
  ·rename_i size bytes z hs hb hz;split at h
   ·rename_i hq;simp only[Bool.and_eq_true,decide_eq_true_eq,beq_iff_eq]at hq;cases he:za9 P t with
    | none=>simp[he]at hs
    | some e=>simp only[he,Option.bind_some]at hs hz hb;exact zIX hH he hs hb hz hq.1 hq.2 (zaM hF l) (zaM hF c) h
   ·exact h.elim
  ·exact h.elim
 case slice t x lo hi mx=>
  cases mx <;> simp only[]at h <;> (try exact h.elim)
  split at h
  ·rename_i ht;exact zcl hH (zre (zaM hF x) (zka hF lo) (zka hF hi) ht (by omega) h)
  ·rename_i ht;split at h
   ·rename_i size hs;exact zcl hH (zre (zaM hF x) (zka hF lo) (zka hF hi) ht (λ_=>hs) h)
   ·exact h.elim
  ·exact h.elim
 case fieldAddr s x i=>
  split at h
  ·rename_i f hf;split at h
   ·rename_i n hn;exact zcl hH (zIR (zaM hF x) hf hn h)
   ·exact h.elim
  ·exact h.elim
 case field s x i=>
  split at h
  ·rename_i f hf;split at h
   ·rename_i g n hg hn;exact zcl hH (zIS (zaM hF x) hf hg hn h)
   ·exact h.elim
  ·exact h.elim
 case indexAddr t x i=>
  split at h
  ·rename_i size hs;cases he:za9 P t with
   | none=>simp[he]at hs
   | some e=>simp only[he,Option.bind_some]at hs;exact zcl hH (zIT (zaM hF x) (zaM hF i) he hs h)
  ·exact h.elim
 case index t x i=>
  split at h
  ·rename_i ht;exact zcl hH (zIU (zaM hF x) (zaM hF i) ht h)
  ·exact h.elim
 case extract x i=>exact zcl hH (zIP (zaM hF x) h)
 case call c=>
  split at h
  ·rename_i fo hc;exact zIK hH hF hc h
  ·rename_i b hc;exact zIJ hH hF hc h
  ·exact h.elim

theorem zHi {o:Oper} {a:Act} {F:List AV} {K:AV→zaa→Prop} (hH:HRel B w G H) (hF:FRel w G a.tmps F) (h:zeL P o.op F H K):OpOK P B w G K ((execOp a.eval o).run P w):=by
 obtain⟨dst,op,type,pos,after,guard⟩:=o;unfold zeL at h;simp only[]at h;cases op <;> (try simp only[]at h) <;> (try exact h.elim) <;> simp only[execOp]
 case makeMap t r=>
  split at h
  ·exact zIZ hH h
  ·exact h.elim
 case lookup t x i ok=>
  split at h
  ·rename_i z hz;cases he:zeA P t with
   | none=>simp[he]at hz
   | some e=>simp only[he,Option.bind_some]at hz;exact zcl hH (zIW hH he hz (zaM hF x) (zaM hF i) h)
  ·exact h.elim
 case mapUpdate t m k x=>
  split at h
  ·rename_i e he;obtain⟨w',H',h1,h2,h3,h4⟩:=zy3 hH he (zaM hF m) (zaM hF k) (zaM hF x) h;have az:((do Instr.mapUpdate t (a.eval m) (a.eval k) (a.eval x);pure .skip):Sem Next).run P w=.ok .skip w':=by rw[Sem.run_bind,h1];rfl
   rw[az];exact⟨G,H',h2,h3,h4⟩
  ·exact h.elim
 case insert t m k x=>
  split at h
  ·rename_i e he;obtain⟨w',H',h1,h2,h3,h4⟩:=zy3 hH he (zaM hF m) (zaM hF k) (zaM hF x) h;have az:((do Instr.mapUpdate t (a.eval m) (a.eval k) (a.eval x);pure .skip):Sem Next).run P w=.ok .skip w':=by rw[Sem.run_bind,h1];rfl
   rw[az];exact⟨G,H',h2,h3,h4⟩
  ·exact h.elim
theorem zfC {o:Oper} {a:Act} {F:List AV} {K:AV→zaa→Prop} (hH:HRel B w G H) (hF:FRel w G a.tmps F) (h:aop P o F H K):OpOK P B w G K ((execOp a.eval o).run P w):=by
 unfold aop at h;split at h
 ·exact zHi hH hF h
 ·exact zHe hH hF h

end Go.Abs
namespace Go.Abs
open Go Go.RowKit

variable {fl:Bool} {wc:WM} {P:Program} {B:Nat} {w:World} {G:Gh} {H:zaa}
theorem zvO {e s b m:Nat} {x:AV} {ds:List AV} {H:zaa} {K:AV→zaa→Prop} (h:zdV e s b x m ds H K):∃ r H',(zdV e s b x m ds H λv H2=>v=r∧H2=H')∧K r H':=by
 unfold zdV at h ⊢;split at h
 ·split at h
  ·exact⟨_,_,⟨h.1,rfl,rfl⟩,h.2⟩
  ·exact h.elim
 ·split at h
  ·exact⟨_,_,⟨rfl,rfl⟩,h⟩
  ·exact⟨_,_,⟨h.1,rfl,rfl⟩,h.2⟩
 ·exact h.elim
theorem zvQ {e s b:Nat} {x:AV} {ys:List (List AV)} {H:zaa} {K:AV→zaa→Prop} (h2:zaK e s b x ys H K):∃ r H',(zaK e s b x ys H λv H2=>v=r∧H2=H')∧K r H':=by
 unfold zaK at h2 ⊢;split at h2
 ·exact⟨_,_,⟨h2.1,rfl,rfl⟩,h2.2⟩
 ·exact⟨_,_,⟨h2.1,h2.2.1,rfl,rfl⟩,h2.2.2⟩
 ·split at h2
  ·exact⟨_,_,⟨h2.1,rfl,rfl⟩,h2.2⟩
  ·exact h2.elim
 ·split at h2
  ·exact⟨_,_,⟨rfl,rfl⟩,h2⟩
  ·exact⟨_,_,⟨h2.1,rfl,rfl⟩,h2.2⟩
 ·exact h2.elim
theorem zFa {e s b:Nat} {x y:AV} {H:zaa} {K:AV→zaa→Prop} (h:zax e s b x y H K):∃ r H',(zax e s b x y H λv H2=>v=r∧H2=H')∧K r H':=by
 unfold zax at h ⊢;split at h
 ·split at h
  ·obtain⟨r,H',h1,h2⟩:=zvO h.2;exact⟨r,H',⟨h.1,h1⟩,h2⟩
  ·exact h.elim
 ·split at h
  ·obtain⟨r,H',h1,h2⟩:=zvO h.2;exact⟨r,H',⟨h.1,h1⟩,h2⟩
  ·exact h.elim
 ·unfold zaN at h ⊢;split at h
  ·obtain⟨r,H',h1,h2⟩:=zvQ h.2;exact⟨r,H',⟨h.1,h1⟩,h2⟩
  ·obtain⟨r,H',h1,h2⟩:=zvQ h.2;exact⟨r,H',⟨h.1,h1⟩,h2⟩
  ·exact h.elim
theorem FRel.put {a:Act} {F:List AV} {d:Option Tmp} {v:Value} {av:AV} (hF:FRel w G a.tmps F) (hv:TRel w G v av):FRel w G (a.put d v).tmps (zbO F d av):=by
 cases d with
 | none=>exact hF
 | some d=>unfold FRel at *;simp only[Act.put,zbO,Array.toList_setIfInBounds];exact All2.set d hF hv
theorem FRel.ext {w':World} {G':Gh} {tm:Array Value} {F:List AV} (hF:FRel w G tm F) (he:Ext B w G w' G'):FRel w' G' tm F:=All2.mono (λ_ _=>he.trel) hF

theorem zxa {tm:Array Value} {F:List AV} {d:Nat} {x:AV} (hF:FRel w G tm F) (h:F.getD d .unk=x) (hx:x≠.unk):∃ v,tm[d]?=some v∧TRel w G v x:=by
 rw[List.getD_eq_getElem?_getD]at h;cases hd:F[d]? with
 | none=>rw[hd]at h;exact absurd h.symm hx
 | some y=>rw[hd]at h;simp at h;subst h;obtain⟨v,h1,h2⟩:=All2.get hF hd;exact⟨v,by simpa using h1,h2⟩

theorem zrG {am:Array Oper} {o:Oper} {a:Act} {F:List AV} {j d:Nat} {want b:Bool} (hF:FRel w G a.tmps F) (hg:o.guard=some (j,want)) (hd:(am[j]?).bind (·.dst)=some d)
  (hb:F.getD d .unk=.bool b):Region.wanted o (yielded am a.tmps)=(b == want):=by
 obtain⟨v,h1,h2⟩:=zxa hF hb (by simp);have h2:v=.bool b:=h2;subst h2;simp[Region.wanted,hg,yielded,hd,h1]
theorem zzV {am:Array Oper} {o:Oper} {a:Act} {F:List AV} {j d:Nat} {want:Bool} (hF:FRel w G a.tmps F) (hg:o.guard=some (j,want)) (hd:(am[j]?).bind (·.dst)=some d)
  (hb:F.getD d .unk=.tup []):Region.wanted o (yielded am a.tmps)=false:=by
 obtain⟨v,h1,h2⟩:=zxa hF hb (by simp);obtain⟨vs,rfl,_⟩:=h2;simp[Region.wanted,hg,yielded,hd,h1]

theorem zrA:TRel w G undef (.tup []):=⟨#[],rfl,trivial⟩

theorem zhZ {o:Oper} {a:Act} {F:List AV} {K:AV→zaa→Prop} {K':Act→World→Prop} {Q:Exit→Act→World→Prop} (hF:FRel w G a.tmps F)
  (h:OpOK P B w G K ((execOp a.eval o).run P w))
  (hK:∀ v av w' G' H',Ext B w G w' G'→HRel B w' G' H'→TRel w' G' v av→K av H'→K' (a.put o.dst v) w'):o.wp P a w K' Q:=by
 unfold Oper.wp;generalize (execOp a.eval o).run P w=r at *;cases r with
 | halt x w'=>cases x <;> exact h.elim
 | ok n w'=>
  cases n <;> simp only[OpOK]at h <;> simp only[Oper.upon]
  case value v=>obtain⟨av,G',H',h1,h2,h3,h4⟩:=h;exact hK v av w' G' H' h1 h2 h3 h4
  case skip=>obtain⟨G',H',h1,h2,h4⟩:=h;exact hK undef (.tup []) w' G' H' h1 h2 zrA h4
  case enter f vs=>obtain⟨rfl,hc⟩:=h;refine hc.mono λe w'' he=>?_;obtain⟨v,r,H',G',rfl,h1,h2,h3,h4⟩:=he;exact hK v r w'' G' H' h1 h2 h3 h4

theorem HRel.newB (h:HRel B w G H) (vs:Array Value) (t:TypeId) (cs:List AV) (hc:All2 (ARel w G) vs.toList cs) :
  Ext B w G (w.alloc (.cells vs t)) ⟨G.L,G.μ++[.blk w.heap.size]⟩∧HRel B (w.alloc (.cells vs t)) ⟨G.L,G.μ++[.blk w.heap.size]⟩ (H++[.bld t cs]):=by
 obtain⟨he,hH⟩:=h.new vs t cs hc;refine⟨he,by simpa using hH.len,λid ab gi h1 h2=>?_,hH.dist,hH.fresh,hH.lt,hH.base⟩;by_cases ap:id<H.length
 ·rw[List.getElem?_append_left ap]at h1;exact hH.ok id ab gi (by rw[List.getElem?_append_left ap];exact h1) h2
 ·have aZ:=(List.getElem?_eq_some_iff.1 h1).1;simp at aZ;obtain rfl:id=H.length:=by omega
  simp at h1;subst h1;have hg:gi=.blk w.heap.size:=by simp only[]at h2;rw[←h.len]at h2;simpa using h2.symm
  subst hg;exact⟨h.base,h.fresh _ (Nat.le_refl _),vs,zdr _,hc.mono λ_ _=>he.arel⟩
theorem zHj {o:Oper} {a:Act} {F:List AV} {K:AV→zaa→Prop} (hH:HRel B w G H) (hF:FRel w G a.tmps F) (h:zg6 P o F H K):OpOK P B w G K ((execOp a.eval o).run P w):=by
 unfold zg6 at h;split at h
 ·rename_i t bA;split at h
  ·split at h
   ·rename_i z hz;obtain⟨he,aW⟩:=hH.newB z.cells t (zbs z) (zdR z);have az:(execOp a.eval o).run P w=.ok (.value (.pointer (some ⟨w.heap.size,0,none⟩))) (w.alloc (.cells z.cells t)):=by obtain⟨dst,op,type,pos,after,guard⟩:=o;simp only[]at bA;subst bA;simp[execOp,Instr.alloc,ze4 hz,newVar,newRow,World.alloc_eq]
    rw[az];refine⟨.ptr H.length 0,_,_,he,aW,⟨w.heap.size,?_,rfl⟩,h⟩;rw[←hH.len];simp
   ·exact h.elim
  ·exact zfC hH hF h
 ·exact zfC hH hF h

theorem zII {t e:TypeId} {size len:Nat} {z:Value} {af:Array (Nat × Value)} {ak:List (Nat × AV)} {K:AV→zaa→Prop} (hH:HRel B w G H) (he:za9 P t=some e) (hn:zaW P e=some size)
  (hz:zbu P e=some z) (gH:(zbs z).length=size)
  (hr:All2 (λ(p:Nat × Value) (q:Nat × AV)=>p.1=q.1∧TRel w G p.2 q.2) af.toList ak) (h:zoE e size len ak H K) :
  OpOK P B w G K (((do pure (.value (←Instr.buildSlice t len af))):Sem Next).run P w):=by
 unfold zoE at h;split at h
 ·rename_i x;obtain⟨dm,hk⟩:=h;have dA:=zdR (w:=w) (G:=G) z;have dB:z.cells.size=1:=by have:=dA.length;simp at this;omega
  obtain⟨v,rfl,hv⟩:∃ v,af=#[(0,v)]∧ARel w G v x:=by
   match af,hr with
   | ⟨[(i,v)]⟩,⟨⟨h1,h2⟩,_⟩=>have h1:i=0:=h1;subst h1;refine⟨v,rfl,?_⟩;cases x <;> first | exact h2 | (simp[AV.oneK]at dm;done)
   | ⟨[]⟩,hr=>exact hr.elim
   | ⟨_::_::_⟩,hr=>exact hr.2.elim
  have bx:v.oneCell'=true:=ARel.oneCell (λhu=>by subst hu;simp[AV.oneK]at dm) hv;have l6:v.cells=#[v]:=by cases v <;> first | rfl | (simp[Value.oneCell']at bx)
  have az:((do pure (.value (←Instr.buildSlice t 1 #[(0,v)]))):Sem Next).run P w=.ok (.value (.slice (some ⟨w.heap.size,0,none⟩) 1 1)) (w.alloc (.cells #[v] e)):=by
   have dX:Instr.fill (λi=>some (i*1,1)) ((Array.range (1*1)).map λx=>z.cells[x % z.cells.size]!) [(0,v)]=some #[v]:=by
    have hs:((Array.range (1*1)).map λx=>z.cells[x % z.cells.size]!).size=1:=by simp
    unfold Instr.fill;simp only[l6,hs];simp[Instr.fill];refine Array.ext (by simp) λi h1 h2=>?_;have:i=0:=by simp at h2;omega
    subst this;simp
   simp only[Nat.mul_one]at dX;simp[Instr.buildSlice,zaY (zb9 he),zbW hn,ze4 hz,dX,newRow,World.alloc_eq]
  obtain⟨hE,ei⟩:=hH.newVec0 e 1;have ar:(H++[.vec e 1 0 []])[H.length]?=some (.vec e 1 0 []):=by simp
  have bv:GrB w (w.alloc (.cells #[v] e)) none:=⟨Nat.le_refl _,rfl,rfl,rfl,by simp,λk hk _=>zcK (w:=w) hk⟩;have au:(w.alloc (.cells #[v] e)).ownsRow B e 1 (.slice (some ⟨w.heap.size,0,none⟩) (0+1) 1) (0+1) ([]++[v]):=
   ⟨rfl,.inr ⟨w.heap.size,1,#[v],rfl,hH.base,zdr (w:=w) _,by omega,by simp[maxLen],rfl,rfl⟩⟩
  obtain⟨G',ey,aW,hT⟩:=zig (n:=0) (m:=1) (cs:=[]) (xs:=[]) (news:=[v]) (ds:=[x]) ei ar (by rw[←hH.len];simp) (World.ownsRow_nil w B e 1) au (.inr ⟨rfl,bv⟩) (by omega) trivial ⟨hE.arel hv,trivial⟩;rw[az];refine⟨_,G',_,hE.trans ey,aW,hT,?_⟩;simpa using hk
 ·rename_i x y;obtain⟨⟨bH,hy1⟩,hk⟩:=h;have dA:=zdR (w:=w) (G:=G) z;have dB:z.cells.size=2:=by have:=dA.length;simp at this;omega
  obtain⟨u,v,rfl,hu,hv⟩:∃ u v,af=#[(0,.agg #[u,v])]∧ARel w G u x∧ARel w G v y:=by
   match af,hr with
   | ⟨[(i,p)]⟩,⟨⟨h1,h2⟩,_⟩=>
    have h1:i=0:=h1;subst h1;obtain⟨us,rfl,h3⟩:=h2
    match us,h3 with
    | ⟨[u,v]⟩,⟨h4,h5,_⟩=>exact⟨u,v,rfl,h4,h5⟩
    | ⟨[]⟩,h3=>exact h3.elim
    | ⟨[_]⟩,h3=>exact h3.2.elim
    | ⟨_::_::_::_⟩,h3=>exact h3.2.2.elim
   | ⟨[]⟩,hr=>exact hr.elim
   | ⟨_::_::_⟩,hr=>exact hr.2.elim
  have az:((do pure (.value (←Instr.buildSlice t 1 #[(0,.agg #[u,v])]))):Sem Next).run P w=.ok (.value (.slice (some ⟨w.heap.size,0,none⟩) 1 1)) (w.alloc (.cells #[u,v] e)):=by
   have dX:Instr.fill (λi=>some (i*2,2)) ((Array.range (1*2)).map λx=>z.cells[x % z.cells.size]!) [(0,.agg #[u,v])]=some #[u,v]:=by
    have hs:((Array.range (1*2)).map λx=>z.cells[x % z.cells.size]!).size=2:=by simp
    have l6:(Value.agg #[u,v]).cells=#[u,v]:=rfl;unfold Instr.fill;simp only[l6,hs];simp[Instr.fill];refine Array.ext (by simp) λi h1 h2=>?_;have:i=0∨i=1:=by simp at h2;omega
    rcases this with rfl | rfl <;> simp
   simp[Instr.buildSlice,zaY (zb9 he),zbW hn,ze4 hz,newRow,World.alloc_eq,Nat.one_mul]at dX ⊢;simp[dX]
  obtain⟨hE,ei⟩:=hH.newVec0 e 2;have ar:(H++[.vec e 2 0 []])[H.length]?=some (.vec e 2 0 []):=by simp
  have bv:GrB w (w.alloc (.cells #[u,v] e)) none:=⟨Nat.le_refl _,rfl,rfl,rfl,by simp,λk hk _=>zcK (w:=w) hk⟩;have au:(w.alloc (.cells #[u,v] e)).ownsRow B e 2 (.slice (some ⟨w.heap.size,0,none⟩) (0+1) 1) (0+1) ([]++[u,v]):=
   ⟨rfl,.inr ⟨w.heap.size,1,#[u,v],rfl,hH.base,zdr (w:=w) _,by omega,by simp[maxLen],rfl,rfl⟩⟩
  obtain⟨G',ey,aW,hT⟩:=zig (n:=0) (m:=1) (cs:=[]) (xs:=[]) (news:=[u,v]) (ds:=[x,y]) ei ar (by rw[←hH.len];simp) (World.ownsRow_nil w B e 2) au (.inr ⟨rfl,bv⟩) (by omega) trivial ⟨hE.arel hu,hE.arel hv,trivial⟩;rw[az];refine⟨_,G',_,hE.trans ey,aW,hT,?_⟩;simpa using hk
 ·exact h.elim
theorem zx3 {x:AV} {v:Value} {K:Bool→Prop} (hx:TRel w G v x) (h:zgh x K):∃ ad n c b,v=.slice ad n c∧b=ad.isNone∧K b:=by
 unfold zgh at h;split at h
 ·cases hx;exact⟨_,_,_,_,rfl,rfl,h⟩
 ·obtain⟨b,_,rfl⟩:=hx;exact⟨_,_,_,_,rfl,rfl,h⟩
 ·obtain⟨⟨a,cap0,rfl,hb,_⟩,_⟩:=hx;obtain⟨g,hg⟩:=hb (by omega);subst hg;exact⟨_,_,_,_,rfl,rfl,h⟩
 ·have hx:DRel w G.L v _:=hx;cases hx with
  | sl b off cap ag es vs aD=>exact⟨_,_,_,_,rfl,rfl,h⟩
 ·have hx:DRel w G.L v _:=hx;cases hx with
  | slE a cap=>exact⟨a,_,_,_,rfl,rfl,by cases a with | none=>exact h.1 | some _=>exact h.2⟩
  | sl b off cap ag es vs aD=>exact absurd rfl aD
 ·exact h.elim
theorem zI1 {op:BinOp} {t:TypeId} {xo yo:Operand} {u:Value} {x:AV} {a:Act} {K:AV→Prop} (hx:TRel w G u x) (hy:zpt yo=true) (h:zg1 (zro P t) op x K) :
  ∃ r,((do eqGuard op t xo yo u (a.eval yo);binOp op t u (a.eval yo)):Sem Value).run P w=.ok r w∧∃ av,TRel w G r av∧K av:=by
 obtain⟨ht,h⟩:=h;obtain⟨e,hu⟩:∃ e,P.underlying t=some (.slice e):=by
  unfold zro at ht;split at ht
  ·exact⟨_,by assumption⟩
  ·cases ht
 obtain rfl:yo=.const (.slice none 0 0):=by
  unfold zpt at hy;split at hy
  ·rfl
  ·cases hy
 have he:a.eval (.const (.slice none 0 0))=.slice none 0 0:=rfl;rw[he];have key:∀ ad n c,(Op.equal t (.slice ad n c) (.slice none 0 0)).run P w=.ok ad.isNone w:=λad n c=>by have hm:Op.equal t (.slice ad n c) (.slice none 0 0)=Op.equalIn (9999+1) t (.slice ad n c) (.slice none 0 0):=rfl;rw[hm];unfold Op.equalIn;cases ad <;> simp only[Sem.run_bind,zaY hu,Result.andThen_ok,Sem.run_pure,Option.isNone_none,Option.isNone_some]
 split at h
 ·obtain⟨ad,n,c,b,rfl,rfl,hk⟩:=zx3 hx h;exact⟨.bool ad.isNone,by rw[show eqGuard .eql t xo (.const (.slice none 0 0)) (.slice ad n c) (.slice none 0 0)=pure () from rfl];simp[binOp,key],.bool ad.isNone,rfl,hk⟩
 ·obtain⟨ad,n,c,b,rfl,rfl,hk⟩:=zx3 hx h;exact⟨.bool (!ad.isNone),by rw[show eqGuard .neq t xo (.const (.slice none 0 0)) (.slice ad n c) (.slice none 0 0)=pure () from rfl];simp[binOp,key],.bool (!ad.isNone),rfl,hk⟩
 ·exact h.elim
theorem zHx {w:World} {base:Nat} {e:TypeId} {size g cap n k:Nat} {xs:List Value} (h:w.ownsRow base e size (.slice (some ⟨g,0,none⟩) n cap) n xs) (hk:k≤n) :
  w.ownsRow base e size (.slice (some ⟨g,0,none⟩) k cap) k (xs.take (k*size)):=by
 obtain⟨h1,h2⟩:=h;rcases h2 with ⟨h0,_⟩ | ⟨g',cap',cur,hv,hg,hh,hn,aL,aF,br⟩
 ·cases h0
 ·cases hv;have hm:k*size≤n*size:=Nat.mul_le_mul_right _ hk;refine⟨by rw[List.length_take,h1];omega,.inr ⟨g,cap,cur,rfl,hg,hh,by omega,aL,aF,?_⟩⟩;rw[←br,List.take_take,Nat.min_eq_left hm]
theorem HRel.pop (h:HRel B w G H) {id e size n k:Nat} {cs:List AV} {v0 v:Value} (ar:H[id]?=some (.vec e size n cs)) (hμ:G.μ[id]?=some (.own v0 size n))
  (hv:(v0=.slice none 0 0∧v=.slice none 0 0∧k=0)∨∃ g cap,v0=.slice (some ⟨g,0,none⟩) n cap∧v=.slice (some ⟨g,0,none⟩) k cap) (hk:k≤n) :
  ∃ G',Ext B w G w G'∧HRel B w G' (H.set id .dead++[.vec e size k (cs.take (k*size))])∧G'.μ[H.length]?=some (.own v size k):=by
 have bj:=(List.getElem?_eq_some_iff.1 ar).1;have hml:id<G.μ.length:=by rw[h.len];exact bj
 have eB:∀ b,v.ownBlock=some b→v0.ownBlock=some b:=λb hb=>by rcases hv with ⟨rfl,rfl,_⟩ | ⟨g,cap,rfl,rfl⟩ <;> exact hb
 have aC:∀ (j:Nat) gi,(G.μ.set id (.own (.slice none 0 0) size (n+1))++[.own v size k])[j]?=some gi →
   (j≠id∧j<H.length∧G.μ[j]?=some gi)∨(j=id∧gi=.own (.slice none 0 0) size (n+1))∨(j=H.length∧gi=.own v size k):=λj gi hj=>by
  by_cases a6:j<H.length
  ·rw[List.getElem?_append_left (by rw[List.length_set,h.len];exact a6)]at hj;by_cases c9:j=id
   ·subst c9;rw[List.getElem?_set_self hml]at hj;cases hj;exact .inr (.inl ⟨rfl,rfl⟩)
   ·rw[List.getElem?_set_ne (λh=>c9 h.symm)]at hj;exact .inl ⟨c9,a6,hj⟩
  ·have fH:=(List.getElem?_eq_some_iff.1 hj).1;simp[h.len]at fH;obtain rfl:j=H.length:=by omega
   rw[List.getElem?_append_right (by simp[h.len])]at hj;simp[h.len]at hj;exact .inr (.inr ⟨rfl,hj.symm⟩)
 have he:Ext B w G w ⟨G.L,G.μ.set id (.own (.slice none 0 0) size (n+1))++[.own v size k]⟩:=by
  refine⟨Nat.le_refl _,Below.refl _ _,λ_=>Nat.le_refl _,λ_ _ _=>rfl,λj gi hj=>?_⟩;have a6:=(List.getElem?_eq_some_iff.1 hj).1;by_cases c9:j=id
  ·subst c9;rw[hμ]at hj;cases hj;exact⟨_,by rw[List.getElem?_append_left (by simpa using a6),List.getElem?_set_self a6],(show GI.le (.own v0 size n) (.own (.slice none 0 0) size (n+1)) from ⟨rfl,.inr (by omega)⟩)⟩
  ·exact⟨gi,by rw[List.getElem?_append_left (by simpa using a6),List.getElem?_set_ne (λh=>c9 h.symm)];exact hj,gi.le_refl⟩
 refine⟨_,he,⟨by simp[h.len],λj ab gi k1 k2=>?_,λj j' gi gi' b k1 k2 k3 k4=>?_,h.fresh,λj gi b k1 k2=>?_,h.base⟩,by simp[←h.len]⟩
 ·rcases aC j gi k2 with ⟨c9,a6,hj⟩ | ⟨rfl,rfl⟩ | ⟨rfl,rfl⟩
  ·rw[List.getElem?_append_left (by simpa using a6),List.getElem?_set_ne (λh=>c9 h.symm)]at k1;exact (h.ok j ab gi k1 hj).keep he (λx hx=>⟨rfl,rfl⟩)
  ·rw[List.getElem?_append_left (by simpa using bj),List.getElem?_set_self bj]at k1;cases k1;exact λb hb=>by simp[Value.ownBlock]at hb
  ·rw[List.getElem?_append_right (by simp)]at k1;simp at k1;subst k1;obtain⟨_,_,⟨xs,au,aR⟩,hL⟩:=h.ok id _ _ ar hμ;refine⟨rfl,rfl,⟨xs.take (k*size),?_,(aR.take _).mono λ_ _=>he.arel⟩,λb hb=>hL b (eB b hb)⟩;rcases hv with ⟨rfl,rfl,rfl⟩ | ⟨g,cap,rfl,rfl⟩
   ·have:=World.ownsRow_nil w B e size;simpa using this
   ·exact zHx au hk
 ·rcases aC j gi k1 with ⟨c9,a6,hj⟩ | ⟨rfl,rfl⟩ | ⟨rfl,rfl⟩ <;> rcases aC j' gi' k2 with ⟨hji',hjl',gG⟩ | ⟨rfl,rfl⟩ | ⟨rfl,rfl⟩
  ·exact h.dist j j' gi gi' b hj gG k3 k4
  ·simp[GI.block,Value.ownBlock]at k4
  ·exact (c9 (h.dist j id gi _ b hj hμ k3 (eB b k4))).elim
  ·simp[GI.block,Value.ownBlock]at k3
  ·rfl
  ·simp[GI.block,Value.ownBlock]at k3
  ·exact (hji' (h.dist j' id gi' _ b gG hμ k4 (eB b k3))).elim
  ·simp[GI.block,Value.ownBlock]at k4
  ·rfl
 ·rcases aC j gi k1 with ⟨c9,a6,hj⟩ | ⟨rfl,rfl⟩ | ⟨rfl,rfl⟩
  ·exact h.lt j gi b hj k2
  ·simp[GI.block,Value.ownBlock]at k2
  ·exact h.lt id _ b hμ (eB b k2)
theorem zI3 {t:TypeId} {size:Nat} {v hv:Value} {x hi:AV} {K:AV→zaa→Prop} (hH:HRel B w G H) (hx:TRel w G v x) (ed:TRel w G hv hi) (ht:zdE P t=some 1) (hs:(za9 P t).bind (zaW P)=some size)
  (h:zoK size x hi H K):OpOK P B w G K (((do pure (.value (←Instr.sliceAt t v none (some hv) none))):Sem Next).run P w):=by
 unfold zoK at h;split at h
 ·rename_i id n;split at h
  ·rename_i e s n' cs kk k ar;obtain⟨⟨⟨rfl,rfl⟩,cH,dm⟩,hK⟩:=h;cases ed;obtain⟨⟨ad,cap0,rfl,hcap0⟩,v',s',n'',hμ,aQ,heq⟩:=hx;obtain⟨rfl,rfl,⟨xs,au,aR⟩,hL⟩:=hH.ok id _ _ ar hμ;obtain rfl:=heq rfl;cases he:za9 P t with
   | none=>simp[he]at hs
   | some e1=>
    simp only[he,Option.bind_some]at hs;have hkn':k.toNat≤n':=by omega
    obtain⟨_,bl⟩:=au;rcases bl with ⟨h0,h00⟩ | ⟨g,cap,cur,h0,hB,hw,aL,bF,fU,bm⟩
    ·cases h0;have i7:k.toNat=0:=by omega
     have hb:=zfE (P:=P) (w:=w) (isS:=true) (len:=0) (cap:=0) (lo:=none) (hi:=some (.int kk k)) (l:=0) (h:=0) (.inr ⟨kk,k,rfl,cH,i7.symm⟩) (.inl ⟨rfl,rfl⟩) (Nat.le_refl _) (Nat.le_refl _);obtain⟨G',hE,aW,hm⟩:=hH.pop (k:=k.toNat) (v:=.slice none 0 0) ar hμ (.inl ⟨rfl,rfl,i7⟩) (by omega);have hr:(Instr.sliceAt t (.slice none 0 0) none (some (.int kk k)) none).run P w=.ok (.slice none 0 0) w:=by simp[Instr.sliceAt,Instr.slice,Sem.run_bind,zaY (zb9 he),hb,zbW hs]
     rw[Sem.run_bind,hr];refine⟨_,G',_,hE,aW,?_,hK⟩;rw[i7]at hm ⊢;exact⟨⟨none,0,rfl,λh=>absurd h (by omega),by omega⟩,_,_,0,hm,Nat.le_refl _,λ_=>rfl⟩
    ·cases h0;have hb:=zfE (P:=P) (w:=w) (isS:=true) (len:=n') (cap:=cap0) (lo:=none) (hi:=some (.int kk k)) (l:=0) (h:=k.toNat) (.inr ⟨kk,k,rfl,cH,rfl⟩) (.inl ⟨rfl,rfl⟩) (Nat.zero_le _) (by omega);obtain⟨G',hE,aW,hm⟩:=hH.pop (k:=k.toNat) (v:=.slice (some ⟨g,0,none⟩) k.toNat cap0) ar hμ (.inr ⟨g,cap0,rfl,rfl⟩) (by omega);have hr:(Instr.sliceAt t (.slice (some ⟨g,0,none⟩) n' cap0) none (some (.int kk k)) none).run P w=.ok (.slice (some ⟨g,0,none⟩) k.toNat cap0) w:=by simp[Instr.sliceAt,Instr.slice,Sem.run_bind,zaY (zb9 he),hb,zbW hs,add_lit]
     rw[Sem.run_bind,hr];refine⟨_,G',_,hE,aW,?_,hK⟩;exact⟨⟨some ⟨g,0,none⟩,cap0,rfl,λh=>⟨g,rfl⟩,by omega⟩,_,_,_,hm,Nat.le_refl _,λ_=>rfl⟩
  ·exact h.elim
 ·exact zcl hH (zre (lo:=none) (hi:=some hv) (alo:=none) (ahi:=some hi) hx trivial ⟨ed,trivial⟩ ht (λ_=>hs) h)
theorem HRel.newMade (h:HRel B w G H) (vs:Array Value) (e:TypeId) (size cap:Nat) (hs:vs.size=cap*size) (hm:cap≤maxLen) :
  Ext B w G (w.alloc (.cells vs e)) ⟨G.L,G.μ++[.own (.slice (some ⟨w.heap.size,0,none⟩) 0 cap) size 0]⟩∧HRel B (w.alloc (.cells vs e)) ⟨G.L,G.μ++[.own (.slice (some ⟨w.heap.size,0,none⟩) 0 cap) size 0]⟩ (H++[.vec e size 0 []]):=by
 have he:=Ext.alloc h (.cells vs e) G.L (λ_ _=>rfl) [.own (.slice (some ⟨w.heap.size,0,none⟩) 0 cap) size 0];refine⟨he,?_⟩;have split:∀ (id:Nat) gi,(G.μ++[.own (.slice (some ⟨w.heap.size,0,none⟩) 0 cap) size 0])[id]?=some gi→G.μ[id]?=some gi∨(id=G.μ.length∧gi=.own (.slice (some ⟨w.heap.size,0,none⟩) 0 cap) size 0):=by
  intro id gi hg;by_cases ap:id<G.μ.length
  ·rw[List.getElem?_append_left ap]at hg;exact .inl hg
  ·have aZ:=(List.getElem?_eq_some_iff.1 hg).1;simp at aZ;have:id=G.μ.length:=by omega
   subst this;simp at hg;exact .inr ⟨rfl,hg.symm⟩
 refine⟨by simp[h.len],?_,?_,?_,?_,?_⟩
 ·intro id ab gi h1 h2;rcases split id gi h2 with h2 | ⟨rfl,rfl⟩
  ·have ap:id<H.length:=by rw[←h.len];exact (List.getElem?_eq_some_iff.1 h2).1
   rw[List.getElem?_append_left ap]at h1;exact (h.ok id ab gi h1 h2).keep he (λb hb=>⟨zcK (h.lt id gi b h2 hb),rfl⟩)
  ·rw[h.len]at h1;simp at h1;subst h1;refine⟨rfl,rfl,⟨[],World.ownsRow_made w vs cap h.base hm hs,trivial⟩,λb hb=>?_⟩;simp[Value.ownBlock]at hb;subst hb;exact h.fresh _ (Nat.le_refl _)
 ·intro id id' gi gi' b h1 h2 h3 h4;rcases split id gi h1 with h1 | ⟨rfl,rfl⟩ <;> rcases split id' gi' h2 with h2 | ⟨rfl,rfl⟩
  ·exact h.dist id id' gi gi' b h1 h2 h3 h4
  ·have:=h.lt id gi b h1 h3;simp[GI.block,Value.ownBlock]at h4;omega
  ·have:=h.lt id' gi' b h2 h4;simp[GI.block,Value.ownBlock]at h3;omega
  ·rfl
 ·intro b hb;rw[zca]at hb;exact h.fresh b (by omega)
 ·intro id gi b h1 h2;rw[zca];rcases split id gi h1 with h1 | ⟨rfl,rfl⟩
  ·have:=h.lt id gi b h1 h2;omega
  ·simp[GI.block,Value.ownBlock]at h2;omega
 ·rw[zca];have:=h.base;omega
theorem zIY {t e:TypeId} {size bytes:Nat} {z:Value} {vc:Value} {c:AV} {K:AV→zaa→Prop} (hH:HRel B w G H) (he:za9 P t=some e) (hn:zaW P e=some size) (bu:zc4 P e=some bytes)
  (hz:zbu P e=some z) (h0:0<size) (gH:(zbs z).length=size) (hc:TRel w G vc c) (h:zeJ e size bytes c H K) :
  OpOK P B w G K (((do pure (.value (←Instr.makeSlice t (.int .i64 0) vc))):Sem Next).run P w):=by
 unfold zeJ at h;split at h
 ·rename_i c;cases hc;obtain⟨⟨h2,h3,h4⟩,hk⟩:=h;have dA:=zdR (w:=w) (G:=G) z;have dB:z.cells.size=size:=by have:=dA.length;simp at this;omega
  unfold zaW at hn;unfold zbu at hz;unfold zc4 at bu;cases hi:P.info? e with
  | none=>simp[hi]at hn
  | some i=>
   simp[hi]at hn hz bu;have hr:=run_make (P:=P) w t e i z (zb9 he) hi hz .i64 .i64 0 c (by omega) h2 (by rw[bu,Int.mul_comm];omega) h4;have hm:=(zpy dA (by omega) c.toNat).length;rw[hn]at hr;obtain⟨hx,aW⟩:=hH.newMade (madeCells z.cells (c.toNat*size)) e size c.toNat (by simp[madeCells]) (by simp[maxLen];omega);have az:((do pure (.value (←Instr.makeSlice t (.int .i64 0) (.int .i64 c)))):Sem Next).run P w=.ok (.value (.slice (some ⟨w.heap.size,0,none⟩) 0 c.toNat)) (w.alloc (.cells (madeCells z.cells (c.toNat*size)) e)):=by rw[Sem.run_bind,hr];rfl
   rw[az];refine⟨.ov H.length 0,_,_,hx,aW,⟨⟨_,_,rfl,(λh=>by omega),by omega⟩,.slice (some ⟨w.heap.size,0,none⟩) 0 c.toNat,size,0,?_,Nat.le_refl _,λ_=>rfl⟩,hk⟩;rw[←hH.len];simp
 ·exact h.elim
theorem zHm {o:Oper} {a:Act} {F:List AV} {K:AV→zaa→Prop} (hH:HRel B w G H) (hF:FRel w G a.tmps F) (h:zoS P o F H K):OpOK P B w G K ((execOp a.eval o).run P w):=by
 unfold zoS at h;split at h
 ·rename_i t len af bA;obtain⟨dst,op,type,pos,after,guard⟩:=o;simp only[]at bA;subst bA;simp only[execOp];split at h
  ·rename_i e he;split at h
   ·rename_i size z hs hz;split at h
    ·rename_i hb;exact zII hH he hs hz (by simpa using hb) (by simpa using zqH hF af.toList) h
    ·exact h.elim
   ·exact h.elim
  ·exact h.elim
 ·rename_i op t x y pos bA;obtain⟨dst,op0,type,pos0,after,guard⟩:=o;simp only[]at bA;subst bA;split at h
  ·rename_i hy;simp only[execOp];exact zcl hH (zI1 (a:=a) (zaM hF x) hy h)
  ·exact zfC hH hF h
 ·rename_i t l c bA;obtain⟨dst,op0,type,pos0,after,guard⟩:=o;simp only[]at bA;subst bA;split at h
  ·rename_i hl;simp only[execOp];split at h
   ·rename_i e he;split at h
    ·rename_i size bytes z hs bu hz;split at h
     ·rename_i hb;simp at hb;have cM:a.eval l=.int .i64 0:=by
       unfold zxn at hl;split at hl
       ·rfl
       ·cases hl
      rw[cM];exact zIY hH he hs bu hz hb.1 hb.2 (zaM hF c) h
     ·exact h.elim
    ·exact h.elim
   ·exact h.elim
  ·exact zfC hH hF h
 ·rename_i t x hi bA;obtain⟨dst,op0,type,pos0,after,guard⟩:=o;simp only[]at bA;subst bA;split at h
  ·rename_i ht;split at h
   ·rename_i size hs;exact zI3 hH (zaM hF x) (zaM hF hi) ht hs h
   ·exact h.elim
  ·exact h.elim
 ·exact zfC hH hF h
theorem zyI {am:Array Oper} {K:List AV→zaa→Prop} {Q:Exit→Act→World→Prop} {w0:World} {G0:Gh}
  (hQ:∀ a w G F H,Ext B w0 G0 w G→HRel B w G H→FRel w G a.tmps F→a.defers=[]→K F H→Q .normal a w) :
  ∀ (l:List Oper) (F:List AV) (H:zaa) (a:Act) (w:World) (G:Gh),Ext B w0 G0 w G→HRel B w G H→FRel w G a.tmps F→a.defers=[]→zh5 P l K F H→wpList P am Q l a w
 | [],F,H,a,w,G,hE,hH,hF,hd,h=>hQ a w G F H hE hH hF hd h
 | o::l,F,H,a,w,G,hE,hH,hF,hd,h=>by
  refine wpList_step λK' cQ=>?_;unfold zh5 at h;split at h
  ·rename_i hg;rw[if_pos (by simp[Region.wanted,hg])];exact zhZ hF (zHm hH hF h) λv av w' G' H' h1 h2 h3 h4=>
    cQ _ _ (zyI hQ l _ _ _ _ G' (hE.trans h1) h2 ((hF.ext h1).put h3) (by cases dp:o.dst <;> simpa[Act.put,dp]using hd) h4)
  ·exact h.elim
theorem zqZ {am:Array Oper} {K:List AV→zaa→Prop} {Q:Exit→Act→World→Prop} {w0:World} {G0:Gh}
  (hQ:∀ a w G F H,Ext B w0 G0 w G→HRel B w G H→FRel w G a.tmps F→a.defers=[]→K F H→Q .normal a w) :
  ∀ (l:List Oper) (F:List AV) (H:zaa) (a:Act) (w:World) (G:Gh),Ext B w0 G0 w G→HRel B w G H→FRel w G a.tmps F→a.defers=[]→ze3 P am l K F H→wpList P am Q l a w
 | [],F,H,a,w,G,hE,hH,hF,hd,h=>hQ a w G F H hE hH hF hd h
 | o::l,F,H,a,w,G,hE,hH,hF,hd,h=>by
  have go:∀ (K':Act→World→Prop),(∀ a w,wpList P am Q l a w→K' a w)→zg6 P o F H (λv H'=>ze3 P am l K (zbO F o.dst v) H')→o.wp P a w K' Q:=λK' cQ bA=>
   zhZ hF (zHj hH hF bA) λv av w' G' H' h1 h2 h3 h4=>
    cQ _ _ (zqZ hQ l _ _ _ _ G' (hE.trans h1) h2 ((hF.ext h1).put h3) (by cases dp:o.dst <;> simpa[Act.put,dp]using hd) h4)
  have skip:∀ (K':Act→World→Prop),(∀ a w,wpList P am Q l a w→K' a w)→ze3 P am l K (zbO F o.dst (.tup [])) H→K' (a.put o.dst undef) w:=λK' cQ bA=>
   cQ _ _ (zqZ hQ l _ _ _ _ G hE hH (hF.put zrA) (by cases dp:o.dst <;> simpa[Act.put,dp]using hd) bA)
  refine wpList_step λK' cQ=>?_;unfold ze3 at h;split at h
  ·rename_i hg;rw[if_pos (by simp[Region.wanted,hg])];exact go K' cQ h
  ·rename_i j want hg;split at h
   ·rename_i d ek;unfold zad zdp at h;split at h
    ·rename_i b hb;rw[zrG hF hg ek hb];unfold aIf at h;split at h
     ·rename_i hw;rw[if_pos hw];exact go K' cQ h
     ·rename_i hw;rw[if_neg hw];exact skip K' cQ h
    ·rename_i hb;rw[zzV hF hg ek hb,if_neg (by simp)];exact skip K' cQ h
    ·exact h.elim
   ·exact h.elim


theorem zFt {o:Oper} {F F':List AV} {K:AV→zaa→Prop} (h:∀ x∈o.op.operands,ev F x=ev F' x):zds P o F H K=zds P o F' H K:=by
 obtain⟨dst,op,type,pos,after,guard⟩:=o;have pairs:∀ ps:Array (Nat × Operand),(∀ x∈ps.toList.map (·.2),ev F x=ev F' x)→(ps.toList.map λp=>(p.1,ev F p.2))=(ps.toList.map λp=>(p.1,ev F' p.2)):=λps hp=>
  List.map_congr_left λp hm=>by rw[hp p.2 (List.mem_map.2 ⟨p,hm,rfl⟩)]
 cases op <;> simp only[Op.operands]at h <;> simp only[zds]
 case build t ps=>rw[pairs ps (by simpa using h)]
 case buildSlice t n ps=>rw[pairs ps (by simpa using h)]
 case makeFunc fn first caps=>
  cases fn <;> simp only[]
  rw[List.map_congr_left (l:=caps.toList) (λx hx=>h x (Array.mem_append.2 (.inr (by simpa using hx))))]
 case slice t x lo hi mx=>
  cases mx <;> simp only[]
  have hx:=h x (by simp);have dh:lo.map (ev F)=lo.map (ev F'):=by cases lo <;> simp_all
  have ed:hi.map (ev F)=hi.map (ev F'):=by cases hi <;> simp_all
  rw[hx,dh,ed]
 case call c=>
  cases hc:c.callee with
  | value f=>have hf:=h f (by simp[Call.operands,hc]);have ha:c.args.toList.map (ev F)=c.args.toList.map (ev F'):=List.map_congr_left λx hx=>h x (by simp[Call.operands,hc];exact .inr (by simpa using hx));simp only[hf,ha]
  | builtin b=>
   have ha:∀ x∈c.args.toList,ev F x=ev F' x:=λx hx=>h x (by simp[Call.operands,hc];simpa using hx);cases b <;> simp only[zeI]
   all_goals
    split
    ·first
     | (rename_i bo _
        rw[bo]at ha;simp only[List.mem_cons,List.not_mem_nil,or_false,forall_eq_or_imp,forall_eq]at ha;simp only[ha])
     | (rename_i bo
        rw[bo]at ha;simp only[List.mem_cons,List.not_mem_nil,or_false,forall_eq_or_imp,forall_eq]at ha;simp only[ha])
    ·rfl
  | invoke r m=>rfl
 all_goals (first | rfl | (simp_all;done))

theorem zFw {o:Oper} {F F':List AV} {K:AV→zaa→Prop} (h:∀ x∈o.op.operands,ev F x=ev F' x):zeL P o.op F H K=zeL P o.op F' H K:=by
 obtain⟨dst,op,type,pos,after,guard⟩:=o;cases op <;> simp only[Op.operands]at h <;> simp only[zeL]
 all_goals (first | rfl | (simp_all;done))
theorem zFx {o:Oper} {F F':List AV} {K:AV→zaa→Prop} (h:∀ x∈o.op.operands,ev F x=ev F' x):aop P o F H K=aop P o F' H K:=by unfold aop;rw[zFw h,zFt h]
theorem zFv {o:Oper} {F F':List AV} {K:AV→zaa→Prop} (h:∀ x∈o.op.operands,ev F x=ev F' x):zbm fl P o F H K=zbm fl P o F' H K:=by
 unfold zbm;split
 ·rename_i t a bA;rw[h a (by rw[bA];simp[Op.operands])]
 ·exact zFx h
theorem zFu {o:Oper} {F:List AV} {K:AV→zaa→Prop} (h:zbm fl P o F H K):aop P o F H K:=by
 obtain⟨dst,op,type,pos,after,guard⟩:=o;unfold zbm at h;cases op <;> (try simp only[]at h) <;> (try exact h)
 simp only[aop,isM,zds];split at h
 ·rename_i g n hg hn;cases fl with
  | true=>exact h
  | false=>
   unfold zoH zal at h;simp only[]at h;split at h
   ·exact h.elim
   ·exact h
 ·exact h.elim

theorem zyb {o:Oper} (ho:opF o.op=true) {F:List AV} {r:AV} {H H':zaa} (h:zbm fl P o F H λv H2=>v=r∧H2=H):zbm fl P o F H' λv H2=>v=r∧H2=H':=by
 obtain⟨dst,op,type,pos,after,guard⟩:=o;cases op <;> simp only[opF,Bool.false_eq_true]at ho <;> simp only[zbm,aop,isM,zds,and_true]at h ⊢
 all_goals first
  | exact h
  | skip
 case call c=>
  cases hc:c.callee with
  | value f=>simp[hc]at ho
  | invoke r m=>simp[hc]at ho
  | builtin b=>
   cases b <;> simp[hc]at ho
   simpa[hc,zeI]using h
 case makeFunc fn first caps=>cases fn <;> simp only[]at h ⊢ <;> try exact h
 case slice t x lo hi mx=>cases mx <;> simp only[]at h ⊢ <;> exact h

theorem zHl {o:Oper} (ho:opW .n o.op=true) {F:List AV} {H:zaa} {K:AV→zaa→Prop} (h:zbm fl P o F H K):∃ v H',(zbm fl P o F H λv2 H2=>v2=v∧H2=H')∧K v H':=by
 obtain⟨dst,op,type,pos,after,guard⟩:=o;cases op <;> simp only[opW,Bool.false_eq_true]at ho <;> simp only[zbm,aop,isM,zds,zeL]at h ⊢
 case alloc t=>
  split at h
  ·exact⟨_,_,⟨rfl,rfl⟩,h⟩
  ·exact h.elim
 case box t x=>
  unfold zaq at h ⊢;split at h
  ·exact⟨_,_,⟨rfl,rfl⟩,h⟩
  ·exact h.elim
 case store t x y=>
  split at h
  ·simp only[zeK]at h ⊢;split at h
   ·split at h
    ·exact⟨_,_,⟨h.1,rfl,rfl⟩,h.2⟩
    ·exact h.elim
   ·split at h
    ·exact⟨_,_,⟨h.1,rfl,rfl⟩,h.2⟩
    ·exact h.elim
   ·exact h.elim
  ·exact h.elim
 case makeSlice t l c=>
  split at h
  ·split at h
   ·unfold zba at h ⊢;split at h
    ·exact⟨_,_,⟨h.1,rfl,rfl⟩,h.2⟩
    ·exact h.elim
   ·exact h.elim
  ·exact h.elim
 case makeMap t r=>
  split at h
  ·exact⟨_,_,⟨rfl,rfl⟩,h⟩
  ·exact h.elim
 case mapUpdate t m k x=>
  split at h
  ·unfold zcU at h ⊢;split at h
   ·split at h
    ·split at h
     ·exact h.elim
     ·exact⟨_,_,⟨rfl,rfl⟩,h⟩
    ·exact h.elim
   ·exact h.elim
  ·exact h.elim
 case insert t m k x=>
  split at h
  ·unfold zcU at h ⊢;split at h
   ·split at h
    ·split at h
     ·exact h.elim
     ·exact⟨_,_,⟨rfl,rfl⟩,h⟩
    ·exact h.elim
   ·exact h.elim
  ·exact h.elim
 case call c=>
  cases hc:c.callee with
  | value f=>simp[hc,WM.on]at ho
  | invoke r m=>simp[hc]at ho
  | builtin b=>
   cases b <;> simp[hc]at ho
   case append=>
    simp only[hc,zeI]at h ⊢;split at h
    ·split at h
     ·split at h
      ·obtain⟨r,H',k1,k2⟩:=zFa h;exact⟨r,H',k1,k2⟩
      ·exact h.elim
     ·exact h.elim
    ·exact h.elim
   case copy=>
    simp only[hc,zeI]at h ⊢;split at h
    ·split at h
     ·unfold zgY at h ⊢;split at h
      ·split at h
       ·rename_i aR;exact⟨_,_,⟨h.1,rfl,rfl⟩,h.2⟩
       ·exact h.elim
      ·exact h.elim
     ·exact h.elim
    ·exact h.elim

def TrOK (fl:Bool) (P:Program) (am:Array Oper) (H:zaa) (F:List AV) (o:Oper) (r:AV) (H':zaa):Prop:=
 match o.guard with
 | none=>zbm fl P o F H λv H2=>v=r∧H2=H'
 | some (j,want)=>∃ d,(am[j]?).bind (·.dst)=some d ∧
   ((∃ b,F.getD d .unk=.bool b∧(b == want)=true∧zbm fl P o F H λv H2=>v=r∧H2=H') ∨
    (∃ b,F.getD d .unk=.bool b∧(b == want)=false∧r=.tup []∧H'=H)∨(F.getD d .unk=.tup []∧r=.tup []∧H'=H))

theorem TrOK.congr {am:Array Oper} {F F':List AV} {o:Oper} {r:AV} {H':zaa} (h:∀ s∈zes am o,F.getD s .unk=F'.getD s .unk) (ht:TrOK fl P am H F o r H'):TrOK fl P am H F' o r H':=by
 have l7:∀ x∈o.op.operands,ev F x=ev F' x:=λx hx=>by
  cases x with
  | tmp t=>exact h t (by simp only[zes,List.mem_append,List.mem_filterMap];exact .inl ⟨.tmp t,by simpa using hx,rfl⟩)
  | _=>rfl
 have bA:(zbm fl P o F H λv H2=>v=r∧H2=H')=zbm fl P o F' H λv H2=>v=r∧H2=H':=zFv l7;unfold TrOK at *;split at ht
 ·rw[←bA];exact ht
 ·rename_i j want hg;obtain⟨d,hd,ht⟩:=ht;have hs:=h d (by simp[zes,hg,hd]);refine⟨d,hd,?_⟩;rw[←hs,←bA];exact ht

theorem TrOK.free {am:Array Oper} {F:List AV} {o:Oper} {r:AV} {H H':zaa} (ho:opF o.op=true) (ht:TrOK fl P am H F o r H):TrOK fl P am H' F o r H':=by
 unfold TrOK at *;split at ht
 ·exact zyb ho ht
 ·obtain⟨d,hd,ht⟩:=ht;refine⟨d,hd,?_⟩;rcases ht with ⟨b,h1,h2,h3⟩ | ⟨b,h1,h2,h3,_⟩ | ⟨h1,h2,_⟩
  ·exact .inl ⟨b,h1,h2,zyb ho h3⟩
  ·exact .inr (.inl ⟨b,h1,h2,h3,rfl⟩)
  ·exact .inr (.inr ⟨h1,h2,rfl⟩)

inductive TrL (fl:Bool) (wc:WM) (P:Program) (am:Array Oper):List Oper→List AV→zaa→List AV→List zaa→List AV→zaa→Prop
 | nil (F:List AV) (H:zaa):TrL fl wc P am [] F H [] [] F H
 | cons {o:Oper} {os:List Oper} {F rs Fn:List AV} {r:AV} {H H' Hn:zaa} {hs:List zaa} (h:TrOK fl P am H F o r H') (hw:opW wc o.op=false→H'=H) (hx:opC wc o.op=true→∀ J,TrOK fl P am (H++J) F o r (H++J)) (bv:opG wc o.op=true→GrowA H H') (t:TrL fl wc P am os (zbO F o.dst r) H' rs hs Fn Hn):TrL fl wc P am (o::os) F H (r::rs) (H'::hs) Fn Hn

theorem zwS {o:Oper} {gr:Bool} (ho:opW wc o.op=true) (hg:wc=.n→gr=false) {F:List AV} {H:zaa} {K:AV→zaa→Prop} (h:zdJ wc gr H (zbm fl P o F H) K):∃ v H',(zbm fl P o F H λv2 H2=>v2=v∧H2=H')∧(gr=true→GrowA H H')∧K v H':=by
 cases wc with
 | n=>obtain⟨v,H',h1,h2⟩:=zHl ho h;exact⟨v,H',h1,(λh=>by rw[hg rfl]at h;cases h),h2⟩
 | w=>exact h
 | g=>exact h
 | c=>exact h
theorem zyc (op:Op):opG .n op=false:=by
 cases op <;> try rfl
 rename_i c;cases hc:c.callee <;> simp[opG,hc,WM.gr]
theorem zHh {op:Op} (h:opW wc op=false):opG wc op=false:=by
 cases op <;> try rfl
 rename_i c;cases hc:c.callee with
 | value f=>cases wc <;> simp[opW,opG,hc,WM.on,WM.gr]at h ⊢
 | builtin b=>simp[opG,hc]
 | invoke r m=>simp[opG,hc]
theorem zHg {op:Op} (h:opC wc op=true):opW wc op=false:=by
 cases op <;> simp only[opC,Bool.false_eq_true]at h
 rename_i c;cases hc:c.callee with
 | value f=>simpa[opW,hc]using h
 | builtin b=>simp[hc]at h
 | invoke r m=>simp[hc]at h
theorem zc2 {am:Array Oper} {K:List AV→zaa→Prop}:∀ (l:List Oper) (F:List AV) (H:zaa),zcR fl wc P am l K F H→∃ rs hs Fn Hn,TrL fl wc P am l F H rs hs Fn Hn∧K Fn Hn
 | [],F,H,h=>⟨[],[],F,H,.nil F H,h⟩
 | o::l,F,H,h=>by
  unfold zcR at h;have noC:∀ {p:Prop},opC wc o.op=false→opC wc o.op=true→p:=λh1 h2=>by rw[h1]at h2;cases h2
  have noG:∀ {p:Prop},opW wc o.op=false→opG wc o.op=true→p:=λh1 h2=>by rw[zHh h1]at h2;cases h2
  have noW:∀ {p:Prop},opW wc o.op=true→opC wc o.op=true→p:=λh1 h2=>by rw[zHg h2]at h1;cases h1
  split at h
  ·rename_i hg;split at h
   ·rename_i hw;split at h
    ·rename_i hc;obtain⟨r,h1,h2⟩:=h;obtain⟨rs,hs,Fn,Hn,h3,h4⟩:=zc2 l _ _ h2;exact⟨r::rs,H::hs,Fn,Hn,.cons (by unfold TrOK;rw[hg];exact h1) (λ_=>rfl) (noC hc) (noG hw) h3,h4⟩
    ·rename_i hc;obtain⟨r,h1,h2⟩:=h;obtain⟨rs,hs,Fn,Hn,h3,h4⟩:=zc2 l _ _ h2;have hx:∀ J,TrOK fl P am (H++J) F o r (H++J):=λJ=>by unfold TrOK;rw[hg];exact h1 J
     exact⟨r::rs,H::hs,Fn,Hn,.cons (by have:=hx [];rwa [List.append_nil]at this) (λ_=>rfl) (λ_=>hx) (noG hw) h3,h4⟩
   ·rename_i hw;obtain⟨r,H',h1,bv,h2⟩:=zwS hw (λe=>by rw[e];exact zyc _) h;obtain⟨rs,hs,Fn,Hn,h3,h4⟩:=zc2 l _ _ h2;exact⟨r::rs,H'::hs,Fn,Hn,.cons (by unfold TrOK;rw[hg];exact h1) (λh0=>by rw[hw]at h0;cases h0) (noW hw) bv h3,h4⟩
  ·rename_i j want hg;split at h
   ·rename_i d hd;have yes:∀ b,F.getD d .unk=.bool b→(b == want)=true→∀ {H1 H2:zaa} {r:AV},(zbm fl P o F H1 λv H3=>v=r∧H3=H2)→TrOK fl P am H1 F o r H2:=λb hb dQ _ _ _ h1=>by unfold TrOK;rw[hg];exact⟨d,hd,.inl ⟨b,hb,dQ,h1⟩⟩
    have no:∀ b,F.getD d .unk=.bool b→(b == want)=false→∀ H1:zaa,TrOK fl P am H1 F o (.tup []) H1:=λb hb dQ H1=>by unfold TrOK;rw[hg];exact⟨d,hd,.inr (.inl ⟨b,hb,dQ,rfl,rfl⟩)⟩
    have nil:F.getD d .unk=.tup []→∀ H1:zaa,TrOK fl P am H1 F o (.tup []) H1:=λhb H1=>by unfold TrOK;rw[hg];exact⟨d,hd,.inr (.inr ⟨hb,rfl,rfl⟩)⟩
    split at h
    ·rename_i hw;split at h
     ·rename_i hc;unfold zad zdp at h;split at h
      ·rename_i b hb;unfold aIf at h;split at h
       ·rename_i dQ;obtain⟨r,h1,h2⟩:=h;obtain⟨rs,hs,Fn,Hn,h3,h4⟩:=zc2 l _ _ h2;exact⟨r::rs,H::hs,Fn,Hn,.cons (yes b hb dQ h1) (λ_=>rfl) (noC hc) (noG hw) h3,h4⟩
       ·rename_i dQ;obtain⟨rs,hs,Fn,Hn,h3,h4⟩:=zc2 l _ _ h;exact⟨.tup []::rs,H::hs,Fn,Hn,.cons (no b hb (by simpa using dQ) H) (λ_=>rfl) (noC hc) (noG hw) h3,h4⟩
      ·rename_i hb;obtain⟨rs,hs,Fn,Hn,h3,h4⟩:=zc2 l _ _ h;exact⟨.tup []::rs,H::hs,Fn,Hn,.cons (nil hb H) (λ_=>rfl) (noC hc) (noG hw) h3,h4⟩
      ·exact h.elim
     ·rename_i hc;unfold zad zdp at h;split at h
      ·rename_i b hb;unfold aIf at h;split at h
       ·rename_i dQ;obtain⟨r,h1,h2⟩:=h;obtain⟨rs,hs,Fn,Hn,h3,h4⟩:=zc2 l _ _ h2;have hx:∀ J,TrOK fl P am (H++J) F o r (H++J):=λJ=>yes b hb dQ (h1 J);exact⟨r::rs,H::hs,Fn,Hn,.cons (by have:=hx [];rwa [List.append_nil]at this) (λ_=>rfl) (λ_=>hx) (noG hw) h3,h4⟩
       ·rename_i dQ;obtain⟨rs,hs,Fn,Hn,h3,h4⟩:=zc2 l _ _ h;exact⟨.tup []::rs,H::hs,Fn,Hn,.cons (no b hb (by simpa using dQ) H) (λ_=>rfl) (λ_ J=>no b hb (by simpa using dQ) _) (noG hw) h3,h4⟩
      ·rename_i hb;obtain⟨rs,hs,Fn,Hn,h3,h4⟩:=zc2 l _ _ h;exact⟨.tup []::rs,H::hs,Fn,Hn,.cons (nil hb H) (λ_=>rfl) (λ_ J=>nil hb _) (noG hw) h3,h4⟩
      ·exact h.elim
    ·rename_i hw;unfold zad zdp at h;split at h
     ·rename_i b hb;unfold aIf at h;split at h
      ·rename_i dQ;obtain⟨r,H',h1,bv,h2⟩:=zwS hw (λe=>by rw[e];exact zyc _) h;obtain⟨rs,hs,Fn,Hn,h3,h4⟩:=zc2 l _ _ h2;exact⟨r::rs,H'::hs,Fn,Hn,.cons (yes b hb dQ h1) (λh0=>by rw[hw]at h0;cases h0) (noW hw) bv h3,h4⟩
      ·rename_i dQ;obtain⟨rs,hs,Fn,Hn,h3,h4⟩:=zc2 l _ _ h;exact⟨.tup []::rs,H::hs,Fn,Hn,.cons (no b hb (by simpa using dQ) H) (λ_=>rfl) (noW hw) (λ_=>.inl rfl) h3,h4⟩
     ·rename_i hb;obtain⟨rs,hs,Fn,Hn,h3,h4⟩:=zc2 l _ _ h;exact⟨.tup []::rs,H::hs,Fn,Hn,.cons (nil hb H) (λ_=>rfl) (noW hw) (λ_=>.inl rfl) h3,h4⟩
     ·exact h.elim
   ·exact h.elim

def frk:List Oper→List AV→List AV→Nat→List AV
 | _,_,F,0=>F
 | o::os,r::rs,F,i+1=>frk os rs (zbO F o.dst r) i
 | _,_,F,_=>F
def hpk:List zaa→zaa→Nat→zaa
 | _,H,0=>H
 | h::hs,_,i+1=>hpk hs h i
 | [],H,_=>H

theorem TrL.at {am:Array Oper} {l:List Oper} {F rs Fn:List AV} {H Hn:zaa} {hs:List zaa} (h:TrL fl wc P am l F H rs hs Fn Hn):rs.length=l.length∧frk l rs F l.length=Fn∧hpk hs H l.length=Hn ∧
  ∀ (i:Nat) o,l[i]?=some o→∃ r,rs[i]?=some r∧TrOK fl P am (hpk hs H i) (frk l rs F i) o r (hpk hs H (i+1))∧frk l rs F (i+1)=zbO (frk l rs F i) o.dst r∧(opW wc o.op=false→hpk hs H (i+1)=hpk hs H i)∧(opC wc o.op=true→∀ J,TrOK fl P am (hpk hs H i++J) (frk l rs F i) o r (hpk hs H i++J))∧(opG wc o.op=true→GrowA (hpk hs H i) (hpk hs H (i+1))):=by
 induction h with
 | nil F H=>exact⟨rfl,rfl,rfl,λi o h=>by simp at h⟩
 | cons h hw hx bv t ih=>
  obtain⟨h1,h2,kj,h3⟩:=ih;refine⟨by simp[h1],by simpa[frk]using h2,by simpa[hpk]using kj,λi o' ho=>?_⟩;cases i with
  | zero=>
   simp at ho;subst ho;rename_i os F rs Fn r H H' Hn hs;have e1:hpk (H'::hs) H 1=H':=by cases hs <;> rfl
   refine⟨_,rfl,?_,by simp[frk],λh0=>?_,λh0=>hx h0,λh0=>?_⟩
   ·rw[Nat.zero_add,e1];exact h
   ·rw[Nat.zero_add,e1];exact hw h0
   ·rw[Nat.zero_add,e1];exact bv h0
  | succ i=>obtain⟨r,h4,h5,h6,h7,h8,h9⟩:=h3 i o' (by simpa using ho);exact⟨r,by simpa using h4,by simpa[hpk,frk]using h5,by simpa[frk]using h6,by simpa[hpk]using h7,by simpa[hpk,frk]using h8,by simpa[hpk]using h9⟩

def Grow (H H':zaa):Prop:=H'=H∨(∃ x,H'=H++[x])∨∃ (id:Nat) (a b:AB),H[id]?=some a∧(∀ cs,a≠.cells cs)∧H'=H.set id b
theorem zvR {e s b:Nat} {x r:AV} {ys:List (List AV)} {H H':zaa} (h2:zaK e s b x ys H λv H2=>v=r∧H2=H'):GrowA H H':=by
 unfold zaK at h2;split at h2
 ·exact .inr (.inl ⟨_,_,_,h2.2.2.symm⟩)
 ·rename_i es id;exact .inr (.inr (.inl ⟨id,e,s,es.length,_,h2.1,h2.2.2.2.symm⟩))
 ·split at h2
  ·rename_i ar;obtain⟨⟨⟨rfl,rfl,rfl⟩,_⟩,_,he⟩:=h2;exact .inr (.inr (.inr (.inl ⟨_,_,_,_,_,_,_,ar,he.symm⟩)))
  ·exact h2.elim
 ·split at h2
  ·exact .inl h2.2.symm
  ·exact .inr (.inl ⟨_,_,_,h2.2.2.symm⟩)
 ·exact h2.elim
theorem zvP {e s b m:Nat} {x r:AV} {ds:List AV} {H H':zaa} (h:zdV e s b x m ds H λv H2=>v=r∧H2=H'):GrowA H H':=by
 unfold zdV at h;split at h
 ·split at h
  ·rename_i ar;obtain⟨⟨⟨rfl,rfl,rfl⟩,_⟩,_,he⟩:=h;exact .inr (.inr (.inr (.inl ⟨_,_,_,_,_,_,_,ar,he.symm⟩)))
  ·exact h.elim
 ·split at h
  ·exact .inl h.2.symm
  ·exact .inr (.inr (.inr (.inr ⟨_,_,_,_,h.2.2.symm⟩)))
 ·exact h.elim
theorem zFb {e s b:Nat} {x y r:AV} {H H':zaa} (h:zax e s b x y H λv H2=>v=r∧H2=H'):GrowA H H':=by
 unfold zax at h;split at h
 ·split at h
  ·exact zvP h.2
  ·exact h.elim
 ·split at h
  ·exact zvP h.2
  ·exact h.elim
 ·unfold zaN at h;split at h
  ·exact zvR h.2
  ·exact zvR h.2
  ·exact h.elim
theorem GrowA.grow {H H':zaa} (h:GrowA H H'):Grow H H':=by
 rcases h with h | ⟨e,s,n,h⟩ | ⟨id,e,s,n,n',h1,h2⟩ | ⟨id,e,s,n,n',cs,cs',h1,h2⟩ | ⟨e,s,n,cs,h⟩
 ·exact .inl h
 ·exact .inr (.inl ⟨_,h⟩)
 ·exact .inr (.inr ⟨id,_,_,h1,(λ_ h=>by cases h),h2⟩)
 ·exact .inr (.inr ⟨id,_,_,h1,(λ_ h=>by cases h),h2⟩)
 ·exact .inr (.inl ⟨_,h⟩)
theorem Grow.cells {H H':zaa} (h:Grow H H') {id:Nat} {cs:List AV} (hc:H[id]?=some (.cells cs)):H'[id]?=some (.cells cs):=by
 have ap:id<H.length:=(List.getElem?_eq_some_iff.1 hc).1;rcases h with rfl | ⟨x,rfl⟩ | ⟨id',a,b,h1,h2,rfl⟩
 ·exact hc
 ·rw[List.getElem?_append_left ap];exact hc
 ·by_cases he:id=id'
  ·subst he;rw[hc]at h1;cases h1;exact (h2 _ rfl).elim
  ·rw[List.getElem?_set_ne (λh=>he h.symm)];exact hc
theorem GrowA.cells {H H':zaa} (h:GrowA H H') {id:Nat} {cs:List AV} (hc:H'[id]?=some (.cells cs)):H[id]?=some (.cells cs):=by
 rcases h with rfl | ⟨e,s,n,rfl⟩ | ⟨id',e,s,n,n',h1,rfl⟩ | ⟨id',e,s,n,n',cs1,cs2,h1,rfl⟩ | ⟨e,s,n,cs1,rfl⟩
 ·exact hc
 ·by_cases ap:id<H.length
  ·rwa [List.getElem?_append_left ap]at hc
  ·have aZ:=(List.getElem?_eq_some_iff.1 hc).1;simp at aZ;have:id=H.length:=by omega
   subst this;simp at hc
 ·by_cases he:id=id'
  ·subst he;rw[List.getElem?_set_self (List.getElem?_eq_some_iff.1 h1).1]at hc;cases hc
  ·rwa [List.getElem?_set_ne (λh=>he h.symm)]at hc
 ·by_cases he:id=id'
  ·subst he;rw[List.getElem?_set_self (List.getElem?_eq_some_iff.1 h1).1]at hc;cases hc
  ·rwa [List.getElem?_set_ne (λh=>he h.symm)]at hc
 ·by_cases ap:id<H.length
  ·rwa [List.getElem?_append_left ap]at hc
  ·have aZ:=(List.getElem?_eq_some_iff.1 hc).1;simp at aZ;have:id=H.length:=by omega
   subst this;simp at hc
theorem zxx {o:Oper} (hl:opL o.op=true) {F:List AV} {H H':zaa} {r:AV} (he:fl=true→H'=H) (hc:∀ (id:Nat) (cs:List AV),H[id]?=some (AB.cells cs)→H'[id]?=some (AB.cells cs)) (h:zbm fl P o F H λv H2=>v=r∧H2=H):zbm fl P o F H' λv H2=>v=r∧H2=H':=by
 obtain⟨dst,op,type,pos,after,guard⟩:=o;cases op <;> simp only[opL,Bool.false_eq_true]at hl
 cases fl with
 | true=>rw[he rfl];exact h
 | false=>
 simp only[zbm,zoH,and_true]at h ⊢;split at h
 ·unfold zal at h ⊢;split at h
  ·exact h.elim
  rename_i jP;simp only[zg0]at h ⊢;split at h
  ·split at h
   ·rename_i aR;rw[hc _ _ aR];exact h
   ·exact h.elim
  ·exact h
  ·rename_i l7;exact (jP _ _ _ l7).elim
  ·exact h.elim
 ·exact h.elim
theorem TrOK.load {am:Array Oper} {F:List AV} {o:Oper} {r:AV} {H H':zaa} (hl:opL o.op=true) (he:fl=true→H'=H) (hc:∀ (id:Nat) (cs:List AV),H[id]?=some (AB.cells cs)→H'[id]?=some (AB.cells cs)) (ht:TrOK fl P am H F o r H):TrOK fl P am H' F o r H':=by
 unfold TrOK at *;split at ht
 ·exact zxx hl he hc ht
 ·obtain⟨d,hd,ht⟩:=ht;refine⟨d,hd,?_⟩;rcases ht with ⟨b,h1,h2,h3⟩ | ⟨b,h1,h2,h3,_⟩ | ⟨h1,h2,_⟩
  ·exact .inl ⟨b,h1,h2,zxx hl he hc h3⟩
  ·exact .inr (.inl ⟨b,h1,h2,h3,rfl⟩)
  ·exact .inr (.inr ⟨h1,h2,rfl⟩)
theorem zxe {o:Oper} (ho:opN o.op=true) {F:List AV} {H H':zaa} {r:AV} (h:zbm fl P o F H λv H2=>v=r∧H2=H'):Grow H H':=by
 obtain⟨dst,op,type,pos,after,guard⟩:=o;cases op <;> simp only[opN,Bool.false_eq_true]at ho <;> simp only[zbm,aop,isM,zds,zeL]at h
 case alloc t=>
  split at h
  ·exact .inr (.inl ⟨_,h.2.symm⟩)
  ·exact h.elim
 case box t x=>
  unfold zaq at h;split at h
  ·exact .inr (.inl ⟨_,h.2.symm⟩)
  ·exact h.elim
 case makeSlice t l c=>
  split at h
  ·split at h
   ·unfold zba at h;split at h
    ·exact .inr (.inl ⟨_,h.2.2.symm⟩)
    ·exact h.elim
   ·exact h.elim
  ·exact h.elim
 case makeMap t r=>
  split at h
  ·exact .inr (.inl ⟨_,h.2.symm⟩)
  ·exact h.elim
theorem zxd {o:Oper} (ho:opA .n o.op=true) {F:List AV} {H H':zaa} {r:AV} (h:zbm fl P o F H λv H2=>v=r∧H2=H'):GrowA H H':=by
 obtain⟨dst,op,type,pos,after,guard⟩:=o;cases op <;> simp only[opA,WM.gr,Bool.false_eq_true]at ho <;> simp only[zbm,aop,isM,zds]at h
 rename_i c;cases hc:c.callee with
 | value f=>simp[hc]at ho
 | invoke r m=>simp[hc]at ho
 | builtin b=>
  cases b <;> simp[hc]at ho
  simp only[hc,zeI]at h;split at h
  ·split at h
   ·split at h
    ·exact zFb h
    ·exact h.elim
   ·exact h.elim
  ·exact h.elim
theorem TrOK.growN {am:Array Oper} {F:List AV} {o:Oper} {r:AV} {H H':zaa} (ho:opN o.op=true) (ht:TrOK fl P am H F o r H'):Grow H H':=by
 unfold TrOK at ht;split at ht
 ·exact zxe ho ht
 ·obtain⟨d,hd,ht⟩:=ht;rcases ht with ⟨b,h1,h2,h3⟩ | ⟨b,h1,h2,h3,h4⟩ | ⟨h1,h2,h4⟩
  ·exact zxe ho h3
  ·exact .inl h4
  ·exact .inl h4
theorem TrOK.growA {am:Array Oper} {F:List AV} {o:Oper} {r:AV} {H H':zaa} (ho:opA .n o.op=true) (ht:TrOK fl P am H F o r H'):GrowA H H':=by
 unfold TrOK at ht;split at ht
 ·exact zxd ho ht
 ·obtain⟨d,hd,ht⟩:=ht;rcases ht with ⟨b,h1,h2,h3⟩ | ⟨b,h1,h2,h3,h4⟩ | ⟨h1,h2,h4⟩
  ·exact zxd ho h3
  ·exact .inl h4
  ·exact .inl h4

end Go.Abs
namespace Go.Abs
open Go Go.RowKit

variable {wc:WM} {P:Program} {B:Nat} {w:World} {G:Gh} {H:zaa}

structure Ord (am:Array Oper):Prop where
 edge:∀ (i:Nat) o,am[i]?=some o→∀ e∈o.after,Region.binds .any e=true→e.on<i
 dst:∀ (i j:Nat) oi oj d,am[i]?=some oi→am[j]?=some oj→i≠j→oj.dst=some d→oi.dst≠some d
 before:∀ (i j:Nat) oi oj d,am[i]?=some oi→am[j]?=some oj→j<i→oj.dst=some d→d∈zes am oi→∃ e∈oi.after,Region.binds .any e=true∧e.on=j
 behind:∀ (i j:Nat) oi oj d,am[i]?=some oi→am[j]?=some oj→i<j→oj.dst=some d→d∈zes am oi→∃ e∈oj.after,Region.binds .any e=true∧e.on=i

theorem zi7 {o:Oper} {j:Nat} (h:zd2 o j=true):∃ e∈o.after,Region.binds .any e=true∧e.on=j:=by unfold zd2 at h;rw[Array.any_eq_true']at h;obtain⟨e,he,hb⟩:=h;simp only[Bool.and_eq_true,beq_iff_eq]at hb;exact⟨e,he,hb⟩

theorem zqF {am:Array Oper} (h:zet am=true):Ord am:=by
 unfold zet at h;rw[List.all_eq_true]at h;have mem:∀ (i:Nat) o,am[i]?=some o→(o,i)∈am.toList.zipIdx:=λi o ho=>by rw[List.mem_zipIdx_iff_getElem?];simpa using ho
 have all:∀ (i j:Nat) oi oj,am[i]?=some oi→am[j]?=some oj→zqE am i j oi oj=true:=λi j oi oj hi hj=>by have h1:=h _ (mem i oi hi);simp only[Bool.and_eq_true]at h1;exact List.all_eq_true.1 h1.2 _ (mem j oj hj)
 have pair:∀ (i j:Nat) oi oj d,am[i]?=some oi→am[j]?=some oj→i≠j→oj.dst=some d→oi.dst≠some d∧(d∈zes am oi→(if j<i then zd2 oi j else zd2 oj i)=true):=by intro i j oi oj d hi hj aD hd;have h1:=all i j oi oj hi hj;unfold zqE at h1;simp only[hd,Bool.or_eq_true,beq_iff_eq,aD,false_or,Bool.and_eq_true,bne_iff_ne,Bool.not_eq_true',List.contains_eq_mem,decide_eq_false_iff_not]at h1;exact⟨h1.1,λhm=>h1.2.resolve_left (λh=>h hm)⟩
 refine⟨λi o ho e he hb=>?_,λi j oi oj d hi hj aD hd=>(pair i j oi oj d hi hj aD hd).1,λi j oi oj d hi hj ap hd hm=>?_,λi j oi oj d hi hj ap hd hm=>?_⟩
 ·have h1:=h _ (mem i o ho);simp only[Bool.and_eq_true]at h1;have h2:=Array.all_eq_true'.1 h1.1 e he;simpa[hb]using h2
 ·have:=(pair i j oi oj d hi hj (by omega) hd).2 hm;rw[if_pos ap]at this;exact zi7 this
 ·have:=(pair i j oi oj d hi hj (by omega) hd).2 hm;rw[if_neg (by omega)]at this;exact zi7 this

structure FlRel (am:Array Oper) (F0 rs:List AV) (S:Nat→Bool) (F:List AV):Prop where
 len:F.length=F0.length
 done:∀ (i:Nat) o s r,am[i]?=some o→o.dst=some s→S i=true→rs[i]?=some r→s<F0.length→F[s]?=some r
 rest:∀ s:Nat,(∀ (i:Nat) o,am[i]?=some o→o.dst=some s→S i=false)→F[s]?=F0[s]?

theorem FlRel.step {am:Array Oper} {F0 rs F:List AV} {S:Nat→Bool} {i:Nat} {o:Oper} {r:AV} (hO:Ord am) (h:FlRel am F0 rs S F) (ho:am[i]?=some o) (hr:rs[i]?=some r) :
  FlRel am F0 rs (λk=>if k=i then true else S k) (zbO F o.dst r):=by
 refine⟨by cases hd:o.dst <;> simp[zbO,h.len],λk ok s x hk hs hS hx ap=>?_,λs hs=>?_⟩
 ·by_cases bk:k=i
  ·subst bk;rw[ho]at hk;cases hk;rw[hr]at hx;cases hx;simp only[zbO,hs];exact List.getElem?_set_self (by rw[h.len];exact ap)
  ·simp only[bk,if_false]at hS;have h1:=h.done k ok s x hk hs hS hx ap;cases hd:o.dst with
   | none=>exact h1
   | some d=>have aD:d≠s:=λhe=>hO.dst i k o ok s ho hk (λh=>bk h.symm) hs (by rw[hd,he]);simp only[zbO];rw[List.getElem?_set_ne aD];exact h1
 ·have hi:=hs i o ho;have eX:o.dst≠some s:=λhd=>by have:=hi hd;simp at this
  have h1:=h.rest s (λk ok hk bY=>by
   have:=hs k ok hk bY;by_cases bk:k=i
   ·subst bk;simp at this
   ·simpa[bk]using this)
  cases hd:o.dst with
  | none=>exact h1
  | some d=>have aD:d≠s:=λhe=>eX (by rw[hd,he]);simp only[zbO];rw[List.getElem?_set_ne aD];exact h1

theorem FlRel.same {am:Array Oper} {F0 rs F F':List AV} {S:Nat→Bool} (hr:rs.length=am.size) (h:FlRel am F0 rs S F) (h':FlRel am F0 rs S F'):F=F':=by
 apply List.ext_getElem?;intro s;by_cases hw:∃ (i:Nat) (o:Oper),am[i]?=some o∧o.dst=some s∧S i=true
 ·obtain⟨i,o,h1,h2,h3⟩:=hw;by_cases ap:s<F0.length
  ·have hi:i<rs.length:=by rw[hr];exact (Array.getElem?_eq_some_iff.1 h1).1
   rw[h.done i o s rs[i] h1 h2 h3 (by simp[hi]) ap,h'.done i o s rs[i] h1 h2 h3 (by simp[hi]) ap]
  ·rw[List.getElem?_eq_none (by rw[h.len];omega),List.getElem?_eq_none (by rw[h'.len];omega)]
 ·have hn:∀ (i:Nat) o,am[i]?=some o→o.dst=some s→S i=false:=λi o h1 h2=>by
   cases hS:S i with
   | false=>rfl
   | true=>exact absurd ⟨i,o,h1,h2,hS⟩ hw
  rw[h.rest s hn,h'.rest s hn]

theorem FlRel.congr {am:Array Oper} {F0 rs F:List AV} {S S':Nat→Bool} (h:FlRel am F0 rs S F) (hS:∀ i,i<am.size→S i=S' i):FlRel am F0 rs S' F:=
 ⟨h.len,λi o s r ho hs fq=>h.done i o s r ho hs (by rw[hS i (Array.getElem?_eq_some_iff.1 ho).1];exact fq),
  λs hs=>h.rest s λi o ho hd=>by rw[hS i (Array.getElem?_eq_some_iff.1 ho).1];exact hs i o ho hd⟩

theorem zpi {fl:Bool} {am:Array Oper} {F0 rs Fn:List AV} {Hn:zaa} {hs:List zaa} (hO:Ord am) (ht:TrL fl wc P am am.toList F0 H rs hs Fn Hn):∀ i,i≤am.size→FlRel am F0 rs (λk=>decide (k<i)) (frk am.toList rs F0 i)
 | 0,_=>by
  have:frk am.toList rs F0 0=F0:=by unfold frk;cases am.toList <;> rfl
  rw[this];exact⟨rfl,λi o s r _ _ hS=>by simp at hS,λs _=>rfl⟩
 | i+1,hi=>by
  obtain⟨hl,_,_,a7⟩:=ht.at;have ho:am.toList[i]?=some am[i]:=by simp[show i<am.size by omega]
  obtain⟨r,h1,_,h3,_,_⟩:=a7 i _ ho;rw[h3];refine (FlRel.step hO (zpi hO ht i (by omega)) (i:=i) (o:=am[i]) (by simp[show i<am.size by omega]) h1).congr λk _=>?_;by_cases hk:k=i
  ·subst hk;simp
  ·simp[hk];omega

theorem zHP {am:Array Oper} {F0 rs F F':List AV} {S:Nat→Bool} {i:Nat} {o:Oper} (hO:Ord am) (hr:rs.length=am.size) (h:FlRel am F0 rs S F) (h':FlRel am F0 rs (λk=>decide (k<i)) F')
  (ho:am[i]?=some o) (hi:S i=false) (hready:∀ e∈o.after,Region.binds .any e=true→S e.on=true)
  (hclosed:∀ (j:Nat) oj,am[j]?=some oj→S j=true→∀ e∈oj.after,Region.binds .any e=true→S e.on=true):∀ s∈zes am o,F.getD s .unk=F'.getD s .unk:=by
 intro s hs;have key:F[s]?=F'[s]?:=by
  by_cases hw:∃ (j:Nat) (oj:Oper),am[j]?=some oj∧oj.dst=some s∧j≠i
  ·obtain⟨j,oj,hj,hd,aD⟩:=hw;have uniq:∀ (k:Nat) ok,am[k]?=some ok→ok.dst=some s→k=j:=λk ok hk bY=>by
    by_cases hkj:k=j
    ·exact hkj
    ·exact absurd bY (hO.dst k j ok oj s hk hj hkj hd)
   by_cases ap:j<i
   ·obtain⟨e,he,hb,gY⟩:=hO.before i j o oj s ho hj ap hd hs;have fI:=hready e he hb;rw[gY]at fI;by_cases eh:s<F0.length
    ·have a6:j<rs.length:=by rw[hr];exact (Array.getElem?_eq_some_iff.1 hj).1
     rw[h.done j oj s rs[j] hj hd fI (by simp[a6]) eh,h'.done j oj s rs[j] hj hd (by simpa using ap) (by simp[a6]) eh]
    ·rw[List.getElem?_eq_none (by rw[h.len];omega),List.getElem?_eq_none (by rw[h'.len];omega)]
   ·obtain⟨e,he,hb,gY⟩:=hO.behind i j o oj s ho hj (by omega) hd hs;have fI:S j=false:=by
     cases fI:S j with
     | false=>rfl
     | true=>have:=hclosed j oj hj fI e he hb;rw[gY,hi]at this;cases this
    rw[h.rest s (λk ok hk bY=>by rw[uniq k ok hk bY];exact fI),h'.rest s (λk ok hk bY=>by rw[uniq k ok hk bY];simpa using ap)]
  ·have da:∀ (k:Nat) ok,am[k]?=some ok→ok.dst=some s→k=i:=λk ok hk bY=>by
    by_cases bk:k=i
    ·exact bk
    ·exact absurd ⟨k,ok,hk,bY,bk⟩ hw
   rw[h.rest s (λk ok hk bY=>by rw[da k ok hk bY];exact hi),h'.rest s (λk ok hk bY=>by rw[da k ok hk bY];simp)]
 rw[List.getD_eq_getElem?_getD,List.getD_eq_getElem?_getD,key]

inductive Anc (am:Array Oper):Nat→Nat→Prop
 | one {j i:Nat} {o:Oper} {e:Edge} (ho:am[j]?=some o) (he:e∈o.after) (hb:Region.binds .any e=true) (hi:e.on=i):Anc am j i
 | more {j k i:Nat} {o:Oper} {e:Edge} (ho:am[j]?=some o) (he:e∈o.after) (hb:Region.binds .any e=true) (hk:e.on=k) (h:Anc am k i):Anc am j i

theorem Anc.closed {am:Array Oper} {S:Nat→Bool} (hc:∀ (j:Nat) oj,am[j]?=some oj→S j=true→∀ e∈oj.after,Region.binds .any e=true→S e.on=true) {j i:Nat} (h:Anc am j i):S j=true→S i=true:=by
 induction h with
 | one ho he hb hi=>intro hj;rw[←hi];exact hc _ _ ho hj _ he hb
 | more ho he hb hk h ih=>intro hj;exact ih (by rw[←hk];exact hc _ _ ho hj _ he hb)
theorem Anc.ready {am:Array Oper} {S:Nat→Bool} (hc:∀ (j:Nat) oj,am[j]?=some oj→S j=true→∀ e∈oj.after,Region.binds .any e=true→S e.on=true) {j i:Nat} {o:Oper} (ho:am[j]?=some o)
  (hr:∀ e∈o.after,Region.binds .any e=true→S e.on=true) (h:Anc am j i):S i=true:=by
 cases h with
 | one cz he hb hi=>rw[ho]at cz;cases cz;rw[←hi];exact hr _ he hb
 | more cz he hb hk h=>rw[ho]at cz;cases cz;exact h.closed hc (by rw[←hk];exact hr _ he hb)

theorem zwa (ms:List Nat):∀ (es:List Edge) (m i:Nat),Nat.testBit (zg5 ms es m) i=true→Nat.testBit m i=true∨∃ e∈es,Region.binds .any e=true∧(e.on=i∨Nat.testBit (ms.getD e.on 0) i=true)
 | [],m,i,h=>.inl h
 | e::es,m,i,h=>by
  unfold zg5 at h;rcases zwa ms es _ i h with h1 | ⟨e',kg,hb,hc⟩
  ·cases hb:Region.binds .any e with
   | false=>rw[hb]at h1;exact .inl h1
   | true=>
    rw[hb]at h1;simp only[Nat.testBit_or,Bool.or_eq_true,Nat.one_shiftLeft,Nat.testBit_two_pow,decide_eq_true_eq]at h1;rcases h1 with (h1 | h1) | h1
    ·exact .inl h1
    ·exact .inr ⟨e,by simp,hb,.inl h1⟩
    ·exact .inr ⟨e,by simp,hb,.inr h1⟩
  ·exact .inr ⟨e',by simp[kg],hb,hc⟩
theorem zoQ {am:Array Oper}:∀ (l:List Oper) (ms:List Nat),am.toList.drop ms.length=l→(∀ j i,Nat.testBit (ms.getD j 0) i=true→Anc am j i) →
  (∀ (j:Nat),(∃ o,am[j]?=some o)→∀ e∈(am[j]?.map (·.after)).getD #[],Region.binds .any e=true→e.on<j)→∀ j i,Nat.testBit ((zf8 l ms).getD j 0) i=true→Anc am j i
 | [],ms,_,h,_,j,i=>h j i
 | o::l,ms,hd,h,he,j,i=>by
  have ho:am[ms.length]?=some o:=by have:=congrArg (λx=>x[0]?) hd;simpa using this
  unfold zf8;refine zoQ l (ms++[zg5 ms o.after.toList 0]) ?_ ?_ he j i
  ·rw[List.length_append,List.length_singleton,←List.drop_drop,hd];rfl
  ·intro j i hb;by_cases hj:j<ms.length
   ·rw[List.getD_eq_getElem?_getD,List.getElem?_append_left hj,←List.getD_eq_getElem?_getD]at hb;exact h j i hb
   ·by_cases fH:j=ms.length
    ·subst fH;rw[List.getD_eq_getElem?_getD,List.getElem?_append_right (Nat.le_refl _)]at hb;simp only[Nat.sub_self,List.getElem?_cons_zero,Option.getD_some]at hb;rcases zwa ms _ _ _ hb with h1 | ⟨e,hee,kZ,hc⟩
     ·simp at h1
     ·have hee':e∈o.after:=by simpa using hee
      rcases hc with hc | hc
      ·exact .one ho hee' kZ hc
      ·exact .more ho hee' kZ rfl (h _ _ hc)
    ·rw[List.getD_eq_getElem?_getD,List.getElem?_eq_none (by simp;omega)]at hb;simp at hb
theorem zkb {am:Array Oper} (hO:Ord am) (h:zdP wc am=true) {i j:Nat} {oi oj:Oper} (hi:am[i]?=some oi) (hj:am[j]?=some oj) (ap:j<i) (hw:opW wc oi.op=true∨opW wc oj.op=true) (fi:opF oi.op=false) (fj:opF oj.op=false) (hu:okU wc oj.op oi.op=false):Anc am i j:=by
 unfold zdP at h;have mem:∀ (i:Nat) o,am[i]?=some o→(o,i)∈am.toList.zipIdx:=λi o ho=>by rw[List.mem_zipIdx_iff_getElem?];simpa using ho
 split at h
 ·rename_i hn;rw[List.any_eq_false]at hn;have hmi:oi∈am.toList:=List.mem_iff_getElem?.2 ⟨i,by simpa using hi⟩;have hmj:oj∈am.toList:=List.mem_iff_getElem?.2 ⟨j,by simpa using hj⟩;rcases hw with hw | hw
  ·exact absurd hw (hn _ hmi)
  ·exact absurd hw (hn _ hmj)
 ·have h1:=List.all_eq_true.1 (List.all_eq_true.1 h _ (mem i oi hi)) _ (mem j oj hj);have l8:(opW wc oi.op || opW wc oj.op)=true:=by rcases hw with hw | hw <;> simp[hw]
  simp only[l8,fi,fj,hu,ap,decide_true,Bool.not_true,Bool.false_or]at h1;refine zoQ am.toList [] rfl (λj i hb=>by simp at hb) ?_ i j h1;intro j ⟨o,ho⟩ e he hb;rw[ho]at he;exact hO.edge j o ho e (by simpa using he) hb

end Go.Abs
namespace Go.Abs
open Go Go.RowKit
variable {P:Program} {B:Nat} {w:World} {G:Gh} {H:zaa}
theorem zwb {α:Type} {p:α→Prop}:∀ {l:List α},zoR l p→∀ i∈l,p i
 | [],_,i,hi=>by cases hi
 | [j],h,i,hi=>by simp at hi;subst hi;exact h
 | j::k::l,h,i,hi=>by
  rcases List.mem_cons.1 hi with rfl | hi
  ·exact h.1
  ·exact zwb h.2 i hi
theorem zrI {am:Array Oper} {Q:Exit→Act→World→Prop} {i:Nat} {o:Oper} {a:Act} {K:Act→World→Prop} (ho:am[i]?=some o) (hg:o.guard=none):wpOp P am Q i K a w=(o.wp P a w K Q∨(o.asks P a w∧LetsOut Q)):=by unfold wpOp;simp only[ho];rw[if_pos (by simp[Region.wanted,hg])]
theorem zH0 {am:Array Oper} {K:List AV→zaa→Prop} {Q:Exit→Act→World→Prop} {w0:World} {G0:Gh}
  (hQ:∀ a w G F H,Ext B w0 G0 w G→HRel B w G H→FRel w G a.tmps F→a.defers=[]→K F H→Q .normal a w) :
  ∀ (n:Nat) (ae:Array Bool) (a:Act) (w:World) (G:Gh) (F:List AV) (H:zaa),Ext B w0 G0 w G→HRel B w G H→FRel w G a.tmps F→a.defers=[]→zgw P am K n ae F H→wpAny P .any am Q n ae a w:=by
 intro n;induction n with
 | zero=>
  intro ae a w G F H hE hH hF hd h;unfold zgw at h;split at h
  ·rename_i hr;exact⟨hr,hQ a w G F H hE hH hF hd h⟩
  ·exact h.elim
 | succ n ih=>
  intro ae a w G F H hE hH hF hd h;unfold zgw at h;split at h
  ·rename_i hr;exact⟨λ_=>hQ a w G F H hE hH hF hd h,λi hi=>by rw[hr]at hi;cases hi⟩
  ·rename_i i is hr;refine⟨λh0=>(by rw[hr]at h0;cases h0),λj hj=>?_⟩;rw[hr]at hj;have h1:=zwb h j hj;split at h1
   ·rename_i o ho;split at h1
    ·rename_i hg;rw[zrI ho hg];refine .inl (zhZ hF (zfC hH hF h1) λv av w' G' H' k1 k2 k3 k4=>?_);have eC:(a.put o.dst v).defers=[]:=by cases dp:o.dst <;> simpa[Act.put]using hd
     exact ih _ _ w' G' _ H' (hE.trans k1) k2 ((hF.ext k1).put k3) eC k4
    ·exact h1.elim
   ·exact h1.elim
def zkF (T:Act→World→Prop) (Q:Exit→Act→World→Prop):Exit→Act→World→Prop
 | .normal,a,w=>T a w
 | e,a,w=>Q e a w
theorem zxu {T:Act→World→Prop} {Q:Exit→Act→World→Prop} (h:LetsOut (zkF T Q)):LetsOut Q:=h
theorem zHn {o:Oper} {a:Act} {T:Act→World→Prop} {Q:Exit→Act→World→Prop} {K K':Act→World→Prop} (hk:∀ a w,K a w→K' a w) (h:o.wp P a w K (zkF T Q)):o.wp P a w K' Q:=by
 have h:=Oper.wp_mono hk h;unfold Oper.wp at *;generalize (execOp a.eval o).run P w=r at *;cases r with
 | ok n w'=>
  cases n <;> simp only[Oper.upon]at h ⊢ <;>
   first
    | exact h
    | exact Calls.mono h (λe w'' he=>by cases e <;> first | exact he | exact zxu he)
 | halt x w'=>cases x <;> simp only[Oper.upon]at h ⊢ <;> exact h
theorem zJR {am pre:Array Oper} {m t:Nat} {Q:Exit→Act→World→Prop} (hm:m+t=am.size) (dY:pre=zdQ am m) (ft:zrp am m=true) (bM:∀ (i:Nat) o,pre[i]?=some o→∀ e∈o.after,Region.binds .any e=true→e.on<i) :
  ∀ (n:Nat) (ae:Array Bool) (a:Act) (w:World),ae.size=m→ae.toList.count false=n →
   (∀ (j:Nat) oj,pre[j]?=some oj→ae.getD j false=true→∀ e∈oj.after,Region.binds .any e=true→ae.getD e.on false=true) →
   wpAny P .any pre (zkF (wpAny P .any am Q t (zgF m t)) Q) n ae a w →
   wpAny P .any am Q (n+t) (ae++(List.replicate t false).toArray) a w:=by
 have ee:pre.size=m:=by rw[dY];simp[zdQ];omega
 have same:∀ i,i<m→pre[i]?=am[i]?:=λi hi=>by rw[dY];simp[zdQ,hi]
 have hanc:∀ j i,Nat.testBit ((zf8 (am.toList.take m) []).getD j 0) i=true→Anc pre j i:=by
  intro j i hb;have e1:am.toList.take m=pre.toList:=by rw[dY];simp[zdQ]
  rw[e1]at hb;refine zoQ pre.toList [] rfl (λj i hb=>by simp at hb) ?_ j i hb;intro j ⟨o,ho⟩ e he hb;rw[ho]at he;exact bM j o ho e (by simpa using he) hb
 obtain⟨gZ,hd2⟩:(∀ o∈am.toList.drop m,∀ i,i<m→zd2 o i=true∨∃ k,k<m∧zd2 o k=true∧Anc pre k i)∧∀ o∈am.toList,o.guard=none:=by
  unfold zrp at ft;rw[Bool.and_eq_true,List.all_eq_true,List.all_eq_true]at ft;refine⟨λo ho i hi=>?_,λo ho=>by simpa using ft.2 o ho⟩;have:=ft.1 o ho;rw[List.all_eq_true]at this;have:=this i (List.mem_range.2 hi);rw[Bool.or_eq_true,List.any_eq_true]at this;rcases this with h | ⟨k,hk,h⟩
  ·exact .inl h
  ·rw[Bool.and_eq_true]at h;exact .inr ⟨k,List.mem_range.1 hk,h.1,hanc k i h.2⟩
 have bare:∀ (i:Nat) (o:Oper),am[i]?=some o→o.guard=none:=λi o ho=>hd2 o (List.mem_iff_getElem?.2 ⟨i,by simpa using ho⟩);intro n;induction n with
 | zero=>
  intro ae a w aF hc _ h;have aN:ae=(List.replicate m true).toArray:=by
   have h1:∀ b∈ae.toList,b=true:=λb hb=>by
    cases b with
    | true=>rfl
    | false=>have:=List.count_pos_iff.2 hb;omega
   have h2:ae.toList=List.replicate m true:=by rw[←aF,←Array.length_toList];exact List.eq_replicate_of_mem h1
   rw[←Array.toArray_toList (xs:=ae),h2]
  obtain⟨_,h2⟩:=h;have:ae++(List.replicate t false).toArray=zgF m t:=by rw[aN];simp[zgF]
  rw[this,Nat.zero_add];exact h2
 | succ n ih=>
  intro ae a w aF hc bQ h;have gl:∀ (i:Nat) (d:Bool),i<m→(ae++(List.replicate t false).toArray).getD i d=ae.getD i d:=λi d hi=>by simp[Array.getElem?_append,aF,hi]
  -- some operation of the first part is open
  obtain⟨k,hk,km⟩:∃ k,k<m∧ae.getD k true=false:=by
   have:false∈ae.toList:=List.count_pos_iff.1 (by omega);obtain⟨k,hk⟩:=List.mem_iff_getElem?.1 this;have ap:k<ae.size:=by have:=(List.getElem?_eq_some_iff.1 hk).1;simpa using this
   refine⟨k,by omega,?_⟩;have l9:ae[k]?=some false:=by simpa using hk
   simp[l9]
  have ready:∀ i,i∈Region.ready .any am (ae++(List.replicate t false).toArray)→i<m∧i∈Region.ready .any pre ae:=λi hi=>by
   obtain⟨h1,o,ho,he⟩:=mem_ready.1 hi;by_cases iH:i<m
   ·rw[gl i true iH]at h1;refine⟨iH,mem_ready.2 ⟨h1,o,by rw[same i iH];exact ho,λe jQ hb=>?_⟩⟩;have ap:=bM i o (by rw[same i iH];exact ho) e jQ hb;have:=he e jQ hb;rwa [gl e.on false (by omega)]at this
   ·have bp:o∈am.toList.drop m:=List.mem_iff_getElem?.2 ⟨i-m,by rw[List.getElem?_drop,show m+(i-m)=i by omega];simpa using ho⟩;have hkf2:ae.getD k false=false:=by
     have ap:k<ae.size:=by omega
     simp[ap]at km ⊢;exact km
    rcases gZ o bp k hk with hh | ⟨k',l9,hh,hA⟩
    ·obtain⟨e,jQ,hb,gY⟩:=zi7 hh;have:=he e jQ hb;rw[gY,gl k false hk,hkf2]at this;cases this
    ·obtain⟨e,jQ,hb,gY⟩:=zi7 hh;have:=he e jQ hb;rw[gY,gl k' false l9]at this;have:=Anc.closed (S:=λj=>ae.getD j false) bQ hA this;rw[hkf2]at this;cases this
  have some_ready:Region.ready .any am (ae++(List.replicate t false).toArray)≠[]:=by
   intro hr;have all:∀ i,i<m→ae.getD i false=true:=by
    intro i;induction i using Nat.strongRecOn with
    | _ i ihi=>
     intro hi;cases hS:ae.getD i false with
     | true=>rfl
     | false=>
      have hio:i<am.size:=by omega
      have ho:am[i]?=some am[i]:=by simp[hio]
      have:i∈Region.ready .any am (ae++(List.replicate t false).toArray):=by
       rw[mem_ready];refine⟨?_,am[i],ho,λe he hb=>?_⟩
       ·rw[gl i true hi];have ap:i<ae.size:=by omega
        simp[ap]at hS ⊢;exact hS
       ·have ap:=bM i am[i] (by rw[same i hi];exact ho) e he hb;rw[gl e.on false (by omega)];exact ihi e.on ap (by omega)
      rw[hr]at this;cases this
   have h1:=all k hk;have ap:k<ae.size:=by omega
   simp[ap]at km h1;rw[h1]at km;cases km
  rw[show n+1+t=(n+t)+1 by omega];refine⟨λh0=>absurd h0 some_ready,λi hi=>?_⟩;obtain⟨iH,ma⟩:=ready i hi;have h1:=h.2 i ma;obtain⟨hf1,o,ho,_⟩:=mem_ready.1 ma;have cz:am[i]?=some o:=by rw[←same i iH];exact ho
  have hg:=bare i o cz;rw[zrI ho hg]at h1;rw[zrI cz hg];have aX:(ae++(List.replicate t false).toArray).setIfInBounds i true=ae.setIfInBounds i true++(List.replicate t false).toArray:=by rw[Array.setIfInBounds_append_left (by omega)]
  have hcount:(ae.setIfInBounds i true).toList.count false=n:=by
   have bj:i<ae.size:=by omega
   have hf:ae.toList[i]'(by simpa using bj)=false:=by simp[bj]at hf1;simpa using hf1
   rw[Array.toList_setIfInBounds,List.count_set (by simpa using bj),hf];simp only[beq_self_eq_true,if_true,Bool.true_eq_false,beq_iff_eq,if_false];omega
  rcases h1 with h1 | ⟨h1,h2⟩
  ·refine .inl (zHn (λa w hk=>?_) h1);rw[aX];refine ih _ a w (by simpa using aF) hcount (λj oj hj hS e he hb=>?_) hk;obtain⟨_,o2,ho2,he2⟩:=mem_ready.1 ma;have gs:∀ x,ae.getD x false=true→(ae.setIfInBounds i true).getD x false=true:=λx hx=>by
    by_cases hxi:x=i
    ·subst hxi;have ap:x<ae.size:=by omega
     simp[ap]
    ·simp only[Array.getD_eq_getD_getElem?]at hx ⊢;rw[Array.getElem?_setIfInBounds_ne (λh=>hxi h.symm)];exact hx
   by_cases c9:j=i
   ·subst c9;rw[ho2]at hj;cases hj;exact gs _ (he2 e he hb)
   ·refine gs _ (bQ j oj hj ?_ e he hb);simp only[Array.getD_eq_getD_getElem?]at hS ⊢;rw[Array.getElem?_setIfInBounds_ne (λh=>c9 h.symm)]at hS;exact hS
  ·exact .inr ⟨h1,zxu h2⟩
end Go.Abs
namespace Go.Abs
open Go Go.RowKit

variable {fl:Bool} {wc:WM} {P:Program} {B:Nat} {w:World} {G:Gh} {H:zaa}

def inS (ae:Array Bool) (i:Nat):Bool:=ae.getD i false

theorem zpr {ae:Array Bool} {i:Nat} (hi:i<ae.size) (k:Nat):inS (ae.setIfInBounds i true) k=if k=i then true else inS ae k:=by
 unfold inS;by_cases hk:k=i
 ·subst hk;simp[hi]
 ·simp[hk,Array.getElem?_setIfInBounds_ne (λh=>hk h.symm)]

theorem zeR (n i:Nat):inS (Array.replicate n false) i=false:=by unfold inS;rw[Array.getD_eq_getD_getElem?,Array.getElem?_replicate];split <;> rfl

theorem zhY {op:Op} (h:opW wc op=true):opF op=false:=by
 cases op <;> simp only[opW,Bool.false_eq_true]at h <;> simp only[opF]
 rename_i c;cases hc:c.callee with
 | builtin b=>cases b <;> simp[hc]at h ⊢
 | value f=>rfl
 | invoke r m=>simp[hc]at h
theorem zde {op:Op} (h:opW wc op=true):opL op=false∧opC wc op=false:=by
 cases op <;> simp only[opW,Bool.false_eq_true]at h <;> first | exact⟨rfl,rfl⟩ | skip
 rename_i c;refine⟨rfl,?_⟩;cases hc:c.callee with
 | builtin b=>cases b <;> simp[hc]at h <;> simp[opC,hc]
 | value f=>simpa[opC,hc]using h
 | invoke r m=>simp[hc]at h
theorem zgq {op:Op} (h:opV op=true):opW wc op=true∧opL op=false∧opC wc op=false∧opA wc op=false∧opF op=false:=by cases op <;> simp only[opV,Bool.false_eq_true]at h <;> exact⟨rfl,rfl,rfl,rfl,rfl⟩
theorem zHk {op:Op} (h:opV op=true):opN op=true:=by cases op <;> simp only[opV,Bool.false_eq_true]at h <;> rfl
theorem zyd {op:Op} (h:opL op=true):opW wc op=false∧opF op=false∧opA wc op=false∧opC wc op=false∧opV op=false:=by cases op <;> simp only[opL,Bool.false_eq_true]at h <;> exact⟨rfl,rfl,rfl,rfl,rfl⟩
theorem zya {op:Op} (h:opC wc op=true):opW wc op=false∧opF op=false∧opL op=false∧opV op=false:=by
 cases op <;> simp only[opC,Bool.false_eq_true]at h
 rename_i c;cases hc:c.callee with
 | value f=>exact⟨by simpa[opW,hc]using h,by simp[opF,hc],rfl,rfl⟩
 | builtin b=>simp[hc]at h
 | invoke r m=>simp[hc]at h
theorem zIQ {t:TypeId} {z:Value} {id:Nat} {K:AV→zaa→Prop} (hH:HRel B w G H) (hz:zbu P t=some z) (ar:H[id]?=some .gap) (h:K (.ptr id 0) (H.set id (.cells (zbs z)))) :
  OpOK P B w G K (((do pure (.value (←Instr.alloc t true (.tuple #[])))):Sem Next).run P w):=by
 obtain⟨he,aW⟩:=hH.fill ar z.cells t (zbs z) (zdR z);have az:((do pure (.value (←Instr.alloc t true (.tuple #[])))):Sem Next).run P w=.ok (.value (.pointer (some ⟨w.heap.size,0,none⟩))) (w.alloc (.cells z.cells t)):=by simp[Instr.alloc,ze4 hz,newVar,newRow,World.alloc_eq]
 rw[az];refine⟨.ptr id 0,_,_,he,aW,⟨w.heap.size,?_,rfl⟩,h⟩;exact List.getElem?_set_self (by rw[hH.len];exact (List.getElem?_eq_some_iff.1 ar).1)

def zEY (wc:WM) (am:Array Oper) (S:Nat→Bool) (p:Nat):Prop:=∀ (i:Nat) o,am[i]?=some o→opW wc o.op=true→(S i=true↔i<p)
def zeG (fl:Bool) (wc:WM) (P:Program) (am:Array Oper) (F0 rs:List AV) (hs:List zaa) (H:zaa):Prop:=
 ∀ (i:Nat) o,am.toList[i]?=some o→∃ r,rs[i]?=some r∧TrOK fl P am (hpk hs H i) (frk am.toList rs F0 i) o r (hpk hs H (i+1))∧frk am.toList rs F0 (i+1)=zbO (frk am.toList rs F0 i) o.dst r ∧
  (opW wc o.op=false→hpk hs H (i+1)=hpk hs H i)∧(opC wc o.op=true→∀ J,TrOK fl P am (hpk hs H i++J) (frk am.toList rs F0 i) o r (hpk hs H i++J))∧(opG wc o.op=true→GrowA (hpk hs H i) (hpk hs H (i+1)))

theorem zda {am:Array Oper} {hs:List zaa} {F0 rs:List AV} (a7:zeG fl wc P am F0 rs hs H)
  {p:Nat}:∀ (q:Nat),p≤q→q≤am.size→(∀ (i:Nat) o,am[i]?=some o→opW wc o.op=true→p≤i→i<q→False)→hpk hs H q=hpk hs H p
 | 0,hp,_,_=>by rw[Nat.le_zero.1 hp]
 | q+1,hp,hq,hn=>by
  by_cases he:p=q+1
  ·rw[he]
  ·have ho:am[q]?=some am[q]:=by simp[show q<am.size by omega]
   obtain⟨r,_,_,_,h4,_⟩:=a7 q am[q] (by simp);have hw:opW wc (am[q]).op=false:=by
    cases hw:opW wc (am[q]).op with
    | false=>rfl
    | true=>exact (hn q _ ho hw (by omega) (by omega)).elim
   rw[h4 hw];exact zda a7 q (by omega) (by omega) (λi o h1 h2 h3 h4=>hn i o h1 h2 h3 (by omega))
theorem zHf {op:Op} (h:opA wc op=true):opA .n op=true∨opG wc op=true:=by
 cases op <;> simp only[opA,Bool.false_eq_true]at h
 rename_i c;cases hc:c.callee with
 | value f=>right;simpa[opG,hc]using h
 | builtin b=>left;cases b <;> simp[opA,hc]at h ⊢
 | invoke r m=>simp[hc]at h
theorem TrOK.growW {am:Array Oper} {F:List AV} {o:Oper} {r:AV} {H H':zaa} (ht:TrOK fl P am H F o r H') (hg:opG wc o.op=true→GrowA H H') (ho:opA wc o.op=true):GrowA H H':=by
 rcases zHf ho with h | h
 ·exact ht.growA h
 ·exact hg h
theorem zpo {am:Array Oper} {hs:List zaa} {F0 rs:List AV} (a7:zeG fl wc P am F0 rs hs H) {i:Nat}:∀ (q:Nat),i≤q→q≤am.size→(∀ (k:Nat) o,am[k]?=some o→opW wc o.op=true→i≤k→k<q→opA wc o.op=true∨opN o.op=true) →
  ∀ (id:Nat) (cs:List AV),(hpk hs H i)[id]?=some (AB.cells cs)→(hpk hs H q)[id]?=some (AB.cells cs)
 | 0,h1,_,_,id,cs,hc=>by rw[Nat.le_zero.1 h1]at hc;exact hc
 | q+1,h1,h2,hn,id,cs,hc=>by
  by_cases he:i=q+1
  ·rw[←he];exact hc
  ·have hq:am[q]?=some am[q]:=by simp[show q<am.size by omega]
   obtain⟨rq,_,k0,_,mc,_,md⟩:=a7 q am[q] (by simp);have h3:=zpo a7 q (by omega) (by omega) (λk o a b c d=>hn k o a b c (by omega)) id cs hc;cases ko:opW wc (am[q]).op with
   | false=>rw[mc ko];exact h3
   | true=>
    rcases hn q _ hq ko (by omega) (by omega) with ha | ha
    ·exact (k0.growW md ha).grow.cells h3
    ·exact (k0.growN ha).cells h3
theorem zxi {am:Array Oper} {hs:List zaa} {F0 rs:List AV} (a7:zeG fl wc P am F0 rs hs H) {p:Nat}:∀ (q:Nat),p≤q→q≤am.size→(∀ (k:Nat) o,am[k]?=some o→opW wc o.op=true→p≤k→k<q→opA wc o.op=true) →
  ∀ (id:Nat) (cs:List AV),(hpk hs H q)[id]?=some (AB.cells cs)→(hpk hs H p)[id]?=some (AB.cells cs)
 | 0,h1,_,_,id,cs,hc=>by rw[Nat.le_zero.1 h1];exact hc
 | q+1,h1,h2,hn,id,cs,hc=>by
  by_cases he:p=q+1
  ·rw[he];exact hc
  ·have hq:am[q]?=some am[q]:=by simp[show q<am.size by omega]
   obtain⟨rq,_,k0,_,mc,_,md⟩:=a7 q am[q] (by simp);refine zxi a7 q (by omega) (by omega) (λk o a b c d=>hn k o a b c (by omega)) id cs ?_;cases ko:opW wc (am[q]).op with
   | false=>rw[mc ko]at hc;exact hc
   | true=>exact (k0.growW md (hn q _ hq ko (by omega) (by omega))).cells hc

structure VB (am:Array Oper) (a b:Nat):Prop where
 le:a≤b
 fit:b≤am.size
 iff:∀ (i:Nat) o,am[i]?=some o→(opV o.op=true↔a≤i∧i<b)
 bare:∀ (i:Nat) o,am[i]?=some o→opV o.op=true→o.guard=none
theorem zyg {am:Array Oper} (h:zeu am=true):∃ a b,VB am a b:=by
 unfold zeu at h;have mem:∀ (i:Nat) o,am[i]?=some o→(o,i)∈am.toList.zipIdx:=λi o ho=>by rw[List.mem_zipIdx_iff_getElem?];simpa using ho
 split at h
 ·rename_i hn;rw[List.any_eq_false]at hn;have no:∀ (i:Nat) o,am[i]?=some o→opV o.op=true→False:=λi o ho hv=>hn o (List.mem_iff_getElem?.2 ⟨i,by simpa using ho⟩) hv;exact⟨0,0,Nat.le_refl _,Nat.zero_le _,λi o ho=>⟨λhv=>(no i o ho hv).elim,λhc=>by omega⟩,λi o ho hv=>(no i o ho hv).elim⟩
 ·rename_i hn;generalize am.toList.findIdx (λo=>opV o.op)=a at h;generalize am.toList.countP (λo=>opV o.op)=k at h;have key:∀ (i:Nat) o,am[i]?=some o→(opV o.op=true↔a≤i∧i<a+k)∧(opV o.op=true→o.guard=none):=λi o ho=>by have:=List.all_eq_true.1 h _ (mem i o ho);simp only[Bool.and_eq_true,beq_iff_eq,Bool.or_eq_true,Bool.not_eq_true',Option.isNone_iff_eq_none]at this;refine⟨?_,λhv=>(this.2.resolve_left (by simp[hv]))⟩;rw[this.1];simp
  by_cases bf:a+k≤am.size
  ·exact⟨a,a+k,by omega,bf,λi o ho=>(key i o ho).1,λi o ho=>(key i o ho).2⟩
  ·by_cases ha:a≤am.size
   ·refine⟨a,am.size,ha,Nat.le_refl _,λi o ho=>?_,λi o ho=>(key i o ho).2⟩;have hi:i<am.size:=(Array.getElem?_eq_some_iff.1 ho).1;rw[(key i o ho).1];constructor <;> rintro⟨_,_⟩ <;> constructor <;> omega
   ·refine⟨0,0,Nat.le_refl _,Nat.zero_le _,λi o ho=>?_,λi o ho=>(key i o ho).2⟩;have hi:i<am.size:=(Array.getElem?_eq_some_iff.1 ho).1;rw[(key i o ho).1];constructor <;> rintro⟨_,_⟩ <;> omega

def zOf (hs:List zaa) (H:zaa) (j:Nat):List AV:=match (hpk hs H (j+1))[(hpk hs H j).length]? with | some (.cells cs)=>cs | _=>[]
theorem zx1 {am:Array Oper} {hs:List zaa} {F0 rs:List AV} {a b:Nat} (a7:zeG fl wc P am F0 rs hs H) (hV:VB am a b) {j:Nat} (h1:a≤j) (h2:j<b) :
  ∃ o t z,am[j]?=some o∧o.op=.alloc t∧zbu P t=some z∧zOf hs H j=zbs z∧hpk hs H (j+1)=hpk hs H j++[.cells (zOf hs H j)]∧rs[j]?=some (.ptr (hpk hs H j).length 0):=by
 have hj:j<am.size:=by have:=hV.fit;omega
 have ho:am[j]?=some am[j]:=by simp[hj]
 have hv:=(hV.iff j _ ho).2 ⟨h1,h2⟩;obtain⟨r,hr,g7,_⟩:=a7 j am[j] (by simp);unfold TrOK at g7;rw[hV.bare j _ ho hv]at g7;simp only[]at g7;have bA:∃ t,(am[j]).op=.alloc t:=by
  revert hv
  cases (am[j]).op <;> simp[opV]
 obtain⟨t,bA⟩:=bA;simp only[zbm,aop,zds,bA,isM]at g7;split at g7
 ·rename_i z hz;obtain⟨e1,e2⟩:=g7;have k9:zOf hs H j=zbs z:=by unfold zOf;rw[←e2];simp
  exact⟨am[j],t,z,ho,bA,hz,k9,by rw[k9];exact e2.symm,by rw[hr,←e1]⟩
 ·exact g7.elim
def zcy (hs:List zaa) (H:zaa) (a b:Nat) (S:Nat→Bool):zaa:=(List.range (b-a)).map λq=>if S (a+q)=true then AB.cells (zOf hs H (a+q)) else .gap
theorem zpp {am:Array Oper} {hs:List zaa} {F0 rs:List AV} {a b:Nat} (a7:zeG fl wc P am F0 rs hs H) (hV:VB am a b):∀ m,a+m≤b→hpk hs H (a+m)=hpk hs H a++(List.range m).map λq=>AB.cells (zOf hs H (a+q))
 | 0,_=>by simp
 | m+1,hm=>by obtain⟨o,t,z,_,_,_,_,h1,_⟩:=zx1 a7 hV (j:=a+m) (by omega) (by omega);rw[show a+(m+1)=a+m+1 by omega,h1,zpp a7 hV m (by omega),List.range_succ,List.map_append,List.append_assoc];rfl
theorem zxc {am:Array Oper} {hs:List zaa} {F0 rs:List AV} {a b:Nat} (a7:zeG fl wc P am F0 rs hs H) (hV:VB am a b) {S:Nat→Bool} (h:∀ j,a≤j→j<b→S j=true):hpk hs H a++zcy hs H a b S=hpk hs H b:=by have:=zpp a7 hV (b-a) (by have:=hV.le;omega);rw[show a+(b-a)=b by have:=hV.le;omega]at this;rw[this];congr 1;apply List.map_congr_left;intro q hq;rw[if_pos (h (a+q) (by omega) (by have:=List.mem_range.1 hq;omega))]
theorem zGo {hs:List zaa} {a b:Nat} {S:Nat→Bool} (h:∀ j,a≤j→j<b→S j=false):zcy hs H a b S=List.replicate (b-a) .gap:=by
 apply List.ext_getElem?;intro q;unfold zcy;rw[List.getElem?_map];by_cases hq:q<b-a
 ·rw[List.getElem?_range hq,List.getElem?_replicate,if_pos hq];simp[h (a+q) (by omega) (by omega)]
 ·rw[List.getElem?_eq_none (by simp;omega),List.getElem?_eq_none (by simp;omega)];rfl
theorem zGp {hs:List zaa} {a b i:Nat} {S:Nat→Bool} (h1:a≤i) (h2:i<b):(zcy hs H a b S).set (i-a) (.cells (zOf hs H i))=zcy hs H a b (λk=>if k=i then true else S k):=by
 apply List.ext_getElem?;intro q;by_cases hq:q=i-a
 ·subst hq;rw[List.getElem?_set_self (by simp[zcy];omega)];unfold zcy;rw[List.getElem?_map,List.getElem?_range (by omega)];simp[show a+(i-a)=i by omega]
 ·rw[List.getElem?_set_ne (λh=>hq h.symm)];unfold zcy;rw[List.getElem?_map,List.getElem?_map];by_cases lh:q<b-a
  ·rw[List.getElem?_range lh];simp[show a+q≠i by omega]
  ·rw[List.getElem?_eq_none (by simp;omega)];rfl
theorem zGn {hs:List zaa} {a b i:Nat} {S:Nat→Bool} (h1:a≤i) (h2:i<b) (h:S i=false):(zcy hs H a b S)[i-a]?=some .gap:=by unfold zcy;rw[List.getElem?_map,List.getElem?_range (by omega)];simp[show a+(i-a)=i by omega,h]

def StOK (wc:WM) (am:Array Oper) (hs:List zaa) (H:zaa) (a b:Nat) (S:Nat→Bool) (Hc:zaa):Prop:=
 (∃ p,p≤am.size∧zEY wc am S p∧Hc=hpk hs H p∧((∀ j,a≤j→j<b→S j=false)∨(∀ j,a≤j→j<b→S j=true))) ∨
 ((∀ (k:Nat) o,am[k]?=some o→opW wc o.op=true→k<a→S k=true)∧(∀ (k:Nat) o,am[k]?=some o→opW wc o.op=true→b≤k→S k=false) ∧
   (∃ j,a≤j∧j<b∧S j=true)∧(∃ j,a≤j∧j<b∧S j=false)∧Hc=hpk hs H a++zcy hs H a b S)

theorem StOK.congr {am:Array Oper} {hs:List zaa} {a b:Nat} {S S':Nat→Bool} {Hc:zaa} (hV:VB am a b) (h:StOK wc am hs H a b S Hc) (he:∀ i,i<am.size→S i=S' i):StOK wc am hs H a b S' Hc:=by
 have bf:=hV.fit;rcases h with ⟨p,h1,h2,h3,h4⟩ | ⟨h1,h2,⟨j,iI,fH,g8⟩,⟨k,gK,fV,jR⟩,h5⟩
 ·refine .inl ⟨p,h1,λi o ho hw=>by rw[←he i (Array.getElem?_eq_some_iff.1 ho).1];exact h2 i o ho hw,h3,?_⟩;rcases h4 with h4 | h4
  ·exact .inl λj a b=>by rw[←he j (by omega)];exact h4 j a b
  ·exact .inr λj a b=>by rw[←he j (by omega)];exact h4 j a b
 ·refine .inr ⟨λk o ho hw hk=>by rw[←he k (Array.getElem?_eq_some_iff.1 ho).1];exact h1 k o ho hw hk,λk o ho hw hk=>by rw[←he k (Array.getElem?_eq_some_iff.1 ho).1];exact h2 k o ho hw hk,
   ⟨j,iI,fH,by rw[←he j (by omega)];exact g8⟩,⟨k,gK,fV,by rw[←he k (by omega)];exact jR⟩,?_⟩
  rw[h5];congr 1;apply List.map_congr_left;intro q hq;rw[he (a+q) (by have:=List.mem_range.1 hq;omega)]

section
variable {am:Array Oper} {F0 rs F:List AV} {hs:List zaa} {S:Nat→Bool} {i:Nat} {o:Oper} {r:AV} {a b:Nat} {Hc:zaa}
theorem StOK.step (bi:fl=true→∀ (k:Nat) ok,am[k]?=some ok→opA wc ok.op=false∧opN ok.op=false) (hO:Ord am) (hW:zdP wc am=true) (hV:VB am a b) (a7:zeG fl wc P am F0 rs hs H) (aT:StOK wc am hs H a b S Hc)
  (bQ:∀ (j:Nat) oj,am[j]?=some oj→S j=true→∀ e∈oj.after,Region.binds .any e=true→S e.on=true)
  (ho:am[i]?=some o) (fq:S i=false) (bM:∀ e∈o.after,Region.binds .any e=true→S e.on=true) (hr:rs[i]?=some r)
  (dD:∀ s∈zes am o,(frk am.toList rs F0 i).getD s .unk=F.getD s .unk) (eD:opV o.op=false) :
  ∃ Hc',StOK wc am hs H a b (λk=>if k=i then true else S k) Hc'∧TrOK fl P am Hc F o r Hc':=by
 have g9:i<am.size:=(Array.getElem?_eq_some_iff.1 ho).1;have bf:=hV.fit;have aQ:=hV.le;obtain⟨r',gF,g7,_,kp,hxx,_⟩:=a7 i o (by simpa using ho);rw[hr]at gF;cases gF;have bI:TrOK fl P am (hpk hs H i) F o r (hpk hs H (i+1)):=g7.congr dD;have hx:opC wc o.op=true→∀ J,TrOK fl P am (hpk hs H i++J) F o r (hpk hs H i++J):=λhc J=>(hxx hc J).congr dD;have kq:¬ (a≤i∧i<b):=λh=>by have:=(hV.iff i o ho).2 h;rw[eD]at this;cases this
 have isNew:∀ {k:Nat},a≤k→k<b→∃ ok,am[k]?=some ok∧opV ok.op=true:=λ{k} h1 h2=>by
  have hk:am[k]?=some am[k]:=by simp[show k<am.size by omega]
  exact⟨_,hk,(hV.iff k _ hk).2 ⟨h1,h2⟩⟩
 have notV:∀ {k:Nat} {ok:Oper},am[k]?=some ok→¬ (a≤k∧k<b)→opV ok.op=false:=λ{k ok} hk hn=>by
  cases hv:opV ok.op with
  | false=>rfl
  | true=>exact (hn ((hV.iff k ok hk).1 hv)).elim
 have uf:∀ {q p:Op},opL q=false→opL p=false→(opC wc q=false∨opV p=false)→(opV q=false∨opV p=false)→okU wc q p=false:=λh1 h2 h3 h4=>by unfold okU;rw[h1,h2];rcases h3 with h3 | h3 <;> rcases h4 with h4 | h4 <;> simp[h3,h4]
 -- what writes before it is done, what writes behind it is not
 have before:opF o.op=false→∀ (k:Nat) ok,am[k]?=some ok→opW wc ok.op=true→k<i→okU wc ok.op o.op=false→S k=true:=λhf k ok hk hw ap hu=>
  (zkb hO hW ho hk ap (.inr hw) hf (zhY hw) hu).ready bQ ho bM
 have behind:opF o.op=false→∀ (k:Nat) ok,am[k]?=some ok→opW wc ok.op=true→i<k→okU wc o.op ok.op=false→S k=false:=λhf k ok hk hw ap hu=>by
  cases hS:S k with
  | false=>rfl
  | true=>have:=(zkb hO hW hk ho ap (.inl hw) (zhY hw) hf hu).closed bQ hS;rw[fq]at this;cases this
 have keepS:∀ Hc0,opW wc o.op=false→StOK wc am hs H a b S Hc0→StOK wc am hs H a b (λk=>if k=i then true else S k) Hc0:=by
  intro Hc0 hw h;have other:∀ (k:Nat) ok,am[k]?=some ok→opW wc ok.op=true→k≠i:=λk ok hk aK bk=>by subst bk;rw[ho]at hk;cases hk;rw[hw]at aK;cases aK
  have otherV:∀ j,a≤j→j<b→j≠i:=λj h1 h2 c9=>by subst c9;exact kq ⟨h1,h2⟩
  rcases h with ⟨p,h1,h2,h3,h4⟩ | ⟨h1,h2,⟨j,iI,fH,g8⟩,⟨k,gK,fV,jR⟩,h5⟩
  ·refine .inl ⟨p,h1,λk ok hk aK=>by simp only[other k ok hk aK,if_false];exact h2 k ok hk aK,h3,?_⟩;rcases h4 with h4 | h4
   ·exact .inl λj x y=>by simp only[otherV j x y,if_false];exact h4 j x y
   ·exact .inr λj x y=>by simp only[otherV j x y,if_false];exact h4 j x y
  ·refine .inr ⟨λk ok hk aK i8=>by simp only[other k ok hk aK,if_false];exact h1 k ok hk aK i8,λk ok hk aK i8=>by simp only[other k ok hk aK,if_false];exact h2 k ok hk aK i8,
    ⟨j,iI,fH,by simp only[otherV j iI fH,if_false];exact g8⟩,⟨k,gK,fV,by simp only[otherV k gK fV,if_false];exact jR⟩,?_⟩
   rw[h5];congr 1;apply List.map_congr_left;intro q hq;have:=List.mem_range.1 hq;simp only[otherV (a+q) (by omega) (by omega),if_false]
 cases hf:opF o.op with
 | true=>
  have hw:opW wc o.op=false:=by
   cases hw:opW wc o.op with
   | false=>rfl
   | true=>rw[zhY hw]at hf;cases hf
  rw[kp hw]at bI;exact⟨Hc,keepS Hc hw aT,bI.free hf⟩
 | false=>
 rcases aT with ⟨p,hp,eE,rfl,kr⟩ | hII
 ·-- the heap of the text
  have stay:StOK wc am hs H a b S (hpk hs H p):=.inl ⟨p,hp,eE,rfl,kr⟩;cases hl:opL o.op with
  | true=>
   obtain⟨hw,_,me,gL,_⟩:=zyd hl;rw[kp hw]at bI;have dn:∀ (k:Nat) ok,am[k]?=some ok→opW wc ok.op=true→p≤k→k<i→opA wc ok.op=true:=λk ok hk aK aQ ap=>by
    cases hu:okU wc ok.op o.op with
    | true=>obtain⟨h1,h2⟩:=zde aK;simp only[okU,h1,h2,eD,hl,Bool.false_and,Bool.false_or,Bool.and_false,Bool.or_false,Bool.and_true]at hu;exact hu
    | false=>have:=(eE k ok hk aK).1 (before hf k ok hk aK ap hu);omega
   have up:∀ (k:Nat) ok,am[k]?=some ok→opW wc ok.op=true→i≤k→k<p→opA wc ok.op=true∨opN ok.op=true:=λk ok hk aK aQ ap=>by
    have cR:=(eE k ok hk aK).2 ap;have bk:k≠i:=by rintro rfl;rw[fq]at cR;cases cR
    cases hu:okU wc o.op ok.op with
    | true=>obtain⟨h1,h2⟩:=zde aK;simp only[okU,hl,h1,me,gL,eD,Bool.false_and,Bool.false_or,Bool.and_false,Bool.or_false,Bool.true_and,Bool.or_eq_true]at hu;exact hu
    | false=>have:=behind hf k ok hk aK (by omega) hu;rw[this]at cR;cases cR
   refine⟨hpk hs H p,keepS _ hw stay,bI.load hl (λeA=>?_) ?_⟩
   ·by_cases i9:p≤i
    ·exact (zda a7 i i9 (by omega) λk ok h1 h2 h3 h4=>by have:=dn k ok h1 h2 h3 h4;rw[(bi eA k ok h1).1]at this;cases this).symm
    ·exact zda a7 p (by omega) hp λk ok h1 h2 h3 h4=>by have:=up k ok h1 h2 h3 h4;rw[(bi eA k ok h1).1,(bi eA k ok h1).2]at this;rcases this with h | h <;> cases h
   by_cases i9:p≤i
   ·exact zxi a7 i i9 (by omega) dn
   ·exact zpo a7 p (by omega) hp up
  | false=>
   cases hc:opC wc o.op with
   | true=>
    obtain⟨hw,_,_,_⟩:=zya hc;have below:∀ (k:Nat) ok,am[k]?=some ok→opW wc ok.op=true→k<i→k<p:=λk ok hk aK ap=>
     (eE k ok hk aK).1 (before hf k ok hk aK ap (uf (zde aK).1 hl (.inl (zde aK).2) (.inr eD)))
    have above:∀ (k:Nat) ok,am[k]?=some ok→opW wc ok.op=true→i<k→¬ (a≤k∧k<b)→¬ k<p:=λk ok hk aK ap hn ku=>by have:=behind hf k ok hk aK ap (uf hl (zde aK).1 (.inr (notV hk hn)) (.inl eD));rw[(eE k ok hk aK).2 ku]at this;cases this
    refine⟨hpk hs H p,keepS _ hw stay,?_⟩;have same:(∀ (k:Nat) ok,am[k]?=some ok→opW wc ok.op=true→i≤k→k<p→False)→TrOK fl P am (hpk hs H p) F o r (hpk hs H p):=λda=>by
     have e:hpk hs H p=hpk hs H i:=by
      by_cases i9:p≤i
      ·exact (zda a7 i i9 (by omega) (λk ok hk aK h1 h2=>by have:=below k ok hk aK h2;omega)).symm
      ·exact zda a7 p (by omega) hp da
     rw[kp hw]at bI;rw[e];exact bI
    have selfW:∀ (k:Nat) ok,am[k]?=some ok→opW wc ok.op=true→k≠i:=λk ok hk aK bk=>by subst bk;rw[ho]at hk;cases hk;rw[hw]at aK;cases aK
    rcases kr with da | aN
    ·refine same λk ok hk aK h1 h2=>?_;have bk:=selfW k ok hk aK;by_cases dm:a≤k∧k<b
     ·have:=da k dm.1 dm.2;rw[(eE k ok hk aK).2 h2]at this;cases this
     ·exact above k ok hk aK (by omega) dm h2
    ·by_cases mf:i<a
     ·by_cases a8:a=b
      ·refine same λk ok hk aK h1 h2=>?_;exact above k ok hk aK (by have:=selfW k ok hk aK;omega) (by omega) h2
      ·-- all new variables are there
       obtain⟨on,gY,li⟩:=isNew (k:=b-1) (by omega) (by omega);have hbp:b≤p:=by have:=(eE (b-1) on gY (zgq li).1).1 (aN (b-1) (by omega) (by omega));omega
       have e1:hpk hs H a=hpk hs H i:=zda a7 a (by omega) (by omega) (λk ok hk aK h1 h2=>by
        have bk:=selfW k ok hk aK;exact above k ok hk aK (by omega) (by omega) (by omega))
       have e2:hpk hs H p=hpk hs H b:=zda a7 p hbp hp (λk ok hk aK h1 h2=>above k ok hk aK (by omega) (by omega) h2);rw[e2,←zxc a7 hV aN,e1];exact hx hc _
     ·refine same λk ok hk aK h1 h2=>?_;exact above k ok hk aK (by have:=selfW k ok hk aK;omega) (by omega) h2
   | false=>
    have below:∀ (k:Nat) ok,am[k]?=some ok→opW wc ok.op=true→k<i→k<p:=λk ok hk aK ap=>
     (eE k ok hk aK).1 (before hf k ok hk aK ap (uf (zde aK).1 hl (.inl (zde aK).2) (.inr eD)))
    have above:∀ (k:Nat) ok,am[k]?=some ok→opW wc ok.op=true→i≤k→¬ k<p:=λk ok hk aK aQ ku=>by
     have cR:=(eE k ok hk aK).2 ku;by_cases bk:k=i
     ·subst bk;rw[fq]at cR;cases cR
     ·have:=behind hf k ok hk aK (by omega) (uf hl (zde aK).1 (.inl hc) (.inl eD));rw[cR]at this;cases this
    have e:hpk hs H p=hpk hs H i:=by
     by_cases i9:p≤i
     ·exact (zda a7 i i9 (by omega) (λk ok hk aK h1 h2=>by have:=below k ok hk aK h2;omega)).symm
     ·exact zda a7 p (by omega) hp (λk ok hk aK h1 h2=>above k ok hk aK h1 h2)
    cases hw:opW wc o.op with
    | false=>rw[kp hw]at bI;exact⟨hpk hs H p,keepS _ hw stay,by rw[e];exact bI⟩
    | true=>
     refine⟨hpk hs H (i+1),.inl ⟨i+1,by omega,λk ok hk aK=>?_,rfl,?_⟩,by rw[e];exact bI⟩
     ·by_cases bk:k=i
      ·subst bk;simp
      ·simp only[bk,if_false];rw[eE k ok hk aK];constructor
       ·intro ku;by_cases fW:i≤k
        ·exact (above k ok hk aK fW ku).elim
        ·omega
       ·intro hki2;exact below k ok hk aK (by omega)
     ·rcases kr with da | aN
      ·exact .inl λj x y=>by have:j≠i:=λh=>kq ⟨by omega,by omega⟩;simp only[this,if_false];exact da j x y
      ·exact .inr λj x y=>by have:j≠i:=λh=>kq ⟨by omega,by omega⟩;simp only[this,if_false];exact aN j x y
 ·-- some of the new variables are there
  obtain⟨h1,h2,⟨j0,iI,fH,g8⟩,⟨j1,gK,fV,jR⟩,h5⟩:=hII;obtain⟨o0,ho0,dE⟩:=isNew iI fH;obtain⟨o1,ho1,fJ⟩:=isNew gK fV;have mf:i<a:=by
   by_cases mf:i<a
   ·exact mf
   ·have:=before hf j1 o1 ho1 (zgq fJ).1 (by omega) (by
     obtain⟨_,x1,x2,x3,_⟩:=zgq (wc:=wc) fJ;unfold okU;simp[x1,x2,x3,eD])
    rw[jR]at this;cases this
  have early:okU wc o.op o0.op=true:=by
   cases hu:okU wc o.op o0.op with
   | true=>rfl
   | false=>have:=behind hf j0 o0 ho0 (zgq dE).1 (by omega) hu;rw[g8]at this;cases this
  have stay:StOK wc am hs H a b S Hc:=.inr ⟨h1,h2,⟨j0,iI,fH,g8⟩,⟨j1,gK,fV,jR⟩,h5⟩;subst h5;cases hl:opL o.op with
  | true=>
   obtain⟨hw,_,me,gL,_⟩:=zyd hl;rw[kp hw]at bI;refine⟨_,keepS _ hw stay,bI.load hl (λeA=>by have:=(bi eA j0 o0 ho0).2;rw[zHk dE]at this;cases this) λid cs aR=>?_⟩;have:=zpo a7 a (by omega) (by omega) (λk ok hk aK aQ ap=>by
    have cR:=h1 k ok hk aK ap;have bk:k≠i:=by rintro rfl;rw[fq]at cR;cases cR
    cases hu:okU wc o.op ok.op with
    | true=>obtain⟨x1,x2⟩:=zde aK;simp only[okU,hl,x1,me,gL,eD,Bool.false_and,Bool.false_or,Bool.and_false,Bool.or_false,Bool.true_and,Bool.or_eq_true]at hu;exact hu
    | false=>
     have:=behind hf k ok hk aK (by omega) hu;rw[this]at cR;cases cR) id cs aR
   rw[List.getElem?_append_left (List.getElem?_eq_some_iff.1 this).1];exact this
  | false=>
   have hc:opC wc o.op=true:=by unfold okU at early;simp only[hl,eD,(zgq (wc:=wc) dE).2.1,Bool.false_and,Bool.and_false,Bool.false_or,Bool.or_false,Bool.and_eq_true]at early;exact early.1
   obtain⟨hw,_,_,_⟩:=zya hc;have e1:hpk hs H a=hpk hs H i:=zda a7 a (by omega) (by omega) (λk ok hk aK aQ ap=>by
    have cR:=h1 k ok hk aK ap;have bk:k≠i:=by rintro rfl;rw[fq]at cR;cases cR
    have:=behind hf k ok hk aK (by omega) (uf hl (zde aK).1 (.inr (notV hk (by omega))) (.inl eD));rw[this]at cR;cases cR)
   refine⟨_,keepS _ hw stay,?_⟩;rw[e1];exact hx hc _
end

theorem zwW {am:Array Oper} {F0 rs Fn:List AV} {hs:List zaa} {Hn:zaa} {K:List AV→zaa→Prop} {Q:Exit→Act→World→Prop} {w0:World} {G0:Gh} {va vb:Nat} (bi:fl=true→∀ (k:Nat) ok,am[k]?=some ok→opA wc ok.op=false∧opN ok.op=false) (hO:Ord am) (hW:zdP wc am=true) (hV:VB am va vb) (ht:TrL fl wc P am am.toList F0 H rs hs Fn Hn) (hK:K Fn Hn)
  (hQ:∀ a w G F H,Ext B w0 G0 w G→HRel B w G H→FRel w G a.tmps F→a.defers=[]→K F H→Q .normal a w) :
  ∀ (fuel:Nat) (ae:Array Bool) (a:Act) (w:World) (G:Gh) (F:List AV) (Hc:zaa),StOK wc am hs H va vb (inS ae) Hc→ae.size=am.size→ae.toList.count false≤fuel →
   (∀ (j:Nat) oj,am[j]?=some oj→inS ae j=true→∀ e∈oj.after,Region.binds .any e=true→inS ae e.on=true) →
   Ext B w0 G0 w G→HRel B w G Hc→FlRel am F0 rs (inS ae) F→FRel w G a.tmps F→a.defers=[]→wpAny P .any am Q fuel ae a w:=by
 obtain⟨aq,mg,hhn,hat0⟩:=ht.at;have a7:zeG fl wc P am F0 rs hs H:=hat0;have cS:rs.length=am.size:=by simpa using aq
 have bf:=hV.fit
 -- nothing is ready only at the end
 have fin:∀ (ae:Array Bool) (a:Act) (w:World) (G:Gh) (F:List AV) (Hc:zaa),StOK wc am hs H va vb (inS ae) Hc→ae.size=am.size→Ext B w0 G0 w G→HRel B w G Hc→FlRel am F0 rs (inS ae) F→FRel w G a.tmps F→a.defers=[] →
   Region.ready .any am ae=[]→Q .normal a w:=by
  intro ae a w G F Hc aT aF hE hH hG hF hd hr;have all:∀ i,i<am.size→inS ae i=true:=by
   intro i;induction i using Nat.strongRecOn with
   | _ i ih=>
    intro hi;cases hS:inS ae i with
    | true=>rfl
    | false=>
     have:i∈Region.ready .any am ae:=by
      rw[mem_ready];refine⟨?_,am[i],by simp[hi],λe he hb=>?_⟩
      ·have df:i<ae.size:=by omega
       simpa[inS,df]using hS
      ·have ap:=hO.edge i am[i] (by simp[hi]) e he hb;exact ih e.on ap (by omega)
     rw[hr]at this;cases this
  have h1:FlRel am F0 rs (λk=>decide (k<am.size)) F:=hG.congr λi hi=>by rw[all i hi];simp[hi]
  have h2:=zpi hO ht am.size (Nat.le_refl _);have:F=Fn:=by rw[FlRel.same cS h1 h2,←mg];simp
  rw[this]at hF;have hHn:Hc=Hn:=by
   rcases aT with ⟨p,hp,eE,rfl,_⟩ | ⟨_,_,_,⟨j,iI,fH,g8⟩,_⟩
   ·rw[←hhn,Array.length_toList];exact (zda a7 am.size hp (Nat.le_refl _) (λi o h1 h2 h3 h4=>by
     have:=(eE i o h1 h2).1 (all i h4);omega)).symm
   ·rw[all j (by omega)]at g8;cases g8
  rw[hHn]at hH;exact hQ a w G Fn Hn hE hH hF hd hK
 intro fuel;induction fuel with
 | zero=>
  intro ae a w G F Hc aT aF hc bQ hE hH hG hF hd;have hr:Region.ready .any am ae=[]:=by
   cases hr:Region.ready .any am ae with
   | nil=>rfl
   | cons i is=>
    have hi:i∈Region.ready .any am ae:=by rw[hr];simp
    obtain⟨h1,o,ho,_⟩:=mem_ready.1 hi;have df:i<ae.size:=by rw[aF];exact (Array.getElem?_eq_some_iff.1 ho).1
    have hf:ae[i]=false:=by simpa[df]using h1
    have:false∈ae.toList:=by rw[←hf];simp
    have:=List.count_pos_iff.2 this;omega
  exact⟨hr,fin ae a w G F Hc aT aF hE hH hG hF hd hr⟩
 | succ fuel ih=>
  intro ae a w G F Hc aT aF hc bQ hE hH hG hF hd;refine⟨fin ae a w G F Hc aT aF hE hH hG hF hd,λi hi=>?_⟩;obtain⟨h1,o,ho,bM⟩:=mem_ready.1 hi;have g9:i<am.size:=(Array.getElem?_eq_some_iff.1 ho).1;have df:i<ae.size:=by omega
  have fq:inS ae i=false:=by
   have:ae[i]=false:=by simpa[df]using h1
   simp[inS,df,this]
  obtain⟨r,hr,_⟩:=a7 i o (by simpa using ho);have dD:=zHP hO cS hG (zpi hO ht i (by omega)) ho fq bM bQ
  -- what comes behind it
  have next:∀ (a':Act) (w':World) (G':Gh) (Hc':zaa),StOK wc am hs H va vb (λk=>if k=i then true else inS ae k) Hc'→Ext B w0 G0 w' G'→HRel B w' G' Hc'→FRel w' G' a'.tmps (zbO F o.dst r)→a'.defers=[]→wpAny P .any am Q fuel (ae.setIfInBounds i true) a' w':=by
   intro a' w' G' Hc' cT ey aW iJ ek;refine ih _ a' w' G' (zbO F o.dst r) Hc' (cT.congr hV λk _=>(zpr df k).symm) (by simpa using aF) ?_ ?_ ey aW ?_ iJ ek
   ·have hf:ae.toList[i]'(by simpa using df)=false:=by
     have:ae[i]=false:=by simpa[df]using h1
     simpa using this
    rw[Array.toList_setIfInBounds,List.count_set (by simpa using df)];rw[hf];simp only[beq_self_eq_true,if_true,Bool.true_eq_false,beq_iff_eq,if_false];omega
   ·intro j oj hj fI e he hb;rw[zpr df]at fI ⊢;by_cases c9:j=i
    ·subst c9;rw[ho]at hj;cases hj;have:=bM e he hb;by_cases kv:e.on=j
     ·simp[kv]
     ·simp only[kv,if_false];exact this
    ·simp only[c9,if_false]at fI;have:=bQ j oj hj fI e he hb;by_cases kv:e.on=i
     ·simp[kv]
     ·simp only[kv,if_false];exact this
   ·exact (FlRel.step hO hG ho hr).congr λk _=>(zpr df k).symm
  unfold wpOp;simp only[ho];have eC:∀ v,(a.put o.dst v).defers=[]:=λv=>by cases dp:o.dst <;> simpa[Act.put]using hd
  cases hv:opV o.op with
  | true=>
   -- a new variable
   have a8:=(hV.iff i o ho).1 hv;obtain⟨hw,bS,iY,hna,hnf⟩:=zgq (wc:=wc) hv;have hg:=hV.bare i o ho hv;rw[if_pos (by simp[Region.wanted,hg])];refine .inl ?_;obtain⟨o',t,z,cz,bA,hz,k9,bb,gF⟩:=zx1 a7 hV a8.1 a8.2;rw[ho]at cz;cases cz;rw[hr]at gF;cases gF;have hlen_i:(hpk hs H i).length=(hpk hs H va).length+(i-va):=by have:=zpp a7 hV (i-va) (by omega);rw[show va+(i-va)=i by omega]at this;rw[this];simp
   -- the writing ones before the new variables are done, those behind are not
   have early:∀ (k:Nat) ok,am[k]?=some ok→opW wc ok.op=true→k<va→inS ae k=true:=λk ok hk aK ap=>by
    have ja:opV ok.op=false:=by
     cases hY:opV ok.op with
     | false=>rfl
     | true=>have:=(hV.iff k ok hk).1 hY;omega
    exact (zkb hO hW ho hk (by omega) (.inr aK) hnf (zhY aK) (by unfold okU;simp[(zde aK).1,(zde aK).2,ja,bS])).ready bQ ho bM
   have late:∀ (k:Nat) ok,am[k]?=some ok→opW wc ok.op=true→vb≤k→inS ae k=false:=λk ok hk aK aQ=>by
    have ja:opV ok.op=false:=by
     cases hY:opV ok.op with
     | false=>rfl
     | true=>have:=(hV.iff k ok hk).1 hY;omega
    cases hS:inS ae k with
    | false=>rfl
    | true=>have:=(zkb hO hW hk ho (by omega) (.inl aK) (zhY aK) hnf (by unfold okU;simp[(zde aK).1,bS,iY,hna,ja])).closed bQ hS;rw[fq]at this;cases this
   -- the heap with places for the new variables
   have hplaces:∃ G1,Ext B w G w G1∧HRel B w G1 (hpk hs H va++zcy hs H va vb (inS ae)):=by
    rcases aT with ⟨p,hp,eE,rfl,kr⟩ | ⟨_,_,_,_,rfl⟩
    ·have da:∀ j,va≤j→j<vb→inS ae j=false:=by
      rcases kr with h | h
      ·exact h
      ·have:=h i a8.1 a8.2;rw[fq]at this;cases this
     have e:hpk hs H p=hpk hs H va:=by
      by_cases fu:p≤va
      ·exact (zda a7 va fu (by omega) (λk ok hk aK h1 h2=>by
        have:=(eE k ok hk aK).1 (early k ok hk aK h2);omega)).symm
      ·refine zda a7 p (by omega) hp (λk ok hk aK h1 h2=>?_);have cR:=(eE k ok hk aK).2 h2;by_cases eF:k<vb
       ·rw[da k h1 eF]at cR;cases cR
       ·rw[late k ok hk aK (by omega)]at cR;cases cR
     rw[e]at hH;rw[zGo da];obtain⟨h1,h2⟩:=hH.keepGaps (vb-va);exact⟨_,h1,h2⟩
    ·exact⟨G,Ext.refl _ _ _,hH⟩
   obtain⟨G1,fX,dF⟩:=hplaces;have iW:(hpk hs H va++zcy hs H va vb (inS ae))[(hpk hs H va).length+(i-va)]?=some .gap:=by rw[List.getElem?_append_right (by omega),Nat.add_sub_cancel_left];exact zGn a8.1 a8.2 fq
   have aX:(hpk hs H va++zcy hs H va vb (inS ae)).set ((hpk hs H va).length+(i-va)) (.cells (zbs z))=hpk hs H va++zcy hs H va vb (λk=>if k=i then true else inS ae k):=by rw[List.set_append_right _ _ (by omega),Nat.add_sub_cancel_left,←k9,zGp a8.1 a8.2]
   have cT:StOK wc am hs H va vb (λk=>if k=i then true else inS ae k) (hpk hs H va++zcy hs H va vb (λk=>if k=i then true else inS ae k)):=by
    by_cases aN:∀ j,va≤j→j<vb→(if j=i then true else inS ae j)=true
    ·refine .inl ⟨vb,by omega,λk ok hk aK=>?_,zxc a7 hV aN,.inr aN⟩;by_cases bk:k=i
     ·subst bk;simp[a8.2]
     ·simp only[bk,if_false];by_cases jS:k<vb
      ·simp only[jS,iff_true];by_cases i8:va≤k
       ·have:=aN k i8 jS;simpa[bk]using this
       ·exact early k ok hk aK (by omega)
      ·simp only[jS,iff_false];rw[late k ok hk aK (by omega)];simp
    ·have hsome:∃ j,va≤j∧j<vb∧(if j=i then true else inS ae j)=false:=by
      apply Classical.byContradiction;intro da;apply aN;intro j h1 h2;cases hS:(if j=i then true else inS ae j) with
      | true=>rfl
      | false=>exact (da ⟨j,h1,h2,hS⟩).elim
     refine .inr ⟨λk ok hk aK i8=>?_,λk ok hk aK eF=>?_,⟨i,a8.1,a8.2,by simp⟩,hsome,rfl⟩
     ·have bk:k≠i:=by omega
      simp only[bk,if_false];exact early k ok hk aK i8
     ·have bk:k≠i:=by omega
      simp only[bk,if_false];exact late k ok hk aK eF
   have az:(execOp a.eval o).run P w=(((do pure (.value (←Instr.alloc t true (.tuple #[])))):Sem Next)).run P w:=by obtain⟨dst,op,type,pos,after,guard⟩:=o;simp only at bA;subst bA;rfl
   refine zhZ (hF.ext fX) (K:=λv H'=>v=.ptr (hpk hs H i).length 0∧H'=hpk hs H va++zcy hs H va vb (λk=>if k=i then true else inS ae k)) (by
    rw[az];exact zIQ dF hz iW ⟨by rw[hlen_i],aX⟩) λv av w' G' H' k1 k2 k3 k4=>?_
   obtain⟨rfl,rfl⟩:=k4;exact next _ w' G' _ cT ((hE.trans fX).trans k1) k2 (((hF.ext fX).ext k1).put k3) (eC v)
  | false=>
   obtain⟨Hc',cT,bI⟩:=StOK.step (F:=F) bi hO hW hV a7 aT bQ ho fq bM hr (λs hs=>(dD s hs).symm) hv;have run:(zbm fl P o F Hc λv H'=>v=r∧H'=Hc')→o.wp P a w (wpAny P .any am Q fuel (ae.setIfInBounds i true)) Q:=λbA=>
    zhZ hF (zfC hH hF (zFu bA)) λv av w' G' H' k1 k2 k3 k4=>by obtain⟨rfl,rfl⟩:=k4;exact next _ w' G' _ cT (hE.trans k1) k2 ((hF.ext k1).put k3) (eC v)
   have skip:r=.tup []→Hc'=Hc→wpAny P .any am Q fuel (ae.setIfInBounds i true) (a.put o.dst undef) w:=λfY he=>by subst fY;subst he;exact next _ w G _ cT hE hH (hF.put zrA) (eC _)
   unfold TrOK at bI;split at bI
   ·rename_i hg;rw[if_pos (by simp[Region.wanted,hg])];exact .inl (run bI)
   ·rename_i j want hg;obtain⟨d,de,aG⟩:=bI;rcases aG with ⟨b,hb,hw,bA⟩ | ⟨b,hb,hw,fY,he⟩ | ⟨hb,fY,he⟩
    ·rw[zrG hF hg de hb,if_pos hw];exact .inl (run bA)
    ·rw[zrG hF hg de hb,if_neg (by simp[hw])];exact skip fY he
    ·rw[zzV hF hg de hb,if_neg (by simp)];exact skip fY he

theorem Post.of {w0:World} {G0:Gh} {Q:AExit→List AV→zaa→Prop} {a:Act} {F:List AV} {e:AExit} (hE:Ext B w0 G0 w G) (hH:HRel B w G H) (hF:FRel w G a.tmps F) (hd:a.defers=[]) (h:Q e F H):Post B w0 G0 Q e.toExit a w:=
 ⟨F,H,G,e,rfl,hE,hH,hF,hd,h⟩

theorem zhx:∀ (m:List Bool) {tm:List Value} {F:List AV},All2 (TRel w G) tm F→All2 (TRel w G) tm (zft m F)
 | [],tm,F,h=>by unfold zft;exact h
 | b::m,[],[],h=>by cases b <;> trivial
 | true::m,v::tm,a::F,h=>⟨h.1,zhx m h.2⟩
 | false::m,v::tm,a::F,h=>⟨trivial,zhx m h.2⟩

theorem zHb (m:List Bool) {y:Code} {Q:AExit→List AV→zaa→Prop} {now:List AV→zaa→Prop} {F:List AV} {H:zaa} (h:nxt m P y Q now F H) (hn:now F H→AWp P y Q F H):AWp P y Q F H:=by
 cases m with
 | nil=>exact hn h
 | cons b ms=>exact λB w G a hH hF hd=>h B w G a hH (zhx _ hF) hd
theorem zf9 {M:Nat→List Bool}:∀ (c:Code) (Q:AExit→List AV→zaa→Prop) (F:List AV) (H:zaa),awp P M c Q F H→AWp P c Q F H:=by
 intro c;induction c with
 | skip=>intro Q F H h B w G a hH hF hd;exact wp_skip (Post.of (e:=.normal) (Ext.refl _ _ _) hH hF hd h)
 | label l=>intro Q F H h B w G a hH hF hd;exact wp_label (Post.of (e:=.normal) (Ext.refl _ _ _) hH hF hd h)
 | region id am draw=>
  intro Q F H h B w G a hH hF hd;cases draw with
  | false=>
   refine wp_region_list ?_;have h:(match M (300000+id) with
    | []=>ze3 P am am.toList (Q .normal) F H
    | _::_=>zh5 P am.toList (Q .normal) F H):=h
   split at h
   ·exact zqZ (K:=Q .normal) (λa w G F H h1 h2 h3 h4 h5=>Post.of (e:=.normal) h1 h2 h3 h4 h5) am.toList F H a w G (Ext.refl _ _ _) hH hF hd h
   ·exact zyI (K:=Q .normal) (λa w G F H h1 h2 h3 h4 h5=>Post.of (e:=.normal) h1 h2 h3 h4 h5) am.toList F H a w G (Ext.refl _ _ _) hH hF hd h
  | true=>
   have main:∀ (fl:Bool) (wc:WM),(fl=true→∀ (k:Nat) ok,am[k]?=some ok→opA wc ok.op=false∧opN ok.op=false)→(match zet am && zdP wc am && zeu am && P.follows .mixedOrders with
     | true=>zcR fl wc P am am.toList (Q .normal) F H
     | false=>False)→(Code.region id am true).wp P (Post B w G Q) a w:=by
    intro fl wc bi h;split at h
    ·rename_i hb;simp only[Bool.and_eq_true]at hb;obtain⟨⟨⟨ia,mh⟩,i6⟩,hm⟩:=hb;obtain⟨rs,hs,Fn,Hn,ht,hK⟩:=zc2 am.toList F H h;obtain⟨va,vb,hV⟩:=zyg i6;refine wp_region_any hm ?_;refine zwW bi (zqF ia) mh hV ht (K:=Q .normal) hK (w0:=w) (G0:=G) (λa w G F H h1 h2 h3 h4 h5=>Post.of (e:=.normal) h1 h2 h3 h4 h5) am.size _ a _ G F H (.inl ⟨0,Nat.zero_le _,λk ok _ _=>by rw[zeR];simp,by cases hs <;> rfl,.inl λj _ _=>zeR _ _⟩) (by simp) (by simp) ?_ (Ext.drew B w G _ (Nat.le_succ _)) (hH.drew _ (Nat.le_succ _)) ?_ ?_ hd
     ·intro j oj _ hj;rw[zeR]at hj;cases hj
     ·refine⟨rfl,λi o s r _ _ hS=>?_,λs _=>rfl⟩;rw[zeR]at hS;cases hS
     ·exact hF.ext (Ext.drew B w G _ (Nat.le_succ _))
    ·exact h.elim
   simp only[awp]at h;split at h
   ·cases hn:noG am with
    | false=>simp[hn]at h
    | true=>rw[hn,Bool.and_true]at h;refine main true .n (λ_ k ok hk=>?_) h;have:=List.all_eq_true.1 hn ok (List.mem_of_getElem? (by rw[Array.getElem?_toList];exact hk));simpa using this
   have no:∀ wc:WM,false=true→∀ (k:Nat) ok,am[k]?=some ok→opA wc ok.op=false∧opN ok.op=false:=λwc h=>by cases h
   split at h
   ·exact main false .n (no _) h
   ·exact main false .w (no _) h
   ·exact main false .g (no _) h
   ·exact main false .c (no _) h
   ·rename_i l _;split at h
    ·rename_i hb;simp only[Bool.and_eq_true,decide_eq_true_eq]at hb;obtain⟨⟨⟨⟨⟨ia,mh⟩,i6⟩,hm⟩,ft⟩,aQ⟩:=hb;have aF:am.size-l.length+l.length=am.size:=by omega
     generalize dY:zdQ am (am.size-l.length)=pre at *;have ee:pre.size=am.size-l.length:=by rw[←dY];simp[zdQ]
     obtain⟨rs,hs,Fn,Hn,ht,hK⟩:=zc2 pre.toList F H h;obtain⟨va,vb,hV⟩:=zyg i6;refine wp_region_any hm ?_;have key:=zwW (fl:=false) (λh=>by cases h) (zqF ia) mh hV ht (K:=zgw P am (Q .normal) l.length (zgF (am.size-l.length) l.length)) hK (Q:=zkF (wpAny P .any am (Post B w G Q) l.length (zgF (am.size-l.length) l.length)) (Post B w G Q)) (w0:=w) (G0:=G)
      (λa w G F H h1 h2 h3 h4 h5=>zH0 (λa w G F H h1 h2 h3 h4 h5=>Post.of (e:=.normal) h1 h2 h3 h4 h5) _ _ a w G F H h1 h2 h3 h4 h5)
      pre.size (Array.replicate pre.size false) a { w with drawn:=w.drawn+1 } G F H (.inl ⟨0,Nat.zero_le _,λk ok _ _=>by rw[zeR];simp,by cases hs <;> rfl,.inl λj _ _=>zeR _ _⟩) (by simp) (by simp) (λj oj _ hj=>by rw[zeR]at hj;cases hj) (Ext.drew B w G _ (Nat.le_succ _)) (hH.drew _ (Nat.le_succ _))
      ⟨rfl,λi o s r _ _ hS=>(by rw[zeR]at hS;cases hS),λs _=>rfl⟩ (hF.ext (Ext.drew B w G _ (Nat.le_succ _))) hd
     have:=zJR aF dY.symm ft (zqF ia).edge pre.size (Array.replicate pre.size false) a _ (by simp[ee]) (by simp) (λj oj _ hS=>by by_cases ap:j<pre.size <;> simp[ap]at hS) key;have e:Array.replicate pre.size false++(List.replicate l.length false).toArray=Array.replicate am.size false:=by apply Array.toList_inj.1;simp[ee,List.replicate_append_replicate,aF]
     rw[e,ee,aF]at this;exact this
    ·exact h.elim
 | seq x y ihx ihy=>
  intro Q F H h B w G a hH hF hd;refine wp_seq (wp_mono (ihx _ F H h B w G a hH hF hd) λe a' w' hp=>?_);obtain⟨F',H',G',e',rfl,h1,h2,h3,h4,h5⟩:=hp;cases e' with
  | normal=>
   have h6:AWp P y Q F' H':=by exact zHb _ h5 (ihy Q F' H')
   refine wp_mono (h6 B w' G' a' h2 h3 h4) λe a'' w'' hp=>?_;obtain⟨F'',H'',G'',e'',rfl,k1,k2,k3,k4,k5⟩:=hp;exact⟨F'',H'',G'',e'',rfl,h1.trans k1,k2,k3,k4,k5⟩
  | exit id=>exact Post.of (e:=.exit id) h1 h2 h3 h4 h5
  | ret=>exact Post.of (e:=.ret) h1 h2 h3 h4 h5
 | scope c ih=>
  intro Q F H h B w G a hH hF hd;refine wp_scope_straight (wp_mono (ih Q F H h B w G a hH hF hd) λe a' w' hp=>?_);obtain⟨F',H',G',e',rfl,h1,h2,h3,h4,h5⟩:=hp;cases e' with
  | normal=>exact Post.of (e:=.normal) h1 h2 h3 h4 h5
  | exit id=>exact Post.of (e:=.exit id) h1 h2 h3 h4 h5
  | ret=>exact Post.of (e:=.ret) h1 h2 h3 h4 h5
 | cond c x y ihx ihy=>
  intro Q F H h B w G a hH hF hd;simp only[awp,zag]at h;split at h
  ·rename_i t ht;have hc:=zaM hF c;rw[ht]at hc;have hc:a.eval c=.bool t:=hc;unfold aIf at h;refine wp_cond hc ?_;cases t with
   | true=>exact ihx Q F H (by simpa using h) B w G a hH hF hd
   | false=>exact ihy Q F H (by simpa using h) B w G a hH hF hd
  ·exact h.elim
 | block id c ih=>
  intro Q F H h B w G a hH hF hd;refine wp_block (wp_mono (ih _ F H h B w G a hH hF hd) λe a' w' hp=>?_);obtain⟨F',H',G',e',rfl,h1,h2,h3,h4,h5⟩:=hp;cases e' with
  | normal=>exact Post.of (e:=.normal) h1 h2 h3 h4 h5
  | ret=>exact Post.of (e:=.ret) h1 h2 h3 h4 h5
  | exit id'=>
   simp only[AExit.toExit,Exit.inBlock];simp only[zoW]at h5;split at h5
   ·rename_i ar;rw[if_pos (by simpa using ar)];exact Post.of (e:=.normal) h1 h2 h3 h4 h5
   ·rename_i ar;rw[if_neg (by simpa using ar)];exact Post.of (e:=.exit id') h1 h2 h3 h4 h5
 | loop c ih=>intro Q F H h B w G a hH hF hd;exact h B w G a hH (zhx _ hF) hd
 | ret=>intro Q F H h B w G a hH hF hd;exact wp_ret (Post.of (e:=.ret) (Ext.refl _ _ _) hH hF hd h)
 | exit id=>intro Q F H h B w G a hH hF hd;exact wp_exit (Post.of (e:=.exit id) (Ext.refl _ _ _) hH hF hd h)
 | _=>intro Q F H h;exact h.elim

end Go.Abs
