import Derived.Test.YtdmamdnkcefmmaaGreatDoorAbsH
import Derived.Still
import Derived.Scope
set_option linter.unusedSimpArgs false
set_option linter.unusedVariables false
set_option maxRecDepth 8000
namespace Go.Proofs.YtdmamdnkcefmmaaGreatDoor
section
open Go.RowKit

variable {P:Program} {B:Nat} {w:World} {G:Gh} {H:zaa}

theorem HRel.newOwn (h:HRel B w G H) (e size:Nat) :
  Ext B w G w ⟨G.L,G.μ++[.own (.slice none 0 0) size 0]⟩∧HRel B w ⟨G.L,G.μ++[.own (.slice none 0 0) size 0]⟩ (H++[.perm e size 0]):=by
 have he:Ext B w G w ⟨G.L,G.μ++[.own (.slice none 0 0) size 0]⟩:=⟨Nat.le_refl _,Below.refl _ _,λ_=>Nat.le_refl _,λ_ _ _=>rfl,λid gi hg=>⟨gi,by
  have:id<G.μ.length:=(List.getElem?_eq_some_iff.1 hg).1;simp only[];rw[List.getElem?_append_left this];exact hg,gi.le_refl⟩⟩
 have split:∀ (id:Nat) gi,(G.μ++[.own (.slice none 0 0) size 0])[id]?=some gi→G.μ[id]?=some gi∨(id=G.μ.length∧gi=.own (.slice none 0 0) size 0):=by
  intro id gi hg;by_cases ak:id<G.μ.length
  ·rw[List.getElem?_append_left ak]at hg;exact .inl hg
  ·have aY:=(List.getElem?_eq_some_iff.1 hg).1;simp at aY;have:id=G.μ.length:=by omega
   subst this;simp at hg;exact .inr ⟨rfl,hg.symm⟩
 refine⟨he,by simp[h.len],?_,?_,h.fresh,?_,h.base⟩
 ·intro id ab gi h1 h2;rcases split id gi h2 with h2 | ⟨rfl,rfl⟩
  ·have ak:id<H.length:=by rw[←h.len];exact (List.getElem?_eq_some_iff.1 h2).1
   rw[List.getElem?_append_left ak]at h1;exact (h.ok id ab gi h1 h2).keep he (λb hb=>⟨rfl,rfl⟩)
  ·rw[h.len]at h1;simp at h1;subst h1;exact⟨rfl,rfl,⟨[],World.ownsRow_nil w B e size⟩,λb hb=>by simp[Value.ownBlock]at hb⟩
 ·intro id id' gi gi' b h1 h2 h3 h4;rcases split id gi h1 with k1 | ⟨e1,e2⟩ <;> rcases split id' gi' h2 with k2 | ⟨e3,e4⟩
  ·exact h.dist id id' gi gi' b k1 k2 h3 h4
  ·rw[e4]at h4;simp[GI.block,Value.ownBlock]at h4
  ·rw[e2]at h3;simp[GI.block,Value.ownBlock]at h3
  ·rw[e1,e3]
 ·intro id gi b h1 h2;rcases split id gi h1 with k1 | ⟨e1,e2⟩
  ·exact h.lt id gi b k1 h2
  ·rw[e2]at h2;simp[GI.block,Value.ownBlock]at h2

theorem zxp {v:Value} {a:AV} (h:DRel w G.L v a):v.oneCell'=true:=by cases h <;> rfl

theorem zr2 {e size n:Nat} {v:Value} {xs:List Value} {es:List (List AV)} (ar:w.ownsRow B e size v n xs) (hd:DRel w G.L v (.sl es .none)) (aZ:es.length=n) (aD:∀ c∈es,c.length=size):All2 (DRel w G.L) xs es.flatten:=by
 by_cases aB:es=[]
 ·subst aB;simp at aZ;subst aZ;have:xs=[]:=List.eq_nil_of_length_eq_zero (by simpa using ar.1);rw[this];trivial
 ·obtain⟨b,off,cap,zs,hv,hl,hr,hc,_⟩:=hd.flat aB aD;have dC:off=0:=by
   rcases ar.2 with ⟨h1,_⟩ | ⟨g,cap',cur,h1,_⟩
   ·rw[hv]at h1;simp at h1
   ·rw[hv]at h1;simp at h1;exact h1.1.2
  subst dC;rw[hv,aZ]at ar;obtain⟨bZ,_,_,hcx⟩:=zdA ar;have:xs=zs:=by
   apply List.ext_getElem?;intro j;by_cases hj:j<n*size
   ·have hz:j<zs.length:=by rw[hl,aZ];exact hj
    have:=hc j zs[j] (by simp[hz]);rw[Nat.zero_add]at this;rw[←hcx j hj,this];simp[hz]
   ·rw[List.getElem?_eq_none (by omega),List.getElem?_eq_none (by rw[hl,aZ];omega)]
  rw[this];exact hr

theorem HRel.newVec0 (h:HRel B w G H) (e size:Nat):Ext B w G w ⟨G.L,G.μ++[.own (.slice none 0 0) size 0]⟩∧HRel B w ⟨G.L,G.μ++[.own (.slice none 0 0) size 0]⟩ (H++[.vec e size 0 []]):=by
 obtain⟨hE,hH⟩:=h.newOwn e size;refine⟨hE,by simpa using hH.len,λid ab gi h1 h2=>?_,hH.dist,hH.fresh,hH.lt,hH.base⟩;by_cases ak:id<H.length
 ·rw[List.getElem?_append_left ak]at h1;exact hH.ok id ab gi (by rw[List.getElem?_append_left ak];exact h1) h2
 ·have aY:=(List.getElem?_eq_some_iff.1 h2).1;simp[h.len]at aY;obtain rfl:id=H.length:=by omega
  simp at h1;have h2:(G.μ++[GI.own (.slice none 0 0) size 0])[H.length]?=some gi:=h2;rw[←h.len]at h2;simp at h2;subst h1 h2;exact⟨rfl,rfl,⟨[],World.ownsRow_nil w B e size,trivial⟩,λb hb=>by simp[Value.ownBlock]at hb⟩
theorem zzs {t e ty:TypeId} {size bytes:Nat} {z:Value} {vx vy:Value} {x:AV} {m:Nat} {ds:List AV} {K:AV→zaa→Prop} (hH:HRel B w G H) (he:za6 P t=some e) (hn:zaX P e=some size) (bt:zc7 P e=some bytes)
  (hz:zbz P e=some z) (gD:(zbw z).length=size) (hx:TRel w G vx x) (news:List Value) (ay:Option Addr) (capy:Nat) (fh:vy=.slice ay m capy) (en:All2 (ARel w G) news ds)
  (cp:0<m→∃ b off,ay=some ⟨b,off,none⟩∧∀ j u,news[j]?=some u→w.cell? ⟨b,off+j,none⟩=some u) (h:zdW e size bytes x m ds H K) :
  OpOK P B w G K (((do pure (.value (←Builtin.append_ #[t,t] ty #[vx,vy]))):Sem Next).run P w):=by
 subst fh;have dz:=zdU (w:=w) (G:=G) z;have dA:z.cells.size=size:=by have:=dz.length;simp at this;omega
 have bv:ds.all AV.known=true→∀ u∈news,u.oneCell'=true:=λhk=>zrf en (λc hc=>λhu=>by
  subst hu;have:=List.all_eq_true.1 hk _ hc;simp[AV.known]at this)
 have am:=en.length;unfold zdW at h;split at h
 ·rename_i id n;split at h
  ·rename_i e' s' n' cs ap;obtain⟨⟨⟨rfl,rfl,rfl⟩,cI,gO,bI,bq⟩,hk⟩:=h;obtain⟨dD,v',s0,n0,hμ,aS,heq⟩:=hx;obtain⟨rfl,rfl,⟨xs,ar,gP⟩,_⟩:=hH.ok id _ _ ap hμ;obtain rfl:=heq rfl;by_cases gQ:m=0
   ·subst gQ;obtain⟨ax,capx,rfl,aS⟩:=zkp ar;have aw:=zih (P:=P) (w:=w) (ty:=ty) (a:=ax) (c:=ay) (cap':=capy) he he ⟨_,hn⟩ aS;rw[Sem.run_bind,aw];refine⟨.ov id n',G,H,Ext.refl _ _ _,hH,⟨dD,_,_,n',hμ,Nat.le_refl _,λ_=>rfl⟩,?_⟩;have eQ:ds=[]:=by cases ds <;> simp_all
    subst eQ;have:H.set id (.vec e' s' n' cs)=H:=by
     apply List.ext_getElem?;intro k;by_cases hk:k=id
     ·subst hk;rw[List.getElem?_set_self (List.getElem?_eq_some_iff.1 ap).1];exact ap.symm
     ·rw[List.getElem?_set_ne (λh=>hk h.symm)]
    simp only[Nat.add_zero,List.append_nil,this]at hk;exact hk
   ·have cX:0<m:=by omega
    obtain⟨b,off,rfl,ci⟩:=cp cX;unfold zaX at hn;unfold zc7 at bt;unfold zbz at hz;cases hi:P.info? e' with
    | none=>simp[hi]at hn
    | some i=>simp[hi]at hn bt hz;subst hn;subst bt;obtain⟨v2,w',aw,aT,aF⟩:=zkn (P:=P) (ty:=ty) (zb6 he) hi hz dA ar ⟨b,off,none⟩ m capy news (by omega) (λj u hj=>by rw[add_lit];exact ci j u hj) (bv cI) cX (by simp only[maxLen];omega) bI hH.base;obtain⟨G',ep,aV,hT⟩:=zit hH ap hμ ar aT aF cX gP en;rw[Sem.run_bind,aw];exact⟨_,G',_,ep,aV,hT,hk⟩
  ·exact h.elim
 ·split at h
  ·obtain⟨iS,ax,rfl⟩:=hx;have aw:=zih (P:=P) (w:=w) (ty:=ty) (a:=ax) (c:=ay) (cap':=capy) he he ⟨_,hn⟩ (Nat.le_refl 0);rw[Sem.run_bind];simp only[List.length_nil];rw[aw];exact⟨.sl [] .none,G,H,Ext.refl _ _ _,hH,.slE _ _,h⟩
  ·rename_i m';obtain⟨⟨cI,gO,bI,bq⟩,hk⟩:=h;obtain⟨iS,ax,rfl⟩:=hx;have cX:0<m'+1:=by omega
   obtain⟨b,off,rfl,ci⟩:=cp cX;unfold zaX at hn;unfold zc7 at bt;unfold zbz at hz;cases hi:P.info? e with
   | none=>simp[hi]at hn
   | some i=>
    simp[hi]at hn bt hz;subst hn;subst bt;obtain⟨v',w',aw,aT,iT,bu⟩:=zxB (P:=P) (ty:=ty) (n:=0) (xs:=[]) (zb6 he) hi hz dA (by simp) (λb hb j u hj=>by simp at hj) (λh=>rfl) ⟨b,off,none⟩ (m'+1) capy news (by omega) (λj u hj=>by rw[add_lit];exact ci j u hj) cX (by simp only[maxLen];omega) (by simpa using bI) hH.base;obtain⟨hE,ed⟩:=hH.newVec0 e i.size;have ap:(H++[.vec e i.size 0 []])[H.length]?=some (.vec e i.size 0 []):=by simp
    obtain⟨G',ep,aV,hT⟩:=zit (n:=0) (cs:=[]) (xs:=[]) ed ap (by rw[←hH.len];simp) (World.ownsRow_nil w B e i.size) (by simpa using aT) (.inr ⟨iT,bu⟩) cX trivial (en.mono λ_ _=>hE.arel);rw[Sem.run_bind];simp only[List.length_nil];rw[aw];refine⟨_,G',_,hE.trans ep,aV,hT,?_⟩;simpa using hk
 ·exact h.elim

theorem zI4 {t e ty:TypeId} {size bytes:Nat} {z:Value} {vx vy:Value} {x y:AV} {K:AV→zaa→Prop} (hH:HRel B w G H) (he:za6 P t=some e) (hn:zaX P e=some size) (bt:zc7 P e=some bytes)
  (hz:zbz P e=some z) (gD:(zbw z).length=size) (hx:TRel w G vx x) (hy:TRel w G vy y) (h:zav e size bytes x y H K) :
  OpOK P B w G K (((do pure (.value (←Builtin.append_ #[t,t] ty #[vx,vy]))):Sem Next).run P w):=by
 unfold zav at h;split at h
 ·rename_i id off len cap;split at h
  ·rename_i cs ap;obtain⟨b,hμ,rfl⟩:=hy;obtain⟨_,_,vs,_,hw,aN⟩:=hH.ok id _ _ ap hμ;have hl:=aN.length;refine zzs hH he hn bt hz gD hx ((vs.toList.drop off).take (len*size)) _ _ rfl ((aN.drop off).take _) (λ_=>⟨b,off,rfl,λj u hj=>?_⟩) h.2;rw[List.getElem?_take]at hj;split at hj
   ·simp only[World.cell?,hw];simpa using hj
   ·cases hj
  ·exact h.elim
 ·rename_i id n;split at h
  ·rename_i e' s' n' cs ap;obtain⟨⟨rfl,rfl⟩,h⟩:=h;obtain⟨⟨a,cap0,rfl,_⟩,v',s0,n0,hμ,_,heq⟩:=hy;obtain⟨rfl,rfl,⟨xs,ar,aN⟩,_⟩:=hH.ok id _ _ ap hμ;obtain rfl:=heq rfl;refine zzs hH he hn bt hz gD hx xs _ _ rfl aN (λhm=>?_) h;obtain⟨hl,bi⟩:=ar;rcases bi with ⟨h1,h2⟩ | ⟨g,cap,cur,h1,h2,h3,h4,h5,h6,h7⟩
   ·omega
   ·simp at h1;obtain⟨rfl,rfl⟩:=h1;obtain⟨_,_,_,aH⟩:=zdA ⟨hl,.inr ⟨g,cap0,cur,rfl,h2,h3,h4,h5,h6,h7⟩⟩;exact⟨g,0,rfl,λj u hj=>by
     rw[Nat.zero_add,aH j (by rw[←hl];exact (List.getElem?_eq_some_iff.1 hj).1)];exact hj⟩
  ·exact h.elim
 obtain⟨ys,jE,iy,h⟩:∃ ys,DRel w G.L vy (.sl ys .none)∧(∀ c∈ys,c.length=size)∧zaJ e size bytes x ys H K:=by
  unfold zaM at h;split at h
  ·rename_i ys tok _ _;exact⟨ys,zij hy,h.1,h.2⟩
  ·cases hy;exact⟨[],.slE _ _,h.1,h.2⟩
  ·exact h.elim
 have dz:=zdU (w:=w) (G:=G) z;have dA:z.cells.size=size:=by have:=dz.length;simp at this;omega
 -- the general step, for a right that is there already
 have main:∀ (G0:Gh) (H0:zaa) (id:Nat) (es:List (List AV)) (v:Value),Ext B w G w G0→HRel B w G0 H0→H0[id]?=some (.perm e size es.length)→G0.μ[id]?=some (.own v size es.length)→DRel w G.L v (.sl es .none) →
   (∀ c∈es,c.length=size)→vx=v→(es.length+ys.length)*bytes≤140737488355328→es.length+ys.length≤9223372036854775807→K (.sl (es++ys) (.own id)) (H0.set id (.perm e size (es.length+ys.length))) →
   OpOK P B w G K (((do pure (.value (←Builtin.append_ #[t,t] ty #[vx,vy]))):Sem Next).run P w):=by
  intro G0 H0 id es v hE ed ap hμ iS iz aC bI bq hk;subst aC;obtain⟨_,_,⟨xs,ar⟩,_⟩:=ed.ok id _ _ ap hμ;by_cases gQ:ys=[]
  ·subst gQ;obtain⟨ay,capy,rfl,_⟩:=jE.slice_form;obtain⟨ax,capx,rfl,aS⟩:=zkp ar;have aw:=zih (P:=P) (w:=w) (ty:=ty) (a:=ax) (c:=ay) (cap':=capy) he he ⟨size,hn⟩ aS;simp only[List.length_nil];rw[Sem.run_bind,aw];refine⟨.sl es (.own id),G0,H0,hE,ed,⟨hE.drel iS,_,size,es.length,hμ,Nat.le_refl _,λ_=>⟨rfl,iz⟩⟩,?_⟩;have:H0.set id (.perm e size (es.length+0))=H0:=by
    apply List.ext_getElem?;intro k;by_cases hk:k=id
    ·subst hk;rw[List.getElem?_set_self (List.getElem?_eq_some_iff.1 ap).1];exact ap.symm
    ·rw[List.getElem?_set_ne (λh=>hk h.symm)]
   rw[List.length_nil,this]at hk;simpa using hk
  ·obtain⟨b,off,capy,news,fh,gR,en,cp,_⟩:=jE.flat gQ iy;subst fh;have cX:0<ys.length:=by cases ys <;> simp_all
   unfold zaX at hn;unfold zc7 at bt;unfold zbz at hz;cases hi:P.info? e with
   | none=>simp[hi]at hn
   | some i=>
    simp[hi]at hn bt hz;subst hn;subst bt;have bv:∀ u∈news,u.oneCell'=true:=λu hu=>by obtain⟨j,hj⟩:=List.mem_iff_getElem?.1 hu;obtain⟨c,_,h2⟩:=en.get' hj;exact zxp h2
    obtain⟨v',w',aw,aT,aF⟩:=zkn (P:=P) (ty:=ty) (zb6 he) hi hz dA ar ⟨b,off,none⟩ ys.length capy news gR (λj u hj=>by rw[add_lit];exact cp j u hj) bv cX (by simp only[maxLen];omega) bI ed.base;obtain⟨G',ep,aV,hT⟩:=zko ed ap hμ ar aT aF rfl cX rfl iz iy (zr2 ar (hE.drel iS) rfl iz) (en.mono λ_ _=>hE.drel);rw[Sem.run_bind,aw];exact⟨_,G',_,hE.trans ep,aV,hT,hk⟩
 unfold zaJ at h;split at h
 ·cases hx;obtain⟨hE,ed⟩:=hH.newOwn e size;have ap:(H++[.perm e size 0])[H.length]?=some (.perm e size ([]:List (List AV)).length):=by simp
  refine main _ _ H.length [] _ hE ed ap (by rw[←hH.len];simp) (.slE _ _) (by simp) rfl (by simpa using h.1.1) (by simpa using h.1.2) ?_;simpa using h.2
 ·rename_i es id _;obtain⟨h1,⟨h2,h3⟩,hk⟩:=h;obtain⟨hd,v',s',n',hμ,aS,heq⟩:=hx;have az:=hH.ok id _ _ h1 hμ;obtain⟨jR,dU,_⟩:=az;subst dU;subst jR;obtain⟨kQ,iz⟩:=heq rfl;subst kQ;exact main G H id es _ (Ext.refl _ _ _) hH h1 hμ hd iz rfl h2 h3 hk
 ·rename_i id n _;split at h
  ·rename_i e' s' n' cs ap;obtain⟨⟨⟨rfl,rfl,rfl⟩,bI,bq⟩,hk⟩:=h;obtain⟨dD,v',s0,n0,hμ,aS,heq⟩:=hx;obtain⟨rfl,rfl,⟨xs,ar,gP⟩,_⟩:=hH.ok id _ _ ap hμ;obtain rfl:=heq rfl;by_cases gQ:ys=[]
   ·subst gQ;obtain⟨ay,capy,rfl,_⟩:=jE.slice_form;obtain⟨ax,capx,rfl,aS⟩:=zkp ar;have aw:=zih (P:=P) (w:=w) (ty:=ty) (a:=ax) (c:=ay) (cap':=capy) he he ⟨_,hn⟩ aS;simp only[List.length_nil];rw[Sem.run_bind,aw];refine⟨.ov id n',G,H,Ext.refl _ _ _,hH,⟨dD,_,_,n',hμ,Nat.le_refl _,λ_=>rfl⟩,?_⟩;have:H.set id (.vec e' s' n' cs)=H:=by
     apply List.ext_getElem?;intro k;by_cases hk:k=id
     ·subst hk;rw[List.getElem?_set_self (List.getElem?_eq_some_iff.1 ap).1];exact ap.symm
     ·rw[List.getElem?_set_ne (λh=>hk h.symm)]
    simp only[List.length_nil,Nat.add_zero,List.flatten_nil,List.append_nil,this]at hk;exact hk
   ·obtain⟨b,off,capy,news,fh,gR,en,cp,_⟩:=jE.flat gQ iy;subst fh;have cX:0<ys.length:=by cases ys <;> simp_all
    unfold zaX at hn;unfold zc7 at bt;unfold zbz at hz;cases hi:P.info? e' with
    | none=>simp[hi]at hn
    | some i=>
     simp[hi]at hn bt hz;subst hn;subst bt;have bv:∀ u∈news,u.oneCell'=true:=λu hu=>by obtain⟨j,hj⟩:=List.mem_iff_getElem?.1 hu;obtain⟨c,_,h2⟩:=en.get' hj;exact zxp h2
     obtain⟨v2,w',aw,aT,aF⟩:=zkn (P:=P) (ty:=ty) (zb6 he) hi hz dA ar ⟨b,off,none⟩ ys.length capy news gR (λj u hj=>by rw[add_lit];exact cp j u hj) bv cX (by simp only[maxLen];omega) bI hH.base;obtain⟨G',ep,aV,hT⟩:=zit hH ap hμ ar aT aF cX gP (en.mono λ_ _ h=>ARel.of_b h.toB);rw[Sem.run_bind,aw];exact⟨_,G',_,ep,aV,hT,hk⟩
  ·exact h.elim
 ·rename_i es _;obtain⟨iS,ax,rfl⟩:=hx;by_cases hys0:ys=[]
  ·subst hys0;have hk:K (.sl es .full) H:=h;obtain⟨ay,capy,rfl,_⟩:=jE.slice_form;have aw:=zih (P:=P) (w:=w) (ty:=ty) (a:=ax) (c:=ay) (n:=es.length) (cap:=es.length) (cap':=capy) he he ⟨size,hn⟩ (Nat.le_refl _);simp only[List.length_nil];rw[Sem.run_bind,aw];exact⟨.sl es .full,G,H,Ext.refl _ _ _,hH,⟨iS,ax,rfl⟩,hk⟩
  have h:(0<ys.length∧(∀ c∈es,c.length=size)∧(es.length+ys.length)*bytes≤140737488355328∧es.length+ys.length≤9223372036854775807)∧K (.sl (es++ys) (.own H.length)) (H++[.perm e size (es.length+ys.length)]):=by
   cases ys with
   | nil=>exact absurd rfl hys0
   | cons y ys=>exact h
  obtain⟨⟨cX,iz,bI,bq⟩,hk⟩:=h;have gQ:ys≠[]:=λh=>by rw[h]at cX;simp at cX
  obtain⟨b,off,capy,news,fh,gR,en,cp,_⟩:=jE.flat gQ iy;subst fh;unfold zaX at hn;unfold zc7 at bt;unfold zbz at hz;cases hi:P.info? e with
  | none=>simp[hi]at hn
  | some i=>
   simp[hi]at hn bt hz;subst hn;subst bt;obtain⟨xs,bZ,gP,kR,ec⟩:∃ xs:List Value,xs.length=es.length*i.size∧All2 (DRel w G.L) xs es.flatten∧(∀ b,ax=some b→∀ j u,xs[j]?=some u→w.cell? (b.add j)=some u)∧(ax=none→es.length=0):=by
    by_cases aB:es=[]
    ·subst aB;exact⟨[],by simp,trivial,λb hb j u hj=>by simp at hj,λ_=>rfl⟩
    ·obtain⟨b2,off2,cap2,xs,fS,bZ,gP,kR,_⟩:=iS.flat aB iz;injection fS with e1 e2 e3
     subst e1;refine⟨xs,bZ,gP,λb hb j u hj=>?_,λh=>by cases h⟩;injection hb with hb
     subst hb;rw[add_lit];exact kR j u hj
   obtain⟨v',w',aw,aT,iT,bu⟩:=zxB (P:=P) (ty:=ty) (zb6 he) hi hz dA bZ kR ec ⟨b,off,none⟩ ys.length capy news gR (λj u hj=>by rw[add_lit];exact cp j u hj) cX (by simp only[maxLen];omega) bI hH.base;obtain⟨hE,ed⟩:=hH.newOwn e i.size;have ap:(H++[.perm e i.size 0])[H.length]?=some (.perm e i.size 0):=by simp
   obtain⟨G',ep,aV,hT⟩:=zko (es:=[]) (ys:=es++ys) (xs:=[]) (news:=xs++news) (m:=es.length+ys.length) (v':=v') (w':=w') ed ap (by rw[←hH.len];simp) (World.ownsRow_nil w B e i.size)
    (by simpa using aT) (.inr ⟨iT,bu⟩) (by simp) (by omega) rfl (by simp) (λc hc=>by
     rcases List.mem_append.1 hc with hc | hc
     ·exact iz c hc
     ·exact iy c hc) trivial (by rw[List.flatten_append];exact (gP.append en).mono λ_ _=>hE.drel)
   rw[Sem.run_bind,aw];refine⟨_,G',_,hE.trans ep,aV,hT,?_⟩;simpa using hk
 ·exact h.elim

theorem zG8 {v:Value} {a:AV} (h:TRel w G v a) (hb:a.isB=true):BRel w G v a:=by cases a <;> first | exact h | (simp[AV.isB]at hb;done)
theorem zxM:∀ {vs:List Value} {asx:List AV},All2 (TRel w G) vs asx→asx.all AV.isB=true→All2 (BRel w G) vs asx
 | [],[],_,_=>trivial
 | v::vs,a::asx,h,hb=>by simp only[List.all_cons,Bool.and_eq_true]at hb;exact⟨zG8 h.1 hb.1,zxM h.2 hb.2⟩


theorem zci {s:Sem Value} {K:AV→zaa→Prop} (hH:HRel B w G H) (h:∃ r,s.run P w=.ok r w∧∃ av,TRel w G r av∧K av H):OpOK P B w G K (((do pure (.value (←s))):Sem Next).run P w):=by obtain⟨r,h1,av,h2,h3⟩:=h;rw[Sem.run_bind,h1];exact⟨av,G,H,Ext.refl _ _ _,hH,h2,h3⟩

theorem zkj {a:Act} {F:List AV} (hF:FRel w G a.tmps F) (x:Option Operand):All2 (TRel w G) (x.map a.eval).toList (x.map (ev F)).toList:=by
 cases x with
 | none=>trivial
 | some x=>exact⟨zaO hF x,trivial⟩

theorem zrc {a:Act} {F:List AV} (hF:FRel w G a.tmps F) (ps:List (Nat × Operand)) :
  All2 (λ(p:Nat × Value) (q:Nat × AV)=>p.1=q.1∧TRel w G p.2 q.2) (ps.map λ(i,x)=>(i,a.eval x)) (ps.map λp=>(p.1,ev F p.2)):=by
 induction ps with
 | nil=>trivial
 | cons p ps ih=>exact⟨⟨rfl,zaO hF p.2⟩,ih⟩

theorem zIu {f:FuncId} {vs:Array Value} (h:zel P f=true):(callFunc f vs).run P w=.ok (.enter f vs) w:=by
 unfold zel at h;cases hf:P.funcs[f]? with
 | none=>simp[hf]at h
 | some fn=>
  simp only[hf,Bool.and_eq_true,Bool.not_eq_true']at h;obtain⟨h1,h2⟩:=h;have h3:fn.body.isNone=false:=by cases hb:fn.body <;> simp_all
  simp only[callFunc,Sem.run_bind,run_program,Result.andThen_ok,hf,h1,h3,Bool.false_eq_true,if_false,Sem.run_pure]

theorem zJb {c:Call} {ty:TypeId} {a:Act} {F:List AV} {fo:Operand} {K:AV→zaa→Prop} (hH:HRel B w G H) (hF:FRel w G a.tmps F) (hc:c.callee=.value fo)
  (h:aCallV P (ev F fo) (c.args.toList.map (ev F)) H K):OpOK P B w G K (((do let d ←resolve a.eval c ty;invoke d.target d.args):Sem Next).run P w):=by
 have hf:=zaO hF fo;unfold aCallV at h;split at h
 ·rename_i f caps eq;rw[eq]at hf;obtain⟨cs,jS,hcaps⟩:=hf;split at h
  ·rename_i hcall;have aw:((do let d ←resolve a.eval c ty;invoke d.target d.args):Sem Next).run P w=.ok (.enter f (c.args.map a.eval++cs)) w:=by simp only[resolve,hc,jS,Deferred.ofValue,Sem.run_bind,Sem.run_pure,Result.andThen_ok,invoke,Array.empty_append];exact zIu hcall
   rw[aw];refine⟨rfl,h B w G _ hH ?_⟩;have h1:=zxq hF c.args.toList;have h2:All2 (TRel w G) cs.toList caps:=hcaps.mono λ_ _ hb=>TRel.of_v (VRel.of_a (ARel.of_b hb));simpa using h1.append h2
  ·exact h.elim
 ·exact h.elim

theorem zwJ {α:Type} {xs:Array α} {x:α} (h:xs.toList=[x]):xs=#[x]:=by cases xs;simp_all
theorem zhe {α:Type} {xs:Array α} {x y:α} (h:xs.toList=[x,y]):xs=#[x,y]:=by cases xs;simp_all

theorem zJf {t t' ty e:TypeId} {size:Nat} {x y:AV} {u v:Value} {K:AV→zaa→Prop} (hH:HRel B w G H) (he:za6 P t=some e) (hs:zaX P e=some size) (hx:TRel w G u x) (hy:TRel w G v y)
  (h:zfe size x y H K):OpOK P B w G K (((do pure (.value (←Builtin.copy_ #[t,t'] ty #[u,v]))):Sem Next).run P w):=by
 unfold zfe at h;split at h
 ·rename_i id n lo z id' n' lo' z';split at h
  ·rename_i e0 s m cs aN;obtain⟨⟨⟨⟨rfl,rfl,rfl⟩,rfl,rfl,rfl⟩,cI⟩,hk⟩:=h;obtain⟨⟨d9,a,c,rfl,hc⟩,v1,s1,n1,hμ,_,heq⟩:=hx;obtain⟨⟨hlo',a',c',rfl,jF⟩,v2,s2,n2,hμ2,_,gS⟩:=hy;rw[hμ]at hμ2;cases hμ2;obtain⟨rfl,rfl,⟨xs,ar,hr⟩,_⟩:=hH.ok _ _ _ aN hμ
   replace heq:=heq rfl
   replace gS:=gS rfl
   have fk:=hr.length;obtain⟨hyl,bi⟩:=ar;obtain⟨k,kS⟩:∃ k,k=min (m-lo') (m-lo):=⟨_,rfl⟩;have hkd2:Nat.min (m-lo') (m-lo)=k:=kS.symm;rw[←kS]at hk;by_cases df:k=0
   ·have a6:H.set id' (.vec e0 s m (zde cs (lo*s) ((cs.drop (lo'*s)).take (k*s))))=H:=by
     rw[df];simp only[zde,Nat.zero_mul,List.take_zero,List.append_nil,List.length_nil,Nat.add_zero,List.take_append_drop];apply List.ext_getElem?;intro j;by_cases hj:id'=j
     ·subst hj;rw[List.getElem?_set_self (List.getElem?_eq_some_iff.1 aN).1,aN]
     ·rw[List.getElem?_set_ne hj]
    rw[a6]at hk;have aw:((do pure (.value (←Builtin.copy_ #[t,t'] ty #[.slice a (m-lo) c,.slice a' (m-lo') c']))):Sem Next).run P w=.ok (.value (.int .i64 ((k:Nat):Int))) w:=by
     have hl:∀ (x:Addr),(loadCells x 0).run P w=.ok #[] w:=λx=>by simpa using run_loadCells_list (P:=P) w x [] (by simp)
     cases a <;> cases a' <;> simp[Builtin.copy_,zaZ (zb6 he),Builtin.lenOf,Builtin.firstCells,zbV hs,hkd2,df,storeCells,hl,goInt]
    rw[aw];exact OpOK.same (av:=.int .i64 ((k:Nat):Int)) hH rfl hk
   ·rcases bi with ⟨rfl,fm⟩ | ⟨g,cap,cur,rfl,fc,hw,bG,c7,d7,eP⟩
    ·omega
    ·simp only[zii,if_neg (show ¬ cap=lo by omega),if_neg (show ¬ cap=lo' by omega),add_lit,Nat.zero_add,Value.slice.injEq]at heq gS;obtain⟨rfl,_,rfl⟩:=heq;obtain⟨rfl,_,rfl⟩:=gS;obtain⟨vals,fT⟩:∃ vals,vals=(xs.drop (lo'*s)).take (k*s):=⟨_,rfl⟩;have cg:lo'*s+k*s≤m*s:=by rw[←Nat.add_mul];exact Nat.mul_le_mul_right _ (by omega)
     have hks2:lo*s+k*s≤m*s:=by rw[←Nat.add_mul];exact Nat.mul_le_mul_right _ (by omega)
     have jG:vals.length=k*s:=by rw[fT];simp;omega
     have iU:All2 (ARel w G) vals ((cs.drop (lo'*s)).take (k*s)):=by rw[fT];exact (hr.drop _).take _
     have bv:∀ v∈vals,v.oneCell'=true:=zrf iU (λc hc=>by
      have:=List.all_eq_true.1 cI c (List.mem_of_mem_drop (List.mem_of_mem_take hc));intro lH;subst lH;simp[AV.known]at this)
     obtain⟨_,_,_,aH⟩:=zdA (w:=w) (B:=B) (e:=e0) (size:=s) (n:=m) (cap:=cap) (g:=g) (xs:=xs) ⟨hyl,.inr ⟨g,cap,cur,rfl,fc,hw,bG,c7,d7,eP⟩⟩;have hload:(loadCells ⟨g,lo'*s,none⟩ (k*s)).run P w=.ok vals.toArray w:=by rw[←jG];refine run_loadCells_list (P:=P) w ⟨g,lo'*s,none⟩ vals λj v hj=>?_;have aQ:j<vals.length:=(List.getElem?_eq_some_iff.1 hj).1;rw[add_lit,aH _ (by omega)];rw[fT,List.getElem?_take_of_lt (by omega),List.getElem?_drop]at hj;exact hj
     have hms:m*s≤cur.size:=by rw[d7];exact Nat.mul_le_mul_right _ bG
     have aR:=run_storeCells_at P g (lo*s) e0 vals 0 cur w hw (by omega) bv;simp only[Nat.add_zero]at aR;have bk:(cur.toList.take (lo*s)++vals++cur.toList.drop (lo*s+vals.length)).toArray.toList.take (m*s)=xs.take (lo*s)++vals++xs.drop (lo*s+vals.length):=by
      rw[←eP];simp only[List.take_append,List.length_take,Array.length_toList,List.length_append,jG];rw[List.take_take,List.take_take,List.drop_take,List.take_of_length_le (l:=vals) (by omega)];congr 2
      ·congr 1;omega
      ·congr 1;omega
     have hvl2:((cs.drop (lo'*s)).take (k*s)).length=vals.length:=iU.length.symm;obtain⟨hE,aV⟩:=hH.storeV (cs':=zde cs (lo*s) ((cs.drop (lo'*s)).take (k*s))) aN hμ hw fc bG c7 (by simp[List.length_append,jG];omega) bk (by simp[jG];omega) (by
      have:=((hr.take (lo*s)).append iU).append (hr.drop (lo*s+vals.length));unfold zde;rw[hvl2];simpa using this)
     have aw:((do pure (.value (←Builtin.copy_ #[t,t'] ty #[.slice (some ⟨g,lo*s,none⟩) (m-lo) (cap-lo),.slice (some ⟨g,lo'*s,none⟩) (m-lo') (cap-lo')]))):Sem Next).run P w=.ok (.value (.int .i64 ((k:Nat):Int))) (w.setRow g (cur.toList.take (lo*s)++vals++cur.toList.drop (lo*s+vals.length)).toArray):=by simp[Builtin.copy_,zaZ (zb6 he),Builtin.lenOf,Builtin.firstCells,zbV hs,hkd2,hload,aR,goInt]
     rw[aw];exact⟨.int .i64 ((k:Nat):Int),G,_,hE,aV,rfl,hk⟩
  ·exact h.elim
 ·exact h.elim
theorem zJa {c:Call} {ty:TypeId} {a:Act} {F:List AV} {b:Builtin} {K:AV→zaa→Prop} (hH:HRel B w G H) (hF:FRel w G a.tmps F) (hc:c.callee=.builtin b)
  (h:zeI P b c F H K):OpOK P B w G K (((do let d ←resolve a.eval c ty;invoke d.target d.args):Sem Next).run P w):=by
 cases b <;> simp only[zeI]at h <;> (try exact h.elim)
 case append=>
  split at h
  ·rename_i x y t t' bo cJ;split at h
   ·rename_i e size bytes z he hs hb hz htt;simp only[beq_iff_eq]at htt;subst htt;split at h
    ·rename_i hq;simp only[Bool.and_eq_true,decide_eq_true_eq,beq_iff_eq]at hq;simp only[he,Option.bind_some]at hs hz hb;have h1:=zhe bo;have h2:=zhe cJ;have aw:((do let d ←resolve a.eval c ty;invoke d.target d.args):Sem Next).run P w=((do pure (.value (←Builtin.append_ #[t,t] ty #[a.eval x,a.eval y]))):Sem Next).run P w:=by simp only[resolve,hc,h1,h2,List.map_toArray,List.map_cons,List.map_nil,Sem.run_bind,Sem.run_pure,Result.andThen_ok,invoke,builtin]
     rw[aw];exact zI4 hH he hs hb hz hq.2 (zaO hF x) (zaO hF y) h
    ·exact h.elim
   ·exact h.elim
  ·exact h.elim
 case copy=>
  split at h
  ·rename_i x y t t' bo cJ;split at h
   ·rename_i size hs;have h1:=zhe bo;have h2:=zhe cJ;cases he:za6 P t with
    | none=>simp[he]at hs
    | some e=>
     simp only[he,Option.bind_some]at hs;have aw:((do let d ←resolve a.eval c ty;invoke d.target d.args):Sem Next).run P w=((do pure (.value (←Builtin.copy_ #[t,t'] ty #[a.eval x,a.eval y]))):Sem Next).run P w:=by simp only[resolve,hc,h1,h2,List.map_toArray,List.map_cons,List.map_nil,Sem.run_bind,Sem.run_pure,Result.andThen_ok,invoke,builtin]
     rw[aw];exact zJf hH he hs (zaO hF x) (zaO hF y) h
   ·exact h.elim
  ·exact h.elim
 case max=>
  split at h
  ·rename_i x y bo;have h1:=zhe bo;have aw:((do let d ←resolve a.eval c ty;invoke d.target d.args):Sem Next).run P w=((do pure (.value (←Builtin.max_ c.argTypes ty #[a.eval x,a.eval y]))):Sem Next).run P w:=by simp only[resolve,hc,h1,List.map_toArray,List.map_cons,List.map_nil,Sem.run_bind,Sem.run_pure,Result.andThen_ok,invoke,builtin]
   rw[aw];unfold zff at h;have hx:=zaO hF x;have hy:=zaO hF y;split at h
   ·rename_i k m k' n e1 e2;rw[e1]at hx;rw[e2]at hy;have hx:a.eval x=.int k m:=hx;have hy:a.eval y=.int k' n:=hy;rw[hx,hy];have hr:((do pure (.value (←Builtin.max_ c.argTypes ty #[.int k m,.int k' n]))):Sem Next).run P w=.ok (.value (.int k (if n>m then n else m))) w:=by
     have h2:(Builtin.max_ c.argTypes ty #[.int k m,.int k' n]).run P w=.ok (.int k (if n>m then n else m)) w:=by simp[Builtin.max_,Builtin.max2]
     rw[Sem.run_bind,h2];rfl
    rw[hr];exact OpOK.same (av:=.int k (if n>m then n else m)) hH rfl h
   ·exact h.elim
  ·exact h.elim
 case len=>
  split at h
  ·rename_i x t bo cJ;split at h
   ·rename_i u hu;have h1:=zwJ bo;have h2:=zwJ cJ;have aw:((do let d ←resolve a.eval c ty;invoke d.target d.args):Sem Next).run P w=((do pure (.value (←Builtin.len_ #[t] ty #[a.eval x]))):Sem Next).run P w:=by simp only[resolve,hc,h1,h2,List.map_toArray,List.map_cons,List.map_nil,Sem.run_bind,Sem.run_pure,Result.andThen_ok,invoke,builtin]
    rw[aw];exact zci hH (zJm (zaO hF x) hu h)
   ·exact h.elim
  ·exact h.elim

theorem zHI {o:Oper} {a:Act} {F:List AV} {K:AV→zaa→Prop} (hH:HRel B w G H) (hF:FRel w G a.tmps F) (h:zdt P o F H K):OpOK P B w G K ((execOp a.eval o).run P w):=by
 obtain⟨dst,op,type,pos,after,guard⟩:=o;unfold zdt at h;simp only[]at h;cases op <;> (try simp only[]at h) <;> (try exact h.elim) <;> simp only[execOp]
 case move x=>exact OpOK.same hH (zaO hF x) h
 case assign x=>exact OpOK.same hH (zaO hF x) h
 case pick c x y=>
  unfold zam at h;split at h
  ·rename_i t ht;have hc:=zaO hF c;rw[ht]at hc;have hc:a.eval c=.bool t:=hc;have aw:((do pure (.value (if ←asBool (a.eval c) then a.eval x else a.eval y))):Sem Next).run P w=.ok (.value (if t=true then a.eval x else a.eval y)) w:=by rw[hc];cases t <;> rfl
   rw[aw];refine OpOK.same hH ?_ h;cases t
   ·exact zaO hF y
   ·exact zaO hF x
  ·exact h.elim
 case alloc t=>
  split at h
  ·rename_i z hz;exact zI3 hH hz h
  ·exact h.elim
 case box t x=>exact zI6 hH (zaO hF x) h
 case build t af=>
  split at h
  ·rename_i z ps hz hp;exact zci hH (zI7 hz hp (by simpa using zrc hF af.toList) h)
  ·exact h.elim
 case buildSlice t len af=>
  split at h
  ·rename_i size z hs hz;split at h
   ·rename_i hb;simp only[Bool.and_eq_true,decide_eq_true_eq,beq_iff_eq]at hb;cases he:za6 P t with
    | none=>simp[he]at hs
    | some e=>simp only[he,Option.bind_some]at hs hz;exact zI8 hH he hs hz hb.1.1 hb.1.2 hb.2 (by simpa using zrc hF af.toList) h
   ·exact h.elim
  ·exact h.elim
 case load t x=>
  split at h
  ·rename_i g n hg hn;obtain⟨u,h1,av,h2,h3⟩:=zzt hH (zaO hF x) hg hn h;exact zci hH ⟨u,h1,av,h2,h3⟩
  ·exact h.elim
 case store t x y=>
  split at h
  ·rename_i n hn;obtain⟨w',H',h1,h2,h3,h4⟩:=zJv hH (zaO hF x) (zaO hF y) hn h;have aw:((do Instr.storeAt t (a.eval x) (a.eval y);pure .skip):Sem Next).run P w=.ok .skip w':=by rw[Sem.run_bind,h1];rfl
   rw[aw];exact⟨G,H',h2,h3,h4⟩
  ·exact h.elim
 case nilCheck x=>
  have hx:=zaO hF x;rw[zFH]at h;split at h
  ·rename_i id off ap;rw[ap]at hx h;obtain⟨b,hμ,hv⟩:=hx;rw[hv];exact OpOK.same hH (av:=.ptr id off) ⟨b,hμ,rfl⟩ h
  ·rename_i cs ap;rw[ap]at hx h;obtain⟨b,off,hv,hc⟩:=hx;rw[hv];exact OpOK.same hH (av:=.view cs) ⟨b,off,rfl,hc⟩ h
  ·rename_i f cs ap;rw[ap]at hx h;obtain⟨vs,hv,hc⟩:=hx;rw[hv];exact OpOK.same hH (av:=.fn f cs) ⟨vs,rfl,hc⟩ h
  ·rename_i id m off ap;rw[ap]at hx h;obtain⟨⟨b,o,hv⟩,hr⟩:=hx;rw[hv]at hr ⊢;exact OpOK.same hH (av:=.vp id m off) ⟨⟨b,o,rfl⟩,hr⟩ h
  ·exact h.elim
 case binOp op t x y yt=>
  split at h
  ·rename_i hy;exact zci hH (zJr (zaO hF x) hy h)
  ·exact zci hH (zI5 (zaO hF x) (zaO hF y) h)
 case unOp op t x=>exact zci hH (zJw (zaO hF x) h)
 case convert s t x=>
  have fU:∀ k,cvK P s t=some k→(match k with
    | .ints k=>(∃ j,P.underlying s=some (.int j))∧P.underlying t=some (.int k)
    | .strs=>P.underlying s=some .string∧P.underlying t=some .string
    | .bytes=>∃ e,P.underlying s=some (.slice e)∧P.underlying t=some .string∧tU8 P e=true):=by
   intro k hk;unfold cvK at hk;split at hk
   ·rename_i hs;split at hk
    ·rename_i ht;cases hk;exact⟨⟨_,hs⟩,ht⟩
    ·cases hk
   ·rename_i hs;split at hk
    ·rename_i ht;cases hk;exact⟨hs,ht⟩
    ·cases hk
   ·rename_i hs;split at hk
    ·rename_i ht;split at hk
     ·rename_i he;cases hk;exact⟨_,hs,ht,he⟩
     ·cases hk
    ·cases hk
   ·cases hk
  split at h
  ·rename_i k hk;obtain⟨⟨j,hs⟩,ht⟩:=fU _ hk;exact zci hH (zJc (zaO hF x) hs ht h)
  ·rename_i hk;obtain⟨hs,ht⟩:=fU _ hk;exact zci hH (zJe (zaO hF x) hs ht h)
  ·rename_i hk;obtain⟨e,hs,ht,he⟩:=fU _ hk;exact zci hH (zJd (zaO hF x) hs ht he h)
  ·exact h.elim
 case makeFunc fn first caps=>
  cases fn <;> simp only[]at h <;> (try exact h.elim)
  rename_i f;split at h
  ·rename_i hfirst;obtain⟨hb,hk⟩:=h;have hf0:first=#[]:=by cases first;simp_all
   subst hf0;have aw:((do pure (.value (←Instr.makeFunc (.func f) (Array.map a.eval #[]) (caps.map a.eval)))):Sem Next).run P w=.ok (.value (.func (.func f) #[] (caps.map a.eval))) w:=by simp[Instr.makeFunc]
   rw[aw];refine OpOK.same hH (av:=.fn f (caps.toList.map (ev F))) ⟨_,rfl,?_⟩ hk;have:=zxM (zxq hF caps.toList) hb;simpa using this
  ·exact h.elim
 case makeSlice t l c=>
  split at h
  ·rename_i size bytes z hs hb hz;split at h
   ·rename_i hq;simp only[Bool.and_eq_true,decide_eq_true_eq,beq_iff_eq]at hq;cases he:za6 P t with
    | none=>simp[he]at hs
    | some e=>simp only[he,Option.bind_some]at hs hz hb;exact zJo hH he hs hb hz hq.1 hq.2 (zaO hF l) (zaO hF c) h
   ·exact h.elim
  ·exact h.elim
 case slice t x lo hi mx=>
  cases mx <;> simp only[]at h <;> (try exact h.elim)
  split at h
  ·rename_i ht;exact zci hH (zrA (zaO hF x) (zkj hF lo) (zkj hF hi) ht (by omega) h)
  ·rename_i ht;split at h
   ·rename_i size hs;exact zci hH (zrA (zaO hF x) (zkj hF lo) (zkj hF hi) ht (λ_=>hs) h)
   ·exact h.elim
  ·exact h.elim
 case fieldAddr s x i=>
  split at h
  ·rename_i f hf;split at h
   ·rename_i n hn;exact zci hH (zJi (zaO hF x) hf hn h)
   ·exact h.elim
  ·exact h.elim
 case field s x i=>
  split at h
  ·rename_i f hf;split at h
   ·rename_i g n hg hn;exact zci hH (zJj (zaO hF x) hf hg hn h)
   ·exact h.elim
  ·exact h.elim
 case indexAddr t x i=>
  split at h
  ·rename_i size hs;cases he:za6 P t with
   | none=>simp[he]at hs
   | some e=>simp only[he,Option.bind_some]at hs;exact zci hH (zJk (zaO hF x) (zaO hF i) he hs h)
  ·exact h.elim
 case index t x i=>
  split at h
  ·rename_i ht;exact zci hH (zJl (zaO hF x) (zaO hF i) ht h)
  ·exact h.elim
 case extract x i=>exact zci hH (zJg (zaO hF x) h)
 case call c=>
  split at h
  ·rename_i fo hc;exact zJb hH hF hc h
  ·rename_i b hc;exact zJa hH hF hc h
  ·exact h.elim

theorem zHM {o:Oper} {a:Act} {F:List AV} {K:AV→zaa→Prop} (hH:HRel B w G H) (hF:FRel w G a.tmps F) (h:zeL P o.op F H K):OpOK P B w G K ((execOp a.eval o).run P w):=by
 obtain⟨dst,op,type,pos,after,guard⟩:=o;unfold zeL at h;simp only[]at h;cases op <;> (try simp only[]at h) <;> (try exact h.elim) <;> simp only[execOp]
 case makeMap t r=>
  split at h
  ·exact zJq hH h
  ·exact h.elim
 case lookup t x i ok=>
  split at h
  ·rename_i z hz;cases he:zeB P t with
   | none=>simp[he]at hz
   | some e=>simp only[he,Option.bind_some]at hz;exact zci hH (zJn hH he hz (zaO hF x) (zaO hF i) h)
  ·exact h.elim
 case mapUpdate t m k x=>
  split at h
  ·rename_i e he;obtain⟨w',H',h1,h2,h3,h4⟩:=zzu hH he (zaO hF m) (zaO hF k) (zaO hF x) h;have aw:((do Instr.mapUpdate t (a.eval m) (a.eval k) (a.eval x);pure .skip):Sem Next).run P w=.ok .skip w':=by rw[Sem.run_bind,h1];rfl
   rw[aw];exact⟨G,H',h2,h3,h4⟩
  ·exact h.elim
 case insert t m k x=>
  split at h
  ·rename_i e he;obtain⟨w',H',h1,h2,h3,h4⟩:=zzu hH he (zaO hF m) (zaO hF k) (zaO hF x) h;have aw:((do Instr.mapUpdate t (a.eval m) (a.eval k) (a.eval x);pure .skip):Sem Next).run P w=.ok .skip w':=by rw[Sem.run_bind,h1];rfl
   rw[aw];exact⟨G,H',h2,h3,h4⟩
  ·exact h.elim
theorem zfC {o:Oper} {a:Act} {F:List AV} {K:AV→zaa→Prop} (hH:HRel B w G H) (hF:FRel w G a.tmps F) (h:aop P o F H K):OpOK P B w G K ((execOp a.eval o).run P w):=by
 unfold aop at h;split at h
 ·exact zHM hH hF h
 ·exact zHI hH hF h

end
section
open Go.RowKit

variable {fl:Bool} {wc:WM} {P:Program} {B:Nat} {w:World} {G:Gh} {H:zaa}
theorem zwg {e s b m:Nat} {x:AV} {ds:List AV} {H:zaa} {K:AV→zaa→Prop} (h:zdW e s b x m ds H K):∃ r H',(zdW e s b x m ds H λv H2=>v=r∧H2=H')∧K r H':=by
 unfold zdW at h ⊢;split at h
 ·split at h
  ·exact⟨_,_,⟨h.1,rfl,rfl⟩,h.2⟩
  ·exact h.elim
 ·split at h
  ·exact⟨_,_,⟨rfl,rfl⟩,h⟩
  ·exact⟨_,_,⟨h.1,rfl,rfl⟩,h.2⟩
 ·exact h.elim
theorem zwi {e s b:Nat} {x:AV} {ys:List (List AV)} {H:zaa} {K:AV→zaa→Prop} (h2:zaJ e s b x ys H K):∃ r H',(zaJ e s b x ys H λv H2=>v=r∧H2=H')∧K r H':=by
 unfold zaJ at h2 ⊢;split at h2
 ·exact⟨_,_,⟨h2.1,rfl,rfl⟩,h2.2⟩
 ·exact⟨_,_,⟨h2.1,h2.2.1,rfl,rfl⟩,h2.2.2⟩
 ·split at h2
  ·exact⟨_,_,⟨h2.1,rfl,rfl⟩,h2.2⟩
  ·exact h2.elim
 ·split at h2
  ·exact⟨_,_,⟨rfl,rfl⟩,h2⟩
  ·exact⟨_,_,⟨h2.1,rfl,rfl⟩,h2.2⟩
 ·exact h2.elim
theorem zFz {e s b:Nat} {x y:AV} {H:zaa} {K:AV→zaa→Prop} (h:zav e s b x y H K):∃ r H',(zav e s b x y H λv H2=>v=r∧H2=H')∧K r H':=by
 unfold zav at h ⊢;split at h
 ·split at h
  ·obtain⟨r,H',h1,h2⟩:=zwg h.2;exact⟨r,H',⟨h.1,h1⟩,h2⟩
  ·exact h.elim
 ·split at h
  ·obtain⟨r,H',h1,h2⟩:=zwg h.2;exact⟨r,H',⟨h.1,h1⟩,h2⟩
  ·exact h.elim
 ·unfold zaM at h ⊢;split at h
  ·obtain⟨r,H',h1,h2⟩:=zwi h.2;exact⟨r,H',⟨h.1,h1⟩,h2⟩
  ·obtain⟨r,H',h1,h2⟩:=zwi h.2;exact⟨r,H',⟨h.1,h1⟩,h2⟩
  ·exact h.elim
theorem FRel.put {a:Act} {F:List AV} {d:Option Tmp} {v:Value} {av:AV} (hF:FRel w G a.tmps F) (hv:TRel w G v av):FRel w G (a.put d v).tmps (zbP F d av):=by
 cases d with
 | none=>exact hF
 | some d=>unfold FRel at *;simp only[Act.put,zbP,Array.toList_setIfInBounds];exact All2.set d hF hv
theorem FRel.ext {w':World} {G':Gh} {tm:Array Value} {F:List AV} (hF:FRel w G tm F) (he:Ext B w G w' G'):FRel w' G' tm F:=All2.mono (λ_ _=>he.trel) hF

theorem zxA {tm:Array Value} {F:List AV} {d:Nat} {x:AV} (hF:FRel w G tm F) (h:F.getD d .unk=x) (hx:x≠.unk):∃ v,tm[d]?=some v∧TRel w G v x:=by
 rw[List.getD_eq_getElem?_getD]at h;cases hd:F[d]? with
 | none=>rw[hd]at h;exact absurd h.symm hx
 | some y=>rw[hd]at h;simp at h;subst h;obtain⟨v,h1,h2⟩:=All2.get hF hd;exact⟨v,by simpa using h1,h2⟩

theorem zrX {aj:Array Oper} {o:Oper} {a:Act} {F:List AV} {j d:Nat} {want b:Bool} (hF:FRel w G a.tmps F) (hg:o.guard=some (j,want)) (hd:(aj[j]?).bind (·.dst)=some d)
  (hb:F.getD d .unk=.bool b):Region.wanted o (yielded aj a.tmps)=(b == want):=by
 obtain⟨v,h1,h2⟩:=zxA hF hb (by simp);have h2:v=.bool b:=h2;subst h2;simp[Region.wanted,hg,yielded,hd,h1]
theorem zAm {aj:Array Oper} {o:Oper} {a:Act} {F:List AV} {j d:Nat} {want:Bool} (hF:FRel w G a.tmps F) (hg:o.guard=some (j,want)) (hd:(aj[j]?).bind (·.dst)=some d)
  (hb:F.getD d .unk=.tup []):Region.wanted o (yielded aj a.tmps)=false:=by
 obtain⟨v,h1,h2⟩:=zxA hF hb (by simp);obtain⟨vs,rfl,_⟩:=h2;simp[Region.wanted,hg,yielded,hd,h1]

theorem zrT:TRel w G undef (.tup []):=⟨#[],rfl,trivial⟩

theorem zh8 {o:Oper} {a:Act} {F:List AV} {K:AV→zaa→Prop} {K':Act→World→Prop} {Q:Exit→Act→World→Prop} (hF:FRel w G a.tmps F)
  (h:OpOK P B w G K ((execOp a.eval o).run P w))
  (hK:∀ v av w' G' H',Ext B w G w' G'→HRel B w' G' H'→TRel w' G' v av→K av H'→K' (a.put o.dst v) w'):o.wp P a w K' Q:=by
 unfold Oper.wp;generalize (execOp a.eval o).run P w=r at *;cases r with
 | halt x w'=>cases x <;> exact h.elim
 | ok n w'=>
  cases n <;> simp only[OpOK]at h <;> simp only[Oper.upon]
  case value v=>obtain⟨av,G',H',h1,h2,h3,h4⟩:=h;exact hK v av w' G' H' h1 h2 h3 h4
  case skip=>obtain⟨G',H',h1,h2,h4⟩:=h;exact hK undef (.tup []) w' G' H' h1 h2 zrT h4
  case enter f vs=>obtain⟨rfl,hc⟩:=h;refine hc.mono λe w'' he=>?_;obtain⟨v,r,H',G',rfl,h1,h2,h3,h4⟩:=he;exact hK v r w'' G' H' h1 h2 h3 h4

theorem HRel.newB (h:HRel B w G H) (vs:Array Value) (t:TypeId) (cs:List AV) (hc:All2 (ARel w G) vs.toList cs) :
  Ext B w G (w.alloc (.cells vs t)) ⟨G.L,G.μ++[.blk w.heap.size]⟩∧HRel B (w.alloc (.cells vs t)) ⟨G.L,G.μ++[.blk w.heap.size]⟩ (H++[.bld t cs]):=by
 obtain⟨he,hH⟩:=h.new vs t cs hc;refine⟨he,by simpa using hH.len,λid ab gi h1 h2=>?_,hH.dist,hH.fresh,hH.lt,hH.base⟩;by_cases ak:id<H.length
 ·rw[List.getElem?_append_left ak]at h1;exact hH.ok id ab gi (by rw[List.getElem?_append_left ak];exact h1) h2
 ·have aY:=(List.getElem?_eq_some_iff.1 h1).1;simp at aY;obtain rfl:id=H.length:=by omega
  simp at h1;subst h1;have hg:gi=.blk w.heap.size:=by simp only[]at h2;rw[←h.len]at h2;simpa using h2.symm
  subst hg;exact⟨h.base,h.fresh _ (Nat.le_refl _),vs,zds _,hc.mono λ_ _=>he.arel⟩
theorem zHN {o:Oper} {a:Act} {F:List AV} {K:AV→zaa→Prop} (hH:HRel B w G H) (hF:FRel w G a.tmps F) (h:zhd P o F H K):OpOK P B w G K ((execOp a.eval o).run P w):=by
 unfold zhd at h;split at h
 ·rename_i t bx;split at h
  ·split at h
   ·rename_i z hz;obtain⟨he,aV⟩:=hH.newB z.cells t (zbw z) (zdU z);have aw:(execOp a.eval o).run P w=.ok (.value (.pointer (some ⟨w.heap.size,0,none⟩))) (w.alloc (.cells z.cells t)):=by obtain⟨dst,op,type,pos,after,guard⟩:=o;simp only[]at bx;subst bx;simp[execOp,Instr.alloc,ze2 hz,newVar,newRow,World.alloc_eq]
    rw[aw];refine⟨.ptr H.length 0,_,_,he,aV,⟨w.heap.size,?_,rfl⟩,h⟩;rw[←hH.len];simp
   ·exact h.elim
  ·exact zfC hH hF h
 ·exact zfC hH hF h

theorem zI9 {t e:TypeId} {size len:Nat} {z:Value} {af:Array (Nat × Value)} {ai:List (Nat × AV)} {K:AV→zaa→Prop} (hH:HRel B w G H) (he:za6 P t=some e) (hn:zaX P e=some size)
  (hz:zbz P e=some z) (gD:(zbw z).length=size)
  (hr:All2 (λ(p:Nat × Value) (q:Nat × AV)=>p.1=q.1∧TRel w G p.2 q.2) af.toList ai) (h:zo0 e size len ai H K) :
  OpOK P B w G K (((do pure (.value (←Instr.buildSlice t len af))):Sem Next).run P w):=by
 unfold zo0 at h;split at h
 ·rename_i x;obtain⟨cI,hk⟩:=h;have dz:=zdU (w:=w) (G:=G) z;have dA:z.cells.size=1:=by have:=dz.length;simp at this;omega
  obtain⟨v,rfl,hv⟩:∃ v,af=#[(0,v)]∧ARel w G v x:=by
   match af,hr with
   | ⟨[(i,v)]⟩,⟨⟨h1,h2⟩,_⟩=>have h1:i=0:=h1;subst h1;refine⟨v,rfl,?_⟩;cases x <;> first | exact h2 | (simp[AV.oneK]at cI;done)
   | ⟨[]⟩,hr=>exact hr.elim
   | ⟨_::_::_⟩,hr=>exact hr.2.elim
  have bv:v.oneCell'=true:=ARel.oneCell (λhu=>by subst hu;simp[AV.oneK]at cI) hv;have lN:v.cells=#[v]:=by cases v <;> first | rfl | (simp[Value.oneCell']at bv)
  have aw:((do pure (.value (←Instr.buildSlice t 1 #[(0,v)]))):Sem Next).run P w=.ok (.value (.slice (some ⟨w.heap.size,0,none⟩) 1 1)) (w.alloc (.cells #[v] e)):=by
   have dV:Instr.fill (λi=>some (i*1,1)) ((Array.range (1*1)).map λx=>z.cells[x % z.cells.size]!) [(0,v)]=some #[v]:=by
    have hs:((Array.range (1*1)).map λx=>z.cells[x % z.cells.size]!).size=1:=by simp
    unfold Instr.fill;simp only[lN,hs];simp[Instr.fill];refine Array.ext (by simp) λi h1 h2=>?_;have:i=0:=by simp at h2;omega
    subst this;simp
   simp only[Nat.mul_one]at dV;simp[Instr.buildSlice,zaZ (zb6 he),zbV hn,ze2 hz,dV,newRow,World.alloc_eq]
  obtain⟨hE,ed⟩:=hH.newVec0 e 1;have ap:(H++[.vec e 1 0 []])[H.length]?=some (.vec e 1 0 []):=by simp
  have bu:GrB w (w.alloc (.cells #[v] e)) none:=⟨Nat.le_refl _,rfl,rfl,rfl,by simp,λk hk _=>zcN (w:=w) hk⟩;have ar:(w.alloc (.cells #[v] e)).ownsRow B e 1 (.slice (some ⟨w.heap.size,0,none⟩) (0+1) 1) (0+1) ([]++[v]):=
   ⟨rfl,.inr ⟨w.heap.size,1,#[v],rfl,hH.base,zds (w:=w) _,by omega,by simp[maxLen],rfl,rfl⟩⟩
  obtain⟨G',ep,aV,hT⟩:=zit (n:=0) (m:=1) (cs:=[]) (xs:=[]) (news:=[v]) (ds:=[x]) ed ap (by rw[←hH.len];simp) (World.ownsRow_nil w B e 1) ar (.inr ⟨rfl,bu⟩) (by omega) trivial ⟨hE.arel hv,trivial⟩;rw[aw];refine⟨_,G',_,hE.trans ep,aV,hT,?_⟩;simpa using hk
 ·rename_i x y;obtain⟨⟨bC,hy1⟩,hk⟩:=h;have dz:=zdU (w:=w) (G:=G) z;have dA:z.cells.size=2:=by have:=dz.length;simp at this;omega
  obtain⟨u,v,rfl,hu,hv⟩:∃ u v,af=#[(0,.agg #[u,v])]∧ARel w G u x∧ARel w G v y:=by
   match af,hr with
   | ⟨[(i,p)]⟩,⟨⟨h1,h2⟩,_⟩=>
    have h1:i=0:=h1;subst h1;obtain⟨us,rfl,h3⟩:=h2
    match us,h3 with
    | ⟨[u,v]⟩,⟨h4,h5,_⟩=>exact⟨u,v,rfl,h4,h5⟩
    | ⟨[]⟩,h3=>exact h3.elim
    | ⟨[_]⟩,h3=>exact h3.2.elim
    | ⟨_::_::_::_⟩,h3=>exact h3.2.2.elim
   | ⟨[]⟩,hr=>exact hr.elim
   | ⟨_::_::_⟩,hr=>exact hr.2.elim
  have aw:((do pure (.value (←Instr.buildSlice t 1 #[(0,.agg #[u,v])]))):Sem Next).run P w=.ok (.value (.slice (some ⟨w.heap.size,0,none⟩) 1 1)) (w.alloc (.cells #[u,v] e)):=by
   have dV:Instr.fill (λi=>some (i*2,2)) ((Array.range (1*2)).map λx=>z.cells[x % z.cells.size]!) [(0,.agg #[u,v])]=some #[u,v]:=by
    have hs:((Array.range (1*2)).map λx=>z.cells[x % z.cells.size]!).size=2:=by simp
    have lN:(Value.agg #[u,v]).cells=#[u,v]:=rfl;unfold Instr.fill;simp only[lN,hs];simp[Instr.fill];refine Array.ext (by simp) λi h1 h2=>?_;have:i=0∨i=1:=by simp at h2;omega
    rcases this with rfl | rfl <;> simp
   simp[Instr.buildSlice,zaZ (zb6 he),zbV hn,ze2 hz,newRow,World.alloc_eq,Nat.one_mul]at dV ⊢;simp[dV]
  obtain⟨hE,ed⟩:=hH.newVec0 e 2;have ap:(H++[.vec e 2 0 []])[H.length]?=some (.vec e 2 0 []):=by simp
  have bu:GrB w (w.alloc (.cells #[u,v] e)) none:=⟨Nat.le_refl _,rfl,rfl,rfl,by simp,λk hk _=>zcN (w:=w) hk⟩;have ar:(w.alloc (.cells #[u,v] e)).ownsRow B e 2 (.slice (some ⟨w.heap.size,0,none⟩) (0+1) 1) (0+1) ([]++[u,v]):=
   ⟨rfl,.inr ⟨w.heap.size,1,#[u,v],rfl,hH.base,zds (w:=w) _,by omega,by simp[maxLen],rfl,rfl⟩⟩
  obtain⟨G',ep,aV,hT⟩:=zit (n:=0) (m:=1) (cs:=[]) (xs:=[]) (news:=[u,v]) (ds:=[x,y]) ed ap (by rw[←hH.len];simp) (World.ownsRow_nil w B e 2) ar (.inr ⟨rfl,bu⟩) (by omega) trivial ⟨hE.arel hu,hE.arel hv,trivial⟩;rw[aw];refine⟨_,G',_,hE.trans ep,aV,hT,?_⟩;simpa using hk
 ·exact h.elim
theorem zyr {x:AV} {v:Value} {K:Bool→Prop} (hx:TRel w G v x) (h:zgk x K):∃ ad n c b,v=.slice ad n c∧b=ad.isNone∧K b:=by
 unfold zgk at h;split at h
 ·cases hx;exact⟨_,_,_,_,rfl,rfl,h⟩
 ·obtain⟨b,_,rfl⟩:=hx;exact⟨_,_,_,_,rfl,rfl,h⟩
 ·obtain⟨⟨a,cap0,rfl,hb,_⟩,_⟩:=hx;obtain⟨g,hg⟩:=hb (by omega);subst hg;exact⟨_,_,_,_,rfl,rfl,h⟩
 ·have hx:DRel w G.L v _:=hx;cases hx with
  | sl b off cap ag es vs aB=>exact⟨_,_,_,_,rfl,rfl,h⟩
 ·have hx:DRel w G.L v _:=hx;cases hx with
  | slE a cap=>exact⟨a,_,_,_,rfl,rfl,by cases a with | none=>exact h.1 | some _=>exact h.2⟩
  | sl b off cap ag es vs aB=>exact absurd rfl aB
 ·exact h.elim
theorem zJs {op:BinOp} {t:TypeId} {xo yo:Operand} {u:Value} {x:AV} {a:Act} {K:AV→Prop} (hx:TRel w G u x) (hy:zpS yo=true) (h:zg8 (zrJ P t) op x K) :
  ∃ r,((do eqGuard op t xo yo u (a.eval yo);binOp op t u (a.eval yo)):Sem Value).run P w=.ok r w∧∃ av,TRel w G r av∧K av:=by
 obtain⟨ht,h⟩:=h;obtain⟨e,hu⟩:∃ e,P.underlying t=some (.slice e):=by
  unfold zrJ at ht;split at ht
  ·exact⟨_,by assumption⟩
  ·cases ht
 obtain rfl:yo=.const (.slice none 0 0):=by
  unfold zpS at hy;split at hy
  ·rfl
  ·cases hy
 have he:a.eval (.const (.slice none 0 0))=.slice none 0 0:=rfl;rw[he];have key:∀ ad n c,(Op.equal t (.slice ad n c) (.slice none 0 0)).run P w=.ok ad.isNone w:=λad n c=>by have hm:Op.equal t (.slice ad n c) (.slice none 0 0)=Op.equalIn (9999+1) t (.slice ad n c) (.slice none 0 0):=rfl;rw[hm];unfold Op.equalIn;cases ad <;> simp only[Sem.run_bind,zaZ hu,Result.andThen_ok,Sem.run_pure,Option.isNone_none,Option.isNone_some]
 split at h
 ·obtain⟨ad,n,c,b,rfl,rfl,hk⟩:=zyr hx h;exact⟨.bool ad.isNone,by rw[show eqGuard .eql t xo (.const (.slice none 0 0)) (.slice ad n c) (.slice none 0 0)=pure () from rfl];simp[binOp,key],.bool ad.isNone,rfl,hk⟩
 ·obtain⟨ad,n,c,b,rfl,rfl,hk⟩:=zyr hx h;exact⟨.bool (!ad.isNone),by rw[show eqGuard .neq t xo (.const (.slice none 0 0)) (.slice ad n c) (.slice none 0 0)=pure () from rfl];simp[binOp,key],.bool (!ad.isNone),rfl,hk⟩
 ·exact h.elim
theorem zH0 {w:World} {base:Nat} {e:TypeId} {size g cap n k:Nat} {xs:List Value} (h:w.ownsRow base e size (.slice (some ⟨g,0,none⟩) n cap) n xs) (hk:k≤n) :
  w.ownsRow base e size (.slice (some ⟨g,0,none⟩) k cap) k (xs.take (k*size)):=by
 obtain⟨h1,h2⟩:=h;rcases h2 with ⟨h0,_⟩ | ⟨g',cap',cur,hv,hg,hh,hn,aL,aD,bp⟩
 ·cases h0
 ·cases hv;have hm:k*size≤n*size:=Nat.mul_le_mul_right _ hk;refine⟨by rw[List.length_take,h1];omega,.inr ⟨g,cap,cur,rfl,hg,hh,by omega,aL,aD,?_⟩⟩;rw[←bp,List.take_take,Nat.min_eq_left hm]
theorem HRel.pop (h:HRel B w G H) {id e size n k:Nat} {cs:List AV} {v0 v:Value} (ap:H[id]?=some (.vec e size n cs)) (hμ:G.μ[id]?=some (.own v0 size n))
  (hv:(v0=.slice none 0 0∧v=.slice none 0 0∧k=0)∨∃ g cap,v0=.slice (some ⟨g,0,none⟩) n cap∧v=.slice (some ⟨g,0,none⟩) k cap) (hk:k≤n) :
  ∃ G',Ext B w G w G'∧HRel B w G' (H.set id .dead++[.vec e size k (cs.take (k*size))])∧G'.μ[H.length]?=some (.own v size k):=by
 have be:=(List.getElem?_eq_some_iff.1 ap).1;have hml:id<G.μ.length:=by rw[h.len];exact be
 have er:∀ b,v.ownBlock=some b→v0.ownBlock=some b:=λb hb=>by rcases hv with ⟨rfl,rfl,_⟩ | ⟨g,cap,rfl,rfl⟩ <;> exact hb
 have aA:∀ (j:Nat) gi,(G.μ.set id (.own (.slice none 0 0) size (n+1))++[.own v size k])[j]?=some gi →
   (j≠id∧j<H.length∧G.μ[j]?=some gi)∨(j=id∧gi=.own (.slice none 0 0) size (n+1))∨(j=H.length∧gi=.own v size k):=λj gi hj=>by
  by_cases aQ:j<H.length
  ·rw[List.getElem?_append_left (by rw[List.length_set,h.len];exact aQ)]at hj;by_cases cY:j=id
   ·subst cY;rw[List.getElem?_set_self hml]at hj;cases hj;exact .inr (.inl ⟨rfl,rfl⟩)
   ·rw[List.getElem?_set_ne (λh=>cY h.symm)]at hj;exact .inl ⟨cY,aQ,hj⟩
  ·have fI:=(List.getElem?_eq_some_iff.1 hj).1;simp[h.len]at fI;obtain rfl:j=H.length:=by omega
   rw[List.getElem?_append_right (by simp[h.len])]at hj;simp[h.len]at hj;exact .inr (.inr ⟨rfl,hj.symm⟩)
 have he:Ext B w G w ⟨G.L,G.μ.set id (.own (.slice none 0 0) size (n+1))++[.own v size k]⟩:=by
  refine⟨Nat.le_refl _,Below.refl _ _,λ_=>Nat.le_refl _,λ_ _ _=>rfl,λj gi hj=>?_⟩;have aQ:=(List.getElem?_eq_some_iff.1 hj).1;by_cases cY:j=id
  ·subst cY;rw[hμ]at hj;cases hj;exact⟨_,by rw[List.getElem?_append_left (by simpa using aQ),List.getElem?_set_self aQ],(show GI.le (.own v0 size n) (.own (.slice none 0 0) size (n+1)) from ⟨rfl,.inr (by omega)⟩)⟩
  ·exact⟨gi,by rw[List.getElem?_append_left (by simpa using aQ),List.getElem?_set_ne (λh=>cY h.symm)];exact hj,gi.le_refl⟩
 refine⟨_,he,⟨by simp[h.len],λj ab gi k1 k2=>?_,λj j' gi gi' b k1 k2 k3 k4=>?_,h.fresh,λj gi b k1 k2=>?_,h.base⟩,by simp[←h.len]⟩
 ·rcases aA j gi k2 with ⟨cY,aQ,hj⟩ | ⟨rfl,rfl⟩ | ⟨rfl,rfl⟩
  ·rw[List.getElem?_append_left (by simpa using aQ),List.getElem?_set_ne (λh=>cY h.symm)]at k1;exact (h.ok j ab gi k1 hj).keep he (λx hx=>⟨rfl,rfl⟩)
  ·rw[List.getElem?_append_left (by simpa using be),List.getElem?_set_self be]at k1;cases k1;exact λb hb=>by simp[Value.ownBlock]at hb
  ·rw[List.getElem?_append_right (by simp)]at k1;simp at k1;subst k1;obtain⟨_,_,⟨xs,ar,aN⟩,hL⟩:=h.ok id _ _ ap hμ;refine⟨rfl,rfl,⟨xs.take (k*size),?_,(aN.take _).mono λ_ _=>he.arel⟩,λb hb=>hL b (er b hb)⟩;rcases hv with ⟨rfl,rfl,rfl⟩ | ⟨g,cap,rfl,rfl⟩
   ·have:=World.ownsRow_nil w B e size;simpa using this
   ·exact zH0 ar hk
 ·rcases aA j gi k1 with ⟨cY,aQ,hj⟩ | ⟨rfl,rfl⟩ | ⟨rfl,rfl⟩ <;> rcases aA j' gi' k2 with ⟨hji',hjl',gC⟩ | ⟨rfl,rfl⟩ | ⟨rfl,rfl⟩
  ·exact h.dist j j' gi gi' b hj gC k3 k4
  ·simp[GI.block,Value.ownBlock]at k4
  ·exact (cY (h.dist j id gi _ b hj hμ k3 (er b k4))).elim
  ·simp[GI.block,Value.ownBlock]at k3
  ·rfl
  ·simp[GI.block,Value.ownBlock]at k3
  ·exact (hji' (h.dist j' id gi' _ b gC hμ k4 (er b k3))).elim
  ·simp[GI.block,Value.ownBlock]at k4
  ·rfl
 ·rcases aA j gi k1 with ⟨cY,aQ,hj⟩ | ⟨rfl,rfl⟩ | ⟨rfl,rfl⟩
  ·exact h.lt j gi b hj k2
  ·simp[GI.block,Value.ownBlock]at k2
  ·exact h.lt id _ b hμ (er b k2)
theorem zJu {t:TypeId} {size:Nat} {v hv:Value} {x hi:AV} {K:AV→zaa→Prop} (hH:HRel B w G H) (hx:TRel w G v x) (d8:TRel w G hv hi) (ht:zdF P t=some 1) (hs:(za6 P t).bind (zaX P)=some size)
  (h:zo6 size x hi H K):OpOK P B w G K (((do pure (.value (←Instr.sliceAt t v none (some hv) none))):Sem Next).run P w):=by
 unfold zo6 at h;split at h
 ·rename_i id n;split at h
  ·rename_i e s n' cs kk k ap;obtain⟨⟨⟨rfl,rfl⟩,df,cI⟩,hK⟩:=h;cases d8;obtain⟨⟨ad,cap0,rfl,hcap0⟩,v',s',n'',hμ,aS,heq⟩:=hx;obtain⟨rfl,rfl,⟨xs,ar,aN⟩,hL⟩:=hH.ok id _ _ ap hμ;obtain rfl:=heq rfl;cases he:za6 P t with
   | none=>simp[he]at hs
   | some e1=>
    simp only[he,Option.bind_some]at hs;have hkn':k.toNat≤n':=by omega
    obtain⟨_,bi⟩:=ar;rcases bi with ⟨h0,h00⟩ | ⟨g,cap,cur,h0,hB,hw,aL,bO,fV,bk⟩
    ·cases h0;have iV:k.toNat=0:=by omega
     have hb:=zfG (P:=P) (w:=w) (isS:=true) (len:=0) (cap:=0) (lo:=none) (hi:=some (.int kk k)) (l:=0) (h:=0) (.inr ⟨kk,k,rfl,df,iV.symm⟩) (.inl ⟨rfl,rfl⟩) (Nat.le_refl _) (Nat.le_refl _);obtain⟨G',hE,aV,hm⟩:=hH.pop (k:=k.toNat) (v:=.slice none 0 0) ap hμ (.inl ⟨rfl,rfl,iV⟩) (by omega);have hr:(Instr.sliceAt t (.slice none 0 0) none (some (.int kk k)) none).run P w=.ok (.slice none 0 0) w:=by simp[Instr.sliceAt,Instr.slice,Sem.run_bind,zaZ (zb6 he),hb,zbV hs]
     rw[Sem.run_bind,hr];refine⟨_,G',_,hE,aV,?_,hK⟩;rw[iV]at hm ⊢;exact⟨⟨none,0,rfl,λh=>absurd h (by omega),by omega⟩,_,_,0,hm,Nat.le_refl _,λ_=>rfl⟩
    ·cases h0;have hb:=zfG (P:=P) (w:=w) (isS:=true) (len:=n') (cap:=cap0) (lo:=none) (hi:=some (.int kk k)) (l:=0) (h:=k.toNat) (.inr ⟨kk,k,rfl,df,rfl⟩) (.inl ⟨rfl,rfl⟩) (Nat.zero_le _) (by omega);obtain⟨G',hE,aV,hm⟩:=hH.pop (k:=k.toNat) (v:=.slice (some ⟨g,0,none⟩) k.toNat cap0) ap hμ (.inr ⟨g,cap0,rfl,rfl⟩) (by omega);have hr:(Instr.sliceAt t (.slice (some ⟨g,0,none⟩) n' cap0) none (some (.int kk k)) none).run P w=.ok (.slice (some ⟨g,0,none⟩) k.toNat cap0) w:=by simp[Instr.sliceAt,Instr.slice,Sem.run_bind,zaZ (zb6 he),hb,zbV hs,add_lit]
     rw[Sem.run_bind,hr];refine⟨_,G',_,hE,aV,?_,hK⟩;exact⟨⟨some ⟨g,0,none⟩,cap0,rfl,λh=>⟨g,rfl⟩,by omega⟩,_,_,_,hm,Nat.le_refl _,λ_=>rfl⟩
  ·exact h.elim
 ·exact zci hH (zrA (lo:=none) (hi:=some hv) (alo:=none) (ahi:=some hi) hx trivial ⟨d8,trivial⟩ ht (λ_=>hs) h)
theorem HRel.newMade (h:HRel B w G H) (vs:Array Value) (e:TypeId) (size cap:Nat) (hs:vs.size=cap*size) (hm:cap≤maxLen) :
  Ext B w G (w.alloc (.cells vs e)) ⟨G.L,G.μ++[.own (.slice (some ⟨w.heap.size,0,none⟩) 0 cap) size 0]⟩∧HRel B (w.alloc (.cells vs e)) ⟨G.L,G.μ++[.own (.slice (some ⟨w.heap.size,0,none⟩) 0 cap) size 0]⟩ (H++[.vec e size 0 []]):=by
 have he:=Ext.alloc h (.cells vs e) G.L (λ_ _=>rfl) [.own (.slice (some ⟨w.heap.size,0,none⟩) 0 cap) size 0];refine⟨he,?_⟩;have split:∀ (id:Nat) gi,(G.μ++[.own (.slice (some ⟨w.heap.size,0,none⟩) 0 cap) size 0])[id]?=some gi→G.μ[id]?=some gi∨(id=G.μ.length∧gi=.own (.slice (some ⟨w.heap.size,0,none⟩) 0 cap) size 0):=by
  intro id gi hg;by_cases ak:id<G.μ.length
  ·rw[List.getElem?_append_left ak]at hg;exact .inl hg
  ·have aY:=(List.getElem?_eq_some_iff.1 hg).1;simp at aY;have:id=G.μ.length:=by omega
   subst this;simp at hg;exact .inr ⟨rfl,hg.symm⟩
 refine⟨by simp[h.len],?_,?_,?_,?_,?_⟩
 ·intro id ab gi h1 h2;rcases split id gi h2 with h2 | ⟨rfl,rfl⟩
  ·have ak:id<H.length:=by rw[←h.len];exact (List.getElem?_eq_some_iff.1 h2).1
   rw[List.getElem?_append_left ak]at h1;exact (h.ok id ab gi h1 h2).keep he (λb hb=>⟨zcN (h.lt id gi b h2 hb),rfl⟩)
  ·rw[h.len]at h1;simp at h1;subst h1;refine⟨rfl,rfl,⟨[],World.ownsRow_made w vs cap h.base hm hs,trivial⟩,λb hb=>?_⟩;simp[Value.ownBlock]at hb;subst hb;exact h.fresh _ (Nat.le_refl _)
 ·intro id id' gi gi' b h1 h2 h3 h4;rcases split id gi h1 with h1 | ⟨rfl,rfl⟩ <;> rcases split id' gi' h2 with h2 | ⟨rfl,rfl⟩
  ·exact h.dist id id' gi gi' b h1 h2 h3 h4
  ·have:=h.lt id gi b h1 h3;simp[GI.block,Value.ownBlock]at h4;omega
  ·have:=h.lt id' gi' b h2 h4;simp[GI.block,Value.ownBlock]at h3;omega
  ·rfl
 ·intro b hb;rw[zb7]at hb;exact h.fresh b (by omega)
 ·intro id gi b h1 h2;rw[zb7];rcases split id gi h1 with h1 | ⟨rfl,rfl⟩
  ·have:=h.lt id gi b h1 h2;omega
  ·simp[GI.block,Value.ownBlock]at h2;omega
 ·rw[zb7];have:=h.base;omega
theorem zJp {t e:TypeId} {size bytes:Nat} {z:Value} {vc:Value} {c:AV} {K:AV→zaa→Prop} (hH:HRel B w G H) (he:za6 P t=some e) (hn:zaX P e=some size) (bt:zc7 P e=some bytes)
  (hz:zbz P e=some z) (h0:0<size) (gD:(zbw z).length=size) (hc:TRel w G vc c) (h:zeJ e size bytes c H K) :
  OpOK P B w G K (((do pure (.value (←Instr.makeSlice t (.int .i64 0) vc))):Sem Next).run P w):=by
 unfold zeJ at h;split at h
 ·rename_i c;cases hc;obtain⟨⟨h2,h3,h4⟩,hk⟩:=h;have dz:=zdU (w:=w) (G:=G) z;have dA:z.cells.size=size:=by have:=dz.length;simp at this;omega
  unfold zaX at hn;unfold zbz at hz;unfold zc7 at bt;cases hi:P.info? e with
  | none=>simp[hi]at hn
  | some i=>
   simp[hi]at hn hz bt;have hr:=run_make (P:=P) w t e i z (zb6 he) hi hz .i64 .i64 0 c (by omega) h2 (by rw[bt,Int.mul_comm];omega) h4;have hm:=(zpY dz (by omega) c.toNat).length;rw[hn]at hr;obtain⟨hx,aV⟩:=hH.newMade (madeCells z.cells (c.toNat*size)) e size c.toNat (by simp[madeCells]) (by simp[maxLen];omega);have aw:((do pure (.value (←Instr.makeSlice t (.int .i64 0) (.int .i64 c)))):Sem Next).run P w=.ok (.value (.slice (some ⟨w.heap.size,0,none⟩) 0 c.toNat)) (w.alloc (.cells (madeCells z.cells (c.toNat*size)) e)):=by rw[Sem.run_bind,hr];rfl
   rw[aw];refine⟨.ov H.length 0,_,_,hx,aV,⟨⟨_,_,rfl,(λh=>by omega),by omega⟩,.slice (some ⟨w.heap.size,0,none⟩) 0 c.toNat,size,0,?_,Nat.le_refl _,λ_=>rfl⟩,hk⟩;rw[←hH.len];simp
 ·exact h.elim
theorem zHQ {o:Oper} {a:Act} {F:List AV} {K:AV→zaa→Prop} (hH:HRel B w G H) (hF:FRel w G a.tmps F) (h:zpe P o F H K):OpOK P B w G K ((execOp a.eval o).run P w):=by
 unfold zpe at h;split at h
 ·rename_i t len af bx;obtain⟨dst,op,type,pos,after,guard⟩:=o;simp only[]at bx;subst bx;simp only[execOp];split at h
  ·rename_i e he;split at h
   ·rename_i size z hs hz;split at h
    ·rename_i hb;exact zI9 hH he hs hz (by simpa using hb) (by simpa using zrc hF af.toList) h
    ·exact h.elim
   ·exact h.elim
  ·exact h.elim
 ·rename_i op t x y pos bx;obtain⟨dst,op0,type,pos0,after,guard⟩:=o;simp only[]at bx;subst bx;split at h
  ·rename_i hy;simp only[execOp];exact zci hH (zJs (a:=a) (zaO hF x) hy h)
  ·exact zfC hH hF h
 ·rename_i t l c bx;obtain⟨dst,op0,type,pos0,after,guard⟩:=o;simp only[]at bx;subst bx;split at h
  ·rename_i hl;simp only[execOp];split at h
   ·rename_i e he;split at h
    ·rename_i size bytes z hs bt hz;split at h
     ·rename_i hb;simp at hb;have dc:a.eval l=.int .i64 0:=by
       unfold zxO at hl;split at hl
       ·rfl
       ·cases hl
      rw[dc];exact zJp hH he hs bt hz hb.1 hb.2 (zaO hF c) h
     ·exact h.elim
    ·exact h.elim
   ·exact h.elim
  ·exact zfC hH hF h
 ·rename_i t x hi bx;obtain⟨dst,op0,type,pos0,after,guard⟩:=o;simp only[]at bx;subst bx;split at h
  ·rename_i ht;split at h
   ·rename_i size hs;exact zJu hH (zaO hF x) (zaO hF hi) ht hs h
   ·exact h.elim
  ·exact h.elim
 ·exact zfC hH hF h
theorem zza {aj:Array Oper} {K:List AV→zaa→Prop} {Q:Exit→Act→World→Prop} {w0:World} {G0:Gh}
  (hQ:∀ a w G F H,Ext B w0 G0 w G→HRel B w G H→FRel w G a.tmps F→a.defers=[]→K F H→Q .normal a w) :
  ∀ (l:List Oper) (F:List AV) (H:zaa) (a:Act) (w:World) (G:Gh),Ext B w0 G0 w G→HRel B w G H→FRel w G a.tmps F→a.defers=[]→zig P l K F H→wpList P aj Q l a w
 | [],F,H,a,w,G,hE,hH,hF,hd,h=>hQ a w G F H hE hH hF hd h
 | o::l,F,H,a,w,G,hE,hH,hF,hd,h=>by
  refine wpList_step λK' cK=>?_;unfold zig at h;split at h
  ·rename_i hg;rw[if_pos (by simp[Region.wanted,hg])];exact zh8 hF (zHQ hH hF h) λv av w' G' H' h1 h2 h3 h4=>
    cK _ _ (zza hQ l _ _ _ _ G' (hE.trans h1) h2 ((hF.ext h1).put h3) (by cases dh:o.dst <;> simpa[Act.put,dh]using hd) h4)
  ·exact h.elim
theorem zrr {aj:Array Oper} {K:List AV→zaa→Prop} {Q:Exit→Act→World→Prop} {w0:World} {G0:Gh}
  (hQ:∀ a w G F H,Ext B w0 G0 w G→HRel B w G H→FRel w G a.tmps F→a.defers=[]→K F H→Q .normal a w) :
  ∀ (l:List Oper) (F:List AV) (H:zaa) (a:Act) (w:World) (G:Gh),Ext B w0 G0 w G→HRel B w G H→FRel w G a.tmps F→a.defers=[]→ze1 P aj l K F H→wpList P aj Q l a w
 | [],F,H,a,w,G,hE,hH,hF,hd,h=>hQ a w G F H hE hH hF hd h
 | o::l,F,H,a,w,G,hE,hH,hF,hd,h=>by
  have go:∀ (K':Act→World→Prop),(∀ a w,wpList P aj Q l a w→K' a w)→zhd P o F H (λv H'=>ze1 P aj l K (zbP F o.dst v) H')→o.wp P a w K' Q:=λK' cK bx=>
   zh8 hF (zHN hH hF bx) λv av w' G' H' h1 h2 h3 h4=>
    cK _ _ (zrr hQ l _ _ _ _ G' (hE.trans h1) h2 ((hF.ext h1).put h3) (by cases dh:o.dst <;> simpa[Act.put,dh]using hd) h4)
  have skip:∀ (K':Act→World→Prop),(∀ a w,wpList P aj Q l a w→K' a w)→ze1 P aj l K (zbP F o.dst (.tup [])) H→K' (a.put o.dst undef) w:=λK' cK bx=>
   cK _ _ (zrr hQ l _ _ _ _ G hE hH (hF.put zrT) (by cases dh:o.dst <;> simpa[Act.put,dh]using hd) bx)
  refine wpList_step λK' cK=>?_;unfold ze1 at h;split at h
  ·rename_i hg;rw[if_pos (by simp[Region.wanted,hg])];exact go K' cK h
  ·rename_i j want hg;split at h
   ·rename_i d fJ;unfold zad zdq at h;split at h
    ·rename_i b hb;rw[zrX hF hg fJ hb];unfold aIf at h;split at h
     ·rename_i hw;rw[if_pos hw];exact go K' cK h
     ·rename_i hw;rw[if_neg hw];exact skip K' cK h
    ·rename_i hb;rw[zAm hF hg fJ hb,if_neg (by simp)];exact skip K' cK h
    ·exact h.elim
   ·exact h.elim


theorem zFY {o:Oper} {F F':List AV} {K:AV→zaa→Prop} (h:∀ x∈o.op.operands,ev F x=ev F' x):zdt P o F H K=zdt P o F' H K:=by
 obtain⟨dst,op,type,pos,after,guard⟩:=o;have pairs:∀ ps:Array (Nat × Operand),(∀ x∈ps.toList.map (·.2),ev F x=ev F' x)→(ps.toList.map λp=>(p.1,ev F p.2))=(ps.toList.map λp=>(p.1,ev F' p.2)):=λps hp=>
  List.map_congr_left λp hm=>by rw[hp p.2 (List.mem_map.2 ⟨p,hm,rfl⟩)]
 cases op <;> simp only[Op.operands]at h <;> simp only[zdt]
 case build t ps=>rw[pairs ps (by simpa using h)]
 case buildSlice t n ps=>rw[pairs ps (by simpa using h)]
 case makeFunc fn first caps=>
  cases fn <;> simp only[]
  rw[List.map_congr_left (l:=caps.toList) (λx hx=>h x (Array.mem_append.2 (.inr (by simpa using hx))))]
 case slice t x lo hi mx=>
  cases mx <;> simp only[]
  have hx:=h x (by simp);have d9:lo.map (ev F)=lo.map (ev F'):=by cases lo <;> simp_all
  have d8:hi.map (ev F)=hi.map (ev F'):=by cases hi <;> simp_all
  rw[hx,d9,d8]
 case call c=>
  cases hc:c.callee with
  | value f=>have hf:=h f (by simp[Call.operands,hc]);have ha:c.args.toList.map (ev F)=c.args.toList.map (ev F'):=List.map_congr_left λx hx=>h x (by simp[Call.operands,hc];exact .inr (by simpa using hx));simp only[hf,ha]
  | builtin b=>
   have ha:∀ x∈c.args.toList,ev F x=ev F' x:=λx hx=>h x (by simp[Call.operands,hc];simpa using hx);cases b <;> simp only[zeI]
   all_goals
    split
    ·first
     | (rename_i bo _
        rw[bo]at ha;simp only[List.mem_cons,List.not_mem_nil,or_false,forall_eq_or_imp,forall_eq]at ha;simp only[ha])
     | (rename_i bo
        rw[bo]at ha;simp only[List.mem_cons,List.not_mem_nil,or_false,forall_eq_or_imp,forall_eq]at ha;simp only[ha])
    ·rfl
  | invoke r m=>rfl
 all_goals (first | rfl | (simp_all;done))

theorem zF1 {o:Oper} {F F':List AV} {K:AV→zaa→Prop} (h:∀ x∈o.op.operands,ev F x=ev F' x):zeL P o.op F H K=zeL P o.op F' H K:=by
 obtain⟨dst,op,type,pos,after,guard⟩:=o;cases op <;> simp only[Op.operands]at h <;> simp only[zeL]
 all_goals (first | rfl | (simp_all;done))
theorem zF2 {o:Oper} {F F':List AV} {K:AV→zaa→Prop} (h:∀ x∈o.op.operands,ev F x=ev F' x):aop P o F H K=aop P o F' H K:=by unfold aop;rw[zF1 h,zFY h]
theorem zF0 {o:Oper} {F F':List AV} {K:AV→zaa→Prop} (h:∀ x∈o.op.operands,ev F x=ev F' x):zbn fl P o F H K=zbn fl P o F' H K:=by
 unfold zbn;split
 ·rename_i t a bx;rw[h a (by rw[bx];simp[Op.operands])]
 ·exact zF2 h
theorem zFZ {o:Oper} {F:List AV} {K:AV→zaa→Prop} (h:zbn fl P o F H K):aop P o F H K:=by
 obtain⟨dst,op,type,pos,after,guard⟩:=o;unfold zbn at h;cases op <;> (try simp only[]at h) <;> (try exact h)
 simp only[aop,isM,zdt];split at h
 ·rename_i g n hg hn;cases fl with
  | true=>exact h
  | false=>
   unfold zo3 zaj at h;simp only[]at h;split at h
   ·exact h.elim
   ·exact h
 ·exact h.elim

theorem zyz {o:Oper} (ho:opF o.op=true) {F:List AV} {r:AV} {H H':zaa} (h:zbn fl P o F H λv H2=>v=r∧H2=H):zbn fl P o F H' λv H2=>v=r∧H2=H':=by
 obtain⟨dst,op,type,pos,after,guard⟩:=o;cases op <;> simp only[opF,Bool.false_eq_true]at ho <;> simp only[zbn,aop,isM,zdt,and_true]at h ⊢
 all_goals first
  | exact h
  | skip
 case call c=>
  cases hc:c.callee with
  | value f=>simp[hc]at ho
  | invoke r m=>simp[hc]at ho
  | builtin b=>
   cases b <;> simp[hc]at ho
   simpa[hc,zeI]using h
 case makeFunc fn first caps=>cases fn <;> simp only[]at h ⊢ <;> try exact h
 case slice t x lo hi mx=>cases mx <;> simp only[]at h ⊢ <;> exact h

theorem zHP {o:Oper} (ho:opW .n o.op=true) {F:List AV} {H:zaa} {K:AV→zaa→Prop} (h:zbn fl P o F H K):∃ v H',(zbn fl P o F H λv2 H2=>v2=v∧H2=H')∧K v H':=by
 obtain⟨dst,op,type,pos,after,guard⟩:=o;cases op <;> simp only[opW,Bool.false_eq_true]at ho <;> simp only[zbn,aop,isM,zdt,zeL]at h ⊢
 case alloc t=>
  split at h
  ·exact⟨_,_,⟨rfl,rfl⟩,h⟩
  ·exact h.elim
 case box t x=>
  unfold zat at h ⊢;split at h
  ·exact⟨_,_,⟨rfl,rfl⟩,h⟩
  ·exact h.elim
 case store t x y=>
  split at h
  ·simp only[zeK]at h ⊢;split at h
   ·split at h
    ·exact⟨_,_,⟨h.1,rfl,rfl⟩,h.2⟩
    ·exact h.elim
   ·split at h
    ·exact⟨_,_,⟨h.1,rfl,rfl⟩,h.2⟩
    ·exact h.elim
   ·exact h.elim
  ·exact h.elim
 case makeSlice t l c=>
  split at h
  ·split at h
   ·unfold zbe at h ⊢;split at h
    ·exact⟨_,_,⟨h.1,rfl,rfl⟩,h.2⟩
    ·exact h.elim
   ·exact h.elim
  ·exact h.elim
 case makeMap t r=>
  split at h
  ·exact⟨_,_,⟨rfl,rfl⟩,h⟩
  ·exact h.elim
 case mapUpdate t m k x=>
  split at h
  ·unfold zcW at h ⊢;split at h
   ·split at h
    ·split at h
     ·exact h.elim
     ·exact⟨_,_,⟨rfl,rfl⟩,h⟩
    ·exact h.elim
   ·exact h.elim
  ·exact h.elim
 case insert t m k x=>
  split at h
  ·unfold zcW at h ⊢;split at h
   ·split at h
    ·split at h
     ·exact h.elim
     ·exact⟨_,_,⟨rfl,rfl⟩,h⟩
    ·exact h.elim
   ·exact h.elim
  ·exact h.elim
 case call c=>
  cases hc:c.callee with
  | value f=>simp[hc,WM.on]at ho
  | invoke r m=>simp[hc]at ho
  | builtin b=>
   cases b <;> simp[hc]at ho
   case append=>
    simp only[hc,zeI]at h ⊢;split at h
    ·split at h
     ·split at h
      ·obtain⟨r,H',k1,k2⟩:=zFz h;exact⟨r,H',k1,k2⟩
      ·exact h.elim
     ·exact h.elim
    ·exact h.elim
   case copy=>
    simp only[hc,zeI]at h ⊢;split at h
    ·split at h
     ·unfold zfe at h ⊢;split at h
      ·split at h
       ·rename_i aN;exact⟨_,_,⟨h.1,rfl,rfl⟩,h.2⟩
       ·exact h.elim
      ·exact h.elim
     ·exact h.elim
    ·exact h.elim

def TrOK (fl:Bool) (P:Program) (aj:Array Oper) (H:zaa) (F:List AV) (o:Oper) (r:AV) (H':zaa):Prop:=
 match o.guard with
 | none=>zbn fl P o F H λv H2=>v=r∧H2=H'
 | some (j,want)=>∃ d,(aj[j]?).bind (·.dst)=some d ∧
   ((∃ b,F.getD d .unk=.bool b∧(b == want)=true∧zbn fl P o F H λv H2=>v=r∧H2=H') ∨
    (∃ b,F.getD d .unk=.bool b∧(b == want)=false∧r=.tup []∧H'=H)∨(F.getD d .unk=.tup []∧r=.tup []∧H'=H))

theorem TrOK.congr {aj:Array Oper} {F F':List AV} {o:Oper} {r:AV} {H':zaa} (h:∀ s∈zet aj o,F.getD s .unk=F'.getD s .unk) (ht:TrOK fl P aj H F o r H'):TrOK fl P aj H F' o r H':=by
 have lO:∀ x∈o.op.operands,ev F x=ev F' x:=λx hx=>by
  cases x with
  | tmp t=>exact h t (by simp only[zet,List.mem_append,List.mem_filterMap];exact .inl ⟨.tmp t,by simpa using hx,rfl⟩)
  | _=>rfl
 have bx:(zbn fl P o F H λv H2=>v=r∧H2=H')=zbn fl P o F' H λv H2=>v=r∧H2=H':=zF0 lO;unfold TrOK at *;split at ht
 ·rw[←bx];exact ht
 ·rename_i j want hg;obtain⟨d,hd,ht⟩:=ht;have hs:=h d (by simp[zet,hg,hd]);refine⟨d,hd,?_⟩;rw[←hs,←bx];exact ht

theorem TrOK.free {aj:Array Oper} {F:List AV} {o:Oper} {r:AV} {H H':zaa} (ho:opF o.op=true) (ht:TrOK fl P aj H F o r H):TrOK fl P aj H' F o r H':=by
 unfold TrOK at *;split at ht
 ·exact zyz ho ht
 ·obtain⟨d,hd,ht⟩:=ht;refine⟨d,hd,?_⟩;rcases ht with ⟨b,h1,h2,h3⟩ | ⟨b,h1,h2,h3,_⟩ | ⟨h1,h2,_⟩
  ·exact .inl ⟨b,h1,h2,zyz ho h3⟩
  ·exact .inr (.inl ⟨b,h1,h2,h3,rfl⟩)
  ·exact .inr (.inr ⟨h1,h2,rfl⟩)

inductive TrL (fl:Bool) (wc:WM) (P:Program) (aj:Array Oper):List Oper→List AV→zaa→List AV→List zaa→List AV→zaa→Prop
 | nil (F:List AV) (H:zaa):TrL fl wc P aj [] F H [] [] F H
 | cons {o:Oper} {os:List Oper} {F rs Fn:List AV} {r:AV} {H H' Hn:zaa} {hs:List zaa} (h:TrOK fl P aj H F o r H') (hw:opW wc o.op=false→H'=H) (hx:opC wc o.op=true→∀ J,TrOK fl P aj (H++J) F o r (H++J)) (bu:opG wc o.op=true→GrowA H H') (t:TrL fl wc P aj os (zbP F o.dst r) H' rs hs Fn Hn):TrL fl wc P aj (o::os) F H (r::rs) (H'::hs) Fn Hn

theorem zxj {o:Oper} {gr:Bool} (ho:opW wc o.op=true) (hg:wc=.n→gr=false) {F:List AV} {H:zaa} {K:AV→zaa→Prop} (h:zdJ wc gr H (zbn fl P o F H) K):∃ v H',(zbn fl P o F H λv2 H2=>v2=v∧H2=H')∧(gr=true→GrowA H H')∧K v H':=by
 cases wc with
 | n=>obtain⟨v,H',h1,h2⟩:=zHP ho h;exact⟨v,H',h1,(λh=>by rw[hg rfl]at h;cases h),h2⟩
 | w=>exact h
 | g=>exact h
 | c=>exact h
theorem zyA (op:Op):opG .n op=false:=by
 cases op <;> try rfl
 rename_i c;cases hc:c.callee <;> simp[opG,hc,WM.gr]
theorem zHL {op:Op} (h:opW wc op=false):opG wc op=false:=by
 cases op <;> try rfl
 rename_i c;cases hc:c.callee with
 | value f=>cases wc <;> simp[opW,opG,hc,WM.on,WM.gr]at h ⊢
 | builtin b=>simp[opG,hc]
 | invoke r m=>simp[opG,hc]
theorem zHK {op:Op} (h:opC wc op=true):opW wc op=false:=by
 cases op <;> simp only[opC,Bool.false_eq_true]at h
 rename_i c;cases hc:c.callee with
 | value f=>simpa[opW,hc]using h
 | builtin b=>simp[hc]at h
 | invoke r m=>simp[hc]at h
theorem zc4 {aj:Array Oper} {K:List AV→zaa→Prop}:∀ (l:List Oper) (F:List AV) (H:zaa),zcS fl wc P aj l K F H→∃ rs hs Fn Hn,TrL fl wc P aj l F H rs hs Fn Hn∧K Fn Hn
 | [],F,H,h=>⟨[],[],F,H,.nil F H,h⟩
 | o::l,F,H,h=>by
  unfold zcS at h;have noC:∀ {p:Prop},opC wc o.op=false→opC wc o.op=true→p:=λh1 h2=>by rw[h1]at h2;cases h2
  have noG:∀ {p:Prop},opW wc o.op=false→opG wc o.op=true→p:=λh1 h2=>by rw[zHL h1]at h2;cases h2
  have noW:∀ {p:Prop},opW wc o.op=true→opC wc o.op=true→p:=λh1 h2=>by rw[zHK h2]at h1;cases h1
  split at h
  ·rename_i hg;split at h
   ·rename_i hw;split at h
    ·rename_i hc;obtain⟨r,h1,h2⟩:=h;obtain⟨rs,hs,Fn,Hn,h3,h4⟩:=zc4 l _ _ h2;exact⟨r::rs,H::hs,Fn,Hn,.cons (by unfold TrOK;rw[hg];exact h1) (λ_=>rfl) (noC hc) (noG hw) h3,h4⟩
    ·rename_i hc;obtain⟨r,h1,h2⟩:=h;obtain⟨rs,hs,Fn,Hn,h3,h4⟩:=zc4 l _ _ h2;have hx:∀ J,TrOK fl P aj (H++J) F o r (H++J):=λJ=>by unfold TrOK;rw[hg];exact h1 J
     exact⟨r::rs,H::hs,Fn,Hn,.cons (by have:=hx [];rwa [List.append_nil]at this) (λ_=>rfl) (λ_=>hx) (noG hw) h3,h4⟩
   ·rename_i hw;obtain⟨r,H',h1,bu,h2⟩:=zxj hw (λe=>by rw[e];exact zyA _) h;obtain⟨rs,hs,Fn,Hn,h3,h4⟩:=zc4 l _ _ h2;exact⟨r::rs,H'::hs,Fn,Hn,.cons (by unfold TrOK;rw[hg];exact h1) (λh0=>by rw[hw]at h0;cases h0) (noW hw) bu h3,h4⟩
  ·rename_i j want hg;split at h
   ·rename_i d hd;have yes:∀ b,F.getD d .unk=.bool b→(b == want)=true→∀ {H1 H2:zaa} {r:AV},(zbn fl P o F H1 λv H3=>v=r∧H3=H2)→TrOK fl P aj H1 F o r H2:=λb hb dO _ _ _ h1=>by unfold TrOK;rw[hg];exact⟨d,hd,.inl ⟨b,hb,dO,h1⟩⟩
    have no:∀ b,F.getD d .unk=.bool b→(b == want)=false→∀ H1:zaa,TrOK fl P aj H1 F o (.tup []) H1:=λb hb dO H1=>by unfold TrOK;rw[hg];exact⟨d,hd,.inr (.inl ⟨b,hb,dO,rfl,rfl⟩)⟩
    have nil:F.getD d .unk=.tup []→∀ H1:zaa,TrOK fl P aj H1 F o (.tup []) H1:=λhb H1=>by unfold TrOK;rw[hg];exact⟨d,hd,.inr (.inr ⟨hb,rfl,rfl⟩)⟩
    split at h
    ·rename_i hw;split at h
     ·rename_i hc;unfold zad zdq at h;split at h
      ·rename_i b hb;unfold aIf at h;split at h
       ·rename_i dO;obtain⟨r,h1,h2⟩:=h;obtain⟨rs,hs,Fn,Hn,h3,h4⟩:=zc4 l _ _ h2;exact⟨r::rs,H::hs,Fn,Hn,.cons (yes b hb dO h1) (λ_=>rfl) (noC hc) (noG hw) h3,h4⟩
       ·rename_i dO;obtain⟨rs,hs,Fn,Hn,h3,h4⟩:=zc4 l _ _ h;exact⟨.tup []::rs,H::hs,Fn,Hn,.cons (no b hb (by simpa using dO) H) (λ_=>rfl) (noC hc) (noG hw) h3,h4⟩
      ·rename_i hb;obtain⟨rs,hs,Fn,Hn,h3,h4⟩:=zc4 l _ _ h;exact⟨.tup []::rs,H::hs,Fn,Hn,.cons (nil hb H) (λ_=>rfl) (noC hc) (noG hw) h3,h4⟩
      ·exact h.elim
     ·rename_i hc;unfold zad zdq at h;split at h
      ·rename_i b hb;unfold aIf at h;split at h
       ·rename_i dO;obtain⟨r,h1,h2⟩:=h;obtain⟨rs,hs,Fn,Hn,h3,h4⟩:=zc4 l _ _ h2;have hx:∀ J,TrOK fl P aj (H++J) F o r (H++J):=λJ=>yes b hb dO (h1 J);exact⟨r::rs,H::hs,Fn,Hn,.cons (by have:=hx [];rwa [List.append_nil]at this) (λ_=>rfl) (λ_=>hx) (noG hw) h3,h4⟩
       ·rename_i dO;obtain⟨rs,hs,Fn,Hn,h3,h4⟩:=zc4 l _ _ h;exact⟨.tup []::rs,H::hs,Fn,Hn,.cons (no b hb (by simpa using dO) H) (λ_=>rfl) (λ_ J=>no b hb (by simpa using dO) _) (noG hw) h3,h4⟩
      ·rename_i hb;obtain⟨rs,hs,Fn,Hn,h3,h4⟩:=zc4 l _ _ h;exact⟨.tup []::rs,H::hs,Fn,Hn,.cons (nil hb H) (λ_=>rfl) (λ_ J=>nil hb _) (noG hw) h3,h4⟩
      ·exact h.elim
    ·rename_i hw;unfold zad zdq at h;split at h
     ·rename_i b hb;unfold aIf at h;split at h
      ·rename_i dO;obtain⟨r,H',h1,bu,h2⟩:=zxj hw (λe=>by rw[e];exact zyA _) h;obtain⟨rs,hs,Fn,Hn,h3,h4⟩:=zc4 l _ _ h2;exact⟨r::rs,H'::hs,Fn,Hn,.cons (yes b hb dO h1) (λh0=>by rw[hw]at h0;cases h0) (noW hw) bu h3,h4⟩
      ·rename_i dO;obtain⟨rs,hs,Fn,Hn,h3,h4⟩:=zc4 l _ _ h;exact⟨.tup []::rs,H::hs,Fn,Hn,.cons (no b hb (by simpa using dO) H) (λ_=>rfl) (noW hw) (λ_=>.inl rfl) h3,h4⟩
     ·rename_i hb;obtain⟨rs,hs,Fn,Hn,h3,h4⟩:=zc4 l _ _ h;exact⟨.tup []::rs,H::hs,Fn,Hn,.cons (nil hb H) (λ_=>rfl) (noW hw) (λ_=>.inl rfl) h3,h4⟩
     ·exact h.elim
   ·exact h.elim

def frk:List Oper→List AV→List AV→Nat→List AV
 | _,_,F,0=>F
 | o::os,r::rs,F,i+1=>frk os rs (zbP F o.dst r) i
 | _,_,F,_=>F
def hpk:List zaa→zaa→Nat→zaa
 | _,H,0=>H
 | h::hs,_,i+1=>hpk hs h i
 | [],H,_=>H

theorem TrL.at {aj:Array Oper} {l:List Oper} {F rs Fn:List AV} {H Hn:zaa} {hs:List zaa} (h:TrL fl wc P aj l F H rs hs Fn Hn):rs.length=l.length∧frk l rs F l.length=Fn∧hpk hs H l.length=Hn ∧
  ∀ (i:Nat) o,l[i]?=some o→∃ r,rs[i]?=some r∧TrOK fl P aj (hpk hs H i) (frk l rs F i) o r (hpk hs H (i+1))∧frk l rs F (i+1)=zbP (frk l rs F i) o.dst r∧(opW wc o.op=false→hpk hs H (i+1)=hpk hs H i)∧(opC wc o.op=true→∀ J,TrOK fl P aj (hpk hs H i++J) (frk l rs F i) o r (hpk hs H i++J))∧(opG wc o.op=true→GrowA (hpk hs H i) (hpk hs H (i+1))):=by
 induction h with
 | nil F H=>exact⟨rfl,rfl,rfl,λi o h=>by simp at h⟩
 | cons h hw hx bu t ih=>
  obtain⟨h1,h2,jT,h3⟩:=ih;refine⟨by simp[h1],by simpa[frk]using h2,by simpa[hpk]using jT,λi o' ho=>?_⟩;cases i with
  | zero=>
   simp at ho;subst ho;rename_i os F rs Fn r H H' Hn hs;have e1:hpk (H'::hs) H 1=H':=by cases hs <;> rfl
   refine⟨_,rfl,?_,by simp[frk],λh0=>?_,λh0=>hx h0,λh0=>?_⟩
   ·rw[Nat.zero_add,e1];exact h
   ·rw[Nat.zero_add,e1];exact hw h0
   ·rw[Nat.zero_add,e1];exact bu h0
  | succ i=>obtain⟨r,h4,h5,h6,h7,h8,h9⟩:=h3 i o' (by simpa using ho);exact⟨r,by simpa using h4,by simpa[hpk,frk]using h5,by simpa[frk]using h6,by simpa[hpk]using h7,by simpa[hpk,frk]using h8,by simpa[hpk]using h9⟩

def Grow (H H':zaa):Prop:=H'=H∨(∃ x,H'=H++[x])∨∃ (id:Nat) (a b:AB),H[id]?=some a∧(∀ cs,a≠.cells cs)∧H'=H.set id b
theorem zwj {e s b:Nat} {x r:AV} {ys:List (List AV)} {H H':zaa} (h2:zaJ e s b x ys H λv H2=>v=r∧H2=H'):GrowA H H':=by
 unfold zaJ at h2;split at h2
 ·exact .inr (.inl ⟨_,_,_,h2.2.2.symm⟩)
 ·rename_i es id;exact .inr (.inr (.inl ⟨id,e,s,es.length,_,h2.1,h2.2.2.2.symm⟩))
 ·split at h2
  ·rename_i ap;obtain⟨⟨⟨rfl,rfl,rfl⟩,_⟩,_,he⟩:=h2;exact .inr (.inr (.inr (.inl ⟨_,_,_,_,_,_,_,ap,he.symm⟩)))
  ·exact h2.elim
 ·split at h2
  ·exact .inl h2.2.symm
  ·exact .inr (.inl ⟨_,_,_,h2.2.2.symm⟩)
 ·exact h2.elim
theorem zwh {e s b m:Nat} {x r:AV} {ds:List AV} {H H':zaa} (h:zdW e s b x m ds H λv H2=>v=r∧H2=H'):GrowA H H':=by
 unfold zdW at h;split at h
 ·split at h
  ·rename_i ap;obtain⟨⟨⟨rfl,rfl,rfl⟩,_⟩,_,he⟩:=h;exact .inr (.inr (.inr (.inl ⟨_,_,_,_,_,_,_,ap,he.symm⟩)))
  ·exact h.elim
 ·split at h
  ·exact .inl h.2.symm
  ·exact .inr (.inr (.inr (.inr ⟨_,_,_,_,h.2.2.symm⟩)))
 ·exact h.elim
theorem zFA {e s b:Nat} {x y r:AV} {H H':zaa} (h:zav e s b x y H λv H2=>v=r∧H2=H'):GrowA H H':=by
 unfold zav at h;split at h
 ·split at h
  ·exact zwh h.2
  ·exact h.elim
 ·split at h
  ·exact zwh h.2
  ·exact h.elim
 ·unfold zaM at h;split at h
  ·exact zwj h.2
  ·exact zwj h.2
  ·exact h.elim
theorem GrowA.grow {H H':zaa} (h:GrowA H H'):Grow H H':=by
 rcases h with h | ⟨e,s,n,h⟩ | ⟨id,e,s,n,n',h1,h2⟩ | ⟨id,e,s,n,n',cs,cs',h1,h2⟩ | ⟨e,s,n,cs,h⟩
 ·exact .inl h
 ·exact .inr (.inl ⟨_,h⟩)
 ·exact .inr (.inr ⟨id,_,_,h1,(λ_ h=>by cases h),h2⟩)
 ·exact .inr (.inr ⟨id,_,_,h1,(λ_ h=>by cases h),h2⟩)
 ·exact .inr (.inl ⟨_,h⟩)
theorem Grow.cells {H H':zaa} (h:Grow H H') {id:Nat} {cs:List AV} (hc:H[id]?=some (.cells cs)):H'[id]?=some (.cells cs):=by
 have ak:id<H.length:=(List.getElem?_eq_some_iff.1 hc).1;rcases h with rfl | ⟨x,rfl⟩ | ⟨id',a,b,h1,h2,rfl⟩
 ·exact hc
 ·rw[List.getElem?_append_left ak];exact hc
 ·by_cases he:id=id'
  ·subst he;rw[hc]at h1;cases h1;exact (h2 _ rfl).elim
  ·rw[List.getElem?_set_ne (λh=>he h.symm)];exact hc
theorem GrowA.cells {H H':zaa} (h:GrowA H H') {id:Nat} {cs:List AV} (hc:H'[id]?=some (.cells cs)):H[id]?=some (.cells cs):=by
 rcases h with rfl | ⟨e,s,n,rfl⟩ | ⟨id',e,s,n,n',h1,rfl⟩ | ⟨id',e,s,n,n',cs1,cs2,h1,rfl⟩ | ⟨e,s,n,cs1,rfl⟩
 ·exact hc
 ·by_cases ak:id<H.length
  ·rwa [List.getElem?_append_left ak]at hc
  ·have aY:=(List.getElem?_eq_some_iff.1 hc).1;simp at aY;have:id=H.length:=by omega
   subst this;simp at hc
 ·by_cases he:id=id'
  ·subst he;rw[List.getElem?_set_self (List.getElem?_eq_some_iff.1 h1).1]at hc;cases hc
  ·rwa [List.getElem?_set_ne (λh=>he h.symm)]at hc
 ·by_cases he:id=id'
  ·subst he;rw[List.getElem?_set_self (List.getElem?_eq_some_iff.1 h1).1]at hc;cases hc
  ·rwa [List.getElem?_set_ne (λh=>he h.symm)]at hc
 ·by_cases ak:id<H.length
  ·rwa [List.getElem?_append_left ak]at hc
  ·have aY:=(List.getElem?_eq_some_iff.1 hc).1;simp at aY;have:id=H.length:=by omega
   subst this;simp at hc
theorem zxX {o:Oper} (hl:opL o.op=true) {F:List AV} {H H':zaa} {r:AV} (he:fl=true→H'=H) (hc:∀ (id:Nat) (cs:List AV),H[id]?=some (AB.cells cs)→H'[id]?=some (AB.cells cs)) (h:zbn fl P o F H λv H2=>v=r∧H2=H):zbn fl P o F H' λv H2=>v=r∧H2=H':=by
 obtain⟨dst,op,type,pos,after,guard⟩:=o;cases op <;> simp only[opL,Bool.false_eq_true]at hl
 cases fl with
 | true=>rw[he rfl];exact h
 | false=>
 simp only[zbn,zo3,and_true]at h ⊢;split at h
 ·unfold zaj at h ⊢;split at h
  ·exact h.elim
  rename_i jH;simp only[zg7]at h ⊢;split at h
  ·split at h
   ·rename_i aN;rw[hc _ _ aN];exact h
   ·exact h.elim
  ·exact h
  ·rename_i lO;exact (jH _ _ _ lO).elim
  ·exact h.elim
 ·exact h.elim
theorem TrOK.load {aj:Array Oper} {F:List AV} {o:Oper} {r:AV} {H H':zaa} (hl:opL o.op=true) (he:fl=true→H'=H) (hc:∀ (id:Nat) (cs:List AV),H[id]?=some (AB.cells cs)→H'[id]?=some (AB.cells cs)) (ht:TrOK fl P aj H F o r H):TrOK fl P aj H' F o r H':=by
 unfold TrOK at *;split at ht
 ·exact zxX hl he hc ht
 ·obtain⟨d,hd,ht⟩:=ht;refine⟨d,hd,?_⟩;rcases ht with ⟨b,h1,h2,h3⟩ | ⟨b,h1,h2,h3,_⟩ | ⟨h1,h2,_⟩
  ·exact .inl ⟨b,h1,h2,zxX hl he hc h3⟩
  ·exact .inr (.inl ⟨b,h1,h2,h3,rfl⟩)
  ·exact .inr (.inr ⟨h1,h2,rfl⟩)
theorem zxE {o:Oper} (ho:opN o.op=true) {F:List AV} {H H':zaa} {r:AV} (h:zbn fl P o F H λv H2=>v=r∧H2=H'):Grow H H':=by
 obtain⟨dst,op,type,pos,after,guard⟩:=o;cases op <;> simp only[opN,Bool.false_eq_true]at ho <;> simp only[zbn,aop,isM,zdt,zeL]at h
 case alloc t=>
  split at h
  ·exact .inr (.inl ⟨_,h.2.symm⟩)
  ·exact h.elim
 case box t x=>
  unfold zat at h;split at h
  ·exact .inr (.inl ⟨_,h.2.symm⟩)
  ·exact h.elim
 case makeSlice t l c=>
  split at h
  ·split at h
   ·unfold zbe at h;split at h
    ·exact .inr (.inl ⟨_,h.2.2.symm⟩)
    ·exact h.elim
   ·exact h.elim
  ·exact h.elim
 case makeMap t r=>
  split at h
  ·exact .inr (.inl ⟨_,h.2.symm⟩)
  ·exact h.elim
theorem zxD {o:Oper} (ho:opA .n o.op=true) {F:List AV} {H H':zaa} {r:AV} (h:zbn fl P o F H λv H2=>v=r∧H2=H'):GrowA H H':=by
 obtain⟨dst,op,type,pos,after,guard⟩:=o;cases op <;> simp only[opA,WM.gr,Bool.false_eq_true]at ho <;> simp only[zbn,aop,isM,zdt]at h
 rename_i c;cases hc:c.callee with
 | value f=>simp[hc]at ho
 | invoke r m=>simp[hc]at ho
 | builtin b=>
  cases b <;> simp[hc]at ho
  simp only[hc,zeI]at h;split at h
  ·split at h
   ·split at h
    ·exact zFA h
    ·exact h.elim
   ·exact h.elim
  ·exact h.elim
theorem TrOK.growN {aj:Array Oper} {F:List AV} {o:Oper} {r:AV} {H H':zaa} (ho:opN o.op=true) (ht:TrOK fl P aj H F o r H'):Grow H H':=by
 unfold TrOK at ht;split at ht
 ·exact zxE ho ht
 ·obtain⟨d,hd,ht⟩:=ht;rcases ht with ⟨b,h1,h2,h3⟩ | ⟨b,h1,h2,h3,h4⟩ | ⟨h1,h2,h4⟩
  ·exact zxE ho h3
  ·exact .inl h4
  ·exact .inl h4
theorem TrOK.growA {aj:Array Oper} {F:List AV} {o:Oper} {r:AV} {H H':zaa} (ho:opA .n o.op=true) (ht:TrOK fl P aj H F o r H'):GrowA H H':=by
 unfold TrOK at ht;split at ht
 ·exact zxD ho ht
 ·obtain⟨d,hd,ht⟩:=ht;rcases ht with ⟨b,h1,h2,h3⟩ | ⟨b,h1,h2,h3,h4⟩ | ⟨h1,h2,h4⟩
  ·exact zxD ho h3
  ·exact .inl h4
  ·exact .inl h4

end
section
open Go.RowKit

variable {wc:WM} {P:Program} {B:Nat} {w:World} {G:Gh} {H:zaa}

structure Ord (aj:Array Oper):Prop where
 edge:∀ (i:Nat) o,aj[i]?=some o→∀ e∈o.after,Region.binds .any e=true→e.on<i
 dst:∀ (i j:Nat) oi oj d,aj[i]?=some oi→aj[j]?=some oj→i≠j→oj.dst=some d→oi.dst≠some d
 before:∀ (i j:Nat) oi oj d,aj[i]?=some oi→aj[j]?=some oj→j<i→oj.dst=some d→d∈zet aj oi→∃ e∈oi.after,Region.binds .any e=true∧e.on=j
 behind:∀ (i j:Nat) oi oj d,aj[i]?=some oi→aj[j]?=some oj→i<j→oj.dst=some d→d∈zet aj oi→∃ e∈oj.after,Region.binds .any e=true∧e.on=i

theorem zjh {o:Oper} {j:Nat} (h:zd2 o j=true):∃ e∈o.after,Region.binds .any e=true∧e.on=j:=by unfold zd2 at h;rw[Array.any_eq_true']at h;obtain⟨e,he,hb⟩:=h;simp only[Bool.and_eq_true,beq_iff_eq]at hb;exact⟨e,he,hb⟩

theorem zra {aj:Array Oper} (h:zeu aj=true):Ord aj:=by
 unfold zeu at h;rw[List.all_eq_true]at h;have mem:∀ (i:Nat) o,aj[i]?=some o→(o,i)∈aj.toList.zipIdx:=λi o ho=>by rw[List.mem_zipIdx_iff_getElem?];simpa using ho
 have all:∀ (i j:Nat) oi oj,aj[i]?=some oi→aj[j]?=some oj→zq7 aj i j oi oj=true:=λi j oi oj hi hj=>by have h1:=h _ (mem i oi hi);simp only[Bool.and_eq_true]at h1;exact List.all_eq_true.1 h1.2 _ (mem j oj hj)
 have pair:∀ (i j:Nat) oi oj d,aj[i]?=some oi→aj[j]?=some oj→i≠j→oj.dst=some d→oi.dst≠some d∧(d∈zet aj oi→(if j<i then zd2 oi j else zd2 oj i)=true):=by intro i j oi oj d hi hj aB hd;have h1:=all i j oi oj hi hj;unfold zq7 at h1;simp only[hd,Bool.or_eq_true,beq_iff_eq,aB,false_or,Bool.and_eq_true,bne_iff_ne,Bool.not_eq_true',List.contains_eq_mem,decide_eq_false_iff_not]at h1;exact⟨h1.1,λhm=>h1.2.resolve_left (λh=>h hm)⟩
 refine⟨λi o ho e he hb=>?_,λi j oi oj d hi hj aB hd=>(pair i j oi oj d hi hj aB hd).1,λi j oi oj d hi hj ak hd hm=>?_,λi j oi oj d hi hj ak hd hm=>?_⟩
 ·have h1:=h _ (mem i o ho);simp only[Bool.and_eq_true]at h1;have h2:=Array.all_eq_true'.1 h1.1 e he;simpa[hb]using h2
 ·have:=(pair i j oi oj d hi hj (by omega) hd).2 hm;rw[if_pos ak]at this;exact zjh this
 ·have:=(pair i j oi oj d hi hj (by omega) hd).2 hm;rw[if_neg (by omega)]at this;exact zjh this

structure FlRel (aj:Array Oper) (F0 rs:List AV) (S:Nat→Bool) (F:List AV):Prop where
 len:F.length=F0.length
 done:∀ (i:Nat) o s r,aj[i]?=some o→o.dst=some s→S i=true→rs[i]?=some r→s<F0.length→F[s]?=some r
 rest:∀ s:Nat,(∀ (i:Nat) o,aj[i]?=some o→o.dst=some s→S i=false)→F[s]?=F0[s]?

theorem FlRel.step {aj:Array Oper} {F0 rs F:List AV} {S:Nat→Bool} {i:Nat} {o:Oper} {r:AV} (hO:Ord aj) (h:FlRel aj F0 rs S F) (ho:aj[i]?=some o) (hr:rs[i]?=some r) :
  FlRel aj F0 rs (λk=>if k=i then true else S k) (zbP F o.dst r):=by
 refine⟨by cases hd:o.dst <;> simp[zbP,h.len],λk ok s x hk hs hS hx ak=>?_,λs hs=>?_⟩
 ·by_cases bl:k=i
  ·subst bl;rw[ho]at hk;cases hk;rw[hr]at hx;cases hx;simp only[zbP,hs];exact List.getElem?_set_self (by rw[h.len];exact ak)
  ·simp only[bl,if_false]at hS;have h1:=h.done k ok s x hk hs hS hx ak;cases hd:o.dst with
   | none=>exact h1
   | some d=>have aB:d≠s:=λhe=>hO.dst i k o ok s ho hk (λh=>bl h.symm) hs (by rw[hd,he]);simp only[zbP];rw[List.getElem?_set_ne aB];exact h1
 ·have hi:=hs i o ho;have kT:o.dst≠some s:=λhd=>by have:=hi hd;simp at this
  have h1:=h.rest s (λk ok hk cg=>by
   have:=hs k ok hk cg;by_cases bl:k=i
   ·subst bl;simp at this
   ·simpa[bl]using this)
  cases hd:o.dst with
  | none=>exact h1
  | some d=>have aB:d≠s:=λhe=>kT (by rw[hd,he]);simp only[zbP];rw[List.getElem?_set_ne aB];exact h1

theorem FlRel.same {aj:Array Oper} {F0 rs F F':List AV} {S:Nat→Bool} (hr:rs.length=aj.size) (h:FlRel aj F0 rs S F) (h':FlRel aj F0 rs S F'):F=F':=by
 apply List.ext_getElem?;intro s;by_cases hw:∃ (i:Nat) (o:Oper),aj[i]?=some o∧o.dst=some s∧S i=true
 ·obtain⟨i,o,h1,h2,h3⟩:=hw;by_cases ak:s<F0.length
  ·have hi:i<rs.length:=by rw[hr];exact (Array.getElem?_eq_some_iff.1 h1).1
   rw[h.done i o s rs[i] h1 h2 h3 (by simp[hi]) ak,h'.done i o s rs[i] h1 h2 h3 (by simp[hi]) ak]
  ·rw[List.getElem?_eq_none (by rw[h.len];omega),List.getElem?_eq_none (by rw[h'.len];omega)]
 ·have hn:∀ (i:Nat) o,aj[i]?=some o→o.dst=some s→S i=false:=λi o h1 h2=>by
   cases hS:S i with
   | false=>rfl
   | true=>exact absurd ⟨i,o,h1,h2,hS⟩ hw
  rw[h.rest s hn,h'.rest s hn]

theorem FlRel.congr {aj:Array Oper} {F0 rs F:List AV} {S S':Nat→Bool} (h:FlRel aj F0 rs S F) (hS:∀ i,i<aj.size→S i=S' i):FlRel aj F0 rs S' F:=
 ⟨h.len,λi o s r ho hs fp=>h.done i o s r ho hs (by rw[hS i (Array.getElem?_eq_some_iff.1 ho).1];exact fp),
  λs hs=>h.rest s λi o ho hd=>by rw[hS i (Array.getElem?_eq_some_iff.1 ho).1];exact hs i o ho hd⟩

theorem zpF {fl:Bool} {aj:Array Oper} {F0 rs Fn:List AV} {Hn:zaa} {hs:List zaa} (hO:Ord aj) (ht:TrL fl wc P aj aj.toList F0 H rs hs Fn Hn):∀ i,i≤aj.size→FlRel aj F0 rs (λk=>decide (k<i)) (frk aj.toList rs F0 i)
 | 0,_=>by
  have:frk aj.toList rs F0 0=F0:=by unfold frk;cases aj.toList <;> rfl
  rw[this];exact⟨rfl,λi o s r _ _ hS=>by simp at hS,λs _=>rfl⟩
 | i+1,hi=>by
  obtain⟨hl,_,_,ba⟩:=ht.at;have ho:aj.toList[i]?=some aj[i]:=by simp[show i<aj.size by omega]
  obtain⟨r,h1,_,h3,_,_⟩:=ba i _ ho;rw[h3];refine (FlRel.step hO (zpF hO ht i (by omega)) (i:=i) (o:=aj[i]) (by simp[show i<aj.size by omega]) h1).congr λk _=>?_;by_cases hk:k=i
  ·subst hk;simp
  ·simp[hk];omega

theorem zIi {aj:Array Oper} {F0 rs F F':List AV} {S:Nat→Bool} {i:Nat} {o:Oper} (hO:Ord aj) (hr:rs.length=aj.size) (h:FlRel aj F0 rs S F) (h':FlRel aj F0 rs (λk=>decide (k<i)) F')
  (ho:aj[i]?=some o) (hi:S i=false) (hready:∀ e∈o.after,Region.binds .any e=true→S e.on=true)
  (hclosed:∀ (j:Nat) oj,aj[j]?=some oj→S j=true→∀ e∈oj.after,Region.binds .any e=true→S e.on=true):∀ s∈zet aj o,F.getD s .unk=F'.getD s .unk:=by
 intro s hs;have key:F[s]?=F'[s]?:=by
  by_cases hw:∃ (j:Nat) (oj:Oper),aj[j]?=some oj∧oj.dst=some s∧j≠i
  ·obtain⟨j,oj,hj,hd,aB⟩:=hw;have uniq:∀ (k:Nat) ok,aj[k]?=some ok→ok.dst=some s→k=j:=λk ok hk cg=>by
    by_cases hkj:k=j
    ·exact hkj
    ·exact absurd cg (hO.dst k j ok oj s hk hj hkj hd)
   by_cases ak:j<i
   ·obtain⟨e,he,hb,gT⟩:=hO.before i j o oj s ho hj ak hd hs;have fK:=hready e he hb;rw[gT]at fK;by_cases dD:s<F0.length
    ·have aQ:j<rs.length:=by rw[hr];exact (Array.getElem?_eq_some_iff.1 hj).1
     rw[h.done j oj s rs[j] hj hd fK (by simp[aQ]) dD,h'.done j oj s rs[j] hj hd (by simpa using ak) (by simp[aQ]) dD]
    ·rw[List.getElem?_eq_none (by rw[h.len];omega),List.getElem?_eq_none (by rw[h'.len];omega)]
   ·obtain⟨e,he,hb,gT⟩:=hO.behind i j o oj s ho hj (by omega) hd hs;have fK:S j=false:=by
     cases fK:S j with
     | false=>rfl
     | true=>have:=hclosed j oj hj fK e he hb;rw[gT,hi]at this;cases this
    rw[h.rest s (λk ok hk cg=>by rw[uniq k ok hk cg];exact fK),h'.rest s (λk ok hk cg=>by rw[uniq k ok hk cg];simpa using ak)]
  ·have dt:∀ (k:Nat) ok,aj[k]?=some ok→ok.dst=some s→k=i:=λk ok hk cg=>by
    by_cases bl:k=i
    ·exact bl
    ·exact absurd ⟨k,ok,hk,cg,bl⟩ hw
   rw[h.rest s (λk ok hk cg=>by rw[dt k ok hk cg];exact hi),h'.rest s (λk ok hk cg=>by rw[dt k ok hk cg];simp)]
 rw[List.getD_eq_getElem?_getD,List.getD_eq_getElem?_getD,key]

inductive Anc (aj:Array Oper):Nat→Nat→Prop
 | one {j i:Nat} {o:Oper} {e:Edge} (ho:aj[j]?=some o) (he:e∈o.after) (hb:Region.binds .any e=true) (hi:e.on=i):Anc aj j i
 | more {j k i:Nat} {o:Oper} {e:Edge} (ho:aj[j]?=some o) (he:e∈o.after) (hb:Region.binds .any e=true) (hk:e.on=k) (h:Anc aj k i):Anc aj j i

theorem Anc.closed {aj:Array Oper} {S:Nat→Bool} (hc:∀ (j:Nat) oj,aj[j]?=some oj→S j=true→∀ e∈oj.after,Region.binds .any e=true→S e.on=true) {j i:Nat} (h:Anc aj j i):S j=true→S i=true:=by
 induction h with
 | one ho he hb hi=>intro hj;rw[←hi];exact hc _ _ ho hj _ he hb
 | more ho he hb hk h ih=>intro hj;exact ih (by rw[←hk];exact hc _ _ ho hj _ he hb)
theorem Anc.ready {aj:Array Oper} {S:Nat→Bool} (hc:∀ (j:Nat) oj,aj[j]?=some oj→S j=true→∀ e∈oj.after,Region.binds .any e=true→S e.on=true) {j i:Nat} {o:Oper} (ho:aj[j]?=some o)
  (hr:∀ e∈o.after,Region.binds .any e=true→S e.on=true) (h:Anc aj j i):S i=true:=by
 cases h with
 | one cq he hb hi=>rw[ho]at cq;cases cq;rw[←hi];exact hr _ he hb
 | more cq he hb hk h=>rw[ho]at cq;cases cq;exact h.closed hc (by rw[←hk];exact hr _ he hb)

theorem zwG (ms:List Nat):∀ (es:List Edge) (m i:Nat),Nat.testBit (zhc ms es m) i=true→Nat.testBit m i=true∨∃ e∈es,Region.binds .any e=true∧(e.on=i∨Nat.testBit (ms.getD e.on 0) i=true)
 | [],m,i,h=>.inl h
 | e::es,m,i,h=>by
  unfold zhc at h;rcases zwG ms es _ i h with h1 | ⟨e',jQ,hb,hc⟩
  ·cases hb:Region.binds .any e with
   | false=>rw[hb]at h1;exact .inl h1
   | true=>
    rw[hb]at h1;simp only[Nat.testBit_or,Bool.or_eq_true,Nat.one_shiftLeft,Nat.testBit_two_pow,decide_eq_true_eq]at h1;rcases h1 with (h1 | h1) | h1
    ·exact .inl h1
    ·exact .inr ⟨e,by simp,hb,.inl h1⟩
    ·exact .inr ⟨e,by simp,hb,.inr h1⟩
  ·exact .inr ⟨e',by simp[jQ],hb,hc⟩
theorem zpc {aj:Array Oper}:∀ (l:List Oper) (ms:List Nat),aj.toList.drop ms.length=l→(∀ j i,Nat.testBit (ms.getD j 0) i=true→Anc aj j i) →
  (∀ (j:Nat),(∃ o,aj[j]?=some o)→∀ e∈(aj[j]?.map (·.after)).getD #[],Region.binds .any e=true→e.on<j)→∀ j i,Nat.testBit ((zgd l ms).getD j 0) i=true→Anc aj j i
 | [],ms,_,h,_,j,i=>h j i
 | o::l,ms,hd,h,he,j,i=>by
  have ho:aj[ms.length]?=some o:=by have:=congrArg (λx=>x[0]?) hd;simpa using this
  unfold zgd;refine zpc l (ms++[zhc ms o.after.toList 0]) ?_ ?_ he j i
  ·rw[List.length_append,List.length_singleton,←List.drop_drop,hd];rfl
  ·intro j i hb;by_cases hj:j<ms.length
   ·rw[List.getD_eq_getElem?_getD,List.getElem?_append_left hj,←List.getD_eq_getElem?_getD]at hb;exact h j i hb
   ·by_cases fI:j=ms.length
    ·subst fI;rw[List.getD_eq_getElem?_getD,List.getElem?_append_right (Nat.le_refl _)]at hb;simp only[Nat.sub_self,List.getElem?_cons_zero,Option.getD_some]at hb;rcases zwG ms _ _ _ hb with h1 | ⟨e,hee,gF,hc⟩
     ·simp at h1
     ·have hee':e∈o.after:=by simpa using hee
      rcases hc with hc | hc
      ·exact .one ho hee' gF hc
      ·exact .more ho hee' gF rfl (h _ _ hc)
    ·rw[List.getD_eq_getElem?_getD,List.getElem?_eq_none (by simp;omega)]at hb;simp at hb
theorem zkl {aj:Array Oper} (hO:Ord aj) (h:zdR wc aj=true) {i j:Nat} {oi oj:Oper} (hi:aj[i]?=some oi) (hj:aj[j]?=some oj) (ak:j<i) (hw:opW wc oi.op=true∨opW wc oj.op=true) (fi:opF oi.op=false) (fj:opF oj.op=false) (hu:okU wc oj.op oi.op=false):Anc aj i j:=by
 unfold zdR at h;have mem:∀ (i:Nat) o,aj[i]?=some o→(o,i)∈aj.toList.zipIdx:=λi o ho=>by rw[List.mem_zipIdx_iff_getElem?];simpa using ho
 split at h
 ·rename_i hn;rw[List.any_eq_false]at hn;have hmi:oi∈aj.toList:=List.mem_iff_getElem?.2 ⟨i,by simpa using hi⟩;have hmj:oj∈aj.toList:=List.mem_iff_getElem?.2 ⟨j,by simpa using hj⟩;rcases hw with hw | hw
  ·exact absurd hw (hn _ hmi)
  ·exact absurd hw (hn _ hmj)
 ·have h1:=List.all_eq_true.1 (List.all_eq_true.1 h _ (mem i oi hi)) _ (mem j oj hj);have lP:(opW wc oi.op || opW wc oj.op)=true:=by rcases hw with hw | hw <;> simp[hw]
  simp only[lP,fi,fj,hu,ak,decide_true,Bool.not_true,Bool.false_or]at h1;refine zpc aj.toList [] rfl (λj i hb=>by simp at hb) ?_ i j h1;intro j ⟨o,ho⟩ e he hb;rw[ho]at he;exact hO.edge j o ho e (by simpa using he) hb

end
section
open Go.RowKit
variable {P:Program} {B:Nat} {w:World} {G:Gh} {H:zaa}
theorem zwH {α:Type} {p:α→Prop}:∀ {l:List α},zpd l p→∀ i∈l,p i
 | [],_,i,hi=>by cases hi
 | [j],h,i,hi=>by simp at hi;subst hi;exact h
 | j::k::l,h,i,hi=>by
  rcases List.mem_cons.1 hi with rfl | hi
  ·exact h.1
  ·exact zwH h.2 i hi
theorem zrZ {aj:Array Oper} {Q:Exit→Act→World→Prop} {i:Nat} {o:Oper} {a:Act} {K:Act→World→Prop} (ho:aj[i]?=some o) (hg:o.guard=none):wpOp P aj Q i K a w=(o.wp P a w K Q∨(o.asks P a w∧LetsOut Q)):=by unfold wpOp;simp only[ho];rw[if_pos (by simp[Region.wanted,hg])]
theorem zIt {aj:Array Oper} {K:List AV→zaa→Prop} {Q:Exit→Act→World→Prop} {w0:World} {G0:Gh}
  (hQ:∀ a w G F H,Ext B w0 G0 w G→HRel B w G H→FRel w G a.tmps F→a.defers=[]→K F H→Q .normal a w) :
  ∀ (n:Nat) (ae:Array Bool) (a:Act) (w:World) (G:Gh) (F:List AV) (H:zaa),Ext B w0 G0 w G→HRel B w G H→FRel w G a.tmps F→a.defers=[]→zgF P aj K n ae F H→wpAny P .any aj Q n ae a w:=by
 intro n;induction n with
 | zero=>
  intro ae a w G F H hE hH hF hd h;unfold zgF at h;split at h
  ·rename_i hr;exact⟨hr,hQ a w G F H hE hH hF hd h⟩
  ·exact h.elim
 | succ n ih=>
  intro ae a w G F H hE hH hF hd h;unfold zgF at h;split at h
  ·rename_i hr;exact⟨λ_=>hQ a w G F H hE hH hF hd h,λi hi=>by rw[hr]at hi;cases hi⟩
  ·rename_i i is hr;refine⟨λh0=>(by rw[hr]at h0;cases h0),λj hj=>?_⟩;rw[hr]at hj;have h1:=zwH h j hj;split at h1
   ·rename_i o ho;split at h1
    ·rename_i hg;rw[zrZ ho hg];refine .inl (zh8 hF (zfC hH hF h1) λv av w' G' H' k1 k2 k3 k4=>?_);have et:(a.put o.dst v).defers=[]:=by cases dh:o.dst <;> simpa[Act.put]using hd
     exact ih _ _ w' G' _ H' (hE.trans k1) k2 ((hF.ext k1).put k3) et k4
    ·exact h1.elim
   ·exact h1.elim
def zkH (T:Act→World→Prop) (Q:Exit→Act→World→Prop):Exit→Act→World→Prop
 | .normal,a,w=>T a w
 | e,a,w=>Q e a w
theorem zxU {T:Act→World→Prop} {Q:Exit→Act→World→Prop} (h:LetsOut (zkH T Q)):LetsOut Q:=h
theorem zHR {o:Oper} {a:Act} {T:Act→World→Prop} {Q:Exit→Act→World→Prop} {K K':Act→World→Prop} (hk:∀ a w,K a w→K' a w) (h:o.wp P a w K (zkH T Q)):o.wp P a w K' Q:=by
 have h:=Oper.wp_mono hk h;unfold Oper.wp at *;generalize (execOp a.eval o).run P w=r at *;cases r with
 | ok n w'=>
  cases n <;> simp only[Oper.upon]at h ⊢ <;>
   first
    | exact h
    | exact Calls.mono h (λe w'' he=>by cases e <;> first | exact he | exact zxU he)
 | halt x w'=>cases x <;> simp only[Oper.upon]at h ⊢ <;> exact h
theorem zKd {aj pre:Array Oper} {m t:Nat} {Q:Exit→Act→World→Prop} (hm:m+t=aj.size) (fq:pre=zdS aj m) (ft:zrK aj m=true) (bJ:∀ (i:Nat) o,pre[i]?=some o→∀ e∈o.after,Region.binds .any e=true→e.on<i) :
  ∀ (n:Nat) (ae:Array Bool) (a:Act) (w:World),ae.size=m→ae.toList.count false=n →
   (∀ (j:Nat) oj,pre[j]?=some oj→ae.getD j false=true→∀ e∈oj.after,Region.binds .any e=true→ae.getD e.on false=true) →
   wpAny P .any pre (zkH (wpAny P .any aj Q t (zgN m t)) Q) n ae a w →
   wpAny P .any aj Q (n+t) (ae++(List.replicate t false).toArray) a w:=by
 have dB:pre.size=m:=by rw[fq];simp[zdS];omega
 have same:∀ i,i<m→pre[i]?=aj[i]?:=λi hi=>by rw[fq];simp[zdS,hi]
 have hanc:∀ j i,Nat.testBit ((zgd (aj.toList.take m) []).getD j 0) i=true→Anc pre j i:=by
  intro j i hb;have e1:aj.toList.take m=pre.toList:=by rw[fq];simp[zdS]
  rw[e1]at hb;refine zpc pre.toList [] rfl (λj i hb=>by simp at hb) ?_ j i hb;intro j ⟨o,ho⟩ e he hb;rw[ho]at he;exact bJ j o ho e (by simpa using he) hb
 obtain⟨gU,hd2⟩:(∀ o∈aj.toList.drop m,∀ i,i<m→zd2 o i=true∨∃ k,k<m∧zd2 o k=true∧Anc pre k i)∧∀ o∈aj.toList,o.guard=none:=by
  unfold zrK at ft;rw[Bool.and_eq_true,List.all_eq_true,List.all_eq_true]at ft;refine⟨λo ho i hi=>?_,λo ho=>by simpa using ft.2 o ho⟩;have:=ft.1 o ho;rw[List.all_eq_true]at this;have:=this i (List.mem_range.2 hi);rw[Bool.or_eq_true,List.any_eq_true]at this;rcases this with h | ⟨k,hk,h⟩
  ·exact .inl h
  ·rw[Bool.and_eq_true]at h;exact .inr ⟨k,List.mem_range.1 hk,h.1,hanc k i h.2⟩
 have bare:∀ (i:Nat) (o:Oper),aj[i]?=some o→o.guard=none:=λi o ho=>hd2 o (List.mem_iff_getElem?.2 ⟨i,by simpa using ho⟩);intro n;induction n with
 | zero=>
  intro ae a w aD hc _ h;have aO:ae=(List.replicate m true).toArray:=by
   have h1:∀ b∈ae.toList,b=true:=λb hb=>by
    cases b with
    | true=>rfl
    | false=>have:=List.count_pos_iff.2 hb;omega
   have h2:ae.toList=List.replicate m true:=by rw[←aD,←Array.length_toList];exact List.eq_replicate_of_mem h1
   rw[←Array.toArray_toList (xs:=ae),h2]
  obtain⟨_,h2⟩:=h;have:ae++(List.replicate t false).toArray=zgN m t:=by rw[aO];simp[zgN]
  rw[this,Nat.zero_add];exact h2
 | succ n ih=>
  intro ae a w aD hc bP h;have gl:∀ (i:Nat) (d:Bool),i<m→(ae++(List.replicate t false).toArray).getD i d=ae.getD i d:=λi d hi=>by simp[Array.getElem?_append,aD,hi]
  -- some operation of the first part is open
  obtain⟨k,hk,jU⟩:∃ k,k<m∧ae.getD k true=false:=by
   have:false∈ae.toList:=List.count_pos_iff.1 (by omega);obtain⟨k,hk⟩:=List.mem_iff_getElem?.1 this;have ak:k<ae.size:=by have:=(List.getElem?_eq_some_iff.1 hk).1;simpa using this
   refine⟨k,by omega,?_⟩;have lQ:ae[k]?=some false:=by simpa using hk
   simp[lQ]
  have ready:∀ i,i∈Region.ready .any aj (ae++(List.replicate t false).toArray)→i<m∧i∈Region.ready .any pre ae:=λi hi=>by
   obtain⟨h1,o,ho,he⟩:=mem_ready.1 hi;by_cases iA:i<m
   ·rw[gl i true iA]at h1;refine⟨iA,mem_ready.2 ⟨h1,o,by rw[same i iA];exact ho,λe jI hb=>?_⟩⟩;have ak:=bJ i o (by rw[same i iA];exact ho) e jI hb;have:=he e jI hb;rwa [gl e.on false (by omega)]at this
   ·have bf:o∈aj.toList.drop m:=List.mem_iff_getElem?.2 ⟨i-m,by rw[List.getElem?_drop,show m+(i-m)=i by omega];simpa using ho⟩;have hkf2:ae.getD k false=false:=by
     have ak:k<ae.size:=by omega
     simp[ak]at jU ⊢;exact jU
    rcases gU o bf k hk with hh | ⟨k',lQ,hh,hA⟩
    ·obtain⟨e,jI,hb,gT⟩:=zjh hh;have:=he e jI hb;rw[gT,gl k false hk,hkf2]at this;cases this
    ·obtain⟨e,jI,hb,gT⟩:=zjh hh;have:=he e jI hb;rw[gT,gl k' false lQ]at this;have:=Anc.closed (S:=λj=>ae.getD j false) bP hA this;rw[hkf2]at this;cases this
  have some_ready:Region.ready .any aj (ae++(List.replicate t false).toArray)≠[]:=by
   intro hr;have all:∀ i,i<m→ae.getD i false=true:=by
    intro i;induction i using Nat.strongRecOn with
    | _ i ihi=>
     intro hi;cases hS:ae.getD i false with
     | true=>rfl
     | false=>
      have hio:i<aj.size:=by omega
      have ho:aj[i]?=some aj[i]:=by simp[hio]
      have:i∈Region.ready .any aj (ae++(List.replicate t false).toArray):=by
       rw[mem_ready];refine⟨?_,aj[i],ho,λe he hb=>?_⟩
       ·rw[gl i true hi];have ak:i<ae.size:=by omega
        simp[ak]at hS ⊢;exact hS
       ·have ak:=bJ i aj[i] (by rw[same i hi];exact ho) e he hb;rw[gl e.on false (by omega)];exact ihi e.on ak (by omega)
      rw[hr]at this;cases this
   have h1:=all k hk;have ak:k<ae.size:=by omega
   simp[ak]at jU h1;rw[h1]at jU;cases jU
  rw[show n+1+t=(n+t)+1 by omega];refine⟨λh0=>absurd h0 some_ready,λi hi=>?_⟩;obtain⟨iA,lR⟩:=ready i hi;have h1:=h.2 i lR;obtain⟨hf1,o,ho,_⟩:=mem_ready.1 lR;have cq:aj[i]?=some o:=by rw[←same i iA];exact ho
  have hg:=bare i o cq;rw[zrZ ho hg]at h1;rw[zrZ cq hg];have aW:(ae++(List.replicate t false).toArray).setIfInBounds i true=ae.setIfInBounds i true++(List.replicate t false).toArray:=by rw[Array.setIfInBounds_append_left (by omega)]
  have hcount:(ae.setIfInBounds i true).toList.count false=n:=by
   have be:i<ae.size:=by omega
   have hf:ae.toList[i]'(by simpa using be)=false:=by simp[be]at hf1;simpa using hf1
   rw[Array.toList_setIfInBounds,List.count_set (by simpa using be),hf];simp only[beq_self_eq_true,if_true,Bool.true_eq_false,beq_iff_eq,if_false];omega
  rcases h1 with h1 | ⟨h1,h2⟩
  ·refine .inl (zHR (λa w hk=>?_) h1);rw[aW];refine ih _ a w (by simpa using aD) hcount (λj oj hj hS e he hb=>?_) hk;obtain⟨_,o2,ho2,he2⟩:=mem_ready.1 lR;have gs:∀ x,ae.getD x false=true→(ae.setIfInBounds i true).getD x false=true:=λx hx=>by
    by_cases hxi:x=i
    ·subst hxi;have ak:x<ae.size:=by omega
     simp[ak]
    ·simp only[Array.getD_eq_getD_getElem?]at hx ⊢;rw[Array.getElem?_setIfInBounds_ne (λh=>hxi h.symm)];exact hx
   by_cases cY:j=i
   ·subst cY;rw[ho2]at hj;cases hj;exact gs _ (he2 e he hb)
   ·refine gs _ (bP j oj hj ?_ e he hb);simp only[Array.getD_eq_getD_getElem?]at hS ⊢;rw[Array.getElem?_setIfInBounds_ne (λh=>cY h.symm)]at hS;exact hS
  ·exact .inr ⟨h1,zxU h2⟩
end
section
open Go.RowKit

variable {fl:Bool} {wc:WM} {P:Program} {B:Nat} {w:World} {G:Gh} {H:zaa}

def inS (ae:Array Bool) (i:Nat):Bool:=ae.getD i false

theorem zpQ {ae:Array Bool} {i:Nat} (hi:i<ae.size) (k:Nat):inS (ae.setIfInBounds i true) k=if k=i then true else inS ae k:=by
 unfold inS;by_cases hk:k=i
 ·subst hk;simp[hi]
 ·simp[hk,Array.getElem?_setIfInBounds_ne (λh=>hk h.symm)]

theorem zeS (n i:Nat):inS (Array.replicate n false) i=false:=by unfold inS;rw[Array.getD_eq_getD_getElem?,Array.getElem?_replicate];split <;> rfl

theorem zh7 {op:Op} (h:opW wc op=true):opF op=false:=by
 cases op <;> simp only[opW,Bool.false_eq_true]at h <;> simp only[opF]
 rename_i c;cases hc:c.callee with
 | builtin b=>cases b <;> simp[hc]at h ⊢
 | value f=>rfl
 | invoke r m=>simp[hc]at h
theorem zdi {op:Op} (h:opW wc op=true):opL op=false∧opC wc op=false:=by
 cases op <;> simp only[opW,Bool.false_eq_true]at h <;> first | exact⟨rfl,rfl⟩ | skip
 rename_i c;refine⟨rfl,?_⟩;cases hc:c.callee with
 | builtin b=>cases b <;> simp[hc]at h <;> simp[opC,hc]
 | value f=>simpa[opC,hc]using h
 | invoke r m=>simp[hc]at h
theorem zgx {op:Op} (h:opV op=true):opW wc op=true∧opL op=false∧opC wc op=false∧opA wc op=false∧opF op=false:=by cases op <;> simp only[opV,Bool.false_eq_true]at h <;> exact⟨rfl,rfl,rfl,rfl,rfl⟩
theorem zHO {op:Op} (h:opV op=true):opN op=true:=by cases op <;> simp only[opV,Bool.false_eq_true]at h <;> rfl
theorem zyB {op:Op} (h:opL op=true):opW wc op=false∧opF op=false∧opA wc op=false∧opC wc op=false∧opV op=false:=by cases op <;> simp only[opL,Bool.false_eq_true]at h <;> exact⟨rfl,rfl,rfl,rfl,rfl⟩
theorem zyy {op:Op} (h:opC wc op=true):opW wc op=false∧opF op=false∧opL op=false∧opV op=false:=by
 cases op <;> simp only[opC,Bool.false_eq_true]at h
 rename_i c;cases hc:c.callee with
 | value f=>exact⟨by simpa[opW,hc]using h,by simp[opF,hc],rfl,rfl⟩
 | builtin b=>simp[hc]at h
 | invoke r m=>simp[hc]at h
theorem zJh {t:TypeId} {z:Value} {id:Nat} {K:AV→zaa→Prop} (hH:HRel B w G H) (hz:zbz P t=some z) (ap:H[id]?=some .gap) (h:K (.ptr id 0) (H.set id (.cells (zbw z)))) :
  OpOK P B w G K (((do pure (.value (←Instr.alloc t true (.tuple #[])))):Sem Next).run P w):=by
 obtain⟨he,aV⟩:=hH.fill ap z.cells t (zbw z) (zdU z);have aw:((do pure (.value (←Instr.alloc t true (.tuple #[])))):Sem Next).run P w=.ok (.value (.pointer (some ⟨w.heap.size,0,none⟩))) (w.alloc (.cells z.cells t)):=by simp[Instr.alloc,ze2 hz,newVar,newRow,World.alloc_eq]
 rw[aw];refine⟨.ptr id 0,_,_,he,aV,⟨w.heap.size,?_,rfl⟩,h⟩;exact List.getElem?_set_self (by rw[hH.len];exact (List.getElem?_eq_some_iff.1 ap).1)

def zFn (wc:WM) (aj:Array Oper) (S:Nat→Bool) (p:Nat):Prop:=∀ (i:Nat) o,aj[i]?=some o→opW wc o.op=true→(S i=true↔i<p)
def zeG (fl:Bool) (wc:WM) (P:Program) (aj:Array Oper) (F0 rs:List AV) (hs:List zaa) (H:zaa):Prop:=
 ∀ (i:Nat) o,aj.toList[i]?=some o→∃ r,rs[i]?=some r∧TrOK fl P aj (hpk hs H i) (frk aj.toList rs F0 i) o r (hpk hs H (i+1))∧frk aj.toList rs F0 (i+1)=zbP (frk aj.toList rs F0 i) o.dst r ∧
  (opW wc o.op=false→hpk hs H (i+1)=hpk hs H i)∧(opC wc o.op=true→∀ J,TrOK fl P aj (hpk hs H i++J) (frk aj.toList rs F0 i) o r (hpk hs H i++J))∧(opG wc o.op=true→GrowA (hpk hs H i) (hpk hs H (i+1)))

theorem zdd {aj:Array Oper} {hs:List zaa} {F0 rs:List AV} (ba:zeG fl wc P aj F0 rs hs H)
  {p:Nat}:∀ (q:Nat),p≤q→q≤aj.size→(∀ (i:Nat) o,aj[i]?=some o→opW wc o.op=true→p≤i→i<q→False)→hpk hs H q=hpk hs H p
 | 0,hp,_,_=>by rw[Nat.le_zero.1 hp]
 | q+1,hp,hq,hn=>by
  by_cases he:p=q+1
  ·rw[he]
  ·have ho:aj[q]?=some aj[q]:=by simp[show q<aj.size by omega]
   obtain⟨r,_,_,_,h4,_⟩:=ba q aj[q] (by simp);have hw:opW wc (aj[q]).op=false:=by
    cases hw:opW wc (aj[q]).op with
    | false=>rfl
    | true=>exact (hn q _ ho hw (by omega) (by omega)).elim
   rw[h4 hw];exact zdd ba q (by omega) (by omega) (λi o h1 h2 h3 h4=>hn i o h1 h2 h3 (by omega))
theorem zHJ {op:Op} (h:opA wc op=true):opA .n op=true∨opG wc op=true:=by
 cases op <;> simp only[opA,Bool.false_eq_true]at h
 rename_i c;cases hc:c.callee with
 | value f=>right;simpa[opG,hc]using h
 | builtin b=>left;cases b <;> simp[opA,hc]at h ⊢
 | invoke r m=>simp[hc]at h
theorem TrOK.growW {aj:Array Oper} {F:List AV} {o:Oper} {r:AV} {H H':zaa} (ht:TrOK fl P aj H F o r H') (hg:opG wc o.op=true→GrowA H H') (ho:opA wc o.op=true):GrowA H H':=by
 rcases zHJ ho with h | h
 ·exact ht.growA h
 ·exact hg h
theorem zpO {aj:Array Oper} {hs:List zaa} {F0 rs:List AV} (ba:zeG fl wc P aj F0 rs hs H) {i:Nat}:∀ (q:Nat),i≤q→q≤aj.size→(∀ (k:Nat) o,aj[k]?=some o→opW wc o.op=true→i≤k→k<q→opA wc o.op=true∨opN o.op=true) →
  ∀ (id:Nat) (cs:List AV),(hpk hs H i)[id]?=some (AB.cells cs)→(hpk hs H q)[id]?=some (AB.cells cs)
 | 0,h1,_,_,id,cs,hc=>by rw[Nat.le_zero.1 h1]at hc;exact hc
 | q+1,h1,h2,hn,id,cs,hc=>by
  by_cases he:i=q+1
  ·rw[←he];exact hc
  ·have hq:aj[q]?=some aj[q]:=by simp[show q<aj.size by omega]
   obtain⟨rq,_,kU,_,lS,_,lT⟩:=ba q aj[q] (by simp);have h3:=zpO ba q (by omega) (by omega) (λk o a b c d=>hn k o a b c (by omega)) id cs hc;cases jV:opW wc (aj[q]).op with
   | false=>rw[lS jV];exact h3
   | true=>
    rcases hn q _ hq jV (by omega) (by omega) with ha | ha
    ·exact (kU.growW lT ha).grow.cells h3
    ·exact (kU.growN ha).cells h3
theorem zxG {aj:Array Oper} {hs:List zaa} {F0 rs:List AV} (ba:zeG fl wc P aj F0 rs hs H) {p:Nat}:∀ (q:Nat),p≤q→q≤aj.size→(∀ (k:Nat) o,aj[k]?=some o→opW wc o.op=true→p≤k→k<q→opA wc o.op=true) →
  ∀ (id:Nat) (cs:List AV),(hpk hs H q)[id]?=some (AB.cells cs)→(hpk hs H p)[id]?=some (AB.cells cs)
 | 0,h1,_,_,id,cs,hc=>by rw[Nat.le_zero.1 h1];exact hc
 | q+1,h1,h2,hn,id,cs,hc=>by
  by_cases he:p=q+1
  ·rw[he];exact hc
  ·have hq:aj[q]?=some aj[q]:=by simp[show q<aj.size by omega]
   obtain⟨rq,_,kU,_,lS,_,lT⟩:=ba q aj[q] (by simp);refine zxG ba q (by omega) (by omega) (λk o a b c d=>hn k o a b c (by omega)) id cs ?_;cases jV:opW wc (aj[q]).op with
   | false=>rw[lS jV]at hc;exact hc
   | true=>exact (kU.growW lT (hn q _ hq jV (by omega) (by omega))).cells hc

structure VB (aj:Array Oper) (a b:Nat):Prop where
 le:a≤b
 fit:b≤aj.size
 iff:∀ (i:Nat) o,aj[i]?=some o→(opV o.op=true↔a≤i∧i<b)
 bare:∀ (i:Nat) o,aj[i]?=some o→opV o.op=true→o.guard=none
theorem zyC {aj:Array Oper} (h:zev aj=true):∃ a b,VB aj a b:=by
 unfold zev at h;have mem:∀ (i:Nat) o,aj[i]?=some o→(o,i)∈aj.toList.zipIdx:=λi o ho=>by rw[List.mem_zipIdx_iff_getElem?];simpa using ho
 split at h
 ·rename_i hn;rw[List.any_eq_false]at hn;have no:∀ (i:Nat) o,aj[i]?=some o→opV o.op=true→False:=λi o ho hv=>hn o (List.mem_iff_getElem?.2 ⟨i,by simpa using ho⟩) hv;exact⟨0,0,Nat.le_refl _,Nat.zero_le _,λi o ho=>⟨λhv=>(no i o ho hv).elim,λhc=>by omega⟩,λi o ho hv=>(no i o ho hv).elim⟩
 ·rename_i hn;generalize aj.toList.findIdx (λo=>opV o.op)=a at h;generalize aj.toList.countP (λo=>opV o.op)=k at h;have key:∀ (i:Nat) o,aj[i]?=some o→(opV o.op=true↔a≤i∧i<a+k)∧(opV o.op=true→o.guard=none):=λi o ho=>by have:=List.all_eq_true.1 h _ (mem i o ho);simp only[Bool.and_eq_true,beq_iff_eq,Bool.or_eq_true,Bool.not_eq_true',Option.isNone_iff_eq_none]at this;refine⟨?_,λhv=>(this.2.resolve_left (by simp[hv]))⟩;rw[this.1];simp
  by_cases bc:a+k≤aj.size
  ·exact⟨a,a+k,by omega,bc,λi o ho=>(key i o ho).1,λi o ho=>(key i o ho).2⟩
  ·by_cases ha:a≤aj.size
   ·refine⟨a,aj.size,ha,Nat.le_refl _,λi o ho=>?_,λi o ho=>(key i o ho).2⟩;have hi:i<aj.size:=(Array.getElem?_eq_some_iff.1 ho).1;rw[(key i o ho).1];constructor <;> rintro⟨_,_⟩ <;> constructor <;> omega
   ·refine⟨0,0,Nat.le_refl _,Nat.zero_le _,λi o ho=>?_,λi o ho=>(key i o ho).2⟩;have hi:i<aj.size:=(Array.getElem?_eq_some_iff.1 ho).1;rw[(key i o ho).1];constructor <;> rintro⟨_,_⟩ <;> omega

def zOf (hs:List zaa) (H:zaa) (j:Nat):List AV:=match (hpk hs H (j+1))[(hpk hs H j).length]? with | some (.cells cs)=>cs | _=>[]
theorem zyp {aj:Array Oper} {hs:List zaa} {F0 rs:List AV} {a b:Nat} (ba:zeG fl wc P aj F0 rs hs H) (hV:VB aj a b) {j:Nat} (h1:a≤j) (h2:j<b) :
  ∃ o t z,aj[j]?=some o∧o.op=.alloc t∧zbz P t=some z∧zOf hs H j=zbw z∧hpk hs H (j+1)=hpk hs H j++[.cells (zOf hs H j)]∧rs[j]?=some (.ptr (hpk hs H j).length 0):=by
 have hj:j<aj.size:=by have:=hV.fit;omega
 have ho:aj[j]?=some aj[j]:=by simp[hj]
 have hv:=(hV.iff j _ ho).2 ⟨h1,h2⟩;obtain⟨r,hr,gV,_⟩:=ba j aj[j] (by simp);unfold TrOK at gV;rw[hV.bare j _ ho hv]at gV;simp only[]at gV;have bx:∃ t,(aj[j]).op=.alloc t:=by
  revert hv
  cases (aj[j]).op <;> simp[opV]
 obtain⟨t,bx⟩:=bx;simp only[zbn,aop,zdt,bx,isM]at gV;split at gV
 ·rename_i z hz;obtain⟨e1,e2⟩:=gV;have kV:zOf hs H j=zbw z:=by unfold zOf;rw[←e2];simp
  exact⟨aj[j],t,z,ho,bx,hz,kV,by rw[kV];exact e2.symm,by rw[hr,←e1]⟩
 ·exact gV.elim
def zcr (hs:List zaa) (H:zaa) (a b:Nat) (S:Nat→Bool):zaa:=(List.range (b-a)).map λq=>if S (a+q)=true then AB.cells (zOf hs H (a+q)) else .gap
theorem zpP {aj:Array Oper} {hs:List zaa} {F0 rs:List AV} {a b:Nat} (ba:zeG fl wc P aj F0 rs hs H) (hV:VB aj a b):∀ m,a+m≤b→hpk hs H (a+m)=hpk hs H a++(List.range m).map λq=>AB.cells (zOf hs H (a+q))
 | 0,_=>by simp
 | m+1,hm=>by obtain⟨o,t,z,_,_,_,_,h1,_⟩:=zyp ba hV (j:=a+m) (by omega) (by omega);rw[show a+(m+1)=a+m+1 by omega,h1,zpP ba hV m (by omega),List.range_succ,List.map_append,List.append_assoc];rfl
theorem zxC {aj:Array Oper} {hs:List zaa} {F0 rs:List AV} {a b:Nat} (ba:zeG fl wc P aj F0 rs hs H) (hV:VB aj a b) {S:Nat→Bool} (h:∀ j,a≤j→j<b→S j=true):hpk hs H a++zcr hs H a b S=hpk hs H b:=by have:=zpP ba hV (b-a) (by have:=hV.le;omega);rw[show a+(b-a)=b by have:=hV.le;omega]at this;rw[this];congr 1;apply List.map_congr_left;intro q hq;rw[if_pos (h (a+q) (by omega) (by have:=List.mem_range.1 hq;omega))]
theorem zGQ {hs:List zaa} {a b:Nat} {S:Nat→Bool} (h:∀ j,a≤j→j<b→S j=false):zcr hs H a b S=List.replicate (b-a) .gap:=by
 apply List.ext_getElem?;intro q;unfold zcr;rw[List.getElem?_map];by_cases hq:q<b-a
 ·rw[List.getElem?_range hq,List.getElem?_replicate,if_pos hq];simp[h (a+q) (by omega) (by omega)]
 ·rw[List.getElem?_eq_none (by simp;omega),List.getElem?_eq_none (by simp;omega)];rfl
theorem zGR {hs:List zaa} {a b i:Nat} {S:Nat→Bool} (h1:a≤i) (h2:i<b):(zcr hs H a b S).set (i-a) (.cells (zOf hs H i))=zcr hs H a b (λk=>if k=i then true else S k):=by
 apply List.ext_getElem?;intro q;by_cases hq:q=i-a
 ·subst hq;rw[List.getElem?_set_self (by simp[zcr];omega)];unfold zcr;rw[List.getElem?_map,List.getElem?_range (by omega)];simp[show a+(i-a)=i by omega]
 ·rw[List.getElem?_set_ne (λh=>hq h.symm)];unfold zcr;rw[List.getElem?_map,List.getElem?_map];by_cases hq2:q<b-a
  ·rw[List.getElem?_range hq2];simp[show a+q≠i by omega]
  ·rw[List.getElem?_eq_none (by simp;omega)];rfl
theorem zGP {hs:List zaa} {a b i:Nat} {S:Nat→Bool} (h1:a≤i) (h2:i<b) (h:S i=false):(zcr hs H a b S)[i-a]?=some .gap:=by unfold zcr;rw[List.getElem?_map,List.getElem?_range (by omega)];simp[show a+(i-a)=i by omega,h]

def StOK (wc:WM) (aj:Array Oper) (hs:List zaa) (H:zaa) (a b:Nat) (S:Nat→Bool) (Hc:zaa):Prop:=
 (∃ p,p≤aj.size∧zFn wc aj S p∧Hc=hpk hs H p∧((∀ j,a≤j→j<b→S j=false)∨(∀ j,a≤j→j<b→S j=true))) ∨
 ((∀ (k:Nat) o,aj[k]?=some o→opW wc o.op=true→k<a→S k=true)∧(∀ (k:Nat) o,aj[k]?=some o→opW wc o.op=true→b≤k→S k=false) ∧
   (∃ j,a≤j∧j<b∧S j=true)∧(∃ j,a≤j∧j<b∧S j=false)∧Hc=hpk hs H a++zcr hs H a b S)

theorem StOK.congr {aj:Array Oper} {hs:List zaa} {a b:Nat} {S S':Nat→Bool} {Hc:zaa} (hV:VB aj a b) (h:StOK wc aj hs H a b S Hc) (he:∀ i,i<aj.size→S i=S' i):StOK wc aj hs H a b S' Hc:=by
 have bc:=hV.fit;rcases h with ⟨p,h1,h2,h3,h4⟩ | ⟨h1,h2,⟨j,iB,fI,gW⟩,⟨k,gG,gH,jJ⟩,h5⟩
 ·refine .inl ⟨p,h1,λi o ho hw=>by rw[←he i (Array.getElem?_eq_some_iff.1 ho).1];exact h2 i o ho hw,h3,?_⟩;rcases h4 with h4 | h4
  ·exact .inl λj a b=>by rw[←he j (by omega)];exact h4 j a b
  ·exact .inr λj a b=>by rw[←he j (by omega)];exact h4 j a b
 ·refine .inr ⟨λk o ho hw hk=>by rw[←he k (Array.getElem?_eq_some_iff.1 ho).1];exact h1 k o ho hw hk,λk o ho hw hk=>by rw[←he k (Array.getElem?_eq_some_iff.1 ho).1];exact h2 k o ho hw hk,
   ⟨j,iB,fI,by rw[←he j (by omega)];exact gW⟩,⟨k,gG,gH,by rw[←he k (by omega)];exact jJ⟩,?_⟩
  rw[h5];congr 1;apply List.map_congr_left;intro q hq;rw[he (a+q) (by have:=List.mem_range.1 hq;omega)]

section
variable {aj:Array Oper} {F0 rs F:List AV} {hs:List zaa} {S:Nat→Bool} {i:Nat} {o:Oper} {r:AV} {a b:Nat} {Hc:zaa}
theorem StOK.step (bn:fl=true→∀ (k:Nat) ok,aj[k]?=some ok→opA wc ok.op=false∧opN ok.op=false) (hO:Ord aj) (hW:zdR wc aj=true) (hV:VB aj a b) (ba:zeG fl wc P aj F0 rs hs H) (aR:StOK wc aj hs H a b S Hc)
  (bP:∀ (j:Nat) oj,aj[j]?=some oj→S j=true→∀ e∈oj.after,Region.binds .any e=true→S e.on=true)
  (ho:aj[i]?=some o) (fp:S i=false) (bJ:∀ e∈o.after,Region.binds .any e=true→S e.on=true) (hr:rs[i]?=some r)
  (dE:∀ s∈zet aj o,(frk aj.toList rs F0 i).getD s .unk=F.getD s .unk) (fW:opV o.op=false) :
  ∃ Hc',StOK wc aj hs H a b (λk=>if k=i then true else S k) Hc'∧TrOK fl P aj Hc F o r Hc':=by
 have jW:i<aj.size:=(Array.getElem?_eq_some_iff.1 ho).1;have bc:=hV.fit;have aS:=hV.le;obtain⟨r',ix,gV,_,jX,hxx,_⟩:=ba i o (by simpa using ho);rw[hr]at ix;cases ix;have bD:TrOK fl P aj (hpk hs H i) F o r (hpk hs H (i+1)):=gV.congr dE;have hx:opC wc o.op=true→∀ J,TrOK fl P aj (hpk hs H i++J) F o r (hpk hs H i++J):=λhc J=>(hxx hc J).congr dE;have jY:¬ (a≤i∧i<b):=λh=>by have:=(hV.iff i o ho).2 h;rw[fW]at this;cases this
 have isNew:∀ {k:Nat},a≤k→k<b→∃ ok,aj[k]?=some ok∧opV ok.op=true:=λ{k} h1 h2=>by
  have hk:aj[k]?=some aj[k]:=by simp[show k<aj.size by omega]
  exact⟨_,hk,(hV.iff k _ hk).2 ⟨h1,h2⟩⟩
 have notV:∀ {k:Nat} {ok:Oper},aj[k]?=some ok→¬ (a≤k∧k<b)→opV ok.op=false:=λ{k ok} hk hn=>by
  cases hv:opV ok.op with
  | false=>rfl
  | true=>exact (hn ((hV.iff k ok hk).1 hv)).elim
 have uf:∀ {q p:Op},opL q=false→opL p=false→(opC wc q=false∨opV p=false)→(opV q=false∨opV p=false)→okU wc q p=false:=λh1 h2 h3 h4=>by unfold okU;rw[h1,h2];rcases h3 with h3 | h3 <;> rcases h4 with h4 | h4 <;> simp[h3,h4]
 -- what writes before it is done, what writes behind it is not
 have before:opF o.op=false→∀ (k:Nat) ok,aj[k]?=some ok→opW wc ok.op=true→k<i→okU wc ok.op o.op=false→S k=true:=λhf k ok hk hw ak hu=>
  (zkl hO hW ho hk ak (.inr hw) hf (zh7 hw) hu).ready bP ho bJ
 have behind:opF o.op=false→∀ (k:Nat) ok,aj[k]?=some ok→opW wc ok.op=true→i<k→okU wc o.op ok.op=false→S k=false:=λhf k ok hk hw ak hu=>by
  cases hS:S k with
  | false=>rfl
  | true=>have:=(zkl hO hW hk ho ak (.inl hw) (zh7 hw) hf hu).closed bP hS;rw[fp]at this;cases this
 have keepS:∀ Hc0,opW wc o.op=false→StOK wc aj hs H a b S Hc0→StOK wc aj hs H a b (λk=>if k=i then true else S k) Hc0:=by
  intro Hc0 hw h;have other:∀ (k:Nat) ok,aj[k]?=some ok→opW wc ok.op=true→k≠i:=λk ok hk aK bl=>by subst bl;rw[ho]at hk;cases hk;rw[hw]at aK;cases aK
  have otherV:∀ j,a≤j→j<b→j≠i:=λj h1 h2 cY=>by subst cY;exact jY ⟨h1,h2⟩
  rcases h with ⟨p,h1,h2,h3,h4⟩ | ⟨h1,h2,⟨j,iB,fI,gW⟩,⟨k,gG,gH,jJ⟩,h5⟩
  ·refine .inl ⟨p,h1,λk ok hk aK=>by simp only[other k ok hk aK,if_false];exact h2 k ok hk aK,h3,?_⟩;rcases h4 with h4 | h4
   ·exact .inl λj x y=>by simp only[otherV j x y,if_false];exact h4 j x y
   ·exact .inr λj x y=>by simp only[otherV j x y,if_false];exact h4 j x y
  ·refine .inr ⟨λk ok hk aK iW=>by simp only[other k ok hk aK,if_false];exact h1 k ok hk aK iW,λk ok hk aK iW=>by simp only[other k ok hk aK,if_false];exact h2 k ok hk aK iW,
    ⟨j,iB,fI,by simp only[otherV j iB fI,if_false];exact gW⟩,⟨k,gG,gH,by simp only[otherV k gG gH,if_false];exact jJ⟩,?_⟩
   rw[h5];congr 1;apply List.map_congr_left;intro q hq;have:=List.mem_range.1 hq;simp only[otherV (a+q) (by omega) (by omega),if_false]
 cases hf:opF o.op with
 | true=>
  have hw:opW wc o.op=false:=by
   cases hw:opW wc o.op with
   | false=>rfl
   | true=>rw[zh7 hw]at hf;cases hf
  rw[jX hw]at bD;exact⟨Hc,keepS Hc hw aR,bD.free hf⟩
 | false=>
 rcases aR with ⟨p,hp,eu,rfl,jZ⟩ | hII
 ·-- the heap of the text
  have stay:StOK wc aj hs H a b S (hpk hs H p):=.inl ⟨p,hp,eu,rfl,jZ⟩;cases hl:opL o.op with
  | true=>
   obtain⟨hw,_,lU,gI,_⟩:=zyB hl;rw[jX hw]at bD;have dn:∀ (k:Nat) ok,aj[k]?=some ok→opW wc ok.op=true→p≤k→k<i→opA wc ok.op=true:=λk ok hk aK aS ak=>by
    cases hu:okU wc ok.op o.op with
    | true=>obtain⟨h1,h2⟩:=zdi aK;simp only[okU,h1,h2,fW,hl,Bool.false_and,Bool.false_or,Bool.and_false,Bool.or_false,Bool.and_true]at hu;exact hu
    | false=>have:=(eu k ok hk aK).1 (before hf k ok hk aK ak hu);omega
   have up:∀ (k:Nat) ok,aj[k]?=some ok→opW wc ok.op=true→i≤k→k<p→opA wc ok.op=true∨opN ok.op=true:=λk ok hk aK aS ak=>by
    have cL:=(eu k ok hk aK).2 ak;have bl:k≠i:=by rintro rfl;rw[fp]at cL;cases cL
    cases hu:okU wc o.op ok.op with
    | true=>obtain⟨h1,h2⟩:=zdi aK;simp only[okU,hl,h1,lU,gI,fW,Bool.false_and,Bool.false_or,Bool.and_false,Bool.or_false,Bool.true_and,Bool.or_eq_true]at hu;exact hu
    | false=>have:=behind hf k ok hk aK (by omega) hu;rw[this]at cL;cases cL
   refine⟨hpk hs H p,keepS _ hw stay,bD.load hl (λeq=>?_) ?_⟩
   ·by_cases iX:p≤i
    ·exact (zdd ba i iX (by omega) λk ok h1 h2 h3 h4=>by have:=dn k ok h1 h2 h3 h4;rw[(bn eq k ok h1).1]at this;cases this).symm
    ·exact zdd ba p (by omega) hp λk ok h1 h2 h3 h4=>by have:=up k ok h1 h2 h3 h4;rw[(bn eq k ok h1).1,(bn eq k ok h1).2]at this;rcases this with h | h <;> cases h
   by_cases iX:p≤i
   ·exact zxG ba i iX (by omega) dn
   ·exact zpO ba p (by omega) hp up
  | false=>
   cases hc:opC wc o.op with
   | true=>
    obtain⟨hw,_,_,_⟩:=zyy hc;have below:∀ (k:Nat) ok,aj[k]?=some ok→opW wc ok.op=true→k<i→k<p:=λk ok hk aK ak=>
     (eu k ok hk aK).1 (before hf k ok hk aK ak (uf (zdi aK).1 hl (.inl (zdi aK).2) (.inr fW)))
    have above:∀ (k:Nat) ok,aj[k]?=some ok→opW wc ok.op=true→i<k→¬ (a≤k∧k<b)→¬ k<p:=λk ok hk aK ak hn kb=>by have:=behind hf k ok hk aK ak (uf hl (zdi aK).1 (.inr (notV hk hn)) (.inl fW));rw[(eu k ok hk aK).2 kb]at this;cases this
    refine⟨hpk hs H p,keepS _ hw stay,?_⟩;have same:(∀ (k:Nat) ok,aj[k]?=some ok→opW wc ok.op=true→i≤k→k<p→False)→TrOK fl P aj (hpk hs H p) F o r (hpk hs H p):=λdt=>by
     have e:hpk hs H p=hpk hs H i:=by
      by_cases iX:p≤i
      ·exact (zdd ba i iX (by omega) (λk ok hk aK h1 h2=>by have:=below k ok hk aK h2;omega)).symm
      ·exact zdd ba p (by omega) hp dt
     rw[jX hw]at bD;rw[e];exact bD
    have selfW:∀ (k:Nat) ok,aj[k]?=some ok→opW wc ok.op=true→k≠i:=λk ok hk aK bl=>by subst bl;rw[ho]at hk;cases hk;rw[hw]at aK;cases aK
    rcases jZ with dt | aO
    ·refine same λk ok hk aK h1 h2=>?_;have bl:=selfW k ok hk aK;by_cases cI:a≤k∧k<b
     ·have:=dt k cI.1 cI.2;rw[(eu k ok hk aK).2 h2]at this;cases this
     ·exact above k ok hk aK (by omega) cI h2
    ·by_cases lV:i<a
     ·by_cases bb:a=b
      ·refine same λk ok hk aK h1 h2=>?_;exact above k ok hk aK (by have:=selfW k ok hk aK;omega) (by omega) h2
      ·-- all new variables are there
       obtain⟨on,gT,hvn⟩:=isNew (k:=b-1) (by omega) (by omega);have hbp:b≤p:=by have:=(eu (b-1) on gT (zgx hvn).1).1 (aO (b-1) (by omega) (by omega));omega
       have e1:hpk hs H a=hpk hs H i:=zdd ba a (by omega) (by omega) (λk ok hk aK h1 h2=>by
        have bl:=selfW k ok hk aK;exact above k ok hk aK (by omega) (by omega) (by omega))
       have e2:hpk hs H p=hpk hs H b:=zdd ba p hbp hp (λk ok hk aK h1 h2=>above k ok hk aK (by omega) (by omega) h2);rw[e2,←zxC ba hV aO,e1];exact hx hc _
     ·refine same λk ok hk aK h1 h2=>?_;exact above k ok hk aK (by have:=selfW k ok hk aK;omega) (by omega) h2
   | false=>
    have below:∀ (k:Nat) ok,aj[k]?=some ok→opW wc ok.op=true→k<i→k<p:=λk ok hk aK ak=>
     (eu k ok hk aK).1 (before hf k ok hk aK ak (uf (zdi aK).1 hl (.inl (zdi aK).2) (.inr fW)))
    have above:∀ (k:Nat) ok,aj[k]?=some ok→opW wc ok.op=true→i≤k→¬ k<p:=λk ok hk aK aS kb=>by
     have cL:=(eu k ok hk aK).2 kb;by_cases bl:k=i
     ·subst bl;rw[fp]at cL;cases cL
     ·have:=behind hf k ok hk aK (by omega) (uf hl (zdi aK).1 (.inl hc) (.inl fW));rw[cL]at this;cases this
    have e:hpk hs H p=hpk hs H i:=by
     by_cases iX:p≤i
     ·exact (zdd ba i iX (by omega) (λk ok hk aK h1 h2=>by have:=below k ok hk aK h2;omega)).symm
     ·exact zdd ba p (by omega) hp (λk ok hk aK h1 h2=>above k ok hk aK h1 h2)
    cases hw:opW wc o.op with
    | false=>rw[jX hw]at bD;exact⟨hpk hs H p,keepS _ hw stay,by rw[e];exact bD⟩
    | true=>
     refine⟨hpk hs H (i+1),.inl ⟨i+1,by omega,λk ok hk aK=>?_,rfl,?_⟩,by rw[e];exact bD⟩
     ·by_cases bl:k=i
      ·subst bl;simp
      ·simp only[bl,if_false];rw[eu k ok hk aK];constructor
       ·intro kb;by_cases fu:i≤k
        ·exact (above k ok hk aK fu kb).elim
        ·omega
       ·intro hki2;exact below k ok hk aK (by omega)
     ·rcases jZ with dt | aO
      ·exact .inl λj x y=>by have:j≠i:=λh=>jY ⟨by omega,by omega⟩;simp only[this,if_false];exact dt j x y
      ·exact .inr λj x y=>by have:j≠i:=λh=>jY ⟨by omega,by omega⟩;simp only[this,if_false];exact aO j x y
 ·-- some of the new variables are there
  obtain⟨h1,h2,⟨j0,iB,fI,gW⟩,⟨j1,gG,gH,jJ⟩,h5⟩:=hII;obtain⟨o0,ho0,dF⟩:=isNew iB fI;obtain⟨o1,ho1,eS⟩:=isNew gG gH;have lV:i<a:=by
   by_cases lV:i<a
   ·exact lV
   ·have:=before hf j1 o1 ho1 (zgx eS).1 (by omega) (by
     obtain⟨_,x1,x2,x3,_⟩:=zgx (wc:=wc) eS;unfold okU;simp[x1,x2,x3,fW])
    rw[jJ]at this;cases this
  have early:okU wc o.op o0.op=true:=by
   cases hu:okU wc o.op o0.op with
   | true=>rfl
   | false=>have:=behind hf j0 o0 ho0 (zgx dF).1 (by omega) hu;rw[gW]at this;cases this
  have stay:StOK wc aj hs H a b S Hc:=.inr ⟨h1,h2,⟨j0,iB,fI,gW⟩,⟨j1,gG,gH,jJ⟩,h5⟩;subst h5;cases hl:opL o.op with
  | true=>
   obtain⟨hw,_,lU,gI,_⟩:=zyB hl;rw[jX hw]at bD;refine⟨_,keepS _ hw stay,bD.load hl (λeq=>by have:=(bn eq j0 o0 ho0).2;rw[zHO dF]at this;cases this) λid cs aN=>?_⟩;have:=zpO ba a (by omega) (by omega) (λk ok hk aK aS ak=>by
    have cL:=h1 k ok hk aK ak;have bl:k≠i:=by rintro rfl;rw[fp]at cL;cases cL
    cases hu:okU wc o.op ok.op with
    | true=>obtain⟨x1,x2⟩:=zdi aK;simp only[okU,hl,x1,lU,gI,fW,Bool.false_and,Bool.false_or,Bool.and_false,Bool.or_false,Bool.true_and,Bool.or_eq_true]at hu;exact hu
    | false=>
     have:=behind hf k ok hk aK (by omega) hu;rw[this]at cL;cases cL) id cs aN
   rw[List.getElem?_append_left (List.getElem?_eq_some_iff.1 this).1];exact this
  | false=>
   have hc:opC wc o.op=true:=by unfold okU at early;simp only[hl,fW,(zgx (wc:=wc) dF).2.1,Bool.false_and,Bool.and_false,Bool.false_or,Bool.or_false,Bool.and_eq_true]at early;exact early.1
   obtain⟨hw,_,_,_⟩:=zyy hc;have e1:hpk hs H a=hpk hs H i:=zdd ba a (by omega) (by omega) (λk ok hk aK aS ak=>by
    have cL:=h1 k ok hk aK ak;have bl:k≠i:=by rintro rfl;rw[fp]at cL;cases cL
    have:=behind hf k ok hk aK (by omega) (uf hl (zdi aK).1 (.inr (notV hk (by omega))) (.inl fW));rw[this]at cL;cases cL)
   refine⟨_,keepS _ hw stay,?_⟩;rw[e1];exact hx hc _
end

theorem zxn {aj:Array Oper} {F0 rs Fn:List AV} {hs:List zaa} {Hn:zaa} {K:List AV→zaa→Prop} {Q:Exit→Act→World→Prop} {w0:World} {G0:Gh} {va vb:Nat} (bn:fl=true→∀ (k:Nat) ok,aj[k]?=some ok→opA wc ok.op=false∧opN ok.op=false) (hO:Ord aj) (hW:zdR wc aj=true) (hV:VB aj va vb) (ht:TrL fl wc P aj aj.toList F0 H rs hs Fn Hn) (hK:K Fn Hn)
  (hQ:∀ a w G F H,Ext B w0 G0 w G→HRel B w G H→FRel w G a.tmps F→a.defers=[]→K F H→Q .normal a w) :
  ∀ (fuel:Nat) (ae:Array Bool) (a:Act) (w:World) (G:Gh) (F:List AV) (Hc:zaa),StOK wc aj hs H va vb (inS ae) Hc→ae.size=aj.size→ae.toList.count false≤fuel →
   (∀ (j:Nat) oj,aj[j]?=some oj→inS ae j=true→∀ e∈oj.after,Region.binds .any e=true→inS ae e.on=true) →
   Ext B w0 G0 w G→HRel B w G Hc→FlRel aj F0 rs (inS ae) F→FRel w G a.tmps F→a.defers=[]→wpAny P .any aj Q fuel ae a w:=by
 obtain⟨am,lW,hhn,hat0⟩:=ht.at;have ba:zeG fl wc P aj F0 rs hs H:=hat0;have ct:rs.length=aj.size:=by simpa using am
 have bc:=hV.fit
 -- nothing is ready only at the end
 have fin:∀ (ae:Array Bool) (a:Act) (w:World) (G:Gh) (F:List AV) (Hc:zaa),StOK wc aj hs H va vb (inS ae) Hc→ae.size=aj.size→Ext B w0 G0 w G→HRel B w G Hc→FlRel aj F0 rs (inS ae) F→FRel w G a.tmps F→a.defers=[] →
   Region.ready .any aj ae=[]→Q .normal a w:=by
  intro ae a w G F Hc aR aD hE hH gX hF hd hr;have all:∀ i,i<aj.size→inS ae i=true:=by
   intro i;induction i using Nat.strongRecOn with
   | _ i ih=>
    intro hi;cases hS:inS ae i with
    | true=>rfl
    | false=>
     have:i∈Region.ready .any aj ae:=by
      rw[mem_ready];refine⟨?_,aj[i],by simp[hi],λe he hb=>?_⟩
      ·have da:i<ae.size:=by omega
       simpa[inS,da]using hS
      ·have ak:=hO.edge i aj[i] (by simp[hi]) e he hb;exact ih e.on ak (by omega)
     rw[hr]at this;cases this
  have h1:FlRel aj F0 rs (λk=>decide (k<aj.size)) F:=gX.congr λi hi=>by rw[all i hi];simp[hi]
  have h2:=zpF hO ht aj.size (Nat.le_refl _);have:F=Fn:=by rw[FlRel.same ct h1 h2,←lW];simp
  rw[this]at hF;have hHn:Hc=Hn:=by
   rcases aR with ⟨p,hp,eu,rfl,_⟩ | ⟨_,_,_,⟨j,iB,fI,gW⟩,_⟩
   ·rw[←hhn,Array.length_toList];exact (zdd ba aj.size hp (Nat.le_refl _) (λi o h1 h2 h3 h4=>by
     have:=(eu i o h1 h2).1 (all i h4);omega)).symm
   ·rw[all j (by omega)]at gW;cases gW
  rw[hHn]at hH;exact hQ a w G Fn Hn hE hH hF hd hK
 intro fuel;induction fuel with
 | zero=>
  intro ae a w G F Hc aR aD hc bP hE hH gX hF hd;have hr:Region.ready .any aj ae=[]:=by
   cases hr:Region.ready .any aj ae with
   | nil=>rfl
   | cons i is=>
    have hi:i∈Region.ready .any aj ae:=by rw[hr];simp
    obtain⟨h1,o,ho,_⟩:=mem_ready.1 hi;have da:i<ae.size:=by rw[aD];exact (Array.getElem?_eq_some_iff.1 ho).1
    have hf:ae[i]=false:=by simpa[da]using h1
    have:false∈ae.toList:=by rw[←hf];simp
    have:=List.count_pos_iff.2 this;omega
  exact⟨hr,fin ae a w G F Hc aR aD hE hH gX hF hd hr⟩
 | succ fuel ih=>
  intro ae a w G F Hc aR aD hc bP hE hH gX hF hd;refine⟨fin ae a w G F Hc aR aD hE hH gX hF hd,λi hi=>?_⟩;obtain⟨h1,o,ho,bJ⟩:=mem_ready.1 hi;have jW:i<aj.size:=(Array.getElem?_eq_some_iff.1 ho).1;have da:i<ae.size:=by omega
  have fp:inS ae i=false:=by
   have:ae[i]=false:=by simpa[da]using h1
   simp[inS,da,this]
  obtain⟨r,hr,_⟩:=ba i o (by simpa using ho);have dE:=zIi hO ct gX (zpF hO ht i (by omega)) ho fp bJ bP
  -- what comes behind it
  have next:∀ (a':Act) (w':World) (G':Gh) (Hc':zaa),StOK wc aj hs H va vb (λk=>if k=i then true else inS ae k) Hc'→Ext B w0 G0 w' G'→HRel B w' G' Hc'→FRel w' G' a'.tmps (zbP F o.dst r)→a'.defers=[]→wpAny P .any aj Q fuel (ae.setIfInBounds i true) a' w':=by
   intro a' w' G' Hc' cM ep aV iC fJ;refine ih _ a' w' G' (zbP F o.dst r) Hc' (cM.congr hV λk _=>(zpQ da k).symm) (by simpa using aD) ?_ ?_ ep aV ?_ iC fJ
   ·have hf:ae.toList[i]'(by simpa using da)=false:=by
     have:ae[i]=false:=by simpa[da]using h1
     simpa using this
    rw[Array.toList_setIfInBounds,List.count_set (by simpa using da)];rw[hf];simp only[beq_self_eq_true,if_true,Bool.true_eq_false,beq_iff_eq,if_false];omega
   ·intro j oj hj fK e he hb;rw[zpQ da]at fK ⊢;by_cases cY:j=i
    ·subst cY;rw[ho]at hj;cases hj;have:=bJ e he hb;by_cases ke:e.on=j
     ·simp[ke]
     ·simp only[ke,if_false];exact this
    ·simp only[cY,if_false]at fK;have:=bP j oj hj fK e he hb;by_cases ke:e.on=i
     ·simp[ke]
     ·simp only[ke,if_false];exact this
   ·exact (FlRel.step hO gX ho hr).congr λk _=>(zpQ da k).symm
  unfold wpOp;simp only[ho];have et:∀ v,(a.put o.dst v).defers=[]:=λv=>by cases dh:o.dst <;> simpa[Act.put]using hd
  cases hv:opV o.op with
  | true=>
   -- a new variable
   have bb:=(hV.iff i o ho).1 hv;obtain⟨hw,cc,iQ,hna,hnf⟩:=zgx (wc:=wc) hv;have hg:=hV.bare i o ho hv;rw[if_pos (by simp[Region.wanted,hg])];refine .inl ?_;obtain⟨o',t,z,cq,bx,hz,kV,aX,ix⟩:=zyp ba hV bb.1 bb.2;rw[ho]at cq;cases cq;rw[hr]at ix;cases ix;have hlen_i:(hpk hs H i).length=(hpk hs H va).length+(i-va):=by have:=zpP ba hV (i-va) (by omega);rw[show va+(i-va)=i by omega]at this;rw[this];simp
   -- the writing ones before the new variables are done, those behind are not
   have early:∀ (k:Nat) ok,aj[k]?=some ok→opW wc ok.op=true→k<va→inS ae k=true:=λk ok hk aK ak=>by
    have iY:opV ok.op=false:=by
     cases gY:opV ok.op with
     | false=>rfl
     | true=>have:=(hV.iff k ok hk).1 gY;omega
    exact (zkl hO hW ho hk (by omega) (.inr aK) hnf (zh7 aK) (by unfold okU;simp[(zdi aK).1,(zdi aK).2,iY,cc])).ready bP ho bJ
   have late:∀ (k:Nat) ok,aj[k]?=some ok→opW wc ok.op=true→vb≤k→inS ae k=false:=λk ok hk aK aS=>by
    have iY:opV ok.op=false:=by
     cases gY:opV ok.op with
     | false=>rfl
     | true=>have:=(hV.iff k ok hk).1 gY;omega
    cases hS:inS ae k with
    | false=>rfl
    | true=>have:=(zkl hO hW hk ho (by omega) (.inl aK) (zh7 aK) hnf (by unfold okU;simp[(zdi aK).1,cc,iQ,hna,iY])).closed bP hS;rw[fp]at this;cases this
   -- the heap with places for the new variables
   have hplaces:∃ G1,Ext B w G w G1∧HRel B w G1 (hpk hs H va++zcr hs H va vb (inS ae)):=by
    rcases aR with ⟨p,hp,eu,rfl,jZ⟩ | ⟨_,_,_,_,rfl⟩
    ·have dt:∀ j,va≤j→j<vb→inS ae j=false:=by
      rcases jZ with h | h
      ·exact h
      ·have:=h i bb.1 bb.2;rw[fp]at this;cases this
     have e:hpk hs H p=hpk hs H va:=by
      by_cases dW:p≤va
      ·exact (zdd ba va dW (by omega) (λk ok hk aK h1 h2=>by
        have:=(eu k ok hk aK).1 (early k ok hk aK h2);omega)).symm
      ·refine zdd ba p (by omega) hp (λk ok hk aK h1 h2=>?_);have cL:=(eu k ok hk aK).2 h2;by_cases ew:k<vb
       ·rw[dt k h1 ew]at cL;cases cL
       ·rw[late k ok hk aK (by omega)]at cL;cases cL
     rw[e]at hH;rw[zGQ dt];obtain⟨h1,h2⟩:=hH.keepGaps (vb-va);exact⟨_,h1,h2⟩
    ·exact⟨G,Ext.refl _ _ _,hH⟩
   obtain⟨G1,fX,di⟩:=hplaces;have iO:(hpk hs H va++zcr hs H va vb (inS ae))[(hpk hs H va).length+(i-va)]?=some .gap:=by rw[List.getElem?_append_right (by omega),Nat.add_sub_cancel_left];exact zGP bb.1 bb.2 fp
   have aW:(hpk hs H va++zcr hs H va vb (inS ae)).set ((hpk hs H va).length+(i-va)) (.cells (zbw z))=hpk hs H va++zcr hs H va vb (λk=>if k=i then true else inS ae k):=by rw[List.set_append_right _ _ (by omega),Nat.add_sub_cancel_left,←kV,zGR bb.1 bb.2]
   have cM:StOK wc aj hs H va vb (λk=>if k=i then true else inS ae k) (hpk hs H va++zcr hs H va vb (λk=>if k=i then true else inS ae k)):=by
    by_cases aO:∀ j,va≤j→j<vb→(if j=i then true else inS ae j)=true
    ·refine .inl ⟨vb,by omega,λk ok hk aK=>?_,zxC ba hV aO,.inr aO⟩;by_cases bl:k=i
     ·subst bl;simp[bb.2]
     ·simp only[bl,if_false];by_cases jK:k<vb
      ·simp only[jK,iff_true];by_cases iW:va≤k
       ·have:=aO k iW jK;simpa[bl]using this
       ·exact early k ok hk aK (by omega)
      ·simp only[jK,iff_false];rw[late k ok hk aK (by omega)];simp
    ·have hsome:∃ j,va≤j∧j<vb∧(if j=i then true else inS ae j)=false:=by
      apply Classical.byContradiction;intro dt;apply aO;intro j h1 h2;cases hS:(if j=i then true else inS ae j) with
      | true=>rfl
      | false=>exact (dt ⟨j,h1,h2,hS⟩).elim
     refine .inr ⟨λk ok hk aK iW=>?_,λk ok hk aK ew=>?_,⟨i,bb.1,bb.2,by simp⟩,hsome,rfl⟩
     ·have bl:k≠i:=by omega
      simp only[bl,if_false];exact early k ok hk aK iW
     ·have bl:k≠i:=by omega
      simp only[bl,if_false];exact late k ok hk aK ew
   have aw:(execOp a.eval o).run P w=(((do pure (.value (←Instr.alloc t true (.tuple #[])))):Sem Next)).run P w:=by obtain⟨dst,op,type,pos,after,guard⟩:=o;simp only at bx;subst bx;rfl
   refine zh8 (hF.ext fX) (K:=λv H'=>v=.ptr (hpk hs H i).length 0∧H'=hpk hs H va++zcr hs H va vb (λk=>if k=i then true else inS ae k)) (by
    rw[aw];exact zJh di hz iO ⟨by rw[hlen_i],aW⟩) λv av w' G' H' k1 k2 k3 k4=>?_
   obtain⟨rfl,rfl⟩:=k4;exact next _ w' G' _ cM ((hE.trans fX).trans k1) k2 (((hF.ext fX).ext k1).put k3) (et v)
  | false=>
   obtain⟨Hc',cM,bD⟩:=StOK.step (F:=F) bn hO hW hV ba aR bP ho fp bJ hr (λs hs=>(dE s hs).symm) hv;have run:(zbn fl P o F Hc λv H'=>v=r∧H'=Hc')→o.wp P a w (wpAny P .any aj Q fuel (ae.setIfInBounds i true)) Q:=λbx=>
    zh8 hF (zfC hH hF (zFZ bx)) λv av w' G' H' k1 k2 k3 k4=>by obtain⟨rfl,rfl⟩:=k4;exact next _ w' G' _ cM (hE.trans k1) k2 ((hF.ext k1).put k3) (et v)
   have skip:r=.tup []→Hc'=Hc→wpAny P .any aj Q fuel (ae.setIfInBounds i true) (a.put o.dst undef) w:=λfY he=>by subst fY;subst he;exact next _ w G _ cM hE hH (hF.put zrT) (et _)
   unfold TrOK at bD;split at bD
   ·rename_i hg;rw[if_pos (by simp[Region.wanted,hg])];exact .inl (run bD)
   ·rename_i j want hg;obtain⟨d,c9,aF⟩:=bD;rcases aF with ⟨b,hb,hw,bx⟩ | ⟨b,hb,hw,fY,he⟩ | ⟨hb,fY,he⟩
    ·rw[zrX hF hg c9 hb,if_pos hw];exact .inl (run bx)
    ·rw[zrX hF hg c9 hb,if_neg (by simp[hw])];exact skip fY he
    ·rw[zAm hF hg c9 hb,if_neg (by simp)];exact skip fY he

theorem Post.of {w0:World} {G0:Gh} {Q:AExit→List AV→zaa→Prop} {a:Act} {F:List AV} {e:AExit} (hE:Ext B w0 G0 w G) (hH:HRel B w G H) (hF:FRel w G a.tmps F) (hd:a.defers=[]) (h:Q e F H):Post B w0 G0 Q e.toExit a w:=
 ⟨F,H,G,e,rfl,hE,hH,hF,hd,h⟩

theorem zhD:∀ (m:List Bool) {tm:List Value} {F:List AV},All2 (TRel w G) tm F→All2 (TRel w G) tm (zfu m F)
 | [],tm,F,h=>by unfold zfu;exact h
 | b::m,[],[],h=>by cases b <;> trivial
 | true::m,v::tm,a::F,h=>⟨h.1,zhD m h.2⟩
 | false::m,v::tm,a::F,h=>⟨trivial,zhD m h.2⟩

theorem zHG (m:List Bool) {y:Code} {Q:AExit→List AV→zaa→Prop} {now:List AV→zaa→Prop} {F:List AV} {H:zaa} (h:nxt m P y Q now F H) (hn:now F H→AWp P y Q F H):AWp P y Q F H:=by
 cases m with
 | nil=>exact hn h
 | cons b ms=>exact λB w G a hH hF hd=>h B w G a hH (zhD _ hF) hd
theorem zge {M:Nat→List Bool}:∀ (c:Code) (Q:AExit→List AV→zaa→Prop) (F:List AV) (H:zaa),awp P M c Q F H→AWp P c Q F H:=by
 intro c;induction c with
 | skip=>intro Q F H h B w G a hH hF hd;exact wp_skip (Post.of (e:=.normal) (Ext.refl _ _ _) hH hF hd h)
 | label l=>intro Q F H h B w G a hH hF hd;exact wp_label (Post.of (e:=.normal) (Ext.refl _ _ _) hH hF hd h)
 | region id aj draw=>
  intro Q F H h B w G a hH hF hd;cases draw with
  | false=>
   refine wp_region_list ?_;have h:(match M (300000+id) with
    | []=>ze1 P aj aj.toList (Q .normal) F H
    | _::_=>zig P aj.toList (Q .normal) F H):=h
   split at h
   ·exact zrr (K:=Q .normal) (λa w G F H h1 h2 h3 h4 h5=>Post.of (e:=.normal) h1 h2 h3 h4 h5) aj.toList F H a w G (Ext.refl _ _ _) hH hF hd h
   ·exact zza (K:=Q .normal) (λa w G F H h1 h2 h3 h4 h5=>Post.of (e:=.normal) h1 h2 h3 h4 h5) aj.toList F H a w G (Ext.refl _ _ _) hH hF hd h
  | true=>
   have main:∀ (fl:Bool) (wc:WM),(fl=true→∀ (k:Nat) ok,aj[k]?=some ok→opA wc ok.op=false∧opN ok.op=false)→(match zeu aj && zdR wc aj && zev aj && P.follows .mixedOrders with
     | true=>zcS fl wc P aj aj.toList (Q .normal) F H
     | false=>False)→(Code.region id aj true).wp P (Post B w G Q) a w:=by
    intro fl wc bn h;split at h
    ·rename_i hb;simp only[Bool.and_eq_true]at hb;obtain⟨⟨⟨gZ,lX⟩,iU⟩,hm⟩:=hb;obtain⟨rs,hs,Fn,Hn,ht,hK⟩:=zc4 aj.toList F H h;obtain⟨va,vb,hV⟩:=zyC iU;refine wp_region_any hm ?_;refine zxn bn (zra gZ) lX hV ht (K:=Q .normal) hK (w0:=w) (G0:=G) (λa w G F H h1 h2 h3 h4 h5=>Post.of (e:=.normal) h1 h2 h3 h4 h5) aj.size _ a _ G F H (.inl ⟨0,Nat.zero_le _,λk ok _ _=>by rw[zeS];simp,by cases hs <;> rfl,.inl λj _ _=>zeS _ _⟩) (by simp) (by simp) ?_ (Ext.drew B w G _ (Nat.le_succ _)) (hH.drew _ (Nat.le_succ _)) ?_ ?_ hd
     ·intro j oj _ hj;rw[zeS]at hj;cases hj
     ·refine⟨rfl,λi o s r _ _ hS=>?_,λs _=>rfl⟩;rw[zeS]at hS;cases hS
     ·exact hF.ext (Ext.drew B w G _ (Nat.le_succ _))
    ·exact h.elim
   simp only[awp]at h;split at h
   ·cases hn:noG aj with
    | false=>simp[hn]at h
    | true=>rw[hn,Bool.and_true]at h;refine main true .n (λ_ k ok hk=>?_) h;have:=List.all_eq_true.1 hn ok (List.mem_of_getElem? (by rw[Array.getElem?_toList];exact hk));simpa using this
   have no:∀ wc:WM,false=true→∀ (k:Nat) ok,aj[k]?=some ok→opA wc ok.op=false∧opN ok.op=false:=λwc h=>by cases h
   split at h
   ·exact main false .n (no _) h
   ·exact main false .w (no _) h
   ·exact main false .g (no _) h
   ·exact main false .c (no _) h
   ·rename_i l _;split at h
    ·rename_i hb;simp only[Bool.and_eq_true,decide_eq_true_eq]at hb;obtain⟨⟨⟨⟨⟨gZ,lX⟩,iU⟩,hm⟩,ft⟩,aS⟩:=hb;have aD:aj.size-l.length+l.length=aj.size:=by omega
     generalize fq:zdS aj (aj.size-l.length)=pre at *;have dB:pre.size=aj.size-l.length:=by rw[←fq];simp[zdS]
     obtain⟨rs,hs,Fn,Hn,ht,hK⟩:=zc4 pre.toList F H h;obtain⟨va,vb,hV⟩:=zyC iU;refine wp_region_any hm ?_;have key:=zxn (fl:=false) (λh=>by cases h) (zra gZ) lX hV ht (K:=zgF P aj (Q .normal) l.length (zgN (aj.size-l.length) l.length)) hK (Q:=zkH (wpAny P .any aj (Post B w G Q) l.length (zgN (aj.size-l.length) l.length)) (Post B w G Q)) (w0:=w) (G0:=G)
      (λa w G F H h1 h2 h3 h4 h5=>zIt (λa w G F H h1 h2 h3 h4 h5=>Post.of (e:=.normal) h1 h2 h3 h4 h5) _ _ a w G F H h1 h2 h3 h4 h5)
      pre.size (Array.replicate pre.size false) a { w with drawn:=w.drawn+1 } G F H (.inl ⟨0,Nat.zero_le _,λk ok _ _=>by rw[zeS];simp,by cases hs <;> rfl,.inl λj _ _=>zeS _ _⟩) (by simp) (by simp) (λj oj _ hj=>by rw[zeS]at hj;cases hj) (Ext.drew B w G _ (Nat.le_succ _)) (hH.drew _ (Nat.le_succ _))
      ⟨rfl,λi o s r _ _ hS=>(by rw[zeS]at hS;cases hS),λs _=>rfl⟩ (hF.ext (Ext.drew B w G _ (Nat.le_succ _))) hd
     have:=zKd aD fq.symm ft (zra gZ).edge pre.size (Array.replicate pre.size false) a _ (by simp[dB]) (by simp) (λj oj _ hS=>by by_cases ak:j<pre.size <;> simp[ak]at hS) key;have e:Array.replicate pre.size false++(List.replicate l.length false).toArray=Array.replicate aj.size false:=by apply Array.toList_inj.1;simp[dB,List.replicate_append_replicate,aD]
     rw[e,dB,aD]at this;exact this
    ·exact h.elim
 | seq x y ihx ihy=>
  intro Q F H h B w G a hH hF hd;refine wp_seq (wp_mono (ihx _ F H h B w G a hH hF hd) λe a' w' hp=>?_);obtain⟨F',H',G',e',rfl,h1,h2,h3,h4,h5⟩:=hp;cases e' with
  | normal=>
   have h6:AWp P y Q F' H':=by exact zHG _ h5 (ihy Q F' H')
   refine wp_mono (h6 B w' G' a' h2 h3 h4) λe a'' w'' hp=>?_;obtain⟨F'',H'',G'',e'',rfl,k1,k2,k3,k4,k5⟩:=hp;exact⟨F'',H'',G'',e'',rfl,h1.trans k1,k2,k3,k4,k5⟩
  | exit id=>exact Post.of (e:=.exit id) h1 h2 h3 h4 h5
  | ret=>exact Post.of (e:=.ret) h1 h2 h3 h4 h5
 | scope c ih=>
  intro Q F H h B w G a hH hF hd;refine wp_scope_straight (wp_mono (ih Q F H h B w G a hH hF hd) λe a' w' hp=>?_);obtain⟨F',H',G',e',rfl,h1,h2,h3,h4,h5⟩:=hp;cases e' with
  | normal=>exact Post.of (e:=.normal) h1 h2 h3 h4 h5
  | exit id=>exact Post.of (e:=.exit id) h1 h2 h3 h4 h5
  | ret=>exact Post.of (e:=.ret) h1 h2 h3 h4 h5
 | cond c x y ihx ihy=>
  intro Q F H h B w G a hH hF hd;simp only[awp,zag]at h;split at h
  ·rename_i t ht;have hc:=zaO hF c;rw[ht]at hc;have hc:a.eval c=.bool t:=hc;unfold aIf at h;refine wp_cond hc ?_;cases t with
   | true=>exact ihx Q F H (by simpa using h) B w G a hH hF hd
   | false=>exact ihy Q F H (by simpa using h) B w G a hH hF hd
  ·exact h.elim
 | block id c ih=>
  intro Q F H h B w G a hH hF hd;refine wp_block (wp_mono (ih _ F H h B w G a hH hF hd) λe a' w' hp=>?_);obtain⟨F',H',G',e',rfl,h1,h2,h3,h4,h5⟩:=hp;cases e' with
  | normal=>exact Post.of (e:=.normal) h1 h2 h3 h4 h5
  | ret=>exact Post.of (e:=.ret) h1 h2 h3 h4 h5
  | exit id'=>
   simp only[AExit.toExit,Exit.inBlock];simp only[zpj]at h5;split at h5
   ·rename_i ap;rw[if_pos (by simpa using ap)];exact Post.of (e:=.normal) h1 h2 h3 h4 h5
   ·rename_i ap;rw[if_neg (by simpa using ap)];exact Post.of (e:=.exit id') h1 h2 h3 h4 h5
 | loop c ih=>intro Q F H h B w G a hH hF hd;exact h B w G a hH (zhD _ hF) hd
 | ret=>intro Q F H h B w G a hH hF hd;exact wp_ret (Post.of (e:=.ret) (Ext.refl _ _ _) hH hF hd h)
 | exit id=>intro Q F H h B w G a hH hF hd;exact wp_exit (Post.of (e:=.exit id) (Ext.refl _ _ _) hH hF hd h)
 | _=>intro Q F H h;exact h.elim

end
end Go.Proofs.YtdmamdnkcefmmaaGreatDoor
