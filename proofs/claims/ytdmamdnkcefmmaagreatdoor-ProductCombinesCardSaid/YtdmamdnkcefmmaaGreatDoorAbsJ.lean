import Derived.Test.YtdmamdnkcefmmaaGreatDoorAbsH
import Derived.Still
set_option linter.unusedSimpArgs false
set_option linter.unusedVariables false
set_option linter.unusedSectionVars false
set_option maxRecDepth 8000
namespace Go.Proofs.YtdmamdnkcefmmaaGreatDoor
section
open Go.RowKit

variable {P:Program} {B:Nat} {w:World} {G:Gh} {H:or}

theorem tU.newOwn(h:tU B w G H)(e size:Nat):
  Ext B w G w ⟨G.L,G.μ++[.own (.slice none 0 0) size 0]⟩∧tU B w ⟨G.L,G.μ++[.own (.slice none 0 0) size 0]⟩ (H++[.perm e size 0]):=by
 have he:Ext B w G w ⟨G.L,G.μ++[.own (.slice none 0 0) size 0]⟩:=⟨DR.app (af _) rfl (by simp),Below.refl _ _,λ_=>af _,λ_ _ _=>rfl,λid gi hg=>⟨gi,by
  have:id<G.μ.length:=(ac.1 hg).1;simp only[];rw[ah this];exact hg,gi.le_refl⟩⟩
 have split:∀(id:Nat) gi,(G.μ++[.own (.slice none 0 0) size 0])[id]?=some gi→G.μ[id]?=some gi∨(id=G.μ.length∧gi=.own (.slice none 0 0) size 0):=by
  intro id gi hg;by_cases fy:id<G.μ.length
  ·rw[ah fy]at hg;exact .inl hg
  ·have fT:=(ac.1 hg).1;simp at fT;have:id=G.μ.length:=by omega
   subst this;simp at hg;exact .inr ⟨rfl,hg.symm⟩
 refine⟨he,by simp[h.len],?_,?_,h.fresh,?_,h.base⟩
 ·intro id ab gi h1 h2;rcases split id gi h2 with h2 | ⟨rfl,rfl⟩
  ·have fy:id<H.length:=by rw[←h.len];exact (ac.1 h2).1
   rw[ah fy]at h1;exact(h.ok id ab gi h1 h2).keep he (λb hb=>⟨rfl,rfl⟩)
  ·rw[h.len]at h1;simp at h1;subst h1;exact⟨rfl,rfl,⟨[],World.ownsRow_nil w B e size⟩,λb hb=>by simp[Value.ownBlock]at hb⟩
 ·intro id id' gi gi' b h1 h2 h3 h4;rcases split id gi h1 with k1 | ⟨e1,e2⟩ <;> rcases split id' gi' h2 with k2 | ⟨e3,e4⟩
  ·exact h.dist id id' gi gi' b k1 k2 h3 h4
  ·rw[e4]at h4;simp[GI.block,Value.ownBlock]at h4
  ·rw[e2]at h3;simp[GI.block,Value.ownBlock]at h3
  ·rw[e1,e3]
 ·intro id gi b h1 h2;rcases split id gi h1 with k1 | ⟨e1,e2⟩
  ·exact h.lt id gi b k1 h2
  ·rw[e2]at h2;simp[GI.block,Value.ownBlock]at h2

theorem U0{v:Value}{a:AV}(h:DRel w G.L v a):v.oneCell'=true:=by cases h <;> rfl

theorem NQ{e size n:Nat}{v:Value}{xs:List Value}{es:List (List AV)}(fF:w.ownsRow B e size v n xs)(hd:DRel w G.L v (.sl es .none))(gm:es.length=n)(fP:∀c∈es,c.length=size):All2 (DRel w G.L) xs es.flatten:=by
 by_cases fI:es=[]
 ·subst fI;simp at gm;subst gm;have:xs=[]:=aO (by simpa using fF.1);rw[this];trivial
 ·obtain⟨b,off,cap,zs,hv,hl,hr,hc,_⟩:=hd.flat fI fP;have kf:off=0:=by
   rcases fF.2 with ⟨h1,_⟩|⟨g,cap',cur,h1,_⟩
   ·rw[hv]at h1;simp at h1
   ·rw[hv]at h1;simp at h1;exact h1.1.2
  subst kf;rw[hv,gm]at fF;obtain⟨ix,_,_,hcx⟩:=ze fF;have:xs=zs:=by
   apply aU;intro j;by_cases hj:j<n*size
   ·have hz:j<zs.length:=by rw[hl,gm];exact hj
    have:=hc j zs[j] (by simp[hz]);rw[aX]at this;rw[←hcx j hj,this];simp[hz]
   ·rw[aW (by omega),aW (by rw[hl,gm];omega)]
  rw[this];exact hr

theorem tU.newVec0(h:tU B w G H)(e size:Nat):Ext B w G w ⟨G.L,G.μ++[.own (.slice none 0 0) size 0]⟩∧tU B w ⟨G.L,G.μ++[.own (.slice none 0 0) size 0]⟩ (H++[.vec e size 0 []]):=by
 obtain⟨hE,hH⟩:=h.newOwn e size;refine⟨hE,by simpa using hH.len,λid ab gi h1 h2=>?_,hH.dist,hH.fresh,hH.lt,hH.base⟩;by_cases fy:id<H.length
 ·rw[ah fy]at h1;exact hH.ok id ab gi (by rw[ah fy];exact h1) h2
 ·have fT:=(ac.1 h2).1;simp[h.len]at fT;obtain rfl:id=H.length:=by omega
  simp at h1;have h2:(G.μ++[GI.own (.slice none 0 0) size 0])[H.length]?=some gi:=h2;rw[←h.len]at h2;simp at h2;subst h1 h2;exact⟨rfl,rfl,⟨[],World.ownsRow_nil w B e size,trivial⟩,λb hb=>by simp[Value.ownBlock]at hb⟩
theorem zM7{w:World}{base:Nat}{e:TypeId}{size g cap n k:Nat}{xs:List Value}(h:w.ownsRow base e size (.slice (some ⟨g,0,none⟩) n cap) n xs)(hk:k≤n):
  w.ownsRow base e size (.slice (some ⟨g,0,none⟩) k cap) k (xs.take (k*size)):=by
 obtain⟨h1,h2⟩:=h;rcases h2 with ⟨h0,_⟩|⟨g',cap',cur,hv,hg,hh,hn,fZ,fP,gH⟩
 ·cases h0
 ·cases hv;have hm:k*size≤n*size:=aD _ hk;refine⟨by rw[a7,h1];omega,.inr ⟨g,cap,cur,rfl,hg,hh,by omega,fZ,fP,?_⟩⟩;rw[←gH,dx,bo hm]
theorem tU.pop(h:tU B w G H){id e size n k:Nat}{cs:List AV}{v0 v:Value}(fA:H[id]?=some (.vec e size n cs))(hμ:G.μ[id]?=some (.own v0 size n))(hv:(v0=.slice none 0 0∧v=.slice none 0 0∧k=0)∨∃ g cap,v0=.slice (some ⟨g,0,none⟩) n cap∧v=.slice (some ⟨g,0,none⟩) k cap)(hk:k≤n):
  ∃G',Ext B w G w G'∧tU B w G' (H.set id .dead++[.vec e size k (cs.take (k*size))])∧G'.μ[H.length]?=some (.own v size k):=by
 have gq:=(ac.1 fA).1;have qJ:id<G.μ.length:=by rw[h.len];exact gq
 have k9:∀b,v.ownBlock=some b→v0.ownBlock=some b:=λb hb=>by rcases hv with ⟨rfl,rfl,_⟩|⟨g,cap,rfl,rfl⟩ <;> exact hb
 have fJ:∀ (j:Nat) gi,(G.μ.set id (.own (.slice none 0 0) size (n+1))++[.own v size k])[j]?=some gi →
   (j≠id∧j<H.length∧G.μ[j]?=some gi)∨(j=id∧gi=.own (.slice none 0 0) size (n+1))∨(j=H.length∧gi=.own v size k):=λj gi hj=>by
  by_cases fU:j<H.length
  ·rw[ah (by rw[ct,h.len];exact fU)]at hj;by_cases jt:j=id
   ·subst jt;rw[ak qJ]at hj;cases hj;exact .inr (.inl ⟨rfl,rfl⟩)
   ·rw[aj (λh=>jt h.symm)]at hj;exact .inl ⟨jt,fU,hj⟩
  ·have lP:=(ac.1 hj).1;simp[h.len]at lP;obtain rfl:j=H.length:=by omega
   rw[aM (by simp[h.len])]at hj;simp[h.len]at hj;exact .inr (.inr ⟨rfl,hj.symm⟩)
 have he:Ext B w G w ⟨G.L,G.μ.set id (.own (.slice none 0 0) size (n+1))++[.own v size k]⟩:=by
  refine⟨(DR.set (G':=⟨G.L,G.μ.set id (.own (.slice none 0 0) size (n+1))⟩) (af _) rfl (by simp)).trans ⟨λ_=>af _,λhn=>by
   obtain⟨s,m,hn⟩:=hn;have h0:0<(G.μ.set id (.own (.slice none 0 0) size (n+1))).length:=by have:=(ac.1 hμ).1;simp;omega
   exact⟨s,m,by rw[←hn];exact(ah h0).symm⟩⟩,Below.refl _ _,λ_=>af _,λ_ _ _=>rfl,λj gi hj=>?_⟩
  have fU:=(ac.1 hj).1;by_cases jt:j=id
  ·subst jt;rw[hμ]at hj;cases hj;exact⟨_,by rw[ah (by simpa using fU),ak fU],(show GI.le (.own v0 size n) (.own (.slice none 0 0) size (n+1)) from ⟨rfl,.inr (by omega)⟩)⟩
  ·exact⟨gi,by rw[ah (by simpa using fU),aj (λh=>jt h.symm)];exact hj,gi.le_refl⟩
 refine⟨_,he,⟨by simp[h.len],λj ab gi k1 k2=>?_,λj j' gi gi' b k1 k2 k3 k4=>?_,h.fresh,λj gi b k1 k2=>?_,h.base⟩,by simp[←h.len]⟩
 ·rcases fJ j gi k2 with ⟨jt,fU,hj⟩ | ⟨rfl,rfl⟩ | ⟨rfl,rfl⟩
  ·rw[ah (by simpa using fU),aj (λh=>jt h.symm)]at k1;exact(h.ok j ab gi k1 hj).keep he (λx hx=>⟨rfl,rfl⟩)
  ·rw[ah (by simpa using gq),ak gq]at k1;cases k1;exactλb hb=>by simp[Value.ownBlock]at hb
  ·rw[aM (by simp)]at k1;simp at k1;subst k1;obtain⟨_,_,⟨xs,fF,f5⟩,hL⟩:=h.ok id _ _ fA hμ;refine⟨rfl,rfl,⟨xs.take (k*size),?_,(f5.take _).mono λ_ _=>he.arel⟩,λb hb=>hL b (k9 b hb)⟩;rcases hv with ⟨rfl,rfl,rfl⟩ | ⟨g,cap,rfl,rfl⟩
   ·have:=World.ownsRow_nil w B e size;simpa using this
   ·exact zM7 fF hk
 ·rcases fJ j gi k1 with ⟨jt,fU,hj⟩ | ⟨rfl,rfl⟩ | ⟨rfl,rfl⟩ <;> rcases fJ j' gi' k2 with ⟨hji',hjl',nK⟩ | ⟨rfl,rfl⟩ | ⟨rfl,rfl⟩
  ·exact h.dist j j' gi gi' b hj nK k3 k4
  ·simp[GI.block,Value.ownBlock]at k4
  ·exact(jt (h.dist j id gi _ b hj hμ k3 (k9 b k4))).elim
  ·simp[GI.block,Value.ownBlock]at k3
  ·rfl
  ·simp[GI.block,Value.ownBlock]at k3
  ·exact(hji' (h.dist j' id gi' _ b nK hμ k4 (k9 b k3))).elim
  ·simp[GI.block,Value.ownBlock]at k4
  ·rfl
 ·rcases fJ j gi k1 with ⟨jt,fU,hj⟩ | ⟨rfl,rfl⟩ | ⟨rfl,rfl⟩
  ·exact h.lt j gi b hj k2
  ·simp[GI.block,Value.ownBlock]at k2
  ·exact h.lt id _ b hμ (k9 b k2)
theorem Gl{t e ty:TypeId}{size bytes:Nat}{z:Value}{vx vy:Value}{x:AV}{m:Nat}{ds:List AV}{K:AV→or→Prop}(hH:tU B w G H)(he:vD P t=some e)(hn:uV P e=some size)(gD:xI P e=some bytes)(hz:vW P e=some z)(l9:(v7 z).length=size)(hx:TRel w G vx x)(news:List Value)(ay:Option Addr)(capy:Nat)(md:vy=.slice ay m capy)(kP:All2 (ARel w G) news ds)(iC:0<m→∃ b off,ay=some ⟨b,off,none⟩∧∀ j u,news[j]?=some u→w.cell? ⟨b,off+j,none⟩=some u)(h:xY e size bytes x m ds H K):
  OpOK P B w G K (((do pure (.value (←Builtin.append_ #[t,t] ty #[vx,vy]))):Sem Next).run P w):=by
 subst md;have kY:=zL (w:=w) (G:=G) z;have js:z.cells.size=size:=by have:=kY.length;simp at this;omega
 have ii:ds.all AV.ZP=true→∀u∈news,u.oneCell'=true:=λhk=>NL kP (λc hc=>λhu=>by
  subst hu;have:=aA.1 hk _ hc;simp[AV.ZP]at this)
 have fz:=kP.length;unfold xY at h;split at h
 ·rename_i id n;split at h
  ·rename_i e' s' n' cs fA;obtain⟨⟨⟨rfl,rfl,rfl⟩,jF,lQ,gJ,gF⟩,hk⟩:=h;obtain⟨jG,v',s0,n0,hμ,fS,heq⟩:=hx;obtain⟨rfl,rfl,⟨xs,fF,nZ⟩,_⟩:=hH.ok id _ _ fA hμ;obtain rfl:=heq rfl;by_cases n5:m=0
   ·subst n5;obtain⟨ax,capx,rfl,fS⟩:=Gg fF;have fE:=Cw (P:=P) (w:=w) (ty:=ty) (a:=ax) (c:=ay) (cap':=capy) he he ⟨_,hn⟩ fS;rw[Sem.run_bind,fE];refine⟨.ov id n',G,H,Ext.refl _ _ _,hH,⟨jG,_,_,n',hμ,af _,λ_=>rfl⟩,?_⟩;have lM:ds=[]:=by cases ds <;> simp_all
    subst lM;have:H.set id (.vec e' s' n' cs)=H:=by
     apply aU;intro k;by_cases hk:k=id
     ·subst hk;rw[ak (ac.1 fA).1];exact fA.symm
     ·rw[aj (λh=>hk h.symm)]
    simp only[Nat.add_zero,aP,this]at hk;exact hk
   ·have iG:0<m:=by omega
    obtain⟨b,off,rfl,iD⟩:=iC iG;unfold uV at hn;unfold xI at gD;unfold vW at hz;cases hi:P.info? e' with
    |none=>simp[hi]at hn
    |some i=>simp[hi]at hn gD hz;subst hn;subst gD;obtain⟨v2,w',fE,fV,fL⟩:=Gi (P:=P) (ty:=ty) (wV he) hi hz js fF ⟨b,off,none⟩ m capy news (by omega) (λj u hj=>by rw[add_lit];exact iD j u hj) (ii jF) iG (by simp only[maxLen];omega) gJ hH.base;obtain⟨G',me,f7,hT⟩:=Gk hH fA hμ fF fV fL iG nZ kP;rw[Sem.run_bind,fE];exact⟨_,G',_,me,f7,hT,hk⟩
  ·exact h.elim
 ·split at h
  ·obtain⟨pj,ax,rfl⟩:=hx;have fE:=Cw (P:=P) (w:=w) (ty:=ty) (a:=ax) (c:=ay) (cap':=capy) he he ⟨_,hn⟩ (af 0);rw[Sem.run_bind];simp only[List.length_nil];rw[fE];exact⟨.sl [] .none,G,H,Ext.refl _ _ _,hH,.slE _ _,h⟩
  ·rename_i m';obtain⟨⟨jF,lQ,gJ,gF⟩,hk⟩:=h;obtain⟨pj,ax,rfl⟩:=hx;have iG:0<m'+1:=by omega
   obtain⟨b,off,rfl,iD⟩:=iC iG;unfold uV at hn;unfold xI at gD;unfold vW at hz;cases hi:P.info? e with
   |none=>simp[hi]at hn
   |some i=>
    simp[hi]at hn gD hz;subst hn;subst gD;obtain⟨v',w',fE,fV,mJ,gE⟩:=NP (P:=P) (ty:=ty) (n:=0) (xs:=[]) (wV he) hi hz js (by simp) (λb hb j u hj=>by simp at hj) (λh=>rfl) ⟨b,off,none⟩ (m'+1) capy news (by omega) (λj u hj=>by rw[add_lit];exact iD j u hj) iG (by simp only[maxLen];omega) (by simpa using gJ) hH.base;obtain⟨hE,mw⟩:=hH.newVec0 e i.size;have fA:(H++[.vec e i.size 0 []])[H.length]?=some (.vec e i.size 0 []):=by simp
    obtain⟨G',me,f7,hT⟩:=Gk (n:=0) (cs:=[]) (xs:=[]) mw fA (by rw[←hH.len];simp) (World.ownsRow_nil w B e i.size) (by simpa using fV) (.inr ⟨mJ,gE⟩) iG trivial (kP.mono λ_ _=>hE.arel);rw[Sem.run_bind];simp only[List.length_nil];rw[fE];refine⟨_,G',_,hE.trans me,f7,hT,?_⟩;simpa using hk
 ·split at h
  ·obtain rfl:vx=.slice none 0 0:=hx;have fE:=Cw (P:=P) (w:=w) (ty:=ty) (a:=none) (c:=ay) (cap':=capy) he he ⟨_,hn⟩ (af 0);rw[Sem.run_bind,fE];exact⟨.ZG,G,H,Ext.refl _ _ _,hH,rfl,h⟩
  ·rename_i m';obtain⟨⟨jF,lQ,gJ,gF⟩,hk⟩:=h;obtain rfl:vx=.slice none 0 0:=hx;obtain⟨ax,hax⟩:∃ ax:Option Addr,ax=none:=⟨_,rfl⟩;rw[←hax];have iG:0<m'+1:=by omega
   obtain⟨b,off,rfl,iD⟩:=iC iG;unfold uV at hn;unfold xI at gD;unfold vW at hz;cases hi:P.info? e with
   |none=>simp[hi]at hn
   |some i=>
    simp[hi]at hn gD hz;subst hn;subst gD;obtain⟨v',w',fE,fV,mJ,gE⟩:=NP (P:=P) (ty:=ty) (n:=0) (xs:=[]) (wV he) hi hz js (by simp) (λb hb j u hj=>by simp at hj) (λh=>rfl) ⟨b,off,none⟩ (m'+1) capy news (by omega) (λj u hj=>by rw[add_lit];exact iD j u hj) iG (by simp only[maxLen];omega) (by simpa using gJ) hH.base;obtain⟨hE,mw⟩:=hH.newVec0 e i.size;have fA:(H++[.vec e i.size 0 []])[H.length]?=some (.vec e i.size 0 []):=by simp
    obtain⟨G',me,f7,hT⟩:=Gk (n:=0) (cs:=[]) (xs:=[]) mw fA (by rw[←hH.len];simp) (World.ownsRow_nil w B e i.size) (by simpa using fV) (.inr ⟨mJ,gE⟩) iG trivial (kP.mono λ_ _=>hE.arel);rw[Sem.run_bind];rw[fE];refine⟨_,G',_,hE.trans me,f7,hT,?_⟩;simpa using hk
 ·exact h.elim

theorem zOJ{t e ty:TypeId}{size bytes:Nat}{z:Value}{vx vy:Value}{x y:AV}{K:AV→or→Prop}(hH:tU B w G H)(he:vD P t=some e)(hn:uV P e=some size)(gD:xI P e=some bytes)(hz:vW P e=some z)(l9:(v7 z).length=size)(hx:TRel w G vx x)(hy:TRel w G vy y)(h:uj e size bytes x y H K):
  OpOK P B w G K (((do pure (.value (←Builtin.append_ #[t,t] ty #[vx,vy]))):Sem Next).run P w):=by
 unfold uj at h;split at h
 ·rename_i id off len cap;split at h
  ·rename_i cs fA;obtain⟨b,hμ,rfl⟩:=hy;obtain⟨_,_,vs,_,hw,f5⟩:=hH.ok id _ _ fA hμ;have hl:=f5.length;refine Gl hH he hn gD hz l9 hx ((vs.toList.drop off).take (len*size)) _ _ rfl ((f5.drop off).take _) (λ_=>⟨b,off,rfl,λj u hj=>?_⟩) h.2;rw[bQ]at hj;split at hj
   ·simp only[World.cell?,hw];simpa using hj
   ·cases hj
  ·exact h.elim
 ·rename_i id n;split at h
  ·rename_i e' s' n' cs fA;obtain⟨⟨rfl,rfl⟩,h⟩:=h;obtain⟨⟨a,cap0,rfl,_⟩,v',s0,n0,hμ,_,heq⟩:=hy;obtain⟨rfl,rfl,⟨xs,fF,f5⟩,_⟩:=hH.ok id _ _ fA hμ;obtain rfl:=heq rfl;refine Gl hH he hn gD hz l9 hx xs _ _ rfl f5 (λhm=>?_) h;obtain⟨hl,ic⟩:=fF;rcases ic with ⟨h1,h2⟩ | ⟨g,cap,cur,h1,h2,h3,h4,h5,h6,h7⟩
   ·omega
   ·simp at h1;obtain⟨rfl,rfl⟩:=h1;obtain⟨_,_,_,fR⟩:=ze ⟨hl,.inr ⟨g,cap0,cur,rfl,h2,h3,h4,h5,h6,h7⟩⟩;exact⟨g,0,rfl,λj u hj=>by
     rw[aX,fR j (by rw[←hl];exact(ac.1 hj).1)];exact hj⟩
  ·exact h.elim
 ·rename_i id n lo z;split at h
  ·rename_i id' n' hh;split at h
   ·rename_i e' s' m cs fA;obtain⟨⟨⟨rfl,rfl,rfl⟩,rfl,rfl,rfl⟩,h⟩:=h;obtain⟨⟨sC,a,c,rfl,hc⟩,v1,s1,n1,hμ,_,heq⟩:=hx;obtain⟨⟨gR,a',c',rfl,qK⟩,v2,s2,n2,hμ2,_,kg⟩:=hy;rw[hμ]at hμ2;cases hμ2;obtain⟨rfl,rfl,⟨xs,fF,hr⟩,_⟩:=hH.ok _ _ _ fA hμ;obtain⟨a0,c0,rfl,pk⟩:=heq rfl
    replace kg:=kg rfl
    simp only[Value.slice.injEq,fc]at pk;obtain⟨rfl,rfl⟩:=pk;have f5:(m-lo)*s'=(xs.drop (lo*s')).length:=by rw[dy,fF.1,Nat.sub_mul]
    have mK:=fF;obtain⟨rG,ic⟩:=fF;rcases ic with ⟨h0,kQ⟩|⟨g,cap,cur,h0,lK,hw,gM,iU,kA,kB⟩
    ·simp only[Value.slice.injEq]at h0;obtain⟨rfl,rfl,rfl⟩:=h0;obtain rfl:hh=0:=by omega
     obtain⟨G',hE,f7,hm⟩:=hH.pop (k:=0) (v:=.slice none 0 0) fA hμ (.inl ⟨rfl,rfl,rfl⟩) (bM _);refine OpOK.pre hE (Gl f7 he hn gD hz l9 (x:=.ov H.length 0) ⟨⟨none,0,rfl,λh=>absurd h (by omega),af _⟩,_,_,0,hm,af _,λ_=>rfl⟩ (xs.drop (lo*s')) _ _ rfl ((hr.drop _).mono λ_ _=>hE.arel) (λh=>absurd h (by omega)) h)
    ·simp only[Value.slice.injEq]at h0;obtain⟨rfl,_,rfl⟩:=h0;obtain⟨G',hE,f7,hm⟩:=hH.pop (k:=hh) (v:=.slice (some ⟨g,0,none⟩) hh c) fA hμ (.inr ⟨g,c,rfl,rfl⟩) sC;refine OpOK.pre hE (Gl f7 he hn gD hz l9 (x:=.ov H.length hh) ⟨⟨_,c,rfl,λ_=>⟨g,rfl⟩,hc⟩,_,_,hh,hm,af _,λ_=>rfl⟩ (xs.drop (lo*s')) _ _ rfl ((hr.drop _).mono λ_ _=>hE.arel) (λjb=>?_) h);simp only[Cf,aG (show ¬c=lo by omega),add_lit,aX,Value.slice.injEq]at kg;obtain⟨rfl,_,rfl⟩:=kg;obtain⟨_,_,_,fR⟩:=ze mK;refine⟨g,lo*s',rfl,λj u hj=>?_⟩;rw[cD]at hj;rw[fR _ (by rw[←rG];exact(ac.1 hj).1)];exact hj
   ·exact h.elim
  ·exact h.elim
 obtain⟨ys,qo,oK,h⟩:∃ys,DRel w G.L vy (.sl ys .none)∧(∀c∈ys,c.length=size)∧uy e size bytes x ys H K:=by
  unfold uD at h;split at h
  ·rename_i ys tok _ _ _;exact⟨ys,DZ hy,h.1,h.2⟩
  ·cases hy;exact⟨[],.slE _ _,h.1,h.2⟩
  ·exact h.elim
 have kY:=zL (w:=w) (G:=G) z;have js:z.cells.size=size:=by have:=kY.length;simp at this;omega
 -- the general step, for a right that is there already
 have main:∀ (G0:Gh) (H0:or) (id:Nat) (es:List (List AV)) (v:Value),Ext B w G w G0→tU B w G0 H0→H0[id]?=some (.perm e size es.length)→G0.μ[id]?=some (.own v size es.length)→DRel w G.L v (.sl es .none) →
   (∀c∈es,c.length=size)→vx=v→(es.length+ys.length)*bytes≤140737488355328→es.length+ys.length≤9223372036854775807→K (.sl (es++ys) (.own id)) (H0.set id (.perm e size (es.length+ys.length))) →
   OpOK P B w G K (((do pure (.value (←Builtin.append_ #[t,t] ty #[vx,vy]))):Sem Next).run P w):=by
  intro G0 H0 id es v hE mw fA hμ pj oL fD gJ gF hk;subst fD;obtain⟨_,_,⟨xs,fF⟩,_⟩:=mw.ok id _ _ fA hμ;by_cases n5:ys=[]
  ·subst n5;obtain⟨ay,capy,rfl,_⟩:=qo.slice_form;obtain⟨ax,capx,rfl,fS⟩:=Gg fF;have fE:=Cw (P:=P) (w:=w) (ty:=ty) (a:=ax) (c:=ay) (cap':=capy) he he ⟨size,hn⟩ fS;simp only[List.length_nil];rw[Sem.run_bind,fE];refine⟨.sl es (.own id),G0,H0,hE,mw,⟨hE.drel pj,_,size,es.length,hμ,af _,λ_=>⟨rfl,oL⟩⟩,?_⟩;have:H0.set id (.perm e size (es.length+0))=H0:=by
    apply aU;intro k;by_cases hk:k=id
    ·subst hk;rw[ak (ac.1 fA).1];exact fA.symm
    ·rw[aj (λh=>hk h.symm)]
   rw[List.length_nil,this]at hk;simpa using hk
  ·obtain⟨b,off,capy,news,md,mL,kP,iC,_⟩:=qo.flat n5 oK;subst md;have iG:0<ys.length:=by cases ys <;> simp_all
   unfold uV at hn;unfold xI at gD;unfold vW at hz;cases hi:P.info? e with
   |none=>simp[hi]at hn
   |some i=>
    simp[hi]at hn gD hz;subst hn;subst gD;have ii:∀u∈news,u.oneCell'=true:=λu hu=>by obtain⟨j,hj⟩:=a8.1 hu;obtain⟨c,_,h2⟩:=kP.get' hj;exact U0 h2
    obtain⟨v',w',fE,fV,fL⟩:=Gi (P:=P) (ty:=ty) (wV he) hi hz js fF ⟨b,off,none⟩ ys.length capy news mL (λj u hj=>by rw[add_lit];exact iC j u hj) ii iG (by simp only[maxLen];omega) gJ mw.base;obtain⟨G',me,f7,hT⟩:=Gj mw fA hμ fF fV fL rfl iG rfl oL oK (NQ fF (hE.drel pj) rfl oL) (kP.mono λ_ _=>hE.drel);rw[Sem.run_bind,fE];exact⟨_,G',_,hE.trans me,f7,hT,hk⟩
 unfold uy at h;split at h
 ·cases hx;obtain⟨hE,mw⟩:=hH.newOwn e size;have fA:(H++[.perm e size 0])[H.length]?=some (.perm e size ([]:List (List AV)).length):=by simp
  refine main _ _ H.length [] _ hE mw fA (by rw[←hH.len];simp) (.slE _ _) (by simp) rfl (by simpa using h.1.1) (by simpa using h.1.2) ?_;simpa using h.2
 ·rename_i es id _;obtain⟨h1,⟨h2,h3⟩,hk⟩:=h;obtain⟨hd,v',s',n',hμ,fS,heq⟩:=hx;have fH:=hH.ok id _ _ h1 hμ;obtain⟨sD,kr,_⟩:=fH;subst kr;subst sD;obtain⟨rJ,oL⟩:=heq rfl;subst rJ;exact main G H id es _ (Ext.refl _ _ _) hH h1 hμ hd oL rfl h2 h3 hk
 ·rename_i id n _;split at h
  ·rename_i e' s' n' cs fA;obtain⟨⟨⟨rfl,rfl,rfl⟩,gJ,gF⟩,hk⟩:=h;obtain⟨jG,v',s0,n0,hμ,fS,heq⟩:=hx;obtain⟨rfl,rfl,⟨xs,fF,nZ⟩,_⟩:=hH.ok id _ _ fA hμ;obtain rfl:=heq rfl;by_cases n5:ys=[]
   ·subst n5;obtain⟨ay,capy,rfl,_⟩:=qo.slice_form;obtain⟨ax,capx,rfl,fS⟩:=Gg fF;have fE:=Cw (P:=P) (w:=w) (ty:=ty) (a:=ax) (c:=ay) (cap':=capy) he he ⟨_,hn⟩ fS;simp only[List.length_nil];rw[Sem.run_bind,fE];refine⟨.ov id n',G,H,Ext.refl _ _ _,hH,⟨jG,_,_,n',hμ,af _,λ_=>rfl⟩,?_⟩;have:H.set id (.vec e' s' n' cs)=H:=by
     apply aU;intro k;by_cases hk:k=id
     ·subst hk;rw[ak (ac.1 fA).1];exact fA.symm
     ·rw[aj (λh=>hk h.symm)]
    simp only[List.length_nil,Nat.add_zero,List.flatten_nil,aP,this]at hk;exact hk
   ·obtain⟨b,off,capy,news,md,mL,kP,iC,_⟩:=qo.flat n5 oK;subst md;have iG:0<ys.length:=by cases ys <;> simp_all
    unfold uV at hn;unfold xI at gD;unfold vW at hz;cases hi:P.info? e' with
    |none=>simp[hi]at hn
    |some i=>
     simp[hi]at hn gD hz;subst hn;subst gD;have ii:∀u∈news,u.oneCell'=true:=λu hu=>by obtain⟨j,hj⟩:=a8.1 hu;obtain⟨c,_,h2⟩:=kP.get' hj;exact U0 h2
     obtain⟨v2,w',fE,fV,fL⟩:=Gi (P:=P) (ty:=ty) (wV he) hi hz js fF ⟨b,off,none⟩ ys.length capy news mL (λj u hj=>by rw[add_lit];exact iC j u hj) ii iG (by simp only[maxLen];omega) gJ hH.base;obtain⟨G',me,f7,hT⟩:=Gk hH fA hμ fF fV fL iG nZ (kP.mono λ_ _ h=>ARel.of_b h.toB);rw[Sem.run_bind,fE];exact⟨_,G',_,me,f7,hT,hk⟩
  ·exact h.elim
 ·rename_i es _;obtain⟨pj,ax,rfl⟩:=hx;by_cases hys0:ys=[]
  ·subst hys0;have hk:K (.sl es .full) H:=h;obtain⟨ay,capy,rfl,_⟩:=qo.slice_form;have fE:=Cw (P:=P) (w:=w) (ty:=ty) (a:=ax) (c:=ay) (n:=es.length) (cap:=es.length) (cap':=capy) he he ⟨size,hn⟩ (af _);simp only[List.length_nil];rw[Sem.run_bind,fE];exact⟨.sl es .full,G,H,Ext.refl _ _ _,hH,⟨pj,ax,rfl⟩,hk⟩
  have h:(0<ys.length∧(∀c∈es,c.length=size)∧(es.length+ys.length)*bytes≤140737488355328∧es.length+ys.length≤9223372036854775807)∧K (.sl (es++ys) (.own H.length)) (H++[.perm e size (es.length+ys.length)]):=by
   cases ys with
   |nil=>exact absurd rfl hys0
   |cons y ys=>exact h
  obtain⟨⟨iG,oL,gJ,gF⟩,hk⟩:=h;have n5:ys≠[]:=λh=>by rw[h]at iG;simp at iG
  obtain⟨b,off,capy,news,md,mL,kP,iC,_⟩:=qo.flat n5 oK;subst md;unfold uV at hn;unfold xI at gD;unfold vW at hz;cases hi:P.info? e with
  |none=>simp[hi]at hn
  |some i=>
   simp[hi]at hn gD hz;subst hn;subst gD;obtain⟨xs,ix,nZ,rK,kO⟩:∃xs:List Value,xs.length=es.length*i.size∧All2 (DRel w G.L) xs es.flatten∧(∀b,ax=some b→∀j u,xs[j]?=some u→w.cell? (b.add j)=some u)∧(ax=none→es.length=0):=by
    by_cases fI:es=[]
    ·subst fI;exact⟨[],by simp,trivial,λb hb j u hj=>by simp at hj,λ_=>rfl⟩
    ·obtain⟨b2,off2,cap2,xs,jS,ix,nZ,rK,_⟩:=pj.flat fI oL;injection jS with e1 e2 e3
     subst e1;refine⟨xs,ix,nZ,λb hb j u hj=>?_,λh=>by cases h⟩;injection hb with hb
     subst hb;rw[add_lit];exact rK j u hj
   obtain⟨v',w',fE,fV,mJ,gE⟩:=NP (P:=P) (ty:=ty) (wV he) hi hz js ix rK kO ⟨b,off,none⟩ ys.length capy news mL (λj u hj=>by rw[add_lit];exact iC j u hj) iG (by simp only[maxLen];omega) gJ hH.base;obtain⟨hE,mw⟩:=hH.newOwn e i.size;have fA:(H++[.perm e i.size 0])[H.length]?=some (.perm e i.size 0):=by simp
   obtain⟨G',me,f7,hT⟩:=Gj (es:=[]) (ys:=es++ys) (xs:=[]) (news:=xs++news) (m:=es.length+ys.length) (v':=v') (w':=w') mw fA (by rw[←hH.len];simp) (World.ownsRow_nil w B e i.size)
    (by simpa using fV) (.inr ⟨mJ,gE⟩) (by simp) (by omega) rfl (by simp) (λc hc=>by
     rcases bg.1 hc with hc|hc
     ·exact oL c hc
     ·exact oK c hc) trivial (by rw[da];exact(nZ.append kP).mono λ_ _=>hE.drel)
   rw[Sem.run_bind,fE];refine⟨_,G',_,hE.trans me,f7,hT,?_⟩;simpa using hk
 ·exact h.elim

theorem zMb{v:Value}{a:AV}(h:TRel w G v a)(hb:a.isB=true):BRel w G v a:=by cases a <;> first|exact h|(simp[AV.isB]at hb;done)
theorem U1:∀ {vs:List Value} {asx:List AV},All2 (TRel w G) vs asx→asx.all AV.isB=true→All2 (BRel w G) vs asx
 |[],[],_,_=>trivial
 |v::vs,a::asx,h,hb=>by simp only[List.all_cons,ap]at hb;exact⟨zMb h.1 hb.1,U1 h.2 hb.2⟩


theorem wW{s:Sem Value}{K:AV→or→Prop}(hH:tU B w G H)(h:∃r,s.run P w=.ok r w∧∃av,TRel w G r av∧K av H):OpOK P B w G K (((do pure (.value (←s))):Sem Next).run P w):=by obtain⟨r,h1,av,h2,h3⟩:=h;rw[Sem.run_bind,h1];exact⟨av,G,H,Ext.refl _ _ _,hH,h2,h3⟩

theorem Gm{a:Act}{F:List AV}(hF:FRel w G a.tmps F)(x:Option Operand):All2 (TRel w G) (x.map a.eval).toList (x.map (ev F)).toList:=by
 cases x with
 |none=>trivial
 |some x=>exact⟨uG hF x,trivial⟩

theorem U2{a:Act}{F:List AV}(hF:FRel w G a.tmps F)(ps:List (Nat × Operand)):
  All2 (λ(p:Nat×Value) (q:Nat×AV)=>p.1=q.1∧TRel w G p.2 q.2) (ps.map λ(i,x)=>(i,a.eval x)) (ps.map λp=>(p.1,ev F p.2)):=by
 induction ps with
 |nil=>trivial
 |cons p ps ih=>exact⟨⟨rfl,uG hF p.2⟩,ih⟩

theorem zNW{f:FuncId}{vs:Array Value}(h:y9 P f=true):(callFunc f vs).run P w=.ok (.enter f vs) w:=by
 unfold y9 at h;cases hf:P.funcs[f]? with
 |none=>simp[hf]at h
 |some fn=>
  simp only[hf,ap,dq]at h;obtain⟨h1,h2⟩:=h;have h3:fn.body.isNone=false:=by cases hb:fn.body <;> simp_all
  simp only[callFunc,Sem.run_bind,run_program,Result.andThen_ok,hf,h1,h3,aK,ba,Sem.run_pure]

theorem zOQ{c:Call}{ty:TypeId}{a:Act}{F:List AV}{fo:Operand}{K:AV→or→Prop}(hH:tU B w G H)(hF:FRel w G a.tmps F)(hc:c.callee=.value fo)(h:aCallV P (ev F fo) (c.args.toList.map (ev F)) H K):OpOK P B w G K (((do let d ←resolve a.eval c ty;invoke d.target d.args):Sem Next).run P w):=by
 have hf:=uG hF fo;unfold aCallV at h;split at h
 ·rename_i f caps jT;rw[jT]at hf;obtain⟨cs,pl,hcaps⟩:=hf;split at h
  ·rename_i kF;have fE:((do let d ←resolve a.eval c ty;invoke d.target d.args):Sem Next).run P w=.ok (.enter f (c.args.map a.eval++cs)) w:=by simp only[resolve,hc,pl,Deferred.ofValue,Sem.run_bind,Sem.run_pure,Result.andThen_ok,invoke,dP];exact zNW kF
   rw[fE];refine⟨rfl,h B w G _ hH ?_⟩;have h1:=UF hF c.args.toList;have h2:All2 (TRel w G) cs.toList caps:=hcaps.mono λ_ _ hb=>TRel.of_v (VRel.of_a (ARel.of_b hb));simpa using h1.append h2
  ·exact h.elim
 ·exact h.elim

theorem U3{α:Type}{xs:Array α}{x:α}(h:xs.toList=[x]):xs=#[x]:=by cases xs;simp_all
theorem Cx{α:Type}{xs:Array α}{x y:α}(h:xs.toList=[x,y]):xs=#[x,y]:=by cases xs;simp_all

theorem zOU{t t' ty e:TypeId}{size:Nat}{x y:AV}{u v:Value}{K:AV→or→Prop}(hH:tU B w G H)(he:vD P t=some e)(hs:uV P e=some size)(hx:TRel w G u x)(hy:TRel w G v y)(h:A5 size x y H K):OpOK P B w G K (((do pure (.value (←Builtin.copy_ #[t,t'] ty #[u,v]))):Sem Next).run P w):=by
 unfold A5 at h;split at h
 ·rename_i id n lo z id' n' lo' z';split at h
  ·rename_i e0 s m cs f5;obtain⟨⟨⟨⟨rfl,rfl,rfl⟩,rfl,rfl,rfl⟩,jF⟩,hk⟩:=h;obtain⟨⟨gR,a,c,rfl,hc⟩,v1,s1,n1,hμ,_,heq⟩:=hx;obtain⟨⟨iE,a',c',rfl,qK⟩,v2,s2,n2,hμ2,_,kg⟩:=hy;rw[hμ]at hμ2;cases hμ2;obtain⟨rfl,rfl,⟨xs,fF,hr⟩,_⟩:=hH.ok _ _ _ f5 hμ
   replace heq:=heq rfl
   replace kg:=kg rfl
   have lc:=hr.length;obtain⟨rG,ic⟩:=fF;obtain⟨k,rL⟩:∃k,k=min (m-lo') (m-lo):=⟨_,rfl⟩;have hkd2:Nat.min (m-lo') (m-lo)=k:=rL.symm;rw[←rL]at hk;by_cases jU:k=0
   ·have gg:H.set id' (.vec e0 s m (ym cs (lo*s) ((cs.drop (lo'*s)).take (k*s))))=H:=by
     rw[jU];simp only[ym,eU,List.take_zero,aP,List.length_nil,Nat.add_zero,aJ];apply aU;intro j;by_cases hj:id'=j
     ·subst hj;rw[ak (ac.1 f5).1,f5]
     ·rw[aj hj]
    rw[gg]at hk;have fE:((do pure (.value (←Builtin.copy_ #[t,t'] ty #[.slice a (m-lo) c,.slice a' (m-lo') c']))):Sem Next).run P w=.ok (.value (.int .i64 ((k:Nat):Int))) w:=by
     have hl:∀(x:Addr),(loadCells x 0).run P w=.ok #[] w:=λx=>by simpa using run_loadCells_list (P:=P) w x [] (by simp)
     cases a <;> cases a' <;> simp[Builtin.copy_,uY (wV he),Builtin.lenOf,Builtin.firstCells,wG hs,hkd2,jU,storeCells,hl,goInt]
    rw[fE];exact OpOK.same (av:=.int .i64 ((k:Nat):Int)) hH rfl hk
   ·rcases ic with ⟨rfl,kQ⟩ | ⟨g,cap,cur,rfl,lK,hw,gM,iU,kA,kB⟩
    ·omega
    ·simp only[Cf,aG (show ¬ cap=lo by omega),aG (show ¬ cap=lo' by omega),add_lit,aX,Value.slice.injEq]at heq kg;obtain⟨rfl,_,rfl⟩:=heq;obtain⟨rfl,_,rfl⟩:=kg;obtain⟨vals,mM⟩:∃ vals,vals=(xs.drop (lo'*s)).take (k*s):=⟨_,rfl⟩;have iK:lo'*s+k*s≤m*s:=by rw[←bp];exact aD _ (by omega)
     have hks2:lo*s+k*s≤m*s:=by rw[←bp];exact aD _ (by omega)
     have rM:vals.length=k*s:=by rw[mM];simp;omega
     have n7:All2 (ARel w G) vals ((cs.drop (lo'*s)).take (k*s)):=by rw[mM];exact(hr.drop _).take _
     have ii:∀v∈vals,v.oneCell'=true:=NL n7 (λc hc=>by
      have:=aA.1 jF c (ec (bq hc));intro su;subst su;simp[AV.ZP]at this)
     obtain⟨_,_,_,fR⟩:=ze (w:=w) (B:=B) (e:=e0) (size:=s) (n:=m) (cap:=cap) (g:=g) (xs:=xs) ⟨rG,.inr ⟨g,cap,cur,rfl,lK,hw,gM,iU,kA,kB⟩⟩;have hload:(loadCells ⟨g,lo'*s,none⟩ (k*s)).run P w=.ok vals.toArray w:=by rw[←rM];refine run_loadCells_list (P:=P) w ⟨g,lo'*s,none⟩ vals λj v hj=>?_;have fU:j<vals.length:=(ac.1 hj).1;rw[add_lit,fR _ (by omega)];rw[mM,dF (by omega),cD]at hj;exact hj
     have hms:m*s≤cur.size:=by rw[kA];exact aD _ gM
     have fN:=run_storeCells_at P g (lo*s) e0 vals 0 cur w hw (by omega) ii;simp only[Nat.add_zero]at fN;have gj:(cur.toList.take (lo*s)++vals++cur.toList.drop (lo*s+vals.length)).toArray.toList.take (m*s)=xs.take (lo*s)++vals++xs.drop (lo*s+vals.length):=by
      rw[←kB];simp only[eM,a7,Array.length_toList,aH,rM];rw[dx,dx,eA,am (l:=vals) (by omega)];congr 2
      ·congr 1;omega
      ·congr 1;omega
     have hvl2:((cs.drop (lo'*s)).take (k*s)).length=vals.length:=n7.length.symm;obtain⟨hE,f7⟩:=hH.storeV (cs':=ym cs (lo*s) ((cs.drop (lo'*s)).take (k*s))) f5 hμ hw lK gM iU (by simp[aH,rM];omega) gj (by simp[rM];omega) (by
      have:=((hr.take (lo*s)).append n7).append (hr.drop (lo*s+vals.length));unfold ym;rw[hvl2];simpa using this)
     have fE:((do pure (.value (←Builtin.copy_ #[t,t'] ty #[.slice (some ⟨g,lo*s,none⟩) (m-lo) (cap-lo),.slice (some ⟨g,lo'*s,none⟩) (m-lo') (cap-lo')]))):Sem Next).run P w=.ok (.value (.int .i64 ((k:Nat):Int))) (w.setRow g (cur.toList.take (lo*s)++vals++cur.toList.drop (lo*s+vals.length)).toArray):=by simp[Builtin.copy_,uY (wV he),Builtin.lenOf,Builtin.firstCells,wG hs,hkd2,hload,fN,goInt]
     rw[fE];exact⟨.int .i64 ((k:Nat):Int),G,_,hE,f7,rfl,hk⟩
  ·exact h.elim
 ·exact h.elim
theorem zOP{c:Call}{ty:TypeId}{a:Act}{F:List AV}{b:Builtin}{K:AV→or→Prop}(hH:tU B w G H)(hF:FRel w G a.tmps F)(hc:c.callee=.builtin b)(h:Ak P b c F H K):OpOK P B w G K (((do let d ←resolve a.eval c ty;invoke d.target d.args):Sem Next).run P w):=by
 cases b <;> simp only[Ak]at h <;> (try exact h.elim)
 case append=>
  split at h
  ·rename_i x y t t' gp jc;split at h
   ·rename_i e size bytes z he hs hb hz htt;simp only[bt]at htt;subst htt;split at h
    ·rename_i hq;simp only[ap,bc,bt]at hq;simp only[he,Option.bind_some]at hs hz hb;have h1:=Cx gp;have h2:=Cx jc;have fE:((do let d ←resolve a.eval c ty;invoke d.target d.args):Sem Next).run P w=((do pure (.value (←Builtin.append_ #[t,t] ty #[a.eval x,a.eval y]))):Sem Next).run P w:=by simp only[resolve,hc,h1,h2,cR,aL,bI,Sem.run_bind,Sem.run_pure,Result.andThen_ok,invoke,builtin]
     rw[fE];exact zOJ hH he hs hb hz hq.2 (uG hF x) (uG hF y) h
    ·exact h.elim
   ·exact h.elim
  ·exact h.elim
 case copy=>
  split at h
  ·rename_i x y t t' gp jc;split at h
   ·rename_i size hs;have h1:=Cx gp;have h2:=Cx jc;cases he:vD P t with
    |none=>simp[he]at hs
    |some e=>
     simp only[he,Option.bind_some]at hs;have fE:((do let d ←resolve a.eval c ty;invoke d.target d.args):Sem Next).run P w=((do pure (.value (←Builtin.copy_ #[t,t'] ty #[a.eval x,a.eval y]))):Sem Next).run P w:=by simp only[resolve,hc,h1,h2,cR,aL,bI,Sem.run_bind,Sem.run_pure,Result.andThen_ok,invoke,builtin]
     rw[fE];exact zOU hH he hs (uG hF x) (uG hF y) h
   ·exact h.elim
  ·exact h.elim
 case max=>
  split at h
  ·rename_i x y gp;have h1:=Cx gp;have fE:((do let d ←resolve a.eval c ty;invoke d.target d.args):Sem Next).run P w=((do pure (.value (←Builtin.max_ c.argTypes ty #[a.eval x,a.eval y]))):Sem Next).run P w:=by simp only[resolve,hc,h1,cR,aL,bI,Sem.run_bind,Sem.run_pure,Result.andThen_ok,invoke,builtin]
   rw[fE];unfold DN at h;have hx:=uG hF x;have hy:=uG hF y;split at h
   ·rename_i k m k' n e1 e2;rw[e1]at hx;rw[e2]at hy;have hx:a.eval x=.int k m:=hx;have hy:a.eval y=.int k' n:=hy;rw[hx,hy];have hr:((do pure (.value (←Builtin.max_ c.argTypes ty #[.int k m,.int k' n]))):Sem Next).run P w=.ok (.value (.int k (if n>m then n else m))) w:=by
     have h2:(Builtin.max_ c.argTypes ty #[.int k m,.int k' n]).run P w=.ok (.int k (if n>m then n else m)) w:=by simp[Builtin.max_,Builtin.max2]
     rw[Sem.run_bind,h2];rfl
    rw[hr];exact OpOK.same (av:=.int k (if n>m then n else m)) hH rfl h
   ·exact h.elim
  ·exact h.elim
 case min=>
  split at h
  ·rename_i x y gp;have h1:=Cx gp;have fE:((do let d ←resolve a.eval c ty;invoke d.target d.args):Sem Next).run P w=((do pure (.value (←Builtin.min_ c.argTypes ty #[a.eval x,a.eval y]))):Sem Next).run P w:=by simp only[resolve,hc,h1,cR,aL,bI,Sem.run_bind,Sem.run_pure,Result.andThen_ok,invoke,builtin]
   rw[fE];unfold Gc at h;have hx:=uG hF x;have hy:=uG hF y;split at h
   ·rename_i k m k' n e1 e2;rw[e1]at hx;rw[e2]at hy;have hx:a.eval x=.int k m:=hx;have hy:a.eval y=.int k' n:=hy;rw[hx,hy];have hr:((do pure (.value (←Builtin.min_ c.argTypes ty #[.int k m,.int k' n]))):Sem Next).run P w=.ok (.value (.int k (if n<m then n else m))) w:=by
     have h2:(Builtin.min_ c.argTypes ty #[.int k m,.int k' n]).run P w=.ok (.int k (if n<m then n else m)) w:=by simp[Builtin.min_,Builtin.min2]
     rw[Sem.run_bind,h2];rfl
    rw[hr];exact OpOK.same (av:=.int k (if n<m then n else m)) hH rfl h
   ·exact h.elim
  ·exact h.elim
 case len=>
  split at h
  ·rename_i x t gp jc;split at h
   ·rename_i u hu;have h1:=U3 gp;have h2:=U3 jc;have fE:((do let d ←resolve a.eval c ty;invoke d.target d.args):Sem Next).run P w=((do pure (.value (←Builtin.len_ #[t] ty #[a.eval x]))):Sem Next).run P w:=by simp only[resolve,hc,h1,h2,cR,aL,bI,Sem.run_bind,Sem.run_pure,Result.andThen_ok,invoke,builtin]
    rw[fE];exact wW hH (zO4 (uG hF x) hu h)
   ·exact h.elim
  ·exact h.elim

theorem zMR{o:Oper}{a:Act}{F:List AV}{K:AV→or→Prop}(hH:tU B w G H)(hF:FRel w G a.tmps F)(h:yD P o F H K):OpOK P B w G K ((execOp a.eval o).run P w):=by
 obtain⟨dst,op,type,pos,after,guard⟩:=o;unfold yD at h;simp only[]at h;cases op <;> (try simp only[]at h) <;> (try exact h.elim) <;> simp only[execOp]
 case move x=>exact OpOK.same hH (uG hF x) h
 case assign x=>exact OpOK.same hH (uG hF x) h
 case pick c x y=>
  unfold tZ at h;split at h
  ·rename_i t ht;have hc:=uG hF c;rw[ht]at hc;have hc:a.eval c=.bool t:=hc;have fE:((do pure (.value (if ←asBool (a.eval c) then a.eval x else a.eval y))):Sem Next).run P w=.ok (.value (if t=true then a.eval x else a.eval y)) w:=by rw[hc];cases t <;> rfl
   rw[fE];refine OpOK.same hH ?_ h;cases t
   ·exact uG hF y
   ·exact uG hF x
  ·exact h.elim
 case alloc t=>
  split at h
  ·rename_i z hz;exact zOI hH hz h
  ·exact h.elim
 case box t x=>exact zOM hH (uG hF x) h
 case build t fq=>
  split at h
  ·rename_i z ps hz hp;exact wW hH (zON hz hp (by simpa using U2 hF fq.toList) h)
  ·exact h.elim
 case buildSlice t len fq=>
  split at h
  ·rename_i size z hs hz;split at h
   ·rename_i hb;simp only[ap,bc,bt]at hb;cases he:vD P t with
    |none=>simp[he]at hs
    |some e=>simp only[he,Option.bind_some]at hs hz;exact zOO hH he hs hz hb.1.1 hb.1.2 hb.2 (by simpa using U2 hF fq.toList) h
   ·exact h.elim
  ·exact h.elim
 case load t x=>
  split at h
  ·rename_i g n hg hn;obtain⟨u,h1,av,h2,h3⟩:=UJ hH (uG hF x) hg hn h;exact wW hH ⟨u,h1,av,h2,h3⟩
  ·exact h.elim
 case store t x y=>
  split at h
  ·rename_i n hn;obtain⟨w',H',h1,h2,h3,h4⟩:=zPc hH (uG hF x) (uG hF y) hn h;have fE:((do Instr.storeAt t (a.eval x) (a.eval y);pure .skip):Sem Next).run P w=.ok .skip w':=by rw[Sem.run_bind,h1];rfl
   rw[fE];exact⟨G,H',h2,h3,h4⟩
  ·exact h.elim
 case nilCheck x=>
  have hx:=uG hF x;rw[zKl]at h;split at h
  ·rename_i id off fA;rw[fA]at hx h;obtain⟨b,hμ,hv⟩:=hx;rw[hv];exact OpOK.same hH (av:=.ptr id off) ⟨b,hμ,rfl⟩ h
  ·rename_i cs fA;rw[fA]at hx h;obtain⟨b,off,hv,hc⟩:=hx;rw[hv];exact OpOK.same hH (av:=.view cs) ⟨b,off,rfl,hc⟩ h
  ·rename_i f cs fA;rw[fA]at hx h;obtain⟨vs,hv,hc⟩:=hx;rw[hv];exact OpOK.same hH (av:=.fn f cs) ⟨vs,rfl,hc⟩ h
  ·rename_i id m off fA;rw[fA]at hx h;obtain⟨⟨b,o,hv⟩,hr⟩:=hx;rw[hv]at hr ⊢;exact OpOK.same hH (av:=.vp id m off) ⟨⟨b,o,rfl⟩,hr⟩ h
  ·exact h.elim
 case binOp op t x y yt=>
  split at h
  ·rename_i hy;exact wW hH (zO9 (uG hF x) hy h)
  ·exact wW hH (zOK (uG hF x) (uG hF y) h)
 case unOp op t x=>exact wW hH (zPd (uG hF x) h)
 case convert s t x=>
  have mN:∀ k,cvK P s t=some k→(match k with
    |.ints k=>(∃j,P.underlying s=some (.int j))∧P.underlying t=some (.int k)
    |.strs=>P.underlying s=some .string∧P.underlying t=some .string
    |.bytes=>∃e,P.underlying s=some (.slice e)∧P.underlying t=some .string∧tU8 P e=true):=by
   intro k hk;unfold cvK at hk;split at hk
   ·rename_i hs;split at hk
    ·rename_i ht;cases hk;exact⟨⟨_,hs⟩,ht⟩
    ·cases hk
   ·rename_i hs;split at hk
    ·rename_i ht;cases hk;exact⟨hs,ht⟩
    ·cases hk
   ·rename_i hs;split at hk
    ·rename_i ht;split at hk
     ·rename_i he;cases hk;exact⟨_,hs,ht,he⟩
     ·cases hk
    ·cases hk
   ·cases hk
  split at h
  ·rename_i k hk;obtain⟨⟨j,hs⟩,ht⟩:=mN _ hk;exact wW hH (zOR (uG hF x) hs ht h)
  ·rename_i hk;obtain⟨hs,ht⟩:=mN _ hk;exact wW hH (zOT (uG hF x) hs ht h)
  ·rename_i hk;obtain⟨e,hs,ht,he⟩:=mN _ hk;exact wW hH (zOS (uG hF x) hs ht he h)
  ·exact h.elim
 case makeFunc fn first caps=>
  cases fn <;> simp only[]at h <;> (try exact h.elim)
  rename_i f;split at h
  ·rename_i hfirst;obtain⟨hb,hk⟩:=h;have hf0:first=#[]:=by cases first;simp_all
   subst hf0;have fE:((do pure (.value (←Instr.makeFunc (.func f) (Array.map a.eval #[]) (caps.map a.eval)))):Sem Next).run P w=.ok (.value (.func (.func f) #[] (caps.map a.eval))) w:=by simp[Instr.makeFunc]
   rw[fE];refine OpOK.same hH (av:=.fn f (caps.toList.map (ev F))) ⟨_,rfl,?_⟩ hk;have:=U1 (UF hF caps.toList) hb;simpa using this
  ·exact h.elim
 case makeSlice t l c=>
  split at h
  ·rename_i size bytes z hs hb hz;split at h
   ·rename_i hq;simp only[ap,bc,bt]at hq;cases he:vD P t with
    |none=>simp[he]at hs
    |some e=>simp only[he,Option.bind_some]at hs hz hb;exact zO6 hH he hs hb hz hq.1 hq.2 (uG hF l) (uG hF c) h
   ·exact h.elim
  ·exact h.elim
 case slice t x lo hi mx=>
  cases mx <;> simp only[]at h <;> (try exact h.elim)
  split at h
  ·rename_i ht;exact wW hH (UK (uG hF x) (Gm hF lo) (Gm hF hi) ht (by omega) h)
  ·rename_i ht;split at h
   ·rename_i size hs;exact wW hH (UK (uG hF x) (Gm hF lo) (Gm hF hi) ht (λ_=>hs) h)
   ·exact h.elim
  ·exact h.elim
 case fieldAddr s x i=>
  split at h
  ·rename_i f hf;split at h
   ·rename_i n hn;exact wW hH (zOY (uG hF x) hf hn h)
   ·exact h.elim
  ·exact h.elim
 case field s x i=>
  split at h
  ·rename_i f hf;split at h
   ·rename_i g n hg hn;exact wW hH (zOZ (uG hF x) hf hg hn h)
   ·exact h.elim
  ·exact h.elim
 case indexAddr t x i=>
  split at h
  ·rename_i size hs;cases he:vD P t with
   |none=>simp[he]at hs
   |some e=>simp only[he,Option.bind_some]at hs;exact wW hH (zO1 (uG hF x) (uG hF i) he hs h)
  ·rename_i a size hs ha hz;simp only[ha,Option.bind_some]at hz;exact wW hH (zO2 (uG hF x) (uG hF i) ha hz h)
  ·exact h.elim
 case index t x i=>
  split at h
  ·rename_i ht;exact wW hH (zO3 (uG hF x) (uG hF i) ht h)
  ·exact h.elim
 case extract x i=>exact wW hH (zOV (uG hF x) h)
 case call c=>
  split at h
  ·rename_i fo hc;exact zOQ hH hF hc h
  ·rename_i b hc;exact zOP hH hF hc h
  ·exact h.elim

theorem zMV{o:Oper}{a:Act}{F:List AV}{K:AV→or→Prop}(hH:tU B w G H)(hF:FRel w G a.tmps F)(h:Am P o.op F H K):OpOK P B w G K ((execOp a.eval o).run P w):=by
 obtain⟨dst,op,type,pos,after,guard⟩:=o;unfold Am at h;simp only[]at h;cases op <;> (try simp only[]at h) <;> (try exact h.elim) <;> simp only[execOp]
 case makeMap t r=>
  split at h
  ·exact zO8 hH h
  ·exact h.elim
 case lookup t x i ok=>
  split at h
  ·rename_i z hz;cases he:zH P t with
   |none=>simp[he]at hz
   |some e=>simp only[he,Option.bind_some]at hz;exact wW hH (zO5 hH he hz (uG hF x) (uG hF i) h)
  ·exact h.elim
 case mapUpdate t m k x=>
  split at h
  ·rename_i e he;obtain⟨w',H',h1,h2,h3,h4⟩:=UZ hH he (uG hF m) (uG hF k) (uG hF x) h;have fE:((do Instr.mapUpdate t (a.eval m) (a.eval k) (a.eval x);pure .skip):Sem Next).run P w=.ok .skip w':=by rw[Sem.run_bind,h1];rfl
   rw[fE];exact⟨G,H',h2,h3,h4⟩
  ·exact h.elim
 case insert t m k x=>
  split at h
  ·rename_i e he;obtain⟨w',H',h1,h2,h3,h4⟩:=UZ hH he (uG hF m) (uG hF k) (uG hF x) h;have fE:((do Instr.mapUpdate t (a.eval m) (a.eval k) (a.eval x);pure .skip):Sem Next).run P w=.ok .skip w':=by rw[Sem.run_bind,h1];rfl
   rw[fE];exact⟨G,H',h2,h3,h4⟩
  ·exact h.elim
theorem Aq{o:Oper}{a:Act}{F:List AV}{K:AV→or→Prop}(hH:tU B w G H)(hF:FRel w G a.tmps F)(h:aop P o F H K):OpOK P B w G K ((execOp a.eval o).run P w):=by
 unfold aop at h;split at h
 ·exact zMV hH hF h
 ·exact zMR hH hF h

end
section
open Go.RowKit

variable {fl:Bool} {wc:WM} {P:Program} {B:Nat} {w:World} {G:Gh} {H:or}
theorem NR{e s b m:Nat}{x:AV}{ds:List AV}{H:or}{K:AV→or→Prop}(h:xY e s b x m ds H K):∃r H',(xY e s b x m ds H λv H2=>v=r∧H2=H')∧K r H':=by
 unfold xY at h ⊢;split at h
 ·split at h
  ·exact⟨_,_,⟨h.1,rfl,rfl⟩,h.2⟩
  ·exact h.elim
 ·split at h
  ·exact⟨_,_,⟨rfl,rfl⟩,h⟩
  ·exact⟨_,_,⟨h.1,rfl,rfl⟩,h.2⟩
 ·split at h
  ·exact⟨_,_,⟨rfl,rfl⟩,h⟩
  ·exact⟨_,_,⟨h.1,rfl,rfl⟩,h.2⟩
 ·exact h.elim
theorem U4{e s b:Nat}{x:AV}{ys:List (List AV)}{H:or}{K:AV→or→Prop}(h2:uy e s b x ys H K):∃r H',(uy e s b x ys H λv H2=>v=r∧H2=H')∧K r H':=by
 unfold uy at h2 ⊢;split at h2
 ·exact⟨_,_,⟨h2.1,rfl,rfl⟩,h2.2⟩
 ·exact⟨_,_,⟨h2.1,h2.2.1,rfl,rfl⟩,h2.2.2⟩
 ·split at h2
  ·exact⟨_,_,⟨h2.1,rfl,rfl⟩,h2.2⟩
  ·exact h2.elim
 ·split at h2
  ·exact⟨_,_,⟨rfl,rfl⟩,h2⟩
  ·exact⟨_,_,⟨h2.1,rfl,rfl⟩,h2.2⟩
 ·exact h2.elim
theorem zKc{e s b:Nat}{x y:AV}{H:or}{K:AV→or→Prop}(h:uj e s b x y H K):∃r H',(uj e s b x y H λv H2=>v=r∧H2=H')∧K r H':=by
 unfold uj at h ⊢;split at h
 ·split at h
  ·obtain⟨r,H',h1,h2⟩:=NR h.2;exact⟨r,H',⟨h.1,h1⟩,h2⟩
  ·exact h.elim
 ·split at h
  ·obtain⟨r,H',h1,h2⟩:=NR h.2;exact⟨r,H',⟨h.1,h1⟩,h2⟩
  ·exact h.elim
 ·split at h
  ·split at h
   ·obtain⟨r,H',h1,h2⟩:=NR h.2;exact⟨r,H',⟨h.1,h1⟩,h2⟩
   ·exact h.elim
  ·exact h.elim
 ·unfold uD at h ⊢;split at h
  ·obtain⟨r,H',h1,h2⟩:=U4 h.2;exact⟨r,H',⟨h.1,h1⟩,h2⟩
  ·obtain⟨r,H',h1,h2⟩:=U4 h.2;exact⟨r,H',⟨h.1,h1⟩,h2⟩
  ·exact h.elim
theorem FRel.put{a:Act}{F:List AV}{d:Option Tmp}{v:Value}{av:AV}(hF:FRel w G a.tmps F)(hv:TRel w G v av):FRel w G (a.put d v).tmps (wm F d av):=by
 cases d with
 |none=>exact hF
 |some d=>unfold FRel at *;simp only[Act.put,wm,cQ];exact All2.set d hF hv
theorem FRel.ext{w':World}{G':Gh}{tm:Array Value}{F:List AV}(hF:FRel w G tm F)(he:Ext B w G w' G'):FRel w' G' tm F:=All2.mono (λ_ _=>he.trel) hF

theorem U5{tm:Array Value}{F:List AV}{d:Nat}{x:AV}(hF:FRel w G tm F)(h:F.getD d .unk=x)(hx:x≠.unk):∃v,tm[d]?=some v∧TRel w G v x:=by
 rw[aq]at h;cases hd:F[d]? with
 |none=>rw[hd]at h;exact absurd h.symm hx
 |some y=>rw[hd]at h;simp at h;subst h;obtain⟨v,h1,h2⟩:=All2.get hF hd;exact⟨v,by simpa using h1,h2⟩

theorem NS{fx:Array Oper}{o:Oper}{a:Act}{F:List AV}{j d:Nat}{want b:Bool}(hF:FRel w G a.tmps F)(hg:o.guard=some (j,want))(hd:(fx[j]?).bind (·.dst)=some d)(hb:F.getD d .unk=.bool b):Region.wanted o (yielded fx a.tmps)=(b == want):=by
 obtain⟨v,h1,h2⟩:=U5 hF hb (by simp);have h2:v=.bool b:=h2;subst h2;simp[Region.wanted,hg,yielded,hd,h1]
theorem U6{fx:Array Oper}{o:Oper}{a:Act}{F:List AV}{j d:Nat}{want:Bool}(hF:FRel w G a.tmps F)(hg:o.guard=some (j,want))(hd:(fx[j]?).bind (·.dst)=some d)(hb:F.getD d .unk=.tup []):Region.wanted o (yielded fx a.tmps)=false:=by
 obtain⟨v,h1,h2⟩:=U5 hF hb (by simp);obtain⟨vs,rfl,_⟩:=h2;simp[Region.wanted,hg,yielded,hd,h1]

theorem NT:TRel w G undef (.tup []):=⟨#[],rfl,trivial⟩

theorem D5{o:Oper}{a:Act}{F:List AV}{K:AV→or→Prop}{K':Act→World→Prop}{Q:Exit→Act→World→Prop}(hF:FRel w G a.tmps F)(h:OpOK P B w G K ((execOp a.eval o).run P w))(hK:∀v av w' G' H',Ext B w G w' G'→tU B w' G' H'→TRel w' G' v av→K av H'→K' (a.put o.dst v) w'):o.wp P a w K' Q:=by
 unfold Oper.wp;generalize (execOp a.eval o).run P w=r at *;cases r with
 |halt x w'=>cases x <;> exact h.elim
 |ok n w'=>
  cases n <;> simp only[OpOK]at h <;> simp only[Oper.upon]
  case value v=>obtain⟨av,G',H',h1,h2,h3,h4⟩:=h;exact hK v av w' G' H' h1 h2 h3 h4
  case skip=>obtain⟨G',H',h1,h2,h4⟩:=h;exact hK undef (.tup []) w' G' H' h1 h2 NT h4
  case enter f vs=>obtain⟨rfl,hc⟩:=h;refine hc.mono λe w'' he=>?_;obtain⟨v,r,H',G',rfl,h1,h2,h3,h4⟩:=he;exact hK v r w'' G' H' h1 h2 h3 h4

theorem tU.newB(h:tU B w G H)(vs:Array Value)(t:TypeId)(cs:List AV)(hc:All2 (ARel w G) vs.toList cs):
  Ext B w G (w.alloc (.cells vs t)) ⟨G.L,G.μ++[.blk w.heap.size]⟩∧tU B (w.alloc (.cells vs t)) ⟨G.L,G.μ++[.blk w.heap.size]⟩ (H++[.bld t cs]):=by
 obtain⟨he,hH⟩:=h.new vs t cs hc;refine⟨he,by simpa using hH.len,λid ab gi h1 h2=>?_,hH.dist,hH.fresh,hH.lt,hH.base⟩;by_cases fy:id<H.length
 ·rw[ah fy]at h1;exact hH.ok id ab gi (by rw[ah fy];exact h1) h2
 ·have fT:=(ac.1 h1).1;simp at fT;obtain rfl:id=H.length:=by omega
  simp at h1;subst h1;have hg:gi=.blk w.heap.size:=by simp only[]at h2;rw[←h.len]at h2;simpa using h2.symm
  subst hg;exact⟨h.base,h.fresh _ (af _),vs,y6 _,hc.mono λ_ _=>he.arel⟩
theorem zMW{o:Oper}{a:Act}{F:List AV}{K:AV→or→Prop}(hH:tU B w G H)(hF:FRel w G a.tmps F)(h:DP P o F H K):OpOK P B w G K ((execOp a.eval o).run P w):=by
 unfold DP at h;split at h
 ·rename_i t gZ;split at h
  ·split at h
   ·rename_i z hz;obtain⟨he,f7⟩:=hH.newB z.cells t (v7 z) (zL z);have fE:(execOp a.eval o).run P w=.ok (.value (.pointer (some ⟨w.heap.size,0,none⟩))) (w.alloc (.cells z.cells t)):=by obtain⟨dst,op,type,pos,after,guard⟩:=o;simp only[]at gZ;subst gZ;simp[execOp,Instr.alloc,Cs hz,newVar,newRow,World.alloc_eq]
    rw[fE];refine⟨.ptr H.length 0,_,_,he,f7,⟨w.heap.size,?_,rfl⟩,h⟩;rw[←hH.len];simp
   ·exact h.elim
  ·exact Aq hH hF h
 ·exact Aq hH hF h

theorem U7{x:AV}{v:Value}{K:Bool→Prop}(hx:TRel w G v x)(h:Cm x K):∃ad n c b,v=.slice ad n c∧b=ad.isNone∧K b:=by
 unfold Cm at h;split at h
 ·cases hx;exact⟨_,_,_,_,rfl,rfl,h⟩
 ·obtain⟨b,_,rfl⟩:=hx;exact⟨_,_,_,_,rfl,rfl,h⟩
 ·obtain⟨⟨a,cap0,rfl,hb,_⟩,_⟩:=hx;obtain⟨g,hg⟩:=hb (by omega);subst hg;exact⟨_,_,_,_,rfl,rfl,h⟩
 ·have hx:DRel w G.L v _:=hx;cases hx with
  |sl b off cap ft es vs fI=>exact⟨_,_,_,_,rfl,rfl,h⟩
 ·have hx:DRel w G.L v _:=hx;cases hx with
  |slE a cap=>exact⟨a,_,_,_,rfl,rfl,by cases a with|none=>exact h.1|some _=>exact h.2⟩
  |sl b off cap ft es vs fI=>exact absurd rfl fI
 ·exact h.elim
theorem zPa{op:BinOp}{t:TypeId}{xo yo:Operand}{u:Value}{x:AV}{a:Act}{K:AV→Prop}(hx:TRel w G u x)(hy:ND yo=true)(h:DQ (NE P t) op x K):
  ∃r,((do eqGuard op t xo yo u (a.eval yo);binOp op t u (a.eval yo)):Sem Value).run P w=.ok r w∧∃av,TRel w G r av∧K av:=by
 obtain⟨ht,h⟩:=h;obtain⟨e,hu⟩:∃e,P.underlying t=some (.slice e):=by
  unfold NE at ht;split at ht
  ·exact⟨_,by assumption⟩
  ·cases ht
 obtain rfl:yo=.const (.slice none 0 0):=by
  unfold ND at hy;split at hy
  ·rfl
  ·cases hy
 have he:a.eval (.const (.slice none 0 0))=.slice none 0 0:=rfl;rw[he];have key:∀ad n c,(Op.equal t (.slice ad n c) (.slice none 0 0)).run P w=.ok ad.isNone w:=λad n c=>by have hm:Op.equal t (.slice ad n c) (.slice none 0 0)=Op.equalIn (9999+1) t (.slice ad n c) (.slice none 0 0):=rfl;rw[hm];unfold Op.equalIn;cases ad <;> simp only[Sem.run_bind,uY hu,Result.andThen_ok,Sem.run_pure,Option.isNone_none,Option.isNone_some]
 split at h
 ·obtain⟨ad,n,c,b,rfl,rfl,hk⟩:=U7 hx h;exact⟨.bool ad.isNone,by rw[show eqGuard .eql t xo (.const (.slice none 0 0)) (.slice ad n c) (.slice none 0 0)=pure () from rfl];simp[binOp,key],.bool ad.isNone,rfl,hk⟩
 ·obtain⟨ad,n,c,b,rfl,rfl,hk⟩:=U7 hx h;exact⟨.bool (!ad.isNone),by rw[show eqGuard .neq t xo (.const (.slice none 0 0)) (.slice ad n c) (.slice none 0 0)=pure () from rfl];simp[binOp,key],.bool (!ad.isNone),rfl,hk⟩
 ·exact h.elim
theorem tU.newMade(h:tU B w G H)(vs:Array Value)(e:TypeId)(size cap:Nat)(hs:vs.size=cap*size)(hm:cap≤maxLen):
  Ext B w G (w.alloc (.cells vs e)) ⟨G.L,G.μ++[.own (.slice (some ⟨w.heap.size,0,none⟩) 0 cap) size 0]⟩∧tU B (w.alloc (.cells vs e)) ⟨G.L,G.μ++[.own (.slice (some ⟨w.heap.size,0,none⟩) 0 cap) size 0]⟩ (H++[.vec e size 0 []]):=by
 have he:=Ext.alloc h (.cells vs e) G.L (λ_ _=>rfl) [.own (.slice (some ⟨w.heap.size,0,none⟩) 0 cap) size 0];refine⟨he,?_⟩;have split:∀(id:Nat) gi,(G.μ++[.own (.slice (some ⟨w.heap.size,0,none⟩) 0 cap) size 0])[id]?=some gi→G.μ[id]?=some gi∨(id=G.μ.length∧gi=.own (.slice (some ⟨w.heap.size,0,none⟩) 0 cap) size 0):=by
  intro id gi hg;by_cases fy:id<G.μ.length
  ·rw[ah fy]at hg;exact .inl hg
  ·have fT:=(ac.1 hg).1;simp at fT;have:id=G.μ.length:=by omega
   subst this;simp at hg;exact .inr ⟨rfl,hg.symm⟩
 refine⟨by simp[h.len],?_,?_,?_,?_,?_⟩
 ·intro id ab gi h1 h2;rcases split id gi h2 with h2 | ⟨rfl,rfl⟩
  ·have fy:id<H.length:=by rw[←h.len];exact (ac.1 h2).1
   rw[ah fy]at h1;exact(h.ok id ab gi h1 h2).keep he (λb hb=>⟨yk (h.lt id gi b h2 hb),rfl⟩)
  ·rw[h.len]at h1;simp at h1;subst h1;refine⟨rfl,rfl,⟨[],World.ownsRow_made w vs cap h.base hm hs,trivial⟩,λb hb=>?_⟩;simp[Value.ownBlock]at hb;subst hb;exact h.fresh _ (af _)
 ·intro id id' gi gi' b h1 h2 h3 h4;rcases split id gi h1 with h1 | ⟨rfl,rfl⟩ <;> rcases split id' gi' h2 with h2 | ⟨rfl,rfl⟩
  ·exact h.dist id id' gi gi' b h1 h2 h3 h4
  ·have:=h.lt id gi b h1 h3;simp[GI.block,Value.ownBlock]at h4;omega
  ·have:=h.lt id' gi' b h2 h4;simp[GI.block,Value.ownBlock]at h3;omega
  ·rfl
 ·intro b hb;rw[wR]at hb;exact h.fresh b (by omega)
 ·intro id gi b h1 h2;rw[wR];rcases split id gi h1 with h1 | ⟨rfl,rfl⟩
  ·have:=h.lt id gi b h1 h2;omega
  ·simp[GI.block,Value.ownBlock]at h2;omega
 ·rw[wR];have:=h.base;omega
theorem zO7{t e:TypeId}{size bytes:Nat}{z:Value}{vc:Value}{c:AV}{K:AV→or→Prop}(hH:tU B w G H)(he:vD P t=some e)(hn:uV P e=some size)(gD:xI P e=some bytes)(hz:vW P e=some z)(h0:0<size)(l9:(v7 z).length=size)(hc:TRel w G vc c)(h:zI e size bytes c H K):
  OpOK P B w G K (((do pure (.value (←Instr.makeSlice t (.int .i64 0) vc))):Sem Next).run P w):=by
 unfold zI at h;split at h
 ·rename_i c;cases hc;obtain⟨⟨h2,h3,h4⟩,hk⟩:=h;have kY:=zL (w:=w) (G:=G) z;have js:z.cells.size=size:=by have:=kY.length;simp at this;omega
  unfold uV at hn;unfold vW at hz;unfold xI at gD;cases hi:P.info? e with
  |none=>simp[hi]at hn
  |some i=>
   simp[hi]at hn hz gD;have hr:=run_make (P:=P) w t e i z (wV he) hi hz .i64 .i64 0 c (by omega) h2 (by rw[gD,eX];omega) h4;have hm:=(NM kY (by omega) c.toNat).length;rw[hn]at hr;obtain⟨hx,f7⟩:=hH.newMade (madeCells z.cells (c.toNat*size)) e size c.toNat (by simp[madeCells]) (by simp[maxLen];omega);have fE:((do pure (.value (←Instr.makeSlice t (.int .i64 0) (.int .i64 c)))):Sem Next).run P w=.ok (.value (.slice (some ⟨w.heap.size,0,none⟩) 0 c.toNat)) (w.alloc (.cells (madeCells z.cells (c.toNat*size)) e)):=by rw[Sem.run_bind,hr];rfl
   rw[fE];refine⟨.ov H.length 0,_,_,hx,f7,⟨⟨_,_,rfl,(λh=>by omega),by omega⟩,.slice (some ⟨w.heap.size,0,none⟩) 0 c.toNat,size,0,?_,af _,λ_=>rfl⟩,hk⟩;rw[←hH.len];simp
 ·exact h.elim
theorem zOL{op:BinOp}{t:TypeId}{xo yo:Operand}{u v:Value}{x y:AV}{K:AV→or→Prop}(hH:tU B w G H)(hx:TRel w G u x)(hy:TRel w G v y)(h:A6 op x y (K · H)):
  OpOK P B w G K (((do pure (.value (←(do eqGuard op t xo yo u v;binOp op t u v)))):Sem Next).run P w):=by
 unfold A6 at h;split at h
 ·obtain⟨b,rfl⟩:=hx;obtain⟨c,rfl⟩:=hy;have key:∀ q:Option Nat,K .flt H→OpOK P B w G K (((do pure (.value (←(match q with
    |some r=>pure (.float .f64 r)
    |none=>do pure (.float .f64 (←choose (.nanBits .f64 b c))):Sem Value)))):Sem Next).run P w):=by
   intro q hk;cases q with
   |some r=>exact OpOK.same hH (show TRel w G (.float .f64 r) .flt from ⟨r,rfl⟩) hk
   |none=>exact⟨.flt,G,H,Ext.drew B w G (w.drawn+1) (by omega),hH.drew (w.drawn+1) (by omega),⟨_,rfl⟩,hk⟩
  split at h
  ·exact key (FloatKind.f64.format.add b c) h
  ·exact key (FloatKind.f64.format.sub b c) h
  ·exact key (FloatKind.f64.format.mul b c) h
  ·exact key (FloatKind.f64.format.div b c) h
  ·exact h.elim
 ·exact h.elim
theorem zLp{s t:TypeId}(h:cvF P s t=some true):∃k,P.underlying s=some (.int k)∧P.underlying t=some (.float .f64):=by
 unfold cvF at h;split at h
 ·rename_i k h1 h2;exact⟨k,h1,h2⟩
 ·simp at h
 ·cases h
theorem zLo{s t:TypeId}(h:cvF P s t=some false):P.underlying s=some (.float .f64)∧P.underlying t=some (.int .u64):=by
 unfold cvF at h;split at h
 ·simp at h
 ·rename_i h1 h2;exact⟨h1,h2⟩
 ·cases h
theorem zO0{s t:TypeId}{v:Value}{x:AV}{K:AV→Prop}(hx:TRel w G v x)(hc:cvF P s t=some true)(h:A7 x K):
  ∃r,(convert s t v).run P w=.ok r w∧∃av,TRel w G r av∧K av:=by
 obtain⟨k,hs,ht⟩:=zLp hc;unfold A7 at h;split at h
 ·rename_i kk nn;cases hx;exact⟨.float .f64 (FloatKind.f64.nearest nn),by simp[convert,uY hs,uY ht,Conv.intToFloat],.flt,⟨_,rfl⟩,h⟩
 ·exact h.elim
theorem zOW{s t:TypeId}{v:Value}{x:AV}{K:AV→or→Prop}(hH:tU B w G H)(hx:TRel w G v x)(hc:cvF P s t=some false)(h:DS x (K · H)):
  OpOK P B w G K (((do pure (.value (←convert s t v))):Sem Next).run P w):=by
 obtain⟨hs,ht⟩:=zLo hc;unfold DS at h;split at h
 ·obtain⟨b,rfl⟩:=hx;have sE:(convert s t (.float .f64 b)).run P w=(Conv.floatToInt .f64 b .u64).run P w:=by simp[convert,uY hs,uY ht]
  have any:OpOK P B w G K (((do pure (.value (←(do pure (.int .u64 (IntKind.u64.wrap (←choose (.floatToInt .f64 b .u64)))):Sem Value)))):Sem Next).run P w):=by have hn:∀m:Nat,∃n:Nat,n<18446744073709551616∧IntKind.u64.wrap (m:Int)=(n:Int):=λm=>⟨m % 18446744073709551616,ci _ (by decide),rfl⟩;obtain⟨n,gx,ig⟩:=hn ((Question.floatToInt .f64 b .u64).cut (w.tape w.drawn (.floatToInt .f64 b .u64)));refine⟨.int .u64 n,G,H,Ext.drew B w G (w.drawn+1) (by omega),hH.drew (w.drawn+1) (by omega),?_,h n gx⟩;rw[←ig];rfl
  rw[Sem.run_bind,sE];unfold Conv.floatToInt;split
  ·rename_i n hn;split
   ·rename_i hr;obtain⟨m,rfl⟩:∃m:Nat,n=m:=⟨n.toNat,by have:(0:Int)≤n:=hr.1;omega⟩;have h2:(m:Int)≤18446744073709551615:=hr.2;exact OpOK.same hH (show TRel w G (.int .u64 m) (.int .u64 m) from rfl) (h m (by omega))
   ·exact any
  ·exact any
 ·exact h.elim
theorem zMY{o:Oper}{a:Act}{F:List AV}{K:AV→or→Prop}(hH:tU B w G H)(hF:FRel w G a.tmps F)(h:NF P o F H K):OpOK P B w G K ((execOp a.eval o).run P w):=by
 unfold NF at h;split at h
 ·rename_i op t x y pos gZ;obtain⟨dst,op0,type,pos0,after,guard⟩:=o;simp only[]at gZ;subst gZ;split at h
  ·rename_i hy;simp only[execOp];exact wW hH (zPa (a:=a) (uG hF x) hy h)
  ·split at h
   ·simp only[execOp];exact zOL hH (uG hF x) (uG hF y) h
   ·exact Aq hH hF h
 ·rename_i s t x gZ;obtain⟨dst,op0,type,pos0,after,guard⟩:=o;simp only[]at gZ;subst gZ;split at h
  ·rename_i hc;simp only[execOp];exact wW hH (zO0 (uG hF x) hc h)
  ·rename_i hc;simp only[execOp];exact zOW hH (uG hF x) hc h
  ·exact Aq hH hF h
 ·rename_i t l c gZ;obtain⟨dst,op0,type,pos0,after,guard⟩:=o;simp only[]at gZ;subst gZ;split at h
  ·rename_i hl;simp only[execOp];split at h
   ·rename_i e he;split at h
    ·rename_i size bytes z hs gD hz;split at h
     ·rename_i hb;simp at hb;have jC:a.eval l=.int .i64 0:=by
       unfold UA at hl;split at hl
       ·rfl
       ·cases hl
      rw[jC];exact zO7 hH he hs gD hz hb.1 hb.2 (uG hF c) h
     ·exact h.elim
    ·exact h.elim
   ·exact h.elim
  ·exact Aq hH hF h
 ·exact Aq hH hF h
theorem U8{fx:Array Oper}{K:List AV→or→Prop}{Q:Exit→Act→World→Prop}{w0:World}{G0:Gh}(hQ:∀ a w G F H,Ext B w0 G0 w G→tU B w G H→FRel w G a.tmps F→a.defers=[]→K F H→Q .normal a w):
  ∀(l:List Oper) (F:List AV) (H:or) (a:Act) (w:World) (G:Gh),Ext B w0 G0 w G→tU B w G H→FRel w G a.tmps F→a.defers=[]→DT P l K F H→wpList P fx Q l a w
 |[],F,H,a,w,G,hE,hH,hF,hd,h=>hQ a w G F H hE hH hF hd h
 |o::l,F,H,a,w,G,hE,hH,hF,hd,h=>by
  refine wpList_step λK' jd=>?_;unfold DT at h;split at h
  ·rename_i hg;rw[aN (by simp[Region.wanted,hg])];exact D5 hF (zMY hH hF h) λv av w' G' H' h1 h2 h3 h4=>
    jd _ _ (U8 hQ l _ _ _ _ G' (hE.trans h1) h2 ((hF.ext h1).put h3) (by cases jH:o.dst <;> simpa[Act.put,jH]using hd) h4)
  ·exact h.elim
theorem NU{fx:Array Oper}{K:List AV→or→Prop}{Q:Exit→Act→World→Prop}{w0:World}{G0:Gh}(hQ:∀ a w G F H,Ext B w0 G0 w G→tU B w G H→FRel w G a.tmps F→a.defers=[]→K F H→Q .normal a w):
  ∀(l:List Oper) (F:List AV) (H:or) (a:Act) (w:World) (G:Gh),Ext B w0 G0 w G→tU B w G H→FRel w G a.tmps F→a.defers=[]→An P fx l K F H→wpList P fx Q l a w
 |[],F,H,a,w,G,hE,hH,hF,hd,h=>hQ a w G F H hE hH hF hd h
 |o::l,F,H,a,w,G,hE,hH,hF,hd,h=>by
  have go:∀(K':Act→World→Prop),(∀a w,wpList P fx Q l a w→K' a w)→DP P o F H (λv H'=>An P fx l K (wm F o.dst v) H')→o.wp P a w K' Q:=λK' jd gZ=>
   D5 hF (zMW hH hF gZ) λv av w' G' H' h1 h2 h3 h4=>
    jd _ _ (NU hQ l _ _ _ _ G' (hE.trans h1) h2 ((hF.ext h1).put h3) (by cases jH:o.dst <;> simpa[Act.put,jH]using hd) h4)
  have skip:∀(K':Act→World→Prop),(∀a w,wpList P fx Q l a w→K' a w)→An P fx l K (wm F o.dst (.tup [])) H→K' (a.put o.dst undef) w:=λK' jd gZ=>
   jd _ _ (NU hQ l _ _ _ _ G hE hH (hF.put NT) (by cases jH:o.dst <;> simpa[Act.put,jH]using hd) gZ)
  refine wpList_step λK' jd=>?_;unfold An at h;split at h
  ·rename_i hg;rw[aN (by simp[Region.wanted,hg])];exact go K' jd h
  ·rename_i j want hg;split at h
   ·rename_i d my;unfold ui DO at h;split at h
    ·rename_i b hb;rw[NS hF hg my hb];unfold aIf at h;split at h
     ·rename_i hw;rw[aN hw];exact go K' jd h
     ·rename_i hw;rw[aG hw];exact skip K' jd h
    ·rename_i hb;rw[U6 hF hg my hb,aG (by simp)];exact skip K' jd h
    ·exact h.elim
   ·exact h.elim


theorem zKE{o:Oper}{F F':List AV}{K:AV→or→Prop}(h:∀x∈o.op.operands,ev F x=ev F' x):yD P o F H K=yD P o F' H K:=by
 obtain⟨dst,op,type,pos,after,guard⟩:=o;have pairs:∀ps:Array (Nat×Operand),(∀x∈ps.toList.map (·.2),ev F x=ev F' x)→(ps.toList.map λp=>(p.1,ev F p.2))=(ps.toList.map λp=>(p.1,ev F' p.2)):=λps hp=>
  bN λp hm=>by rw[hp p.2 (aF.2 ⟨p,hm,rfl⟩)]
 cases op <;> simp only[Op.operands]at h <;> simp only[yD]
 case build t ps=>rw[pairs ps (by simpa using h)]
 case buildSlice t n ps=>rw[pairs ps (by simpa using h)]
 case makeFunc fn first caps=>
  cases fn <;> simp only[]
  rw[bN (l:=caps.toList) (λx hx=>h x (Array.mem_append.2 (.inr (by simpa using hx))))]
 case slice t x lo hi mx=>
  cases mx <;> simp only[]
  have hx:=h x (by simp);have gR:lo.map (ev F)=lo.map (ev F'):=by cases lo <;> simp_all
  have kW:hi.map (ev F)=hi.map (ev F'):=by cases hi <;> simp_all
  rw[hx,gR,kW]
 case call c=>
  cases hc:c.callee with
  |value f=>have hf:=h f (by simp[Call.operands,hc]);have ha:c.args.toList.map (ev F)=c.args.toList.map (ev F'):=bN λx hx=>h x (by simp[Call.operands,hc];exact .inr (by simpa using hx));simp only[hf,ha]
  |builtin b=>
   have ha:∀x∈c.args.toList,ev F x=ev F' x:=λx hx=>h x (by simp[Call.operands,hc];simpa using hx);cases b <;> simp only[Ak]
   all_goals
    split
    ·first
     | (rename_i gp _
        rw[gp]at ha;simp only[aT,List.not_mem_nil,or_false,forall_eq_or_imp,forall_eq]at ha;simp only[ha])
     | (rename_i gp
        rw[gp]at ha;simp only[aT,List.not_mem_nil,or_false,forall_eq_or_imp,forall_eq]at ha;simp only[ha])
    ·rfl
  |invoke r m=>rfl
 all_goals (first|rfl|(simp_all;done))

theorem zKH{o:Oper}{F F':List AV}{K:AV→or→Prop}(h:∀x∈o.op.operands,ev F x=ev F' x):Am P o.op F H K=Am P o.op F' H K:=by
 obtain⟨dst,op,type,pos,after,guard⟩:=o;cases op <;> simp only[Op.operands]at h <;> simp only[Am]
 all_goals (first|rfl|(simp_all;done))
theorem zKI{o:Oper}{F F':List AV}{K:AV→or→Prop}(h:∀x∈o.op.operands,ev F x=ev F' x):aop P o F H K=aop P o F' H K:=by unfold aop;rw[zKH h,zKE h]
theorem zKG{o:Oper}{F F':List AV}{K:AV→or→Prop}(h:∀x∈o.op.operands,ev F x=ev F' x):vv fl P o F H K=vv fl P o F' H K:=by
 unfold vv;split
 ·rename_i t a gZ;rw[h a (by rw[gZ];simp[Op.operands])]
 ·exact zKI h
theorem zKF{o:Oper}{F:List AV}{K:AV→or→Prop}(h:vv fl P o F H K):aop P o F H K:=by
 obtain⟨dst,op,type,pos,after,guard⟩:=o;unfold vv at h;cases op <;> (try simp only[]at h) <;> (try exact h)
 simp only[aop,isM,yD];split at h
 ·rename_i g n hg hn;cases fl with
  |true=>exact h
  |false=>
   unfold Ge tY at h;simp only[]at h;split at h
   ·exact h.elim
   ·exact h
 ·exact h.elim

theorem U9{o:Oper}(ho:opF o.op=true){F:List AV}{r:AV}{H H':or}(h:vv fl P o F H λv H2=>v=r∧H2=H):vv fl P o F H' λv H2=>v=r∧H2=H':=by
 obtain⟨dst,op,type,pos,after,guard⟩:=o;cases op <;> simp only[opF,aK]at ho <;> simp only[vv,aop,isM,yD,and_true]at h ⊢
 all_goals first
  |exact h
  |skip
 case call c=>
  cases hc:c.callee with
  |value f=>simp[hc]at ho
  |invoke r m=>simp[hc]at ho
  |builtin b=>
   cases b <;> simp[hc]at ho
   simpa[hc,Ak]using h
 case makeFunc fn first caps=>cases fn <;> simp only[]at h ⊢ <;> try exact h
 case slice t x lo hi mx=>cases mx <;> simp only[]at h ⊢ <;> exact h

theorem zMX{o:Oper}(ho:opW .n o.op=true){F:List AV}{H:or}{K:AV→or→Prop}(h:vv fl P o F H K):∃v H',(vv fl P o F H λv2 H2=>v2=v∧H2=H')∧K v H':=by
 obtain⟨dst,op,type,pos,after,guard⟩:=o;cases op <;> simp only[opW,aK]at ho <;> simp only[vv,aop,isM,yD,Am]at h ⊢
 case alloc t=>
  split at h
  ·exact⟨_,_,⟨rfl,rfl⟩,h⟩
  ·exact h.elim
 case box t x=>
  unfold ul at h ⊢;split at h
  ·exact⟨_,_,⟨rfl,rfl⟩,h⟩
  ·exact h.elim
 case store t x y=>
  split at h
  ·simp only[Ai]at h ⊢;split at h
   ·split at h
    ·exact⟨_,_,⟨h.1,rfl,rfl⟩,h.2⟩
    ·exact h.elim
   ·split at h
    ·exact⟨_,_,⟨h.1,rfl,rfl⟩,h.2⟩
    ·exact h.elim
   ·exact h.elim
  ·exact h.elim
 case makeSlice t l c=>
  split at h
  ·split at h
   ·unfold vo at h ⊢;split at h
    ·exact⟨_,_,⟨h.1,rfl,rfl⟩,h.2⟩
    ·exact h.elim
   ·exact h.elim
  ·exact h.elim
 case makeMap t r=>
  split at h
  ·exact⟨_,_,⟨rfl,rfl⟩,h⟩
  ·exact h.elim
 case mapUpdate t m k x=>
  split at h
  ·unfold yC at h ⊢;split at h
   ·split at h
    ·split at h
     ·exact h.elim
     ·exact⟨_,_,⟨rfl,rfl⟩,h⟩
    ·exact h.elim
   ·exact h.elim
  ·exact h.elim
 case insert t m k x=>
  split at h
  ·unfold yC at h ⊢;split at h
   ·split at h
    ·split at h
     ·exact h.elim
     ·exact⟨_,_,⟨rfl,rfl⟩,h⟩
    ·exact h.elim
   ·exact h.elim
  ·exact h.elim
 case call c=>
  cases hc:c.callee with
  |value f=>simp[hc,WM.on]at ho
  |invoke r m=>simp[hc]at ho
  |builtin b=>
   cases b <;> simp[hc]at ho
   case append=>
    simp only[hc,Ak]at h ⊢;split at h
    ·split at h
     ·split at h
      ·obtain⟨r,H',k1,k2⟩:=zKc h;exact⟨r,H',k1,k2⟩
      ·exact h.elim
     ·exact h.elim
    ·exact h.elim
   case copy=>
    simp only[hc,Ak]at h ⊢;split at h
    ·split at h
     ·unfold A5 at h ⊢;split at h
      ·split at h
       ·rename_i f5;exact⟨_,_,⟨h.1,rfl,rfl⟩,h.2⟩
       ·exact h.elim
      ·exact h.elim
     ·exact h.elim
    ·exact h.elim

def TrOK(fl:Bool)(P:Program)(fx:Array Oper)(H:or)(F:List AV)(o:Oper)(r:AV)(H':or):Prop:=
 match o.guard with
 |none=>vv fl P o F H λv H2=>v=r∧H2=H'
 | some (j,want)=>∃ d,(fx[j]?).bind (·.dst)=some d ∧
   ((∃ b,F.getD d .unk=.bool b∧(b == want)=true∧vv fl P o F H λv H2=>v=r∧H2=H') ∨
    (∃b,F.getD d .unk=.bool b∧(b == want)=false∧r=.tup []∧H'=H)∨(F.getD d .unk=.tup []∧r=.tup []∧H'=H))

theorem TrOK.congr{fx:Array Oper}{F F':List AV}{o:Oper}{r:AV}{H':or}(h:∀s∈x4 fx o,F.getD s .unk=F'.getD s .unk)(ht:TrOK fl P fx H F o r H'):TrOK fl P fx H F' o r H':=by
 have pm:∀x∈o.op.operands,ev F x=ev F' x:=λx hx=>by
  cases x with
  |tmp t=>exact h t (by simp only[x4,bg,List.mem_filterMap];exact .inl ⟨.tmp t,by simpa using hx,rfl⟩)
  |_=>rfl
 have gZ:(vv fl P o F H λv H2=>v=r∧H2=H')=vv fl P o F' H λv H2=>v=r∧H2=H':=zKG pm;unfold TrOK at *;split at ht
 ·rw[←gZ];exact ht
 ·rename_i j want hg;obtain⟨d,hd,ht⟩:=ht;have hs:=h d (by simp[x4,hg,hd]);refine⟨d,hd,?_⟩;rw[←hs,←gZ];exact ht

theorem TrOK.free{fx:Array Oper}{F:List AV}{o:Oper}{r:AV}{H H':or}(ho:opF o.op=true)(ht:TrOK fl P fx H F o r H):TrOK fl P fx H' F o r H':=by
 unfold TrOK at *;split at ht
 ·exact U9 ho ht
 ·obtain⟨d,hd,ht⟩:=ht;refine⟨d,hd,?_⟩;rcases ht with ⟨b,h1,h2,h3⟩ | ⟨b,h1,h2,h3,_⟩ | ⟨h1,h2,_⟩
  ·exact .inl ⟨b,h1,h2,U9 ho h3⟩
  ·exact .inr (.inl ⟨b,h1,h2,h3,rfl⟩)
  ·exact .inr (.inr ⟨h1,h2,rfl⟩)

inductive TrL (fl:Bool) (wc:WM) (P:Program) (fx:Array Oper):List Oper→List AV→or→List AV→List or→List AV→or→Prop
 |nil (F:List AV) (H:or):TrL fl wc P fx [] F H [] [] F H
 |cons {o:Oper} {os:List Oper} {F rs Fn:List AV} {r:AV} {H H' Hn:or} {hs:List or} (h:TrOK fl P fx H F o r H') (hw:opW wc o.op=false→H'=H) (hx:opC wc o.op=true→∀J,TrOK fl P fx (H++J) F o r (H++J)) (gE:opG wc o.op=true→GrowA H H') (hk:opK wc o.op=true→o.guard=none→DV (DU fx F) H H') (t:TrL fl wc P fx os (wm F o.dst r) H' rs hs Fn Hn):TrL fl wc P fx (o::os) F H (r::rs) (H'::hs) Fn Hn

theorem Va{o:Oper}{gr:Bool}(ho:opW wc o.op=true)(hg:wc=.n→gr=false){F:List AV}{H:or}{K:AV→or→Prop}(h:zK wc gr H (vv fl P o F H) K):∃v H',(vv fl P o F H λv2 H2=>v2=v∧H2=H')∧(gr=true→GrowA H H')∧K v H':=by
 cases wc with
 |n=>obtain⟨v,H',h1,h2⟩:=zMX ho h;exact⟨v,H',h1,(λh=>by rw[hg rfl]at h;cases h),h2⟩
 |w=>exact h
 |g=>exact h
 |c=>exact h
 |l=>exact h
theorem Vb(op:Op):opG .n op=false:=by
 cases op <;> try rfl
 rename_i c;cases hc:c.callee <;> simp[opG,hc,WM.gr]
theorem zMU{op:Op}(h:opW wc op=false):opG wc op=false:=by
 cases op <;> try rfl
 rename_i c;cases hc:c.callee with
 |value f=>cases wc <;> simp[opW,opG,hc,WM.on,WM.gr]at h ⊢
 |builtin b=>simp[opG,hc]
 |invoke r m=>simp[opG,hc]
theorem zMT{op:Op}(h:opC wc op=true):opW wc op=false:=by
 cases op <;> simp only[opC,aK]at h
 rename_i c;cases hc:c.callee with
 |value f=>simpa[opW,hc]using h
 |builtin b=>simp[hc]at h
 |invoke r m=>simp[hc]at h
theorem Gn{op:Op}(h:opK wc op=true):wc=.l∧opW wc op=true:=by
 cases op <;> simp only[opK,aK]at h
 rename_i c;cases hc:c.callee with
 |value f=>
  cases wc <;> simp[hc]at h
  exact⟨rfl,by simp[opW,hc,WM.on]⟩
 |builtin b=>simp[hc]at h
 |invoke r m=>simp[hc]at h
theorem zMg{b:Bool}{asx:List AV}{H':or}{K:Prop}(h:UC b asx H H' K):K∧(b=true→DV asx H H'):=by cases b <;> first|exact⟨h,λe=>by cases e⟩|exact⟨h.2,λ_=>h.1⟩
theorem x5{fx:Array Oper}{K:List AV→or→Prop}:∀ (l:List Oper) (F:List AV) (H:or),xy fl wc P fx l K F H→∃ rs hs Fn Hn,TrL fl wc P fx l F H rs hs Fn Hn∧K Fn Hn
 |[],F,H,h=>⟨[],[],F,H,.nil F H,h⟩
 |o::l,F,H,h=>by
  unfold xy at h;have noC:∀{p:Prop},opC wc o.op=false→opC wc o.op=true→p:=λh1 h2=>by rw[h1]at h2;cases h2
  have noG:∀{p:Prop},opW wc o.op=false→opG wc o.op=true→p:=λh1 h2=>by rw[zMU h1]at h2;cases h2
  have noK:opW wc o.op=false→opK wc o.op=true→o.guard=none→∀{p:Prop},p:=λh1 h2 _=>by rw[(Gn h2).2]at h1;cases h1
  have noW:∀{p:Prop},opW wc o.op=true→opC wc o.op=true→p:=λh1 h2=>by rw[zMT h2]at h1;cases h1
  split at h
  ·rename_i hg;split at h
   ·rename_i hw;split at h
    ·rename_i hc;obtain⟨r,h1,h2⟩:=h;obtain⟨rs,hs,Fn,Hn,h3,h4⟩:=x5 l _ _ h2;exact⟨r::rs,H::hs,Fn,Hn,.cons (by unfold TrOK;rw[hg];exact h1) (λ_=>rfl) (noC hc) (noG hw) (λh0 h1=>noK hw h0 h1) h3,h4⟩
    ·rename_i hc;obtain⟨r,h1,h2⟩:=h;obtain⟨rs,hs,Fn,Hn,h3,h4⟩:=x5 l _ _ h2;have hx:∀ J,TrOK fl P fx (H++J) F o r (H++J):=λJ=>by unfold TrOK;rw[hg];exact h1 J
     exact⟨r::rs,H::hs,Fn,Hn,.cons (by have:=hx [];rwa [aP]at this) (λ_=>rfl) (λ_=>hx) (noG hw) (λh0 h1=>noK hw h0 h1) h3,h4⟩
   ·rename_i hw;obtain⟨r,H',h1,gE,h2⟩:=Va hw (λe=>by rw[e];exact Vb _) h;obtain⟨h2,jV⟩:=zMg h2;obtain⟨rs,hs,Fn,Hn,h3,h4⟩:=x5 l _ _ h2;exact⟨r::rs,H'::hs,Fn,Hn,.cons (by unfold TrOK;rw[hg];exact h1) (λh0=>by rw[hw]at h0;cases h0) (noW hw) gE (λh0 _=>jV h0) h3,h4⟩
  ·rename_i j want hg;split at h
   ·rename_i d hd;have yes:∀ b,F.getD d .unk=.bool b→(b == want)=true→∀ {H1 H2:or} {r:AV},(vv fl P o F H1 λv H3=>v=r∧H3=H2)→TrOK fl P fx H1 F o r H2:=λb hb ku _ _ _ h1=>by unfold TrOK;rw[hg];exact⟨d,hd,.inl ⟨b,hb,ku,h1⟩⟩
    have no:∀b,F.getD d .unk=.bool b→(b == want)=false→∀H1:or,TrOK fl P fx H1 F o (.tup []) H1:=λb hb ku H1=>by unfold TrOK;rw[hg];exact⟨d,hd,.inr (.inl ⟨b,hb,ku,rfl,rfl⟩)⟩
    have nil:F.getD d .unk=.tup []→∀H1:or,TrOK fl P fx H1 F o (.tup []) H1:=λhb H1=>by unfold TrOK;rw[hg];exact⟨d,hd,.inr (.inr ⟨hb,rfl,rfl⟩)⟩
    split at h
    ·rename_i hw;split at h
     ·rename_i hc;unfold ui DO at h;split at h
      ·rename_i b hb;unfold aIf at h;split at h
       ·rename_i ku;obtain⟨r,h1,h2⟩:=h;obtain⟨rs,hs,Fn,Hn,h3,h4⟩:=x5 l _ _ h2;exact⟨r::rs,H::hs,Fn,Hn,.cons (yes b hb ku h1) (λ_=>rfl) (noC hc) (noG hw) (λ_ h0=>by rw[hg]at h0;cases h0) h3,h4⟩
       ·rename_i ku;obtain⟨rs,hs,Fn,Hn,h3,h4⟩:=x5 l _ _ h;exact⟨.tup []::rs,H::hs,Fn,Hn,.cons (no b hb (by simpa using ku) H) (λ_=>rfl) (noC hc) (noG hw) (λ_ h0=>by rw[hg]at h0;cases h0) h3,h4⟩
      ·rename_i hb;obtain⟨rs,hs,Fn,Hn,h3,h4⟩:=x5 l _ _ h;exact⟨.tup []::rs,H::hs,Fn,Hn,.cons (nil hb H) (λ_=>rfl) (noC hc) (noG hw) (λ_ h0=>by rw[hg]at h0;cases h0) h3,h4⟩
      ·exact h.elim
     ·rename_i hc;unfold ui DO at h;split at h
      ·rename_i b hb;unfold aIf at h;split at h
       ·rename_i ku;obtain⟨r,h1,h2⟩:=h;obtain⟨rs,hs,Fn,Hn,h3,h4⟩:=x5 l _ _ h2;have hx:∀J,TrOK fl P fx (H++J) F o r (H++J):=λJ=>yes b hb ku (h1 J);exact⟨r::rs,H::hs,Fn,Hn,.cons (by have:=hx [];rwa [aP]at this) (λ_=>rfl) (λ_=>hx) (noG hw) (λ_ h0=>by rw[hg]at h0;cases h0) h3,h4⟩
       ·rename_i ku;obtain⟨rs,hs,Fn,Hn,h3,h4⟩:=x5 l _ _ h;exact⟨.tup []::rs,H::hs,Fn,Hn,.cons (no b hb (by simpa using ku) H) (λ_=>rfl) (λ_ J=>no b hb (by simpa using ku) _) (noG hw) (λ_ h0=>by rw[hg]at h0;cases h0) h3,h4⟩
      ·rename_i hb;obtain⟨rs,hs,Fn,Hn,h3,h4⟩:=x5 l _ _ h;exact⟨.tup []::rs,H::hs,Fn,Hn,.cons (nil hb H) (λ_=>rfl) (λ_ J=>nil hb _) (noG hw) (λ_ h0=>by rw[hg]at h0;cases h0) h3,h4⟩
      ·exact h.elim
    ·rename_i hw;unfold ui DO at h;split at h
     ·rename_i b hb;unfold aIf at h;split at h
      ·rename_i ku;obtain⟨r,H',h1,gE,h2⟩:=Va hw (λe=>by rw[e];exact Vb _) h;obtain⟨rs,hs,Fn,Hn,h3,h4⟩:=x5 l _ _ h2;exact⟨r::rs,H'::hs,Fn,Hn,.cons (yes b hb ku h1) (λh0=>by rw[hw]at h0;cases h0) (noW hw) gE (λ_ h0=>by rw[hg]at h0;cases h0) h3,h4⟩
      ·rename_i ku;obtain⟨rs,hs,Fn,Hn,h3,h4⟩:=x5 l _ _ h;exact⟨.tup []::rs,H::hs,Fn,Hn,.cons (no b hb (by simpa using ku) H) (λ_=>rfl) (noW hw) (λ_=>.inl rfl) (λ_ h0=>by rw[hg]at h0;cases h0) h3,h4⟩
     ·rename_i hb;obtain⟨rs,hs,Fn,Hn,h3,h4⟩:=x5 l _ _ h;exact⟨.tup []::rs,H::hs,Fn,Hn,.cons (nil hb H) (λ_=>rfl) (noW hw) (λ_=>.inl rfl) (λ_ h0=>by rw[hg]at h0;cases h0) h3,h4⟩
     ·exact h.elim
   ·exact h.elim

def frk:List Oper→List AV→List AV→Nat→List AV
 |_,_,F,0=>F
 |o::os,r::rs,F,i+1=>frk os rs (wm F o.dst r) i
 |_,_,F,_=>F
def hpk:List or→or→Nat→or
 |_,H,0=>H
 |h::hs,_,i+1=>hpk hs h i
 |[],H,_=>H

theorem TrL.at{fx:Array Oper}{l:List Oper}{F rs Fn:List AV}{H Hn:or}{hs:List or}(h:TrL fl wc P fx l F H rs hs Fn Hn):rs.length=l.length∧frk l rs F l.length=Fn∧hpk hs H l.length=Hn ∧
  ∀(i:Nat) o,l[i]?=some o→∃r,rs[i]?=some r∧TrOK fl P fx (hpk hs H i) (frk l rs F i) o r (hpk hs H (i+1))∧frk l rs F (i+1)=wm (frk l rs F i) o.dst r∧(opW wc o.op=false→hpk hs H (i+1)=hpk hs H i)∧(opC wc o.op=true→∀J,TrOK fl P fx (hpk hs H i++J) (frk l rs F i) o r (hpk hs H i++J))∧(opG wc o.op=true→GrowA (hpk hs H i) (hpk hs H (i+1)))∧(opK wc o.op=true→o.guard=none→DV (DU fx (frk l rs F i)) (hpk hs H i) (hpk hs H (i+1))):=by
 induction h with
 |nil F H=>exact⟨rfl,rfl,rfl,λi o h=>by simp at h⟩
 |cons h hw hx gE hk t ih=>
  obtain⟨h1,h2,n8,h3⟩:=ih;refine⟨by simp[h1],by simpa[frk]using h2,by simpa[hpk]using n8,λi o' ho=>?_⟩;cases i with
  |zero=>
   simp at ho;subst ho;rename_i os F rs Fn r H H' Hn hs;have e1:hpk (H'::hs) H 1=H':=by cases hs <;> rfl
   refine⟨_,rfl,?_,by simp[frk],λh0=>?_,λh0=>hx h0,λh0=>?_,λh0 h1=>?_⟩
   ·rw[aX,e1];exact h
   ·rw[aX,e1];exact hw h0
   ·rw[aX,e1];exact gE h0
   ·rw[aX,e1];exact hk h0 h1
  |succ i=>obtain⟨r,h4,h5,h6,h7,h8,h9,kR⟩:=h3 i o' (by simpa using ho);exact⟨r,by simpa using h4,by simpa[hpk,frk]using h5,by simpa[frk]using h6,by simpa[hpk]using h7,by simpa[hpk,frk]using h8,by simpa[hpk]using h9,by simpa[hpk,frk]using kR⟩

def Grow(H H':or):Prop:=H'=H∨(∃x,H'=H++[x])∨(∃(id:Nat) (a b:AB),H[id]?=some a∧(∀cs,a≠.cells cs)∧H'=H.set id b)∨∃(id:Nat) (a b x:AB),H[id]?=some a∧(∀cs,a≠.cells cs)∧H'=H.set id b++[x]
theorem Vc{e s b:Nat}{x r:AV}{ys:List (List AV)}{H H':or}(h2:uy e s b x ys H λv H2=>v=r∧H2=H'):GrowA H H':=by
 unfold uy at h2;split at h2
 ·exact .inr (.inl ⟨_,_,_,h2.2.2.symm⟩)
 ·rename_i es id;exact .inr (.inr (.inl ⟨id,e,s,es.length,_,h2.1,h2.2.2.2.symm⟩))
 ·split at h2
  ·rename_i fA;obtain⟨⟨⟨rfl,rfl,rfl⟩,_⟩,_,he⟩:=h2;exact .inr (.inr (.inr (.inl ⟨_,_,_,_,_,_,_,fA,he.symm⟩)))
  ·exact h2.elim
 ·split at h2
  ·exact .inl h2.2.symm
  ·exact .inr (.inl ⟨_,_,_,h2.2.2.symm⟩)
 ·exact h2.elim
theorem Vd{e s b m:Nat}{x r:AV}{ds:List AV}{H H':or}(h:xY e s b x m ds H λv H2=>v=r∧H2=H'):GrowA H H':=by
 unfold xY at h;split at h
 ·split at h
  ·rename_i fA;obtain⟨⟨⟨rfl,rfl,rfl⟩,_⟩,_,he⟩:=h;exact .inr (.inr (.inr (.inl ⟨_,_,_,_,_,_,_,fA,he.symm⟩)))
  ·exact h.elim
 ·split at h
  ·exact .inl h.2.symm
  ·exact .inr (.inr (.inr (.inr (.inl ⟨_,_,_,_,h.2.2.symm⟩))))
 ·split at h
  ·exact .inl h.2.symm
  ·exact .inr (.inr (.inr (.inr (.inl ⟨_,_,_,_,h.2.2.symm⟩))))
 ·exact h.elim
theorem zKd{e s b:Nat}{x y r:AV}{H H':or}(h:uj e s b x y H λv H2=>v=r∧H2=H'):GrowA H H':=by
 unfold uj at h;split at h
 ·split at h
  ·exact Vd h.2
  ·exact h.elim
 ·split at h
  ·exact Vd h.2
  ·exact h.elim
 ·split at h
  ·split at h
   ·rename_i fA;obtain⟨⟨⟨rfl,rfl,rfl⟩,rfl,rfl,rfl⟩,h⟩:=h;simp only[xY]at h;split at h
    ·obtain⟨_,_,he⟩:=h;rw[au _ _ (by simp)]at he;simp only[ct,dG,List.set_cons_zero]at he;exact .inr (.inr (.inr (.inr (.inr ⟨_,_,_,_,_,_,_,_,_,fA,he.symm⟩))))
    ·exact h.elim
   ·exact h.elim
  ·exact h.elim
 ·unfold uD at h;split at h
  ·exact Vc h.2
  ·exact Vc h.2
  ·exact h.elim
theorem GrowA.grow{H H':or}(h:GrowA H H'):Grow H H':=by
 rcases h with h|⟨e,s,n,h⟩|⟨id,e,s,n,n',h1,h2⟩|⟨id,e,s,n,n',cs,cs',h1,h2⟩|⟨e,s,n,cs,h⟩|⟨id,e,s,n,e',s',n',cs,cs',h1,h2⟩
 ·exact .inl h
 ·exact .inr (.inl ⟨_,h⟩)
 ·exact .inr (.inr (.inl ⟨id,_,_,h1,(λ_ h=>by cases h),h2⟩))
 ·exact .inr (.inr (.inl ⟨id,_,_,h1,(λ_ h=>by cases h),h2⟩))
 ·exact .inr (.inl ⟨_,h⟩)
 ·exact .inr (.inr (.inr ⟨id,_,_,_,h1,(λ_ h=>by cases h),h2⟩))
theorem Grow.cells{H H':or}(h:Grow H H'){id:Nat}{cs:List AV}(hc:H[id]?=some (.cells cs)):H'[id]?=some (.cells cs):=by
 have fy:id<H.length:=(ac.1 hc).1;rcases h with rfl|⟨x,rfl⟩|⟨id',a,b,h1,h2,rfl⟩|⟨id',a,b,x,h1,h2,rfl⟩
 ·exact hc
 ·rw[ah fy];exact hc
 ·by_cases he:id=id'
  ·subst he;rw[hc]at h1;cases h1;exact(h2 _ rfl).elim
  ·rw[aj (λh=>he h.symm)];exact hc
 ·rw[ah (by simpa using fy)];by_cases he:id=id'
  ·subst he;rw[hc]at h1;cases h1;exact(h2 _ rfl).elim
  ·rw[aj (λh=>he h.symm)];exact hc
theorem GrowA.cells{H H':or}(h:GrowA H H'){id:Nat}{cs:List AV}(hc:H'[id]?=some (.cells cs)):H[id]?=some (.cells cs):=by
 rcases h with rfl|⟨e,s,n,rfl⟩|⟨id',e,s,n,n',h1,rfl⟩|⟨id',e,s,n,n',cs1,cs2,h1,rfl⟩|⟨e,s,n,cs1,rfl⟩|⟨id',e,s,n,e',s',n',cs1,cs2,h1,rfl⟩
 ·exact hc
 ·by_cases fy:id<H.length
  ·rwa [ah fy]at hc
  ·have fT:=(ac.1 hc).1;simp at fT;have:id=H.length:=by omega
   subst this;simp at hc
 ·by_cases he:id=id'
  ·subst he;rw[ak (ac.1 h1).1]at hc;cases hc
  ·rwa [aj (λh=>he h.symm)]at hc
 ·by_cases he:id=id'
  ·subst he;rw[ak (ac.1 h1).1]at hc;cases hc
  ·rwa [aj (λh=>he h.symm)]at hc
 ·by_cases fy:id<H.length
  ·rwa [ah fy]at hc
  ·have fT:=(ac.1 hc).1;simp at fT;have:id=H.length:=by omega
   subst this;simp at hc
 ·by_cases fy:id<H.length
  ·rw[ah (by simpa using fy)]at hc;by_cases he:id=id'
   ·subst he;rw[ak fy]at hc;cases hc
   ·rwa [aj (λh=>he h.symm)]at hc
  ·have fT:=(ac.1 hc).1;simp at fT;have:id=H.length:=by omega
   subst this;simp at hc
theorem Ve{o:Oper}(hl:opL o.op=true){F:List AV}{H H':or}{r:AV}(he:fl=true→H'=H)(hc:∀(id:Nat) (cs:List AV),H[id]?=some (AB.cells cs)→H'[id]?=some (AB.cells cs))(h:vv fl P o F H λv H2=>v=r∧H2=H):vv fl P o F H' λv H2=>v=r∧H2=H':=by
 obtain⟨dst,op,type,pos,after,guard⟩:=o;cases op <;> simp only[opL,aK]at hl
 cases fl with
 |true=>rw[he rfl];exact h
 |false=>
 simp only[vv,Ge,and_true]at h ⊢;split at h
 ·unfold tY at h ⊢;split at h
  ·exact h.elim
  rename_i oM;simp only[Ch]at h ⊢;split at h
  ·split at h
   ·rename_i f5;rw[hc _ _ f5];exact h
   ·exact h.elim
  ·exact h
  ·rename_i pm;exact(oM _ _ _ pm).elim
  ·exact h.elim
 ·exact h.elim
theorem Vf{o:Oper}(hl:opL o.op=true){F:List AV}{H H':or}{r:AV}(he:fl=true→H'=H)(hc:∀(a:AV) (id off:Nat) (cs:List AV),(∃x∈o.op.operands,a=ev F x)→(∃t x,o.op=.load t x∧a=ev F x)→a=.ptr id off→H[id]?=some (AB.cells cs)→H'[id]?=some (AB.cells cs))(h:vv fl P o F H λv H2=>v=r∧H2=H):vv fl P o F H' λv H2=>v=r∧H2=H':=by
 obtain⟨dst,op,type,pos,after,guard⟩:=o;cases op <;> simp only[opL,aK]at hl
 cases fl with
 |true=>rw[he rfl];exact h
 |false=>
 simp only[vv,Ge,and_true]at h ⊢;split at h
 ·unfold tY at h ⊢;split at h
  ·exact h.elim
  rename_i oM;simp only[Ch]at h ⊢;split at h
  ·split at h
   ·rename_i pm _ _ f5;rw[hc _ _ _ _ ⟨_,by simp[Op.operands],rfl⟩ ⟨_,_,rfl,rfl⟩ pm f5];exact h
   ·exact h.elim
  ·exact h
  ·rename_i pm;exact(oM _ _ _ pm).elim
  ·exact h.elim
 ·exact h.elim
theorem TrOK.load'{fx:Array Oper}{F:List AV}{o:Oper}{r:AV}{H H':or}(hl:opL o.op=true)(he:fl=true→H'=H)(hc:∀(a:AV) (id off:Nat) (cs:List AV),(∃x∈o.op.operands,a=ev F x)→(∃t x,o.op=.load t x∧a=ev F x)→a=.ptr id off→H[id]?=some (AB.cells cs)→H'[id]?=some (AB.cells cs))(ht:TrOK fl P fx H F o r H):TrOK fl P fx H' F o r H':=by
 unfold TrOK at *;split at ht
 ·exact Vf hl he hc ht
 ·obtain⟨d,hd,ht⟩:=ht;refine⟨d,hd,?_⟩;rcases ht with ⟨b,h1,h2,h3⟩ | ⟨b,h1,h2,h3,_⟩ | ⟨h1,h2,_⟩
  ·exact .inl ⟨b,h1,h2,Vf hl he hc h3⟩
  ·exact .inr (.inl ⟨b,h1,h2,h3,rfl⟩)
  ·exact .inr (.inr ⟨h1,h2,rfl⟩)
theorem TrOK.load{fx:Array Oper}{F:List AV}{o:Oper}{r:AV}{H H':or}(hl:opL o.op=true)(he:fl=true→H'=H)(hc:∀(id:Nat) (cs:List AV),H[id]?=some (AB.cells cs)→H'[id]?=some (AB.cells cs))(ht:TrOK fl P fx H F o r H):TrOK fl P fx H' F o r H':=by
 unfold TrOK at *;split at ht
 ·exact Ve hl he hc ht
 ·obtain⟨d,hd,ht⟩:=ht;refine⟨d,hd,?_⟩;rcases ht with ⟨b,h1,h2,h3⟩ | ⟨b,h1,h2,h3,_⟩ | ⟨h1,h2,_⟩
  ·exact .inl ⟨b,h1,h2,Ve hl he hc h3⟩
  ·exact .inr (.inl ⟨b,h1,h2,h3,rfl⟩)
  ·exact .inr (.inr ⟨h1,h2,rfl⟩)
theorem Vg{o:Oper}(ho:opN o.op=true){F:List AV}{H H':or}{r:AV}(h:vv fl P o F H λv H2=>v=r∧H2=H'):Grow H H':=by
 obtain⟨dst,op,type,pos,after,guard⟩:=o;cases op <;> simp only[opN,aK]at ho <;> simp only[vv,aop,isM,yD,Am]at h
 case alloc t=>
  split at h
  ·exact .inr (.inl ⟨_,h.2.symm⟩)
  ·exact h.elim
 case box t x=>
  unfold ul at h;split at h
  ·exact .inr (.inl ⟨_,h.2.symm⟩)
  ·exact h.elim
 case makeSlice t l c=>
  split at h
  ·split at h
   ·unfold vo at h;split at h
    ·exact .inr (.inl ⟨_,h.2.2.symm⟩)
    ·exact h.elim
   ·exact h.elim
  ·exact h.elim
 case makeMap t r=>
  split at h
  ·exact .inr (.inl ⟨_,h.2.symm⟩)
  ·exact h.elim
theorem Vh{o:Oper}(ho:opA .n o.op=true){F:List AV}{H H':or}{r:AV}(h:vv fl P o F H λv H2=>v=r∧H2=H'):GrowA H H':=by
 obtain⟨dst,op,type,pos,after,guard⟩:=o;cases op <;> simp only[opA,WM.gr,aK]at ho <;> simp only[vv,aop,isM,yD]at h
 rename_i c;cases hc:c.callee with
 |value f=>simp[hc]at ho
 |invoke r m=>simp[hc]at ho
 |builtin b=>
  cases b <;> simp[hc]at ho
  simp only[hc,Ak]at h;split at h
  ·split at h
   ·split at h
    ·exact zKd h
    ·exact h.elim
   ·exact h.elim
  ·exact h.elim
theorem TrOK.growN{fx:Array Oper}{F:List AV}{o:Oper}{r:AV}{H H':or}(ho:opN o.op=true)(ht:TrOK fl P fx H F o r H'):Grow H H':=by
 unfold TrOK at ht;split at ht
 ·exact Vg ho ht
 ·obtain⟨d,hd,ht⟩:=ht;rcases ht with ⟨b,h1,h2,h3⟩ | ⟨b,h1,h2,h3,h4⟩ | ⟨h1,h2,h4⟩
  ·exact Vg ho h3
  ·exact .inl h4
  ·exact .inl h4
theorem TrOK.growA{fx:Array Oper}{F:List AV}{o:Oper}{r:AV}{H H':or}(ho:opA .n o.op=true)(ht:TrOK fl P fx H F o r H'):GrowA H H':=by
 unfold TrOK at ht;split at ht
 ·exact Vh ho ht
 ·obtain⟨d,hd,ht⟩:=ht;rcases ht with ⟨b,h1,h2,h3⟩ | ⟨b,h1,h2,h3,h4⟩ | ⟨h1,h2,h4⟩
  ·exact Vh ho h3
  ·exact .inl h4
  ·exact .inl h4

end
end Go.Proofs.YtdmamdnkcefmmaaGreatDoor
