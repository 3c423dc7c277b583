import Derived.Test.YtdmamdnkcefmmaaGreatDoorAbsS
import Derived.Lib.UnsafeStr
import Derived.Test.YtdmamdnkcefmmaaGreatDoorAbsN
import Derived.Sort.Grow
import Derived.Deep.Draws
import Derived.Test.YtdmamdnkcefmmaaGreatDoorKI2
set_option linter.unusedSimpArgs false
set_option linter.unusedVariables false
set_option maxRecDepth 8000
namespace Go.Proofs.YtdmamdnkcefmmaaGreatDoor
section
open Go.Lib
open Go.RowKit
variable {P:Program} {B:Nat} {w:World} {G:Gh} {H:zaa}
theorem HRel.storeB(h:HRel B w G H){id b:Nat}{t:TypeId}{cs cs':List AV}{vs vs':Array Value}(hH:H[id]?=some (.bld t cs))(hμ:G.μ[id]?=some (.blk b))(hw:w.heap[b]?=some (.cells vs t (0,0)))(hc:All2 (ARel w G) vs'.toList cs'):
  Ext B w G (w.setRow b vs') G∧HRel B (w.setRow b vs') G (H.set id (.bld t cs')):=by
 obtain⟨hB,hL,_⟩:=h.ok id _ _ hH hμ;have ep:(w.setRow b vs').heap.size=w.heap.size:=by simp[World.setRow]
 have he:Ext B w G (w.setRow b vs') G:=by
  refine⟨aa _,⟨rfl,rfl,rfl,by rw[ep];exact aa _,λk hk=>zeq _ (by omega)⟩,λ_=>aa _,λx off ho=>?_,λ_ gi h=>⟨gi,h,gi.le_refl⟩⟩;have:x≠b:=by intro hx;subst hx;omega
  exact zfm (zeq _ this)
 refine⟨he,by simp[h.len],?_,h.dist,by rw[ep];exact h.fresh,by rw[ep];exact h.lt,by rw[ep];exact h.base⟩;intro id' ab gi h1 h2;by_cases d9:id'=id
 ·subst d9;rw[hμ]at h2;cases h2;have d7:id'<H.length:=(List.getElem?_eq_some_iff.1 hH).1;rw[List.getElem?_set_self d7]at h1;cases h1;exact⟨hB,hL,vs',setRow_heap w b vs vs' t _ hw,hc.mono λ_ _=>he.arel⟩
 ·rw[List.getElem?_set_ne (λh=>d9 h.symm)]at h1;refine(h.ok id' ab gi h1 h2).keep he (λx hx=>⟨zeq _ ?_,rfl⟩);intro iQ;subst iQ;exact d9 (h.dist id' id gi _ x h2 hμ hx rfl)
theorem HRel.reCellB(h:HRel B w G H){id:Nat}{t:TypeId}{cs cs':List AV}(d9:H[id]?=some (.bld t cs))(hc:∀vs:List Value,All2 (ARel w G) vs cs→All2 (ARel w G) vs cs'):HRel B w G (H.set id (.bld t cs')):=by
 refine⟨by simp[h.len],?_,h.dist,h.fresh,h.lt,h.base⟩;intro i ab gi h1 h2;by_cases hi:i=id
 ·subst hi;rw[List.getElem?_set_self (List.getElem?_eq_some_iff.1 d9).1]at h1;cases h1;have eh:=h.ok i _ _ d9 h2;cases gi with
  |blk b=>obtain⟨k1,k2,vs,k3,k4⟩:=eh;exact⟨k1,k2,vs,k3,hc _ k4⟩
  |own v s n=>exact eh.elim
  |gap=>exact eh.elim
 ·rw[List.getElem?_set_ne (λh=>hi h.symm)]at h1;exact h.ok i ab gi h1 h2
theorem HRel.ownCellB(h:HRel B w G H){id:Nat}{t:TypeId}{p:AV}(e size:Nat)(d9:H[id]?=some (.bld t [p,.snil])):
  ∃G',Ext B w G w G'∧HRel B w G' (H.set id (.bld t [p,.sl [] (.own H.length)])++[.perm e size 0]):=by
 obtain⟨hE,eJ⟩:=h.newOwn e size;refine⟨_,hE,?_⟩;have d7:=(List.getElem?_eq_some_iff.1 d9).1;have:=eJ.reCellB (id:=id) (t:=t) (cs:=[p,.snil]) (cs':=[p,.sl [] (.own H.length)]) (by rw[List.getElem?_append_left d7];exact d9) (λvs mC=>by
  match vs,mC with
  |[v1,v2],⟨h1,h2,_⟩=>
   have h2:v2=.slice none 0 0:=h2;subst h2;refine⟨h1,⟨.slE _ _,.slice none 0 0,size,0,?_,aa _,λ_=>⟨rfl,by simp⟩⟩,trivial⟩;rw[←h.len];simp)
 rwa [aN _ _ d7]at this
theorem ACalls.ownB{f:FuncId}{args:List AV}{K:AV→zaa→Prop}{id:Nat}{t:TypeId}{p:AV}(e size:Nat)(d9:H[id]?=some (.bld t [p,.snil]))(h:ACalls P f args (H.set id (.bld t [p,.sl [] (.own H.length)])++[.perm e size 0]) K):ACalls P f args H K:=by
 intro B w G vs hH hv;obtain⟨G',hE,eJ⟩:=hH.ownCellB e size d9;refine(h B w G' vs eJ (hv.mono λ_ _=>hE.trel)).mono λe' w' hp=>?_;obtain⟨v,r,H',G'',h1,h2,h3⟩:=hp;exact⟨v,r,H',G'',h1,hE.trans h2,h3⟩
def bcs(l:List UInt8):List (List AV):=l.map λb=>[.int .u8 b.toNat]
theorem zel(l:List UInt8):(bcs l).length=l.length:=by simp[bcs]
theorem zvP(l m:List UInt8):bcs l++bcs m=bcs (l++m):=by simp[bcs]
theorem zfj(l:List UInt8):∀c∈bcs l,c.length=1:=by intro c hc;simp only[bcs,aC]at hc;obtain⟨b,_,rfl⟩:=hc;rfl
theorem zEW(l:List UInt8):All2 (DRel w G.L) (strCells ⟨l.toArray⟩) (bcs l).flatten:=by
 have:strCells ⟨l.toArray⟩=l.map λb=>Value.int .u8 b.toNat:=by simp[strCells]
 rw[this];induction l with
 |nil=>trivial
 |cons b l ih=>exact⟨.int _ _,ih (by simp[strCells])⟩
theorem HRel.freezeG(h:HRel B w G H){id g n cap e:Nat}(hH:H[id]?=some (.frz e 1 n))(hμ:G.μ[id]?=some (.own (.slice (some ⟨g,0,none⟩) n cap) 1 n))(k:Nat):
  Ext B w G (w.freeze ⟨g,0,none⟩ k) G∧HRel B (w.freeze ⟨g,0,none⟩ k) G H:=by
 obtain⟨g',cap',cur,fr0,_,_,hv,hg,jx,jA,fE,gO,iF⟩:=h.ok id _ _ hH hμ;cases hv;have gH:∀b,b≠g→(w.freeze ⟨g,0,none⟩ k).heap[b]?=w.heap[b]?:=by
  intro b hb;unfold World.freeze;split
  ·rfl
  ·simp only[Array.getElem?_modify];rw[ap (λh=>hb h.symm)]
 have hgg:∃fr,(w.freeze ⟨g,0,none⟩ k).heap[g]?=some (.cells cur e fr):=by
  unfold World.freeze;split
  ·exact⟨fr0,hg⟩
  ·simp only[Array.getElem?_modify,hg];exact⟨_,rfl⟩
 obtain⟨fr,hgf⟩:=hgg;have ep:(w.freeze ⟨g,0,none⟩ k).heap.size=w.heap.size:=by
  unfold World.freeze;split
  ·rfl
  ·simp
 have hbelow:Below B w (w.freeze ⟨g,0,none⟩ k):=below_freeze (Below.refl B w) (p:=⟨g,0,none⟩) jx k;have he:Ext B w G (w.freeze ⟨g,0,none⟩ k) G:=by
  refine⟨by unfold World.freeze;split <;> exact aa _,hbelow,λ_=>aa _,λx off ho=>?_,λ_ gi h=>⟨gi,h,gi.le_refl⟩⟩;by_cases hx:x=g
  ·subst hx;simp[World.cell?,hgf,hg]
  ·exact zfm (gH x hx)
 refine⟨he,h.len,?_,h.dist,by rw[ep];exact h.fresh,by rw[ep];exact h.lt,by rw[ep];exact h.base⟩;intro id' ab gi h1 h2;by_cases d9:id'=id
 ·subst d9;rw[hμ]at h2;cases h2;rw[hH]at h1;cases h1;exact⟨g,cap,cur,fr,rfl,rfl,rfl,hgf,jx,jA,fE,gO,iF⟩
 ·refine(h.ok id' ab gi h1 h2).keep he (λx hx=>⟨gH x ?_,rfl⟩);intro iQ;subst iQ;exact d9 (h.dist id' id gi _ x h2 hμ hx rfl)
theorem HRel.dead(h:HRel B w G H){id e s n:Nat}(hH:H[id]?=some (.perm e s n)):HRel B w G (H.set id .dead):=by
 refine⟨by simp[h.len],?_,h.dist,h.fresh,h.lt,h.base⟩;intro i ab gi h1 h2;by_cases hi:i=id
 ·subst hi;rw[List.getElem?_set_self (List.getElem?_eq_some_iff.1 hH).1]at h1;cases h1;have eh:=h.ok i _ _ hH h2;cases gi with
  |blk b=>exact eh.elim
  |gap=>exact eh.elim
  |own v s' n'=>
   obtain⟨rfl,rfl,⟨xs,hl,⟨rfl,_⟩|⟨g,cap,cur,rfl,k1,k2,k3,k4,k5,k6⟩⟩,hL⟩:=eh
   ·intro b hb;cases hb
   ·intro b hb;simp[Value.ownBlock]at hb;subst hb;exact⟨cur,e,_,k2,by rw[hL g rfl,k5];exact au _ k3⟩
 ·rw[List.getElem?_set_ne (λh=>hi h.symm)]at h1;exact h.ok i ab gi h1 h2
theorem HRel.other(h:HRel B w G H)(o:Obj):Ext B w G (w.alloc o) G∧HRel B (w.alloc o) G H:=by have he:=Ext.alloc h o G.L (λ_ _=>rfl) [];simp only[aK]at he;refine⟨he,h.keep he rfl (λid gi b h1 h2=>⟨zcI (h.lt id gi b h1 h2),rfl⟩) (λb hb=>?_)⟩;rw[zb7]at hb;exact h.fresh b (by omega)
end
section
open Go.RowKit
open Go.Sort
variable {P:Program} {B:Nat} {w:World} {G:Gh} {H:zaa}
end
section
open Go.RowKit
variable {P:Program} {B:Nat} {w:World} {G:Gh} {H:zaa}
theorem HRel.newVec(h:HRel B w G H)(e size:Nat):Ext B w G w ⟨G.L,G.μ++[.own (.slice none 0 0) size 0]⟩∧HRel B w ⟨G.L,G.μ++[.own (.slice none 0 0) size 0]⟩ (H++[.vec e size 0 []]):=by
 obtain⟨hE,hH⟩:=h.newOwn e size;refine⟨hE,by simpa using hH.len,λid ab gi h1 h2=>?_,hH.dist,hH.fresh,hH.lt,hH.base⟩;by_cases d7:id<H.length
 ·rw[List.getElem?_append_left d7]at h1;exact hH.ok id ab gi (by rw[List.getElem?_append_left d7];exact h1) h2
 ·have eM:=(List.getElem?_eq_some_iff.1 h2).1;simp[h.len]at eM;obtain rfl:id=H.length:=by omega
  simp at h1;have h2:(G.μ++[GI.own (.slice none 0 0) size 0])[H.length]?=some gi:=h2;rw[←h.len]at h2;simp at h2;subst h1 h2;exact⟨rfl,rfl,⟨[],World.ownsRow_nil w B e size,trivial⟩,λb hb=>by simp[Value.ownBlock]at hb⟩
theorem HRel.ovCell(h:HRel B w G H){id j:Nat}{cs:List AV}(e size:Nat)(d9:H[id]?=some (.cells cs))(hj:cs[j]?=some .snil):
  ∃G',Ext B w G w G'∧HRel B w G' (H.set id (.cells (cs.set j (.ov H.length 0)))++[.vec e size 0 []]):=by
 obtain⟨hE,eJ⟩:=h.newVec e size;refine⟨_,hE,?_⟩;have d7:=(List.getElem?_eq_some_iff.1 d9).1;have:=eJ.reCell (id:=id) (cs:=cs) (cs':=cs.set j (.ov H.length 0)) (by rw[List.getElem?_append_left d7];exact d9) (λvs mC=>by
  obtain⟨v,h1,h2⟩:=All2.get mC hj;have h2:v=.slice none 0 0:=h2;subst h2;have eI:vs=vs.set j (.slice none 0 0):=by
   apply aJ;intro k;by_cases hk:k=j
   ·subst hk;rw[List.getElem?_set_self (List.getElem?_eq_some_iff.1 h1).1];exact h1
   ·rw[List.getElem?_set_ne (λh=>hk h.symm)]
  rw[eI];refine All2.set j mC ?_;refine⟨⟨none,0,rfl,λh=>absurd h (by omega),aa _⟩,.slice none 0 0,size,0,?_,aa _,λ_=>rfl⟩;rw[←h.len];simp)
 rwa [aN _ _ d7]at this
theorem ACalls.ovC{f:FuncId}{args:List AV}{K:AV→zaa→Prop}{id j:Nat}{cs:List AV}(e size:Nat)(d9:H[id]?=some (.cells cs))(hj:cs[j]?=some .snil)(h:ACalls P f args (H.set id (.cells (cs.set j (.ov H.length 0)))++[.vec e size 0 []]) K):ACalls P f args H K:=by
 intro B w G vs hH hv;obtain⟨G',hE,eJ⟩:=hH.ovCell e size d9 hj;refine(h B w G' vs eJ (hv.mono λ_ _=>hE.trel)).mono λe' w' hp=>?_;obtain⟨v,r,H',G'',h1,h2,h3⟩:=hp;exact⟨v,r,H',G'',h1,hE.trans h2,h3⟩
end
section
open Go.RowKit
variable {P:Program} {B:Nat} {w:World} {G:Gh} {H:zaa}
theorem zG7(h:HRel B w G H)(e size:Nat):TRel w ⟨G.L,G.μ++[.own (.slice none 0 0) size 0]⟩ (.slice none 0 0) (.ov H.length 0):=by refine⟨⟨none,0,rfl,λh=>absurd h (by omega),aa _⟩,.slice none 0 0,size,0,?_,aa _,λ_=>rfl⟩;rw[←h.len];simp
theorem ALoop.vec{c:Code}{Q:AExit→List AV→zaa→Prop}{F:List AV}(i e size:Nat)(hi:F[i]?=some .snil)(h:ALoop P c Q (F.set i (.ov H.length 0)) (H++[.vec e size 0 []])):ALoop P c Q F H:=by
 intro B w G a hH hF hd;obtain⟨hE,eJ⟩:=hH.newVec e size;have l7:FRel w ⟨G.L,G.μ++[.own (.slice none 0 0) size 0]⟩ a.tmps (F.set i (.ov H.length 0)):=by
  unfold FRel;obtain⟨v,h1,h2⟩:=All2.get hF hi;have h2:v=.slice none 0 0:=h2;subst h2;have eI:a.tmps.toList=a.tmps.toList.set i (.slice none 0 0):=by
   apply aJ;intro k;by_cases hk:k=i
   ·subst hk;rw[List.getElem?_set_self (List.getElem?_eq_some_iff.1 h1).1];exact h1
   ·rw[List.getElem?_set_ne (λh=>hk h.symm)]
  rw[eI];exact All2.set i (hF.ext hE) (zG7 hH e size)
 refine wp_mono (h B w _ a eJ l7 hd) λe a' w' hp=>?_;obtain⟨F'',H'',G'',e'',rfl,k1,k2,k3,k4,k5⟩:=hp;exact⟨F'',H'',G'',e'',rfl,hE.trans k1,k2,k3,k4,k5⟩
theorem zrj{vs:List Value}:∀ {cs cs':List AV},All2 WkA cs cs'→∀ {vs:List Value},All2 (ARel w G) vs cs→All2 (ARel w G) vs cs'
 |[],[],_,_,hv=>hv
 |x::cs,x'::cs',hw,[],hv=>hv.elim
 |x::cs,x'::cs',hw,v::vs,hv=>⟨hw.1.arel hv.1,zrj (vs:=[]) hw.2 hv.2⟩
 |[],_::_,hw,_,_=>hw.elim
 |_::_,[],hw,_,_=>hw.elim
theorem ALoop.reCell{c:Code}{Q:AExit→List AV→zaa→Prop}{F:List AV}{id:Nat}{cs:List AV}(cs':List AV)(d9:H[id]?=some (.cells cs))(hw:All2 WkA cs cs')(h:ALoop P c Q F (H.set id (.cells cs'))):ALoop P c Q F H:=by intro B w G a hH hF hd;exact h B w G a (hH.reCell d9 λvs hv=>zrj (vs:=[]) hw hv) hF hd
theorem HRel.frzV(h:HRel B w G H){id e size n:Nat}{cs:List AV}(hH:H[id]?=some (.vec e size n cs)){es:List (List AV)}(hp:plain cs=some es.flatten)(d8:es.length=n)(ep:∀ c∈es,c.length=size):
  ∃G',Ext B w G w G'∧HRel B w G' (H.set id .dead)∧∀v,ARel w G v (.ov id n)→DRel w G'.L v (.sl es .none):=by
 have d7:id<G.μ.length:=by rw[h.len];exact(List.getElem?_eq_some_iff.1 hH).1
 obtain⟨gi,gE⟩:∃gi,G.μ[id]?=some gi:=⟨_,List.getElem?_eq_getElem d7⟩;have eh:=h.ok id _ _ hH gE;cases gi with
 |gap=>exact eh.elim
 |blk b=>exact eh.elim
 |own v0 s0 n0=>
  obtain⟨rfl,rfl,⟨xs,ed,ew⟩,jg⟩:=eh;have fJ:=ed;obtain⟨hl,eW⟩:=fJ;rcases eW with ⟨h1,h2⟩|⟨g,cap,cur,h1,hB,hw,ey,fg,l5,eX⟩
  ·subst h1;refine⟨G,Ext.refl _ _ _,⟨by simp[h.len],?_,h.dist,h.fresh,h.lt,h.base⟩,?_⟩
   ·intro id' ab gi k1 k2;by_cases d9:id'=id
    ·subst d9;rw[List.getElem?_set_self (List.getElem?_eq_some_iff.1 hH).1]at k1;cases k1;rw[gE]at k2;cases k2;exactλb hb=>by simp[Value.ownBlock]at hb
    ·rw[List.getElem?_set_ne (λh=>d9 h.symm)]at k1;exact h.ok id' ab gi k1 k2
   ·intro v hv;obtain⟨⟨a,cap0,rfl,_⟩,v',s',n',hμ,_,heq⟩:=hv;have eO:es=[]:=aB (by omega);subst eO;subst d8;exact .slE _ _
  ·subst h1;have jA:G.L g=0:=jg g rfl;have he:Ext B w G w ⟨λx=>if x=g then cur.size else G.L x,G.μ⟩:=
    ⟨aa _,Below.refl _ _,λx=>by by_cases hx:x=g <;> simp[hx,jA],λ_ _ _=>rfl,λ_ gi h=>⟨gi,h,gi.le_refl⟩⟩
   refine⟨_,he,⟨by simp[h.len],?_,h.dist,λx hx=>?_,h.lt,h.base⟩,?_⟩
   ·intro id' ab gi k1 k2;by_cases d9:id'=id
    ·subst d9;rw[List.getElem?_set_self (List.getElem?_eq_some_iff.1 hH).1]at k1;cases k1;have k2:G.μ[id']?=some gi:=k2;rw[gE]at k2;cases k2;intro b hb;simp[Value.ownBlock]at hb;subst hb;exact⟨cur,e,_,hw,by simp⟩
    ·rw[List.getElem?_set_ne (λh=>d9 h.symm)]at k1;refine(h.ok id' ab gi k1 k2).keep he (λx hx=>⟨rfl,?_⟩);have:¬x=g:=λiQ=>d9 (h.dist id' id gi _ g k2 gE (by rw[hx,iQ]) rfl);simp[this]
   ·have:=h.lt id _ g gE rfl;have h3:¬ x=g:=by omega
    simp[h3,h.fresh x hx]
   ·intro v hv;obtain⟨⟨a,cap0,rfl,_⟩,v',s',n',hμ,_,heq⟩:=hv;rw[gE]at hμ;simp only[bL,GI.own.injEq]at hμ;obtain⟨rfl,rfl,rfl⟩:=hμ;have oc:=heq rfl;simp only[Value.slice.injEq,dT]at oc;obtain⟨rfl,rfl⟩:=oc;subst d8;by_cases eO:es=[]
    ·subst eO;exact .slE _ _
    ·obtain⟨_,_,_,er⟩:=zdw ed;refine DRel.of_flat_at (zs:=xs) ep eO ey ?_ ((zdx ew hp).mono λ_ _=>he.drel) ?_
     ·simp only[aV];rw[l5,aG];exact au _ ey
     ·intro j u hj;rw[aG,er j (by rw[←hl];exact(List.getElem?_eq_some_iff.1 hj).1)];exact hj
theorem ACalls.frzV{f:FuncId}{x:AV}{K:Kt}(id e size n:Nat)(cs:List AV)(es:List (List AV))(hH:H[id]?=some (.vec e size n cs))(hp:plain cs=some es.flatten)(d8:es.length=n)(ep:∀c∈es,c.length=size)(h:ACalls P f [.agg [x,.sl es .none]] (H.set id .dead) K):ACalls P f [.agg [x,.ov id n]] H K:=by
 intro B w G vs hR hv;obtain⟨G',hE,iN,hd⟩:=hR.frzV hH hp d8 ep;refine(h B w G' vs iN ?_).mono λe w' ⟨v,r,H',G'',k1,k2,k3,k4,k5⟩=>⟨v,r,H',G'',k1,hE.trans k2,k3,k4,k5⟩;generalize vs.toList=l at *
 match l,hv with
 |[v],⟨⟨us,hu,h1⟩,_⟩=>
  refine⟨⟨us,hu,?_⟩,trivial⟩;generalize us.toList=m at *
  match m,h1 with
  |[a,b],⟨h2,h3,_⟩=>exact⟨hE.arel h2,hd b h3,trivial⟩
end
def zHD(r:List IT):List AV:=(IT.css r).flatten
def CellR(H:zaa)(lo id:Nat)(c:AV)(r:List IT):Prop:=
 (r=[]∧c=.sl [] .none)∨(r≠[]∧∃b,c=.ov b r.length∧lo≤b∧b≠id∧H[b]?=some (.vec zba 2 r.length (zHD r)))
theorem CellR.keep{H H':zaa}{lo id lo' id':Nat}{c:AV}{r:List IT}(h:CellR H lo id c r)(iH:lo'≤lo)(d9:∀b,lo≤b→b≠id→b<H.length→b≠id'∧H'[b]?=H[b]?):CellR H' lo' id' c r:=by
 rcases h with h|⟨h0,b,rfl,h1,h2,h3⟩
 ·exact .inl h
 ·have:=d9 b h1 h2 (List.getElem?_eq_some_iff.1 h3).1;exact .inr ⟨h0,b,rfl,by omega,this.1,by rw[this.2];exact h3⟩
theorem CellR.sc{H:zaa}{lo id:Nat}{c:AV}{r:List IT}(h:CellR H lo id c r):c.scA H.length=true∧c.known=true:=by
 rcases h with ⟨_,rfl⟩|⟨h0,b,rfl,h1,h2,h3⟩
 ·exact⟨rfl,rfl⟩
 ·have:=(List.getElem?_eq_some_iff.1 h3).1;exact⟨by simpa[AV.scA,AV.scB]using this,rfl⟩
theorem RowA.pre{H X:zaa}{a:AV}{n:Nat}{ds:List AV}(h:RowA H a n ds)(hp:H <+: X):RowA X a n ds:=by obtain⟨J,rfl⟩:=hp;exact h.app
theorem zJW(dU:List Dat)(hk:zbw dU)(t:VT)(ht:t.nodes≤1000)(c:Int)(H:zaa)(K:Kt)(hK:K (zcC (zbb dU t c)) H):
  ACalls tP zpp [.sl (dU.map Dat.cs) .none,.agg t.cs,.int .i64 c] H K:=by
 refine ACalls.out (zJU λhs=>?_);obtain⟨f1,f2,f3⟩:=zfq hk;obtain⟨k,n,ks⟩:=t;simp[zzG,VT.cs,ae];refine zu1 dU f1 f2 f3 (.mk k n ks) ht c _ _ ?_;cases hf:zbr dU (.mk k n ks) c with
 |none=>rw[zxK hf]at hK;simp[zcC];refine⟨⟨rfl,rfl⟩,?_⟩;exact Out.tup (bs:=[.sl [] .none,.bool false]) hs hK ⟨zdS,zaY rfl rfl,trivial⟩
 |some l=>
  obtain⟨bs,fV,nS,gY,gq,k5,_,jb⟩:=zxL hk hf;rw[gY]at hK;simp[zcC];refine zMX dU hk k n ks ht c hf fV nS jb _ _ ?_;simp[zh6];unfold zkP;refine ALoop.own 13 za2 3 rfl ?_;have i7:(H++[AB.cells [AV.int IntKind.i64 k,AV.int IntKind.i64 n,AV.sl (VT.css ks) Tok.none]]).length=H.length+1:=by simp
  rw[i7];have hpp:=zxN fV (.mk 0 0 []) l.length (aa _);rw[aq,fV,aq]at hpp;rw[hpp]at hK;have hpt:∀j∈pos false bs bs.length,j<l.length:=λj hj=>by have:=zHl hj;omega
  have hp8:=zqt false bs bs.length;generalize pos false bs bs.length=P at *;show zkP (.sl (VT.css l) .none) (.sl [] (.own (H.length+1))) (.sl (zb0 P) .none) (.int .i64 P.length) (.int .i64 0) (H++[.cells [.int .i64 k,.int .i64 n,.sl (VT.css ks) .none]]++[.perm za2 3 0]) (Out H.length K);have et:∀m,HSc (H++[.cells [.int .i64 k,.int .i64 n,.sl (VT.css ks) .none],.perm za2 3 m]):=λm=>hs.append (by simp[AB.sc,AV.scA,AV.scB]);refine zJS (Inv:=λq t13 t35 H'=>∃i:Nat,i≤P.length∧q=P.length-i∧t35=.int .i64 i∧t13=.sl (VT.css ((P.take i).map λj=>l.getD j (.mk 0 0 []))) (.own (H.length+1))∧H'=H++[.cells [.int .i64 k,.int .i64 n,.sl (VT.css ks) .none],.perm za2 3 i]) P.length ?_ ?_
  ·intro _;exact⟨0,by omega,by omega,rfl,by simp[VT.css],by simp⟩
  ·rintro q t13 t35 H' ⟨i,hi,rfl,rfl,rfl,rfl⟩ eA d8 eC Kb ee;by_cases d7:i<P.length
   ·have hj:=hpt _ (ah d7);simp[zro,zh6,zGJ,d7,hj];rw[zfk];simp[zax,zaO,zaK,bj hi];refine⟨⟨by omega,by omega⟩,?_⟩;rw[zav (by omega) (by omega)];have eD:VT.css (List.take i (List.map (λj=>l[j]?.getD (VT.mk 0 0 [])) P))++[(l[P[i]]'hj).cs]=VT.css ((P.take (i+1)).map λj=>l.getD j (.mk 0 0 [])):=by rw[af d7,VT.css_map,VT.css_map,aP,aP,bM];simp[List.getD_eq_getElem?_getD,hj]
    rw[eD];refine ee _ _ ⟨P.length-(i+1),by omega,Back.at (J:=[]) (H2:=H++[.cells [.int .i64 k,.int .i64 n,.sl (VT.css ks) .none],.perm za2 3 (i+1)]) (by simp) (by simp) (et _) ?_ ⟨_,_,rfl,i+1,by omega,rfl,by simp,rfl,rfl⟩⟩;simp[zkO,AV.sc,AV.scV,AV.scA,AV.scB]
   ·obtain rfl:i=P.length:=by omega
    rw[aq]at *;simp[zro,zh6];refine⟨⟨rfl,rfl⟩,?_⟩;exact Out.tup (bs:=[.sl (VT.css (P.map λj=>l.getD j (.mk 0 0 []))) .none,.bool true]) hs hK ⟨slV,zaY rfl rfl,trivial⟩
theorem it2(v:IT):∃a b,v.cs=[a,b]∧a.known=true∧b.known=true:=by obtain⟨n,ks⟩:=v;exact⟨_,_,rfl,rfl,rfl⟩
theorem zw0{dU:List Dat}(h8:∀D∈dU,D.cons.length≤8)(v:IT)(t:VT)(h:(zcj dU v t).2=true):0≤(zcj dU v t).1∧(zcj dU v t).1≤6:=by obtain⟨e1,e2,e3⟩:=(zg8 h8 v t).1 h;omega
theorem zwZ{dU:List Dat}(h8:∀ D∈dU,D.cons.length≤8):∀ (vs:List IT) (ts:List VT) (a:Int),0≤a→0≤(zbZ dU vs ts a).1∧(zbZ dU vs ts a).1≤a+6*vs.length
 |[],ts,a,h=>by simp[zbZ];omega
 |v::vs,[],a,h=>by simp[zbZ];omega
 |v::vs,t::ts,a,h=>by
  simp only[zbZ];split
  ·rename_i hb;have:=zw0 h8 v t hb;have:=zwZ h8 vs ts (a+(zcj dU v t).1) (by omega);simp only[List.length_cons];omega
  ·simp;omega
theorem zib{x:VT}:∀ {l:List VT} {bs:List Bool},x∈pick l bs→x∈l
 |[],_,h=>by simp[pick]at h
 |_::_,[],h=>by simp[pick]at h
 |c::l,b::bs,h=>by
  cases b with
  |true=>simp[pick]at h;exact aU _ (zib h)
  |false=>
   simp[pick]at h;rcases h with rfl|h
   ·exact aO
   ·exact aU _ (zib h)
theorem zxJ{dU:List Dat}{t:VT}{c:Int}{ps:List VT}(h:zbb dU t c=some ps):∀x∈ps,x.nodes≤1000:=by
 unfold zbb at h;obtain⟨k,n,ks⟩:=t;cases hf:zbr dU (.mk k n ks) c with
 |none=>rw[hf]at h;cases h
 |some l=>rw[hf]at h;obtain⟨_,_,_,_,_,_,_,h2⟩:=zhn hf;simp at h;subst h;exactλx hx=>by have:=h2 x (zib hx);omega
theorem zGo(dU:List Dat)(n:Int)(ks:List IT)(tk tn:Int)(tks:List VT):zcj dU (.mk n ks) (.mk tk tn tks) =
  if tk=6 then (if n=0 then (if tks.length=ks.length then zbZ dU ks tks 0 else (0,false)) else (0,false))
  else if tk=7 then (n,decide (0≤n) && decide (n≤6) && decide (ks.length=0))
  else if tk=5 then (if n=0 then zcY dU ks (.mk tk tn tks) 0 else (0,false))
  else (0,decide (n=0) && decide (ks.length=0)):=by
 rw[zcj];rfl
def zcS(dU:List Dat)(vs:List IT)(ts:List VT):Int×Bool:=if ts.length=vs.length then zbZ dU vs ts 0 else (0,false)
def ziW(dU:List Dat)(v:IT):Prop:=∀t:VT,t.nodes≤1000→∀(H:zaa) (K:Kt),K (.tup [.int .i64 (zcj dU v t).1,.bool (zcj dU v t).2]) H→ACalls tP zjW [.sl (dU.map Dat.cs) .none,.agg t.cs,.agg v.cs] H K
theorem zc6{H:zaa}{K:Kt}{a:Int}{b:Bool}(hs:HSc H)(h:K (.tup [.int .i64 a,.bool b]) H)(J:zaa):Out H.length K (.tup [.int .i64 a,.bool b]) (H++J):=Out.tup hs h ⟨zaY rfl rfl,zaY rfl rfl,trivial⟩
theorem zz9{dU:List Dat}(h8:∀D∈dU,D.cons.length≤8)(vs:List IT)(hv:vs.length≤1000)(gP:∀v∈vs,ziW dU v)(ts:List VT)(ht:∀t∈ts,t.nodes≤1000)(H:zaa)(K:Kt)(hK:K (.tup [.int .i64 (zcS dU vs ts).1,.bool (zcS dU vs ts).2]) H):ACalls tP zjo [.sl (dU.map Dat.cs) .none,.sl (VT.css ts) .none,.sl (IT.css vs) .none] H K:=by
 refine ACalls.out (zLi λhs=>?_);have h0:∀b J,zcS dU vs ts=(0,b)→Out H.length K (.tup [.int .i64 0,.bool b]) (H++J):=λb J h=>by rw[h]at hK;exact zc6 hs hK J
 by_cases hl:ts.length=vs.length;case neg=>
  have:((ts.length:Int) != (vs.length:Int))=true:=by simp[bne];omega
  simp[zrK,this];refine⟨⟨rfl,rfl⟩,?_⟩;simpa using h0 false [] (by simp[zcS,hl])
 have mT:zcS dU vs ts=zbZ dU vs ts 0:=by simp[zcS,hl]
 rw[mT]at hK h0;simp[zrK,hl];refine zLg (Inv:=λq t8 t20 H'=>∃(i:Nat) (a:Int),i≤vs.length∧q=vs.length-i∧t20=.int .i64 i∧t8=.int .i64 a∧0≤a∧a≤6*i∧zbZ dU (vs.drop i) (ts.drop i) a=zbZ dU vs ts 0∧H'=H) vs.length ?_ ?_
 ·intro _;exact⟨0,0,by omega,by omega,rfl,rfl,by omega,by omega,by simp,rfl⟩
 ·rintro q t8 t20 H' ⟨i,a,hi,rfl,rfl,rfl,md,oA,ho,rfl⟩ eA d8 eC Kb ee;by_cases d7:i<vs.length
  ·have eE:i<ts.length:=by omega
   rw[ag d7,ag eE]at ho;simp only[zbZ]at ho;obtain⟨x,y,z,ei,hx,hy,hz⟩:=zbh ts[i];obtain⟨x2,y2,eK,e8,kM⟩:=it2 vs[i];have pt:=ht _ (ah eE);have pu:=gP _ (ah d7);simp[zrL,hl,d7,eE,ei,eK,ae];refine⟨⟨hx,hy,hz⟩,?_⟩;rw[←ei,←eK];refine zaH (.tup [.int .i64 (zcj dU vs[i] ts[i]).1,.bool (zcj dU vs[i] ts[i]).2]) (λJ=>pu _ pt _ _ ⟨rfl,rfl⟩) ?_;cases hb:(zcj dU vs[i] ts[i]).2 with
   |false=>rw[hb]at ho;simp at ho;simp;exact⟨⟨rfl,rfl⟩,h0 _ _ ho.symm⟩
   |true=>rw[hb]at ho;simp at ho;have pv:=zw0 h8 _ _ hb;simp;rw[zav (by omega) (by omega),zav (by omega) (by omega)];refine ee _ _ ⟨vs.length-(i+1),by omega,Back.at (J:=[_]) rfl (aa _) hs ?_ ⟨_,_,rfl,i+1,_,by omega,rfl,by simp,rfl,by omega,by simp;omega,ho,rfl⟩⟩;simp[zld,AV.sc,AV.scV,AV.scA,AV.scB]
  ·obtain rfl:i=vs.length:=by omega
   rw[aI]at ho;simp only[zbZ]at ho;rw[←ho]at hK;simp[zrL,hl];refine⟨⟨rfl,rfl⟩,?_⟩;have:=zc6 hs hK [];simpa using this
theorem zUR{dU:List Dat}(hk:zbw dU)(h8:∀D∈dU,D.cons.length≤8):∀(m:Nat) (v:IT),v.nodes≤m→v.nodes≤900→ziW dU v:=by
 intro m;induction m with
 |zero=>intro v h;have:=v.nodes_pos;omega
 |succ m ih=>
  intro v hv hb t ht H K hK;obtain⟨n,ks⟩:=v;obtain⟨tk,tn,tks⟩:=t;have fT:IT.nodesL ks+1≤900:=by simpa[IT.nodes]using hb
  have fc:=IT.len_le ks;have gx:∀v∈ks,ziW dU v:=λv lM=>by obtain⟨i,hi,rfl⟩:=bb lM;have:=IT.kid_lt (n:=n) hi;exact ih _ (by omega) (by omega)
  refine ACalls.out (zUP λhs=>?_);rw[zGo]at hK;by_cases h6:tk=6
  ·subst h6;by_cases hn:n=0
   ·subst hn;simp[zdG,VT.cs,IT.cs,ae];have eX:∀ t∈tks,t.nodes≤1000:=λt nT=>by obtain⟨i,hi,rfl⟩:=bb nT;have:=VT.kid_lt (k:=6) (n:=tn) hi;omega
    refine zz9 h8 ks (by omega) gx tks eX _ _ ?_;simp;refine⟨⟨rfl,rfl⟩,?_⟩;exact zc6 hs (by simpa[zcS]using hK) _
   ·have:(n != 0)=true:=by simp[bne,hn]
    simp[zdG,VT.cs,IT.cs,ae,this];simp[hn]at hK;exact⟨⟨rfl,rfl⟩,zc6 hs hK _⟩
  have iz:(tk == 6)=false:=by simp[h6]
  rw[ap h6]at hK;by_cases h7:tk=7
  ·subst h7;simp only[aV]at hK;by_cases g1:0≤n
   ·by_cases g2:n≤6
    ·by_cases g3:ks.length=0
     ·simp[zdG,VT.cs,IT.cs,ae,g1,g2,g3];simp[g1,g2,g3]at hK;exact⟨⟨rfl,rfl⟩,zc6 hs hK _⟩
     ·have g3':((ks.length:Int) == 0)=false:=by simp;exact λh=>g3 (by simp[h])
      simp[zdG,VT.cs,IT.cs,ae,g1,g2,g3,g3'];simp[g1,g2,g3]at hK;exact⟨⟨rfl,rfl⟩,zc6 hs hK _⟩
    ·simp[zdG,VT.cs,IT.cs,ae,g1,g2];simp[g1,g2]at hK;exact⟨⟨rfl,rfl⟩,zc6 hs hK _⟩
   ·simp[zdG,VT.cs,IT.cs,ae,g1];simp[g1]at hK;exact⟨⟨rfl,rfl⟩,zc6 hs hK _⟩
  have mU:(tk == 7)=false:=by simp[h7]
  rw[ap h7]at hK;by_cases h5:tk=5;case neg=>
   have kC:(tk == 5)=false:=by simp[h5]
   rw[ap h5]at hK;by_cases g1:n=0
   ·by_cases g2:ks.length=0
    ·simp[zdG,VT.cs,IT.cs,ae,iz,mU,kC,g1,g2,zab];simp[g1,g2]at hK;exact⟨⟨rfl,rfl⟩,zc6 hs hK _⟩
    ·have g2':((ks.length:Int) == 0)=false:=by simp;exact λh=>g2 (by simp[h])
     simp[zdG,VT.cs,IT.cs,ae,iz,mU,kC,g1,g2,g2',zab];simp[g1,g2]at hK;exact⟨⟨rfl,rfl⟩,zc6 hs hK _⟩
   ·have g1':(n == 0)=false:=by simp[g1]
    simp[zdG,VT.cs,IT.cs,ae,iz,mU,kC,g1,g1',zab];simp[g1]at hK;exact⟨⟨rfl,rfl⟩,zc6 hs hK _⟩
  subst h5;simp only[aV]at hK;by_cases hn:n=0;case neg=>
   have:(n != 0)=true:=by simp[bne,hn]
   simp[zdG,VT.cs,IT.cs,ae,this];simp[hn]at hK;exact⟨⟨rfl,rfl⟩,zc6 hs hK _⟩
  subst hn;simp only[aV]at hK;simp[zdG,VT.cs,IT.cs,ae];have hT:(VT.mk 5 tn tks).nodes≤1000:=ht;have nU:(VT.mk 5 tn tks).cs=[.int .i64 5,.int .i64 tn,.sl (VT.css tks) .none]:=rfl;generalize hTg:VT.mk 5 tn tks=T at *;have fU:HSc (H++[.cells [.int .i64 5,.int .i64 tn,.sl (VT.css tks) .none],.cells [.int .i64 0,.sl (IT.css ks) .none]]):=hs.append (by simp[AB.sc,AV.scA,AV.scB]);have hF:zcY dU ks T 0=(0,false)→∀ J,Out H.length K (.tup [.int .i64 0,.bool false]) (H++J):=λh J=>zc6 hs (by rw[h]at hK;exact hK) J;refine zUN (Inv:=λq t8 t55 H'=>∃ (i:Nat) (a:Int),i≤ks.length∧q=ks.length-i∧t55=.int .i64 i∧t8=.int .i64 a∧0≤a∧a≤6∧zcY dU (ks.drop i) T a=zcY dU ks T 0 ∧
   H'=H++[.cells [.int .i64 5,.int .i64 tn,.sl (VT.css tks) .none],.cells [.int .i64 0,.sl (IT.css ks) .none]]) ks.length ?_ ?_
  ·intro _;exact⟨0,0,by omega,by omega,rfl,rfl,by omega,by omega,by simp,rfl⟩
  ·rintro q t8 t55 H' ⟨i,a,hi,rfl,rfl,rfl,md,oA,ho,rfl⟩ eA d8 eC Kb ee;by_cases d7:i<ks.length
   ·rw[ag d7]at ho;have gC:=IT.kid_lt (n:=0) d7;obtain⟨c,es,hx⟩:∃ c es,ks[i]=IT.mk c es:=by cases h:ks[i] with | mk a b=>exact⟨a,b,rfl⟩
    rw[hx]at ho gC;have hesl:=IT.len_le es;have hen:IT.nodesL es+1≤900:=by
     have:(IT.mk c es).nodes=IT.nodesL es+1:=by simp[IT.nodes]
     have:(IT.mk 0 ks).nodes=IT.nodesL ks+1:=by simp[IT.nodes]
     omega
    have eO:∀v∈es,ziW dU v:=λv lM=>by obtain⟨j,hj,rfl⟩:=bb lM;have:=IT.kid_lt (n:=c) hj;exact ih _ (by omega) (by omega)
    simp only[zcY]at ho;simp[zuw,d7,hx,IT.cs,ae];rw[←nU];refine zLq dU hk T hT c _ _ ?_;cases hp:zbb dU T c with
    |none=>rw[hp]at ho;simp only at ho;simp[zcC];exact⟨⟨rfl,rfl⟩,hF ho.symm _⟩
    |some ps=>
     rw[hp]at ho;simp only at ho;simp[zcC];have nV:∀t∈ps,t.nodes≤1000:=zxJ hp;refine zz9 h8 es (by omega) eO ps nV _ _ ?_;have htb:0≤(zcS dU es ps).1∧(zcS dU es ps).1≤6*es.length:=by
      unfold zcS;split
      ·have:=zwZ h8 es ps 0 (by omega);omega
      ·simp;omega
     have fZ:(if (zcS dU es ps).2 && decide (a+(1+(zcS dU es ps).1)≤6) then zcY dU (ks.drop (i+1)) T (a+(1+(zcS dU es ps).1)) else (0,false))=zcY dU ks T 0:=by
      rw[←ho];unfold zcS;by_cases hl:ps.length=es.length
      ·simp only[hl,aV]
      ·simp only[hl,aH];rfl
     generalize zcS dU es ps=w at *;obtain⟨w1,w2⟩:=w;simp only at htb fZ;simp;have q1:IntKind.i64.wrap (1+w1)=1+w1:=zav (by omega) (by omega);have q2:IntKind.i64.wrap (a+(1+w1))=a+(1+w1):=zav (by omega) (by omega);rw[q1,q2];cases w2 with
     |false=>simp at fZ ⊢;exact⟨⟨rfl,rfl⟩,hF fZ.symm _⟩
     |true=>
      by_cases hh:a+(1+w1)≤6
      ·have px:¬ (6:Int)<a+(1+w1):=by omega
       simp[hh]at fZ;simp[px];rw[zav (by omega) (by omega)];refine ee _ _ ⟨ks.length-(i+1),by omega,Back.at (J:=[.cells [.int .i64 c,.sl (IT.css es) .none]]) (H2:=H++[.cells [.int .i64 5,.int .i64 tn,.sl (VT.css tks) .none],.cells [.int .i64 0,.sl (IT.css ks) .none]]) (by simp[nU]) (by simp) fU ?_ ⟨_,_,rfl,i+1,_,by omega,rfl,by simp,rfl,by omega,by omega,fZ,rfl⟩⟩;simp[znQ,AV.sc,AV.scV,AV.scA,AV.scB]
      ·have px:(6:Int)<a+(1+w1):=by omega
       simp[hh]at fZ;simp[px];exact⟨⟨rfl,rfl⟩,hF fZ.symm _⟩
   ·obtain rfl:i=ks.length:=by omega
    rw[aI]at ho;simp only[zcY]at ho;rw[←ho]at hK;simp[zuw];exact⟨⟨rfl,rfl⟩,zc6 hs hK _⟩
theorem zdi(dU:List Dat)(n:Int)(ks:List IT)(tk tn:Int)(tks:List VT):rdV dU (.mk n ks) (.mk tk tn tks) =
  if tk=6 then (if n=0 then (if tks.length=ks.length then rdA dU ks tks 0 else -1) else -1)
  else if tk=7 then (if 0≤n∧n≤6∧ks.length=0 then n else -1)
  else if tk=5 then (if n=0∧ks.length≤6 then rdE dU ks (.mk tk tn tks) 0 else -1)
  else (if n=0∧ks.length=0 then 0 else -1):=by
 rw[rdV];rfl
theorem zvB{m:Int×Bool}{r:Int}(h:agr m r):-1≤r∧r≤6:=by
 obtain⟨h1,h2⟩:=h;cases hb:m.2 with
 |true=>have:=h1 hb;omega
 |false=>have:=h2 hb;omega
def zcR(dU:List Dat)(vs:List IT)(ts:List VT):Int:=if ts.length=vs.length then rdA dU vs ts 0 else -1
theorem zJo{dU:List Dat}(h8:∀D∈dU,D.cons.length≤8)(vs:List IT)(ts:List VT):-1≤zcR dU vs ts∧zcR dU vs ts≤6:=by
 unfold zcR;split
 ·exact zvB ((zi2 h8 vs ts 0 (by omega)).1 (by omega))
 ·omega
def ziS(dU:List Dat)(v:IT):Prop:=∀t:VT,t.nodes≤1000→∀(H:zaa) (K:Kt),K (.int .i64 (rdV dU v t)) H→ACalls tP zjU [.sl (dU.map Dat.cs) .none,.agg t.cs,.agg v.cs] H K
theorem zzR{dU:List Dat}(h8:∀D∈dU,D.cons.length≤8)(vs:List IT)(hv:vs.length≤1000)(gP:∀v∈vs,ziS dU v)(ts:List VT)(ht:∀t∈ts,t.nodes≤1000)(H:zaa)(K:Kt)(hK:K (.int .i64 (zcR dU vs ts)) H):ACalls tP zjl [.sl (dU.map Dat.cs) .none,.sl (VT.css ts) .none,.sl (IT.css vs) .none] H K:=by
 refine ACalls.out (zKx λhs=>?_);have hO:∀r J,zcR dU vs ts=r→Out H.length K (.int .i64 r) (H++J):=λr J h=>by subst h;exact Out.int rfl (aa _) hs hK
 have me:∀r,zcR dU vs ts=r→Out H.length K (.int .i64 r) H:=λr h=>by simpa using hO r [] h
 by_cases hl:ts.length=vs.length;case neg=>
  have:((ts.length:Int) != (vs.length:Int))=true:=by simp[bne];omega
  simp[zry,this];exact me _ (by simp[zcR,hl])
 have mT:zcR dU vs ts=rdA dU vs ts 0:=by simp[zcR,hl]
 simp[zry,hl];refine zKv (Inv:=λq t7 t17 H'=>∃(i:Nat) (a:Int),i≤vs.length∧q=vs.length-i∧t17=.int .i64 i∧t7=.int .i64 a∧0≤a∧a≤6∧rdA dU (vs.drop i) (ts.drop i) a=zcR dU vs ts∧H'=H) vs.length ?_ ?_
 ·intro _;exact⟨0,0,by omega,by omega,rfl,rfl,by omega,by omega,by simp[mT],rfl⟩
 ·rintro q t7 t17 H' ⟨i,a,hi,rfl,rfl,rfl,md,oA,ho,rfl⟩ eA d8 eC Kb ee;by_cases d7:i<vs.length
  ·have eE:i<ts.length:=by omega
   rw[ag d7,ag eE]at ho;simp only[rdA]at ho;have pt:=ht _ (ah eE);have pu:=gP _ (ah d7);have pv:=zvB (zg8 h8 vs[i] ts[i]);simp[zrz,hl,d7,eE,ae];refine zaH (.int .i64 (rdV dU vs[i] ts[i])) (λJ=>pu _ pt _ _ ⟨rfl,rfl⟩) ?_;generalize rdV dU vs[i] ts[i]=r at *;by_cases hr:r<0
   ·rw[aA (.inl hr)]at ho;simp[hr];exact me _ ho.symm
   ·have q1:IntKind.i64.wrap (a+r)=a+r:=zav (by omega) (by omega);by_cases h6:a+r>6
    ·rw[aA (.inr h6)]at ho;simp[hr,q1,h6];exact me _ ho.symm
    ·rw[ap (by omega)]at ho;simp[hr,q1,h6];rw[zav (by omega) (by omega)];refine ee _ _ ⟨vs.length-(i+1),by omega,Back.at (J:=[]) (by simp) (aa _) hs ?_ ⟨_,_,rfl,i+1,_,by omega,rfl,by simp,rfl,by omega,by omega,ho,rfl⟩⟩;simp[zk4,AV.sc,AV.scV,AV.scA,AV.scB]
  ·obtain rfl:i=vs.length:=by omega
   rw[aI]at ho;simp only[rdA]at ho;simp[zrz,hl];exact me _ ho.symm
theorem zSR:∀ (m:Nat) (v:IT),v.nodes≤m→∀ (left:Int),left≤1000000→-1≤left→∀ (H:zaa) (id:Nat),H[id]?=some (.cells [.int .i64 left])→∀ (K:AV→zaa→Prop),
  ((v.nodes:Int)≤left→K (.bool true) (H.set id (.cells [.int .i64 (left-v.nodes)])))→(¬(v.nodes:Int)≤left→∀l',K (.bool false) (H.set id (.cells [.int .i64 l']))) →
  ACalls tP zjQ [.agg v.cs,.ptr id 0] H K:=by
 intro m;induction m with
 |zero=>intro v h;have:=v.nodes_pos;omega
 |succ m ih=>
  intro v hv left i7 iS H id d9 K hK hF;obtain⟨n,ks⟩:=v;have d7:=zbk d9;have ip:(IT.mk n ks).nodes=IT.nodesL ks+1:=by simp[IT.nodes]
  refine ACalls.out (zSP λhs=>?_);have ek:(H++[AB.cells [.int .i64 n,.sl (IT.css ks) .none]])[id]?=some (.cells [.int .i64 left]):=zbj d9;have bad:(¬((IT.mk n ks).nodes:Int)≤left)→∀l' H',H'=H.set id (.cells [.int .i64 l'])++[.cells [.int .i64 n,.sl (IT.css ks) .none]]→Out H.length K (.bool false) H':=by intro h l' H' he;exact Out.bool he (by simp) (hs.set rfl) (hF h l')
  simp[zCJ,IT.cs,ek,AV.known];rw[zav (by omega) (by omega),zek _ d9,zbj (zdB _ d9)];by_cases h0:left-1<0
  ·simp[h0];exact bad (by omega) _ _ rfl
  ·simp[h0];refine zSN (Inv:=λq t5 H'=>∃i:Nat,i≤ks.length∧q=ks.length-i∧t5=.int .i64 i∧((IT.nodesL (ks.take i):Int)+1≤left)∧H'=H.set id (.cells [.int .i64 (left-1-IT.nodesL (ks.take i))])++[.cells [.int .i64 n,.sl (IT.css ks) .none]]) ks.length ?_ ?_
   ·intro _;exact⟨0,by omega,by omega,rfl,by simp[IT.nodesL];omega,by simp[IT.nodesL]⟩
   ·rintro q t5 H' ⟨i,hi,rfl,rfl,hb,rfl⟩ hsc d8 eC Kb ee;by_cases fe:i<ks.length
    ·have eY:=IT.kid_lt (n:=n) fe;have h1:=IT.nodesL_take fe;have h2:=IT.nodesL_take_le ks (i+1);have fc:=IT.len_le (ks.take i);simp only[aW]at fc;have iT:(H.set id (.cells [.int .i64 (left-1-IT.nodesL (ks.take i))])++[AB.cells [.int .i64 n,.sl (IT.css ks) .none]])[id]?=some (.cells [.int .i64 (left-1-IT.nodesL (ks.take i))]):=zbj (zdB _ d9);simp[ztW,fe];refine ih ks[i] (by omega) (left-1-IT.nodesL (ks.take i)) (by omega) (by omega) _ id iT _ ?_ ?_
     ·intro eH;rw[zek _ (zdB _ d9),bG];simp;rw[zav (by omega) (by omega)];refine ee _ _ ⟨ks.length-(i+1),by omega,Back.here (by simp) ((hs.set rfl).snoc rfl) ?_ ⟨_,rfl,i+1,by omega,rfl,by simp,by omega,?_⟩⟩
      ·simp[znf,AV.sc,AV.scV,AV.scA,AV.scB];omega
      ·rw[h1];congr 5;omega
     ·intro eH l';rw[zek _ (zdB _ d9),bG];simp;exact bad (by omega) _ _ rfl
    ·obtain rfl:i=ks.length:=by omega
     rw[aq]at hb ⊢;simp[ztW];refine Out.bool rfl (by simp) (hs.set rfl) ?_;have:=hK (by omega);rw[ip]at this;rw[show left-1-(IT.nodesL ks:Int)=left-((IT.nodesL ks+1:Nat):Int) by omega];exact this
theorem zu2(v:IT)(H:zaa)(K:Kt)(hK:∀b,(b=true→v.nodes≤40)→K (.bool b) H):ACalls tP zh2 [.agg v.cs] H K:=by
 refine ACalls.out (zWD λhs=>?_);simp[zq9,AV.known];refine zSR _ v (aa _) 40 (by omega) (by omega) _ (H.length+1) (by simp) _ ?_ ?_
 ·intro h;exact Out.bool (J:=[_,_]) (by simp;exact⟨rfl,rfl⟩) (aa _) hs (hK true λ_=>by omega)
 ·intro h l';exact Out.bool (J:=[_,_]) (by simp;exact⟨rfl,rfl⟩) (aa _) hs (hK false λh=>by cases h)
theorem zT2{dU:List Dat}(hk:zbw dU)(h8:∀D∈dU,D.cons.length≤8):∀(m:Nat) (v:IT),v.nodes≤m→v.nodes≤900→ziS dU v:=by
 intro m;induction m with
 |zero=>intro v h;have:=v.nodes_pos;omega
 |succ m ih=>
  intro v hv hb t ht H K hK;obtain⟨n,ks⟩:=v;obtain⟨tk,tn,tks⟩:=t;have fT:IT.nodesL ks+1≤900:=by simpa[IT.nodes]using hb
  have fc:=IT.len_le ks;have gx:∀v∈ks,ziS dU v:=λv lM=>by obtain⟨i,hi,rfl⟩:=bb lM;have:=IT.kid_lt (n:=n) hi;exact ih _ (by omega) (by omega)
  refine ACalls.out (zT0 λhs=>?_);rw[zdi]at hK;have hO:∀r J,K (.int .i64 r) H→Out H.length K (.int .i64 r) (H++J):=λr J h=>Out.int rfl (aa _) hs h;by_cases h6:tk=6
  ·subst h6;rw[aA rfl]at hK;by_cases hn:n=0
   ·subst hn;rw[aA rfl]at hK;simp[zdl,VT.cs,IT.cs,ae];have eX:∀ t∈tks,t.nodes≤1000:=λt nT=>by obtain⟨i,hi,rfl⟩:=bb nT;have:=VT.kid_lt (k:=6) (n:=tn) hi;omega
    refine zzR h8 ks (by omega) gx tks eX _ _ ?_;exact hO _ _ hK
   ·have:(n != 0)=true:=by simp[bne,hn]
    rw[ap hn]at hK;simp[zdl,VT.cs,IT.cs,ae,this];exact hO _ _ hK
  have iz:(tk == 6)=false:=by simp[h6]
  rw[ap h6]at hK;by_cases h7:tk=7
  ·subst h7;rw[aA rfl]at hK;by_cases g1:n<0
   ·rw[ap (by omega)]at hK;simp[zdl,VT.cs,IT.cs,ae,g1];exact hO _ _ hK
   ·by_cases g2:n>6
    ·rw[ap (by omega)]at hK;simp[zdl,VT.cs,IT.cs,ae,g1,g2];exact hO _ _ hK
    ·by_cases g3:0<ks.length
     ·rw[ap (by omega)]at hK;have g3':(0:Int)<ks.length:=by omega
      simp[zdl,VT.cs,IT.cs,ae,g1,g2,g3,g3'];exact hO _ _ hK
     ·rw[aA (by omega)]at hK;have g3':¬ (0:Int)<ks.length:=by omega
      simp[zdl,VT.cs,IT.cs,ae,g1,g2,g3,g3'];exact hO _ _ hK
  have mU:(tk == 7)=false:=by simp[h7]
  rw[ap h7]at hK;by_cases h5:tk=5;case neg=>
   have kC:(tk == 5)=false:=by simp[h5]
   rw[ap h5]at hK;by_cases g1:n=0
   ·subst g1;by_cases g2:0<ks.length
    ·have g2':(0:Int)<ks.length:=by omega
     rw[ap (by omega)]at hK;simp[zdl,VT.cs,IT.cs,ae,iz,mU,kC,g2,g2'];exact hO _ _ hK
    ·have g2':¬ (0:Int)<ks.length:=by omega
     rw[aA (by omega)]at hK;simp[zdl,VT.cs,IT.cs,ae,iz,mU,kC,g2,g2'];exact hO _ _ hK
   ·have g1':(n != 0)=true:=by simp[bne,g1]
    rw[ap (by omega)]at hK;simp[zdl,VT.cs,IT.cs,ae,iz,mU,kC,g1,g1'];exact hO _ _ hK
  subst h5;rw[aA rfl]at hK;by_cases hn:n=0;case neg=>
   have:(n != 0)=true:=by simp[bne,hn]
   rw[ap (by omega)]at hK;simp[zdl,VT.cs,IT.cs,ae,this];exact hO _ _ hK
  subst hn;by_cases hl6:ks.length>6
  ·rw[ap (by omega)]at hK;have:(6:Int)<ks.length:=by omega
   simp[zdl,VT.cs,IT.cs,ae,this];exact hO _ _ hK
  have hl6':¬(6:Int)<ks.length:=by omega
  rw[aA (by omega)]at hK;simp[zdl,VT.cs,IT.cs,ae,hl6'];have hT:(VT.mk 5 tn tks).nodes≤1000:=ht;have nU:(VT.mk 5 tn tks).cs=[.int .i64 5,.int .i64 tn,.sl (VT.css tks) .none]:=rfl;generalize hTg:VT.mk 5 tn tks=T at *;have fU:HSc (H++[.cells [.int .i64 5,.int .i64 tn,.sl (VT.css tks) .none],.cells [.int .i64 0,.sl (IT.css ks) .none]]):=hs.append (by simp[AB.sc,AV.scA,AV.scB]);have hF:∀ r,r=rdE dU ks T 0→∀ J,Out H.length K (.int .i64 r) (H++J):=λr h J=>hO _ _ (by rw[h];exact hK);refine zTY (Inv:=λq t7 t58 H'=>∃ (i:Nat) (a:Int),i≤ks.length∧q=ks.length-i∧t58=.int .i64 i∧t7=.int .i64 a∧0≤a∧a≤6∧rdE dU (ks.drop i) T a=rdE dU ks T 0 ∧
   H'=H++[.cells [.int .i64 5,.int .i64 tn,.sl (VT.css tks) .none],.cells [.int .i64 0,.sl (IT.css ks) .none]]) ks.length ?_ ?_
  ·intro _;exact⟨0,0,by omega,by omega,rfl,rfl,by omega,by omega,by simp,rfl⟩
  ·rintro q t7 t58 H' ⟨i,a,hi,rfl,rfl,rfl,md,oA,ho,rfl⟩ eA d8 eC Kb ee;by_cases d7:i<ks.length
   ·rw[ag d7]at ho;have gC:=IT.kid_lt (n:=0) d7;obtain⟨c,es,hx⟩:∃ c es,ks[i]=IT.mk c es:=by cases h:ks[i] with | mk a b=>exact⟨a,b,rfl⟩
    rw[hx]at ho gC;have hesl:=IT.len_le es;have hen:IT.nodesL es+1≤900:=by
     have:(IT.mk c es).nodes=IT.nodesL es+1:=by simp[IT.nodes]
     have:(IT.mk 0 ks).nodes=IT.nodesL ks+1:=by simp[IT.nodes]
     omega
    have eO:∀v∈es,ziS dU v:=λv lM=>by obtain⟨j,hj,rfl⟩:=bb lM;have:=IT.kid_lt (n:=c) hj;exact ih _ (by omega) (by omega)
    simp only[rdE]at ho;by_cases c1:c<0
    ·rw[aA (.inl c1)]at ho;simp[ziL,d7,hx,IT.cs,ae,c1];exact hF _ ho _
    by_cases c2:8≤c
    ·rw[aA (.inr c2)]at ho;simp[ziL,d7,hx,IT.cs,ae,c1,c2];exact hF _ ho _
    rw[ap (by omega)]at ho;simp[ziL,d7,hx,IT.cs,ae,c1,c2];rw[←nU];refine zJW dU hk T hT c _ _ ?_;cases hp:zbb dU T c with
    |none=>rw[hp]at ho;simp only at ho;simp[zcC];exact hF _ ho _
    |some ps=>
     rw[hp]at ho;simp only at ho;simp[zcC];have nV:∀t∈ps,t.nodes≤1000:=zxJ hp;refine zzR h8 es (by omega) eO ps nV _ _ ?_;have htb:=zJo h8 es ps;have fZ:(if zcR dU es ps<0∨a+1+zcR dU es ps>6 then -1 else rdE dU (ks.drop (i+1)) T (a+(1+zcR dU es ps)))=rdE dU ks T 0:=by
      rw[←ho];unfold zcR;by_cases hl:ps.length=es.length
      ·simp only[hl,aV]
      ·simp only[hl,aH];rfl
     generalize zcR dU es ps=w at *;by_cases w0:w<0
     ·rw[aA (.inl w0)]at fZ;simp[w0];exact hF _ fZ _
     ·have q1:IntKind.i64.wrap (a+1)=a+1:=zav (by omega) (by omega);have q2:IntKind.i64.wrap (a+1+w)=a+1+w:=zav (by omega) (by omega);have q3:IntKind.i64.wrap (1+w)=1+w:=zav (by omega) (by omega);have q4:IntKind.i64.wrap (a+(1+w))=a+(1+w):=zav (by omega) (by omega);by_cases hh:a+1+w>6
      ·rw[aA (.inr hh)]at fZ;simp[w0,q1,q2,hh];exact hF _ fZ _
      ·rw[ap (by omega)]at fZ;simp[w0,q1,q2,hh,q3,q4];rw[zav (by omega) (by omega)];refine ee _ _ ⟨ks.length-(i+1),by omega,Back.at (J:=[.cells [.int .i64 c,.sl (IT.css es) .none]]) (H2:=H++[.cells [.int .i64 5,.int .i64 tn,.sl (VT.css tks) .none],.cells [.int .i64 0,.sl (IT.css ks) .none]]) (by simp[nU]) (by simp) fU ?_ ⟨_,_,rfl,i+1,_,by omega,rfl,by simp,rfl,by omega,by omega,fZ,rfl⟩⟩;simp[znE,AV.sc,AV.scV,AV.scA,AV.scB]
   ·obtain rfl:i=ks.length:=by omega
    rw[aI]at ho;simp only[rdE]at ho;simp[ziL];exact hF _ ho _
section
variable {dU:List Dat} (hD:DOk dU)
def zol(dU:List Dat)(v:VT):Prop:=∀(t:VT),za3 dU 0 t=true→∀(H:zaa) (K:AV→zaa→Prop),K (.bool (zaV dU v t)) H→ACalls tP zjS [.sl (dU.map Dat.cs) .none,.agg v.cs,.agg t.cs] H K
theorem zFI{f:VT→VT→Bool}{x y:List VT}{i:Nat}(h:i<x.length)(h':i<y.length):zcM f (x.drop i) (y.drop i)=(f x[i] y[i] && zcM f (x.drop (i+1)) (y.drop (i+1))):=by rw[ag h,ag h',zcM]
theorem zDZ(vs ts:List VT)(hl:vs.length≤1000000)(hv:∀ v∈vs,zol dU v)(ht:∀ t∈ts,za3 dU 0 t=true)(H:zaa)(K:AV→zaa→Prop)(hK:K (.bool (zcE dU vs ts)) H):
  ACalls tP zj5 [.sl (dU.map Dat.cs) .none,.sl (VT.css vs) .none,.sl (VT.css ts) .none] H K:=by
 refine ACalls.out (zWt λhs=>?_);rw[zo1]at hK;have hO:∀b,zcM (zaV dU) vs ts=b→Out H.length K (.bool b) H:=λb h=>by have:=Out.bool (J:=[]) rfl (aa _) hs (h ▸ hK);simpa using this
 by_cases d8:vs.length=ts.length;case neg=>
  have gf:((vs.length:Int) != ts.length)=true:=by simp;omega
  simp[zuW,gf];exact hO _ (zoU d8)
 simp[zuW,d8];refine zWr (Inv:=λq t H'=>∃i:Nat,i≤vs.length∧q=vs.length-i∧t=.int .i64 i∧zcM (zaV dU) (vs.drop i) (ts.drop i)=zcM (zaV dU) vs ts∧H=H') vs.length ?_ ?_
 ·intro _;exact⟨0,by omega,by omega,rfl,by simp,rfl⟩
 rintro q t H' ⟨i,hi,rfl,rfl,ho,rfl⟩ hsc eH eC Kb ee;by_cases d7:i<vs.length
 ·have eE:i<ts.length:=by omega
  have eM:(i:Int)<ts.length:=by omega
  rw[zFI d7 eE]at ho;obtain⟨x,y,z,ei,hx,hy,hz⟩:=zbh vs[i];obtain⟨x2,y2,z2,eK,e8,kM,hz2⟩:=zbh ts[i];simp[zuX,d7,eE,eM,ei,eK];rw[←ei,←eK];refine zaH (.bool (zaV dU vs[i] ts[i])) (λJ=>hv _ (ah d7) _ (ht _ (ah eE)) _ _ ⟨rfl,rfl⟩) ?_;cases hb:zaV dU vs[i] ts[i] with
  |false=>rw[hb,aY]at ho;simp;exact hO _ ho.symm
  |true=>rw[hb,bi]at ho;simp;rw[zav (by omega) (by omega)];refine ee _ _ ⟨vs.length-(i+1),by omega,Back.here (aa _) hs ?_ ⟨_,rfl,i+1,by omega,rfl,by simp,ho,rfl⟩⟩;simp[zod,AV.sc,AV.scV,AV.scA,AV.scB]
 ·obtain rfl:i=vs.length:=by omega
  rw[aI,d8,aI,zcM]at ho;simp[zuX,d8];exact hO _ ho.symm
theorem zFY{dU:List Dat}{vks ks:List VT}(h1:vks.length=1)(h2:ks.length=1):zcE dU vks ks=zdJ dU vks (ks[0]'(by omega)):=by
 match vks,ks,h1,h2 with
 |[v],[k],_,_=>simp[zcE,zdJ]
include hD in
theorem yaE:∀(m:Nat) (v:VT),v.nodes≤m→v.nodes≤1000000→zol dU v:=by
 intro m;induction m with
 |zero=>intro v h;have:=v.nodes_pos;omega
 |succ m ih=>
  intro v hm hb t ht H K hK;obtain⟨vk,vn,vks⟩:=v;obtain⟨k,n,ks⟩:=t;refine ACalls.out (zTG λhs=>?_);have hO:∀b J,zaV dU (.mk vk vn vks) (.mk k n ks)=b→Out H.length K (.bool b) (H++J):=λb J h=>Out.bool rfl (aa _) hs (h ▸ hK);have fc:=VT.len_le vks;have ip:(VT.mk vk vn vks).nodes=VT.nodesL vks+1:=by simp[VT.nodes]
  have gx:∀x∈vks,zol dU x:=λx hx=>ih x (by have:=zje (k:=vk) (n:=vn) x hx;omega) (by have:=zhw (k:=vk) (n:=vn) x hx;omega);have eX:=zze ht;have hto:za7 dU 0 (.mk k n ks)=true:=by rw[za3,ai]at ht;exact ht.2
  have lN:(VT.mk k n ks).nodes≤200:=by rw[za3,ai]at ht;exact bY ht.1
  obtain⟨f1,f2,f3⟩:=zfq hD.k;have loop:∀ (hk:ks.length=1) ,zaV dU (.mk vk vn vks) (.mk k n ks)=zdJ dU vks (ks[0]'(by omega)) →
    zuh (.sl (dU.map Dat.cs) .none) (.ptr H.length 0) (.ptr (H.length+1) 0) (.int .i64 vks.length) (.int .i64 0) (H++[.cells [.int .i64 vk,.int .i64 vn,.sl (VT.css vks) .none],.cells [.int .i64 k,.int .i64 n,.sl (VT.css ks) .none]]) (Out H.length K):=by
   intro hk e;have gI:0<ks.length:=by omega
   refine zTE (Inv:=λq t10 H'=>∃i:Nat,i≤vks.length∧q=vks.length-i∧t10=.int .i64 i∧zdJ dU (vks.drop i) ks[0]=zdJ dU vks ks[0]∧H'=H++[.cells [.int .i64 vk,.int .i64 vn,.sl (VT.css vks) .none],.cells [.int .i64 k,.int .i64 n,.sl (VT.css ks) .none]]) vks.length ?_ ?_
   ·intro _;exact⟨0,by omega,by omega,rfl,by simp,rfl⟩
   rintro q t10 H' ⟨i,hi,rfl,rfl,ho,rfl⟩ hsc eH eC Kb ee;by_cases d7:i<vks.length
   ·rw[zFX d7]at ho;obtain⟨x,y,z,ei,hx,hy,hz⟩:=zbh vks[i];obtain⟨x2,y2,z2,eK,e8,kM,hz2⟩:=zbh ks[0];simp[zuf,d7,ei,gI,eK];rw[←ei,←eK];refine zaH (.bool (zaV dU vks[i] ks[0])) (λJ=>gx _ (ah d7) ks[0] (eX _ (ah gI)) _ _ ⟨rfl,rfl⟩) ?_;cases fq:zaV dU vks[i] ks[0] with
    |false=>rw[fq,aY]at ho;simp;exact hO _ _ (e.trans ho.symm)
    |true=>rw[fq,bi]at ho;simp;rw[zav (by omega) (by omega)];refine ee _ _ ⟨vks.length-(i+1),by omega,Back.here (by simp) hsc ?_ ⟨_,rfl,i+1,by omega,rfl,by simp,ho,rfl⟩⟩;simp[znz,AV.sc,AV.scV,AV.scA,AV.scB]
   ·obtain rfl:i=vks.length:=by omega
    rw[aI,zdJ]at ho;simp[zuf];exact hO _ _ (e.trans ho.symm)
  rcases zJu hto with ⟨rfl,rfl⟩|⟨rfl,rfl⟩|⟨rfl,rfl⟩|rfl|⟨rfl,hk⟩|⟨rfl,hk⟩|⟨rfl,hk⟩|⟨rfl,hk⟩
  ·simp[zeH,VT.cs,ae];cases h1:(vk == 3) <;> simp
   ·exact hO _ _ (by simp[zaV,h1])
   by_cases h2:-1099511627776≤vn <;> simp[h2]
   ·by_cases h3:vn≤1099511627776 <;> simp[h3]
    ·exact hO _ _ (by simp[zaV,h1,h2,h3,i0])
    ·exact hO _ _ (by simp[zaV,h1,h2,h3])
   ·exact hO _ _ (by simp[zaV,h1,h2])
  ·simp[zeH,VT.cs,ae];cases h1:(vk == 2) <;> simp
   ·exact hO _ _ (by simp[zaV,h1])
   cases h2:(vn == 0) <;> simp
   ·cases h3:(vn == 1) <;> simp
    ·exact hO _ _ (by simp[zaV,h1,h2,h3])
    ·exact hO _ _ (by simp[zaV,h1,h2,h3,i0])
   ·exact hO _ _ (by simp[zaV,h1,h2,i0])
  ·simp[zeH,VT.cs,ae];cases h1:(vk == 1) <;> simp
   ·exact hO _ _ (by simp[zaV,h1])
   cases h2:(vn == 0) <;> simp
   ·exact hO _ _ (by simp[zaV,h1,h2])
   ·exact hO _ _ (by simp[zaV,h1,h2,i0])
  ·-- a dU type
   simp[zeH,VT.cs,ae];cases h1:(vk == 5) with
   |false=>
    have:(vk != 5)=true:=by simp[bne,h1]
    simp[this];exact hO _ _ (by simp[zaV,h1])
   |true=>
   have f5:(vk != 5)=false:=by simp[bne,h1]
   by_cases h2:vn<0
   ·simp[f5,h2];exact hO _ _ (by simp[zaV,h1];omega)
   by_cases h3:8≤vn
   ·simp[f5,h2,h3];exact hO _ _ (by simp[zaV,h1];omega)
   simp[f5,h2,h3,ae];have e:∀o,zbr dU (.mk 5 n ks) vn=o→zaV dU (.mk vk vn vks) (.mk 5 n ks)=zfp dU vks o:=λo ho=>by
    have q1:0≤vn:=by omega
    have q2:vn<8:=by omega
    simp[zaV,h1,q1,q2,ho]
   have ew:(VT.mk 5 n ks).cs=[.int .i64 5,.int .i64 n,.sl (VT.css ks) .none]:=rfl;rw[←ew];refine zu1 dU f1 f2 f3 (.mk 5 n ks) (by omega) vn _ _ ?_;cases hf:zbr dU (.mk 5 n ks) vn with
   |none=>simp[zcC];exact hO _ _ (by rw[e _ hf,zFZ])
   |some l=>simp[zcC,ew];refine zDZ vks l (by omega) gx (zwt hD.ok hto hf) _ _ ?_;exact hO _ _ (by rw[e _ hf,zF0])
  ·simp[zeH,VT.cs,ae];cases h1:(vk == 4) <;> simp
   ·exact hO _ _ (by simp[zaV,h1])
   cases h2:(vn == 0) <;> simp
   ·exact hO _ _ (by simp[zaV,h1,h2])
   refine zDZ vks ks (by omega) gx eX _ _ ?_;exact hO _ _ (by simp[zaV,h1,h2])
  ·-- an array
   simp[zeH,ziK,VT.cs,ae];have gI:0<ks.length:=by omega
   cases h1:(vk == 6) with
   |false=>
    have:(vk != 6)=true:=by simp[bne,h1]
    simp[this];exact hO _ _ (by simp[zaV,h1])
   |true=>
   have f5:(vk != 6)=false:=by simp[bne,h1]
   by_cases h3:vks.length≤4096;case neg=>
    have lO:(4096:Int)<vks.length:=by omega
    simp[f5,lO];exact hO _ _ (by simp[zaV,h1,h3])
   have lO:¬(4096:Int)<vks.length:=by omega
   cases h2:(vn == 0) with
   |false=>
    have:(vn != 0)=true:=by simp[bne,h2]
    simp[f5,lO,this];exact hO _ _ (by simp[zaV,h1,h2])
   |true=>
   have nF:(vn != 0)=false:=by simp[bne,h2]
   simp[f5,lO,nF];exact loop hk (by have:=zFT gI;simp[zaV,h1,h2,h3,this,gI])
  ·simp[zeH,ziK,VT.cs,ae];have gI:0<ks.length:=by omega
   cases h1:(vk == 7) with
   |false=>
    have:(vk != 7)=true:=by simp[bne,h1]
    simp[this];exact hO _ _ (by simp[zaV,h1])
   |true=>
   have f5:(vk != 7)=false:=by simp[bne,h1]
   by_cases h3:vks.length=1;case neg=>
    have lO:((vks.length:Int) != 1)=true:=by simp;omega
    simp[f5,lO];refine hO _ _ ?_;have:zcE dU vks ks=false:=by rw[zo1];exact zoU (by omega)
    simp[zaV,h1,this]
   have lO:((vks.length:Int) != 1)=false:=by simp;omega
   cases h2:(vn == 0) with
   |false=>
    have:(vn != 0)=true:=by simp[bne,h2]
    simp[f5,lO,this];exact hO _ _ (by simp[zaV,h1,h2])
   |true=>
   have nF:(vn != 0)=false:=by simp[bne,h2]
   simp[f5,lO,nF];exact loop hk (by rw[←zFY h3 hk];simp[zaV,h1,h2])
  ·simp[zeH,ziK,VT.cs,ae];cases h1:(vk == 8) <;> simp
   ·exact hO _ _ (by simp[zaV,h1])
   by_cases h2:0≤vn <;> simp[h2]
   ·by_cases h3:vn<64 <;> simp[h3]
    ·exact hO _ _ (by simp[zaV,h1,h2,h3,i0])
    ·exact hO _ _ (by simp[zaV,h1,h2,h3])
   ·exact hO _ _ (by simp[zaV,h1,h2])
end
theorem zGc{dU:List Dat}(h:zbw dU):zgY dU:=λD hD=>by obtain⟨_,h2⟩:=h;obtain⟨_,h3,h4⟩:=h2 D hD;refine⟨by omega,λc hc=>?_⟩;obtain⟨_,h5,h6⟩:=h4 c hc;exact⟨by omega,λx hx=>by have:=h6 x hx;omega⟩
end Go.Proofs.YtdmamdnkcefmmaaGreatDoor
