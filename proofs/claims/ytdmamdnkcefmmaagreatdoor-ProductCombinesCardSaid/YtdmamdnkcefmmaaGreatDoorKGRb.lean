import Derived.Test.YtdmamdnkcefmmaaGreatDoorKN1
import Derived.Lib.AppendStr
import Derived.Lib.UnsafeStr
import Derived.Sort.Grow
import Derived.Deep.Draws
set_option linter.unusedSimpArgs false
set_option linter.unusedVariables false
set_option linter.unusedSectionVars false
set_option linter.defProp false
set_option maxRecDepth 100000
namespace Go.Proofs.YtdmamdnkcefmmaaGreatDoor
section
open Go.RowKit
variable {P:Program} {B:Nat} {w:World} {G:Gh} {H:or}
theorem tU.frz(h:tU B w G H){id:Nat}{cs:List AV}(hH:H[id]?=some (.cells cs)):
  ∃G',Ext B w G w G'∧tU B w G' (H.set id .dead)∧∃b,G.μ[id]?=some (.blk b)∧G'.L b=cs.length∧∃(vs:Array Value) (e:TypeId),w.heap[b]?=some (.cells vs e (0,0))∧All2 (ARel w G) vs.toList cs:=by
 have fy:id<G.μ.length:=by rw[h.len];exact(ac.1 hH).1
 obtain⟨gi,i7⟩:∃gi,G.μ[id]?=some gi:=⟨_,aw fy⟩;have fH:=h.ok id _ _ hH i7;cases gi with
 |gap=>exact fH.elim
 |own v s n=>exact fH.elim
 |blk b=>
  obtain⟨hB,hL,vs,e,hw,f5⟩:=fH;have hl:vs.size=cs.length:=by simpa using f5.length
  have he:Ext B w G w ⟨λx=>if x=b then cs.length else G.L x,G.μ⟩:=
   ⟨DR.same (af _) rfl,Below.refl _ _,λx=>by by_cases hx:x=b <;> simp[hx,hL],λ_ _ _=>rfl,λ_ gi h=>⟨gi,h,gi.le_refl⟩⟩
  refine⟨_,he,⟨by simp[h.len],?_,h.dist,λx hx=>?_,h.lt,h.base⟩,b,i7,by simp,vs,e,hw,f5⟩
  ·intro id' ab gi h1 h2;by_cases fA:id'=id
   ·subst fA;rw[ak (ac.1 hH).1]at h1;cases h1;have h2:G.μ[id']?=some gi:=h2;rw[i7]at h2;cases h2;exact⟨vs,e,(0,0),hw,by simp[hl]⟩
   ·rw[aj (λh=>fA h.symm)]at h1;refine(h.ok id' ab gi h1 h2).keep he (λx hx=>⟨rfl,?_⟩);have:¬x=b:=λjP=>fA (h.dist id' id gi _ b h2 i7 (by rw[hx,jP]) rfl);simp[this]
  ·have:=h.lt id _ b i7 rfl;have h3:¬ x=b:=by omega
   simp[h3,h.fresh x hx]
inductive FzA (id off len cap:Nat) (es:List (List AV)):AV→AV→Prop
 |refl (a:AV):FzA id off len cap es a a
 |ms:FzA id off len cap es (.ms id off len cap) (.sl es .none)
inductive FzT (id off len cap:Nat) (es:List (List AV)):AV→AV→Prop
 |one {a b:AV} (h:FzA id off len cap es a b):FzT id off len cap es a b
 |agg {asx bs:List AV} (h:All2 (FzA id off len cap es) asx bs):FzT id off len cap es (.agg asx) (.agg bs)
theorem FzA.rel{id off len cap size:Nat}{cs:List AV}{es:List (List AV)}(gC:off+len*size≤cs.length)(hp:plain ((cs.drop off).take (len*size))=some es.flatten)(fz:es.length=len)(fP:∀c∈es,c.length=size)(fZ:len≤cap){G':Gh}(hE:Ext B w G w G'){b:Nat}(hμ:G.μ[id]?=some (.blk b))(o9:G'.L b=cs.length){vs0:Array Value}{e:TypeId}(hw:w.heap[b]?=some (.cells vs0 e (0,0)))(f5:All2 (ARel w G) vs0.toList cs){v:Value}{a b':AV}(gc:FzA id off len cap es a b')(hr:ARel w G v a):ARel w G' v b':=by
 cases gc with
 |refl a=>exact hE.arel hr
 |ms=>
  obtain⟨b2,gF,rfl⟩:=hr;rw[hμ]at gF;cases gF;show DRel w G'.L _ _;subst fz;by_cases fI:es=[]
  ·subst fI;exact .slE _ _
  ·have hl:=f5.length;have hd:=Ap ((f5.drop off).take (es.length*size)) hp;refine DRel.of_flat_at (zs:=(vs0.toList.drop off).take (es.length*size)) fP fI fZ (by rw[o9];exact gC) (hd.mono λ_ _=>hE.drel) ?_;intro j u hj;rw[bQ]at hj;split at hj
   ·simp only[World.cell?,hw];simpa using hj
   ·cases hj
theorem Xn{R R':Value→AV→Prop}{S:AV→AV→Prop}(h:∀v a b,S a b→R v a→R' v b){vs:List Value}{asx bs:List AV}(hr:All2 R vs asx)(hs:All2 S asx bs):All2 R' vs bs:=
 All2.of_get (hr.length.trans hs.length) λi x y hx hy=>by obtain⟨a,ha,mA⟩:=All2.get' hr hx;obtain⟨y',nR,sK⟩:=All2.get' hs ha;rw[hy]at nR;cases nR;exact h _ _ _ sK mA
theorem ge.frz{f:FuncId}{args args':List AV}{K:Kt}(id off len cap size:Nat)(cs:List AV)(es:List (List AV))(hH:H[id]?=some (.cells cs))(gC:off+len*size≤cs.length)(hp:plain ((cs.drop off).take (len*size))=some es.flatten)(fz:es.length=len)(fP:∀c∈es,c.length=size)(fZ:len≤cap)(ha:All2 (FzT id off len cap es) args args')(h:ge P f args' (H.set id .dead) K):ge P f args H K:=by
 intro B w G vs hR hv;obtain⟨G',hE,oh,b,hμ,o9,vs0,e,hw,f5⟩:=hR.frz hH;have h1:∀v a b,FzA id off len cap es a b→ARel w G v a→ARel w G' v b:=λv a b' gc hr=>FzA.rel gC hp fz fP fZ hE hμ o9 hw f5 gc hr;have h2:∀v a b,FzT id off len cap es a b→TRel w G v a→TRel w G' v b:=by
  intro v a b' gc hr;cases gc with
  |one gc=>
   cases gc with
   |refl a=>exact hE.trel hr
   |ms=>exact TRel.of_v (VRel.of_a (h1 _ _ _ .ms hr))
  |agg gc=>obtain⟨us,hu,hr⟩:=hr;exact⟨us,hu,Xn h1 hr gc⟩
 refine(h B w G' vs oh (Xn h2 hv ha)).mono λe w' ⟨v,r,H',G'',k1,k2,k3,k4,k5⟩=>⟨v,r,H',G'',k1,hE.trans k2,k3,k4,k5⟩
end
section
open Go.RowKit
variable {P:Program} {B:Nat} {w:World} {G:Gh} {H:or}
end
section
open Go.Lib
open Go.RowKit
variable {P:Program} {B:Nat} {w:World}
theorem zM5{t u ty e:TypeId}{i:TypeInfo}(ht:P.underlying t=some (.slice e))(hu:P.underlying u=some .string)(hi:P.info? e=some i)(hz:i.zero=some (.int .u8 0))(iA:i.size=1)(gD:i.bytes=1){v:Value}{n:Nat}{xs:List Value}(fF:w.ownsRow B e 1 v n xs)(s:ByteArray)(hm:0<s.size)(pi:n+s.size≤maxLen)(iL:n+s.size≤140737488355328)(kD:B≤w.heap.size):
  ∃ v' w',(Builtin.append_ #[t,u] ty #[v,.string s]).run P w=.ok v' w'∧w'.ownsRow B e 1 v' (n+s.size) (xs++strCells s) ∧
   ((∃g,v.ownBlock=some g∧v'.ownBlock=some g∧GrB w w' (some g))∨(v'.ownBlock=some w.heap.size∧GrB w w' none)):=by
 have ix:xs.length=n:=by simpa using fF.1
 have fz:(xs++strCells s).length=(n+s.size)*1:=by rw[aH,ix,strCells_length,dX]
 have grown:∀ (old:Nat),old<n+s.size →
   (w.drew.alloc (.cells (xs.toArray++(strCells s).toArray++Builtin.zeroCells (Value.int .u8 0).cells (grownCap w (n+s.size) old e-(n+s.size))) e)).ownsRow B e 1
    (.slice (some ⟨w.heap.size,0,none⟩) (n+s.size) (grownCap w (n+s.size) old e)) (n+s.size) (xs++strCells s) ∧
   GrB w (w.drew.alloc (.cells (xs.toArray++(strCells s).toArray++Builtin.zeroCells (Value.int .u8 0).cells (grownCap w (n+s.size) old e-(n+s.size))) e)) none:=by
  intro old ho;have gW:=grownCap_ge w (n+s.size) old e;have iw:grownCap w (n+s.size) old e≤maxLen:=grownCap_le_maxLen w (n+s.size) old e pi;refine⟨⟨fz,.inr ⟨w.heap.size,_,_,rfl,kD,y6 (w:=w.drew) _,gW,iw,?_,?_⟩⟩,⟨NO w _,rfl,rfl,rfl,by simp,λk hk _=>yk (w:=w.drew) hk⟩⟩
  ·have ol:(Value.int IntKind.u8 0).cells.size=1:=rfl;simp only[dp,cL,size_zeroCells,ol,ix,strCells_length];omega
  ·simp only[ep,aB];rw[←aB,←fz];exact dw
 rcases fF.2 with ⟨rfl,rfl⟩|⟨g,cap,cur,rfl,lN,hg,oJ,iw,f5,gH⟩
 ·have hx:xs=[]:=aO ix;subst hx;have hr:=run_append_nil_string (P:=P) w t u ty e i (.int .u8 0) ht hu hi hz s hm (by omega) (by rw[gD];omega);have gE:=grown 0 (by omega);simp only[aX,List.nil_append,dP]at gE ⊢;have e1:(s.data.map λb=>Value.int .u8 b.toNat)=(strCells s).toArray:=by apply Array.ext';simp[strCells]
  rw[e1]at hr;exact⟨_,_,hr,gE.1,.inr ⟨rfl,gE.2⟩⟩
 ·by_cases jR:n+s.size≤cap
  ·have hcs':cur.size=cap:=by simpa using f5
   have hr:=run_append_room_string (P:=P) w t u ty e i ht hu hi iA g n cap cur hg s jR (by omega);refine⟨_,_,hr,⟨fz,.inr ⟨g,cap,_,rfl,lN,setRow_heap w g cur _ e _ hg,jR,iw,?_,?_⟩⟩,.inl ⟨g,rfl,rfl,⟨af _,rfl,rfl,rfl,by simp,λk _ hk=>setRow_other w g k _ (λe=>hk (by simp[e]))⟩⟩⟩
   ·simp only[cL,aH,a7,dy,Array.length_toList,strCells_length];omega
   ·have ht':cur.toList.take n=xs:=by simpa using gH
    rw[ht',←fz];exact dw
  ·have holds:∀j u,xs[j]?=some u→w.cell? ((⟨g,0,none⟩:Addr).add j)=some u:=fF.cells (g:=g) rfl;have hr:=run_append_grow_string (P:=P) w t u ty e i (.int .u8 0) ht hu hi hz ⟨g,0,none⟩ n cap xs (by rw[iA];simpa using ix) holds s (by omega) (by omega) (by rw[gD];exact growslice_fits (by omega) (by omega));have gE:=grown cap (by omega);exact⟨_,_,hr,gE.1,.inr ⟨rfl,gE.2⟩⟩
theorem zM6{t u ty e:TypeId}{i:TypeInfo}(ht:P.underlying t=some (.slice e))(hu:P.underlying u=some .string)(hi:P.info? e=some i)(iA:i.size=1){v:Value}{n:Nat}{xs:List Value}(fF:w.ownsRow B e 1 v n xs)(s:ByteArray)(hm:s.size=0):(Builtin.append_ #[t,u] ty #[v,.string s]).run P w=.ok v w:=by
 have hn:strCells s=[]:=aO (by rw[strCells_length];exact hm);have hf:=run_firstCells_string (P:=P) w 1 s;rw[hm,hn]at hf;have fN:∀x,(storeCells x [] 0).run P w=.ok () w:=λx=>rfl;rcases fF.2 with ⟨rfl,rfl⟩|⟨g,cap,cur,rfl,lN,hg,oJ,iw,f5,gH⟩
 ·simp[Builtin.append_,run_underlying ht,run_underlying hu,sizeOf,typeInfo,hi,iA,Builtin.lenOf,hm,hf]
 ·simp[Builtin.append_,run_underlying ht,run_underlying hu,sizeOf,typeInfo,hi,iA,Builtin.lenOf,hm,hf,oJ,fN]
theorem wpList_append_str{fx:Array Oper}{rest:List Oper}{o:Oper}{a:Act}{Q:Exit→Act→World→Prop}(pt:o.guard=none)(sl x:Operand)(t u:TypeId)(ho:o.op=.call { callee:=.builtin .append,args:=#[sl,x],argTypes:=#[t,u] }){v v':Value}{w':World}{s:ByteArray}(hs:a.eval sl=v)(hx:a.eval x=.string s)(hr:∀ty,(Builtin.append_ #[t,u] ty #[v,.string s]).run P w=.ok v' w')(h:wpList P fx Q rest (a.put o.dst v') w'):wpList P fx Q (o::rest) a w:=by
 refine wpList_plain pt λK hK=>?_;unfold Oper.wp execOp;simp only[ho,resolve,invoke,builtin,Sem.run_bind,Sem.run_pure,Result.andThen_ok,cR,aL,bI,hs,hx,hr];exact hK _ _ h
end
section
open Go.Lib
open Go.RowKit
variable {P:Program} {B:Nat} {w:World} {G:Gh} {H:or}
theorem tU.storeB(h:tU B w G H){id b:Nat}{t:TypeId}{cs cs':List AV}{vs vs':Array Value}(hH:H[id]?=some (.bld t cs))(hμ:G.μ[id]?=some (.blk b))(hw:w.heap[b]?=some (.cells vs t (0,0)))(hc:All2 (ARel w G) vs'.toList cs'):
  Ext B w G (w.setRow b vs') G∧tU B (w.setRow b vs') G (H.set id (.bld t cs')):=by
 obtain⟨hB,hL,_⟩:=h.ok id _ _ hH hμ;have fP:(w.setRow b vs').heap.size=w.heap.size:=by simp[World.setRow]
 have he:Ext B w G (w.setRow b vs') G:=by
  refine⟨DR.same (af _) rfl,⟨rfl,rfl,rfl,by rw[fP];exact af _,λk hk=>zD _ (by omega)⟩,λ_=>af _,λx off ho=>?_,λ_ gi h=>⟨gi,h,gi.le_refl⟩⟩;have:x≠b:=by intro hx;subst hx;omega
  exact A0 (zD _ this)
 refine⟨he,by simp[h.len],?_,h.dist,by rw[fP];exact h.fresh,by rw[fP];exact h.lt,by rw[fP];exact h.base⟩;intro id' ab gi h1 h2;by_cases fA:id'=id
 ·subst fA;rw[hμ]at h2;cases h2;have fy:id'<H.length:=(ac.1 hH).1;rw[ak fy]at h1;cases h1;exact⟨hB,hL,vs',setRow_heap w b vs vs' t _ hw,hc.mono λ_ _=>he.arel⟩
 ·rw[aj (λh=>fA h.symm)]at h1;refine(h.ok id' ab gi h1 h2).keep he (λx hx=>⟨zD _ ?_,rfl⟩);intro jP;subst jP;exact fA (h.dist id' id gi _ x h2 hμ hx rfl)
theorem tU.reCellB(h:tU B w G H){id:Nat}{t:TypeId}{cs cs':List AV}(fA:H[id]?=some (.bld t cs))(hc:∀vs:List Value,All2 (ARel w G) vs cs→All2 (ARel w G) vs cs'):tU B w G (H.set id (.bld t cs')):=by
 refine⟨by simp[h.len],?_,h.dist,h.fresh,h.lt,h.base⟩;intro i ab gi h1 h2;by_cases hi:i=id
 ·subst hi;rw[ak (ac.1 fA).1]at h1;cases h1;have fH:=h.ok i _ _ fA h2;cases gi with
  |blk b=>obtain⟨k1,k2,vs,k3,k4⟩:=fH;exact⟨k1,k2,vs,k3,hc _ k4⟩
  |own v s n=>exact fH.elim
  |gap=>exact fH.elim
 ·rw[aj (λh=>hi h.symm)]at h1;exact h.ok i ab gi h1 h2
theorem tU.ownCellB(h:tU B w G H){id:Nat}{t:TypeId}{p:AV}(e size:Nat)(fA:H[id]?=some (.bld t [p,.ZG])):
  ∃G',Ext B w G w G'∧tU B w G' (H.set id (.bld t [p,.sl [] (.own H.length)])++[.perm e size 0]):=by
 obtain⟨hE,f7⟩:=h.newOwn e size;refine⟨_,hE,?_⟩;have fy:=(ac.1 fA).1;have:=f7.reCellB (id:=id) (t:=t) (cs:=[p,.ZG]) (cs':=[p,.sl [] (.own H.length)]) (by rw[ah fy];exact fA) (λvs pr=>by
  match vs,pr with
  |[v1,v2],⟨h1,h2,_⟩=>
   have h2:v2=.slice none 0 0:=h2;subst h2;refine⟨h1,⟨.slE _ _,.slice none 0 0,size,0,?_,af _,λ_=>⟨rfl,by simp⟩⟩,trivial⟩;rw[←h.len];simp)
 rwa [aY _ _ fy]at this
theorem ge.ownB{f:FuncId}{args:List AV}{K:AV→or→Prop}{id:Nat}{t:TypeId}{p:AV}(e size:Nat)(fA:H[id]?=some (.bld t [p,.ZG]))(h:ge P f args (H.set id (.bld t [p,.sl [] (.own H.length)])++[.perm e size 0]) K):ge P f args H K:=by
 intro B w G vs hH hv;obtain⟨G',hE,f7⟩:=hH.ownCellB e size fA;refine(h B w G' vs f7 (hv.mono λ_ _=>hE.trel)).mono λe' w' hp=>?_;obtain⟨v,r,H',G'',h1,h2,h3⟩:=hp;exact⟨v,r,H',G'',h1,hE.trans h2,h3⟩
def bcs(l:List UInt8):List (List AV):=l.map λb=>[.int .u8 b.toNat]
theorem zT(l:List UInt8):(bcs l).length=l.length:=by simp[bcs]
theorem Xo(l m:List UInt8):bcs l++bcs m=bcs (l++m):=by simp[bcs]
theorem Bm(l:List UInt8):∀c∈bcs l,c.length=1:=by intro c hc;simp only[bcs,aF]at hc;obtain⟨b,_,rfl⟩:=hc;rfl
theorem zKQ(l:List UInt8):All2 (DRel w G.L) (strCells ⟨l.toArray⟩) (bcs l).flatten:=by
 have:strCells ⟨l.toArray⟩=l.map λb=>Value.int .u8 b.toNat:=by simp[strCells]
 rw[this];induction l with
 |nil=>trivial
 |cons b l ih=>exact⟨.int _ _,ih (by simp[strCells])⟩
theorem tU.freezeG(h:tU B w G H){id g n cap e:Nat}(hH:H[id]?=some (.frz e 1 n))(hμ:G.μ[id]?=some (.own (.slice (some ⟨g,0,none⟩) n cap) 1 n))(k:Nat):
  Ext B w G (w.freeze ⟨g,0,none⟩ k) G∧tU B (w.freeze ⟨g,0,none⟩ k) G H:=by
 obtain⟨g',cap',cur,fr0,_,_,hv,hg,lK,mI,gM,iU,kA⟩:=h.ok id _ _ hH hμ;cases hv;have jE:∀b,b≠g→(w.freeze ⟨g,0,none⟩ k).heap[b]?=w.heap[b]?:=by
  intro b hb;unfold World.freeze;split
  ·rfl
  ·simp only[dZ];rw[aG (λh=>hb h.symm)]
 have hgg:∃fr,(w.freeze ⟨g,0,none⟩ k).heap[g]?=some (.cells cur e fr):=by
  unfold World.freeze;split
  ·exact⟨fr0,hg⟩
  ·simp only[dZ,hg];exact⟨_,rfl⟩
 obtain⟨fr,hgf⟩:=hgg;have fP:(w.freeze ⟨g,0,none⟩ k).heap.size=w.heap.size:=by
  unfold World.freeze;split
  ·rfl
  ·simp
 have hbelow:Below B w (w.freeze ⟨g,0,none⟩ k):=below_freeze (Below.refl B w) (p:=⟨g,0,none⟩) lK k;have he:Ext B w G (w.freeze ⟨g,0,none⟩ k) G:=by
  refine⟨DR.same (by unfold World.freeze;split <;> exact af _) rfl,hbelow,λ_=>af _,λx off ho=>?_,λ_ gi h=>⟨gi,h,gi.le_refl⟩⟩;by_cases hx:x=g
  ·subst hx;simp[World.cell?,hgf,hg]
  ·exact A0 (jE x hx)
 refine⟨he,h.len,?_,h.dist,by rw[fP];exact h.fresh,by rw[fP];exact h.lt,by rw[fP];exact h.base⟩;intro id' ab gi h1 h2;by_cases fA:id'=id
 ·subst fA;rw[hμ]at h2;cases h2;rw[hH]at h1;cases h1;exact⟨g,cap,cur,fr,rfl,rfl,rfl,hgf,lK,mI,gM,iU,kA⟩
 ·refine(h.ok id' ab gi h1 h2).keep he (λx hx=>⟨jE x ?_,rfl⟩);intro jP;subst jP;exact fA (h.dist id' id gi _ x h2 hμ hx rfl)
theorem tU.other(h:tU B w G H)(o:Obj):Ext B w G (w.alloc o) G∧tU B (w.alloc o) G H:=by have he:=Ext.alloc h o G.L (λ_ _=>rfl) [];simp only[aP]at he;refine⟨he,h.keep he rfl (λid gi b h1 h2=>⟨yk (h.lt id gi b h1 h2),rfl⟩) (λb hb=>?_)⟩;rw[wR]at hb;exact h.fresh b (by omega)
end
section
open Go.RowKit
open Go.Sort
variable {P:Program} {B:Nat} {w:World} {G:Gh} {H:or}
end
section
open Go.RowKit
variable {P:Program} {B:Nat} {w:World} {G:Gh} {H:or}
theorem tU.newVec(h:tU B w G H)(e size:Nat):Ext B w G w ⟨G.L,G.μ++[.own (.slice none 0 0) size 0]⟩∧tU B w ⟨G.L,G.μ++[.own (.slice none 0 0) size 0]⟩ (H++[.vec e size 0 []]):=by
 obtain⟨hE,hH⟩:=h.newOwn e size;refine⟨hE,by simpa using hH.len,λid ab gi h1 h2=>?_,hH.dist,hH.fresh,hH.lt,hH.base⟩;by_cases fy:id<H.length
 ·rw[ah fy]at h1;exact hH.ok id ab gi (by rw[ah fy];exact h1) h2
 ·have fT:=(ac.1 h2).1;simp[h.len]at fT;obtain rfl:id=H.length:=by omega
  simp at h1;have h2:(G.μ++[GI.own (.slice none 0 0) size 0])[H.length]?=some gi:=h2;rw[←h.len]at h2;simp at h2;subst h1 h2;exact⟨rfl,rfl,⟨[],World.ownsRow_nil w B e size,trivial⟩,λb hb=>by simp[Value.ownBlock]at hb⟩
theorem tU.ovCell(h:tU B w G H){id j:Nat}{cs:List AV}(e size:Nat)(fA:H[id]?=some (.cells cs))(hj:cs[j]?=some .ZG):
  ∃G',Ext B w G w G'∧tU B w G' (H.set id (.cells (cs.set j (.ov H.length 0)))++[.vec e size 0 []]):=by
 obtain⟨hE,f7⟩:=h.newVec e size;refine⟨_,hE,?_⟩;have fy:=(ac.1 fA).1;have:=f7.reCell (id:=id) (cs:=cs) (cs':=cs.set j (.ov H.length 0)) (by rw[ah fy];exact fA) (λvs pr=>by
  obtain⟨v,h1,h2⟩:=All2.get pr hj;have h2:v=.slice none 0 0:=h2;subst h2;have fW:vs=vs.set j (.slice none 0 0):=by
   apply aU;intro k;by_cases hk:k=j
   ·subst hk;rw[ak (ac.1 h1).1];exact h1
   ·rw[aj (λh=>hk h.symm)]
  rw[fW];refine All2.set j pr ?_;refine⟨⟨none,0,rfl,λh=>absurd h (by omega),af _⟩,.slice none 0 0,size,0,?_,af _,λ_=>rfl⟩;rw[←h.len];simp)
 rwa [aY _ _ fy]at this
theorem ge.ovC{f:FuncId}{args:List AV}{K:AV→or→Prop}{id j:Nat}{cs:List AV}(e size:Nat)(fA:H[id]?=some (.cells cs))(hj:cs[j]?=some .ZG)(h:ge P f args (H.set id (.cells (cs.set j (.ov H.length 0)))++[.vec e size 0 []]) K):ge P f args H K:=by
 intro B w G vs hH hv;obtain⟨G',hE,f7⟩:=hH.ovCell e size fA hj;refine(h B w G' vs f7 (hv.mono λ_ _=>hE.trel)).mono λe' w' hp=>?_;obtain⟨v,r,H',G'',h1,h2,h3⟩:=hp;exact⟨v,r,H',G'',h1,hE.trans h2,h3⟩
end
section
open Go.RowKit
variable {P:Program} {B:Nat} {w:World} {G:Gh} {H:or}
theorem Xp(h:tU B w G H)(e size:Nat):TRel w ⟨G.L,G.μ++[.own (.slice none 0 0) size 0]⟩ (.slice none 0 0) (.ov H.length 0):=by refine⟨⟨none,0,rfl,λh=>absurd h (by omega),af _⟩,.slice none 0 0,size,0,?_,af _,λ_=>rfl⟩;rw[←h.len];simp
theorem tM.vec{c:Code}{Q:AExit→List AV→or→Prop}{F:List AV}(i e size:Nat)(hi:F[i]?=some .ZG)(h:tM P c Q (F.set i (.ov H.length 0)) (H++[.vec e size 0 []])):tM P c Q F H:=by
 intro B w G a hH hF hd;obtain⟨hE,f7⟩:=hH.newVec e size;have oS:FRel w ⟨G.L,G.μ++[.own (.slice none 0 0) size 0]⟩ a.tmps (F.set i (.ov H.length 0)):=by
  unfold FRel;obtain⟨v,h1,h2⟩:=All2.get hF hi;have h2:v=.slice none 0 0:=h2;subst h2;have fW:a.tmps.toList=a.tmps.toList.set i (.slice none 0 0):=by
   apply aU;intro k;by_cases hk:k=i
   ·subst hk;rw[ak (ac.1 h1).1];exact h1
   ·rw[aj (λh=>hk h.symm)]
  rw[fW];exact All2.set i (hF.ext hE) (Xp hH e size)
 refine wp_mono (h B w _ a f7 oS hd) λe a' w' hp=>?_;obtain⟨F'',H'',G'',e'',rfl,k1,k2,k3,k4,k5⟩:=hp;exact⟨F'',H'',G'',e'',rfl,hE.trans k1,k2,k3,k4,k5⟩
theorem tU.frzV(h:tU B w G H){id e size n:Nat}{cs:List AV}(hH:H[id]?=some (.vec e size n cs)){es:List (List AV)}(hp:plain cs=some es.flatten)(fz:es.length=n)(fP:∀ c∈es,c.length=size):
  ∃G',Ext B w G w G'∧tU B w G' (H.set id .dead)∧∀v,ARel w G v (.ov id n)→DRel w G'.L v (.sl es .none):=by
 have fy:id<G.μ.length:=by rw[h.len];exact(ac.1 hH).1
 obtain⟨gi,i7⟩:∃gi,G.μ[id]?=some gi:=⟨_,aw fy⟩;have fH:=h.ok id _ _ hH i7;cases gi with
 |gap=>exact fH.elim
 |blk b=>exact fH.elim
 |own v0 s0 n0=>
  obtain⟨rfl,rfl,⟨xs,fF,f5⟩,pc⟩:=fH;have mR:=fF;obtain⟨hl,ic⟩:=mR;rcases ic with ⟨h1,h2⟩|⟨g,cap,cur,h1,hB,hw,fZ,iw,ki,gj⟩
  ·subst h1;refine⟨G,Ext.refl _ _ _,⟨by simp[h.len],?_,h.dist,h.fresh,h.lt,h.base⟩,?_⟩
   ·intro id' ab gi k1 k2;by_cases fA:id'=id
    ·subst fA;rw[ak (ac.1 hH).1]at k1;cases k1;rw[i7]at k2;cases k2;exactλb hb=>by simp[Value.ownBlock]at hb
    ·rw[aj (λh=>fA h.symm)]at k1;exact h.ok id' ab gi k1 k2
   ·intro v hv;obtain⟨⟨a,cap0,rfl,_⟩,v',s',n',hμ,_,heq⟩:=hv;have gm:es=[]:=aO (by omega);subst gm;subst fz;exact .slE _ _
  ·subst h1;have mI:G.L g=0:=pc g rfl;have he:Ext B w G w ⟨λx=>if x=g then cur.size else G.L x,G.μ⟩:=
    ⟨DR.same (af _) rfl,Below.refl _ _,λx=>by by_cases hx:x=g <;> simp[hx,mI],λ_ _ _=>rfl,λ_ gi h=>⟨gi,h,gi.le_refl⟩⟩
   refine⟨_,he,⟨by simp[h.len],?_,h.dist,λx hx=>?_,h.lt,h.base⟩,?_⟩
   ·intro id' ab gi k1 k2;by_cases fA:id'=id
    ·subst fA;rw[ak (ac.1 hH).1]at k1;cases k1;have k2:G.μ[id']?=some gi:=k2;rw[i7]at k2;cases k2;intro b hb;simp[Value.ownBlock]at hb;subst hb;exact⟨cur,e,_,hw,by simp⟩
    ·rw[aj (λh=>fA h.symm)]at k1;refine(h.ok id' ab gi k1 k2).keep he (λx hx=>⟨rfl,?_⟩);have:¬x=g:=λjP=>fA (h.dist id' id gi _ g k2 i7 (by rw[hx,jP]) rfl);simp[this]
   ·have:=h.lt id _ g i7 rfl;have h3:¬ x=g:=by omega
    simp[h3,h.fresh x hx]
   ·intro v hv;obtain⟨⟨a,cap0,rfl,_⟩,v',s',n',hμ,_,heq⟩:=hv;rw[i7]at hμ;simp only[cK,GI.own.injEq]at hμ;obtain⟨rfl,rfl,rfl⟩:=hμ;have rJ:=heq rfl;simp only[Value.slice.injEq,fc]at rJ;obtain⟨rfl,rfl⟩:=rJ;subst fz;by_cases gm:es=[]
    ·subst gm;exact .slE _ _
    ·obtain⟨_,_,_,fR⟩:=ze fF;refine DRel.of_flat_at (zs:=xs) fP gm fZ ?_ ((Ap f5 hp).mono λ_ _=>he.drel) ?_
     ·simp only[br];rw[ki,aX];exact aD _ fZ
     ·intro j u hj;rw[aX,fR j (by rw[←hl];exact(ac.1 hj).1)];exact hj
end
def EU(n:Nat)(hn:n<18446744073709551616)(H:or)(K:Kt)(hK:K (.sl (tX (lim n)) .none) H):
  ge tP 71 [.int .u64 n] H K:=by
 refine ge.out (ydn λhs=>?_);unfold WD Ic;refine tM.own 3 88 1 rfl ?_;show Ic (.int .u64 n) (.sl [] (.own H.length)) (H++[.perm 88 1 0]) (Out H.length K);refine ydl (Inv:=λq t0 t3 H'=>∃ (m:Nat) (A:List Nat),m=q∧t0=.int .u64 m∧t3=.sl (tX A) (.own H.length)∧lim n=A++lim m∧m<18446744073709551616 ∧
  H'=H++[.perm 88 1 A.length]) n ?_ ?_
 ·intro _;exact⟨n,[],rfl,rfl,rfl,by simp,hn,rfl⟩
 ·rintro q t0 t3 H' ⟨m,A,rfl,rfl,rfl,hA,hm,rfl⟩ fG fz fM Kb fB;by_cases h0:m=0
  ·subst h0;simp[Ps];exact Out.one hs (.atom (.sl _ _)) rfl rfl (by simpa[hA]using hK)
  ·have hq:=PI m;have hd:=zLE h0;have hlA:A.length+1≤1000:=by have h1:=congrArg List.length hA;have h2:=wx (n:=n) (k:=3) (by omega);rw[xK h0]at h1;simp at h1;omega
   simp only[Ps,PH,Xl false hm,zKe .u64 (show m % 1000000000<4294967296 by omega)];simp[show 0<m by omega,uk,uI,plain,AV.pd,uj,uD,uy];refine⟨⟨by omega,by omega⟩,?_⟩;have e1:((m:Int) / 1000000000)=((m / 1000000000:Nat):Int):=rfl;have e2:((m:Int) % 1000000000)=((m % 1000000000:Nat):Int):=rfl;rw[e1,e2,sN];refine fB _ _ ⟨m / 1000000000,hd,Back.here (by simp) (hs.append (by simp[AB.sc])) (by simp[Ib,ux,AV.sc,AV.ZH,AV.ZI,AV.ZJ]) ⟨_,_,rfl,m / 1000000000,A++[m % 1000000000],rfl,rfl,rfl,?_,by omega,by simp⟩⟩;rw[hA,xK h0];simp
def zm(A:List Nat)(x:Nat):tQ (A++[x])=tQ A+1000000000 ^ A.length*x:=by rw[yq];simp[tQ]
def Xq(L:List Nat)(oT:∀ x∈L,x<4294967296)(hL:L.length≤100000)(H:or)(K:Kt)(hK:K (.sl (tX (lim (tQ L))) .none) H):
  ge tP 107 [.sl (tX L) .none] H K:=by
 refine ge.out (zQG λhs=>?_);unfold WV It;refine tM.own 3 88 1 rfl ?_;show It (.sl (tX L) .none) (.sl [] (.own H.length)) (.int .u64 0) I0 (H++[.perm 88 1 0]) (Out H.length K);have lp:∀A:List Nat,(∀x∈A,x<1000000000)→tQ A=tQ L→A.length≤200000→Iu (.sl (tX A) (.own H.length)) (H++[.perm 88 1 A.length]) (Out H.length K):=by intro A hA he hl;unfold Iu;refine ge.wk (args':=[.sl (tX A) .none]) (CX A (by omega) _ _ ?_) ⟨.atom (.sl _ _),trivial⟩;rw[zQ A hA,he];exact Out.one hs (.atom (.sl _ _)) rfl rfl hK
 refine zQE (Inv:=λq t3 t4 t5 H'=>∃ (i c:Nat) (A:List Nat),i≤L.length∧L.length-i=q∧t5=I6 i∧t4=.int .u64 c∧t3=.sl (tX A) (.own H.length)∧A.length=i∧(∀ x∈A,x<1000000000)∧c≤5 ∧
  tQ A+1000000000 ^ i*c=tQ (L.take i)∧H'=H++[.perm 88 1 A.length]) L.length ?_ ?_
 ·intro _;exact⟨0,0,[],by omega,rfl,rfl,rfl,rfl,rfl,by simp,by omega,by simp[tQ],rfl⟩
 ·rintro q t3 t4 t5 H' ⟨i,c,A,hi,rfl,rfl,rfl,rfl,kv,hA,hc,hv,rfl⟩ fG fz fM Kb fB;by_cases fy:i<L.length
  ·have hx:=oT L[i] (ae fy);have w1:IntKind.u64.wrap ((L[i]:Nat):Int)=L[i]:=uE (by omega);obtain⟨s,f9⟩:∃ s,s=c+L[i]:=⟨_,rfl⟩;have w2:IntKind.u64.wrap ((c:Int)+(L[i]:Nat))=(s:Int):=by rw[f9,←Int.natCast_add];exact uE (by omega)
   obtain⟨x,c',gG,gf,gL,e1,e2⟩:=AA s (by omega);simp only[Iw];simp[fy,w1,w2,e1,e2,gL,uk,uI,plain,AV.pd,uj,uD,uy,wi i (by omega)];refine⟨⟨by omega,by omega⟩,?_⟩;rw[sN];refine fB _ _ ⟨L.length-(i+1),by omega,Back.here (by simp) (hs.append (by simp[AB.sc])) (by simp[Is,ux,AV.sc,AV.ZH,AV.ZI,AV.ZJ]) ⟨_,_,_,rfl,i+1,c',A++[x],by omega,rfl,rfl,rfl,rfl,by simp[kv],?_,by omega,?_,by simp⟩⟩
   ·intro y hy;rcases bg.1 hy with hy | hy
    ·exact hA y hy
    ·simp at hy;omega
   ·rw[zm,wH L i fy,←hv,kv,Nat.pow_succ];grind
  ·obtain rfl:i=L.length:=by omega
   rw[az]at hv;by_cases h0:c=0
   ·subst h0;simp[Iw];exact lp A hA (by simpa using hv) (by omega)
   ·simp only[Iw];simp[show 0<c by omega,v8 (show c<4294967296 by omega),uk,uI,plain,AV.pd,uj,uD,uy];refine⟨⟨by omega,by omega⟩,?_⟩;rw[sN];have:=lp (A++[c]) (λy hy=>by
     rcases bg.1 hy with hy|hy
     ·exact hA y hy
     ·simp at hy;omega) (by rw[zm,kv];exact hv) (by simp;omega)
    simpa using this
def IL{A B:List Nat}(hl:A.length=B.length)(hA:∀x∈A,x<1000000000)(i:Nat)(hi:i<A.length)(hd:A.drop (i+1)=B.drop (i+1))(fy:A[i]<B[i]'(by omega)):tQ A<tQ B:=by
 have e1:∀(l:List Nat) (h:i<l.length),tQ l=tQ (l.take i)+1000000000 ^ i*(l[i]+1000000000*tQ (l.drop (i+1))):=by
  intro l h
  conv=>lhs;rw[←aJ i l,yq,ai h,tQ]
  rw[a7,bo (by omega)]
 rw[e1 A hi,e1 B (by omega),hd];have h1:=wr (A.take i) (λx hx=>hA x (bq hx));rw[a7,bo (by omega)]at h1;generalize hZ:tQ (B.drop (i+1))=Z;generalize A[i]=a at fy ⊢;generalize B[i]=b at fy ⊢;have h2:1000000000 ^ i*(a+1000000000*Z+1)≤1000000000 ^ i*(b+1000000000*Z):=bf _ (by omega);rw[Nat.mul_succ]at h2;omega
def vI(a b:Nat):Int:=if a<b then -1 else if b<a then 1 else 0
def Bn(a b:Nat)(ha:(lim a).length≤1000)(hb:(lim b).length≤1000)(H:or)(K:Kt)(hK:K (I6 (vI a b)) H):
  ge tP 105 [.sl (tX (lim a)) .none,.sl (tX (lim b)) .none] H K:=by
 refine ge.out (zQt λhs=>?_);have hO:∀r,r=vI a b→Out H.length K (I6 r) H:=λr hr=>Out.int (J:=[]) (by simp) (af _) hs (by rw[hr];exact hK);have lA:=uZ a;have lB:=uZ b;have vA:=uN a;have vB:=uN b;by_cases fI:(lim a).length=(lim b).length
 ·simp[In,fI];generalize hLA:lim a=A at *;generalize hLB:lim b=B at *;have lq:IntKind.i64.wrap ((B.length:Int)-1)=(B.length:Int)-1:=um (by omega) (by omega);rw[lq];refine zQr (Inv:=λq t5 H'=>∃i:Nat,i≤B.length∧i=q∧t5=I6 ((i:Int)-1)∧H'=H∧A.drop i=B.drop i) B.length ?_ ?_
  ·intro _;exact⟨B.length,by omega,rfl,rfl,rfl,by rw[aS (by omega),aS (by omega)]⟩
  ·rintro q t5 H' ⟨i,hi,rfl,rfl,rfl,hd⟩ fG fz fM Kb fB;by_cases h0:i=0
   ·subst h0;simp[EK];refine hO _ ?_;simp at hd;rw[←vA,←vB,hd];simp[vI]
   ·obtain⟨j,rfl⟩:∃ j,i=j+1:=⟨i-1,by omega⟩;have kj:j<A.length:=by omega
    have mS:j<B.length:=by omega
    have ej:((j+1:Nat):Int)-1=(j:Int):=by omega
    have fC:IntKind.i64.wrap ((j:Int)-1)=(j:Int)-1:=um (by omega) (by omega);rw[ej];rcases Nat.lt_trichotomy A[j] B[j] with h|h|h
    ·have:=IL fI lA j kj hd h;simp[EK,kj,mS,h];exact hO _ (by rw[←vA,←vB];simp[vI,this])
    ·simp[EK,kj,mS,h,fC];refine fB _ _ ⟨j,by omega,Back.here (by simp) hs (by simp[Im,ux,AV.sc,AV.ZH,AV.ZI,AV.ZJ]) ⟨_,rfl,j,by omega,rfl,rfl,rfl,?_⟩⟩;rw[ai kj,ai mS,hd,h]
    ·have:=IL fI.symm lB j mS hd.symm h;simp[EK,kj,mS,h,bH h,eE.2 (bH h)];exact hO _ (by rw[←vA,←vB];simp[vI,this,eE.2 (bH this)])
 ·have mU:(((lim a).length:Int) != ((lim b).length:Int))=true:=by simp;omega
  by_cases fy:(lim a).length<(lim b).length
  ·have:=ES fy;simp[In,mU,fy];exact hO (-1) (by simp[vI,this])
  ·have:=ES (show (lim b).length<(lim a).length by omega);simp[In,mU,fy];exact hO 1 (by simp[vI,this,eE.2 (bH this)])
def zQo(A B:List Nat)(lA:∀ x∈A,x<1000000000)(lB:∀ x∈B,x<1000000000)(ha:A.length≤1000)(hb:B.length≤1000)(H:or)(K:Kt)(cA:lim (tQ A)=A)(cB:lim (tQ B)=B)(hK:K (.sl (tX (lim (tQ A+tQ B))) .none) H):
  ge tP 104 [.sl (tX A) .none,.sl (tX B) .none] H K:=by
 refine ge.out (zQm λhs=>?_);unfold WN Ij;refine tM.own 5 88 1 rfl ?_;show Ij (.sl (tX A) .none) (.sl (tX B) .none) (.sl [] (.own H.length)) (.int .u32 0) I0 (H++[.perm 88 1 0]) (Out H.length K);refine zQk (Inv:=λq t5 t6 t7 H'=>∃ (i c:Nat) (R:List Nat),2002-i=q∧i≤1001∧t7=I6 i∧t6=.int .u32 c∧t5=.sl (tX R) (.own H.length)∧R.length=i∧(∀ x∈R,x<1000000000)∧c≤1 ∧
  (max A.length B.length<i→c=0∧1000000000 ^ (i-1)≤tQ R)∧tQ R+1000000000 ^ i*c=tQ (A.take i)+tQ (B.take i)∧H'=H++[.perm 88 1 R.length]) 2002 ?_ ?_
 ·intro _;exact⟨0,0,[],rfl,by omega,rfl,rfl,rfl,rfl,by simp,by omega,by omega,by simp[tQ],rfl⟩
 ·rintro q t5 t6 t7 H' ⟨i,c,R,rfl,hi,rfl,rfl,rfl,iN,hR,hc,nS,hv,rfl⟩ fG fz fM Kb fB;have lr:∀ (s:Nat),s≤2*999999999+1→i≤1000→s+1000000000 ^ 0*0=c+(if h:i<A.length then A[i] else 0)+(if h:i<B.length then B[i] else 0)→(max A.length B.length<i+1→s=1) →
    Ik (.sl (tX A) .none) (.sl (tX B) .none) (.sl (tX R) (.own H.length)) (I6 i) (.int .u32 s) (H++[.perm 88 1 R.length]) (Out H.length K) Kb:=by
   intro s f9 qT gn qU;obtain⟨x,c',gG,gf,e1,e2⟩:=PJ s (by omega);simp only[Ik];simp[e1,e2,uk,uI,plain,AV.pd,uj,uD,uy,wi i (by omega)];refine⟨⟨by omega,by omega⟩,?_⟩;rw[sN];have tk:∀L:List Nat,tQ (L.take (i+1))=tQ (L.take i)+(if h:i<L.length then L[i] else 0)*1000000000 ^ i:=by
    intro L;by_cases h:i<L.length
    ·rw[fb h,wH L i h]
    ·rw[eK h,am (by omega),am (by omega)];simp
   refine fB _ _ ⟨2002-(i+1),by omega,Back.here (by simp) (hs.append (by simp[AB.sc])) (by simp[Ii,ux,AV.sc,AV.ZH,AV.ZI,AV.ZJ]) ⟨_,_,_,rfl,i+1,c',R++[x],rfl,by omega,rfl,rfl,rfl,by simp[iN],?_,by omega,?_,?_,by simp⟩⟩
   ·intro y hy;rcases bg.1 hy with hy | hy
    ·exact hR y hy
    ·simp at hy;omega
   ·intro h;have:=qU h;refine⟨by omega,?_⟩;obtain rfl:x=1:=by omega
    rw[zm,iN,bY];omega
   ·rw[zm,tk A,tk B,iN,Nat.pow_succ];simp only[Nat.pow_zero,Nat.mul_zero,Nat.add_zero]at gn;generalize (if h:i<A.length then A[i] else 0)=u at *;generalize (if h:i<B.length then B[i] else 0)=v at *;grind
  by_cases hA:i<A.length
  ·have mA:=lA A[i] (ae hA);by_cases hB:i<B.length
   ·have jP:=lB B[i] (ae hB);obtain⟨s1,f9⟩:∃ s,s=c+A[i]:=⟨_,rfl⟩;have w1:IntKind.u32.wrap ((c:Int)+(A[i]:Nat))=(s1:Int):=by rw[f9,←Int.natCast_add];exact v8 (by omega)
    obtain⟨s2,gn⟩:∃s,s=s1+B[i]:=⟨_,rfl⟩;have w2:IntKind.u32.wrap ((s1:Int)+(B[i]:Nat))=(s2:Int):=by rw[gn,←Int.natCast_add];exact v8 (by omega)
    simp[CP,CO,hA,hB,w1,w2];exact lr s2 (by omega) (by omega) (by simp[hA,hB];omega) (by omega)
   ·obtain⟨s1,f9⟩:∃ s,s=c+A[i]:=⟨_,rfl⟩;have w1:IntKind.u32.wrap ((c:Int)+(A[i]:Nat))=(s1:Int):=by rw[f9,←Int.natCast_add];exact v8 (by omega)
    simp[CP,CO,hA,hB,w1];exact lr s1 (by omega) (by omega) (by simp[hA,hB];omega) (by omega)
  ·by_cases hB:i<B.length
   ·have jP:=lB B[i] (ae hB);obtain⟨s2,gn⟩:∃ s,s=c+B[i]:=⟨_,rfl⟩;have w2:IntKind.u32.wrap ((c:Int)+(B[i]:Nat))=(s2:Int):=by rw[gn,←Int.natCast_add];exact v8 (by omega)
    simp[CP,CO,hA,hB,w2];exact lr s2 (by omega) (by omega) (by simp[hA,hB];omega) (by omega)
   ·by_cases h0:c=0
    ·subst h0;simp[CP,hA,hB];rw[am (by omega),am (by omega)]at hv;have gU:tQ R=tQ A+tQ B:=by simpa using hv
     rw[←gU]at hK;have mV:R=lim (tQ R):=by
      refine PK hR ?_;by_cases hm:max A.length B.length<i
      ·have:=CW (nS hm).2;omega
      ·by_cases rQ:i=0
       ·omega
       ·have hmm:i=max A.length B.length:=by omega
        have gW:1000000000 ^ (i-1)≤tQ R:=by
         by_cases hAB:B.length≤A.length
         ·have:i=A.length:=by omega
          have h3:=EQ (n:=tQ A) (by intro h;have jC:=congrArg List.length cA;rw[h]at jC;simp at jC;omega);rw[cA,←this]at h3;omega
         ·have:i=B.length:=by omega
          have h3:=EQ (n:=tQ B) (by intro h;have jC:=congrArg List.length cB;rw[h]at jC;simp at jC;omega);rw[cB,←this]at h3;omega
        have:=CW gW;omega
     rw[←mV]at hK;exact Out.one hs (.atom (.sl _ _)) rfl rfl hK
    ·have:i≤1000:=by refine dA λh=>?_;exact h0 (nS (by omega)).1
     simp[CP,CO,hA,hB,show 0<c by omega];exact lr c (by omega) this (by simp[hA,hB]) (by omega)
def us(l:List Nat):List AV:=l.map λ(n:Nat)=>AV.int .u32 (n:Int)
@[simp] theorem yjg(l:List Nat):(us l).length=l.length:=by simp[us]
def IM(l:List Nat):(tX l).flatten=us l:=by induction l with
 |nil=>rfl
 |cons x l ih=>simp only[tX,us,aL,List.flatten_cons]at ih ⊢;rw[ih];rfl
theorem EV:∀ (l:List Nat),plain (us l)=some (us l)
 |[]=>rfl
 |x::l=>by simp only[us,aL,plain,AV.pd];rw[show plain (List.map (λn:Nat=>AV.int .u32 (n:Int)) l)=some (us l) from EV l];rfl
def zPQ(l:List Nat)(i:Nat)(h:i<l.length):(us l)[i]?=some (.int .u32 ((l[i]:Nat):Int)):=by simp[us,h]
def PL(l:List Nat)(i x:Nat)(h:i<l.length):(us l).take i++[AV.int .u32 (x:Int)]++(us l).drop (i+1)=us (l.set i x):=by simp only[us,←bT,←List.map_drop];rw[bx,aN h];simp
def AC(n:Nat):List.replicate n (AV.int .u32 0)=us (List.replicate n 0):=by simp[us]
def EW{k:AV→Prop}(l:List Nat)(i:Nat)(h:i<l.length):vH false 1 i (us l) k=k (.int .u32 ((l[i]:Nat):Int)):=by simp[vH,zPQ l i h]
def IN(L:List Nat)(hL:∀ x∈L,x<1000000000)(hl:L.length≤100000){id:Nat}{H:or}{K:Kt}(fA:H[id]?=some (.cells (us L)))(hK:K (.sl (tX (lim (tQ L))) .none) (H.set id .dead)):
  ge tP 110 [.ms id 0 L.length L.length] H K:=by
 refine ge.frz id 0 L.length L.length 1 (us L) (tX L) fA (by simp) ?_ (by simp) (yJ L) (af _) (args':=[.sl (tX L) .none]) ⟨.one .ms,trivial⟩ ?_
 ·rw[bA,am (by simp),IM,EV]
 ·refine CX L (by omega) _ _ ?_;rw[zQ L hL];exact hK
def Xr(A B:List Nat)(lA:∀ x∈A,x<1000000000)(lB:∀ x∈B,x<1000000000)(ha:A.length≤1000)(hb:B.length≤1000)(H:or)(K:Kt)(hK:K (.sl (tX (lim (tQ A*tQ B))) .none) H):
  ge tP 58 [.sl (tX A) .none,.sl (tX B) .none] H K:=by
 refine ge.out (ycl λhs=>?_);have hw:IntKind.i64.wrap (IntKind.i64.wrap ((A.length:Int)+B.length)+1)=((A.length+B.length+1:Nat):Int):=by rw[um (n:=(A.length:Int)+B.length) (by omega) (by omega),um (by omega) (by omega)];omega
 simp[WK,hw,vo];have hN:((A.length:Int)+B.length+1).toNat=A.length+B.length+1:=by omega
 rw[hN,AC];refine⟨⟨by omega,by omega,by omega⟩,?_⟩;have hsc:∀O:List Nat,HSc (H++[.cells (us O)]):=λO=>hs.append (by simp[AB.sc,us,AV.ZH,AV.ZI]);have mh:=wr B lB;refine yci (Inv:=λq t6 H'=>∃(i:Nat) (O:List Nat),i≤A.length∧A.length-i=q∧t6=I6 i∧O.length=A.length+B.length+1∧(∀x∈O,x<1000000000)∧tQ O=tQ (A.take i)*tQ B∧H'=H++[.cells (us O)]) A.length ?_ ?_
 ·intro _;exact⟨0,_,by omega,rfl,rfl,by simp,by simp,by rw[Xa];simp[tQ],rfl⟩
 ·rintro q t6 H' ⟨i,O,hi,rfl,rfl,i8,hO,hv,rfl⟩ fG fz fM Kb fB;by_cases fy:i<A.length
  ·have mA:=lA A[i] (ae fy);simp[Pu,fy];refine ycj (Inv:=λq t7 t8 H'=>∃ (k c:Nat) (R:List Nat),k≤B.length+1∧B.length+1-k=q∧t8=I6 k∧t7=.int .u64 c∧R.length=A.length+B.length+1∧(∀ x∈R,x<1000000000)∧c<1000000000∧(B.length<k→c=0) ∧
    tQ R+c*1000000000 ^ (i+k)=tQ O+A[i]*tQ (B.take k)*1000000000 ^ i∧H'=H++[.cells (us R)]) (B.length+1) ?_ ?_
   ·intro _;exact⟨0,0,O,by omega,rfl,rfl,rfl,i8,hO,by omega,by omega,by simp[tQ],rfl⟩
   ·rintro q t7 t8 H' ⟨k,c,R,hk,rfl,rfl,rfl,iN,hR,hc,nS,hr,rfl⟩ lW iF om Kb2 gv;have lU:IntKind.i64.wrap ((i:Int)+k)=((i+k:Nat):Int):=by rw[um (by omega) (by omega)];omega
    have fC:∀ s:Nat,s<1000000000*1000000000→(jv:i+k<R.length)→k≤B.length→s=c+R[i+k]+A[i]*(if h:k<B.length then B[k] else 0) →
      If (.sl (tX A) .none) (.sl (tX B) .none) (.ms H.length 0 (A.length+B.length+1) (A.length+B.length+1)) (I6 i) (.int .u64 s) (I6 k) (H++[.cells (us R)]) (Out H.length K) Kb Kb2:=by
     intro s f9 jv hkB gn;obtain⟨x,c',gG,gf,gL,e1,e2⟩:=AA s (by omega);have fT:i+k<A.length+B.length+1:=by omega
     have fW:=PL R (i+k) x jv;simp only[If];simp[lU,e1,e2,gL,wi k (by omega),fT];have eT:((i:Int)+k).toNat=i+k:=by omega
     rw[eT];refine⟨⟨by omega,by omega⟩,by omega,?_⟩;have hset':List.take (i+k) (us R)++AV.int .u32 (x:Int)::List.drop (i+k+1) (us R)=us (R.set (i+k) x):=by rw[←fW];simp
     rw[hset'];have gJ:tQ (B.take (k+1))=tQ (B.take k)+(if h:k<B.length then B[k] else 0)*1000000000 ^ k:=by
      by_cases h:k<B.length
      ·rw[fb h,wH B k h]
      ·rw[eK h,am (by omega),am (by omega)];simp
     have oR:=IK R (i+k) x jv;have ji:tQ (R.set (i+k) x)+c'*1000000000 ^ (i+(k+1))=tQ O+A[i]*tQ (B.take (k+1))*1000000000 ^ i:=by rw[gJ,show i+(k+1)=i+k+1 by omega,Nat.pow_succ];rw[Nat.pow_add]at hr oR ⊢;rw[gn]at gf;clear fW hset' e1 e2 gL gn gJ fB gv fG lW fM om mh hK hs;generalize (if h:k<B.length then B[k] else 0)=b at *;generalize tQ (R.set (i+k) x)=vS at *;generalize R[i+k]=r at *;generalize A[i]=a at *;generalize tQ (List.take k B)=T at *;generalize 1000000000 ^ i=P at *;generalize 1000000000 ^ k=Q at *;generalize tQ R=vR at *;generalize tQ O=vO at *;grind
     have gM:c'<1000000000:=by refine cE λh=>?_;have:=bf 1000000000 h;omega
     refine gv _ _ ⟨B.length+1-(k+1),by omega,Back.here (by simp) (hsc _) (by simp[Ie,ux,AV.sc,AV.ZH,AV.ZI,AV.ZJ]) ⟨_,_,rfl,k+1,c',R.set (i+k) x,by omega,rfl,by simp,rfl,by simp[iN],?_,gM,?_,ji,rfl⟩⟩
     ·intro y hy;rcases cj hy with hy | rfl
      ·exact hR y hy
      ·exact gG
     ·intro jV;obtain rfl:k=B.length:=by omega
      have mW:tQ O+A[i]*tQ (B.take (B.length+1))*1000000000 ^ i=tQ (A.take (i+1))*tQ B:=by rw[List.take_of_length_le (by omega),wH A i fy,hv];grind
      rw[mW]at ji;have kv:=wr (A.take (i+1)) (λy hy=>lA y (bq hy));rw[a7,bo (by omega)]at kv;have hp:=eO kv mh;rw[←dU]at hp;refine cg λjb=>?_;have h3:1*1000000000 ^ (i+(B.length+1))≤c'*1000000000 ^ (i+(B.length+1)):=aD _ jb;rw[show i+1+B.length=i+(B.length+1) by omega]at hp;omega
    by_cases lk:k<B.length
    ·have jv:i+k<R.length:=by omega
     have jP:=lB B[k] (ae lk);have kq:=hR R[i+k] (ae jv);have eT:((i:Int)+k).toNat=i+k:=by omega
     have w1:IntKind.u64.wrap ((R[i+k]:Nat):Int)=R[i+k]:=uE (by omega);have w2:IntKind.u64.wrap ((A[i]:Nat):Int)=A[i]:=uE (by omega);have w3:IntKind.u64.wrap ((B[k]:Nat):Int)=B[k]:=uE (by omega);have kC:A[i]*B[k]≤999999999*999999999:=aZ (by omega) (by omega);obtain⟨m,hm⟩:∃m,m=A[i]*B[k]:=⟨_,rfl⟩;have w4:IntKind.u64.wrap (((A[i]:Nat):Int)*(B[k]:Nat))=(m:Int):=by rw[hm,←Int.natCast_mul];exact uE (by omega)
     obtain⟨s1,f9⟩:∃s,s=c+R[i+k]:=⟨_,rfl⟩;have w5:IntKind.u64.wrap ((c:Int)+(R[i+k]:Nat))=(s1:Int):=by rw[f9,←Int.natCast_add];exact uE (by omega)
     obtain⟨s2,gn⟩:∃s,s=s1+m:=⟨_,rfl⟩;have w6:IntKind.u64.wrap ((s1:Int)+(m:Int))=(s2:Int):=by rw[gn,←Int.natCast_add];exact uE (by omega)
     have:=fC s2 (by omega) jv (by omega) (by rw[gn,f9,hm,fb lk]);simp[Ig,lk,lU,eT,w2,w3,w4];refine⟨⟨by omega,by omega⟩,?_⟩;rw[EW R _ jv];simp[w1,w2,w3,w4,w5,w6,fy,lk];exact this
    ·by_cases h0:c=0
     ·subst h0;simp[Ig,lk,wi i (by omega)];refine fB _ _ ⟨A.length-(i+1),by omega,Back.here (by simp) (hsc _) (by simp[Id,ux,AV.sc,AV.ZH,AV.ZI,AV.ZJ]) ⟨_,rfl,i+1,R,by omega,rfl,rfl,iN,hR,?_,rfl⟩⟩;rw[List.take_of_length_le (by omega)]at hr;rw[wH A i fy];rw[hv]at hr;grind
     ·have nO:k=B.length:=by refine Nat.le_antisymm (dA λh=>h0 (nS h)) (by omega)
      have jv:i+k<R.length:=by omega
      have kq:=hR R[i+k] (ae jv);have eT:((i:Int)+k).toNat=i+k:=by omega
      have w1:IntKind.u64.wrap ((R[i+k]:Nat):Int)=R[i+k]:=uE (by omega);obtain⟨s1,f9⟩:∃s,s=c+R[i+k]:=⟨_,rfl⟩;have w5:IntKind.u64.wrap ((c:Int)+(R[i+k]:Nat))=(s1:Int):=by rw[f9,←Int.natCast_add];exact uE (by omega)
      have:=fC s1 (by omega) jv (by omega) (by rw[f9,eK lk];omega);simp[Ig,lk,lU,eT,show 0<c by omega];refine⟨⟨by omega,by omega⟩,?_⟩;rw[EW R _ jv];simp[w1,w5];exact this
  ·obtain rfl:i=A.length:=by omega
   rw[az]at hv;simp[Pu];rw[←i8];refine IN O hO (by omega) (by simp) ?_;rw[hv];simp;exact Out.one hs (.atom (.sl _ _)) rfl rfl hK
def Xs(L:List Nat)(hL:L.length≤1000000)(H:or)(K:Kt)(hK:K (.sl (tX (vX L)) .none) H):
  ge tP 158 [.sl (tX L) .none] H K:=by
 refine ge.out (zUH λhs=>?_);simp[V8];refine zUF (Inv:=λq t3 H'=>∃n:Nat,n≤L.length∧n=q∧t3=I6 n∧H'=H∧vX L=vX (L.take n)) L.length ?_ ?_
 ·intro _;exact⟨L.length,by omega,rfl,by simp,rfl,by simp⟩
 ·rintro q t3 H' ⟨n,hn,rfl,rfl,rfl,fN⟩ fG fz fM Kb fB;have ii:∀ (l:List Nat),l=vX L→Out (List.length H') K (AV.sl (tX l) .none) H':=λl hl=>Out.one0 hs (.atom (.sl _ _)) rfl rfl (by rw[hl];exact hK);by_cases h0:n=0
  ·subst h0;simp[HJ];exact⟨yJ L,ii [] (by simpa[vX]using fN.symm)⟩
  ·have hw:IntKind.i64.wrap ((n:Int)-1)=((n-1:Nat):Int):=by rw[um (by omega) (by omega)];omega
   have fy:n-1<L.length:=by omega
   by_cases hz:L[n-1]=0
   ·simp[HJ,show 0<n by omega,hw,fy,hz];exact fB _ _ ⟨n-1,by omega,Back.here (by simp) hs (by simp[HI,AV.sc,AV.ZH,AV.ZI,AV.ZJ]) ⟨_,rfl,n-1,by omega,rfl,rfl,rfl,by rw[fN,Xg (by omega) hn hz]⟩⟩
   ·have qS:(((L[n-1]:Nat):Int) == 0)=false:=by simp;omega
    simp[HJ,show 0<n by omega,hw,fy,qS];refine⟨⟨hn,yJ L⟩,?_⟩;rw[Xf];exact ii _ (by rw[fN,Xh (by omega) hn hz])
def PM(n:Nat)(hn:n<18446744073709551616)(H:or)(K:Kt)(hK:K (.sl (tX (lim n)) .none) H):
  ge tP 152 [.int .u64 n] H K:=by
 refine ge.out (zUd λhs=>?_);unfold V2 HC;refine tM.own 3 88 1 rfl ?_;show HC (.int .u64 n) (.sl [] (.own H.length)) (H++[.perm 88 1 0]) (Out H.length K);refine zUb (Inv:=λq t0 t3 H'=>∃ (m:Nat) (A:List Nat),m=q∧t0=.int .u64 m∧t3=.sl (tX A) (.own H.length)∧lim n=A++lim m∧m<18446744073709551616 ∧
  H'=H++[.perm 88 1 A.length]) n ?_ ?_
 ·intro _;exact⟨n,[],rfl,rfl,rfl,by simp,hn,rfl⟩
 ·rintro q t0 t3 H' ⟨m,A,rfl,rfl,rfl,hA,hm,rfl⟩ fG fz fM Kb fB;by_cases h0:m=0
  ·subst h0;simp[Pi];exact Out.one hs (.atom (.sl _ _)) rfl rfl (by simpa[hA]using hK)
  ·have hlA:A.length+1≤1000:=by have h1:=congrArg List.length hA;have h2:=wx (n:=n) (k:=3) (by omega);rw[xK h0]at h1;simp at h1;omega
   obtain⟨x,c,gG,gf,gL,e1,e2⟩:=AA m hm;simp only[Pi];simp[show 0<m by omega,e1,e2,gL,uk,uI,plain,AV.pd,uj,uD,uy];refine⟨⟨by omega,by omega⟩,?_⟩;rw[sN];refine fB _ _ ⟨c,by omega,Back.here (by simp) (hs.append (by simp[AB.sc])) (by simp[HA,ux,AV.sc,AV.ZH,AV.ZI,AV.ZJ]) ⟨_,_,rfl,c,A++[x],rfl,rfl,rfl,?_,by omega,by simp⟩⟩;rw[hA,xK h0,show m % 1000000000=x by omega,show m / 1000000000=c by omega];simp
def ge.frzV1{P:Program}{H:or}{f:FuncId}{K:Kt}(id e size n:Nat)(cs:List AV)(es:List (List AV))(hH:H[id]?=some (.vec e size n cs))(hp:plain cs=some es.flatten)(fz:es.length=n)(fP:∀c∈es,c.length=size)(h:ge P f [.sl es .none] (H.set id .dead) K):ge P f [.ov id n] H K:=by
 intro B w G vs hR hv;obtain⟨G',hE,oh,hd⟩:=hR.frzV hH hp fz fP;refine(h B w G' vs oh ?_).mono λe w' ⟨v,r,H',G'',k1,k2,k3,k4,k5⟩=>⟨v,r,H',G'',k1,hE.trans k2,k3,k4,k5⟩;generalize vs.toList=l at *
 match l,hv with
 |[v],⟨h1,_⟩=>exact⟨hd v h1,trivial⟩
def Xt(L:List Nat)(hL:∀ x∈L,x<1000000000)(hl:L.length≤100000){id:Nat}{H:or}{K:Kt}(fA:H[id]?=some (.vec 88 1 L.length (us L)))(hK:K (.sl (tX (lim (tQ L))) .none) (H.set id .dead)):
  ge tP 158 [.ov id L.length] H K:=by
 refine ge.frzV1 id 88 1 L.length (us L) (tX L) fA (by rw[IM,EV]) (by simp) (yJ L) ?_;refine Xs L (by omega) _ _ ?_;rw[zQ L hL];exact hK
def IP(L:List Nat)(hL:∀ x∈L,x<1000000000)(hl:L.length≤100000){id:Nat}{H:or}{K:Kt}(fA:H[id]?=some (.cells (us L)))(hK:K (.sl (tX (lim (tQ L))) .none) (H.set id .dead)):
  ge tP 158 [.ms id 0 L.length L.length] H K:=by
 refine ge.frz id 0 L.length L.length 1 (us L) (tX L) fA (by simp) ?_ (by simp) (yJ L) (af _) (args':=[.sl (tX L) .none]) ⟨.one .ms,trivial⟩ ?_
 ·rw[bA,am (by simp),IM,EV]
 ·refine Xs L (by omega) _ _ ?_;rw[zQ L hL];exact hK
def Xu(L:List Nat)(oT:∀ x∈L,x<4294967296)(hL:L.length≤50000)(H:or)(K:Kt)(hK:K (.sl (tX (lim (tQ L))) .none) H):
  ge tP 157 [.sl (tX L) .none] H K:=by
 refine ge.out (zUB λhs=>?_);have hsc:∀A:List Nat,HSc (H++[.vec 88 1 A.length (us A)]):=λA=>hs.append (by simp[AB.sc,us,AV.ZH,AV.ZI]);simp[V5,wi L.length (by omega)];refine⟨⟨by omega,by omega,by omega⟩,?_⟩;have lp:∀A:List Nat,(∀x∈A,x<1000000000)→tQ A=tQ L→A.length≤100000→HF (.ov H.length A.length) (H++[.vec 88 1 A.length (us A)]) (Out H.length K):=by intro A hA he hl;unfold HF;refine Xt A hA hl (by simp) ?_;rw[he];simp;exact Out.one hs (.atom (.sl _ _)) rfl rfl hK
 refine zUz (Inv:=λq t3 t4 t13 H'=>∃ (i c:Nat) (A:List Nat),i≤L.length∧L.length-i=q∧t13=I6 i∧t4=.int .u64 c∧t3=.ov H.length A.length∧A.length=i∧(∀ x∈A,x<1000000000)∧c≤5 ∧
  tQ A+1000000000 ^ i*c=tQ (L.take i)∧H'=H++[.vec 88 1 A.length (us A)]) L.length ?_ ?_
 ·intro _;exact⟨0,0,[],by omega,rfl,rfl,rfl,rfl,rfl,by simp,by omega,by simp[tQ],rfl⟩
 ·rintro q t3 t4 t13 H' ⟨i,c,A,hi,rfl,rfl,rfl,rfl,kv,hA,hc,hv,rfl⟩ fG fz fM Kb fB;by_cases fy:i<L.length
  ·have hx:=oT L[i] (ae fy);have w1:IntKind.u64.wrap ((L[i]:Nat):Int)=L[i]:=uE (by omega);obtain⟨s,f9⟩:∃ s,s=L[i]+c:=⟨_,rfl⟩;have w2:IntKind.u64.wrap (((L[i]:Nat):Int)+(c:Int))=(s:Int):=by rw[f9,←Int.natCast_add];exact uE (by omega)
   obtain⟨x,c',gG,gf,gL,e1,e2⟩:=AA s (by omega);simp only[HG];simp[fy,w1,w2,e1,e2,gL,uk,uI,plain,AV.pd,uj,uD,uy,wi i (by omega)];refine⟨⟨by omega,by omega⟩,?_⟩;have e3:us A++[AV.int .u32 (x:Int)]=us (A++[x]):=by simp[us]
   rw[e3];refine fB _ _ ⟨L.length-(i+1),by omega,Back.here (by simp) (by simpa using hsc (A++[x])) (by simp[HE,ux,AV.sc,AV.ZH,AV.ZI,AV.ZJ]) ⟨_,_,_,rfl,i+1,c',A++[x],by omega,rfl,rfl,rfl,by simp,by simp[kv],?_,by omega,?_,by simp⟩⟩
   ·intro y hy;rcases bg.1 hy with hy | hy
    ·exact hA y hy
    ·simp at hy;omega
   ·rw[zm,wH L i fy,←hv,kv,Nat.pow_succ];grind
  ·obtain rfl:i=L.length:=by omega
   rw[az]at hv;by_cases h0:c=0
   ·subst h0;simp[HG];exact lp A hA (by simpa using hv) (by omega)
   ·simp only[HG];simp[show 0<c by omega,v8 (show c<4294967296 by omega),uk,uI,plain,AV.pd,uj,uD,uy];refine⟨⟨by omega,by omega⟩,?_⟩;have e3:us A++[AV.int .u32 (c:Int)]=us (A++[c]):=by simp[us]
    rw[e3];have:=lp (A++[c]) (λy hy=>by
     rcases bg.1 hy with hy|hy
     ·exact hA y hy
     ·simp at hy;omega) (by rw[zm,kv];exact hv) (by simp;omega)
    simpa using this
def Bo(O:List Nat)(i x:Nat)(h:i<O.length):List.take i (us O)++AV.int .u32 (x:Int)::List.drop (i+1) (us O)=us (O.set i x):=by rw[←PL O i x h];simp
def zn{O:List Nat}(hO:∀x∈O,x<1000000000){i x:Nat}(hx:x<1000000000):∀y∈O.set i x,y<1000000000:=by
 intro y hy;rcases cj hy with hy|rfl
 ·exact hO y hy
 ·exact hx
def zMs{O:List Nat}{j:Nat}(h:tQ O<1000000000 ^ j):O.getD j 0=0:=by
 by_cases hj:j<O.length
 ·have e:tQ O=tQ (O.take j)+1000000000 ^ j*(O[j]+1000000000*tQ (O.drop (j+1))):=by
   conv=>lhs;rw[←aJ j O,yq,ai hj,tQ]
   rw[a7,bo (by omega)]
  rw[aq,aw hj,Option.getD_some];refine cg λhp=>?_;have h2:1000000000 ^ j*1≤1000000000 ^ j*(O[j]+1000000000*tQ (O.drop (j+1))):=bf _ (by omega);omega
 ·simp[aq,show O.length≤j by omega]
def zMB(A B:List Nat)(lA:∀ x∈A,x<1000000000)(lB:∀ x∈B,x<1000000000)(ha:A.length≤1000)(hb:B.length≤1000)(H:or)(K:Kt)(hK:K (.sl (tX (lim (tQ A*tQ B))) .none) H):
  ge tP 121 [.sl (tX A) .none,.sl (tX B) .none] H K:=by
 refine ge.out (zRT λhs=>?_);by_cases oU:A=[]
 ·subst oU;simp[Hv,tQ]at hK ⊢;exact Out.one0 hs (.atom .ZG) rfl rfl (by simpa[tX]using hK)
 by_cases qn:B=[]
 ·subst qn;have sR:((A.length:Int) == 0)=false:=by have:A.length≠0:=λh=>oU (aO h);generalize A.length=q at this;simp;omega
  simp[Hv,tQ,sR,oU]at hK ⊢;exact Out.one0 hs (.atom .ZG) rfl rfl (by simpa[tX]using hK)
 have hAl0:A.length≠0:=λh=>oU (aO h);have hBl0:B.length≠0:=λh=>qn (aO h);have sR:((A.length:Int) == 0)=false:=by generalize A.length=q at hAl0;simp;omega
 have hBb:((B.length:Int) == 0)=false:=by generalize B.length=q at hBl0;simp;omega
 have hw:IntKind.i64.wrap ((A.length:Int)+B.length)=((A.length+B.length:Nat):Int):=by rw[um (by omega) (by omega)];omega
 simp[Hv,sR,hBb,oU,qn,hw,vo];have hN:((A.length:Int)+B.length).toNat=A.length+B.length:=by omega
 rw[hN,AC];refine⟨⟨by omega,by omega,by omega⟩,?_⟩;have hsc:∀O:List Nat,HSc (H++[.cells (us O)]):=λO=>hs.append (by simp[AB.sc,us,AV.ZH,AV.ZI]);have mh:=wr B lB;refine zRQ (Inv:=λq t26 H'=>∃(i:Nat) (O:List Nat),i≤A.length∧A.length-i=q∧t26=I6 i∧O.length=A.length+B.length∧(∀x∈O,x<1000000000)∧tQ O=tQ (A.take i)*tQ B∧H'=H++[.cells (us O)]) A.length ?_ ?_
 ·intro _;exact⟨0,_,by omega,rfl,rfl,by simp,by simp,by rw[Xa];simp[tQ],rfl⟩
 ·rintro q t26 H' ⟨i,O,hi,rfl,rfl,i8,hO,hv,rfl⟩ fG fz fM Kb fB;by_cases fy:i<A.length
  ·have mA:=lA A[i] (ae fy);have kv:=wr (A.take i) (λy hy=>lA y (bq hy));rw[a7,bo (by omega)]at kv;have oV:O.getD (i+B.length) 0=0:=by refine zMs ?_;rw[hv,dU];exact eO kv mh
   simp[Pg,fy];refine zRR (Inv:=λq t7 t31 H'=>∃ (k c:Nat) (R:List Nat),k≤B.length∧B.length-k=q∧t31=I6 k∧t7=.int .u64 c∧R.length=A.length+B.length∧(∀ x∈R,x<1000000000)∧c<1000000000∧R.getD (i+B.length) 0=0 ∧
    tQ R+c*1000000000 ^ (i+k)=tQ O+A[i]*tQ (B.take k)*1000000000 ^ i∧H'=H++[.cells (us R)]) B.length ?_ ?_
   ·intro _;exact⟨0,0,O,by omega,rfl,rfl,rfl,i8,hO,by omega,oV,by simp[tQ],rfl⟩
   ·rintro q t7 t31 H' ⟨k,c,R,hk,rfl,rfl,rfl,iN,hR,hc,rR,hr,rfl⟩ lW iF om Kb2 gv;by_cases lk:k<B.length
    ·have lU:IntKind.i64.wrap ((i:Int)+k)=((i+k:Nat):Int):=by rw[um (by omega) (by omega)];omega
     have jv:i+k<R.length:=by omega
     have jP:=lB B[k] (ae lk);have kq:=hR R[i+k] (ae jv);have eT:((i:Int)+k).toNat=i+k:=by omega
     have w1:IntKind.u64.wrap ((R[i+k]:Nat):Int)=R[i+k]:=uE (by omega);have w2:IntKind.u64.wrap ((A[i]:Nat):Int)=A[i]:=uE (by omega);have w3:IntKind.u64.wrap ((B[k]:Nat):Int)=B[k]:=uE (by omega);have kC:A[i]*B[k]≤999999999*999999999:=aZ (by omega) (by omega);obtain⟨m,hm⟩:∃m,m=A[i]*B[k]:=⟨_,rfl⟩;have w4:IntKind.u64.wrap (((A[i]:Nat):Int)*(B[k]:Nat))=(m:Int):=by rw[hm,←Int.natCast_mul];exact uE (by omega)
     obtain⟨s1,f9⟩:∃s,s=m+R[i+k]:=⟨_,rfl⟩;have w5:IntKind.u64.wrap ((m:Int)+(R[i+k]:Nat))=(s1:Int):=by rw[f9,←Int.natCast_add];exact uE (by omega)
     obtain⟨s,gn⟩:∃s,s=s1+c:=⟨_,rfl⟩;have w6:IntKind.u64.wrap ((s1:Int)+(c:Int))=(s:Int):=by rw[gn,←Int.natCast_add];exact uE (by omega)
     obtain⟨x,c',gG,gf,gL,e1,e2⟩:=AA s (by omega);have gb:Kb2 (ED (.sl (tX A) .none) (.sl (tX B) .none) (.ms H.length 0 (A.length+B.length) (A.length+B.length)) (I6 i) (.int .u64 c') (I6 A.length) (I6 i) (I6 B.length) (I6 ((k:Int)+1))) (H++[.cells (us (R.set (i+k) x))]):=by
      have oR:=IK R (i+k) x jv;have gJ:=wH B k lk;refine gv _ _ ⟨B.length-(k+1),by omega,Back.here (by simp) (hsc _) (by simp[ED,ux,AV.sc,AV.ZH,AV.ZI,AV.ZJ]) ⟨_,_,rfl,k+1,c',R.set (i+k) x,by omega,rfl,by simp,rfl,by simp[iN],zn hR gG,?_,?_,?_,rfl⟩⟩
      ·refine cE λh=>?_;have:=bf 1000000000 h;omega
      ·rw[aq,aj (by omega),←aq];exact rR
      ·rw[gJ,show i+(k+1)=i+k+1 by omega,Nat.pow_succ];rw[Nat.pow_add]at hr oR ⊢;rw[gn,f9,hm]at gf;clear e1 e2 gL fB gv fG lW fM om mh hK hs rR oV w1 w2 w3 w4 w5 w6;generalize tQ (R.set (i+k) x)=vS at *;generalize R[i+k]=r at *;generalize A[i]=a at *;generalize B[k]=b at *;generalize tQ (List.take k B)=T at *;generalize 1000000000 ^ i=P at *;generalize 1000000000 ^ k=Q at *;generalize tQ R=vR at *;generalize tQ O=vO at *;grind
     simp only[Pf];simp[lk,fy,lU,eT,w1,w2,w3,w4];refine⟨⟨by omega,by omega⟩,?_⟩;rw[EW R _ jv];simp[w1,w5,w6,e1,e2,gL,lU,eT,wi k (by omega),Bo R (i+k) x jv];exact⟨⟨by omega,by omega⟩,by omega,gb⟩
    ·obtain rfl:k=B.length:=by omega
     have sS:IntKind.i64.wrap ((i:Int)+B.length)=((i+B.length:Nat):Int):=by rw[um (by omega) (by omega)];omega
     have eT:((i:Int)+B.length).toNat=i+B.length:=by omega
     have jv:i+B.length<R.length:=by omega
     have oR:=IK R (i+B.length) c jv;rw[List.getD_eq_getElem?_getD,List.getElem?_eq_getElem jv,Option.getD_some]at rR;rw[rR]at oR;simp only[Pf];simp[sS,eT,v8 (show c<4294967296 by omega),wi i (by omega),Bo R (i+B.length) c jv];refine⟨⟨by omega,fy⟩,by omega,?_⟩;refine fB _ _ ⟨A.length-(i+1),by omega,Back.here (by simp) (hsc _) (by simp[Hu,ux,AV.sc,AV.ZH,AV.ZI,AV.ZJ]) ⟨_,rfl,i+1,R.set (i+B.length) c,by omega,rfl,rfl,by simp[iN],zn hR hc,?_,rfl⟩⟩;rw[List.take_of_length_le (Nat.le_refl _)]at hr;rw[wH A i fy];rw[hv]at hr;clear fB gv fG lW fM om mh hK hs oV hsc;grind
  ·obtain rfl:i=A.length:=by omega
   rw[az]at hv;simp[Pg];rw[←i8];refine IP O hO (by omega) (by simp) ?_;rw[hv];simp;exact Out.one hs (.atom (.sl _ _)) rfl rfl hK
def IQ(O:List Nat)(i x:Nat)(h:i<O.length):List.take i (us O)++AV.int .u32 (x:Int)::List.drop (i+1) (us O)=us (O.set i x):=by rw[←PL O i x h];simp
def PN{O:List Nat}(hO:∀x∈O,x<1000000000){i x:Nat}(hx:x<1000000000):∀y∈O.set i x,y<1000000000:=by
 intro y hy;rcases cj hy with hy|rfl
 ·exact hO y hy
 ·exact hx
def zQB(A B:List Nat)(lA:∀ x∈A,x<1000000000)(lB:∀ x∈B,x<1000000000)(ha:A.length≤1000)(hb:B.length≤A.length)(fS:tQ B≤tQ A)(H:or)(K:Kt)(hK:K (.sl (tX (lim (tQ A-tQ B))) .none) H):
  ge tP 106 [.sl (tX A) .none,.sl (tX B) .none] H K:=by
 refine ge.out (zQz λhs=>?_);simp[WS,vo];rw[AC];refine⟨⟨by omega,by omega⟩,?_⟩;have hsc:∀O:List Nat,HSc (H++[.cells (us O)]):=λO=>hs.append (by simp[AB.sc,us,AV.ZH,AV.ZI]);have tk:∀i,tQ (B.take (i+1))=tQ (B.take i)+(if h:i<B.length then B[i] else 0)*1000000000 ^ i:=by
  intro i;by_cases h:i<B.length
  ·rw[fb h,wH B i h]
  ·rw[eK h,am (by omega),am (by omega)];simp
 refine zQx (Inv:=λq t6 t7 H'=>∃ (i w:Nat) (O:List Nat),i≤A.length∧A.length-i=q∧t7=I6 i∧t6=.int .u32 w∧w≤1∧O.length=A.length∧(∀ x∈O,x<1000000000) ∧
  tQ (O.take i)+tQ (B.take i)=tQ (A.take i)+w*1000000000 ^ i∧H'=H++[.cells (us O)]) A.length ?_ ?_
 ·intro _;exact⟨0,0,_,by omega,rfl,rfl,rfl,by omega,by simp,by simp,by simp[tQ],rfl⟩
 ·rintro q t6 t7 H' ⟨i,w,O,hi,rfl,rfl,rfl,hw,i8,hO,hv,rfl⟩ fG fz fM Kb fB;by_cases fy:i<A.length
  ·have mA:=lA A[i] (ae fy);have oo:i<O.length:=by omega
   have fC:∀ s:Nat,s≤1000000000→s=w+(if h:i<B.length then B[i] else 0) →
     EM (.sl (tX A) .none) (.sl (tX B) .none) (.ms H.length 0 A.length A.length) (I6 i) (.int .u32 s) (H++[.cells (us O)]) (Out H.length K) Kb:=by
    intro s f9 gn;have hpw:1000000000 ^ (i+1)=1000000000 ^ i*1000000000:=Nat.pow_succ ..;have fin:∀ (x w':Nat),x<1000000000→w'≤1→x+s=A[i]+w'*1000000000 →
      Kb (EL (.sl (tX A) .none) (.sl (tX B) .none) (.ms H.length 0 A.length A.length) (.int .u32 w') (I6 ((i:Int)+1))) (H++[.cells (us (O.set i x))]):=by
     intro x w' hx pn he;refine fB _ _ ⟨A.length-(i+1),by omega,Back.here (by simp) (hsc _) (by simp[EL,ux,AV.sc,AV.ZH,AV.ZI,AV.ZJ]) ⟨_,_,rfl,i+1,w',O.set i x,by omega,rfl,by simp,rfl,pn,by simp[i8],PN hO hx,?_,rfl⟩⟩;rw[wH (O.set i x) i (by simpa using oo),tk i,wH A i fy,List.take_set_of_le (Nat.le_refl _),List.getElem_set_self,hpw];generalize (if h:i<B.length then B[i] else 0)=b at *;grind
    by_cases gW:s≤A[i]
    ·have w1:IntKind.u32.wrap (((A[i]:Nat):Int)-(s:Int))=((A[i]-s:Nat):Int):=by rw[←Int.natCast_sub gW];exact v8 (by omega)
     obtain⟨x,hx⟩:∃x,x=A[i]-s:=⟨_,rfl⟩;rw[←hx]at w1;have:=fin x 0 (by omega) (by omega) (by omega);simp only[EM,Ip,Pv];simp[fy,gW,w1,wi i (by omega),IQ O i x oo,i8];exact⟨by omega,by simpa using this⟩
    ·have w1:IntKind.u32.wrap (((A[i]:Nat):Int)+1000000000)=((A[i]+1000000000:Nat):Int):=by rw[show ((A[i]:Nat):Int)+1000000000=((A[i]+1000000000:Nat):Int) by omega];exact v8 (by omega)
     obtain⟨x,hx⟩:∃x,x=A[i]+1000000000-s:=⟨_,rfl⟩;have w2:IntKind.u32.wrap (((A[i]:Nat):Int)+1000000000-(s:Int))=(x:Int):=by rw[show ((A[i]:Nat):Int)+1000000000-(s:Int)=(x:Int) by omega];exact v8 (by omega)
     have:=fin x 1 (by omega) (by omega) (by omega);simp only[EM,Ip,Pv];simp[fy,gW,w1,w2,wi i (by omega),IQ O i x oo,i8];exact⟨by omega,by simpa using this⟩
   by_cases hB:i<B.length
   ·have jP:=lB B[i] (ae hB);obtain⟨s,f9⟩:∃ s,s=w+B[i]:=⟨_,rfl⟩;have w1:IntKind.u32.wrap ((w:Int)+(B[i]:Nat))=(s:Int):=by rw[f9,←Int.natCast_add];exact v8 (by omega)
    have:=fC s (by omega) (by rw[f9,fb hB]);simp[Iq,fy,hB,w1];exact this
   ·have:=fC w (by omega) (by rw[eK hB];rfl);simp[Iq,fy,hB];exact this
  ·obtain rfl:i=A.length:=by omega
   rw[az,am (by omega),am (by omega)]at hv;have hOlt:=wr O hO;rw[i8]at hOlt;have rI:w=0:=by
    refine cg λh=>?_;have:w=1:=by omega
    subst this;omega
   subst rI;simp[Iq];rw[←i8];refine IN O hO (by omega) (by simp) ?_;rw[show tQ O=tQ A-tQ B by omega];simp;exact Out.one hs (.atom (.sl _ _)) rfl rfl hK
def zT5(A:List Nat)(lA:∀ x∈A,x<1000000000)(ha:A.length≤1000)(d:Nat)(jX:0<d)(hd:d<4294967296)(hdB:d≤1000000000)(H:or)(K:Kt)(hK:K (.tup [.sl (tX (lim (tQ A / d))) .none,.int .u64 ((tQ A % d:Nat):Int)]) H):
  ge tP 150 [.sl (tX A) .none,.int .u64 d] H K:=by
 refine ge.out (zT3 λhs=>?_);have fN:IntKind.i64.wrap ((A.length:Int)-1)=(A.length:Int)-1:=um (by omega) (by omega);simp[W4,vo,fN];rw[AC];refine⟨⟨by omega,by omega⟩,?_⟩;have hsc:∀ O:List Nat,HSc (H++[.cells (us O)]):=λO=>hs.append (by simp[AB.sc,us,AV.ZH,AV.ZI]);refine zT1 (Inv:=λq t7 t8 H'=>∃ (i r:Nat) (O:List Nat),i≤A.length∧i=q∧t8=I6 ((i:Int)-1)∧t7=.int .u64 r∧r<d∧O.length=A.length∧(∀ x∈O,x<1000000000) ∧
  tQ (A.drop i)=d*tQ (O.drop i)+r∧H'=H++[.cells (us O)]) A.length ?_ ?_
 ·intro _;exact⟨A.length,0,_,by omega,rfl,rfl,rfl,by omega,by simp,by simp,by simp[tQ],rfl⟩
 ·rintro q t7 t8 H' ⟨i,r,O,hi,rfl,rfl,rfl,hr,i8,hO,hv,rfl⟩ fG fz fM Kb fB;by_cases h0:i=0
  ·subst h0;simp[Px];rw[bA,bA]at hv;rw[←i8];refine IN O hO (by omega) (by simp) ?_;have e1:tQ A / d=tQ O:=by rw[hv,ei jX,bB hr];simp
   have e2:tQ A % d=r:=by rw[hv,eh,bC hr]
   rw[e1,e2]at hK;simp;exact⟨⟨rfl,rfl⟩,Out.tup (bs:=[.sl (tX (lim (tQ O))) .none,.int .u64 (r:Int)]) hs hK ⟨slV,uJ rfl rfl,trivial⟩⟩
  ·obtain⟨j,rfl⟩:∃ j,i=j+1:=⟨i-1,by omega⟩;have kj:j<A.length:=by omega
   have qW:j<O.length:=by omega
   have mA:=lA A[j] (ae kj);have ej:((j+1:Nat):Int)-1=(j:Int):=by omega
   have fC:IntKind.i64.wrap ((j:Int)-1)=(j:Int)-1:=um (by omega) (by omega);have pu:r*1000000000≤1000000000*1000000000:=aD _ (by omega);obtain⟨m,hm⟩:∃m,m=r*1000000000:=⟨_,rfl⟩;have w1:IntKind.u64.wrap ((r:Int)*1000000000)=(m:Int):=by rw[show (r:Int)*1000000000=(m:Int) by omega];exact uE (by omega)
   have w2:IntKind.u64.wrap ((A[j]:Nat):Int)=A[j]:=uE (by omega);obtain⟨s,f9⟩:∃s,s=m+A[j]:=⟨_,rfl⟩;have w3:IntKind.u64.wrap ((m:Int)+(A[j]:Nat))=(s:Int):=by rw[f9,←Int.natCast_add];exact uE (by omega)
   obtain⟨x,c,gG,gf,e1,e2⟩:=CV s d jX (by omega);have sT:c<1000000000:=by
    refine cE λh=>?_;have h1:d*1000000000≤d*c:=bf _ h;have h2:r*1000000000+1000000000≤d*1000000000:=by rw[←bD];exact aD _ hr
    omega
   have w4:IntKind.u32.wrap (c:Int)=c:=v8 (by omega);rw[ej];simp only[Px];simp[kj,w1,w2,w3,e1,e2,w4,fC,IQ O j c qW,i8];refine⟨by omega,fB _ _ ⟨j,by omega,Back.here (by simp) (hsc _) (by simp[ID,ux,AV.sc,AV.ZH,AV.ZI,AV.ZJ]) ⟨_,_,rfl,j,x,O.set j c,by omega,rfl,rfl,rfl,gG,by simp[i8],PN hO sT,?_,rfl⟩⟩⟩;rw[yH A j kj,yH (O.set j c) j (by simpa using qW),List.getElem_set_self,List.drop_set_of_lt (by omega),hv];rw[f9,hm]at gf;generalize tQ (O.drop (j+1))=Z at *;grind
def zQY(a b:Nat)(ha:(lim a).length≤1000)(gk:0<b)(hb:b<1000000000)(H:or)(K:Kt)(hK:K (.tup [.sl (tX (lim (a / b))) .none,.sl (tX (lim (a % b))) .none]) H):
  ge tP 109 [.sl (tX (lim a)) .none,.sl (tX (lim b)) .none] H K:=by
 refine ge.out (PB λhs=>?_);have iI:lim b=[b]:=ER (by omega) hb;simp only[IJ];refine Bn a b ha (by rw[iI];simp) _ _ ?_;have ki:(vI a b<0)↔a<b:=by
  unfold vI;split
  ·simp;assumption
  ·split <;> simp <;> omega
 by_cases fy:a<b
 ·simp[ki,fy];refine CX (lim a) (by omega) _ _ ?_;rw[zQ _ (uZ a),uN];rw[bB fy,bC fy,EP]at hK;refine⟨⟨rfl,rfl⟩,?_⟩;exact Out.tup0 (bs:=[.sl (tX []) .none,.sl (tX (lim a)) .none]) hs hK ⟨xd,slV,trivial⟩
 ·have w1:IntKind.u64.wrap (b:Int)=b:=uE (by omega);have hm:a % b<b:=ci _ gk;simp[ki,fy,iI,w1];refine zT5 (lim a) (uZ a) ha b gk (by omega) (by omega) _ _ ?_;rw[uN];simp;refine EU (a % b) (by omega) _ _ ?_;refine⟨⟨rfl,rfl⟩,?_⟩;exact Out.tup0 (bs:=[.sl (tX (lim (a / b))) .none,.sl (tX (lim (a % b))) .none]) hs hK ⟨slV,slV,trivial⟩
def ue(z:Int):List AV:=[.bool (decide (z<0)),.sl (tX (lim z.natAbs)) .none,.sl (tX [1]) .none]
def Sm(z:Int):Prop:=z.natAbs<1000000000 ^ 30
def Sm.len{z:Int}(h:Sm z):(lim z.natAbs).length≤30:=wx h
def xA:lim 1=[1]:=ER (by omega) (by omega)
def IR(n:Nat):∀x∈lim n,x<4294967296:=λx hx=>by have:=uZ n x hx;omega
@[simp] theorem yiP(z:Int):(ue z).length=3:=rfl
@[simp] theorem IS(z:Int):(ue z).all AV.ZP=true:=rfl
def EX(z:Int)(n:Nat):(ue z).all (AV.ZH n)=true:=rfl
def EY{H J:or}{K:Kt}{z:Int}(hs:HSc H)(hK:K (.agg (ue z)) H):Out H.length K (.agg (ue z)) (H++J):=Out.one hs .rfl' rfl rfl hK
def Xv(a b:Nat)(ha:a<1000000000 ^ 30)(hb:b<1000000000 ^ 30)(H:or)(K:Kt)(hK:K (.sl (tX (lim (a*b))) .none) H):ge tP 58 [.sl (tX (lim a)) .none,.sl (tX (lim b)) .none] H K:=by have h1:=wx ha;have h2:=wx hb;refine Xr (lim a) (lim b) (uZ a) (uZ b) (by omega) (by omega) _ _ ?_;rw[uN,uN];exact hK
def Xw:(1:Nat)<1000000000 ^ 30:=by decide
def zMx(a:Nat)(ha:a<1000000000 ^ 30)(H:or)(K:Kt)(hK:K (.sl (tX (lim a)) .none) H):ge tP 58 [.sl (tX (lim a)) .none,.sl (tX [1]) .none] H K:=by have:=Xv a 1 ha Xw H K (by rw[dX];exact hK);rwa [xA]at this
def zMw(a:Nat)(ha:a<1000000000 ^ 30)(H:or)(K:Kt)(hK:K (.sl (tX (lim a)) .none) H):ge tP 58 [.sl (tX [1]) .none,.sl (tX (lim a)) .none] H K:=by have:=Xv 1 a Xw ha H K (by rw[c9];exact hK);rwa [xA]at this
def Xx(L:List Nat)(hL:L.length≤100000)(H:or)(K:Kt)(hK:K (.bool (decide (L=[1]))) H):ge tP 197 [.sl (tX L) .none] H K:=by
 refine ge.out (zXl λhs=>?_);have hO:∀b,b=decide (L=[1])→Out H.length K (.bool b) H:=λb hb=>Out.bool (J:=[]) (by simp) (af _) hs (by rw[hb];exact hK)
 match L with
 |[]=>simp[HS];exact hO false (by simp)
 |[x]=>
  simp[HS,tX];refine hO _ ?_;by_cases h:x=1
  ·subst h;rfl
  ·have hb:((x:Int) == 1)=false:=by simp;omega
   rw[hb];simp[h]
 |x::y::l=>
  have hb:((l.length:Int)+1+1 == 1)=false:=by simp;omega
  simp[HS,hb];exact hO false (by simp)
def PO(n:Nat)(hn:n<9223372036854775808)(H:or)(K:Kt)(hK:K (.sl (tX (lim n)) .none) H):ge tP 113 [I6 n] H K:=by
 refine ge.out (zRn λhs=>?_);have w1:IntKind.u64.wrap (n:Int)=n:=uE (by omega);have h0:¬((n:Int)<0):=by omega
 simp[VP,h0,w1];refine PM n (by omega) _ _ ?_;exact Out.one0 hs (.atom (.sl _ _)) rfl rfl hK
def IU(a b:Nat)(ha:(lim a).length≤1000)(hb:(lim b).length≤1000)(H:or)(K:Kt)(hK:K (I6 (vI a b)) H):
  ge tP 172 [.sl (tX (lim a)) .none,.sl (tX (lim b)) .none] H K:=by
 refine ge.out (zWj λhs=>?_);have hO:∀r,r=vI a b→Out H.length K (I6 r) H:=λr hr=>Out.int (J:=[]) (by simp) (af _) hs (by rw[hr];exact hK);have lA:=uZ a;have lB:=uZ b;have vA:=uN a;have vB:=uN b;by_cases fI:(lim a).length=(lim b).length
 ·simp[Hy,fI];generalize hLA:lim a=A at *;generalize hLB:lim b=B at *;have lq:IntKind.i64.wrap ((B.length:Int)-1)=(B.length:Int)-1:=um (by omega) (by omega);rw[lq];refine zWh (Inv:=λq t5 H'=>∃i:Nat,i≤B.length∧i=q∧t5=I6 ((i:Int)-1)∧H'=H∧A.drop i=B.drop i) B.length ?_ ?_
  ·intro _;exact⟨B.length,by omega,rfl,rfl,rfl,by rw[aS (by omega),aS (by omega)]⟩
  ·rintro q t5 H' ⟨i,hi,rfl,rfl,rfl,hd⟩ fG fz fM Kb fB;by_cases h0:i=0
   ·subst h0;simp[EE];refine hO _ ?_;simp at hd;rw[←vA,←vB,hd];simp[vI]
   ·obtain⟨j,rfl⟩:∃ j,i=j+1:=⟨i-1,by omega⟩;have kj:j<A.length:=by omega
    have mS:j<B.length:=by omega
    have ej:((j+1:Nat):Int)-1=(j:Int):=by omega
    have fC:IntKind.i64.wrap ((j:Int)-1)=(j:Int)-1:=um (by omega) (by omega);rw[ej];rcases Nat.lt_trichotomy A[j] B[j] with h|h|h
    ·have:=IL fI lA j kj hd h;simp[EE,kj,mS,h];exact hO _ (by rw[←vA,←vB];simp[vI,this])
    ·simp[EE,kj,mS,h,fC];refine fB _ _ ⟨j,by omega,Back.here (by simp) hs (by simp[Hx,ux,AV.sc,AV.ZH,AV.ZI,AV.ZJ]) ⟨_,rfl,j,by omega,rfl,rfl,rfl,?_⟩⟩;rw[ai kj,ai mS,hd,h]
    ·have:=IL fI.symm lB j mS hd.symm h;simp[EE,kj,mS,h,bH h,eE.2 (bH h)];exact hO _ (by rw[←vA,←vB];simp[vI,this,eE.2 (bH this)])
 ·have mU:(((lim a).length:Int) != ((lim b).length:Int))=true:=by simp;omega
  by_cases fy:(lim a).length<(lim b).length
  ·have:=ES fy;simp[Hy,mU,fy];exact hO (-1) (by simp[vI,this])
  ·have:=ES (show (lim b).length<(lim a).length by omega);simp[Hy,mU,fy];exact hO 1 (by simp[vI,this,eE.2 (bH this)])
def Xy(A:List Nat)(lA:∀ x∈A,x<1000000000)(ha:A.length≤1000)(d:Nat)(jX:0<d)(hd:d<4294967296)(hdB:d≤1000000000)(H:or)(K:Kt)(hK:K (.tup [.sl (tX (lim (tQ A / d))) .none,.int .u64 ((tQ A % d:Nat):Int)]) H):
  ge tP 224 [.sl (tX A) .none,.int .u64 d] H K:=by
 refine ge.out (zYv λhs=>?_);have fN:IntKind.i64.wrap ((A.length:Int)-1)=(A.length:Int)-1:=um (by omega) (by omega);simp[Wt,vo,fN];rw[AC];refine⟨⟨by omega,by omega⟩,?_⟩;have hsc:∀ O:List Nat,HSc (H++[.cells (us O)]):=λO=>hs.append (by simp[AB.sc,us,AV.ZH,AV.ZI]);refine zYt (Inv:=λq t7 t8 H'=>∃ (i r:Nat) (O:List Nat),i≤A.length∧i=q∧t8=I6 ((i:Int)-1)∧t7=.int .u64 r∧r<d∧O.length=A.length∧(∀ x∈O,x<1000000000) ∧
  tQ (A.drop i)=d*tQ (O.drop i)+r∧H'=H++[.cells (us O)]) A.length ?_ ?_
 ·intro _;exact⟨A.length,0,_,by omega,rfl,rfl,rfl,by omega,by simp,by simp,by simp[tQ],rfl⟩
 ·rintro q t7 t8 H' ⟨i,r,O,hi,rfl,rfl,rfl,hr,i8,hO,hv,rfl⟩ fG fz fM Kb fB;by_cases h0:i=0
  ·subst h0;simp[Pq];rw[bA,bA]at hv;rw[←i8];refine IP O hO (by omega) (by simp) ?_;have e1:tQ A / d=tQ O:=by rw[hv,ei jX,bB hr];simp
   have e2:tQ A % d=r:=by rw[hv,eh,bC hr]
   rw[e1,e2]at hK;simp;exact⟨⟨rfl,rfl⟩,Out.tup (bs:=[.sl (tX (lim (tQ O))) .none,.int .u64 (r:Int)]) hs hK ⟨slV,uJ rfl rfl,trivial⟩⟩
  ·obtain⟨j,rfl⟩:∃ j,i=j+1:=⟨i-1,by omega⟩;have kj:j<A.length:=by omega
   have qW:j<O.length:=by omega
   have mA:=lA A[j] (ae kj);have ej:((j+1:Nat):Int)-1=(j:Int):=by omega
   have fC:IntKind.i64.wrap ((j:Int)-1)=(j:Int)-1:=um (by omega) (by omega);have pu:r*1000000000≤1000000000*1000000000:=aD _ (by omega);obtain⟨m,hm⟩:∃m,m=r*1000000000:=⟨_,rfl⟩;have w1:IntKind.u64.wrap ((r:Int)*1000000000)=(m:Int):=by rw[show (r:Int)*1000000000=(m:Int) by omega];exact uE (by omega)
   have w2:IntKind.u64.wrap ((A[j]:Nat):Int)=A[j]:=uE (by omega);obtain⟨s,f9⟩:∃s,s=m+A[j]:=⟨_,rfl⟩;have w3:IntKind.u64.wrap ((m:Int)+(A[j]:Nat))=(s:Int):=by rw[f9,←Int.natCast_add];exact uE (by omega)
   obtain⟨x,c,gG,gf,e1,e2⟩:=CV s d jX (by omega);have sT:c<1000000000:=by
    refine cE λh=>?_;have h1:d*1000000000≤d*c:=bf _ h;have h2:r*1000000000+1000000000≤d*1000000000:=by rw[←bD];exact aD _ hr
    omega
   have w4:IntKind.u32.wrap (c:Int)=c:=v8 (by omega);rw[ej];simp only[Pq];simp[kj,w1,w2,w3,e1,e2,w4,fC,IQ O j c qW,i8];refine⟨by omega,fB _ _ ⟨j,by omega,Back.here (by simp) (hsc _) (by simp[H6,ux,AV.sc,AV.ZH,AV.ZI,AV.ZJ]) ⟨_,_,rfl,j,x,O.set j c,by omega,rfl,rfl,rfl,gG,by simp[i8],PN hO sT,?_,rfl⟩⟩⟩;rw[yH A j kj,yH (O.set j c) j (by simpa using qW),List.getElem_set_self,List.drop_set_of_lt (by omega),hv];rw[f9,hm]at gf;generalize tQ (O.drop (j+1))=Z at *;grind
def zLI(a b:Nat)(ha:(lim a).length≤1000)(gk:0<b)(hb:b<1000000000)(H:or)(K:Kt)(hK:K (.tup [.sl (tX (lim (a / b))) .none,.sl (tX (lim (a % b))) .none]) H):
  ge tP 199 [.sl (tX (lim a)) .none,.sl (tX (lim b)) .none] H K:=by
 refine ge.out (Pr λhs=>?_);have iI:lim b=[b]:=ER (by omega) hb;simp only[HW];refine IU a b ha (by rw[iI];simp) _ _ ?_;have ki:(vI a b<0)↔a<b:=by
  unfold vI;split
  ·simp;assumption
  ·split <;> simp <;> omega
 by_cases fy:a<b
 ·simp[ki,fy];rw[bB fy,bC fy,EP]at hK;simp[uj,uD,uy];refine⟨yJ _,⟨by omega,by omega⟩,⟨rfl,rfl⟩,?_⟩;exact Out.tup (bs:=[.sl (tX []) .none,.sl (tX (lim a)) .none]) hs hK ⟨xd,slV,trivial⟩
 ·have w1:IntKind.u64.wrap (b:Int)=b:=uE (by omega);have hm:a % b<b:=ci _ gk;simp[ki,fy,iI,w1];refine Xy (lim a) (uZ a) ha b gk (by omega) (by omega) _ _ ?_;rw[uN];simp;refine PM (a % b) (by omega) _ _ ?_;refine⟨⟨rfl,rfl⟩,?_⟩;exact Out.tup0 (bs:=[.sl (tX (lim (a / b))) .none,.sl (tX (lim (a % b))) .none]) hs hK ⟨slV,slV,trivial⟩
def Xz(n:Nat)(hn:n<1000000000000000000)(H:or)(K:Kt)(hK:K (.tup [.int .u64 n,.bool true]) H):ge tP 223 [.sl (tX (lim n)) .none] H K:=by
 refine ge.out (zYp λhs=>?_);have kx:(lim n).length≤2:=wx (by omega);have lA:=uZ n;have vA:=uN n;generalize lim n=L at *;simp[Wp];refine zYn (Inv:=λq t4 t9 H'=>∃i:Nat,i≤L.length∧L.length-i=q∧t9=I6 i∧t4=.int .u64 ((tQ (L.drop (L.length-i)):Nat):Int)∧H'=H) L.length ?_ ?_
 ·intro _;exact⟨0,by omega,rfl,rfl,by simp[tQ],rfl⟩
 ·rintro q t4 t9 H' ⟨i,hi,rfl,rfl,rfl,rfl⟩ fG fz fM Kb fB;by_cases fy:i<L.length
  ·have w1:IntKind.i64.wrap ((L.length:Int)-1)=((L.length-1:Nat):Int):=by rw[um (by omega) (by omega)];omega
   have w2:IntKind.i64.wrap (((L.length-1:Nat):Int)-i)=((L.length-1-i:Nat):Int):=by rw[um (by omega) (by omega)];omega
   have hj:L.length-1-i<L.length:=by omega
   have hx:=lA L[L.length-1-i] (ae hj);obtain⟨x,kO⟩:∃x,x=L[L.length-1-i]:=⟨_,rfl⟩;have w3:IntKind.u64.wrap ((L[L.length-1-i]:Nat):Int)=(x:Int):=by rw[←kO];exact uE (by omega)
   have gT:=yH L (L.length-1-i) hj;rw[show L.length-1-i+1=L.length-i by omega,←kO]at gT;have lu:tQ (L.drop (L.length-i))<1000000000:=by
    have h1:=wr (L.drop (L.length-i)) (λy hy=>lA y (ec hy));have h2:(L.drop (L.length-i)).length≤1:=by simp;omega
    have h3:1000000000 ^ (L.drop (L.length-i)).length≤1000000000 ^ 1:=bi (by omega) h2;omega
   have gb:tQ (L.drop (L.length-(i+1)))=tQ (L.drop (L.length-i))*1000000000+x:=by rw[show L.length-(i+1)=L.length-1-i by omega,gT];omega
   generalize hW:tQ (L.drop (L.length-i))=W at *;have w4:IntKind.u64.wrap (18446744073709551615-(x:Int))=((18446744073709551615-x:Nat):Int):=by rw[show (18446744073709551615:Int)-x=((18446744073709551615-x:Nat):Int) by omega];exact uE (by omega)
   obtain⟨y,sU⟩:∃y,y=18446744073709551615-x:=⟨_,rfl⟩;rw[←sU]at w4;obtain⟨r,c,i9,ij,rS,e1,e2⟩:=AA y (by omega);have hc:¬(c<W):=by omega
   have w5:IntKind.u64.wrap ((W:Int)*1000000000)=((W*1000000000:Nat):Int):=by rw[show (W:Int)*1000000000=((W*1000000000:Nat):Int) by omega];exact uE (by omega)
   obtain⟨m,iG⟩:∃m,m=W*1000000000:=⟨_,rfl⟩;rw[←iG]at w5;obtain⟨s,mX⟩:∃s,s=m+x:=⟨_,rfl⟩;have w6:IntKind.u64.wrap ((m:Int)+x)=(s:Int):=by rw[mX,←Int.natCast_add];exact uE (by omega)
   simp only[Pp];simp[fy,w1,w2,hj,w3,w4,e2,hc,w5,w6,wi i (by omega)];exact fB _ _ ⟨L.length-(i+1),by omega,Back.here (by simp) hs (by simp[HY,ux,AV.sc,AV.ZH,AV.ZI,AV.ZJ]) ⟨_,_,rfl,i+1,by omega,rfl,rfl,by rw[gb,mX,iG],rfl⟩⟩
  ·obtain rfl:i=L.length:=by omega
   rw[dG,bA,vA];simp[Pp];exact⟨⟨rfl,rfl⟩,Out.tup0 (bs:=[.int .u64 (n:Int),.bool true]) hs hK ⟨uJ rfl rfl,uJ rfl rfl,trivial⟩⟩
def u0(neg:Bool)(n d:Nat):List AV:=[.bool neg,.sl (tX (lim n)) .none,.sl (tX (lim d)) .none]
@[simp] theorem yiJ(b:Bool)(n d:Nat):(u0 b n d).length=3:=rfl
@[simp] theorem yiI(b:Bool)(n d:Nat):(∀x∈u0 b n d,x.ZP=true)=True:=by simp[u0,AV.ZP]
@[simp] theorem yiK(b:Bool)(n d:Nat):List.take 3 (u0 b n d)=u0 b n d:=rfl
def AD{H J:or}{K:Kt}{b:Bool}{n d:Nat}(hs:HSc H)(hK:K (.agg (u0 b n d)) H):Out H.length K (.agg (u0 b n d)) (H++J):=Out.one hs .rfl' rfl rfl hK
def IV{n:Nat}:lim n=[1]↔n=1:=by
 constructor
 ·intro h;have:=uN n;rw[h]at this;simp[tQ]at this;omega
 ·rintro rfl;exact xA
section
variable (t0 t1 t5 t6 t7 t9 t10 t11 t12 t13 t14 t15 t77 t78 t135 t136:AV) (H:or) (K:Kt) (Kb4 Kb5 Kb10 Kb25:Lt)
def IW:Nat→List Bool|4=>rl false [0,2,3,2,7,2,27]|_=>[]
noncomputable def XA:=bd Tryz.f225
def IX:=t0::t1::ux 3 (t5::t6::ux 7 (t14::t15::ux 27 []))
def zYA:=IW 4
noncomputable def zYy:=uc [1,1,1,0,1,0,0] XA
def zYx:=ud tP IW [1,1,1,0,1,0] XA (uq tP Tryz.f225.results.toList K)
def XB:=tM tP zYy (zYx K) (IX t0 t1 t5 t6 t14 t15) H
def PQ:=gt .lss false t15 t14 λt16=>tO t16 (tW 1 t0 t15 λt20=>tL false 1 t20 H λt21=>uw .u64 t21 λt22=>gt .mul false t22 t1 λt24=>gt .add false t24 t6 λt26=>gt .rem false t26 (.int .u64 1000000000) λt30=>uw .u32 t30 λt31=>tW 1 t5 t15 λt32=>ua 1 t32 t31 H λH=>gt .quo false t26 (.int .u64 1000000000) λt34=>gt .add false t15 I1 λt35=>Kb4 (IX t0 t1 t5 t34 t14 t35) H) (tV 1 t0 λt38=>uw .u32 t6 λt40=>tW 1 t5 t38 λt41=>ua 1 t41 t40 H λH=>K t5 H)
def XC:=tV 1 t0 λt10=>gt .add false t10 I1 λt11=>vo 4 [(.int .u32 0)] t11 t11 H λt12 H=>tV 1 t0 λt14=>XB t0 t1 t12 (.int .u64 0) t14 I0 H K
def yr:Nat→List Bool|5=>rl false [0,2,3,3,1,2,158]|10=>rl false [0,2,3,1,3,1,1,1,65,2,90]|14=>rl false [0,2,3,1,3,1,1,3,63,2,90]|25=>rl false [0,2,3,1,3,1,4,2,119,2,32]|_=>[]
noncomputable def CY:=bd Tryz.f226
noncomputable def PR:=Tryz.f226.results.toList
def EZ:=t0::t1::ux 3 (t5::t6::t7::ux 1 (t9::t10::ux 158 []))
def zYP:=yr 5
noncomputable def zYI:=uc [1,1,1,1,1,0,0,0] CY
def zYF:=ud tP yr [1,1,1,1,1,0,0] CY (uq tP PR K)
def XD:=tM tP zYI (zYF K) (EZ t0 t1 t5 t6 t7 t9 t10) H
def IY:=t0::t1::ux 3 (t5::ux 3 (t9::ux 1 (t11::ux 65 (t77::t78::ux 90 []))))
def XE:=yr 10
noncomputable def PS:=uc [1,1,1,1,1,1,1,0,1,0,0] CY
def XF:=ud tP yr [1,1,1,1,1,1,1,0,1,0] CY (uq tP PR K)
def PT:=tM tP PS (XF K) (IY t0 t1 t5 t9 t11 t77 t78) H
def IZ:=t0::t1::ux 3 (t5::ux 3 (t9::ux 1 (t11::t12::t13::ux 63 (t77::t78::ux 90 []))))
def zYN:=yr 14
noncomputable def zYG:=uc [1,1,0,0,1,1,1,0,0,0] PS
def zYD:=ud tP yr [1,1,0,0,1,1,1,0,0] PS (vz XE Kb10 (XF K))
def XG:=tM tP zYG (zYD K Kb10) (IZ t0 t1 t5 t9 t11 t12 t13 t77 t78) H
def PU(t0 t1 t5 t9 t11 t12 t13 t77 t78:AV)(H:or)(K:Kt)(Kb10:Lt)(Kb14:Lt):Prop:=gt .lss false t13 I0 λt108=>tO t108 (gt .add false t13 (I6 1000000000) λt110=>gt .add false t11 I1 λt112=>Kb14 (IZ t0 t1 t5 t9 t112 t12 t110 t77 t78) H) (uw .u32 t13 λt116=>tW 1 t0 t12 λt117=>ua 1 t117 t116 H λH=>gt .add false t78 I1 λt118=>Kb10 (IY t0 t1 t5 t9 t11 t77 t118) H)
def I2:=t0::t1::ux 3 (t5::ux 3 (t9::ux 4 (t14::t15::ux 119 (t135::t136::ux 32 []))))
def zYO:=yr 25
noncomputable def zYH:=uc [1,1,1,1,1,1,1,1,1,1,1,0,1,0,0] CY
def zYE:=ud tP yr [1,1,1,1,1,1,1,1,1,1,1,0,1,0] CY (uq tP PR K)
def PV:=tM tP zYH (zYE K) (I2 t0 t1 t5 t9 t14 t15 t135 t136) H
def PW:=gt .lss false t136 t135 λt137=>tO t137 (apm H t0 λt139=>apm H t136 λt140=>apu H (tW 1 t139 t140) λt141=>apu H (tY false 1 t141 H) λt142=>apm H t1 λt143=>apm H t136 λt144=>apu H (tW 1 t143 t144) λt145=>apu H (tY false 1 t145 H) λt146=>apu H (gt .add false t142 t146) λt147=>apm H t15 λt148=>apu H (gt .add false t147 t148) λt149=>apm H t149 λt17=>gt .quo false t17 (.int .u32 1000000000) λt151=>gt .rem false t17 (.int .u32 1000000000) λt155=>tW 1 t0 t136 λt156=>ua 1 t156 t155 H λH=>gt .add false t136 I1 λt157=>Kb25 (I2 t0 t1 t5 t9 t14 t151 t135 t157) H) (uw .i64 t15 λt162=>gt .add false t14 t162 λt163=>uw .u32 t163 λt164=>tW 1 t0 t5 λt165=>ua 1 t165 t164 H λH=>gt .sub false t9 (.int .u64 1) λt167=>uw .u32 t167 λt168=>K t168 H)
def I3:=gt .lss false t78 t77 λt79=>tO t79 (apm H t0 λt81=>apm H t78 λt82=>apu H (tW 1 t81 t82) λt83=>apu H (tY false 1 t83 H) λt84=>apu H (uw .i64 t84) λt85=>apm H t11 λt86=>apu H (gt .sub false t85 t86) λt87=>apm H t9 λt88=>apm H t1 λt89=>apm H t78 λt90=>apu H (tW 1 t89 t90) λt91=>apu H (tY false 1 t91 H) λt92=>apu H (uw .u64 t92) λt93=>apu H (gt .mul false t88 t93) λt94=>apu H (gt .rem false t94 (.int .u64 1000000000)) λt95=>apu H (uw .i64 t95) λt96=>apu H (gt .sub false t87 t96) λt97=>apm H t97 λt13=>tW 1 t1 t78 λt101=>tL false 1 t101 H λt102=>uw .u64 t102 λt103=>gt .mul false t9 t103 λt104=>gt .quo false t104 (.int .u64 1000000000) λt105=>uw .i64 t105 λt106=>XG t0 t1 t5 t9 t106 t78 t13 t77 t78 H K Kb10) (tW 1 t0 t5 λt121=>tL false 1 t121 H λt122=>uw .i64 t122 λt123=>gt .sub false t123 t11 λt125=>gt .geq false t125 I0 λt127=>tO t127 (uw .u32 t125 λt131=>tW 1 t0 t5 λt132=>ua 1 t132 t131 H λH=>uw .u32 t9 λt134=>K t134 H) (PV t0 t1 t5 t9 t125 (.int .u32 0) t5 I0 H K))
def CZ:=gt .lss false t10 (.int .u64 1000000000) λt52=>agm t52 true H t9 λt54 H=>agu t52 true H (gt .geq false t54 (.int .u64 1000000000)) λt55 H=>agm t52 true H t55 λt56 H=>agm t56 false H t9 λt57 H=>agm t56 false H t7 λt58 H=>agu t56 false H (gt .mul false t57 t58) λt59 H=>agm t56 false H t10 λt60 H=>agu t56 false H (gt .mul false t60 (.int .u64 1000000000)) λt61 H=>agm t56 false H t0 λt62 H=>agm t56 false H t5 λt63 H=>agu t56 false H (gt .sub false t63 (I6 2)) λt64 H=>agu t56 false H (tW 1 t62 t64) λt65 H=>agu t56 false H (tL false 1 t65 H) λt66 H=>agu t56 false H (uw .u64 t66) λt67 H=>agu t56 false H (gt .add false t61 t67) λt68 H=>agu t56 false H (gt .gtr false t59 t68) λt69 H=>agu t52 true H (tZ t56 (.bool true) t69) λt70 H=>tZ t52 t70 (.bool false) λt71=>tO t71 (gt .sub false t9 (.int .u64 1) λt73=>gt .add false t10 t6 λt76=>Kb5 (EZ t0 t1 t5 t6 t7 t73 t76) H) (PT t0 t1 t5 t9 I0 t5 I0 H K)
def XH:=tV 1 t1 λt19=>apm H t1 λt20=>apm H t19 λt21=>apu H (gt .sub false t21 I1) λt22=>apu H (tW 1 t20 t22) λt23=>apu H (tY false 1 t23 H) λt24=>apu H (uw .u64 t24) λt25=>apm H t1 λt26=>apm H t19 λt27=>apu H (gt .sub false t27 (I6 2)) λt28=>apu H (tW 1 t26 t28) λt29=>apu H (tY false 1 t29 H) λt30=>apu H (uw .u64 t30) λt31=>apm H t25 λt6=>apm H t31 λt7=>apm H t0 λt32=>apm H t19 λt33=>apu H (tW 1 t32 t33) λt34=>apu H (tY false 1 t34 H) λt35=>apu H (uw .u64 t35) λt36=>apu H (gt .mul false t36 (.int .u64 1000000000)) λt37=>apm H t0 λt38=>apm H t19 λt39=>apu H (gt .sub false t39 I1) λt40=>apu H (tW 1 t38 t40) λt41=>apu H (tY false 1 t41 H) λt42=>apu H (uw .u64 t42) λt43=>apu H (gt .add false t37 t43) λt44=>apm H t44 λt8=>apm H t8 λt45=>apm H t6 λt46=>apu H (gt .quo false t45 t46) λt47=>apm H t8 λt48=>apm H t6 λt49=>apu H (gt .rem false t48 t49) λt50=>apm H t47 λt9=>apm H t50 λt10=>XD t0 t1 t19 t6 t7 t9 t10 H K
variable {t0 t1 t5 t6 t7 t9 t10 t11 t12 t13 t14 t15 t77 t78 t135 t136} {H} {K} {Kb4 Kb5 Kb10 Kb25}
def zYz:Lo2 (λt6 t15=>IX t0 t1 t5 t6 t14 t15) (λt6 t15 H Kb4=>PQ t0 t1 t5 t6 t14 t15 H K Kb4) t6 t15 H (XB t0 t1 t5 t6 t14 t15 H K):=lq2 IW zYA
def zYB(h:HSc H→XC t0 t1 H K):ge tP 225 [t0,t1] H K:=
 acb IW Tryz.func225 h
def zYK:Lo2 (λt11 t13=>IZ t0 t1 t5 t9 t11 t12 t13 t77 t78) (λt11 t13 H Kb14=>PU t0 t1 t5 t9 t11 t12 t13 t77 t78 H K Kb10 Kb14) t11 t13 H (XG t0 t1 t5 t9 t11 t12 t13 t77 t78 H K Kb10):=lq2 yr zYN
def zYL:Lo2 (λt15 t136=>I2 t0 t1 t5 t9 t14 t15 t135 t136) (λt15 t136 H Kb25=>PW t0 t1 t5 t9 t14 t15 t135 t136 H K Kb25) t15 t136 H (PV t0 t1 t5 t9 t14 t15 t135 t136 H K):=lq2 yr zYO
def zYJ:Lo2 (λt11 t78=>IY t0 t1 t5 t9 t11 t77 t78) (λt11 t78 H Kb10=>I3 t0 t1 t5 t9 t11 t77 t78 H K Kb10) t11 t78 H (PT t0 t1 t5 t9 t11 t77 t78 H K):=lq2 yr XE
def zYM:Lo2 (λt9 t10=>EZ t0 t1 t5 t6 t7 t9 t10) (λt9 t10 H Kb5=>CZ t0 t1 t5 t6 t7 t9 t10 H K Kb5) t9 t10 H (XD t0 t1 t5 t6 t7 t9 t10 H K):=lq2 yr zYP
def zYQ(h:HSc H→XH t0 t1 H K):ge tP 226 [t0,t1] H K:=
 acb yr Tryz.func226 h
end
end Go.Proofs.YtdmamdnkcefmmaaGreatDoor
