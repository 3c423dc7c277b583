import Derived.Test.YtaifokkaaahdoaaGreatDoorAbsH
import Derived.WideKeyRuns
set_option linter.unusedSimpArgs false
set_option linter.unusedVariables false
set_option maxRecDepth 8000
namespace Go.Abs
open Go Go.RowKit

variable {P:Program} {B:Nat} {w:World} {G:Gh} {H:zaa}

theorem zwN{t e:TypeId}(h:zeo P t=some e):∃k i,P.underlying t=some (.map k e)∧P.underlying k=some (.array 2 i)∧P.underlying i=some (.int .i64)∧zaM P i=some 1:=by
 unfold zeo at h;cases hu:P.underlying t with
 |none=>simp[hu]at h
 |some d=>
  simp only[hu,Option.bind_some]at h;cases d <;> simp only[]at h <;> try (cases h;done)
  rename_i k e';split at h
  ·rename_i i hk;split at h
   ·rename_i hi hs;cases h;exact⟨k,i,rfl,hk,hi,hs⟩
   ·cases h
  ·cases h
section
variable {k i:TypeId} (hk:P.underlying k=some (.array 2 i)) (hi:P.underlying i=some (.int .i64)) (hs:zaM P i=some 1)
include hi in
theorem zgw(w:World)(p:Int×Int)(j:Nat)(hj:j<2):(part i #[.int .i64 p.1,.int .i64 p.2] j).run P w=.ok (.int .i64 (if j=0 then p.1 else p.2)) w:=by
 have hp:P.plainKey i=true:=by unfold Program.plainKey;rw[hi]
 refine run_part_plain w hp ?_
 match j,hj with
 |0,_=>rfl
 |1,_=>rfl
include hk hi hs in
theorem zEi(w:World)(p q:Int×Int):(Op.equal k (zbJ p) (zbJ q)).run P w=.ok (p == q) w:=by
 obtain⟨ti,hti⟩:∃ti,P.info? i=some ti:=by
  unfold zaM at hs;cases h:P.info? i with
  |none=>simp[h]at hs
  |some ti=>exact⟨ti,rfl⟩
 have hc:P.cellsOf i=1:=by unfold zaM at hs;rw[hti]at hs;simp[Program.cellsOf,hti]at hs ⊢;exact hs
 have hcell:∀(a b:Int) (d:Nat),(Op.equalIn (d+1) i (.int .i64 a) (.int .i64 b)).run P w=.ok (a == b) w:=λa b d=>by simp[Op.equalIn,run_underlying hi]
 unfold Op.equal Op.maxDepth zbJ;rw[run_equalIn_array w 9999 _ _ hk hti,hc];have p0:=zgw hi w p 0 (by omega);have q0:=zgw hi w q 0 (by omega);have p1:=zgw hi w p 1 (by omega);have q1:=zgw hi w q 1 (by omega);obtain⟨a,b⟩:=p;obtain⟨c,d⟩:=q;have e:((a,b) == (c,d))=(a == c && b == d):=rfl;rw[e];simp only[if_true,Nat.one_ne_zero,if_false]at p0 q0 p1 q1;simp only[List.range,List.range.loop,Op.eqItems,Sem.run_bind,Nat.mul_one,p0,q0,Result.andThen_ok,hcell];cases h1:a == c
 ·simp
 ·simp[p1,q1,hcell];by_cases hbd:b=d
  ·simp[hbd]
  ·have:(b == d)=false:=by simpa using hbd
   simp[hbd,this]
include hk hi hs in
theorem znH(w:World){s:Int × Int}{x:AV}:∀ {es:List MapEntry} {kvs:List ((Int × Int) × AV)} (j:Nat),All2 (ERelP w G) es kvs →
  (zbZ kvs s=none∧(Instr.findAsking k (zbJ s) es j).run P w=.ok none w∧zcr kvs s x=kvs++[(s,x)]) ∨
  (∃n e v,zbZ kvs s=some v∧(Instr.findAsking k (zbJ s) es j).run P w=.ok (some (j+n,e.val)) w∧es[n]?=some e∧VRel w G e.val v∧e.key=zbJ s∧zcr kvs s x=kvs.set n (s,x))
 |[],[],j,_=>.inl ⟨rfl,by simp[Instr.findAsking],rfl⟩
 |e::es,p::kvs,j,h=>by
  obtain⟨⟨hke,hv⟩,ht⟩:=h;have heq:=zEi hk hi hs w s p.1;have hsym:(p.1 == s)=(s == p.1):=by rw[Bool.eq_iff_iff,beq_iff_eq,beq_iff_eq];exact⟨Eq.symm,Eq.symm⟩
  cases hb:(s == p.1) with
  |true=>
   right;rw[hb]at heq hsym;have hps:s=p.1:=by simpa using hb
   exact⟨0,e,p.2,by simp only[zbZ,hsym],by simp[Instr.findAsking,hke,heq],rfl,hv,by rw[hke,hps],by simp only[zcr,hsym,List.set_cons_zero]⟩
  |false=>
   rw[hb]at heq hsym;rcases znH w (s:=s) (x:=x) (j+1) ht with ⟨h1,h2,h3⟩|⟨n,e',v,h1,h2,h3,h4,h5,h6⟩
   ·exact .inl ⟨by simp only[zbZ,hsym,h1],by simp[Instr.findAsking,hke,heq,h2],by simp only[zcr,hsym,h3,List.cons_append]⟩
   ·refine .inr ⟨n+1,e',v,by simp only[zbZ,hsym,h1],?_,by simpa using h3,h4,h5,by simp only[zcr,hsym,h6,List.set_cons_succ]⟩;simp[Instr.findAsking,hke,heq,h2];omega
 |[],_::_,_,h=>h.elim
 |_::_,[],_,h=>h.elim
theorem zEd(hi:P.underlying i=some (.int .i64))(w:World)(em:Bool)(n:Nat)(a:Int):(Instr.checkKey em (n+1) i (.int .i64 a)).run P w=.ok () w:=by simp[Instr.checkKey,run_underlying hi]
include hk hi hs in
theorem zEe(w:World)(em:Bool)(s:Int×Int)(n:Nat):(Instr.checkKey em (n+2) k (zbJ s)).run P w=.ok () w:=by have hsz:(sizeOf i).run P w=.ok 1 w:=zbt hs;have h0:=zgw hi w s 0 (by omega);have h1:=zgw hi w s 1 (by omega);unfold zbJ;rw[Instr.checkKey];simp only[Sem.run_bind,run_underlying hk,Result.andThen_ok];simp only[Std.Legacy.Range.forIn_eq_forIn_range',Std.Legacy.Range.size,Nat.sub_zero,Nat.add_one_sub_one,Nat.div_one];simp only[List.range',List.forIn_cons,List.forIn_nil,Sem.run_bind,hsz,Result.andThen_ok,Nat.zero_mul,Nat.zero_add,Nat.one_mul,h0,h1,zEd hi,Sem.run_pure,if_true,Nat.one_ne_zero,if_false]
include hk hi hs in
theorem zvQ(w:World)(em:Bool)(s:Int×Int):(Instr.checkKey em 10000 k (zbJ s)).run P w=.ok () w:=zEe hk hi hs w em s 9998
end
theorem zE9{t:TypeId}{K:AV→zaa→Prop}(hH:HRel B w G H)(h:zea H K):OpOK P B w G K (((do pure (.value (←Instr.makeMap t none))):Sem Next).run P w):=by
 obtain⟨he,hH'⟩:=hH.newMapP;have hrun:((do pure (.value (←Instr.makeMap t none))):Sem Next).run P w=.ok (.value (.map (some w.heap.size))) (w.alloc (.map #[] 0)):=by simp[Instr.makeMap,newObj,Sem.run,World.alloc_eq]
 rw[hrun];refine⟨.map H.length,_,_,he,hH',⟨w.heap.size,?_,rfl⟩,h⟩;rw[←hH.len];simp
theorem zj3{kt i:TypeId}(hk:P.underlying kt=some (.array 2 i))(w:World)(x:Value)(es:List MapEntry):(Instr.findKey kt x es).run P w=(Instr.findAsking kt x es).run P w:=run_findKey_eq w (by rw[hk]) x es
theorem zs6{v:Value}{a b:Int}(h:TRel w G v (.agg [.int .i64 a,.int .i64 b])):v=zbJ (a,b):=by
 obtain⟨cs,rfl,hr⟩:=h;obtain⟨l⟩:=cs
 match l,hr with
 |[x,y],hr=>obtain⟨h1,h2,_⟩:=hr;cases h1;cases h2;rfl
theorem zE5{t e:TypeId}{z vm vk:Value}{m k:AV}{ok:Bool}{K:AV→Prop}(hH:HRel B w G H)(ht:zeo P t=some e)(hz:zbj P e=some z)(hm:TRel w G vm m)(hk:TRel w G vk k)(h:zd8 (zcK z) ok m k H K):∃u,(Instr.lookup t vm vk ok).run P w=.ok u w∧∃av,TRel w G u av∧K av:=by
 obtain⟨kt,it,hu,huk,hui,hus⟩:=zwN ht;unfold zd8 at h;split at h
 ·rename_i id a b;split at h
  ·rename_i kvs hkvs;obtain⟨bl,hμ,rfl⟩:=hm;have hvk:=zs6 hk;subst hvk;obtain⟨_,_,es,clk,hw,hes⟩:=hH.ok id _ _ hkvs hμ;have hck:=λem=>zvQ huk hui hus w em (a,b);rcases znH huk hui hus w (s:=(a,b)) (x:=.unk) 0 hes with ⟨h1,h2,_⟩ | ⟨j,e',v,h1,h2,h3,h4,h5,_⟩
   ·rw[h1]at h;have hzv:VRel w G z (zcK z):=zvG z;rw[←zj3 huk]at h2;cases ok with
    |false=>refine⟨z,?_,_,zo9 z,h⟩;simp[Instr.lookup,zaT hu,MapKept.run_getObj_map hw,hck,h2,zdW hz]
    |true=>refine⟨.tuple #[z,.bool false],?_,.tup [zcK z,.bool false],⟨_,rfl,hzv,rfl,trivial⟩,h⟩;simp[Instr.lookup,zaT hu,MapKept.run_getObj_map hw,hck,h2,zdW hz]
   ·rw[h1]at h;rw[←zj3 huk]at h2;cases ok with
    |false=>refine⟨e'.val,?_,_,TRel.of_v h4,h⟩;simp[Instr.lookup,zaT hu,MapKept.run_getObj_map hw,hck,h2]
    |true=>refine⟨.tuple #[e'.val,.bool true],?_,.tup [v,.bool true],⟨_,rfl,h4,rfl,trivial⟩,h⟩;simp[Instr.lookup,zaT hu,MapKept.run_getObj_map hw,hck,h2]
  ·exact h.elim
 ·exact h.elim
theorem zEj(w:World)(s:Int×Int):(Instr.keyThatStays (zbJ s) (zbJ s)).run P w=.ok (zbJ s) w:=by simp[Instr.keyThatStays,Instr.sameBits,zbJ]
theorem zwb{t e:TypeId}{vm vk vx:Value}{m k x:AV}{K:zaa→Prop}(hH:HRel B w G H)(ht:zeo P t=some e)(hm:TRel w G vm m)(hk:TRel w G vk k)(hx:TRel w G vx x)(h:zc1 m k x H K):∃w' H',(Instr.mapUpdate t vm vk vx).run P w=.ok () w'∧Ext B w G w' G∧HRel B w' G H'∧K H':=by
 obtain⟨kt,it,hu,huk,hui,hus⟩:=zwN ht;unfold zc1 at h;split at h
 ·rename_i id a b;split at h
  ·rename_i kvs hkvs;obtain⟨bl,hμ,rfl⟩:=hm;have hvk:=zs6 hk;subst hvk;obtain⟨_,_,es,clk,hw,hes⟩:=hH.ok id _ _ hkvs hμ;have hck:=λem=>zvQ huk hui hus w em (a,b);split at h
   ·exact h.elim
   ·rename_i hnt;have hv:VRel w G vx x:=by cases x <;> first | exact hx | exact (hnt _ rfl).elim
    rcases znH huk hui hus w (s:=(a,b)) (x:=x) 0 hes with ⟨h1,h2,h6⟩|⟨j,e',v,h1,h2,h3,h4,h5,h6⟩
    ·rw[h6]at h;rw[←zj3 huk]at h2;obtain⟨he,hH'⟩:=hH.storeMapP (es':=es.push ⟨zbJ (a,b),vx,clk⟩) (clk':=clk+1) hkvs hμ hw (kvs':=kvs++[((a,b),x)]) (by
      rw[Array.toList_push];exact hes.append ⟨⟨rfl,hv⟩,trivial⟩)
     refine⟨_,_,?_,he,hH',h⟩;simp[Instr.mapUpdate,zaT hu,MapKept.run_getObj_map hw,hck,h2,MapKept.run_setObj_map _ hw]
    ·rw[h6]at h;rw[←zj3 huk]at h2;have hj:es[j]?=some e':=by simpa using h3
     have hjl:j<es.size:=(Array.getElem?_eq_some_iff.1 hj).1;obtain⟨he,hH'⟩:=hH.storeMapP (es':=es.modify j λe=>{ e with key:=zbJ (a,b),val:=vx }) (clk':=clk) hkvs hμ hw (kvs':=kvs.set j ((a,b),x)) (by
      have e1:(es.modify j λe=>{ e with key:=zbJ (a,b),val:=vx }).toList=es.toList.set j { e' with key:=zbJ (a,b),val:=vx }:=by rw[Array.toList_modify,List.modify_eq_set];simp[hj]
      rw[e1];exact hes.set j ⟨rfl,hv⟩)
     refine⟨_,_,?_,he,hH',h⟩;have hks:(Instr.keyThatStays (((es[j]?).map (·.key)).getD (zbJ (a,b))) (zbJ (a,b))).run P w=.ok (zbJ (a,b)) w:=by rw[hj];simp only[Option.map_some,Option.getD_some,h5];exact zEj w _
     simp only[Nat.zero_add]at h2;simp[Instr.mapUpdate,zaT hu,MapKept.run_getObj_map hw,hck,h2,hks,MapKept.run_setObj_map _ hw]
  ·exact h.elim
 ·exact h.elim
end Go.Abs
namespace Go.Abs
open Go Go.RowKit

variable {P:Program} {B:Nat} {w:World} {G:Gh} {H:zaa}

theorem HRel.newOwn(h:HRel B w G H)(e size:Nat):
  Ext B w G w ⟨G.L,G.μ++[.own (.slice none 0 0) size 0]⟩∧HRel B w ⟨G.L,G.μ++[.own (.slice none 0 0) size 0]⟩ (H++[.perm e size 0]):=by
 have he:Ext B w G w ⟨G.L,G.μ++[.own (.slice none 0 0) size 0]⟩:=⟨DR.app (Nat.le_refl _) rfl (by simp),Below.refl _ _,λ_=>Nat.le_refl _,λ_ _ _=>rfl,λid gi hg=>⟨gi,by
  have:id<G.μ.length:=(List.getElem?_eq_some_iff.1 hg).1;simp only[];rw[List.getElem?_append_left this];exact hg,gi.le_refl⟩⟩
 have split:∀(id:Nat) gi,(G.μ++[.own (.slice none 0 0) size 0])[id]?=some gi→G.μ[id]?=some gi∨(id=G.μ.length∧gi=.own (.slice none 0 0) size 0):=by
  intro id gi hg;by_cases hlt:id<G.μ.length
  ·rw[List.getElem?_append_left hlt]at hg;exact .inl hg
  ·have hlt2:=(List.getElem?_eq_some_iff.1 hg).1;simp at hlt2;have:id=G.μ.length:=by omega
   subst this;simp at hg;exact .inr ⟨rfl,hg.symm⟩
 refine⟨he,by simp[h.len],?_,?_,h.fresh,?_,h.base⟩
 ·intro id ab gi h1 h2;rcases split id gi h2 with h2 | ⟨rfl,rfl⟩
  ·have hlt:id<H.length:=by rw[←h.len];exact (List.getElem?_eq_some_iff.1 h2).1
   rw[List.getElem?_append_left hlt]at h1;exact(h.ok id ab gi h1 h2).keep he (λb hb=>⟨rfl,rfl⟩)
  ·rw[h.len]at h1;simp at h1;subst h1;exact⟨rfl,rfl,⟨[],World.ownsRow_nil w B e size⟩,λb hb=>by simp[Value.ownBlock]at hb⟩
 ·intro id id' gi gi' b h1 h2 h3 h4;rcases split id gi h1 with k1 | ⟨e1,e2⟩ <;> rcases split id' gi' h2 with k2 | ⟨e3,e4⟩
  ·exact h.dist id id' gi gi' b k1 k2 h3 h4
  ·rw[e4]at h4;simp[GI.block,Value.ownBlock]at h4
  ·rw[e2]at h3;simp[GI.block,Value.ownBlock]at h3
  ·rw[e1,e3]
 ·intro id gi b h1 h2;rcases split id gi h1 with k1 | ⟨e1,e2⟩
  ·exact h.lt id gi b k1 h2
  ·rw[e2]at h2;simp[GI.block,Value.ownBlock]at h2

theorem ztK{v:Value}{a:AV}(h:DRel w G.L v a):v.oneCell'=true:=by cases h <;> rfl

theorem zF7{e size n:Nat}{v:Value}{xs:List Value}{es:List (List AV)}(hown:w.ownsRow B e size v n xs)(hd:DRel w G.L v (.sl es .none))(hes:es.length=n)(hsz:∀c∈es,c.length=size):All2 (DRel w G.L) xs es.flatten:=by
 by_cases hne:es=[]
 ·subst hne;simp at hes;subst hes;have:xs=[]:=List.eq_nil_of_length_eq_zero (by simpa using hown.1);rw[this];trivial
 ·obtain⟨b,off,cap,zs,hv,hl,hr,hc,_⟩:=hd.flat hne hsz;have hoff:off=0:=by
   rcases hown.2 with ⟨h1,_⟩|⟨g,cap',cur,h1,_⟩
   ·rw[hv]at h1;simp at h1
   ·rw[hv]at h1;simp at h1;exact h1.1.2
  subst hoff;rw[hv,hes]at hown;obtain⟨hxl,_,_,hcx⟩:=zds hown;have:xs=zs:=by
   apply List.ext_getElem?;intro j;by_cases hj:j<n*size
   ·have hz:j<zs.length:=by rw[hl,hes];exact hj
    have:=hc j zs[j] (by simp[hz]);rw[Nat.zero_add]at this;rw[←hcx j hj,this];simp[hz]
   ·rw[List.getElem?_eq_none (by omega),List.getElem?_eq_none (by rw[hl,hes];omega)]
  rw[this];exact hr

theorem HRel.newVec0(h:HRel B w G H)(e size:Nat):Ext B w G w ⟨G.L,G.μ++[.own (.slice none 0 0) size 0]⟩∧HRel B w ⟨G.L,G.μ++[.own (.slice none 0 0) size 0]⟩ (H++[.vec e size 0 []]):=by
 obtain⟨hE,hH⟩:=h.newOwn e size;refine⟨hE,by simpa using hH.len,λid ab gi h1 h2=>?_,hH.dist,hH.fresh,hH.lt,hH.base⟩;by_cases hlt:id<H.length
 ·rw[List.getElem?_append_left hlt]at h1;exact hH.ok id ab gi (by rw[List.getElem?_append_left hlt];exact h1) h2
 ·have hlt2:=(List.getElem?_eq_some_iff.1 h2).1;simp[h.len]at hlt2;obtain rfl:id=H.length:=by omega
  simp at h1;have h2:(G.μ++[GI.own (.slice none 0 0) size 0])[H.length]?=some gi:=h2;rw[←h.len]at h2;simp at h2;subst h1 h2;exact⟨rfl,rfl,⟨[],World.ownsRow_nil w B e size,trivial⟩,λb hb=>by simp[Value.ownBlock]at hb⟩
theorem zv8{t e ty:TypeId}{size bytes:Nat}{z:Value}{vx vy:Value}{x:AV}{m:Nat}{ds:List AV}{K:AV→zaa→Prop}(hH:HRel B w G H)(he:za6 P t=some e)(hn:zaM P e=some size)(hby:zcH P e=some bytes)(hz:zbj P e=some z)(hzl:(zbn z).length=size)(hx:TRel w G vx x)(news:List Value)(ay:Option Addr)(capy:Nat)(hvy:vy=.slice ay m capy)(hrn:All2 (ARel w G) news ds)(hcn:0<m→∃ b off,ay=some ⟨b,off,none⟩∧∀ j u,news[j]?=some u→w.cell? ⟨b,off+j,none⟩=some u)(h:zd7 e size bytes x m ds H K):
  OpOK P B w G K (((do pure (.value (←Builtin.append_ #[t,t] ty #[vx,vy]))):Sem Next).run P w):=by
 subst hvy;have hzr:=zdv (w:=w) (G:=G) z;have hzs:z.cells.size=size:=by have:=hzr.length;simp at this;omega
 have hone:ds.all AV.known=true→∀u∈news,u.oneCell'=true:=λhk=>zo4 hrn (λc hc=>λhu=>by
  subst hu;have:=List.all_eq_true.1 hk _ hc;simp[AV.known]at this)
 have hlen:=hrn.length;unfold zd7 at h;split at h
 ·rename_i id n;split at h
  ·rename_i e' s' n' cs hid;obtain⟨⟨⟨rfl,rfl,rfl⟩,hkn,hdl,hb1,hb2⟩,hk⟩:=h;obtain⟨hsl,v',s0,n0,hμ,hle,heq⟩:=hx;obtain⟨rfl,rfl,⟨xs,hown,hrx⟩,_⟩:=hH.ok id _ _ hid hμ;obtain rfl:=heq rfl;by_cases hys:m=0
   ·subst hys;obtain⟨ax,capx,rfl,hle⟩:=zjX hown;have hrun:=zhR (P:=P) (w:=w) (ty:=ty) (a:=ax) (c:=ay) (cap':=capy) he he ⟨_,hn⟩ hle;rw[Sem.run_bind,hrun];refine⟨.ov id n',G,H,Ext.refl _ _ _,hH,⟨hsl,_,_,n',hμ,Nat.le_refl _,λ_=>rfl⟩,?_⟩;have hds:ds=[]:=by cases ds <;> simp_all
    subst hds;have:H.set id (.vec e' s' n' cs)=H:=by
     apply List.ext_getElem?;intro k;by_cases hk:k=id
     ·subst hk;rw[List.getElem?_set_self (List.getElem?_eq_some_iff.1 hid).1];exact hid.symm
     ·rw[List.getElem?_set_ne (λh=>hk h.symm)]
    simp only[Nat.add_zero,List.append_nil,this]at hk;exact hk
   ·have hm0:0<m:=by omega
    obtain⟨b,off,rfl,hcc⟩:=hcn hm0;unfold zaM at hn;unfold zcH at hby;unfold zbj at hz;cases hi:P.info? e' with
    |none=>simp[hi]at hn
    |some i=>simp[hi]at hn hby hz;subst hn;subst hby;obtain⟨v2,w',hrun,hown',hcase⟩:=zoZ (P:=P) (ty:=ty) (zbK he) hi hz hzs hown ⟨b,off,none⟩ m capy news (by omega) (λj u hj=>by rw[add_lit];exact hcc j u hj) (hone hkn) hm0 (by simp only[maxLen];omega) hb1 hH.base;obtain⟨G',hE',hH',hT⟩:=zh2 hH hid hμ hown hown' hcase hm0 hrx hrn;rw[Sem.run_bind,hrun];exact⟨_,G',_,hE',hH',hT,hk⟩
  ·exact h.elim
 ·split at h
  ·obtain⟨hdx,ax,rfl⟩:=hx;have hrun:=zhR (P:=P) (w:=w) (ty:=ty) (a:=ax) (c:=ay) (cap':=capy) he he ⟨_,hn⟩ (Nat.le_refl 0);rw[Sem.run_bind];simp only[List.length_nil];rw[hrun];exact⟨.sl [] .none,G,H,Ext.refl _ _ _,hH,.slE _ _,h⟩
  ·rename_i m';obtain⟨⟨hkn,hdl,hb1,hb2⟩,hk⟩:=h;obtain⟨hdx,ax,rfl⟩:=hx;have hm0:0<m'+1:=by omega
   obtain⟨b,off,rfl,hcc⟩:=hcn hm0;unfold zaM at hn;unfold zcH at hby;unfold zbj at hz;cases hi:P.info? e with
   |none=>simp[hi]at hn
   |some i=>
    simp[hi]at hn hby hz;subst hn;subst hby;obtain⟨v',w',hrun,hown',hblk,hgr⟩:=zt2 (P:=P) (ty:=ty) (n:=0) (xs:=[]) (zbK he) hi hz hzs (by simp) (λb hb j u hj=>by simp at hj) (λh=>rfl) ⟨b,off,none⟩ (m'+1) capy news (by omega) (λj u hj=>by rw[add_lit];exact hcc j u hj) hm0 (by simp only[maxLen];omega) (by simpa using hb1) hH.base;obtain⟨hE,hH0⟩:=hH.newVec0 e i.size;have hid:(H++[.vec e i.size 0 []])[H.length]?=some (.vec e i.size 0 []):=by simp
    obtain⟨G',hE',hH',hT⟩:=zh2 (n:=0) (cs:=[]) (xs:=[]) hH0 hid (by rw[←hH.len];simp) (World.ownsRow_nil w B e i.size) (by simpa using hown') (.inr ⟨hblk,hgr⟩) hm0 trivial (hrn.mono λ_ _=>hE.arel);rw[Sem.run_bind];simp only[List.length_nil];rw[hrun];refine⟨_,G',_,hE.trans hE',hH',hT,?_⟩;simpa using hk
 ·exact h.elim

theorem zEK{t e ty:TypeId}{size bytes:Nat}{z:Value}{vx vy:Value}{x y:AV}{K:AV→zaa→Prop}(hH:HRel B w G H)(he:za6 P t=some e)(hn:zaM P e=some size)(hby:zcH P e=some bytes)(hz:zbj P e=some z)(hzl:(zbn z).length=size)(hx:TRel w G vx x)(hy:TRel w G vy y)(h:zay e size bytes x y H K):
  OpOK P B w G K (((do pure (.value (←Builtin.append_ #[t,t] ty #[vx,vy]))):Sem Next).run P w):=by
 unfold zay at h;split at h
 ·rename_i id off len cap;split at h
  ·rename_i cs hid;obtain⟨b,hμ,rfl⟩:=hy;obtain⟨_,_,vs,_,hw,hcs⟩:=hH.ok id _ _ hid hμ;have hl:=hcs.length;refine zv8 hH he hn hby hz hzl hx ((vs.toList.drop off).take (len*size)) _ _ rfl ((hcs.drop off).take _) (λ_=>⟨b,off,rfl,λj u hj=>?_⟩) h.2;rw[List.getElem?_take]at hj;split at hj
   ·simp only[World.cell?,hw];simpa using hj
   ·cases hj
  ·exact h.elim
 ·rename_i id n;split at h
  ·rename_i e' s' n' cs hid;obtain⟨⟨rfl,rfl⟩,h⟩:=h;obtain⟨⟨a,cap0,rfl,_⟩,v',s0,n0,hμ,_,heq⟩:=hy;obtain⟨rfl,rfl,⟨xs,hown,hcs⟩,_⟩:=hH.ok id _ _ hid hμ;obtain rfl:=heq rfl;refine zv8 hH he hn hby hz hzl hx xs _ _ rfl hcs (λhm=>?_) h;obtain⟨hl,hrow⟩:=hown;rcases hrow with ⟨h1,h2⟩ | ⟨g,cap,cur,h1,h2,h3,h4,h5,h6,h7⟩
   ·omega
   ·simp at h1;obtain⟨rfl,rfl⟩:=h1;obtain⟨_,_,_,hcell⟩:=zds ⟨hl,.inr ⟨g,cap0,cur,rfl,h2,h3,h4,h5,h6,h7⟩⟩;exact⟨g,0,rfl,λj u hj=>by
     rw[Nat.zero_add,hcell j (by rw[←hl];exact(List.getElem?_eq_some_iff.1 hj).1)];exact hj⟩
  ·exact h.elim
 obtain⟨ys,hdy,hsy,h⟩:∃ys,DRel w G.L vy (.sl ys .none)∧(∀c∈ys,c.length=size)∧za0 e size bytes x ys H K:=by
  unfold zbb at h;split at h
  ·rename_i ys tok _ _;exact⟨ys,zhU hy,h.1,h.2⟩
  ·cases hy;exact⟨[],.slE _ _,h.1,h.2⟩
  ·exact h.elim
 have hzr:=zdv (w:=w) (G:=G) z;have hzs:z.cells.size=size:=by have:=hzr.length;simp at this;omega
 -- the general step, for a right that is there already
 have main:∀ (G0:Gh) (H0:zaa) (id:Nat) (es:List (List AV)) (v:Value),Ext B w G w G0→HRel B w G0 H0→H0[id]?=some (.perm e size es.length)→G0.μ[id]?=some (.own v size es.length)→DRel w G.L v (.sl es .none) →
   (∀c∈es,c.length=size)→vx=v→(es.length+ys.length)*bytes≤140737488355328→es.length+ys.length≤9223372036854775807→K (.sl (es++ys) (.own id)) (H0.set id (.perm e size (es.length+ys.length))) →
   OpOK P B w G K (((do pure (.value (←Builtin.append_ #[t,t] ty #[vx,vy]))):Sem Next).run P w):=by
  intro G0 H0 id es v hE hH0 hid hμ hdx hsx hvx hb1 hb2 hk;subst hvx;obtain⟨_,_,⟨xs,hown⟩,_⟩:=hH0.ok id _ _ hid hμ;by_cases hys:ys=[]
  ·subst hys;obtain⟨ay,capy,rfl,_⟩:=hdy.slice_form;obtain⟨ax,capx,rfl,hle⟩:=zjX hown;have hrun:=zhR (P:=P) (w:=w) (ty:=ty) (a:=ax) (c:=ay) (cap':=capy) he he ⟨size,hn⟩ hle;simp only[List.length_nil];rw[Sem.run_bind,hrun];refine⟨.sl es (.own id),G0,H0,hE,hH0,⟨hE.drel hdx,_,size,es.length,hμ,Nat.le_refl _,λ_=>⟨rfl,hsx⟩⟩,?_⟩;have:H0.set id (.perm e size (es.length+0))=H0:=by
    apply List.ext_getElem?;intro k;by_cases hk:k=id
    ·subst hk;rw[List.getElem?_set_self (List.getElem?_eq_some_iff.1 hid).1];exact hid.symm
    ·rw[List.getElem?_set_ne (λh=>hk h.symm)]
   rw[List.length_nil,this]at hk;simpa using hk
  ·obtain⟨b,off,capy,news,hvy,hln,hrn,hcn,_⟩:=hdy.flat hys hsy;subst hvy;have hm0:0<ys.length:=by cases ys <;> simp_all
   unfold zaM at hn;unfold zcH at hby;unfold zbj at hz;cases hi:P.info? e with
   |none=>simp[hi]at hn
   |some i=>
    simp[hi]at hn hby hz;subst hn;subst hby;have hone:∀u∈news,u.oneCell'=true:=λu hu=>by obtain⟨j,hj⟩:=List.mem_iff_getElem?.1 hu;obtain⟨c,_,h2⟩:=hrn.get' hj;exact ztK h2
    obtain⟨v',w',hrun,hown',hcase⟩:=zoZ (P:=P) (ty:=ty) (zbK he) hi hz hzs hown ⟨b,off,none⟩ ys.length capy news hln (λj u hj=>by rw[add_lit];exact hcn j u hj) hone hm0 (by simp only[maxLen];omega) hb1 hH0.base;obtain⟨G',hE',hH',hT⟩:=zvq hH0 hid hμ hown hown' hcase rfl hm0 rfl hsx hsy (zF7 hown (hE.drel hdx) rfl hsx) (hrn.mono λ_ _=>hE.drel);rw[Sem.run_bind,hrun];exact⟨_,G',_,hE.trans hE',hH',hT,hk⟩
 unfold za0 at h;split at h
 ·cases hx;obtain⟨hE,hH0⟩:=hH.newOwn e size;have hid:(H++[.perm e size 0])[H.length]?=some (.perm e size ([]:List (List AV)).length):=by simp
  refine main _ _ H.length [] _ hE hH0 hid (by rw[←hH.len];simp) (.slE _ _) (by simp) rfl (by simpa using h.1.1) (by simpa using h.1.2) ?_;simpa using h.2
 ·rename_i es id _;obtain⟨h1,⟨h2,h3⟩,hk⟩:=h;obtain⟨hd,v',s',n',hμ,hle,heq⟩:=hx;have hok:=hH.ok id _ _ h1 hμ;obtain⟨hss,hnn,_⟩:=hok;subst hnn;subst hss;obtain⟨hvv,hsx⟩:=heq rfl;subst hvv;exact main G H id es _ (Ext.refl _ _ _) hH h1 hμ hd hsx rfl h2 h3 hk
 ·rename_i id n _;split at h
  ·rename_i e' s' n' cs hid;obtain⟨⟨⟨rfl,rfl,rfl⟩,hb1,hb2⟩,hk⟩:=h;obtain⟨hsl,v',s0,n0,hμ,hle,heq⟩:=hx;obtain⟨rfl,rfl,⟨xs,hown,hrx⟩,_⟩:=hH.ok id _ _ hid hμ;obtain rfl:=heq rfl;by_cases hys:ys=[]
   ·subst hys;obtain⟨ay,capy,rfl,_⟩:=hdy.slice_form;obtain⟨ax,capx,rfl,hle⟩:=zjX hown;have hrun:=zhR (P:=P) (w:=w) (ty:=ty) (a:=ax) (c:=ay) (cap':=capy) he he ⟨_,hn⟩ hle;simp only[List.length_nil];rw[Sem.run_bind,hrun];refine⟨.ov id n',G,H,Ext.refl _ _ _,hH,⟨hsl,_,_,n',hμ,Nat.le_refl _,λ_=>rfl⟩,?_⟩;have:H.set id (.vec e' s' n' cs)=H:=by
     apply List.ext_getElem?;intro k;by_cases hk:k=id
     ·subst hk;rw[List.getElem?_set_self (List.getElem?_eq_some_iff.1 hid).1];exact hid.symm
     ·rw[List.getElem?_set_ne (λh=>hk h.symm)]
    simp only[List.length_nil,Nat.add_zero,List.flatten_nil,List.append_nil,this]at hk;exact hk
   ·obtain⟨b,off,capy,news,hvy,hln,hrn,hcn,_⟩:=hdy.flat hys hsy;subst hvy;have hm0:0<ys.length:=by cases ys <;> simp_all
    unfold zaM at hn;unfold zcH at hby;unfold zbj at hz;cases hi:P.info? e' with
    |none=>simp[hi]at hn
    |some i=>
     simp[hi]at hn hby hz;subst hn;subst hby;have hone:∀u∈news,u.oneCell'=true:=λu hu=>by obtain⟨j,hj⟩:=List.mem_iff_getElem?.1 hu;obtain⟨c,_,h2⟩:=hrn.get' hj;exact ztK h2
     obtain⟨v2,w',hrun,hown',hcase⟩:=zoZ (P:=P) (ty:=ty) (zbK he) hi hz hzs hown ⟨b,off,none⟩ ys.length capy news hln (λj u hj=>by rw[add_lit];exact hcn j u hj) hone hm0 (by simp only[maxLen];omega) hb1 hH.base;obtain⟨G',hE',hH',hT⟩:=zh2 hH hid hμ hown hown' hcase hm0 hrx (hrn.mono λ_ _ h=>ARel.of_b h.toB);rw[Sem.run_bind,hrun];exact⟨_,G',_,hE',hH',hT,hk⟩
  ·exact h.elim
 ·rename_i es _;obtain⟨hdx,ax,rfl⟩:=hx;by_cases hys0:ys=[]
  ·subst hys0;have hk:K (.sl es .full) H:=h;obtain⟨ay,capy,rfl,_⟩:=hdy.slice_form;have hrun:=zhR (P:=P) (w:=w) (ty:=ty) (a:=ax) (c:=ay) (n:=es.length) (cap:=es.length) (cap':=capy) he he ⟨size,hn⟩ (Nat.le_refl _);simp only[List.length_nil];rw[Sem.run_bind,hrun];exact⟨.sl es .full,G,H,Ext.refl _ _ _,hH,⟨hdx,ax,rfl⟩,hk⟩
  have h:(0<ys.length∧(∀c∈es,c.length=size)∧(es.length+ys.length)*bytes≤140737488355328∧es.length+ys.length≤9223372036854775807)∧K (.sl (es++ys) (.own H.length)) (H++[.perm e size (es.length+ys.length)]):=by
   cases ys with
   |nil=>exact absurd rfl hys0
   |cons y ys=>exact h
  obtain⟨⟨hm0,hsx,hb1,hb2⟩,hk⟩:=h;have hys:ys≠[]:=λh=>by rw[h]at hm0;simp at hm0
  obtain⟨b,off,capy,news,hvy,hln,hrn,hcn,_⟩:=hdy.flat hys hsy;subst hvy;unfold zaM at hn;unfold zcH at hby;unfold zbj at hz;cases hi:P.info? e with
  |none=>simp[hi]at hn
  |some i=>
   simp[hi]at hn hby hz;subst hn;subst hby;obtain⟨xs,hxl,hrx,hxc,hx0⟩:∃xs:List Value,xs.length=es.length*i.size∧All2 (DRel w G.L) xs es.flatten∧(∀b,ax=some b→∀j u,xs[j]?=some u→w.cell? (b.add j)=some u)∧(ax=none→es.length=0):=by
    by_cases hne:es=[]
    ·subst hne;exact⟨[],by simp,trivial,λb hb j u hj=>by simp at hj,λ_=>rfl⟩
    ·obtain⟨b2,off2,cap2,xs,hv2,hxl,hrx,hxc,_⟩:=hdx.flat hne hsx;injection hv2 with e1 e2 e3
     subst e1;refine⟨xs,hxl,hrx,λb hb j u hj=>?_,λh=>by cases h⟩;injection hb with hb
     subst hb;rw[add_lit];exact hxc j u hj
   obtain⟨v',w',hrun,hown',hblk,hgr⟩:=zt2 (P:=P) (ty:=ty) (zbK he) hi hz hzs hxl hxc hx0 ⟨b,off,none⟩ ys.length capy news hln (λj u hj=>by rw[add_lit];exact hcn j u hj) hm0 (by simp only[maxLen];omega) hb1 hH.base;obtain⟨hE,hH0⟩:=hH.newOwn e i.size;have hid:(H++[.perm e i.size 0])[H.length]?=some (.perm e i.size 0):=by simp
   obtain⟨G',hE',hH',hT⟩:=zvq (es:=[]) (ys:=es++ys) (xs:=[]) (news:=xs++news) (m:=es.length+ys.length) (v':=v') (w':=w') hH0 hid (by rw[←hH.len];simp) (World.ownsRow_nil w B e i.size)
    (by simpa using hown') (.inr ⟨hblk,hgr⟩) (by simp) (by omega) rfl (by simp) (λc hc=>by
     rcases List.mem_append.1 hc with hc|hc
     ·exact hsx c hc
     ·exact hsy c hc) trivial (by rw[List.flatten_append];exact(hrx.append hrn).mono λ_ _=>hE.drel)
   rw[Sem.run_bind,hrun];refine⟨_,G',_,hE.trans hE',hH',hT,?_⟩;simpa using hk
 ·exact h.elim

theorem zCW{v:Value}{a:AV}(h:TRel w G v a)(hb:a.isB=true):BRel w G v a:=by cases a <;> first|exact h|(simp[AV.isB]at hb;done)
theorem zuu:∀ {vs:List Value} {asx:List AV},All2 (TRel w G) vs asx→asx.all AV.isB=true→All2 (BRel w G) vs asx
 |[],[],_,_=>trivial
 |v::vs,a::asx,h,hb=>by simp only[List.all_cons,Bool.and_eq_true]at hb;exact⟨zCW h.1 hb.1,zuu h.2 hb.2⟩


theorem zbQ{s:Sem Value}{K:AV→zaa→Prop}(hH:HRel B w G H)(h:∃r,s.run P w=.ok r w∧∃av,TRel w G r av∧K av H):OpOK P B w G K (((do pure (.value (←s))):Sem Next).run P w):=by obtain⟨r,h1,av,h2,h3⟩:=h;rw[Sem.run_bind,h1];exact⟨av,G,H,Ext.refl _ _ _,hH,h2,h3⟩

theorem zjV{a:Act}{F:List AV}(hF:FRel w G a.tmps F)(x:Option Operand):All2 (TRel w G) (x.map a.eval).toList (x.map (ev F)).toList:=by
 cases x with
 |none=>trivial
 |some x=>exact⟨zaF hF x,trivial⟩

theorem zo3{a:Act}{F:List AV}(hF:FRel w G a.tmps F)(ps:List (Nat × Operand)):
  All2 (λ(p:Nat×Value) (q:Nat×AV)=>p.1=q.1∧TRel w G p.2 q.2) (ps.map λ(i,x)=>(i,a.eval x)) (ps.map λp=>(p.1,ev F p.2)):=by
 induction ps with
 |nil=>trivial
 |cons p ps ih=>exact⟨⟨rfl,zaF hF p.2⟩,ih⟩

theorem zEc{f:FuncId}{vs:Array Value}(h:zc5 P f=true):(callFunc f vs).run P w=.ok (.enter f vs) w:=by
 unfold zc5 at h;cases hf:P.funcs[f]? with
 |none=>simp[hf]at h
 |some fn=>
  simp only[hf,Bool.and_eq_true,Bool.not_eq_true']at h;obtain⟨h1,h2⟩:=h;have h3:fn.body.isNone=false:=by cases hb:fn.body <;> simp_all
  simp only[callFunc,Sem.run_bind,run_program,Result.andThen_ok,hf,h1,h3,Bool.false_eq_true,if_false,Sem.run_pure]

theorem zER{c:Call}{ty:TypeId}{a:Act}{F:List AV}{fo:Operand}{K:AV→zaa→Prop}(hH:HRel B w G H)(hF:FRel w G a.tmps F)(hc:c.callee=.value fo)(h:aCallV P (ev F fo) (c.args.toList.map (ev F)) H K):OpOK P B w G K (((do let d ←resolve a.eval c ty;invoke d.target d.args):Sem Next).run P w):=by
 have hf:=zaF hF fo;unfold aCallV at h;split at h
 ·rename_i f caps hfe;rw[hfe]at hf;obtain⟨cs,hfv,hcaps⟩:=hf;split at h
  ·rename_i hcall;have hrun:((do let d ←resolve a.eval c ty;invoke d.target d.args):Sem Next).run P w=.ok (.enter f (c.args.map a.eval++cs)) w:=by simp only[resolve,hc,hfv,Deferred.ofValue,Sem.run_bind,Sem.run_pure,Result.andThen_ok,invoke,Array.empty_append];exact zEc hcall
   rw[hrun];refine⟨rfl,h B w G _ hH ?_⟩;have h1:=ztN hF c.args.toList;have h2:All2 (TRel w G) cs.toList caps:=hcaps.mono λ_ _ hb=>TRel.of_v (VRel.of_a (ARel.of_b hb));simpa using h1.append h2
  ·exact h.elim
 ·exact h.elim

theorem ztf{α:Type}{xs:Array α}{x:α}(h:xs.toList=[x]):xs=#[x]:=by cases xs;simp_all
theorem zgZ{α:Type}{xs:Array α}{x y:α}(h:xs.toList=[x,y]):xs=#[x,y]:=by cases xs;simp_all

theorem zEV{t t' ty e:TypeId}{size:Nat}{x y:AV}{u v:Value}{K:AV→zaa→Prop}(hH:HRel B w G H)(he:za6 P t=some e)(hs:zaM P e=some size)(hx:TRel w G u x)(hy:TRel w G v y)(h:zgS size x y H K):OpOK P B w G K (((do pure (.value (←Builtin.copy_ #[t,t'] ty #[u,v]))):Sem Next).run P w):=by
 unfold zgS at h;split at h
 ·rename_i id n lo z id' n' lo' z';split at h
  ·rename_i e0 s m cs hcs;obtain⟨⟨⟨⟨rfl,rfl,rfl⟩,rfl,rfl,rfl⟩,hkn⟩,hk⟩:=h;obtain⟨⟨hlo,a,c,rfl,hc⟩,v1,s1,n1,hμ,_,heq⟩:=hx;obtain⟨⟨hlo',a',c',rfl,hc'⟩,v2,s2,n2,hμ2,_,heq2⟩:=hy;rw[hμ]at hμ2;cases hμ2;obtain⟨rfl,rfl,⟨xs,hown,hr⟩,_⟩:=hH.ok _ _ _ hcs hμ
   replace heq:=heq rfl
   replace heq2:=heq2 rfl
   have hrl:=hr.length;obtain⟨hyl,hrow⟩:=hown;obtain⟨k,hkd⟩:∃k,k=min (m-lo') (m-lo):=⟨_,rfl⟩;have hkd2:Nat.min (m-lo') (m-lo)=k:=hkd.symm;rw[←hkd]at hk;by_cases hk0:k=0
   ·have hsame:H.set id' (.vec e0 s m (zft cs (lo*s) ((cs.drop (lo'*s)).take (k*s))))=H:=by
     rw[hk0];simp only[zft,Nat.zero_mul,List.take_zero,List.append_nil,List.length_nil,Nat.add_zero,List.take_append_drop];apply List.ext_getElem?;intro j;by_cases hj:id'=j
     ·subst hj;rw[List.getElem?_set_self (List.getElem?_eq_some_iff.1 hcs).1,hcs]
     ·rw[List.getElem?_set_ne hj]
    rw[hsame]at hk;have hrun:((do pure (.value (←Builtin.copy_ #[t,t'] ty #[.slice a (m-lo) c,.slice a' (m-lo') c']))):Sem Next).run P w=.ok (.value (.int .i64 ((k:Nat):Int))) w:=by
     have hl:∀(x:Addr),(loadCells x 0).run P w=.ok #[] w:=λx=>by simpa using run_loadCells_list (P:=P) w x [] (by simp)
     cases a <;> cases a' <;> simp[Builtin.copy_,zaT (zbK he),Builtin.lenOf,Builtin.firstCells,zbt hs,hkd2,hk0,storeCells,hl,goInt]
    rw[hrun];exact OpOK.same (av:=.int .i64 ((k:Nat):Int)) hH rfl hk
   ·rcases hrow with ⟨rfl,hn0⟩ | ⟨g,cap,cur,rfl,hBg,hw,hc1,hc2,hc3,hc4⟩
    ·omega
    ·simp only[zhT,if_neg (show ¬ cap=lo by omega),if_neg (show ¬ cap=lo' by omega),add_lit,Nat.zero_add,Value.slice.injEq]at heq heq2;obtain⟨rfl,_,rfl⟩:=heq;obtain⟨rfl,_,rfl⟩:=heq2;obtain⟨vals,hvals⟩:∃ vals,vals=(xs.drop (lo'*s)).take (k*s):=⟨_,rfl⟩;have hks:lo'*s+k*s≤m*s:=by rw[←Nat.add_mul];exact Nat.mul_le_mul_right _ (by omega)
     have hks2:lo*s+k*s≤m*s:=by rw[←Nat.add_mul];exact Nat.mul_le_mul_right _ (by omega)
     have hvl:vals.length=k*s:=by rw[hvals];simp;omega
     have hvr:All2 (ARel w G) vals ((cs.drop (lo'*s)).take (k*s)):=by rw[hvals];exact(hr.drop _).take _
     have hone:∀v∈vals,v.oneCell'=true:=zo4 hvr (λc hc=>by
      have:=List.all_eq_true.1 hkn c (List.mem_of_mem_drop (List.mem_of_mem_take hc));intro hcu;subst hcu;simp[AV.known]at this)
     obtain⟨_,_,_,hcell⟩:=zds (w:=w) (B:=B) (e:=e0) (size:=s) (n:=m) (cap:=cap) (g:=g) (xs:=xs) ⟨hyl,.inr ⟨g,cap,cur,rfl,hBg,hw,hc1,hc2,hc3,hc4⟩⟩;have hload:(loadCells ⟨g,lo'*s,none⟩ (k*s)).run P w=.ok vals.toArray w:=by rw[←hvl];refine run_loadCells_list (P:=P) w ⟨g,lo'*s,none⟩ vals λj v hj=>?_;have hjl:j<vals.length:=(List.getElem?_eq_some_iff.1 hj).1;rw[add_lit,hcell _ (by omega)];rw[hvals,List.getElem?_take_of_lt (by omega),List.getElem?_drop]at hj;exact hj
     have hms:m*s≤cur.size:=by rw[hc3];exact Nat.mul_le_mul_right _ hc1
     have hst:=run_storeCells_at P g (lo*s) e0 vals 0 cur w hw (by omega) hone;simp only[Nat.add_zero]at hst;have htk:(cur.toList.take (lo*s)++vals++cur.toList.drop (lo*s+vals.length)).toArray.toList.take (m*s)=xs.take (lo*s)++vals++xs.drop (lo*s+vals.length):=by
      rw[←hc4];simp only[List.take_append,List.length_take,Array.length_toList,List.length_append,hvl];rw[List.take_take,List.take_take,List.drop_take,List.take_of_length_le (l:=vals) (by omega)];congr 2
      ·congr 1;omega
      ·congr 1;omega
     have hvl2:((cs.drop (lo'*s)).take (k*s)).length=vals.length:=hvr.length.symm;obtain⟨hE,hH'⟩:=hH.storeV (cs':=zft cs (lo*s) ((cs.drop (lo'*s)).take (k*s))) hcs hμ hw hBg hc1 hc2 (by simp[List.length_append,hvl];omega) htk (by simp[hvl];omega) (by
      have:=((hr.take (lo*s)).append hvr).append (hr.drop (lo*s+vals.length));unfold zft;rw[hvl2];simpa using this)
     have hrun:((do pure (.value (←Builtin.copy_ #[t,t'] ty #[.slice (some ⟨g,lo*s,none⟩) (m-lo) (cap-lo),.slice (some ⟨g,lo'*s,none⟩) (m-lo') (cap-lo')]))):Sem Next).run P w=.ok (.value (.int .i64 ((k:Nat):Int))) (w.setRow g (cur.toList.take (lo*s)++vals++cur.toList.drop (lo*s+vals.length)).toArray):=by simp[Builtin.copy_,zaT (zbK he),Builtin.lenOf,Builtin.firstCells,zbt hs,hkd2,hload,hst,goInt]
     rw[hrun];exact⟨.int .i64 ((k:Nat):Int),G,_,hE,hH',rfl,hk⟩
  ·exact h.elim
 ·exact h.elim
theorem zEQ{c:Call}{ty:TypeId}{a:Act}{F:List AV}{b:Builtin}{K:AV→zaa→Prop}(hH:HRel B w G H)(hF:FRel w G a.tmps F)(hc:c.callee=.builtin b)(h:zeB P b c F H K):OpOK P B w G K (((do let d ←resolve a.eval c ty;invoke d.target d.args):Sem Next).run P w):=by
 cases b <;> simp only[zeB]at h <;> (try exact h.elim)
 case append=>
  split at h
  ·rename_i x y t t' hargs htypes;split at h
   ·rename_i e size bytes z he hs hb hz htt;simp only[beq_iff_eq]at htt;subst htt;split at h
    ·rename_i hq;simp only[Bool.and_eq_true,decide_eq_true_eq,beq_iff_eq]at hq;simp only[he,Option.bind_some]at hs hz hb;have h1:=zgZ hargs;have h2:=zgZ htypes;have hrun:((do let d ←resolve a.eval c ty;invoke d.target d.args):Sem Next).run P w=((do pure (.value (←Builtin.append_ #[t,t] ty #[a.eval x,a.eval y]))):Sem Next).run P w:=by simp only[resolve,hc,h1,h2,List.map_toArray,List.map_cons,List.map_nil,Sem.run_bind,Sem.run_pure,Result.andThen_ok,invoke,builtin]
     rw[hrun];exact zEK hH he hs hb hz hq.2 (zaF hF x) (zaF hF y) h
    ·exact h.elim
   ·exact h.elim
  ·exact h.elim
 case copy=>
  split at h
  ·rename_i x y t t' hargs htypes;split at h
   ·rename_i size hs;have h1:=zgZ hargs;have h2:=zgZ htypes;cases he:za6 P t with
    |none=>simp[he]at hs
    |some e=>
     simp only[he,Option.bind_some]at hs;have hrun:((do let d ←resolve a.eval c ty;invoke d.target d.args):Sem Next).run P w=((do pure (.value (←Builtin.copy_ #[t,t'] ty #[a.eval x,a.eval y]))):Sem Next).run P w:=by simp only[resolve,hc,h1,h2,List.map_toArray,List.map_cons,List.map_nil,Sem.run_bind,Sem.run_pure,Result.andThen_ok,invoke,builtin]
     rw[hrun];exact zEV hH he hs (zaF hF x) (zaF hF y) h
   ·exact h.elim
  ·exact h.elim
 case max=>
  split at h
  ·rename_i x y hargs;have h1:=zgZ hargs;have hrun:((do let d ←resolve a.eval c ty;invoke d.target d.args):Sem Next).run P w=((do pure (.value (←Builtin.max_ c.argTypes ty #[a.eval x,a.eval y]))):Sem Next).run P w:=by simp only[resolve,hc,h1,List.map_toArray,List.map_cons,List.map_nil,Sem.run_bind,Sem.run_pure,Result.andThen_ok,invoke,builtin]
   rw[hrun];unfold zf5 at h;have hx:=zaF hF x;have hy:=zaF hF y;split at h
   ·rename_i k m k' n e1 e2;rw[e1]at hx;rw[e2]at hy;have hx:a.eval x=.int k m:=hx;have hy:a.eval y=.int k' n:=hy;rw[hx,hy];have hr:((do pure (.value (←Builtin.max_ c.argTypes ty #[.int k m,.int k' n]))):Sem Next).run P w=.ok (.value (.int k (if n>m then n else m))) w:=by
     have h2:(Builtin.max_ c.argTypes ty #[.int k m,.int k' n]).run P w=.ok (.int k (if n>m then n else m)) w:=by simp[Builtin.max_,Builtin.max2]
     rw[Sem.run_bind,h2];rfl
    rw[hr];exact OpOK.same (av:=.int k (if n>m then n else m)) hH rfl h
   ·exact h.elim
  ·exact h.elim
 case len=>
  split at h
  ·rename_i x t hargs htypes;split at h
   ·rename_i u hu;have h1:=ztf hargs;have h2:=ztf htypes;have hrun:((do let d ←resolve a.eval c ty;invoke d.target d.args):Sem Next).run P w=((do pure (.value (←Builtin.len_ #[t] ty #[a.eval x]))):Sem Next).run P w:=by simp only[resolve,hc,h1,h2,List.map_toArray,List.map_cons,List.map_nil,Sem.run_bind,Sem.run_pure,Result.andThen_ok,invoke,builtin]
    rw[hrun];exact zbQ hH (zE3 (zaF hF x) hu h)
   ·exact h.elim
  ·exact h.elim

theorem zDH{o:Oper}{a:Act}{F:List AV}{K:AV→zaa→Prop}(hH:HRel B w G H)(hF:FRel w G a.tmps F)(h:zc4 P o F H K):OpOK P B w G K ((execOp a.eval o).run P w):=by
 obtain⟨dst,op,type,pos,after,guard⟩:=o;unfold zc4 at h;simp only[]at h;cases op <;> (try simp only[]at h) <;> (try exact h.elim) <;> simp only[execOp]
 case move x=>exact OpOK.same hH (zaF hF x) h
 case assign x=>exact OpOK.same hH (zaF hF x) h
 case pick c x y=>
  unfold zao at h;split at h
  ·rename_i t ht;have hc:=zaF hF c;rw[ht]at hc;have hc:a.eval c=.bool t:=hc;have hrun:((do pure (.value (if ←asBool (a.eval c) then a.eval x else a.eval y))):Sem Next).run P w=.ok (.value (if t=true then a.eval x else a.eval y)) w:=by rw[hc];cases t <;> rfl
   rw[hrun];refine OpOK.same hH ?_ h;cases t
   ·exact zaF hF y
   ·exact zaF hF x
  ·exact h.elim
 case alloc t=>
  split at h
  ·rename_i z hz;exact zEJ hH hz h
  ·exact h.elim
 case box t x=>exact zEM hH (zaF hF x) h
 case build t parts=>
  split at h
  ·rename_i z ps hz hp;exact zbQ hH (zEN hz hp (by simpa using zo3 hF parts.toList) h)
  ·exact h.elim
 case buildSlice t len parts=>
  split at h
  ·rename_i size z hs hz;split at h
   ·rename_i hb;simp only[Bool.and_eq_true,decide_eq_true_eq,beq_iff_eq]at hb;cases he:za6 P t with
    |none=>simp[he]at hs
    |some e=>simp only[he,Option.bind_some]at hs hz;exact zEO hH he hs hz hb.1.1 hb.1.2 hb.2 (by simpa using zo3 hF parts.toList) h
   ·exact h.elim
  ·exact h.elim
 case load t x=>
  split at h
  ·rename_i g n hg hn;obtain⟨u,h1,av,h2,h3⟩:=zv9 hH (zaF hF x) hg hn h;exact zbQ hH ⟨u,h1,av,h2,h3⟩
  ·exact h.elim
 case store t x y=>
  split at h
  ·rename_i n hn;obtain⟨w',H',h1,h2,h3,h4⟩:=zFe hH (zaF hF x) (zaF hF y) hn h;have hrun:((do Instr.storeAt t (a.eval x) (a.eval y);pure .skip):Sem Next).run P w=.ok .skip w':=by rw[Sem.run_bind,h1];rfl
   rw[hrun];exact⟨G,H',h2,h3,h4⟩
  ·exact h.elim
 case nilCheck x=>
  have hx:=zaF hF x;rw[zBi]at h;split at h
  ·rename_i id off hid;rw[hid]at hx h;obtain⟨b,hμ,hv⟩:=hx;rw[hv];exact OpOK.same hH (av:=.ptr id off) ⟨b,hμ,rfl⟩ h
  ·rename_i cs hid;rw[hid]at hx h;obtain⟨b,off,hv,hc⟩:=hx;rw[hv];exact OpOK.same hH (av:=.view cs) ⟨b,off,rfl,hc⟩ h
  ·rename_i f cs hid;rw[hid]at hx h;obtain⟨vs,hv,hc⟩:=hx;rw[hv];exact OpOK.same hH (av:=.fn f cs) ⟨vs,rfl,hc⟩ h
  ·rename_i id m off hid;rw[hid]at hx h;obtain⟨⟨b,o,hv⟩,hr⟩:=hx;rw[hv]at hr ⊢;exact OpOK.same hH (av:=.vp id m off) ⟨⟨b,o,rfl⟩,hr⟩ h
  ·exact h.elim
 case binOp op t x y yt=>
  split at h
  ·rename_i hy;exact zbQ hH (zFa (zaF hF x) hy h)
  ·exact zbQ hH (zEL (zaF hF x) (zaF hF y) h)
 case unOp op t x=>exact zbQ hH (zFf (zaF hF x) h)
 case convert s t x=>
  have hspec:∀ k,cvK P s t=some k→(match k with
    |.ints k=>(∃j,P.underlying s=some (.int j))∧P.underlying t=some (.int k)
    |.strs=>P.underlying s=some .string∧P.underlying t=some .string
    |.bytes=>∃e,P.underlying s=some (.slice e)∧P.underlying t=some .string∧tU8 P e=true):=by
   intro k hk;unfold cvK at hk;split at hk
   ·rename_i hs;split at hk
    ·rename_i ht;cases hk;exact⟨⟨_,hs⟩,ht⟩
    ·cases hk
   ·rename_i hs;split at hk
    ·rename_i ht;cases hk;exact⟨hs,ht⟩
    ·cases hk
   ·rename_i hs;split at hk
    ·rename_i ht;split at hk
     ·rename_i he;cases hk;exact⟨_,hs,ht,he⟩
     ·cases hk
    ·cases hk
   ·cases hk
  split at h
  ·rename_i k hk;obtain⟨⟨j,hs⟩,ht⟩:=hspec _ hk;exact zbQ hH (zES (zaF hF x) hs ht h)
  ·rename_i hk;obtain⟨hs,ht⟩:=hspec _ hk;exact zbQ hH (zEU (zaF hF x) hs ht h)
  ·rename_i hk;obtain⟨e,hs,ht,he⟩:=hspec _ hk;exact zbQ hH (zET (zaF hF x) hs ht he h)
  ·exact h.elim
 case makeFunc fn first caps=>
  cases fn <;> simp only[]at h <;> (try exact h.elim)
  rename_i f;split at h
  ·rename_i hfirst;obtain⟨hb,hk⟩:=h;have hf0:first=#[]:=by cases first;simp_all
   subst hf0;have hrun:((do pure (.value (←Instr.makeFunc (.func f) (Array.map a.eval #[]) (caps.map a.eval)))):Sem Next).run P w=.ok (.value (.func (.func f) #[] (caps.map a.eval))) w:=by simp[Instr.makeFunc]
   rw[hrun];refine OpOK.same hH (av:=.fn f (caps.toList.map (ev F))) ⟨_,rfl,?_⟩ hk;have:=zuu (ztN hF caps.toList) hb;simpa using this
  ·exact h.elim
 case makeSlice t l c=>
  split at h
  ·rename_i size bytes z hs hb hz;split at h
   ·rename_i hq;simp only[Bool.and_eq_true,decide_eq_true_eq,beq_iff_eq]at hq;cases he:za6 P t with
    |none=>simp[he]at hs
    |some e=>simp only[he,Option.bind_some]at hs hz hb;exact zE6 hH he hs hb hz hq.1 hq.2 (zaF hF l) (zaF hF c) h
   ·exact h.elim
  ·exact h.elim
 case slice t x lo hi mx=>
  cases mx <;> simp only[]at h <;> (try exact h.elim)
  split at h
  ·rename_i ht;exact zbQ hH (zpl (zaF hF x) (zjV hF lo) (zjV hF hi) ht (by omega) h)
  ·rename_i ht;split at h
   ·rename_i size hs;exact zbQ hH (zpl (zaF hF x) (zjV hF lo) (zjV hF hi) ht (λ_=>hs) h)
   ·exact h.elim
  ·exact h.elim
 case fieldAddr s x i=>
  split at h
  ·rename_i f hf;split at h
   ·rename_i n hn;exact zbQ hH (zEY (zaF hF x) hf hn h)
   ·exact h.elim
  ·exact h.elim
 case field s x i=>
  split at h
  ·rename_i f hf;split at h
   ·rename_i g n hg hn;exact zbQ hH (zEZ (zaF hF x) hf hg hn h)
   ·exact h.elim
  ·exact h.elim
 case indexAddr t x i=>
  split at h
  ·rename_i size hs;cases he:za6 P t with
   |none=>simp[he]at hs
   |some e=>simp only[he,Option.bind_some]at hs;exact zbQ hH (zE0 (zaF hF x) (zaF hF i) he hs h)
  ·rename_i a size hs ha hz;simp only[ha,Option.bind_some]at hz;exact zbQ hH (zE1 (zaF hF x) (zaF hF i) ha hz h)
  ·exact h.elim
 case index t x i=>
  split at h
  ·rename_i ht;exact zbQ hH (zE2 (zaF hF x) (zaF hF i) ht h)
  ·exact h.elim
 case extract x i=>exact zbQ hH (zEW (zaF hF x) h)
 case call c=>
  split at h
  ·rename_i fo hc;exact zER hH hF hc h
  ·rename_i b hc;exact zEQ hH hF hc h
  ·exact h.elim

theorem zDL{o:Oper}{a:Act}{F:List AV}{K:AV→zaa→Prop}(hH:HRel B w G H)(hF:FRel w G a.tmps F)(h:zeE P o.op F H K):OpOK P B w G K ((execOp a.eval o).run P w):=by
 obtain⟨dst,op,type,pos,after,guard⟩:=o;unfold zeE at h;simp only[]at h;cases op <;> (try simp only[]at h) <;> (try exact h.elim) <;> simp only[execOp]
 case makeMap t r=>
  split at h
  ·exact zE8 hH h
  ·exact zE9 hH h
  ·exact h.elim
 case lookup t x i ok=>
  split at h
  ·rename_i z hz;cases he:zep P t with
   |none=>simp[he]at hz
   |some e=>simp only[he,Option.bind_some]at hz;exact zbQ hH (zE4 hH he hz (zaF hF x) (zaF hF i) h)
  ·rename_i z _ hz;cases he:zeo P t with
   |none=>simp[he]at hz
   |some e=>simp only[he,Option.bind_some]at hz;exact zbQ hH (zE5 hH he hz (zaF hF x) (zaF hF i) h)
  ·exact h.elim
 case mapUpdate t m k x=>
  split at h
  ·rename_i e he;obtain⟨w',H',h1,h2,h3,h4⟩:=zwa hH he (zaF hF m) (zaF hF k) (zaF hF x) h;have hrun:((do Instr.mapUpdate t (a.eval m) (a.eval k) (a.eval x);pure .skip):Sem Next).run P w=.ok .skip w':=by rw[Sem.run_bind,h1];rfl
   rw[hrun];exact⟨G,H',h2,h3,h4⟩
  ·rename_i e _ he;obtain⟨w',H',h1,h2,h3,h4⟩:=zwb hH he (zaF hF m) (zaF hF k) (zaF hF x) h;have hrun:((do Instr.mapUpdate t (a.eval m) (a.eval k) (a.eval x);pure .skip):Sem Next).run P w=.ok .skip w':=by rw[Sem.run_bind,h1];rfl
   rw[hrun];exact⟨G,H',h2,h3,h4⟩
  ·exact h.elim
 case insert t m k x=>
  split at h
  ·rename_i e he;obtain⟨w',H',h1,h2,h3,h4⟩:=zwa hH he (zaF hF m) (zaF hF k) (zaF hF x) h;have hrun:((do Instr.mapUpdate t (a.eval m) (a.eval k) (a.eval x);pure .skip):Sem Next).run P w=.ok .skip w':=by rw[Sem.run_bind,h1];rfl
   rw[hrun];exact⟨G,H',h2,h3,h4⟩
  ·rename_i e _ he;obtain⟨w',H',h1,h2,h3,h4⟩:=zwb hH he (zaF hF m) (zaF hF k) (zaF hF x) h;have hrun:((do Instr.mapUpdate t (a.eval m) (a.eval k) (a.eval x);pure .skip):Sem Next).run P w=.ok .skip w':=by rw[Sem.run_bind,h1];rfl
   rw[hrun];exact⟨G,H',h2,h3,h4⟩
  ·exact h.elim
theorem zfC{o:Oper}{a:Act}{F:List AV}{K:AV→zaa→Prop}(hH:HRel B w G H)(hF:FRel w G a.tmps F)(h:aop P o F H K):OpOK P B w G K ((execOp a.eval o).run P w):=by
 unfold aop at h;split at h
 ·exact zDL hH hF h
 ·exact zDH hH hF h

end Go.Abs
