import Derived.Test.YtdmamdnkcefmmaaGreatDoorAbsI
import Derived.Still
set_option linter.unusedSimpArgs false
set_option linter.unusedVariables false
set_option maxRecDepth 8000
namespace Go.Proofs.YtdmamdnkcefmmaaGreatDoor
section
open Go.RowKit

variable {fl:Bool} {wc:WM} {P:Program} {B:Nat} {w:World} {G:Gh} {H:zaa}
theorem zvg{e s b m:Nat}{x:AV}{ds:List AV}{H:zaa}{K:AV→zaa→Prop}(h:zdV e s b x m ds H K):∃r H',(zdV e s b x m ds H λv H2=>v=r∧H2=H')∧K r H':=by
 unfold zdV at h ⊢;split at h
 ·split at h
  ·exact⟨_,_,⟨h.1,rfl,rfl⟩,h.2⟩
  ·exact h.elim
 ·split at h
  ·exact⟨_,_,⟨rfl,rfl⟩,h⟩
  ·exact⟨_,_,⟨h.1,rfl,rfl⟩,h.2⟩
 ·exact h.elim
theorem zvi{e s b:Nat}{x:AV}{ys:List (List AV)}{H:zaa}{K:AV→zaa→Prop}(h2:zaK e s b x ys H K):∃r H',(zaK e s b x ys H λv H2=>v=r∧H2=H')∧K r H':=by
 unfold zaK at h2 ⊢;split at h2
 ·exact⟨_,_,⟨h2.1,rfl,rfl⟩,h2.2⟩
 ·exact⟨_,_,⟨h2.1,h2.2.1,rfl,rfl⟩,h2.2.2⟩
 ·split at h2
  ·exact⟨_,_,⟨h2.1,rfl,rfl⟩,h2.2⟩
  ·exact h2.elim
 ·split at h2
  ·exact⟨_,_,⟨rfl,rfl⟩,h2⟩
  ·exact⟨_,_,⟨h2.1,rfl,rfl⟩,h2.2⟩
 ·exact h2.elim
theorem zEj{e s b:Nat}{x y:AV}{H:zaa}{K:AV→zaa→Prop}(h:zax e s b x y H K):∃r H',(zax e s b x y H λv H2=>v=r∧H2=H')∧K r H':=by
 unfold zax at h ⊢;split at h
 ·split at h
  ·obtain⟨r,H',h1,h2⟩:=zvg h.2;exact⟨r,H',⟨h.1,h1⟩,h2⟩
  ·exact h.elim
 ·split at h
  ·obtain⟨r,H',h1,h2⟩:=zvg h.2;exact⟨r,H',⟨h.1,h1⟩,h2⟩
  ·exact h.elim
 ·unfold zaO at h ⊢;split at h
  ·obtain⟨r,H',h1,h2⟩:=zvi h.2;exact⟨r,H',⟨h.1,h1⟩,h2⟩
  ·obtain⟨r,H',h1,h2⟩:=zvi h.2;exact⟨r,H',⟨h.1,h1⟩,h2⟩
  ·exact h.elim
theorem FRel.put{a:Act}{F:List AV}{d:Option Tmp}{v:Value}{av:AV}(hF:FRel w G a.tmps F)(hv:TRel w G v av):FRel w G (a.put d v).tmps (zbQ F d av):=by
 cases d with
 |none=>exact hF
 |some d=>unfold FRel at *;simp only[Act.put,zbQ,bT];exact All2.set d hF hv
theorem FRel.ext{w':World}{G':Gh}{tm:Array Value}{F:List AV}(hF:FRel w G tm F)(he:Ext B w G w' G'):FRel w' G' tm F:=All2.mono (λ_ _=>he.trel) hF

theorem zwB{tm:Array Value}{F:List AV}{d:Nat}{x:AV}(hF:FRel w G tm F)(h:F.getD d .unk=x)(hx:x≠.unk):∃v,tm[d]?=some v∧TRel w G v x:=by
 rw[List.getD_eq_getElem?_getD]at h;cases hd:F[d]? with
 |none=>rw[hd]at h;exact absurd h.symm hx
 |some y=>rw[hd]at h;simp at h;subst h;obtain⟨v,h1,h2⟩:=All2.get hF hd;exact⟨v,by simpa using h1,h2⟩

theorem zri{d6:Array Oper}{o:Oper}{a:Act}{F:List AV}{j d:Nat}{want b:Bool}(hF:FRel w G a.tmps F)(hg:o.guard=some (j,want))(hd:(d6[j]?).bind (·.dst)=some d)(hb:F.getD d .unk=.bool b):Region.wanted o (yielded d6 a.tmps)=(b == want):=by
 obtain⟨v,h1,h2⟩:=zwB hF hb (by simp);have h2:v=.bool b:=h2;subst h2;simp[Region.wanted,hg,yielded,hd,h1]
theorem zzr{d6:Array Oper}{o:Oper}{a:Act}{F:List AV}{j d:Nat}{want:Bool}(hF:FRel w G a.tmps F)(hg:o.guard=some (j,want))(hd:(d6[j]?).bind (·.dst)=some d)(hb:F.getD d .unk=.tup []):Region.wanted o (yielded d6 a.tmps)=false:=by
 obtain⟨v,h1,h2⟩:=zwB hF hb (by simp);obtain⟨vs,rfl,_⟩:=h2;simp[Region.wanted,hg,yielded,hd,h1]

theorem zre:TRel w G undef (.tup []):=⟨#[],rfl,trivial⟩

theorem zh9{o:Oper}{a:Act}{F:List AV}{K:AV→zaa→Prop}{K':Act→World→Prop}{Q:Exit→Act→World→Prop}(hF:FRel w G a.tmps F)(h:OpOK P B w G K ((execOp a.eval o).run P w))(hK:∀v av w' G' H',Ext B w G w' G'→HRel B w' G' H'→TRel w' G' v av→K av H'→K' (a.put o.dst v) w'):o.wp P a w K' Q:=by
 unfold Oper.wp;generalize (execOp a.eval o).run P w=r at *;cases r with
 |halt x w'=>cases x <;> exact h.elim
 |ok n w'=>
  cases n <;> simp only[OpOK]at h <;> simp only[Oper.upon]
  case value v=>obtain⟨av,G',H',h1,h2,h3,h4⟩:=h;exact hK v av w' G' H' h1 h2 h3 h4
  case skip=>obtain⟨G',H',h1,h2,h4⟩:=h;exact hK undef (.tup []) w' G' H' h1 h2 zre h4
  case enter f vs=>obtain⟨rfl,hc⟩:=h;refine hc.mono λe w'' he=>?_;obtain⟨v,r,H',G',rfl,h1,h2,h3,h4⟩:=he;exact hK v r w'' G' H' h1 h2 h3 h4

theorem HRel.newB(h:HRel B w G H)(vs:Array Value)(t:TypeId)(cs:List AV)(hc:All2 (ARel w G) vs.toList cs):
  Ext B w G (w.alloc (.cells vs t)) ⟨G.L,G.μ++[.blk w.heap.size]⟩∧HRel B (w.alloc (.cells vs t)) ⟨G.L,G.μ++[.blk w.heap.size]⟩ (H++[.bld t cs]):=by
 obtain⟨he,hH⟩:=h.new vs t cs hc;refine⟨he,by simpa using hH.len,λid ab gi h1 h2=>?_,hH.dist,hH.fresh,hH.lt,hH.base⟩;by_cases d7:id<H.length
 ·rw[List.getElem?_append_left d7]at h1;exact hH.ok id ab gi (by rw[List.getElem?_append_left d7];exact h1) h2
 ·have eM:=(List.getElem?_eq_some_iff.1 h1).1;simp at eM;obtain rfl:id=H.length:=by omega
  simp at h1;subst h1;have hg:gi=.blk w.heap.size:=by simp only[]at h2;rw[←h.len]at h2;simpa using h2.symm
  subst hg;exact⟨h.base,h.fresh _ (aa _),vs,zdq _,hc.mono λ_ _=>he.arel⟩
theorem zGU{o:Oper}{a:Act}{F:List AV}{K:AV→zaa→Prop}(hH:HRel B w G H)(hF:FRel w G a.tmps F)(h:zha P o F H K):OpOK P B w G K ((execOp a.eval o).run P w):=by
 unfold zha at h;split at h
 ·rename_i t fp;split at h
  ·split at h
   ·rename_i z hz;obtain⟨he,eJ⟩:=hH.newB z.cells t (zbx z) (zdR z);have ef:(execOp a.eval o).run P w=.ok (.value (.pointer (some ⟨w.heap.size,0,none⟩))) (w.alloc (.cells z.cells t)):=by obtain⟨dst,op,type,pos,after,guard⟩:=o;simp only[]at fp;subst fp;simp[execOp,Instr.alloc,ze5 hz,newVar,newRow,World.alloc_eq]
    rw[ef];refine⟨.ptr H.length 0,_,_,he,eJ,⟨w.heap.size,?_,rfl⟩,h⟩;rw[←hH.len];simp
   ·exact h.elim
  ·exact zfA hH hF h
 ·exact zfA hH hF h

theorem zIu{t e:TypeId}{size len:Nat}{z:Value}{dX:Array (Nat × Value)}{d5:List (Nat × AV)}{K:AV→zaa→Prop}(hH:HRel B w G H)(he:zbc P t=some e)(hn:za0 P e=some size)(hz:zbA P e=some z)(jj:(zbx z).length=size)(hr:All2 (λ(p:Nat × Value) (q:Nat × AV)=>p.1=q.1∧TRel w G p.2 q.2) dX.toList d5)(h:zoq e size len d5 H K):
  OpOK P B w G K (((do pure (.value (←Instr.buildSlice t len dX))):Sem Next).run P w):=by
 unfold zoq at h;split at h
 ·rename_i x;obtain⟨gC,hk⟩:=h;have gQ:=zdR (w:=w) (G:=G) z;have gR:z.cells.size=1:=by have:=gQ.length;simp at this;omega
  obtain⟨v,rfl,hv⟩:∃v,dX=#[(0,v)]∧ARel w G v x:=by
   match dX,hr with
   |⟨[(i,v)]⟩,⟨⟨h1,h2⟩,_⟩=>have h1:i=0:=h1;subst h1;refine⟨v,rfl,?_⟩;cases x <;> first|exact h2|(simp[AV.oneK]at gC;done)
   |⟨[]⟩,hr=>exact hr.elim
   |⟨_::_::_⟩,hr=>exact hr.2.elim
  have fm:v.oneCell'=true:=ARel.oneCell (λhu=>by subst hu;simp[AV.oneK]at gC) hv;have oY:v.cells=#[v]:=by cases v <;> first|rfl|(simp[Value.oneCell']at fm)
  have ef:((do pure (.value (←Instr.buildSlice t 1 #[(0,v)]))):Sem Next).run P w=.ok (.value (.slice (some ⟨w.heap.size,0,none⟩) 1 1)) (w.alloc (.cells #[v] e)):=by
   have iq:Instr.fill (λi=>some (i*1,1)) ((Array.range (1*1)).map λx=>z.cells[x % z.cells.size]!) [(0,v)]=some #[v]:=by
    have hs:((Array.range (1*1)).map λx=>z.cells[x % z.cells.size]!).size=1:=by simp
    unfold Instr.fill;simp only[oY,hs];simp[Instr.fill];refine Array.ext (by simp) λi h1 h2=>?_;have:i=0:=by simp at h2;omega
    subst this;simp
   simp only[bv]at iq;simp[Instr.buildSlice,za1 (zb6 he),zbX hn,ze5 hz,iq,newRow,World.alloc_eq]
  obtain⟨hE,iL⟩:=hH.newVec0 e 1;have d9:(H++[.vec e 1 0 []])[H.length]?=some (.vec e 1 0 []):=by simp
  have fk:GrB w (w.alloc (.cells #[v] e)) none:=⟨aa _,rfl,rfl,rfl,by simp,λk hk _=>zcI (w:=w) hk⟩;have ed:(w.alloc (.cells #[v] e)).ownsRow B e 1 (.slice (some ⟨w.heap.size,0,none⟩) (0+1) 1) (0+1) ([]++[v]):=
   ⟨rfl,.inr ⟨w.heap.size,1,#[v],rfl,hH.base,zdq (w:=w) _,by omega,by simp[maxLen],rfl,rfl⟩⟩
  obtain⟨G',iW,eJ,hT⟩:=zir (n:=0) (m:=1) (cs:=[]) (xs:=[]) (news:=[v]) (ds:=[x]) iL d9 (by rw[←hH.len];simp) (World.ownsRow_nil w B e 1) ed (.inr ⟨rfl,fk⟩) (by omega) trivial ⟨hE.arel hv,trivial⟩;rw[ef];refine⟨_,G',_,hE.trans iW,eJ,hT,?_⟩;simpa using hk
 ·rename_i x y;obtain⟨⟨fF,hy1⟩,hk⟩:=h;have gQ:=zdR (w:=w) (G:=G) z;have gR:z.cells.size=2:=by have:=gQ.length;simp at this;omega
  obtain⟨u,v,rfl,hu,hv⟩:∃u v,dX=#[(0,.agg #[u,v])]∧ARel w G u x∧ARel w G v y:=by
   match dX,hr with
   |⟨[(i,p)]⟩,⟨⟨h1,h2⟩,_⟩=>
    have h1:i=0:=h1;subst h1;obtain⟨us,rfl,h3⟩:=h2
    match us,h3 with
    |⟨[u,v]⟩,⟨h4,h5,_⟩=>exact⟨u,v,rfl,h4,h5⟩
    |⟨[]⟩,h3=>exact h3.elim
    |⟨[_]⟩,h3=>exact h3.2.elim
    |⟨_::_::_::_⟩,h3=>exact h3.2.2.elim
   |⟨[]⟩,hr=>exact hr.elim
   |⟨_::_::_⟩,hr=>exact hr.2.elim
  have ef:((do pure (.value (←Instr.buildSlice t 1 #[(0,.agg #[u,v])]))):Sem Next).run P w=.ok (.value (.slice (some ⟨w.heap.size,0,none⟩) 1 1)) (w.alloc (.cells #[u,v] e)):=by
   have iq:Instr.fill (λi=>some (i*2,2)) ((Array.range (1*2)).map λx=>z.cells[x % z.cells.size]!) [(0,.agg #[u,v])]=some #[u,v]:=by
    have hs:((Array.range (1*2)).map λx=>z.cells[x % z.cells.size]!).size=2:=by simp
    have oY:(Value.agg #[u,v]).cells=#[u,v]:=rfl;unfold Instr.fill;simp only[oY,hs];simp[Instr.fill];refine Array.ext (by simp) λi h1 h2=>?_;have:i=0∨i=1:=by simp at h2;omega
    rcases this with rfl|rfl <;> simp
   simp[Instr.buildSlice,za1 (zb6 he),zbX hn,ze5 hz,newRow,World.alloc_eq,cB]at iq ⊢;simp[iq]
  obtain⟨hE,iL⟩:=hH.newVec0 e 2;have d9:(H++[.vec e 2 0 []])[H.length]?=some (.vec e 2 0 []):=by simp
  have fk:GrB w (w.alloc (.cells #[u,v] e)) none:=⟨aa _,rfl,rfl,rfl,by simp,λk hk _=>zcI (w:=w) hk⟩;have ed:(w.alloc (.cells #[u,v] e)).ownsRow B e 2 (.slice (some ⟨w.heap.size,0,none⟩) (0+1) 1) (0+1) ([]++[u,v]):=
   ⟨rfl,.inr ⟨w.heap.size,1,#[u,v],rfl,hH.base,zdq (w:=w) _,by omega,by simp[maxLen],rfl,rfl⟩⟩
  obtain⟨G',iW,eJ,hT⟩:=zir (n:=0) (m:=1) (cs:=[]) (xs:=[]) (news:=[u,v]) (ds:=[x,y]) iL d9 (by rw[←hH.len];simp) (World.ownsRow_nil w B e 2) ed (.inr ⟨rfl,fk⟩) (by omega) trivial ⟨hE.arel hu,hE.arel hv,trivial⟩;rw[ef];refine⟨_,G',_,hE.trans iW,eJ,hT,?_⟩;simpa using hk
 ·exact h.elim
theorem zxp{x:AV}{v:Value}{K:Bool→Prop}(hx:TRel w G v x)(h:zge x K):∃ad n c b,v=.slice ad n c∧b=ad.isNone∧K b:=by
 unfold zge at h;split at h
 ·cases hx;exact⟨_,_,_,_,rfl,rfl,h⟩
 ·obtain⟨b,_,rfl⟩:=hx;exact⟨_,_,_,_,rfl,rfl,h⟩
 ·obtain⟨⟨a,cap0,rfl,hb,_⟩,_⟩:=hx;obtain⟨g,hg⟩:=hb (by omega);subst hg;exact⟨_,_,_,_,rfl,rfl,h⟩
 ·have hx:DRel w G.L v _:=hx;cases hx with
  |sl b off cap dY es vs en=>exact⟨_,_,_,_,rfl,rfl,h⟩
 ·have hx:DRel w G.L v _:=hx;cases hx with
  |slE a cap=>exact⟨a,_,_,_,rfl,rfl,by cases a with|none=>exact h.1|some _=>exact h.2⟩
  |sl b off cap dY es vs en=>exact absurd rfl en
 ·exact h.elim
theorem zIN{op:BinOp}{t:TypeId}{xo yo:Operand}{u:Value}{x:AV}{a:Act}{K:AV→Prop}(hx:TRel w G u x)(hy:zo9 yo=true)(h:zg3 (zq0 P t) op x K):
  ∃r,((do eqGuard op t xo yo u (a.eval yo);binOp op t u (a.eval yo)):Sem Value).run P w=.ok r w∧∃av,TRel w G r av∧K av:=by
 obtain⟨ht,h⟩:=h;obtain⟨e,hu⟩:∃e,P.underlying t=some (.slice e):=by
  unfold zq0 at ht;split at ht
  ·exact⟨_,by assumption⟩
  ·cases ht
 obtain rfl:yo=.const (.slice none 0 0):=by
  unfold zo9 at hy;split at hy
  ·rfl
  ·cases hy
 have he:a.eval (.const (.slice none 0 0))=.slice none 0 0:=rfl;rw[he];have key:∀ad n c,(Op.equal t (.slice ad n c) (.slice none 0 0)).run P w=.ok ad.isNone w:=λad n c=>by have hm:Op.equal t (.slice ad n c) (.slice none 0 0)=Op.equalIn (9999+1) t (.slice ad n c) (.slice none 0 0):=rfl;rw[hm];unfold Op.equalIn;cases ad <;> simp only[Sem.run_bind,za1 hu,Result.andThen_ok,Sem.run_pure,Option.isNone_none,Option.isNone_some]
 split at h
 ·obtain⟨ad,n,c,b,rfl,rfl,hk⟩:=zxp hx h;exact⟨.bool ad.isNone,by rw[show eqGuard .eql t xo (.const (.slice none 0 0)) (.slice ad n c) (.slice none 0 0)=pure () from rfl];simp[binOp,key],.bool ad.isNone,rfl,hk⟩
 ·obtain⟨ad,n,c,b,rfl,rfl,hk⟩:=zxp hx h;exact⟨.bool (!ad.isNone),by rw[show eqGuard .neq t xo (.const (.slice none 0 0)) (.slice ad n c) (.slice none 0 0)=pure () from rfl];simp[binOp,key],.bool (!ad.isNone),rfl,hk⟩
 ·exact h.elim
theorem zHa{w:World}{base:Nat}{e:TypeId}{size g cap n k:Nat}{xs:List Value}(h:w.ownsRow base e size (.slice (some ⟨g,0,none⟩) n cap) n xs)(hk:k≤n):
  w.ownsRow base e size (.slice (some ⟨g,0,none⟩) k cap) k (xs.take (k*size)):=by
 obtain⟨h1,h2⟩:=h;rcases h2 with ⟨h0,_⟩|⟨g',cap',cur,hv,hg,hh,hn,ey,ep,fb⟩
 ·cases h0
 ·cases hv;have hm:k*size≤n*size:=au _ hk;refine⟨by rw[aW,h1];omega,.inr ⟨g,cap,cur,rfl,hg,hh,by omega,ey,ep,?_⟩⟩;rw[←fb,cR,bj hm]
theorem HRel.pop(h:HRel B w G H){id e size n k:Nat}{cs:List AV}{v0 v:Value}(d9:H[id]?=some (.vec e size n cs))(hμ:G.μ[id]?=some (.own v0 size n))(hv:(v0=.slice none 0 0∧v=.slice none 0 0∧k=0)∨∃ g cap,v0=.slice (some ⟨g,0,none⟩) n cap∧v=.slice (some ⟨g,0,none⟩) k cap)(hk:k≤n):
  ∃G',Ext B w G w G'∧HRel B w G' (H.set id .dead++[.vec e size k (cs.take (k*size))])∧G'.μ[H.length]?=some (.own v size k):=by
 have fe:=(List.getElem?_eq_some_iff.1 d9).1;have hml:id<G.μ.length:=by rw[h.len];exact fe
 have iZ:∀b,v.ownBlock=some b→v0.ownBlock=some b:=λb hb=>by rcases hv with ⟨rfl,rfl,_⟩|⟨g,cap,rfl,rfl⟩ <;> exact hb
 have ek:∀ (j:Nat) gi,(G.μ.set id (.own (.slice none 0 0) size (n+1))++[.own v size k])[j]?=some gi →
   (j≠id∧j<H.length∧G.μ[j]?=some gi)∨(j=id∧gi=.own (.slice none 0 0) size (n+1))∨(j=H.length∧gi=.own v size k):=λj gi hj=>by
  by_cases eN:j<H.length
  ·rw[List.getElem?_append_left (by rw[bD,h.len];exact eN)]at hj;by_cases gD:j=id
   ·subst gD;rw[List.getElem?_set_self hml]at hj;cases hj;exact .inr (.inl ⟨rfl,rfl⟩)
   ·rw[List.getElem?_set_ne (λh=>gD h.symm)]at hj;exact .inl ⟨gD,eN,hj⟩
  ·have jD:=(List.getElem?_eq_some_iff.1 hj).1;simp[h.len]at jD;obtain rfl:j=H.length:=by omega
   rw[List.getElem?_append_right (by simp[h.len])]at hj;simp[h.len]at hj;exact .inr (.inr ⟨rfl,hj.symm⟩)
 have he:Ext B w G w ⟨G.L,G.μ.set id (.own (.slice none 0 0) size (n+1))++[.own v size k]⟩:=by
  refine⟨aa _,Below.refl _ _,λ_=>aa _,λ_ _ _=>rfl,λj gi hj=>?_⟩;have eN:=(List.getElem?_eq_some_iff.1 hj).1;by_cases gD:j=id
  ·subst gD;rw[hμ]at hj;cases hj;exact⟨_,by rw[List.getElem?_append_left (by simpa using eN),List.getElem?_set_self eN],(show GI.le (.own v0 size n) (.own (.slice none 0 0) size (n+1)) from ⟨rfl,.inr (by omega)⟩)⟩
  ·exact⟨gi,by rw[List.getElem?_append_left (by simpa using eN),List.getElem?_set_ne (λh=>gD h.symm)];exact hj,gi.le_refl⟩
 refine⟨_,he,⟨by simp[h.len],λj ab gi k1 k2=>?_,λj j' gi gi' b k1 k2 k3 k4=>?_,h.fresh,λj gi b k1 k2=>?_,h.base⟩,by simp[←h.len]⟩
 ·rcases ek j gi k2 with ⟨gD,eN,hj⟩ | ⟨rfl,rfl⟩ | ⟨rfl,rfl⟩
  ·rw[List.getElem?_append_left (by simpa using eN),List.getElem?_set_ne (λh=>gD h.symm)]at k1;exact(h.ok j ab gi k1 hj).keep he (λx hx=>⟨rfl,rfl⟩)
  ·rw[List.getElem?_append_left (by simpa using fe),List.getElem?_set_self fe]at k1;cases k1;exactλb hb=>by simp[Value.ownBlock]at hb
  ·rw[List.getElem?_append_right (by simp)]at k1;simp at k1;subst k1;obtain⟨_,_,⟨xs,ed,ew⟩,hL⟩:=h.ok id _ _ d9 hμ;refine⟨rfl,rfl,⟨xs.take (k*size),?_,(ew.take _).mono λ_ _=>he.arel⟩,λb hb=>hL b (iZ b hb)⟩;rcases hv with ⟨rfl,rfl,rfl⟩ | ⟨g,cap,rfl,rfl⟩
   ·have:=World.ownsRow_nil w B e size;simpa using this
   ·exact zHa ed hk
 ·rcases ek j gi k1 with ⟨gD,eN,hj⟩ | ⟨rfl,rfl⟩ | ⟨rfl,rfl⟩ <;> rcases ek j' gi' k2 with ⟨hji',hjl',kV⟩ | ⟨rfl,rfl⟩ | ⟨rfl,rfl⟩
  ·exact h.dist j j' gi gi' b hj kV k3 k4
  ·simp[GI.block,Value.ownBlock]at k4
  ·exact(gD (h.dist j id gi _ b hj hμ k3 (iZ b k4))).elim
  ·simp[GI.block,Value.ownBlock]at k3
  ·rfl
  ·simp[GI.block,Value.ownBlock]at k3
  ·exact(hji' (h.dist j' id gi' _ b kV hμ k4 (iZ b k3))).elim
  ·simp[GI.block,Value.ownBlock]at k4
  ·rfl
 ·rcases ek j gi k1 with ⟨gD,eN,hj⟩ | ⟨rfl,rfl⟩ | ⟨rfl,rfl⟩
  ·exact h.lt j gi b hj k2
  ·simp[GI.block,Value.ownBlock]at k2
  ·exact h.lt id _ b hμ (iZ b k2)
theorem zIP{t:TypeId}{size:Nat}{v hv:Value}{x hi:AV}{K:AV→zaa→Prop}(hH:HRel B w G H)(hx:TRel w G v x)(iG:TRel w G hv hi)(ht:zdE P t=some 1)(hs:(zbc P t).bind (za0 P)=some size)(h:zov size x hi H K):OpOK P B w G K (((do pure (.value (←Instr.sliceAt t v none (some hv) none))):Sem Next).run P w):=by
 unfold zov at h;split at h
 ·rename_i id n;split at h
  ·rename_i e s n' cs kk k d9;obtain⟨⟨⟨rfl,rfl⟩,gI,gC⟩,hK⟩:=h;cases iG;obtain⟨⟨ad,cap0,rfl,hcap0⟩,v',s',n'',hμ,eH,heq⟩:=hx;obtain⟨rfl,rfl,⟨xs,ed,ew⟩,hL⟩:=hH.ok id _ _ d9 hμ;obtain rfl:=heq rfl;cases he:zbc P t with
   |none=>simp[he]at hs
   |some e1=>
    simp only[he,Option.bind_some]at hs;have hkn':k.toNat≤n':=by omega
    obtain⟨_,eW⟩:=ed;rcases eW with ⟨h0,h00⟩|⟨g,cap,cur,h0,hB,hw,ey,fg,l5,eX⟩
    ·cases h0;have mv:k.toNat=0:=by omega
     have hb:=zfE (P:=P) (w:=w) (isS:=true) (len:=0) (cap:=0) (lo:=none) (hi:=some (.int kk k)) (l:=0) (h:=0) (.inr ⟨kk,k,rfl,gI,mv.symm⟩) (.inl ⟨rfl,rfl⟩) (aa _) (aa _);obtain⟨G',hE,eJ,hm⟩:=hH.pop (k:=k.toNat) (v:=.slice none 0 0) d9 hμ (.inl ⟨rfl,rfl,mv⟩) (by omega);have hr:(Instr.sliceAt t (.slice none 0 0) none (some (.int kk k)) none).run P w=.ok (.slice none 0 0) w:=by simp[Instr.sliceAt,Instr.slice,Sem.run_bind,za1 (zb6 he),hb,zbX hs]
     rw[Sem.run_bind,hr];refine⟨_,G',_,hE,eJ,?_,hK⟩;rw[mv]at hm ⊢;exact⟨⟨none,0,rfl,λh=>absurd h (by omega),by omega⟩,_,_,0,hm,aa _,λ_=>rfl⟩
    ·cases h0;have hb:=zfE (P:=P) (w:=w) (isS:=true) (len:=n') (cap:=cap0) (lo:=none) (hi:=some (.int kk k)) (l:=0) (h:=k.toNat) (.inr ⟨kk,k,rfl,gI,rfl⟩) (.inl ⟨rfl,rfl⟩) (bu _) (by omega);obtain⟨G',hE,eJ,hm⟩:=hH.pop (k:=k.toNat) (v:=.slice (some ⟨g,0,none⟩) k.toNat cap0) d9 hμ (.inr ⟨g,cap0,rfl,rfl⟩) (by omega);have hr:(Instr.sliceAt t (.slice (some ⟨g,0,none⟩) n' cap0) none (some (.int kk k)) none).run P w=.ok (.slice (some ⟨g,0,none⟩) k.toNat cap0) w:=by simp[Instr.sliceAt,Instr.slice,Sem.run_bind,za1 (zb6 he),hb,zbX hs,add_lit]
     rw[Sem.run_bind,hr];refine⟨_,G',_,hE,eJ,?_,hK⟩;exact⟨⟨some ⟨g,0,none⟩,cap0,rfl,λh=>⟨g,rfl⟩,by omega⟩,_,_,_,hm,aa _,λ_=>rfl⟩
  ·exact h.elim
 ·exact zce hH (zqQ (lo:=none) (hi:=some hv) (alo:=none) (ahi:=some hi) hx trivial ⟨iG,trivial⟩ ht (λ_=>hs) h)
theorem HRel.newMade(h:HRel B w G H)(vs:Array Value)(e:TypeId)(size cap:Nat)(hs:vs.size=cap*size)(hm:cap≤maxLen):
  Ext B w G (w.alloc (.cells vs e)) ⟨G.L,G.μ++[.own (.slice (some ⟨w.heap.size,0,none⟩) 0 cap) size 0]⟩∧HRel B (w.alloc (.cells vs e)) ⟨G.L,G.μ++[.own (.slice (some ⟨w.heap.size,0,none⟩) 0 cap) size 0]⟩ (H++[.vec e size 0 []]):=by
 have he:=Ext.alloc h (.cells vs e) G.L (λ_ _=>rfl) [.own (.slice (some ⟨w.heap.size,0,none⟩) 0 cap) size 0];refine⟨he,?_⟩;have split:∀(id:Nat) gi,(G.μ++[.own (.slice (some ⟨w.heap.size,0,none⟩) 0 cap) size 0])[id]?=some gi→G.μ[id]?=some gi∨(id=G.μ.length∧gi=.own (.slice (some ⟨w.heap.size,0,none⟩) 0 cap) size 0):=by
  intro id gi hg;by_cases d7:id<G.μ.length
  ·rw[List.getElem?_append_left d7]at hg;exact .inl hg
  ·have eM:=(List.getElem?_eq_some_iff.1 hg).1;simp at eM;have:id=G.μ.length:=by omega
   subst this;simp at hg;exact .inr ⟨rfl,hg.symm⟩
 refine⟨by simp[h.len],?_,?_,?_,?_,?_⟩
 ·intro id ab gi h1 h2;rcases split id gi h2 with h2 | ⟨rfl,rfl⟩
  ·have d7:id<H.length:=by rw[←h.len];exact (List.getElem?_eq_some_iff.1 h2).1
   rw[List.getElem?_append_left d7]at h1;exact(h.ok id ab gi h1 h2).keep he (λb hb=>⟨zcI (h.lt id gi b h2 hb),rfl⟩)
  ·rw[h.len]at h1;simp at h1;subst h1;refine⟨rfl,rfl,⟨[],World.ownsRow_made w vs cap h.base hm hs,trivial⟩,λb hb=>?_⟩;simp[Value.ownBlock]at hb;subst hb;exact h.fresh _ (aa _)
 ·intro id id' gi gi' b h1 h2 h3 h4;rcases split id gi h1 with h1 | ⟨rfl,rfl⟩ <;> rcases split id' gi' h2 with h2 | ⟨rfl,rfl⟩
  ·exact h.dist id id' gi gi' b h1 h2 h3 h4
  ·have:=h.lt id gi b h1 h3;simp[GI.block,Value.ownBlock]at h4;omega
  ·have:=h.lt id' gi' b h2 h4;simp[GI.block,Value.ownBlock]at h3;omega
  ·rfl
 ·intro b hb;rw[zb7]at hb;exact h.fresh b (by omega)
 ·intro id gi b h1 h2;rw[zb7];rcases split id gi h1 with h1 | ⟨rfl,rfl⟩
  ·have:=h.lt id gi b h1 h2;omega
  ·simp[GI.block,Value.ownBlock]at h2;omega
 ·rw[zb7];have:=h.base;omega
theorem zIK{t e:TypeId}{size bytes:Nat}{z:Value}{vc:Value}{c:AV}{K:AV→zaa→Prop}(hH:HRel B w G H)(he:zbc P t=some e)(hn:za0 P e=some size)(fh:zc5 P e=some bytes)(hz:zbA P e=some z)(h0:0<size)(jj:(zbx z).length=size)(hc:TRel w G vc c)(h:zeM e size bytes c H K):
  OpOK P B w G K (((do pure (.value (←Instr.makeSlice t (.int .i64 0) vc))):Sem Next).run P w):=by
 unfold zeM at h;split at h
 ·rename_i c;cases hc;obtain⟨⟨h2,h3,h4⟩,hk⟩:=h;have gQ:=zdR (w:=w) (G:=G) z;have gR:z.cells.size=size:=by have:=gQ.length;simp at this;omega
  unfold za0 at hn;unfold zbA at hz;unfold zc5 at fh;cases hi:P.info? e with
  |none=>simp[hi]at hn
  |some i=>
   simp[hi]at hn hz fh;have hr:=run_make (P:=P) w t e i z (zb6 he) hi hz .i64 .i64 0 c (by omega) h2 (by rw[fh,Int.mul_comm];omega) h4;have hm:=(zpg gQ (by omega) c.toNat).length;rw[hn]at hr;obtain⟨hx,eJ⟩:=hH.newMade (madeCells z.cells (c.toNat*size)) e size c.toNat (by simp[madeCells]) (by simp[maxLen];omega);have ef:((do pure (.value (←Instr.makeSlice t (.int .i64 0) (.int .i64 c)))):Sem Next).run P w=.ok (.value (.slice (some ⟨w.heap.size,0,none⟩) 0 c.toNat)) (w.alloc (.cells (madeCells z.cells (c.toNat*size)) e)):=by rw[Sem.run_bind,hr];rfl
   rw[ef];refine⟨.ov H.length 0,_,_,hx,eJ,⟨⟨_,_,rfl,(λh=>by omega),by omega⟩,.slice (some ⟨w.heap.size,0,none⟩) 0 c.toNat,size,0,?_,aa _,λ_=>rfl⟩,hk⟩;rw[←hH.len];simp
 ·exact h.elim
theorem zGX{o:Oper}{a:Act}{F:List AV}{K:AV→zaa→Prop}(hH:HRel B w G H)(hF:FRel w G a.tmps F)(h:zoB P o F H K):OpOK P B w G K ((execOp a.eval o).run P w):=by
 unfold zoB at h;split at h
 ·rename_i t len dX fp;obtain⟨dst,op,type,pos,after,guard⟩:=o;simp only[]at fp;subst fp;simp only[execOp];split at h
  ·rename_i e he;split at h
   ·rename_i size z hs hz;split at h
    ·rename_i hb;exact zIu hH he hs hz (by simpa using hb) (by simpa using zqp hF dX.toList) h
    ·exact h.elim
   ·exact h.elim
  ·exact h.elim
 ·rename_i op t x y pos fp;obtain⟨dst,op0,type,pos0,after,guard⟩:=o;simp only[]at fp;subst fp;split at h
  ·rename_i hy;simp only[execOp];exact zce hH (zIN (a:=a) (zaP hF x) hy h)
  ·exact zfA hH hF h
 ·rename_i t l c fp;obtain⟨dst,op0,type,pos0,after,guard⟩:=o;simp only[]at fp;subst fp;split at h
  ·rename_i hl;simp only[execOp];split at h
   ·rename_i e he;split at h
    ·rename_i size bytes z hs fh hz;split at h
     ·rename_i hb;simp at hb;have iS:a.eval l=.int .i64 0:=by
       unfold zwL at hl;split at hl
       ·rfl
       ·cases hl
      rw[iS];exact zIK hH he hs fh hz hb.1 hb.2 (zaP hF c) h
     ·exact h.elim
    ·exact h.elim
   ·exact h.elim
  ·exact zfA hH hF h
 ·rename_i t x hi fp;obtain⟨dst,op0,type,pos0,after,guard⟩:=o;simp only[]at fp;subst fp;split at h
  ·rename_i ht;split at h
   ·rename_i size hs;exact zIP hH (zaP hF x) (zaP hF hi) ht hs h
   ·exact h.elim
  ·exact h.elim
 ·exact zfA hH hF h
theorem zyf{d6:Array Oper}{K:List AV→zaa→Prop}{Q:Exit→Act→World→Prop}{w0:World}{G0:Gh}(hQ:∀ a w G F H,Ext B w0 G0 w G→HRel B w G H→FRel w G a.tmps F→a.defers=[]→K F H→Q .normal a w):
  ∀(l:List Oper) (F:List AV) (H:zaa) (a:Act) (w:World) (G:Gh),Ext B w0 G0 w G→HRel B w G H→FRel w G a.tmps F→a.defers=[]→zif P l K F H→wpList P d6 Q l a w
 |[],F,H,a,w,G,hE,hH,hF,hd,h=>hQ a w G F H hE hH hF hd h
 |o::l,F,H,a,w,G,hE,hH,hF,hd,h=>by
  refine wpList_step λK' gk=>?_;unfold zif at h;split at h
  ·rename_i hg;rw[aA (by simp[Region.wanted,hg])];exact zh9 hF (zGX hH hF h) λv av w' G' H' h1 h2 h3 h4=>
    gk _ _ (zyf hQ l _ _ _ _ G' (hE.trans h1) h2 ((hF.ext h1).put h3) (by cases gJ:o.dst <;> simpa[Act.put,gJ]using hd) h4)
  ·exact h.elim
theorem zqI{d6:Array Oper}{K:List AV→zaa→Prop}{Q:Exit→Act→World→Prop}{w0:World}{G0:Gh}(hQ:∀ a w G F H,Ext B w0 G0 w G→HRel B w G H→FRel w G a.tmps F→a.defers=[]→K F H→Q .normal a w):
  ∀(l:List Oper) (F:List AV) (H:zaa) (a:Act) (w:World) (G:Gh),Ext B w0 G0 w G→HRel B w G H→FRel w G a.tmps F→a.defers=[]→ze4 P d6 l K F H→wpList P d6 Q l a w
 |[],F,H,a,w,G,hE,hH,hF,hd,h=>hQ a w G F H hE hH hF hd h
 |o::l,F,H,a,w,G,hE,hH,hF,hd,h=>by
  have go:∀(K':Act→World→Prop),(∀a w,wpList P d6 Q l a w→K' a w)→zha P o F H (λv H'=>ze4 P d6 l K (zbQ F o.dst v) H')→o.wp P a w K' Q:=λK' gk fp=>
   zh9 hF (zGU hH hF fp) λv av w' G' H' h1 h2 h3 h4=>
    gk _ _ (zqI hQ l _ _ _ _ G' (hE.trans h1) h2 ((hF.ext h1).put h3) (by cases gJ:o.dst <;> simpa[Act.put,gJ]using hd) h4)
  have skip:∀(K':Act→World→Prop),(∀a w,wpList P d6 Q l a w→K' a w)→ze4 P d6 l K (zbQ F o.dst (.tup [])) H→K' (a.put o.dst undef) w:=λK' gk fp=>
   gk _ _ (zqI hQ l _ _ _ _ G hE hH (hF.put zre) (by cases gJ:o.dst <;> simpa[Act.put,gJ]using hd) fp)
  refine wpList_step λK' gk=>?_;unfold ze4 at h;split at h
  ·rename_i hg;rw[aA (by simp[Region.wanted,hg])];exact go K' gk h
  ·rename_i j want hg;split at h
   ·rename_i d jT;unfold zac zdp at h;split at h
    ·rename_i b hb;rw[zri hF hg jT hb];unfold aIf at h;split at h
     ·rename_i hw;rw[aA hw];exact go K' gk h
     ·rename_i hw;rw[ap hw];exact skip K' gk h
    ·rename_i hb;rw[zzr hF hg jT hb,ap (by simp)];exact skip K' gk h
    ·exact h.elim
   ·exact h.elim


theorem zEE{o:Oper}{F F':List AV}{K:AV→zaa→Prop}(h:∀x∈o.op.operands,ev F x=ev F' x):zdr P o F H K=zdr P o F' H K:=by
 obtain⟨dst,op,type,pos,after,guard⟩:=o;have pairs:∀ps:Array (Nat×Operand),(∀x∈ps.toList.map (·.2),ev F x=ev F' x)→(ps.toList.map λp=>(p.1,ev F p.2))=(ps.toList.map λp=>(p.1,ev F' p.2)):=λps hp=>
  be λp hm=>by rw[hp p.2 (aC.2 ⟨p,hm,rfl⟩)]
 cases op <;> simp only[Op.operands]at h <;> simp only[zdr]
 case build t ps=>rw[pairs ps (by simpa using h)]
 case buildSlice t n ps=>rw[pairs ps (by simpa using h)]
 case makeFunc fn first caps=>
  cases fn <;> simp only[]
  rw[be (l:=caps.toList) (λx hx=>h x (Array.mem_append.2 (.inr (by simpa using hx))))]
 case slice t x lo hi mx=>
  cases mx <;> simp only[]
  have hx:=h x (by simp);have iH:lo.map (ev F)=lo.map (ev F'):=by cases lo <;> simp_all
  have iG:hi.map (ev F)=hi.map (ev F'):=by cases hi <;> simp_all
  rw[hx,iH,iG]
 case call c=>
  cases hc:c.callee with
  |value f=>have hf:=h f (by simp[Call.operands,hc]);have ha:c.args.toList.map (ev F)=c.args.toList.map (ev F'):=be λx hx=>h x (by simp[Call.operands,hc];exact .inr (by simpa using hx));simp only[hf,ha]
  |builtin b=>
   have ha:∀x∈c.args.toList,ev F x=ev F' x:=λx hx=>h x (by simp[Call.operands,hc];simpa using hx);cases b <;> simp only[zeL]
   all_goals
    split
    ·first
     | (rename_i e5 _
        rw[e5]at ha;simp only[aS,List.not_mem_nil,or_false,forall_eq_or_imp,forall_eq]at ha;simp only[ha])
     | (rename_i e5
        rw[e5]at ha;simp only[aS,List.not_mem_nil,or_false,forall_eq_or_imp,forall_eq]at ha;simp only[ha])
    ·rfl
  |invoke r m=>rfl
 all_goals (first|rfl|(simp_all;done))

theorem zEH{o:Oper}{F F':List AV}{K:AV→zaa→Prop}(h:∀x∈o.op.operands,ev F x=ev F' x):zeP P o.op F H K=zeP P o.op F' H K:=by
 obtain⟨dst,op,type,pos,after,guard⟩:=o;cases op <;> simp only[Op.operands]at h <;> simp only[zeP]
 all_goals (first|rfl|(simp_all;done))
theorem zEI{o:Oper}{F F':List AV}{K:AV→zaa→Prop}(h:∀x∈o.op.operands,ev F x=ev F' x):aop P o F H K=aop P o F' H K:=by unfold aop;rw[zEH h,zEE h]
theorem zEG{o:Oper}{F F':List AV}{K:AV→zaa→Prop}(h:∀x∈o.op.operands,ev F x=ev F' x):zbn fl P o F H K=zbn fl P o F' H K:=by
 unfold zbn;split
 ·rename_i t a fp;rw[h a (by rw[fp];simp[Op.operands])]
 ·exact zEI h
theorem zEF{o:Oper}{F:List AV}{K:AV→zaa→Prop}(h:zbn fl P o F H K):aop P o F H K:=by
 obtain⟨dst,op,type,pos,after,guard⟩:=o;unfold zbn at h;cases op <;> (try simp only[]at h) <;> (try exact h)
 simp only[aop,isM,zdr];split at h
 ·rename_i g n hg hn;cases fl with
  |true=>exact h
  |false=>
   unfold zos zal at h;simp only[]at h;split at h
   ·exact h.elim
   ·exact h
 ·exact h.elim

theorem zxw{o:Oper}(ho:opF o.op=true){F:List AV}{r:AV}{H H':zaa}(h:zbn fl P o F H λv H2=>v=r∧H2=H):zbn fl P o F H' λv H2=>v=r∧H2=H':=by
 obtain⟨dst,op,type,pos,after,guard⟩:=o;cases op <;> simp only[opF,aF]at ho <;> simp only[zbn,aop,isM,zdr,and_true]at h ⊢
 all_goals first
  |exact h
  |skip
 case call c=>
  cases hc:c.callee with
  |value f=>simp[hc]at ho
  |invoke r m=>simp[hc]at ho
  |builtin b=>
   cases b <;> simp[hc]at ho
   simpa[hc,zeL]using h
 case makeFunc fn first caps=>cases fn <;> simp only[]at h ⊢ <;> try exact h
 case slice t x lo hi mx=>cases mx <;> simp only[]at h ⊢ <;> exact h

theorem zGW{o:Oper}(ho:opW .n o.op=true){F:List AV}{H:zaa}{K:AV→zaa→Prop}(h:zbn fl P o F H K):∃v H',(zbn fl P o F H λv2 H2=>v2=v∧H2=H')∧K v H':=by
 obtain⟨dst,op,type,pos,after,guard⟩:=o;cases op <;> simp only[opW,aF]at ho <;> simp only[zbn,aop,isM,zdr,zeP]at h ⊢
 case alloc t=>
  split at h
  ·exact⟨_,_,⟨rfl,rfl⟩,h⟩
  ·exact h.elim
 case box t x=>
  unfold zaw at h ⊢;split at h
  ·exact⟨_,_,⟨rfl,rfl⟩,h⟩
  ·exact h.elim
 case store t x y=>
  split at h
  ·simp only[zeN]at h ⊢;split at h
   ·split at h
    ·exact⟨_,_,⟨h.1,rfl,rfl⟩,h.2⟩
    ·exact h.elim
   ·split at h
    ·exact⟨_,_,⟨h.1,rfl,rfl⟩,h.2⟩
    ·exact h.elim
   ·exact h.elim
  ·exact h.elim
 case makeSlice t l c=>
  split at h
  ·split at h
   ·unfold zbu at h ⊢;split at h
    ·exact⟨_,_,⟨h.1,rfl,rfl⟩,h.2⟩
    ·exact h.elim
   ·exact h.elim
  ·exact h.elim
 case makeMap t r=>
  split at h
  ·exact⟨_,_,⟨rfl,rfl⟩,h⟩
  ·exact h.elim
 case mapUpdate t m k x=>
  split at h
  ·unfold zcT at h ⊢;split at h
   ·split at h
    ·split at h
     ·exact h.elim
     ·exact⟨_,_,⟨rfl,rfl⟩,h⟩
    ·exact h.elim
   ·exact h.elim
  ·exact h.elim
 case insert t m k x=>
  split at h
  ·unfold zcT at h ⊢;split at h
   ·split at h
    ·split at h
     ·exact h.elim
     ·exact⟨_,_,⟨rfl,rfl⟩,h⟩
    ·exact h.elim
   ·exact h.elim
  ·exact h.elim
 case call c=>
  cases hc:c.callee with
  |value f=>simp[hc,WM.on]at ho
  |invoke r m=>simp[hc]at ho
  |builtin b=>
   cases b <;> simp[hc]at ho
   case append=>
    simp only[hc,zeL]at h ⊢;split at h
    ·split at h
     ·split at h
      ·obtain⟨r,H',k1,k2⟩:=zEj h;exact⟨r,H',k1,k2⟩
      ·exact h.elim
     ·exact h.elim
    ·exact h.elim
   case copy=>
    simp only[hc,zeL]at h ⊢;split at h
    ·split at h
     ·unfold zg0 at h ⊢;split at h
      ·split at h
       ·rename_i ew;exact⟨_,_,⟨h.1,rfl,rfl⟩,h.2⟩
       ·exact h.elim
      ·exact h.elim
     ·exact h.elim
    ·exact h.elim

def TrOK(fl:Bool)(P:Program)(d6:Array Oper)(H:zaa)(F:List AV)(o:Oper)(r:AV)(H':zaa):Prop:=
 match o.guard with
 |none=>zbn fl P o F H λv H2=>v=r∧H2=H'
 | some (j,want)=>∃ d,(d6[j]?).bind (·.dst)=some d ∧
   ((∃ b,F.getD d .unk=.bool b∧(b == want)=true∧zbn fl P o F H λv H2=>v=r∧H2=H') ∨
    (∃b,F.getD d .unk=.bool b∧(b == want)=false∧r=.tup []∧H'=H)∨(F.getD d .unk=.tup []∧r=.tup []∧H'=H))

theorem TrOK.congr{d6:Array Oper}{F F':List AV}{o:Oper}{r:AV}{H':zaa}(h:∀s∈zeu d6 o,F.getD s .unk=F'.getD s .unk)(ht:TrOK fl P d6 H F o r H'):TrOK fl P d6 H F' o r H':=by
 have oZ:∀x∈o.op.operands,ev F x=ev F' x:=λx hx=>by
  cases x with
  |tmp t=>exact h t (by simp only[zeu,aX,List.mem_filterMap];exact .inl ⟨.tmp t,by simpa using hx,rfl⟩)
  |_=>rfl
 have fp:(zbn fl P o F H λv H2=>v=r∧H2=H')=zbn fl P o F' H λv H2=>v=r∧H2=H':=zEG oZ;unfold TrOK at *;split at ht
 ·rw[←fp];exact ht
 ·rename_i j want hg;obtain⟨d,hd,ht⟩:=ht;have hs:=h d (by simp[zeu,hg,hd]);refine⟨d,hd,?_⟩;rw[←hs,←fp];exact ht

theorem TrOK.free{d6:Array Oper}{F:List AV}{o:Oper}{r:AV}{H H':zaa}(ho:opF o.op=true)(ht:TrOK fl P d6 H F o r H):TrOK fl P d6 H' F o r H':=by
 unfold TrOK at *;split at ht
 ·exact zxw ho ht
 ·obtain⟨d,hd,ht⟩:=ht;refine⟨d,hd,?_⟩;rcases ht with ⟨b,h1,h2,h3⟩ | ⟨b,h1,h2,h3,_⟩ | ⟨h1,h2,_⟩
  ·exact .inl ⟨b,h1,h2,zxw ho h3⟩
  ·exact .inr (.inl ⟨b,h1,h2,h3,rfl⟩)
  ·exact .inr (.inr ⟨h1,h2,rfl⟩)

inductive TrL (fl:Bool) (wc:WM) (P:Program) (d6:Array Oper):List Oper→List AV→zaa→List AV→List zaa→List AV→zaa→Prop
 |nil (F:List AV) (H:zaa):TrL fl wc P d6 [] F H [] [] F H
 |cons {o:Oper} {os:List Oper} {F rs Fn:List AV} {r:AV} {H H' Hn:zaa} {hs:List zaa} (h:TrOK fl P d6 H F o r H') (hw:opW wc o.op=false→H'=H) (hx:opC wc o.op=true→∀J,TrOK fl P d6 (H++J) F o r (H++J)) (fk:opG wc o.op=true→GrowA H H') (t:TrL fl wc P d6 os (zbQ F o.dst r) H' rs hs Fn Hn):TrL fl wc P d6 (o::os) F H (r::rs) (H'::hs) Fn Hn

theorem zwh{o:Oper}{gr:Bool}(ho:opW wc o.op=true)(hg:wc=.n→gr=false){F:List AV}{H:zaa}{K:AV→zaa→Prop}(h:zdH wc gr H (zbn fl P o F H) K):∃v H',(zbn fl P o F H λv2 H2=>v2=v∧H2=H')∧(gr=true→GrowA H H')∧K v H':=by
 cases wc with
 |n=>obtain⟨v,H',h1,h2⟩:=zGW ho h;exact⟨v,H',h1,(λh=>by rw[hg rfl]at h;cases h),h2⟩
 |w=>exact h
 |g=>exact h
 |c=>exact h
theorem zxx(op:Op):opG .n op=false:=by
 cases op <;> try rfl
 rename_i c;cases hc:c.callee <;> simp[opG,hc,WM.gr]
theorem zGR{op:Op}(h:opW wc op=false):opG wc op=false:=by
 cases op <;> try rfl
 rename_i c;cases hc:c.callee with
 |value f=>cases wc <;> simp[opW,opG,hc,WM.on,WM.gr]at h ⊢
 |builtin b=>simp[opG,hc]
 |invoke r m=>simp[opG,hc]
theorem zGQ{op:Op}(h:opC wc op=true):opW wc op=false:=by
 cases op <;> simp only[opC,aF]at h
 rename_i c;cases hc:c.callee with
 |value f=>simpa[opW,hc]using h
 |builtin b=>simp[hc]at h
 |invoke r m=>simp[hc]at h
theorem zc1{d6:Array Oper}{K:List AV→zaa→Prop}:∀ (l:List Oper) (F:List AV) (H:zaa),zcO fl wc P d6 l K F H→∃ rs hs Fn Hn,TrL fl wc P d6 l F H rs hs Fn Hn∧K Fn Hn
 |[],F,H,h=>⟨[],[],F,H,.nil F H,h⟩
 |o::l,F,H,h=>by
  unfold zcO at h;have noC:∀{p:Prop},opC wc o.op=false→opC wc o.op=true→p:=λh1 h2=>by rw[h1]at h2;cases h2
  have noG:∀{p:Prop},opW wc o.op=false→opG wc o.op=true→p:=λh1 h2=>by rw[zGR h1]at h2;cases h2
  have noW:∀{p:Prop},opW wc o.op=true→opC wc o.op=true→p:=λh1 h2=>by rw[zGQ h2]at h1;cases h1
  split at h
  ·rename_i hg;split at h
   ·rename_i hw;split at h
    ·rename_i hc;obtain⟨r,h1,h2⟩:=h;obtain⟨rs,hs,Fn,Hn,h3,h4⟩:=zc1 l _ _ h2;exact⟨r::rs,H::hs,Fn,Hn,.cons (by unfold TrOK;rw[hg];exact h1) (λ_=>rfl) (noC hc) (noG hw) h3,h4⟩
    ·rename_i hc;obtain⟨r,h1,h2⟩:=h;obtain⟨rs,hs,Fn,Hn,h3,h4⟩:=zc1 l _ _ h2;have hx:∀ J,TrOK fl P d6 (H++J) F o r (H++J):=λJ=>by unfold TrOK;rw[hg];exact h1 J
     exact⟨r::rs,H::hs,Fn,Hn,.cons (by have:=hx [];rwa [aK]at this) (λ_=>rfl) (λ_=>hx) (noG hw) h3,h4⟩
   ·rename_i hw;obtain⟨r,H',h1,fk,h2⟩:=zwh hw (λe=>by rw[e];exact zxx _) h;obtain⟨rs,hs,Fn,Hn,h3,h4⟩:=zc1 l _ _ h2;exact⟨r::rs,H'::hs,Fn,Hn,.cons (by unfold TrOK;rw[hg];exact h1) (λh0=>by rw[hw]at h0;cases h0) (noW hw) fk h3,h4⟩
  ·rename_i j want hg;split at h
   ·rename_i d hd;have yes:∀ b,F.getD d .unk=.bool b→(b == want)=true→∀ {H1 H2:zaa} {r:AV},(zbn fl P o F H1 λv H3=>v=r∧H3=H2)→TrOK fl P d6 H1 F o r H2:=λb hb ib _ _ _ h1=>by unfold TrOK;rw[hg];exact⟨d,hd,.inl ⟨b,hb,ib,h1⟩⟩
    have no:∀b,F.getD d .unk=.bool b→(b == want)=false→∀H1:zaa,TrOK fl P d6 H1 F o (.tup []) H1:=λb hb ib H1=>by unfold TrOK;rw[hg];exact⟨d,hd,.inr (.inl ⟨b,hb,ib,rfl,rfl⟩)⟩
    have nil:F.getD d .unk=.tup []→∀H1:zaa,TrOK fl P d6 H1 F o (.tup []) H1:=λhb H1=>by unfold TrOK;rw[hg];exact⟨d,hd,.inr (.inr ⟨hb,rfl,rfl⟩)⟩
    split at h
    ·rename_i hw;split at h
     ·rename_i hc;unfold zac zdp at h;split at h
      ·rename_i b hb;unfold aIf at h;split at h
       ·rename_i ib;obtain⟨r,h1,h2⟩:=h;obtain⟨rs,hs,Fn,Hn,h3,h4⟩:=zc1 l _ _ h2;exact⟨r::rs,H::hs,Fn,Hn,.cons (yes b hb ib h1) (λ_=>rfl) (noC hc) (noG hw) h3,h4⟩
       ·rename_i ib;obtain⟨rs,hs,Fn,Hn,h3,h4⟩:=zc1 l _ _ h;exact⟨.tup []::rs,H::hs,Fn,Hn,.cons (no b hb (by simpa using ib) H) (λ_=>rfl) (noC hc) (noG hw) h3,h4⟩
      ·rename_i hb;obtain⟨rs,hs,Fn,Hn,h3,h4⟩:=zc1 l _ _ h;exact⟨.tup []::rs,H::hs,Fn,Hn,.cons (nil hb H) (λ_=>rfl) (noC hc) (noG hw) h3,h4⟩
      ·exact h.elim
     ·rename_i hc;unfold zac zdp at h;split at h
      ·rename_i b hb;unfold aIf at h;split at h
       ·rename_i ib;obtain⟨r,h1,h2⟩:=h;obtain⟨rs,hs,Fn,Hn,h3,h4⟩:=zc1 l _ _ h2;have hx:∀J,TrOK fl P d6 (H++J) F o r (H++J):=λJ=>yes b hb ib (h1 J);exact⟨r::rs,H::hs,Fn,Hn,.cons (by have:=hx [];rwa [aK]at this) (λ_=>rfl) (λ_=>hx) (noG hw) h3,h4⟩
       ·rename_i ib;obtain⟨rs,hs,Fn,Hn,h3,h4⟩:=zc1 l _ _ h;exact⟨.tup []::rs,H::hs,Fn,Hn,.cons (no b hb (by simpa using ib) H) (λ_=>rfl) (λ_ J=>no b hb (by simpa using ib) _) (noG hw) h3,h4⟩
      ·rename_i hb;obtain⟨rs,hs,Fn,Hn,h3,h4⟩:=zc1 l _ _ h;exact⟨.tup []::rs,H::hs,Fn,Hn,.cons (nil hb H) (λ_=>rfl) (λ_ J=>nil hb _) (noG hw) h3,h4⟩
      ·exact h.elim
    ·rename_i hw;unfold zac zdp at h;split at h
     ·rename_i b hb;unfold aIf at h;split at h
      ·rename_i ib;obtain⟨r,H',h1,fk,h2⟩:=zwh hw (λe=>by rw[e];exact zxx _) h;obtain⟨rs,hs,Fn,Hn,h3,h4⟩:=zc1 l _ _ h2;exact⟨r::rs,H'::hs,Fn,Hn,.cons (yes b hb ib h1) (λh0=>by rw[hw]at h0;cases h0) (noW hw) fk h3,h4⟩
      ·rename_i ib;obtain⟨rs,hs,Fn,Hn,h3,h4⟩:=zc1 l _ _ h;exact⟨.tup []::rs,H::hs,Fn,Hn,.cons (no b hb (by simpa using ib) H) (λ_=>rfl) (noW hw) (λ_=>.inl rfl) h3,h4⟩
     ·rename_i hb;obtain⟨rs,hs,Fn,Hn,h3,h4⟩:=zc1 l _ _ h;exact⟨.tup []::rs,H::hs,Fn,Hn,.cons (nil hb H) (λ_=>rfl) (noW hw) (λ_=>.inl rfl) h3,h4⟩
     ·exact h.elim
   ·exact h.elim

def frk:List Oper→List AV→List AV→Nat→List AV
 |_,_,F,0=>F
 |o::os,r::rs,F,i+1=>frk os rs (zbQ F o.dst r) i
 |_,_,F,_=>F
def hpk:List zaa→zaa→Nat→zaa
 |_,H,0=>H
 |h::hs,_,i+1=>hpk hs h i
 |[],H,_=>H

theorem TrL.at{d6:Array Oper}{l:List Oper}{F rs Fn:List AV}{H Hn:zaa}{hs:List zaa}(h:TrL fl wc P d6 l F H rs hs Fn Hn):rs.length=l.length∧frk l rs F l.length=Fn∧hpk hs H l.length=Hn ∧
  ∀(i:Nat) o,l[i]?=some o→∃r,rs[i]?=some r∧TrOK fl P d6 (hpk hs H i) (frk l rs F i) o r (hpk hs H (i+1))∧frk l rs F (i+1)=zbQ (frk l rs F i) o.dst r∧(opW wc o.op=false→hpk hs H (i+1)=hpk hs H i)∧(opC wc o.op=true→∀J,TrOK fl P d6 (hpk hs H i++J) (frk l rs F i) o r (hpk hs H i++J))∧(opG wc o.op=true→GrowA (hpk hs H i) (hpk hs H (i+1))):=by
 induction h with
 |nil F H=>exact⟨rfl,rfl,rfl,λi o h=>by simp at h⟩
 |cons h hw hx fk t ih=>
  obtain⟨h1,h2,nF,h3⟩:=ih;refine⟨by simp[h1],by simpa[frk]using h2,by simpa[hpk]using nF,λi o' ho=>?_⟩;cases i with
  |zero=>
   simp at ho;subst ho;rename_i os F rs Fn r H H' Hn hs;have e1:hpk (H'::hs) H 1=H':=by cases hs <;> rfl
   refine⟨_,rfl,?_,by simp[frk],λh0=>?_,λh0=>hx h0,λh0=>?_⟩
   ·rw[aG,e1];exact h
   ·rw[aG,e1];exact hw h0
   ·rw[aG,e1];exact fk h0
  |succ i=>obtain⟨r,h4,h5,h6,h7,h8,h9⟩:=h3 i o' (by simpa using ho);exact⟨r,by simpa using h4,by simpa[hpk,frk]using h5,by simpa[frk]using h6,by simpa[hpk]using h7,by simpa[hpk,frk]using h8,by simpa[hpk]using h9⟩

def Grow(H H':zaa):Prop:=H'=H∨(∃x,H'=H++[x])∨∃(id:Nat) (a b:AB),H[id]?=some a∧(∀cs,a≠.cells cs)∧H'=H.set id b
theorem zvj{e s b:Nat}{x r:AV}{ys:List (List AV)}{H H':zaa}(h2:zaK e s b x ys H λv H2=>v=r∧H2=H'):GrowA H H':=by
 unfold zaK at h2;split at h2
 ·exact .inr (.inl ⟨_,_,_,h2.2.2.symm⟩)
 ·rename_i es id;exact .inr (.inr (.inl ⟨id,e,s,es.length,_,h2.1,h2.2.2.2.symm⟩))
 ·split at h2
  ·rename_i d9;obtain⟨⟨⟨rfl,rfl,rfl⟩,_⟩,_,he⟩:=h2;exact .inr (.inr (.inr (.inl ⟨_,_,_,_,_,_,_,d9,he.symm⟩)))
  ·exact h2.elim
 ·split at h2
  ·exact .inl h2.2.symm
  ·exact .inr (.inl ⟨_,_,_,h2.2.2.symm⟩)
 ·exact h2.elim
theorem zvh{e s b m:Nat}{x r:AV}{ds:List AV}{H H':zaa}(h:zdV e s b x m ds H λv H2=>v=r∧H2=H'):GrowA H H':=by
 unfold zdV at h;split at h
 ·split at h
  ·rename_i d9;obtain⟨⟨⟨rfl,rfl,rfl⟩,_⟩,_,he⟩:=h;exact .inr (.inr (.inr (.inl ⟨_,_,_,_,_,_,_,d9,he.symm⟩)))
  ·exact h.elim
 ·split at h
  ·exact .inl h.2.symm
  ·exact .inr (.inr (.inr (.inr ⟨_,_,_,_,h.2.2.symm⟩)))
 ·exact h.elim
theorem zEk{e s b:Nat}{x y r:AV}{H H':zaa}(h:zax e s b x y H λv H2=>v=r∧H2=H'):GrowA H H':=by
 unfold zax at h;split at h
 ·split at h
  ·exact zvh h.2
  ·exact h.elim
 ·split at h
  ·exact zvh h.2
  ·exact h.elim
 ·unfold zaO at h;split at h
  ·exact zvj h.2
  ·exact zvj h.2
  ·exact h.elim
theorem GrowA.grow{H H':zaa}(h:GrowA H H'):Grow H H':=by
 rcases h with h|⟨e,s,n,h⟩|⟨id,e,s,n,n',h1,h2⟩|⟨id,e,s,n,n',cs,cs',h1,h2⟩|⟨e,s,n,cs,h⟩
 ·exact .inl h
 ·exact .inr (.inl ⟨_,h⟩)
 ·exact .inr (.inr ⟨id,_,_,h1,(λ_ h=>by cases h),h2⟩)
 ·exact .inr (.inr ⟨id,_,_,h1,(λ_ h=>by cases h),h2⟩)
 ·exact .inr (.inl ⟨_,h⟩)
theorem Grow.cells{H H':zaa}(h:Grow H H'){id:Nat}{cs:List AV}(hc:H[id]?=some (.cells cs)):H'[id]?=some (.cells cs):=by
 have d7:id<H.length:=(List.getElem?_eq_some_iff.1 hc).1;rcases h with rfl|⟨x,rfl⟩|⟨id',a,b,h1,h2,rfl⟩
 ·exact hc
 ·rw[List.getElem?_append_left d7];exact hc
 ·by_cases he:id=id'
  ·subst he;rw[hc]at h1;cases h1;exact(h2 _ rfl).elim
  ·rw[List.getElem?_set_ne (λh=>he h.symm)];exact hc
theorem GrowA.cells{H H':zaa}(h:GrowA H H'){id:Nat}{cs:List AV}(hc:H'[id]?=some (.cells cs)):H[id]?=some (.cells cs):=by
 rcases h with rfl|⟨e,s,n,rfl⟩|⟨id',e,s,n,n',h1,rfl⟩|⟨id',e,s,n,n',cs1,cs2,h1,rfl⟩|⟨e,s,n,cs1,rfl⟩
 ·exact hc
 ·by_cases d7:id<H.length
  ·rwa [List.getElem?_append_left d7]at hc
  ·have eM:=(List.getElem?_eq_some_iff.1 hc).1;simp at eM;have:id=H.length:=by omega
   subst this;simp at hc
 ·by_cases he:id=id'
  ·subst he;rw[List.getElem?_set_self (List.getElem?_eq_some_iff.1 h1).1]at hc;cases hc
  ·rwa [List.getElem?_set_ne (λh=>he h.symm)]at hc
 ·by_cases he:id=id'
  ·subst he;rw[List.getElem?_set_self (List.getElem?_eq_some_iff.1 h1).1]at hc;cases hc
  ·rwa [List.getElem?_set_ne (λh=>he h.symm)]at hc
 ·by_cases d7:id<H.length
  ·rwa [List.getElem?_append_left d7]at hc
  ·have eM:=(List.getElem?_eq_some_iff.1 hc).1;simp at eM;have:id=H.length:=by omega
   subst this;simp at hc
theorem zwW{o:Oper}(hl:opL o.op=true){F:List AV}{H H':zaa}{r:AV}(he:fl=true→H'=H)(hc:∀(id:Nat) (cs:List AV),H[id]?=some (AB.cells cs)→H'[id]?=some (AB.cells cs))(h:zbn fl P o F H λv H2=>v=r∧H2=H):zbn fl P o F H' λv H2=>v=r∧H2=H':=by
 obtain⟨dst,op,type,pos,after,guard⟩:=o;cases op <;> simp only[opL,aF]at hl
 cases fl with
 |true=>rw[he rfl];exact h
 |false=>
 simp only[zbn,zos,and_true]at h ⊢;split at h
 ·unfold zal at h ⊢;split at h
  ·exact h.elim
  rename_i nr;simp only[zg2]at h ⊢;split at h
  ·split at h
   ·rename_i ew;rw[hc _ _ ew];exact h
   ·exact h.elim
  ·exact h
  ·rename_i oZ;exact(nr _ _ _ oZ).elim
  ·exact h.elim
 ·exact h.elim
theorem TrOK.load{d6:Array Oper}{F:List AV}{o:Oper}{r:AV}{H H':zaa}(hl:opL o.op=true)(he:fl=true→H'=H)(hc:∀(id:Nat) (cs:List AV),H[id]?=some (AB.cells cs)→H'[id]?=some (AB.cells cs))(ht:TrOK fl P d6 H F o r H):TrOK fl P d6 H' F o r H':=by
 unfold TrOK at *;split at ht
 ·exact zwW hl he hc ht
 ·obtain⟨d,hd,ht⟩:=ht;refine⟨d,hd,?_⟩;rcases ht with ⟨b,h1,h2,h3⟩ | ⟨b,h1,h2,h3,_⟩ | ⟨h1,h2,_⟩
  ·exact .inl ⟨b,h1,h2,zwW hl he hc h3⟩
  ·exact .inr (.inl ⟨b,h1,h2,h3,rfl⟩)
  ·exact .inr (.inr ⟨h1,h2,rfl⟩)
theorem zwF{o:Oper}(ho:opN o.op=true){F:List AV}{H H':zaa}{r:AV}(h:zbn fl P o F H λv H2=>v=r∧H2=H'):Grow H H':=by
 obtain⟨dst,op,type,pos,after,guard⟩:=o;cases op <;> simp only[opN,aF]at ho <;> simp only[zbn,aop,isM,zdr,zeP]at h
 case alloc t=>
  split at h
  ·exact .inr (.inl ⟨_,h.2.symm⟩)
  ·exact h.elim
 case box t x=>
  unfold zaw at h;split at h
  ·exact .inr (.inl ⟨_,h.2.symm⟩)
  ·exact h.elim
 case makeSlice t l c=>
  split at h
  ·split at h
   ·unfold zbu at h;split at h
    ·exact .inr (.inl ⟨_,h.2.2.symm⟩)
    ·exact h.elim
   ·exact h.elim
  ·exact h.elim
 case makeMap t r=>
  split at h
  ·exact .inr (.inl ⟨_,h.2.symm⟩)
  ·exact h.elim
theorem zwE{o:Oper}(ho:opA .n o.op=true){F:List AV}{H H':zaa}{r:AV}(h:zbn fl P o F H λv H2=>v=r∧H2=H'):GrowA H H':=by
 obtain⟨dst,op,type,pos,after,guard⟩:=o;cases op <;> simp only[opA,WM.gr,aF]at ho <;> simp only[zbn,aop,isM,zdr]at h
 rename_i c;cases hc:c.callee with
 |value f=>simp[hc]at ho
 |invoke r m=>simp[hc]at ho
 |builtin b=>
  cases b <;> simp[hc]at ho
  simp only[hc,zeL]at h;split at h
  ·split at h
   ·split at h
    ·exact zEk h
    ·exact h.elim
   ·exact h.elim
  ·exact h.elim
theorem TrOK.growN{d6:Array Oper}{F:List AV}{o:Oper}{r:AV}{H H':zaa}(ho:opN o.op=true)(ht:TrOK fl P d6 H F o r H'):Grow H H':=by
 unfold TrOK at ht;split at ht
 ·exact zwF ho ht
 ·obtain⟨d,hd,ht⟩:=ht;rcases ht with ⟨b,h1,h2,h3⟩ | ⟨b,h1,h2,h3,h4⟩ | ⟨h1,h2,h4⟩
  ·exact zwF ho h3
  ·exact .inl h4
  ·exact .inl h4
theorem TrOK.growA{d6:Array Oper}{F:List AV}{o:Oper}{r:AV}{H H':zaa}(ho:opA .n o.op=true)(ht:TrOK fl P d6 H F o r H'):GrowA H H':=by
 unfold TrOK at ht;split at ht
 ·exact zwE ho ht
 ·obtain⟨d,hd,ht⟩:=ht;rcases ht with ⟨b,h1,h2,h3⟩ | ⟨b,h1,h2,h3,h4⟩ | ⟨h1,h2,h4⟩
  ·exact zwE ho h3
  ·exact .inl h4
  ·exact .inl h4

end
end Go.Proofs.YtdmamdnkcefmmaaGreatDoor
