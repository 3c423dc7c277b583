import Derived.Test.YtdmamdnkcefmmaaGreatDoorAbsI
import Derived.Still
set_option linter.unusedSimpArgs false
set_option linter.unusedVariables false
set_option maxRecDepth 8000
namespace Go.Proofs.YtdmamdnkcefmmaaGreatDoor
section
open Go.RowKit

variable {fl:Bool} {wc:WM} {P:Program} {B:Nat} {w:World} {G:Gh} {H:zaa}
theorem zxw{e s b m:Nat}{x:AV}{ds:List AV}{H:zaa}{K:AV→zaa→Prop}(h:zd9 e s b x m ds H K):∃r H',(zd9 e s b x m ds H λv H2=>v=r∧H2=H')∧K r H':=by
 unfold zd9 at h ⊢;split at h
 ·split at h
  ·exact⟨_,_,⟨h.1,rfl,rfl⟩,h.2⟩
  ·exact h.elim
 ·split at h
  ·exact⟨_,_,⟨rfl,rfl⟩,h⟩
  ·exact⟨_,_,⟨h.1,rfl,rfl⟩,h.2⟩
 ·exact h.elim
theorem zxy{e s b:Nat}{x:AV}{ys:List (List AV)}{H:zaa}{K:AV→zaa→Prop}(h2:zaK e s b x ys H K):∃r H',(zaK e s b x ys H λv H2=>v=r∧H2=H')∧K r H':=by
 unfold zaK at h2 ⊢;split at h2
 ·exact⟨_,_,⟨h2.1,rfl,rfl⟩,h2.2⟩
 ·exact⟨_,_,⟨h2.1,h2.2.1,rfl,rfl⟩,h2.2.2⟩
 ·split at h2
  ·exact⟨_,_,⟨h2.1,rfl,rfl⟩,h2.2⟩
  ·exact h2.elim
 ·split at h2
  ·exact⟨_,_,⟨rfl,rfl⟩,h2⟩
  ·exact⟨_,_,⟨h2.1,rfl,rfl⟩,h2.2⟩
 ·exact h2.elim
theorem zHe{e s b:Nat}{x y:AV}{H:zaa}{K:AV→zaa→Prop}(h:zax e s b x y H K):∃r H',(zax e s b x y H λv H2=>v=r∧H2=H')∧K r H':=by
 unfold zax at h ⊢;split at h
 ·split at h
  ·obtain⟨r,H',h1,h2⟩:=zxw h.2;exact⟨r,H',⟨h.1,h1⟩,h2⟩
  ·exact h.elim
 ·split at h
  ·obtain⟨r,H',h1,h2⟩:=zxw h.2;exact⟨r,H',⟨h.1,h1⟩,h2⟩
  ·exact h.elim
 ·unfold zaM at h ⊢;split at h
  ·obtain⟨r,H',h1,h2⟩:=zxy h.2;exact⟨r,H',⟨h.1,h1⟩,h2⟩
  ·obtain⟨r,H',h1,h2⟩:=zxy h.2;exact⟨r,H',⟨h.1,h1⟩,h2⟩
  ·exact h.elim
theorem FRel.put{a:Act}{F:List AV}{d:Option Tmp}{v:Value}{av:AV}(hF:FRel w G a.tmps F)(hv:TRel w G v av):FRel w G (a.put d v).tmps (zbZ F d av):=by
 cases d with
 |none=>exact hF
 |some d=>unfold FRel at *;simp only[Act.put,zbZ,bV];exact All2.set d hF hv
theorem FRel.ext{w':World}{G':Gh}{tm:Array Value}{F:List AV}(hF:FRel w G tm F)(he:Ext B w G w' G'):FRel w' G' tm F:=All2.mono (λ_ _=>he.trel) hF

theorem zyR{tm:Array Value}{F:List AV}{d:Nat}{x:AV}(hF:FRel w G tm F)(h:F.getD d .unk=x)(hx:x≠.unk):∃v,tm[d]?=some v∧TRel w G v x:=by
 rw[List.getD_eq_getElem?_getD]at h;cases hd:F[d]? with
 |none=>rw[hd]at h;exact absurd h.symm hx
 |some y=>rw[hd]at h;simp at h;subst h;obtain⟨v,h1,h2⟩:=All2.get hF hd;exact⟨v,by simpa using h1,h2⟩

theorem zsV{eh:Array Oper}{o:Oper}{a:Act}{F:List AV}{j d:Nat}{want b:Bool}(hF:FRel w G a.tmps F)(hg:o.guard=some (j,want))(hd:(eh[j]?).bind (·.dst)=some d)(hb:F.getD d .unk=.bool b):Region.wanted o (yielded eh a.tmps)=(b == want):=by
 obtain⟨v,h1,h2⟩:=zyR hF hb (by simp);have h2:v=.bool b:=h2;subst h2;simp[Region.wanted,hg,yielded,hd,h1]
theorem zBN{eh:Array Oper}{o:Oper}{a:Act}{F:List AV}{j d:Nat}{want:Bool}(hF:FRel w G a.tmps F)(hg:o.guard=some (j,want))(hd:(eh[j]?).bind (·.dst)=some d)(hb:F.getD d .unk=.tup []):Region.wanted o (yielded eh a.tmps)=false:=by
 obtain⟨v,h1,h2⟩:=zyR hF hb (by simp);obtain⟨vs,rfl,_⟩:=h2;simp[Region.wanted,hg,yielded,hd,h1]

theorem zsQ:TRel w G undef (.tup []):=⟨#[],rfl,trivial⟩

theorem ziA{o:Oper}{a:Act}{F:List AV}{K:AV→zaa→Prop}{K':Act→World→Prop}{Q:Exit→Act→World→Prop}(hF:FRel w G a.tmps F)(h:OpOK P B w G K ((execOp a.eval o).run P w))(hK:∀v av w' G' H',Ext B w G w' G'→HRel B w' G' H'→TRel w' G' v av→K av H'→K' (a.put o.dst v) w'):o.wp P a w K' Q:=by
 unfold Oper.wp;generalize (execOp a.eval o).run P w=r at *;cases r with
 |halt x w'=>cases x <;> exact h.elim
 |ok n w'=>
  cases n <;> simp only[OpOK]at h <;> simp only[Oper.upon]
  case value v=>obtain⟨av,G',H',h1,h2,h3,h4⟩:=h;exact hK v av w' G' H' h1 h2 h3 h4
  case skip=>obtain⟨G',H',h1,h2,h4⟩:=h;exact hK undef (.tup []) w' G' H' h1 h2 zsQ h4
  case enter f vs=>obtain⟨rfl,hc⟩:=h;refine hc.mono λe w'' he=>?_;obtain⟨v,r,H',G',rfl,h1,h2,h3,h4⟩:=he;exact hK v r w'' G' H' h1 h2 h3 h4

theorem HRel.newB(h:HRel B w G H)(vs:Array Value)(t:TypeId)(cs:List AV)(hc:All2 (ARel w G) vs.toList cs):
  Ext B w G (w.alloc (.cells vs t)) ⟨G.L,G.μ++[.blk w.heap.size]⟩∧HRel B (w.alloc (.cells vs t)) ⟨G.L,G.μ++[.blk w.heap.size]⟩ (H++[.bld t cs]):=by
 obtain⟨he,hH⟩:=h.new vs t cs hc;refine⟨he,by simpa using hH.len,λid ab gi h1 h2=>?_,hH.dist,hH.fresh,hH.lt,hH.base⟩;by_cases ei:id<H.length
 ·rw[List.getElem?_append_left ei]at h1;exact hH.ok id ab gi (by rw[List.getElem?_append_left ei];exact h1) h2
 ·have eW:=(List.getElem?_eq_some_iff.1 h1).1;simp at eW;obtain rfl:id=H.length:=by omega
  simp at h1;subst h1;have hg:gi=.blk w.heap.size:=by simp only[]at h2;rw[←h.len]at h2;simpa using h2.symm
  subst hg;exact⟨h.base,h.fresh _ (ac _),vs,zdE _,hc.mono λ_ _=>he.arel⟩
theorem zJy{o:Oper}{a:Act}{F:List AV}{K:AV→zaa→Prop}(hH:HRel B w G H)(hF:FRel w G a.tmps F)(h:zhC P o F H K):OpOK P B w G K ((execOp a.eval o).run P w):=by
 unfold zhC at h;split at h
 ·rename_i t fE;split at h
  ·split at h
   ·rename_i z hz;obtain⟨he,eU⟩:=hH.newB z.cells t (zbG z) (zd5 z);have et:(execOp a.eval o).run P w=.ok (.value (.pointer (some ⟨w.heap.size,0,none⟩))) (w.alloc (.cells z.cells t)):=by obtain⟨dst,op,type,pos,after,guard⟩:=o;simp only[]at fE;subst fE;simp[execOp,Instr.alloc,zfo hz,newVar,newRow,World.alloc_eq]
    rw[et];refine⟨.ptr H.length 0,_,_,he,eU,⟨w.heap.size,?_,rfl⟩,h⟩;rw[←hH.len];simp
   ·exact h.elim
  ·exact zfT hH hF h
 ·exact zfT hH hF h

theorem zK0{t e:TypeId}{size len:Nat}{z:Value}{ec:Array (Nat × Value)}{ef:List (Nat × AV)}{K:AV→zaa→Prop}(hH:HRel B w G H)(he:zbj P t=some e)(hn:za4 P e=some size)(hz:zbJ P e=some z)(jR:(zbG z).length=size)(hr:All2 (λ(p:Nat × Value) (q:Nat × AV)=>p.1=q.1∧TRel w G p.2 q.2) ec.toList ef)(h:zpZ e size len ef H K):
  OpOK P B w G K (((do pure (.value (←Instr.buildSlice t len ec))):Sem Next).run P w):=by
 unfold zpZ at h;split at h
 ·rename_i x;obtain⟨fI,hk⟩:=h;have iH:=zd5 (w:=w) (G:=G) z;have iI:z.cells.size=1:=by have:=iH.length;simp at this;omega
  obtain⟨v,rfl,hv⟩:∃v,ec=#[(0,v)]∧ARel w G v x:=by
   match ec,hr with
   |⟨[(i,v)]⟩,⟨⟨h1,h2⟩,_⟩=>have h1:i=0:=h1;subst h1;refine⟨v,rfl,?_⟩;cases x <;> first|exact h2|(simp[AV.oneK]at fI;done)
   |⟨[]⟩,hr=>exact hr.elim
   |⟨_::_::_⟩,hr=>exact hr.2.elim
  have fC:v.oneCell'=true:=ARel.oneCell (λhu=>by subst hu;simp[AV.oneK]at fI) hv;have qd:v.cells=#[v]:=by cases v <;> first|rfl|(simp[Value.oneCell']at fC)
  have et:((do pure (.value (←Instr.buildSlice t 1 #[(0,v)]))):Sem Next).run P w=.ok (.value (.slice (some ⟨w.heap.size,0,none⟩) 1 1)) (w.alloc (.cells #[v] e)):=by
   have i6:Instr.fill (λi=>some (i*1,1)) ((Array.range (1*1)).map λx=>z.cells[x % z.cells.size]!) [(0,v)]=some #[v]:=by
    have hs:((Array.range (1*1)).map λx=>z.cells[x % z.cells.size]!).size=1:=by simp
    unfold Instr.fill;simp only[qd,hs];simp[Instr.fill];refine Array.ext (by simp) λi h1 h2=>?_;have:i=0:=by simp at h2;omega
    subst this;simp
   simp only[bl]at i6;simp[Instr.buildSlice,za7 (zcf he),zb6 hn,zfo hz,i6,newRow,World.alloc_eq]
  obtain⟨hE,ji⟩:=hH.newVec0 e 1;have en:(H++[.vec e 1 0 []])[H.length]?=some (.vec e 1 0 []):=by simp
  have fB:GrB w (w.alloc (.cells #[v] e)) none:=⟨ac _,rfl,rfl,rfl,by simp,λk hk _=>zcX (w:=w) hk⟩;have er:(w.alloc (.cells #[v] e)).ownsRow B e 1 (.slice (some ⟨w.heap.size,0,none⟩) (0+1) 1) (0+1) ([]++[v]):=
   ⟨rfl,.inr ⟨w.heap.size,1,#[v],rfl,hH.base,zdE (w:=w) _,by omega,by simp[maxLen],rfl,rfl⟩⟩
  obtain⟨G',js,eU,hT⟩:=ziU (n:=0) (m:=1) (cs:=[]) (xs:=[]) (news:=[v]) (ds:=[x]) ji en (by rw[←hH.len];simp) (World.ownsRow_nil w B e 1) er (.inr ⟨rfl,fB⟩) (by omega) trivial ⟨hE.arel hv,trivial⟩;rw[et];refine⟨_,G',_,hE.trans js,eU,hT,?_⟩;simpa using hk
 ·rename_i x y;obtain⟨⟨fJ,hy1⟩,hk⟩:=h;have iH:=zd5 (w:=w) (G:=G) z;have iI:z.cells.size=2:=by have:=iH.length;simp at this;omega
  obtain⟨u,v,rfl,hu,hv⟩:∃u v,ec=#[(0,.agg #[u,v])]∧ARel w G u x∧ARel w G v y:=by
   match ec,hr with
   |⟨[(i,p)]⟩,⟨⟨h1,h2⟩,_⟩=>
    have h1:i=0:=h1;subst h1;obtain⟨us,rfl,h3⟩:=h2
    match us,h3 with
    |⟨[u,v]⟩,⟨h4,h5,_⟩=>exact⟨u,v,rfl,h4,h5⟩
    |⟨[]⟩,h3=>exact h3.elim
    |⟨[_]⟩,h3=>exact h3.2.elim
    |⟨_::_::_::_⟩,h3=>exact h3.2.2.elim
   |⟨[]⟩,hr=>exact hr.elim
   |⟨_::_::_⟩,hr=>exact hr.2.elim
  have et:((do pure (.value (←Instr.buildSlice t 1 #[(0,.agg #[u,v])]))):Sem Next).run P w=.ok (.value (.slice (some ⟨w.heap.size,0,none⟩) 1 1)) (w.alloc (.cells #[u,v] e)):=by
   have i6:Instr.fill (λi=>some (i*2,2)) ((Array.range (1*2)).map λx=>z.cells[x % z.cells.size]!) [(0,.agg #[u,v])]=some #[u,v]:=by
    have hs:((Array.range (1*2)).map λx=>z.cells[x % z.cells.size]!).size=2:=by simp
    have qd:(Value.agg #[u,v]).cells=#[u,v]:=rfl;unfold Instr.fill;simp only[qd,hs];simp[Instr.fill];refine Array.ext (by simp) λi h1 h2=>?_;have:i=0∨i=1:=by simp at h2;omega
    rcases this with rfl|rfl <;> simp
   simp[Instr.buildSlice,za7 (zcf he),zb6 hn,zfo hz,newRow,World.alloc_eq,cw]at i6 ⊢;simp[i6]
  obtain⟨hE,ji⟩:=hH.newVec0 e 2;have en:(H++[.vec e 2 0 []])[H.length]?=some (.vec e 2 0 []):=by simp
  have fB:GrB w (w.alloc (.cells #[u,v] e)) none:=⟨ac _,rfl,rfl,rfl,by simp,λk hk _=>zcX (w:=w) hk⟩;have er:(w.alloc (.cells #[u,v] e)).ownsRow B e 2 (.slice (some ⟨w.heap.size,0,none⟩) (0+1) 1) (0+1) ([]++[u,v]):=
   ⟨rfl,.inr ⟨w.heap.size,1,#[u,v],rfl,hH.base,zdE (w:=w) _,by omega,by simp[maxLen],rfl,rfl⟩⟩
  obtain⟨G',js,eU,hT⟩:=ziU (n:=0) (m:=1) (cs:=[]) (xs:=[]) (news:=[u,v]) (ds:=[x,y]) ji en (by rw[←hH.len];simp) (World.ownsRow_nil w B e 2) er (.inr ⟨rfl,fB⟩) (by omega) trivial ⟨hE.arel hu,hE.arel hv,trivial⟩;rw[et];refine⟨_,G',_,hE.trans js,eU,hT,?_⟩;simpa using hk
 ·exact h.elim
theorem zzI{x:AV}{v:Value}{K:Bool→Prop}(hx:TRel w G v x)(h:zgI x K):∃ad n c b,v=.slice ad n c∧b=ad.isNone∧K b:=by
 unfold zgI at h;split at h
 ·cases hx;exact⟨_,_,_,_,rfl,rfl,h⟩
 ·obtain⟨b,_,rfl⟩:=hx;exact⟨_,_,_,_,rfl,rfl,h⟩
 ·obtain⟨⟨a,cap0,rfl,hb,_⟩,_⟩:=hx;obtain⟨g,hg⟩:=hb (by omega);subst hg;exact⟨_,_,_,_,rfl,rfl,h⟩
 ·have hx:DRel w G.L v _:=hx;cases hx with
  |sl b off cap ed es vs ey=>exact⟨_,_,_,_,rfl,rfl,h⟩
 ·have hx:DRel w G.L v _:=hx;cases hx with
  |slE a cap=>exact⟨a,_,_,_,rfl,rfl,by cases a with|none=>exact h.1|some _=>exact h.2⟩
  |sl b off cap ed es vs ey=>exact absurd rfl ey
 ·exact h.elim
theorem zLj{op:BinOp}{t:TypeId}{xo yo:Operand}{u:Value}{x:AV}{a:Act}{K:AV→Prop}(hx:TRel w G u x)(hy:zqQ yo=true)(h:zhx (zsE P t) op x K):
  ∃r,((do eqGuard op t xo yo u (a.eval yo);binOp op t u (a.eval yo)):Sem Value).run P w=.ok r w∧∃av,TRel w G r av∧K av:=by
 obtain⟨ht,h⟩:=h;obtain⟨e,hu⟩:∃e,P.underlying t=some (.slice e):=by
  unfold zsE at ht;split at ht
  ·exact⟨_,by assumption⟩
  ·cases ht
 obtain rfl:yo=.const (.slice none 0 0):=by
  unfold zqQ at hy;split at hy
  ·rfl
  ·cases hy
 have he:a.eval (.const (.slice none 0 0))=.slice none 0 0:=rfl;rw[he];have key:∀ad n c,(Op.equal t (.slice ad n c) (.slice none 0 0)).run P w=.ok ad.isNone w:=λad n c=>by have hm:Op.equal t (.slice ad n c) (.slice none 0 0)=Op.equalIn (9999+1) t (.slice ad n c) (.slice none 0 0):=rfl;rw[hm];unfold Op.equalIn;cases ad <;> simp only[Sem.run_bind,za7 hu,Result.andThen_ok,Sem.run_pure,Option.isNone_none,Option.isNone_some]
 split at h
 ·obtain⟨ad,n,c,b,rfl,rfl,hk⟩:=zzI hx h;exact⟨.bool ad.isNone,by rw[show eqGuard .eql t xo (.const (.slice none 0 0)) (.slice ad n c) (.slice none 0 0)=pure () from rfl];simp[binOp,key],.bool ad.isNone,rfl,hk⟩
 ·obtain⟨ad,n,c,b,rfl,rfl,hk⟩:=zzI hx h;exact⟨.bool (!ad.isNone),by rw[show eqGuard .neq t xo (.const (.slice none 0 0)) (.slice ad n c) (.slice none 0 0)=pure () from rfl];simp[binOp,key],.bool (!ad.isNone),rfl,hk⟩
 ·exact h.elim
theorem zJK{w:World}{base:Nat}{e:TypeId}{size g cap n k:Nat}{xs:List Value}(h:w.ownsRow base e size (.slice (some ⟨g,0,none⟩) n cap) n xs)(hk:k≤n):
  w.ownsRow base e size (.slice (some ⟨g,0,none⟩) k cap) k (xs.take (k*size)):=by
 obtain⟨h1,h2⟩:=h;rcases h2 with ⟨h0,_⟩|⟨g',cap',cur,hv,hg,hh,hn,eM,eB,fu⟩
 ·cases h0
 ·cases hv;have hm:k*size≤n*size:=ar _ hk;refine⟨by rw[aT,h1];omega,.inr ⟨g,cap,cur,rfl,hg,hh,by omega,eM,eB,?_⟩⟩;rw[←fu,cD,bc hm]
theorem HRel.pop(h:HRel B w G H){id e size n k:Nat}{cs:List AV}{v0 v:Value}(en:H[id]?=some (.vec e size n cs))(hμ:G.μ[id]?=some (.own v0 size n))(hv:(v0=.slice none 0 0∧v=.slice none 0 0∧k=0)∨∃ g cap,v0=.slice (some ⟨g,0,none⟩) n cap∧v=.slice (some ⟨g,0,none⟩) k cap)(hk:k≤n):
  ∃G',Ext B w G w G'∧HRel B w G' (H.set id .dead++[.vec e size k (cs.take (k*size))])∧G'.μ[H.length]?=some (.own v size k):=by
 have fg:=(List.getElem?_eq_some_iff.1 en).1;have oy:id<G.μ.length:=by rw[h.len];exact fg
 have ju:∀b,v.ownBlock=some b→v0.ownBlock=some b:=λb hb=>by rcases hv with ⟨rfl,rfl,_⟩|⟨g,cap,rfl,rfl⟩ <;> exact hb
 have eA:∀ (j:Nat) gi,(G.μ.set id (.own (.slice none 0 0) size (n+1))++[.own v size k])[j]?=some gi →
   (j≠id∧j<H.length∧G.μ[j]?=some gi)∨(j=id∧gi=.own (.slice none 0 0) size (n+1))∨(j=H.length∧gi=.own v size k):=λj gi hj=>by
  by_cases eI:j<H.length
  ·rw[List.getElem?_append_left (by rw[bE,h.len];exact eI)]at hj;by_cases g8:j=id
   ·subst g8;rw[List.getElem?_set_self oy]at hj;cases hj;exact .inr (.inl ⟨rfl,rfl⟩)
   ·rw[List.getElem?_set_ne (λh=>g8 h.symm)]at hj;exact .inl ⟨g8,eI,hj⟩
  ·have kM:=(List.getElem?_eq_some_iff.1 hj).1;simp[h.len]at kM;obtain rfl:j=H.length:=by omega
   rw[List.getElem?_append_right (by simp[h.len])]at hj;simp[h.len]at hj;exact .inr (.inr ⟨rfl,hj.symm⟩)
 have he:Ext B w G w ⟨G.L,G.μ.set id (.own (.slice none 0 0) size (n+1))++[.own v size k]⟩:=by
  refine⟨ac _,Below.refl _ _,λ_=>ac _,λ_ _ _=>rfl,λj gi hj=>?_⟩;have eI:=(List.getElem?_eq_some_iff.1 hj).1;by_cases g8:j=id
  ·subst g8;rw[hμ]at hj;cases hj;exact⟨_,by rw[List.getElem?_append_left (by simpa using eI),List.getElem?_set_self eI],(show GI.le (.own v0 size n) (.own (.slice none 0 0) size (n+1)) from ⟨rfl,.inr (by omega)⟩)⟩
  ·exact⟨gi,by rw[List.getElem?_append_left (by simpa using eI),List.getElem?_set_ne (λh=>g8 h.symm)];exact hj,gi.le_refl⟩
 refine⟨_,he,⟨by simp[h.len],λj ab gi k1 k2=>?_,λj j' gi gi' b k1 k2 k3 k4=>?_,h.fresh,λj gi b k1 k2=>?_,h.base⟩,by simp[←h.len]⟩
 ·rcases eA j gi k2 with ⟨g8,eI,hj⟩ | ⟨rfl,rfl⟩ | ⟨rfl,rfl⟩
  ·rw[List.getElem?_append_left (by simpa using eI),List.getElem?_set_ne (λh=>g8 h.symm)]at k1;exact(h.ok j ab gi k1 hj).keep he (λx hx=>⟨rfl,rfl⟩)
  ·rw[List.getElem?_append_left (by simpa using fg),List.getElem?_set_self fg]at k1;cases k1;exactλb hb=>by simp[Value.ownBlock]at hb
  ·rw[List.getElem?_append_right (by simp)]at k1;simp at k1;subst k1;obtain⟨_,_,⟨xs,er,eN⟩,hL⟩:=h.ok id _ _ en hμ;refine⟨rfl,rfl,⟨xs.take (k*size),?_,(eN.take _).mono λ_ _=>he.arel⟩,λb hb=>hL b (ju b hb)⟩;rcases hv with ⟨rfl,rfl,rfl⟩ | ⟨g,cap,rfl,rfl⟩
   ·have:=World.ownsRow_nil w B e size;simpa using this
   ·exact zJK er hk
 ·rcases eA j gi k1 with ⟨g8,eI,hj⟩ | ⟨rfl,rfl⟩ | ⟨rfl,rfl⟩ <;> rcases eA j' gi' k2 with ⟨hji',hjl',l5⟩ | ⟨rfl,rfl⟩ | ⟨rfl,rfl⟩
  ·exact h.dist j j' gi gi' b hj l5 k3 k4
  ·simp[GI.block,Value.ownBlock]at k4
  ·exact(g8 (h.dist j id gi _ b hj hμ k3 (ju b k4))).elim
  ·simp[GI.block,Value.ownBlock]at k3
  ·rfl
  ·simp[GI.block,Value.ownBlock]at k3
  ·exact(hji' (h.dist j' id gi' _ b l5 hμ k4 (ju b k3))).elim
  ·simp[GI.block,Value.ownBlock]at k4
  ·rfl
 ·rcases eA j gi k1 with ⟨g8,eI,hj⟩ | ⟨rfl,rfl⟩ | ⟨rfl,rfl⟩
  ·exact h.lt j gi b hj k2
  ·simp[GI.block,Value.ownBlock]at k2
  ·exact h.lt id _ b hμ (ju b k2)
theorem zLl{t:TypeId}{size:Nat}{v hv:Value}{x hi:AV}{K:AV→zaa→Prop}(hH:HRel B w G H)(hx:TRel w G v x)(jf:TRel w G hv hi)(ht:zdQ P t=some 1)(hs:(zbj P t).bind (za4 P)=some size)(h:zp5 size x hi H K):OpOK P B w G K (((do pure (.value (←Instr.sliceAt t v none (some hv) none))):Sem Next).run P w):=by
 unfold zp5 at h;split at h
 ·rename_i id n;split at h
  ·rename_i e s n' cs kk k en;obtain⟨⟨⟨rfl,rfl⟩,gG,fI⟩,hK⟩:=h;cases jf;obtain⟨⟨ad,cap0,rfl,hcap0⟩,v',s',n'',hμ,eP,heq⟩:=hx;obtain⟨rfl,rfl,⟨xs,er,eN⟩,hL⟩:=hH.ok id _ _ en hμ;obtain rfl:=heq rfl;cases he:zbj P t with
   |none=>simp[he]at hs
   |some e1=>
    simp only[he,Option.bind_some]at hs;have jv:k.toNat≤n':=by omega
    obtain⟨_,fk⟩:=er;rcases fk with ⟨h0,h00⟩|⟨g,cap,cur,h0,hB,hw,eM,fO,kX,ff⟩
    ·cases h0;have nv:k.toNat=0:=by omega
     have hb:=zfY (P:=P) (w:=w) (isS:=true) (len:=0) (cap:=0) (lo:=none) (hi:=some (.int kk k)) (l:=0) (h:=0) (.inr ⟨kk,k,rfl,gG,nv.symm⟩) (.inl ⟨rfl,rfl⟩) (ac _) (ac _);obtain⟨G',hE,eU,hm⟩:=hH.pop (k:=k.toNat) (v:=.slice none 0 0) en hμ (.inl ⟨rfl,rfl,nv⟩) (by omega);have hr:(Instr.sliceAt t (.slice none 0 0) none (some (.int kk k)) none).run P w=.ok (.slice none 0 0) w:=by simp[Instr.sliceAt,Instr.slice,Sem.run_bind,za7 (zcf he),hb,zb6 hs]
     rw[Sem.run_bind,hr];refine⟨_,G',_,hE,eU,?_,hK⟩;rw[nv]at hm ⊢;exact⟨⟨none,0,rfl,λh=>absurd h (by omega),by omega⟩,_,_,0,hm,ac _,λ_=>rfl⟩
    ·cases h0;have hb:=zfY (P:=P) (w:=w) (isS:=true) (len:=n') (cap:=cap0) (lo:=none) (hi:=some (.int kk k)) (l:=0) (h:=k.toNat) (.inr ⟨kk,k,rfl,gG,rfl⟩) (.inl ⟨rfl,rfl⟩) (bv _) (by omega);obtain⟨G',hE,eU,hm⟩:=hH.pop (k:=k.toNat) (v:=.slice (some ⟨g,0,none⟩) k.toNat cap0) en hμ (.inr ⟨g,cap0,rfl,rfl⟩) (by omega);have hr:(Instr.sliceAt t (.slice (some ⟨g,0,none⟩) n' cap0) none (some (.int kk k)) none).run P w=.ok (.slice (some ⟨g,0,none⟩) k.toNat cap0) w:=by simp[Instr.sliceAt,Instr.slice,Sem.run_bind,za7 (zcf he),hb,zb6 hs,add_lit]
     rw[Sem.run_bind,hr];refine⟨_,G',_,hE,eU,?_,hK⟩;exact⟨⟨some ⟨g,0,none⟩,cap0,rfl,λh=>⟨g,rfl⟩,by omega⟩,_,_,_,hm,ac _,λ_=>rfl⟩
  ·exact h.elim
 ·exact zcx hH (zsw (lo:=none) (hi:=some hv) (alo:=none) (ahi:=some hi) hx trivial ⟨jf,trivial⟩ ht (λ_=>hs) h)
theorem HRel.newMade(h:HRel B w G H)(vs:Array Value)(e:TypeId)(size cap:Nat)(hs:vs.size=cap*size)(hm:cap≤maxLen):
  Ext B w G (w.alloc (.cells vs e)) ⟨G.L,G.μ++[.own (.slice (some ⟨w.heap.size,0,none⟩) 0 cap) size 0]⟩∧HRel B (w.alloc (.cells vs e)) ⟨G.L,G.μ++[.own (.slice (some ⟨w.heap.size,0,none⟩) 0 cap) size 0]⟩ (H++[.vec e size 0 []]):=by
 have he:=Ext.alloc h (.cells vs e) G.L (λ_ _=>rfl) [.own (.slice (some ⟨w.heap.size,0,none⟩) 0 cap) size 0];refine⟨he,?_⟩;have split:∀(id:Nat) gi,(G.μ++[.own (.slice (some ⟨w.heap.size,0,none⟩) 0 cap) size 0])[id]?=some gi→G.μ[id]?=some gi∨(id=G.μ.length∧gi=.own (.slice (some ⟨w.heap.size,0,none⟩) 0 cap) size 0):=by
  intro id gi hg;by_cases ei:id<G.μ.length
  ·rw[List.getElem?_append_left ei]at hg;exact .inl hg
  ·have eW:=(List.getElem?_eq_some_iff.1 hg).1;simp at eW;have:id=G.μ.length:=by omega
   subst this;simp at hg;exact .inr ⟨rfl,hg.symm⟩
 refine⟨by simp[h.len],?_,?_,?_,?_,?_⟩
 ·intro id ab gi h1 h2;rcases split id gi h2 with h2 | ⟨rfl,rfl⟩
  ·have ei:id<H.length:=by rw[←h.len];exact (List.getElem?_eq_some_iff.1 h2).1
   rw[List.getElem?_append_left ei]at h1;exact(h.ok id ab gi h1 h2).keep he (λb hb=>⟨zcX (h.lt id gi b h2 hb),rfl⟩)
  ·rw[h.len]at h1;simp at h1;subst h1;refine⟨rfl,rfl,⟨[],World.ownsRow_made w vs cap h.base hm hs,trivial⟩,λb hb=>?_⟩;simp[Value.ownBlock]at hb;subst hb;exact h.fresh _ (ac _)
 ·intro id id' gi gi' b h1 h2 h3 h4;rcases split id gi h1 with h1 | ⟨rfl,rfl⟩ <;> rcases split id' gi' h2 with h2 | ⟨rfl,rfl⟩
  ·exact h.dist id id' gi gi' b h1 h2 h3 h4
  ·have:=h.lt id gi b h1 h3;simp[GI.block,Value.ownBlock]at h4;omega
  ·have:=h.lt id' gi' b h2 h4;simp[GI.block,Value.ownBlock]at h3;omega
  ·rfl
 ·intro b hb;rw[zcg]at hb;exact h.fresh b (by omega)
 ·intro id gi b h1 h2;rw[zcg];rcases split id gi h1 with h1 | ⟨rfl,rfl⟩
  ·have:=h.lt id gi b h1 h2;omega
  ·simp[GI.block,Value.ownBlock]at h2;omega
 ·rw[zcg];have:=h.base;omega
theorem zLg{t e:TypeId}{size bytes:Nat}{z:Value}{vc:Value}{c:AV}{K:AV→zaa→Prop}(hH:HRel B w G H)(he:zbj P t=some e)(hn:za4 P e=some size)(fA:zdk P e=some bytes)(hz:zbJ P e=some z)(h0:0<size)(jR:(zbG z).length=size)(hc:TRel w G vc c)(h:ze3 e size bytes c H K):
  OpOK P B w G K (((do pure (.value (←Instr.makeSlice t (.int .i64 0) vc))):Sem Next).run P w):=by
 unfold ze3 at h;split at h
 ·rename_i c;cases hc;obtain⟨⟨h2,h3,h4⟩,hk⟩:=h;have iH:=zd5 (w:=w) (G:=G) z;have iI:z.cells.size=size:=by have:=iH.length;simp at this;omega
  unfold za4 at hn;unfold zbJ at hz;unfold zdk at fA;cases hi:P.info? e with
  |none=>simp[hi]at hn
  |some i=>
   simp[hi]at hn hz fA;have hr:=run_make (P:=P) w t e i z (zcf he) hi hz .i64 .i64 0 c (by omega) h2 (by rw[fA,dV];omega) h4;have hm:=(zqW iH (by omega) c.toNat).length;rw[hn]at hr;obtain⟨hx,eU⟩:=hH.newMade (madeCells z.cells (c.toNat*size)) e size c.toNat (by simp[madeCells]) (by simp[maxLen];omega);have et:((do pure (.value (←Instr.makeSlice t (.int .i64 0) (.int .i64 c)))):Sem Next).run P w=.ok (.value (.slice (some ⟨w.heap.size,0,none⟩) 0 c.toNat)) (w.alloc (.cells (madeCells z.cells (c.toNat*size)) e)):=by rw[Sem.run_bind,hr];rfl
   rw[et];refine⟨.ov H.length 0,_,_,hx,eU,⟨⟨_,_,rfl,(λh=>by omega),by omega⟩,.slice (some ⟨w.heap.size,0,none⟩) 0 c.toNat,size,0,?_,ac _,λ_=>rfl⟩,hk⟩;rw[←hH.len];simp
 ·exact h.elim
theorem zJB{o:Oper}{a:Act}{F:List AV}{K:AV→zaa→Prop}(hH:HRel B w G H)(hF:FRel w G a.tmps F)(h:zqd P o F H K):OpOK P B w G K ((execOp a.eval o).run P w):=by
 unfold zqd at h;split at h
 ·rename_i t len ec fE;obtain⟨dst,op,type,pos,after,guard⟩:=o;simp only[]at fE;subst fE;simp only[execOp];split at h
  ·rename_i e he;split at h
   ·rename_i size z hs hz;split at h
    ·rename_i hb;exact zK0 hH he hs hz (by simpa using hb) (by simpa using zr9 hF ec.toList) h
    ·exact h.elim
   ·exact h.elim
  ·exact h.elim
 ·rename_i op t x y pos fE;obtain⟨dst,op0,type,pos0,after,guard⟩:=o;simp only[]at fE;subst fE;split at h
  ·rename_i hy;simp only[execOp];exact zcx hH (zLj (a:=a) (zaQ hF x) hy h)
  ·exact zfT hH hF h
 ·rename_i t l c fE;obtain⟨dst,op0,type,pos0,after,guard⟩:=o;simp only[]at fE;subst fE;split at h
  ·rename_i hl;simp only[execOp];split at h
   ·rename_i e he;split at h
    ·rename_i size bytes z hs fA hz;split at h
     ·rename_i hb;simp at hb;have ik:a.eval l=.int .i64 0:=by
       unfold zy4 at hl;split at hl
       ·rfl
       ·cases hl
      rw[ik];exact zLg hH he hs fA hz hb.1 hb.2 (zaQ hF c) h
     ·exact h.elim
    ·exact h.elim
   ·exact h.elim
  ·exact zfT hH hF h
 ·rename_i t x hi fE;obtain⟨dst,op0,type,pos0,after,guard⟩:=o;simp only[]at fE;subst fE;split at h
  ·rename_i ht;split at h
   ·rename_i size hs;exact zLl hH (zaQ hF x) (zaQ hF hi) ht hs h
   ·exact h.elim
  ·exact h.elim
 ·exact zfT hH hF h
theorem zAE{eh:Array Oper}{K:List AV→zaa→Prop}{Q:Exit→Act→World→Prop}{w0:World}{G0:Gh}(hQ:∀ a w G F H,Ext B w0 G0 w G→HRel B w G H→FRel w G a.tmps F→a.defers=[]→K F H→Q .normal a w):
  ∀(l:List Oper) (F:List AV) (H:zaa) (a:Act) (w:World) (G:Gh),Ext B w0 G0 w G→HRel B w G H→FRel w G a.tmps F→a.defers=[]→ziI P l K F H→wpList P eh Q l a w
 |[],F,H,a,w,G,hE,hH,hF,hd,h=>hQ a w G F H hE hH hF hd h
 |o::l,F,H,a,w,G,hE,hH,hF,hd,h=>by
  refine wpList_step λK' gP=>?_;unfold ziI at h;split at h
  ·rename_i hg;rw[az (by simp[Region.wanted,hg])];exact ziA hF (zJB hH hF h) λv av w' G' H' h1 h2 h3 h4=>
    gP _ _ (zAE hQ l _ _ _ _ G' (hE.trans h1) h2 ((hF.ext h1).put h3) (by cases ip:o.dst <;> simpa[Act.put,ip]using hd) h4)
  ·exact h.elim
theorem zsn{eh:Array Oper}{K:List AV→zaa→Prop}{Q:Exit→Act→World→Prop}{w0:World}{G0:Gh}(hQ:∀ a w G F H,Ext B w0 G0 w G→HRel B w G H→FRel w G a.tmps F→a.defers=[]→K F H→Q .normal a w):
  ∀(l:List Oper) (F:List AV) (H:zaa) (a:Act) (w:World) (G:Gh),Ext B w0 G0 w G→HRel B w G H→FRel w G a.tmps F→a.defers=[]→zfn P eh l K F H→wpList P eh Q l a w
 |[],F,H,a,w,G,hE,hH,hF,hd,h=>hQ a w G F H hE hH hF hd h
 |o::l,F,H,a,w,G,hE,hH,hF,hd,h=>by
  have go:∀(K':Act→World→Prop),(∀a w,wpList P eh Q l a w→K' a w)→zhC P o F H (λv H'=>zfn P eh l K (zbZ F o.dst v) H')→o.wp P a w K' Q:=λK' gP fE=>
   ziA hF (zJy hH hF fE) λv av w' G' H' h1 h2 h3 h4=>
    gP _ _ (zsn hQ l _ _ _ _ G' (hE.trans h1) h2 ((hF.ext h1).put h3) (by cases ip:o.dst <;> simpa[Act.put,ip]using hd) h4)
  have skip:∀(K':Act→World→Prop),(∀a w,wpList P eh Q l a w→K' a w)→zfn P eh l K (zbZ F o.dst (.tup [])) H→K' (a.put o.dst undef) w:=λK' gP fE=>
   gP _ _ (zsn hQ l _ _ _ _ G hE hH (hF.put zsQ) (by cases ip:o.dst <;> simpa[Act.put,ip]using hd) fE)
  refine wpList_step λK' gP=>?_;unfold zfn at h;split at h
  ·rename_i hg;rw[az (by simp[Region.wanted,hg])];exact go K' gP h
  ·rename_i j want hg;split at h
   ·rename_i d jj;unfold zad zdC at h;split at h
    ·rename_i b hb;rw[zsV hF hg jj hb];unfold aIf at h;split at h
     ·rename_i hw;rw[az hw];exact go K' gP h
     ·rename_i hw;rw[au hw];exact skip K' gP h
    ·rename_i hb;rw[zBN hF hg jj hb,au (by simp)];exact skip K' gP h
    ·exact h.elim
   ·exact h.elim


theorem zHC{o:Oper}{F F':List AV}{K:AV→zaa→Prop}(h:∀x∈o.op.operands,ev F x=ev F' x):zdF P o F H K=zdF P o F' H K:=by
 obtain⟨dst,op,type,pos,after,guard⟩:=o;have pairs:∀ps:Array (Nat×Operand),(∀x∈ps.toList.map (·.2),ev F x=ev F' x)→(ps.toList.map λp=>(p.1,ev F p.2))=(ps.toList.map λp=>(p.1,ev F' p.2)):=λps hp=>
  bo λp hm=>by rw[hp p.2 (aA.2 ⟨p,hm,rfl⟩)]
 cases op <;> simp only[Op.operands]at h <;> simp only[zdF]
 case build t ps=>rw[pairs ps (by simpa using h)]
 case buildSlice t n ps=>rw[pairs ps (by simpa using h)]
 case makeFunc fn first caps=>
  cases fn <;> simp only[]
  rw[bo (l:=caps.toList) (λx hx=>h x (Array.mem_append.2 (.inr (by simpa using hx))))]
 case slice t x lo hi mx=>
  cases mx <;> simp only[]
  have hx:=h x (by simp);have jg:lo.map (ev F)=lo.map (ev F'):=by cases lo <;> simp_all
  have jf:hi.map (ev F)=hi.map (ev F'):=by cases hi <;> simp_all
  rw[hx,jg,jf]
 case call c=>
  cases hc:c.callee with
  |value f=>have hf:=h f (by simp[Call.operands,hc]);have ha:c.args.toList.map (ev F)=c.args.toList.map (ev F'):=bo λx hx=>h x (by simp[Call.operands,hc];exact .inr (by simpa using hx));simp only[hf,ha]
  |builtin b=>
   have ha:∀x∈c.args.toList,ev F x=ev F' x:=λx hx=>h x (by simp[Call.operands,hc];simpa using hx);cases b <;> simp only[ze2]
   all_goals
    split
    ·first
     | (rename_i fq _
        rw[fq]at ha;simp only[aP,List.not_mem_nil,or_false,forall_eq_or_imp,forall_eq]at ha;simp only[ha])
     | (rename_i fq
        rw[fq]at ha;simp only[aP,List.not_mem_nil,or_false,forall_eq_or_imp,forall_eq]at ha;simp only[ha])
    ·rfl
  |invoke r m=>rfl
 all_goals (first|rfl|(simp_all;done))

theorem zHF{o:Oper}{F F':List AV}{K:AV→zaa→Prop}(h:∀x∈o.op.operands,ev F x=ev F' x):ze6 P o.op F H K=ze6 P o.op F' H K:=by
 obtain⟨dst,op,type,pos,after,guard⟩:=o;cases op <;> simp only[Op.operands]at h <;> simp only[ze6]
 all_goals (first|rfl|(simp_all;done))
theorem zHG{o:Oper}{F F':List AV}{K:AV→zaa→Prop}(h:∀x∈o.op.operands,ev F x=ev F' x):aop P o F H K=aop P o F' H K:=by unfold aop;rw[zHF h,zHC h]
theorem zHE{o:Oper}{F F':List AV}{K:AV→zaa→Prop}(h:∀x∈o.op.operands,ev F x=ev F' x):zby fl P o F H K=zby fl P o F' H K:=by
 unfold zby;split
 ·rename_i t a fE;rw[h a (by rw[fE];simp[Op.operands])]
 ·exact zHG h
theorem zHD{o:Oper}{F:List AV}{K:AV→zaa→Prop}(h:zby fl P o F H K):aop P o F H K:=by
 obtain⟨dst,op,type,pos,after,guard⟩:=o;unfold zby at h;cases op <;> (try simp only[]at h) <;> (try exact h)
 simp only[aop,isM,zdF];split at h
 ·rename_i g n hg hn;cases fl with
  |true=>exact h
  |false=>
   unfold zp2 zaj at h;simp only[]at h;split at h
   ·exact h.elim
   ·exact h
 ·exact h.elim

theorem zzQ{o:Oper}(ho:opF o.op=true){F:List AV}{r:AV}{H H':zaa}(h:zby fl P o F H λv H2=>v=r∧H2=H):zby fl P o F H' λv H2=>v=r∧H2=H':=by
 obtain⟨dst,op,type,pos,after,guard⟩:=o;cases op <;> simp only[opF,aH]at ho <;> simp only[zby,aop,isM,zdF,and_true]at h ⊢
 all_goals first
  |exact h
  |skip
 case call c=>
  cases hc:c.callee with
  |value f=>simp[hc]at ho
  |invoke r m=>simp[hc]at ho
  |builtin b=>
   cases b <;> simp[hc]at ho
   simpa[hc,ze2]using h
 case makeFunc fn first caps=>cases fn <;> simp only[]at h ⊢ <;> try exact h
 case slice t x lo hi mx=>cases mx <;> simp only[]at h ⊢ <;> exact h

theorem zJA{o:Oper}(ho:opW .n o.op=true){F:List AV}{H:zaa}{K:AV→zaa→Prop}(h:zby fl P o F H K):∃v H',(zby fl P o F H λv2 H2=>v2=v∧H2=H')∧K v H':=by
 obtain⟨dst,op,type,pos,after,guard⟩:=o;cases op <;> simp only[opW,aH]at ho <;> simp only[zby,aop,isM,zdF,ze6]at h ⊢
 case alloc t=>
  split at h
  ·exact⟨_,_,⟨rfl,rfl⟩,h⟩
  ·exact h.elim
 case box t x=>
  unfold zav at h ⊢;split at h
  ·exact⟨_,_,⟨rfl,rfl⟩,h⟩
  ·exact h.elim
 case store t x y=>
  split at h
  ·simp only[ze4]at h ⊢;split at h
   ·split at h
    ·exact⟨_,_,⟨h.1,rfl,rfl⟩,h.2⟩
    ·exact h.elim
   ·split at h
    ·exact⟨_,_,⟨h.1,rfl,rfl⟩,h.2⟩
    ·exact h.elim
   ·exact h.elim
  ·exact h.elim
 case makeSlice t l c=>
  split at h
  ·split at h
   ·unfold zbp at h ⊢;split at h
    ·exact⟨_,_,⟨h.1,rfl,rfl⟩,h.2⟩
    ·exact h.elim
   ·exact h.elim
  ·exact h.elim
 case makeMap t r=>
  split at h
  ·exact⟨_,_,⟨rfl,rfl⟩,h⟩
  ·exact h.elim
 case mapUpdate t m k x=>
  split at h
  ·unfold zc9 at h ⊢;split at h
   ·split at h
    ·split at h
     ·exact h.elim
     ·exact⟨_,_,⟨rfl,rfl⟩,h⟩
    ·exact h.elim
   ·exact h.elim
  ·exact h.elim
 case insert t m k x=>
  split at h
  ·unfold zc9 at h ⊢;split at h
   ·split at h
    ·split at h
     ·exact h.elim
     ·exact⟨_,_,⟨rfl,rfl⟩,h⟩
    ·exact h.elim
   ·exact h.elim
  ·exact h.elim
 case call c=>
  cases hc:c.callee with
  |value f=>simp[hc,WM.on]at ho
  |invoke r m=>simp[hc]at ho
  |builtin b=>
   cases b <;> simp[hc]at ho
   case append=>
    simp only[hc,ze2]at h ⊢;split at h
    ·split at h
     ·split at h
      ·obtain⟨r,H',k1,k2⟩:=zHe h;exact⟨r,H',k1,k2⟩
      ·exact h.elim
     ·exact h.elim
    ·exact h.elim
   case copy=>
    simp only[hc,ze2]at h ⊢;split at h
    ·split at h
     ·unfold zfA at h ⊢;split at h
      ·split at h
       ·rename_i eN;exact⟨_,_,⟨h.1,rfl,rfl⟩,h.2⟩
       ·exact h.elim
      ·exact h.elim
     ·exact h.elim
    ·exact h.elim

def TrOK(fl:Bool)(P:Program)(eh:Array Oper)(H:zaa)(F:List AV)(o:Oper)(r:AV)(H':zaa):Prop:=
 match o.guard with
 |none=>zby fl P o F H λv H2=>v=r∧H2=H'
 | some (j,want)=>∃ d,(eh[j]?).bind (·.dst)=some d ∧
   ((∃ b,F.getD d .unk=.bool b∧(b == want)=true∧zby fl P o F H λv H2=>v=r∧H2=H') ∨
    (∃b,F.getD d .unk=.bool b∧(b == want)=false∧r=.tup []∧H'=H)∨(F.getD d .unk=.tup []∧r=.tup []∧H'=H))

theorem TrOK.congr{eh:Array Oper}{F F':List AV}{o:Oper}{r:AV}{H':zaa}(h:∀s∈zeL eh o,F.getD s .unk=F'.getD s .unk)(ht:TrOK fl P eh H F o r H'):TrOK fl P eh H F' o r H':=by
 have qe:∀x∈o.op.operands,ev F x=ev F' x:=λx hx=>by
  cases x with
  |tmp t=>exact h t (by simp only[zeL,aX,List.mem_filterMap];exact .inl ⟨.tmp t,by simpa using hx,rfl⟩)
  |_=>rfl
 have fE:(zby fl P o F H λv H2=>v=r∧H2=H')=zby fl P o F' H λv H2=>v=r∧H2=H':=zHE qe;unfold TrOK at *;split at ht
 ·rw[←fE];exact ht
 ·rename_i j want hg;obtain⟨d,hd,ht⟩:=ht;have hs:=h d (by simp[zeL,hg,hd]);refine⟨d,hd,?_⟩;rw[←hs,←fE];exact ht

theorem TrOK.free{eh:Array Oper}{F:List AV}{o:Oper}{r:AV}{H H':zaa}(ho:opF o.op=true)(ht:TrOK fl P eh H F o r H):TrOK fl P eh H' F o r H':=by
 unfold TrOK at *;split at ht
 ·exact zzQ ho ht
 ·obtain⟨d,hd,ht⟩:=ht;refine⟨d,hd,?_⟩;rcases ht with ⟨b,h1,h2,h3⟩ | ⟨b,h1,h2,h3,_⟩ | ⟨h1,h2,_⟩
  ·exact .inl ⟨b,h1,h2,zzQ ho h3⟩
  ·exact .inr (.inl ⟨b,h1,h2,h3,rfl⟩)
  ·exact .inr (.inr ⟨h1,h2,rfl⟩)

inductive TrL (fl:Bool) (wc:WM) (P:Program) (eh:Array Oper):List Oper→List AV→zaa→List AV→List zaa→List AV→zaa→Prop
 |nil (F:List AV) (H:zaa):TrL fl wc P eh [] F H [] [] F H
 |cons {o:Oper} {os:List Oper} {F rs Fn:List AV} {r:AV} {H H' Hn:zaa} {hs:List zaa} (h:TrOK fl P eh H F o r H') (hw:opW wc o.op=false→H'=H) (hx:opC wc o.op=true→∀J,TrOK fl P eh (H++J) F o r (H++J)) (fB:opG wc o.op=true→GrowA H H') (t:TrL fl wc P eh os (zbZ F o.dst r) H' rs hs Fn Hn):TrL fl wc P eh (o::os) F H (r::rs) (H'::hs) Fn Hn

theorem zyx{o:Oper}{gr:Bool}(ho:opW wc o.op=true)(hg:wc=.n→gr=false){F:List AV}{H:zaa}{K:AV→zaa→Prop}(h:zdT wc gr H (zby fl P o F H) K):∃v H',(zby fl P o F H λv2 H2=>v2=v∧H2=H')∧(gr=true→GrowA H H')∧K v H':=by
 cases wc with
 |n=>obtain⟨v,H',h1,h2⟩:=zJA ho h;exact⟨v,H',h1,(λh=>by rw[hg rfl]at h;cases h),h2⟩
 |w=>exact h
 |g=>exact h
 |c=>exact h
theorem zzR(op:Op):opG .n op=false:=by
 cases op <;> try rfl
 rename_i c;cases hc:c.callee <;> simp[opG,hc,WM.gr]
theorem zJv{op:Op}(h:opW wc op=false):opG wc op=false:=by
 cases op <;> try rfl
 rename_i c;cases hc:c.callee with
 |value f=>cases wc <;> simp[opW,opG,hc,WM.on,WM.gr]at h ⊢
 |builtin b=>simp[opG,hc]
 |invoke r m=>simp[opG,hc]
theorem zJu{op:Op}(h:opC wc op=true):opW wc op=false:=by
 cases op <;> simp only[opC,aH]at h
 rename_i c;cases hc:c.callee with
 |value f=>simpa[opW,hc]using h
 |builtin b=>simp[hc]at h
 |invoke r m=>simp[hc]at h
theorem zdh{eh:Array Oper}{K:List AV→zaa→Prop}:∀ (l:List Oper) (F:List AV) (H:zaa),zc4 fl wc P eh l K F H→∃ rs hs Fn Hn,TrL fl wc P eh l F H rs hs Fn Hn∧K Fn Hn
 |[],F,H,h=>⟨[],[],F,H,.nil F H,h⟩
 |o::l,F,H,h=>by
  unfold zc4 at h;have noC:∀{p:Prop},opC wc o.op=false→opC wc o.op=true→p:=λh1 h2=>by rw[h1]at h2;cases h2
  have noG:∀{p:Prop},opW wc o.op=false→opG wc o.op=true→p:=λh1 h2=>by rw[zJv h1]at h2;cases h2
  have noW:∀{p:Prop},opW wc o.op=true→opC wc o.op=true→p:=λh1 h2=>by rw[zJu h2]at h1;cases h1
  split at h
  ·rename_i hg;split at h
   ·rename_i hw;split at h
    ·rename_i hc;obtain⟨r,h1,h2⟩:=h;obtain⟨rs,hs,Fn,Hn,h3,h4⟩:=zdh l _ _ h2;exact⟨r::rs,H::hs,Fn,Hn,.cons (by unfold TrOK;rw[hg];exact h1) (λ_=>rfl) (noC hc) (noG hw) h3,h4⟩
    ·rename_i hc;obtain⟨r,h1,h2⟩:=h;obtain⟨rs,hs,Fn,Hn,h3,h4⟩:=zdh l _ _ h2;have hx:∀ J,TrOK fl P eh (H++J) F o r (H++J):=λJ=>by unfold TrOK;rw[hg];exact h1 J
     exact⟨r::rs,H::hs,Fn,Hn,.cons (by have:=hx [];rwa [aG]at this) (λ_=>rfl) (λ_=>hx) (noG hw) h3,h4⟩
   ·rename_i hw;obtain⟨r,H',h1,fB,h2⟩:=zyx hw (λe=>by rw[e];exact zzR _) h;obtain⟨rs,hs,Fn,Hn,h3,h4⟩:=zdh l _ _ h2;exact⟨r::rs,H'::hs,Fn,Hn,.cons (by unfold TrOK;rw[hg];exact h1) (λh0=>by rw[hw]at h0;cases h0) (noW hw) fB h3,h4⟩
  ·rename_i j want hg;split at h
   ·rename_i d hd;have yes:∀ b,F.getD d .unk=.bool b→(b == want)=true→∀ {H1 H2:zaa} {r:AV},(zby fl P o F H1 λv H3=>v=r∧H3=H2)→TrOK fl P eh H1 F o r H2:=λb hb iV _ _ _ h1=>by unfold TrOK;rw[hg];exact⟨d,hd,.inl ⟨b,hb,iV,h1⟩⟩
    have no:∀b,F.getD d .unk=.bool b→(b == want)=false→∀H1:zaa,TrOK fl P eh H1 F o (.tup []) H1:=λb hb iV H1=>by unfold TrOK;rw[hg];exact⟨d,hd,.inr (.inl ⟨b,hb,iV,rfl,rfl⟩)⟩
    have nil:F.getD d .unk=.tup []→∀H1:zaa,TrOK fl P eh H1 F o (.tup []) H1:=λhb H1=>by unfold TrOK;rw[hg];exact⟨d,hd,.inr (.inr ⟨hb,rfl,rfl⟩)⟩
    split at h
    ·rename_i hw;split at h
     ·rename_i hc;unfold zad zdC at h;split at h
      ·rename_i b hb;unfold aIf at h;split at h
       ·rename_i iV;obtain⟨r,h1,h2⟩:=h;obtain⟨rs,hs,Fn,Hn,h3,h4⟩:=zdh l _ _ h2;exact⟨r::rs,H::hs,Fn,Hn,.cons (yes b hb iV h1) (λ_=>rfl) (noC hc) (noG hw) h3,h4⟩
       ·rename_i iV;obtain⟨rs,hs,Fn,Hn,h3,h4⟩:=zdh l _ _ h;exact⟨.tup []::rs,H::hs,Fn,Hn,.cons (no b hb (by simpa using iV) H) (λ_=>rfl) (noC hc) (noG hw) h3,h4⟩
      ·rename_i hb;obtain⟨rs,hs,Fn,Hn,h3,h4⟩:=zdh l _ _ h;exact⟨.tup []::rs,H::hs,Fn,Hn,.cons (nil hb H) (λ_=>rfl) (noC hc) (noG hw) h3,h4⟩
      ·exact h.elim
     ·rename_i hc;unfold zad zdC at h;split at h
      ·rename_i b hb;unfold aIf at h;split at h
       ·rename_i iV;obtain⟨r,h1,h2⟩:=h;obtain⟨rs,hs,Fn,Hn,h3,h4⟩:=zdh l _ _ h2;have hx:∀J,TrOK fl P eh (H++J) F o r (H++J):=λJ=>yes b hb iV (h1 J);exact⟨r::rs,H::hs,Fn,Hn,.cons (by have:=hx [];rwa [aG]at this) (λ_=>rfl) (λ_=>hx) (noG hw) h3,h4⟩
       ·rename_i iV;obtain⟨rs,hs,Fn,Hn,h3,h4⟩:=zdh l _ _ h;exact⟨.tup []::rs,H::hs,Fn,Hn,.cons (no b hb (by simpa using iV) H) (λ_=>rfl) (λ_ J=>no b hb (by simpa using iV) _) (noG hw) h3,h4⟩
      ·rename_i hb;obtain⟨rs,hs,Fn,Hn,h3,h4⟩:=zdh l _ _ h;exact⟨.tup []::rs,H::hs,Fn,Hn,.cons (nil hb H) (λ_=>rfl) (λ_ J=>nil hb _) (noG hw) h3,h4⟩
      ·exact h.elim
    ·rename_i hw;unfold zad zdC at h;split at h
     ·rename_i b hb;unfold aIf at h;split at h
      ·rename_i iV;obtain⟨r,H',h1,fB,h2⟩:=zyx hw (λe=>by rw[e];exact zzR _) h;obtain⟨rs,hs,Fn,Hn,h3,h4⟩:=zdh l _ _ h2;exact⟨r::rs,H'::hs,Fn,Hn,.cons (yes b hb iV h1) (λh0=>by rw[hw]at h0;cases h0) (noW hw) fB h3,h4⟩
      ·rename_i iV;obtain⟨rs,hs,Fn,Hn,h3,h4⟩:=zdh l _ _ h;exact⟨.tup []::rs,H::hs,Fn,Hn,.cons (no b hb (by simpa using iV) H) (λ_=>rfl) (noW hw) (λ_=>.inl rfl) h3,h4⟩
     ·rename_i hb;obtain⟨rs,hs,Fn,Hn,h3,h4⟩:=zdh l _ _ h;exact⟨.tup []::rs,H::hs,Fn,Hn,.cons (nil hb H) (λ_=>rfl) (noW hw) (λ_=>.inl rfl) h3,h4⟩
     ·exact h.elim
   ·exact h.elim

def frk:List Oper→List AV→List AV→Nat→List AV
 |_,_,F,0=>F
 |o::os,r::rs,F,i+1=>frk os rs (zbZ F o.dst r) i
 |_,_,F,_=>F
def hpk:List zaa→zaa→Nat→zaa
 |_,H,0=>H
 |h::hs,_,i+1=>hpk hs h i
 |[],H,_=>H

theorem TrL.at{eh:Array Oper}{l:List Oper}{F rs Fn:List AV}{H Hn:zaa}{hs:List zaa}(h:TrL fl wc P eh l F H rs hs Fn Hn):rs.length=l.length∧frk l rs F l.length=Fn∧hpk hs H l.length=Hn ∧
  ∀(i:Nat) o,l[i]?=some o→∃r,rs[i]?=some r∧TrOK fl P eh (hpk hs H i) (frk l rs F i) o r (hpk hs H (i+1))∧frk l rs F (i+1)=zbZ (frk l rs F i) o.dst r∧(opW wc o.op=false→hpk hs H (i+1)=hpk hs H i)∧(opC wc o.op=true→∀J,TrOK fl P eh (hpk hs H i++J) (frk l rs F i) o r (hpk hs H i++J))∧(opG wc o.op=true→GrowA (hpk hs H i) (hpk hs H (i+1))):=by
 induction h with
 |nil F H=>exact⟨rfl,rfl,rfl,λi o h=>by simp at h⟩
 |cons h hw hx fB t ih=>
  obtain⟨h1,h2,oM,h3⟩:=ih;refine⟨by simp[h1],by simpa[frk]using h2,by simpa[hpk]using oM,λi o' ho=>?_⟩;cases i with
  |zero=>
   simp at ho;subst ho;rename_i os F rs Fn r H H' Hn hs;have e1:hpk (H'::hs) H 1=H':=by cases hs <;> rfl
   refine⟨_,rfl,?_,by simp[frk],λh0=>?_,λh0=>hx h0,λh0=>?_⟩
   ·rw[aC,e1];exact h
   ·rw[aC,e1];exact hw h0
   ·rw[aC,e1];exact fB h0
  |succ i=>obtain⟨r,h4,h5,h6,h7,h8,h9⟩:=h3 i o' (by simpa using ho);exact⟨r,by simpa using h4,by simpa[hpk,frk]using h5,by simpa[frk]using h6,by simpa[hpk]using h7,by simpa[hpk,frk]using h8,by simpa[hpk]using h9⟩

def Grow(H H':zaa):Prop:=H'=H∨(∃x,H'=H++[x])∨∃(id:Nat) (a b:AB),H[id]?=some a∧(∀cs,a≠.cells cs)∧H'=H.set id b
theorem zxz{e s b:Nat}{x r:AV}{ys:List (List AV)}{H H':zaa}(h2:zaK e s b x ys H λv H2=>v=r∧H2=H'):GrowA H H':=by
 unfold zaK at h2;split at h2
 ·exact .inr (.inl ⟨_,_,_,h2.2.2.symm⟩)
 ·rename_i es id;exact .inr (.inr (.inl ⟨id,e,s,es.length,_,h2.1,h2.2.2.2.symm⟩))
 ·split at h2
  ·rename_i en;obtain⟨⟨⟨rfl,rfl,rfl⟩,_⟩,_,he⟩:=h2;exact .inr (.inr (.inr (.inl ⟨_,_,_,_,_,_,_,en,he.symm⟩)))
  ·exact h2.elim
 ·split at h2
  ·exact .inl h2.2.symm
  ·exact .inr (.inl ⟨_,_,_,h2.2.2.symm⟩)
 ·exact h2.elim
theorem zxx{e s b m:Nat}{x r:AV}{ds:List AV}{H H':zaa}(h:zd9 e s b x m ds H λv H2=>v=r∧H2=H'):GrowA H H':=by
 unfold zd9 at h;split at h
 ·split at h
  ·rename_i en;obtain⟨⟨⟨rfl,rfl,rfl⟩,_⟩,_,he⟩:=h;exact .inr (.inr (.inr (.inl ⟨_,_,_,_,_,_,_,en,he.symm⟩)))
  ·exact h.elim
 ·split at h
  ·exact .inl h.2.symm
  ·exact .inr (.inr (.inr (.inr ⟨_,_,_,_,h.2.2.symm⟩)))
 ·exact h.elim
theorem zHf{e s b:Nat}{x y r:AV}{H H':zaa}(h:zax e s b x y H λv H2=>v=r∧H2=H'):GrowA H H':=by
 unfold zax at h;split at h
 ·split at h
  ·exact zxx h.2
  ·exact h.elim
 ·split at h
  ·exact zxx h.2
  ·exact h.elim
 ·unfold zaM at h;split at h
  ·exact zxz h.2
  ·exact zxz h.2
  ·exact h.elim
theorem GrowA.grow{H H':zaa}(h:GrowA H H'):Grow H H':=by
 rcases h with h|⟨e,s,n,h⟩|⟨id,e,s,n,n',h1,h2⟩|⟨id,e,s,n,n',cs,cs',h1,h2⟩|⟨e,s,n,cs,h⟩
 ·exact .inl h
 ·exact .inr (.inl ⟨_,h⟩)
 ·exact .inr (.inr ⟨id,_,_,h1,(λ_ h=>by cases h),h2⟩)
 ·exact .inr (.inr ⟨id,_,_,h1,(λ_ h=>by cases h),h2⟩)
 ·exact .inr (.inl ⟨_,h⟩)
theorem Grow.cells{H H':zaa}(h:Grow H H'){id:Nat}{cs:List AV}(hc:H[id]?=some (.cells cs)):H'[id]?=some (.cells cs):=by
 have ei:id<H.length:=(List.getElem?_eq_some_iff.1 hc).1;rcases h with rfl|⟨x,rfl⟩|⟨id',a,b,h1,h2,rfl⟩
 ·exact hc
 ·rw[List.getElem?_append_left ei];exact hc
 ·by_cases he:id=id'
  ·subst he;rw[hc]at h1;cases h1;exact(h2 _ rfl).elim
  ·rw[List.getElem?_set_ne (λh=>he h.symm)];exact hc
theorem GrowA.cells{H H':zaa}(h:GrowA H H'){id:Nat}{cs:List AV}(hc:H'[id]?=some (.cells cs)):H[id]?=some (.cells cs):=by
 rcases h with rfl|⟨e,s,n,rfl⟩|⟨id',e,s,n,n',h1,rfl⟩|⟨id',e,s,n,n',cs1,cs2,h1,rfl⟩|⟨e,s,n,cs1,rfl⟩
 ·exact hc
 ·by_cases ei:id<H.length
  ·rwa [List.getElem?_append_left ei]at hc
  ·have eW:=(List.getElem?_eq_some_iff.1 hc).1;simp at eW;have:id=H.length:=by omega
   subst this;simp at hc
 ·by_cases he:id=id'
  ·subst he;rw[List.getElem?_set_self (List.getElem?_eq_some_iff.1 h1).1]at hc;cases hc
  ·rwa [List.getElem?_set_ne (λh=>he h.symm)]at hc
 ·by_cases he:id=id'
  ·subst he;rw[List.getElem?_set_self (List.getElem?_eq_some_iff.1 h1).1]at hc;cases hc
  ·rwa [List.getElem?_set_ne (λh=>he h.symm)]at hc
 ·by_cases ei:id<H.length
  ·rwa [List.getElem?_append_left ei]at hc
  ·have eW:=(List.getElem?_eq_some_iff.1 hc).1;simp at eW;have:id=H.length:=by omega
   subst this;simp at hc
theorem zzc{o:Oper}(hl:opL o.op=true){F:List AV}{H H':zaa}{r:AV}(he:fl=true→H'=H)(hc:∀(id:Nat) (cs:List AV),H[id]?=some (AB.cells cs)→H'[id]?=some (AB.cells cs))(h:zby fl P o F H λv H2=>v=r∧H2=H):zby fl P o F H' λv H2=>v=r∧H2=H':=by
 obtain⟨dst,op,type,pos,after,guard⟩:=o;cases op <;> simp only[opL,aH]at hl
 cases fl with
 |true=>rw[he rfl];exact h
 |false=>
 simp only[zby,zp2,and_true]at h ⊢;split at h
 ·unfold zaj at h ⊢;split at h
  ·exact h.elim
  rename_i oz;simp only[zhw]at h ⊢;split at h
  ·split at h
   ·rename_i eN;rw[hc _ _ eN];exact h
   ·exact h.elim
  ·exact h
  ·rename_i qe;exact(oz _ _ _ qe).elim
  ·exact h.elim
 ·exact h.elim
theorem TrOK.load{eh:Array Oper}{F:List AV}{o:Oper}{r:AV}{H H':zaa}(hl:opL o.op=true)(he:fl=true→H'=H)(hc:∀(id:Nat) (cs:List AV),H[id]?=some (AB.cells cs)→H'[id]?=some (AB.cells cs))(ht:TrOK fl P eh H F o r H):TrOK fl P eh H' F o r H':=by
 unfold TrOK at *;split at ht
 ·exact zzc hl he hc ht
 ·obtain⟨d,hd,ht⟩:=ht;refine⟨d,hd,?_⟩;rcases ht with ⟨b,h1,h2,h3⟩ | ⟨b,h1,h2,h3,_⟩ | ⟨h1,h2,_⟩
  ·exact .inl ⟨b,h1,h2,zzc hl he hc h3⟩
  ·exact .inr (.inl ⟨b,h1,h2,h3,rfl⟩)
  ·exact .inr (.inr ⟨h1,h2,rfl⟩)
theorem zyV{o:Oper}(ho:opN o.op=true){F:List AV}{H H':zaa}{r:AV}(h:zby fl P o F H λv H2=>v=r∧H2=H'):Grow H H':=by
 obtain⟨dst,op,type,pos,after,guard⟩:=o;cases op <;> simp only[opN,aH]at ho <;> simp only[zby,aop,isM,zdF,ze6]at h
 case alloc t=>
  split at h
  ·exact .inr (.inl ⟨_,h.2.symm⟩)
  ·exact h.elim
 case box t x=>
  unfold zav at h;split at h
  ·exact .inr (.inl ⟨_,h.2.symm⟩)
  ·exact h.elim
 case makeSlice t l c=>
  split at h
  ·split at h
   ·unfold zbp at h;split at h
    ·exact .inr (.inl ⟨_,h.2.2.symm⟩)
    ·exact h.elim
   ·exact h.elim
  ·exact h.elim
 case makeMap t r=>
  split at h
  ·exact .inr (.inl ⟨_,h.2.symm⟩)
  ·exact h.elim
theorem zyU{o:Oper}(ho:opA .n o.op=true){F:List AV}{H H':zaa}{r:AV}(h:zby fl P o F H λv H2=>v=r∧H2=H'):GrowA H H':=by
 obtain⟨dst,op,type,pos,after,guard⟩:=o;cases op <;> simp only[opA,WM.gr,aH]at ho <;> simp only[zby,aop,isM,zdF]at h
 rename_i c;cases hc:c.callee with
 |value f=>simp[hc]at ho
 |invoke r m=>simp[hc]at ho
 |builtin b=>
  cases b <;> simp[hc]at ho
  simp only[hc,ze2]at h;split at h
  ·split at h
   ·split at h
    ·exact zHf h
    ·exact h.elim
   ·exact h.elim
  ·exact h.elim
theorem TrOK.growN{eh:Array Oper}{F:List AV}{o:Oper}{r:AV}{H H':zaa}(ho:opN o.op=true)(ht:TrOK fl P eh H F o r H'):Grow H H':=by
 unfold TrOK at ht;split at ht
 ·exact zyV ho ht
 ·obtain⟨d,hd,ht⟩:=ht;rcases ht with ⟨b,h1,h2,h3⟩ | ⟨b,h1,h2,h3,h4⟩ | ⟨h1,h2,h4⟩
  ·exact zyV ho h3
  ·exact .inl h4
  ·exact .inl h4
theorem TrOK.growA{eh:Array Oper}{F:List AV}{o:Oper}{r:AV}{H H':zaa}(ho:opA .n o.op=true)(ht:TrOK fl P eh H F o r H'):GrowA H H':=by
 unfold TrOK at ht;split at ht
 ·exact zyU ho ht
 ·obtain⟨d,hd,ht⟩:=ht;rcases ht with ⟨b,h1,h2,h3⟩ | ⟨b,h1,h2,h3,h4⟩ | ⟨h1,h2,h4⟩
  ·exact zyU ho h3
  ·exact .inl h4
  ·exact .inl h4

end
end Go.Proofs.YtdmamdnkcefmmaaGreatDoor
