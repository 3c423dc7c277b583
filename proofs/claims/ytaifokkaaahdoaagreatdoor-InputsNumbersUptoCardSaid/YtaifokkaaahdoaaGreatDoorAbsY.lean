import Derived.Test.YtaifokkaaahdoaaGreatDoorAbsI
import Derived.Still
set_option linter.unusedSimpArgs false
set_option linter.unusedVariables false
set_option linter.unusedSectionVars false
set_option maxRecDepth 8000
namespace Go.Proofs.YtaifokkaaahdoaaGreatDoor
section
open Go.RowKit

variable {fl:Bool} {wc:WM} {P:Program} {B:Nat} {w:World} {G:Gh} {H:zaa}
theorem zvO{e s b m:Nat}{x:AV}{ds:List AV}{H:zaa}{K:AV→zaa→Prop}(h:zdY e s b x m ds H K):∃r H',(zdY e s b x m ds H λv H2=>v=r∧H2=H')∧K r H':=by
 unfold zdY at h ⊢;split at h
 ·split at h
  ·exact⟨_,_,⟨h.1,rfl,rfl⟩,h.2⟩
  ·exact h.elim
 ·split at h
  ·exact⟨_,_,⟨rfl,rfl⟩,h⟩
  ·exact⟨_,_,⟨h.1,rfl,rfl⟩,h.2⟩
 ·split at h
  ·exact h.elim
  ·exact⟨_,_,⟨h.1,rfl,rfl⟩,h.2⟩
 ·exact h.elim
theorem zvQ{e s b:Nat}{x:AV}{ys:List (List AV)}{H:zaa}{K:AV→zaa→Prop}(h2:zaZ e s b x ys H K):∃r H',(zaZ e s b x ys H λv H2=>v=r∧H2=H')∧K r H':=by
 unfold zaZ at h2 ⊢;split at h2
 ·exact⟨_,_,⟨h2.1,rfl,rfl⟩,h2.2⟩
 ·exact⟨_,_,⟨h2.1,h2.2.1,rfl,rfl⟩,h2.2.2⟩
 ·split at h2
  ·exact⟨_,_,⟨h2.1,rfl,rfl⟩,h2.2⟩
  ·exact h2.elim
 ·split at h2
  ·exact⟨_,_,⟨rfl,rfl⟩,h2⟩
  ·exact⟨_,_,⟨h2.1,rfl,rfl⟩,h2.2⟩
 ·exact h2.elim
theorem zFn{e s b:Nat}{x y:AV}{H:zaa}{K:AV→zaa→Prop}(h:zax e s b x y H K):∃r H',(zax e s b x y H λv H2=>v=r∧H2=H')∧K r H':=by
 unfold zax at h ⊢;split at h
 ·split at h
  ·obtain⟨r,H',h1,h2⟩:=zvO h.2;exact⟨r,H',⟨h.1,h1⟩,h2⟩
  ·exact h.elim
 ·split at h
  ·obtain⟨r,H',h1,h2⟩:=zvO h.2;exact⟨r,H',⟨h.1,h1⟩,h2⟩
  ·exact h.elim
 ·unfold za6 at h ⊢;split at h
  ·obtain⟨r,H',h1,h2⟩:=zvQ h.2;exact⟨r,H',⟨h.1,h1⟩,h2⟩
  ·obtain⟨r,H',h1,h2⟩:=zvQ h.2;exact⟨r,H',⟨h.1,h1⟩,h2⟩
  ·exact h.elim
theorem FRel.put{a:Act}{F:List AV}{d:Option Tmp}{v:Value}{av:AV}(hF:FRel w G a.tmps F)(hv:TRel w G v av):FRel w G (a.put d v).tmps (zbE F d av):=by
 cases d with
 |none=>exact hF
 |some d=>unfold FRel at *;simp only[Act.put,zbE,bR];exact All2.set d hF hv
theorem FRel.ext{w':World}{G':Gh}{tm:Array Value}{F:List AV}(hF:FRel w G tm F)(he:Ext B w G w' G'):FRel w' G' tm F:=All2.mono (λ_ _=>he.trel) hF

theorem zw6{tm:Array Value}{F:List AV}{d:Nat}{x:AV}(hF:FRel w G tm F)(h:F.getD d .unk=x)(hx:x≠.unk):∃v,tm[d]?=some v∧TRel w G v x:=by
 rw[List.getD_eq_getElem?_getD]at h;cases hd:F[d]? with
 |none=>rw[hd]at h;exact absurd h.symm hx
 |some y=>rw[hd]at h;simp at h;subst h;obtain⟨v,h1,h2⟩:=All2.get hF hd;exact⟨v,by simpa using h1,h2⟩

theorem zr1{ops:Array Oper}{o:Oper}{a:Act}{F:List AV}{j d:Nat}{want b:Bool}(hF:FRel w G a.tmps F)(hg:o.guard=some (j,want))(hd:(ops[j]?).bind (·.dst)=some d)(hb:F.getD d .unk=.bool b):Region.wanted o (yielded ops a.tmps)=(b == want):=by
 obtain⟨v,h1,h2⟩:=zw6 hF hb (by simp);have h2:v=.bool b:=h2;subst h2;simp[Region.wanted,hg,yielded,hd,h1]
theorem zAc{ops:Array Oper}{o:Oper}{a:Act}{F:List AV}{j d:Nat}{want:Bool}(hF:FRel w G a.tmps F)(hg:o.guard=some (j,want))(hd:(ops[j]?).bind (·.dst)=some d)(hb:F.getD d .unk=.tup []):Region.wanted o (yielded ops a.tmps)=false:=by
 obtain⟨v,h1,h2⟩:=zw6 hF hb (by simp);obtain⟨vs,rfl,_⟩:=h2;simp[Region.wanted,hg,yielded,hd,h1]

theorem zrU:TRel w G undef (.tup []):=⟨#[],rfl,trivial⟩

theorem ziJ{o:Oper}{a:Act}{F:List AV}{K:AV→zaa→Prop}{K':Act→World→Prop}{Q:Exit→Act→World→Prop}(hF:FRel w G a.tmps F)(h:OpOK P B w G K ((execOp a.eval o).run P w))(hK:∀v av w' G' H',Ext B w G w' G'→HRel B w' G' H'→TRel w' G' v av→K av H'→K' (a.put o.dst v) w'):o.wp P a w K' Q:=by
 unfold Oper.wp;generalize (execOp a.eval o).run P w=r at *;cases r with
 |halt x w'=>cases x <;> exact h.elim
 |ok n w'=>
  cases n <;> simp only[OpOK]at h <;> simp only[Oper.upon]
  case value v=>obtain⟨av,G',H',h1,h2,h3,h4⟩:=h;exact hK v av w' G' H' h1 h2 h3 h4
  case skip=>obtain⟨G',H',h1,h2,h4⟩:=h;exact hK undef (.tup []) w' G' H' h1 h2 zrU h4
  case enter f vs=>obtain⟨rfl,hc⟩:=h;refine hc.mono λe w'' he=>?_;obtain⟨v,r,H',G',rfl,h1,h2,h3,h4⟩:=he;exact hK v r w'' G' H' h1 h2 h3 h4

theorem HRel.newB(h:HRel B w G H)(vs:Array Value)(t:TypeId)(cs:List AV)(hc:All2 (ARel w G) vs.toList cs):
  Ext B w G (w.alloc (.cells vs t)) ⟨G.L,G.μ++[.blk w.heap.size]⟩∧HRel B (w.alloc (.cells vs t)) ⟨G.L,G.μ++[.blk w.heap.size]⟩ (H++[.bld t cs]):=by
 obtain⟨he,hH⟩:=h.new vs t cs hc;refine⟨he,by simpa using hH.len,λid ab gi h1 h2=>?_,hH.dist,hH.fresh,hH.lt,hH.base⟩;by_cases hlt:id<H.length
 ·rw[List.getElem?_append_left hlt]at h1;exact hH.ok id ab gi (by rw[List.getElem?_append_left hlt];exact h1) h2
 ·have hlt2:=(List.getElem?_eq_some_iff.1 h1).1;simp at hlt2;obtain rfl:id=H.length:=by omega
  simp at h1;subst h1;have hg:gi=.blk w.heap.size:=by simp only[]at h2;rw[←h.len]at h2;simpa using h2.symm
  subst hg;exact⟨h.base,h.fresh _ (aa _),vs,zeF _,hc.mono λ_ _=>he.arel⟩
theorem zIl{o:Oper}{a:Act}{F:List AV}{K:AV→zaa→Prop}(hH:HRel B w G H)(hF:FRel w G a.tmps F)(h:zhX P o F H K):OpOK P B w G K ((execOp a.eval o).run P w):=by
 unfold zhX at h;split at h
 ·rename_i t hop;split at h
  ·split at h
   ·rename_i z hz;obtain⟨he,hH'⟩:=hH.newB z.cells t (zbt z) (zdO z);have hrun:(execOp a.eval o).run P w=.ok (.value (.pointer (some ⟨w.heap.size,0,none⟩))) (w.alloc (.cells z.cells t)):=by obtain⟨dst,op,type,pos,after,guard⟩:=o;simp only[]at hop;subst hop;simp[execOp,Instr.alloc,zek hz,newVar,newRow,World.alloc_eq]
    rw[hrun];refine⟨.ptr H.length 0,_,_,he,hH',⟨w.heap.size,?_,rfl⟩,h⟩;rw[←hH.len];simp
   ·exact h.elim
  ·exact zgb hH hF h
 ·exact zgb hH hF h

theorem zJr{t e:TypeId}{size len:Nat}{z:Value}{parts:Array (Nat × Value)}{aparts:List (Nat × AV)}{K:AV→zaa→Prop}(hH:HRel B w G H)(he:zbe P t=some e)(hn:zaQ P e=some size)(hz:zbq P e=some z)(hzl:(zbt z).length=size)(hr:All2 (λ(p:Nat × Value) (q:Nat × AV)=>p.1=q.1∧TRel w G p.2 q.2) parts.toList aparts)(h:zfN e size len aparts H K):
  OpOK P B w G K (((do pure (.value (←Instr.buildSlice t len parts))):Sem Next).run P w):=by
 unfold zfN at h;split at h
 ·rename_i x;obtain⟨hkn,hk⟩:=h;have hzr:=zdO (w:=w) (G:=G) z;have hzs:z.cells.size=1:=by have:=hzr.length;simp at this;omega
  obtain⟨v,rfl,hv⟩:∃v,parts=#[(0,v)]∧ARel w G v x:=by
   match parts,hr with
   |⟨[(i,v)]⟩,⟨⟨h1,h2⟩,_⟩=>have h1:i=0:=h1;subst h1;refine⟨v,rfl,?_⟩;cases x <;> first|exact h2|(simp[AV.oneK]at hkn;done)
   |⟨[]⟩,hr=>exact hr.elim
   |⟨_::_::_⟩,hr=>exact hr.2.elim
  have hone:v.oneCell'=true:=ARel.oneCell (λhu=>by subst hu;simp[AV.oneK]at hkn) hv;have hvc:v.cells=#[v]:=by cases v <;> first|rfl|(simp[Value.oneCell']at hone)
  have hrun:((do pure (.value (←Instr.buildSlice t 1 #[(0,v)]))):Sem Next).run P w=.ok (.value (.slice (some ⟨w.heap.size,0,none⟩) 1 1)) (w.alloc (.cells #[v] e)):=by
   have hfill:Instr.fill (λi=>some (i*1,1)) ((Array.range (1*1)).map λx=>z.cells[x % z.cells.size]!) [(0,v)]=some #[v]:=by
    have hs:((Array.range (1*1)).map λx=>z.cells[x % z.cells.size]!).size=1:=by simp
    unfold Instr.fill;simp only[hvc,hs];simp[Instr.fill];refine Array.ext (by simp) λi h1 h2=>?_;have:i=0:=by simp at h2;omega
    subst this;simp
   simp only[bK]at hfill;simp[Instr.buildSlice,zaT (zbI he),zby hn,zek hz,hfill,newRow,World.alloc_eq]
  obtain⟨hE,hH0⟩:=hH.newVec0 e 1;have hid:(H++[.vec e 1 0 []])[H.length]?=some (.vec e 1 0 []):=by simp
  have hgr:GrB w (w.alloc (.cells #[v] e)) none:=⟨aa _,rfl,rfl,rfl,by simp,λk hk _=>zdp (w:=w) hk⟩;have hown:(w.alloc (.cells #[v] e)).ownsRow B e 1 (.slice (some ⟨w.heap.size,0,none⟩) (0+1) 1) (0+1) ([]++[v]):=
   ⟨rfl,.inr ⟨w.heap.size,1,#[v],rfl,hH.base,zeF (w:=w) _,by omega,by simp[maxLen],rfl,rfl⟩⟩
  obtain⟨G',hE',hH',hT⟩:=zhy (n:=0) (m:=1) (cs:=[]) (xs:=[]) (news:=[v]) (ds:=[x]) hH0 hid (by rw[←hH.len];simp) (World.ownsRow_nil w B e 1) hown (.inr ⟨rfl,hgr⟩) (by omega) trivial ⟨hE.arel hv,trivial⟩;rw[hrun];refine⟨_,G',_,hE.trans hE',hH',hT,?_⟩;simpa using hk
 ·rename_i x y;obtain⟨⟨hx1,hy1⟩,hk⟩:=h;have hzr:=zdO (w:=w) (G:=G) z;have hzs:z.cells.size=2:=by have:=hzr.length;simp at this;omega
  obtain⟨u,v,rfl,hu,hv⟩:∃u v,parts=#[(0,.agg #[u,v])]∧ARel w G u x∧ARel w G v y:=by
   match parts,hr with
   |⟨[(i,p)]⟩,⟨⟨h1,h2⟩,_⟩=>
    have h1:i=0:=h1;subst h1;obtain⟨us,rfl,h3⟩:=h2
    match us,h3 with
    |⟨[u,v]⟩,⟨h4,h5,_⟩=>exact⟨u,v,rfl,h4,h5⟩
    |⟨[]⟩,h3=>exact h3.elim
    |⟨[_]⟩,h3=>exact h3.2.elim
    |⟨_::_::_::_⟩,h3=>exact h3.2.2.elim
   |⟨[]⟩,hr=>exact hr.elim
   |⟨_::_::_⟩,hr=>exact hr.2.elim
  have hrun:((do pure (.value (←Instr.buildSlice t 1 #[(0,.agg #[u,v])]))):Sem Next).run P w=.ok (.value (.slice (some ⟨w.heap.size,0,none⟩) 1 1)) (w.alloc (.cells #[u,v] e)):=by
   have hfill:Instr.fill (λi=>some (i*2,2)) ((Array.range (1*2)).map λx=>z.cells[x % z.cells.size]!) [(0,.agg #[u,v])]=some #[u,v]:=by
    have hs:((Array.range (1*2)).map λx=>z.cells[x % z.cells.size]!).size=2:=by simp
    have hvc:(Value.agg #[u,v]).cells=#[u,v]:=rfl;unfold Instr.fill;simp only[hvc,hs];simp[Instr.fill];refine Array.ext (by simp) λi h1 h2=>?_;have:i=0∨i=1:=by simp at h2;omega
    rcases this with rfl|rfl <;> simp
   simp[Instr.buildSlice,zaT (zbI he),zby hn,zek hz,newRow,World.alloc_eq,Nat.one_mul]at hfill ⊢;simp[hfill]
  obtain⟨hE,hH0⟩:=hH.newVec0 e 2;have hid:(H++[.vec e 2 0 []])[H.length]?=some (.vec e 2 0 []):=by simp
  have hgr:GrB w (w.alloc (.cells #[u,v] e)) none:=⟨aa _,rfl,rfl,rfl,by simp,λk hk _=>zdp (w:=w) hk⟩;have hown:(w.alloc (.cells #[u,v] e)).ownsRow B e 2 (.slice (some ⟨w.heap.size,0,none⟩) (0+1) 1) (0+1) ([]++[u,v]):=
   ⟨rfl,.inr ⟨w.heap.size,1,#[u,v],rfl,hH.base,zeF (w:=w) _,by omega,by simp[maxLen],rfl,rfl⟩⟩
  obtain⟨G',hE',hH',hT⟩:=zhy (n:=0) (m:=1) (cs:=[]) (xs:=[]) (news:=[u,v]) (ds:=[x,y]) hH0 hid (by rw[←hH.len];simp) (World.ownsRow_nil w B e 2) hown (.inr ⟨rfl,hgr⟩) (by omega) trivial ⟨hE.arel hu,hE.arel hv,trivial⟩;rw[hrun];refine⟨_,G',_,hE.trans hE',hH',hT,?_⟩;simpa using hk
 ·exact h.elim
theorem zyf{x:AV}{v:Value}{K:Bool→Prop}(hx:TRel w G v x)(h:zj2 x K):∃ad n c b,v=.slice ad n c∧b=ad.isNone∧K b:=by
 unfold zj2 at h;split at h
 ·cases hx;exact⟨_,_,_,_,rfl,rfl,h⟩
 ·obtain⟨b,_,rfl⟩:=hx;exact⟨_,_,_,_,rfl,rfl,h⟩
 ·obtain⟨⟨a,cap0,rfl,hb,_⟩,_⟩:=hx;obtain⟨g,hg⟩:=hb (by omega);subst hg;exact⟨_,_,_,_,rfl,rfl,h⟩
 ·have hx:DRel w G.L v _:=hx;cases hx with
  |sl b off cap esz es vs hne=>exact⟨_,_,_,_,rfl,rfl,h⟩
 ·have hx:DRel w G.L v _:=hx;cases hx with
  |slE a cap=>exact⟨a,_,_,_,rfl,rfl,by cases a with|none=>exact h.1|some _=>exact h.2⟩
  |sl b off cap esz es vs hne=>exact absurd rfl hne
 ·exact h.elim
theorem zJN{op:BinOp}{t:TypeId}{xo yo:Operand}{u:Value}{x:AV}{a:Act}{K:AV→Prop}(hx:TRel w G u x)(hy:zpQ yo=true)(h:zvX (zrE P t) op x K):
  ∃r,((do eqGuard op t xo yo u (a.eval yo);binOp op t u (a.eval yo)):Sem Value).run P w=.ok r w∧∃av,TRel w G r av∧K av:=by
 obtain⟨ht,h⟩:=h;obtain⟨e,hu⟩:∃e,P.underlying t=some (.slice e):=by
  unfold zrE at ht;split at ht
  ·exact⟨_,by assumption⟩
  ·cases ht
 obtain rfl:yo=.const (.slice none 0 0):=by
  unfold zpQ at hy;split at hy
  ·rfl
  ·cases hy
 have he:a.eval (.const (.slice none 0 0))=.slice none 0 0:=rfl;rw[he];have key:∀ad n c,(Op.equal t (.slice ad n c) (.slice none 0 0)).run P w=.ok ad.isNone w:=λad n c=>by have hm:Op.equal t (.slice ad n c) (.slice none 0 0)=Op.equalIn (9999+1) t (.slice ad n c) (.slice none 0 0):=rfl;rw[hm];unfold Op.equalIn;cases ad <;> simp only[Sem.run_bind,zaT hu,Result.andThen_ok,Sem.run_pure,Option.isNone_none,Option.isNone_some]
 split at h
 ·obtain⟨ad,n,c,b,rfl,rfl,hk⟩:=zyf hx h;exact⟨.bool ad.isNone,by rw[show eqGuard .eql t xo (.const (.slice none 0 0)) (.slice ad n c) (.slice none 0 0)=pure () from rfl];simp[binOp,key],.bool ad.isNone,rfl,hk⟩
 ·obtain⟨ad,n,c,b,rfl,rfl,hk⟩:=zyf hx h;exact⟨.bool (!ad.isNone),by rw[show eqGuard .neq t xo (.const (.slice none 0 0)) (.slice ad n c) (.slice none 0 0)=pure () from rfl];simp[binOp,key],.bool (!ad.isNone),rfl,hk⟩
 ·exact h.elim
theorem zIt{w:World}{base:Nat}{e:TypeId}{size g cap n k:Nat}{xs:List Value}(h:w.ownsRow base e size (.slice (some ⟨g,0,none⟩) n cap) n xs)(hk:k≤n):
  w.ownsRow base e size (.slice (some ⟨g,0,none⟩) k cap) k (xs.take (k*size)):=by
 obtain⟨h1,h2⟩:=h;rcases h2 with ⟨h0,_⟩|⟨g',cap',cur,hv,hg,hh,hn,hcap,hsz,htake⟩
 ·cases h0
 ·cases hv;have hm:k*size≤n*size:=aq _ hk;refine⟨by rw[aM,h1];omega,.inr ⟨g,cap,cur,rfl,hg,hh,by omega,hcap,hsz,?_⟩⟩;rw[←htake,cJ,ba hm]
theorem HRel.pop(h:HRel B w G H){id e size n k:Nat}{cs:List AV}{v0 v:Value}(hid:H[id]?=some (.vec e size n cs))(hμ:G.μ[id]?=some (.own v0 size n))(hv:(v0=.slice none 0 0∧v=.slice none 0 0∧k=0)∨∃ g cap,v0=.slice (some ⟨g,0,none⟩) n cap∧v=.slice (some ⟨g,0,none⟩) k cap)(hk:k≤n):
  ∃G',Ext B w G w G'∧HRel B w G' (H.set id .dead++[.vec e size k (cs.take (k*size))])∧G'.μ[H.length]?=some (.own v size k):=by
 have hil:=(List.getElem?_eq_some_iff.1 hid).1;have hml:id<G.μ.length:=by rw[h.len];exact hil
 have hob:∀b,v.ownBlock=some b→v0.ownBlock=some b:=λb hb=>by rcases hv with ⟨rfl,rfl,_⟩|⟨g,cap,rfl,rfl⟩ <;> exact hb
 have hget:∀ (j:Nat) gi,(G.μ.set id (.own (.slice none 0 0) size (n+1))++[.own v size k])[j]?=some gi →
   (j≠id∧j<H.length∧G.μ[j]?=some gi)∨(j=id∧gi=.own (.slice none 0 0) size (n+1))∨(j=H.length∧gi=.own v size k):=λj gi hj=>by
  by_cases hjl:j<H.length
  ·rw[List.getElem?_append_left (by rw[cc,h.len];exact hjl)]at hj;by_cases hji:j=id
   ·subst hji;rw[List.getElem?_set_self hml]at hj;cases hj;exact .inr (.inl ⟨rfl,rfl⟩)
   ·rw[List.getElem?_set_ne (λh=>hji h.symm)]at hj;exact .inl ⟨hji,hjl,hj⟩
  ·have hj2:=(List.getElem?_eq_some_iff.1 hj).1;simp[h.len]at hj2;obtain rfl:j=H.length:=by omega
   rw[List.getElem?_append_right (by simp[h.len])]at hj;simp[h.len]at hj;exact .inr (.inr ⟨rfl,hj.symm⟩)
 have he:Ext B w G w ⟨G.L,G.μ.set id (.own (.slice none 0 0) size (n+1))++[.own v size k]⟩:=by
  refine⟨(DR.set (G':=⟨G.L,G.μ.set id (.own (.slice none 0 0) size (n+1))⟩) (aa _) rfl (by simp)).trans ⟨λ_=>aa _,λhn=>by
   obtain⟨s,m,hn⟩:=hn;have h0:0<(G.μ.set id (.own (.slice none 0 0) size (n+1))).length:=by have:=(List.getElem?_eq_some_iff.1 hμ).1;simp;omega
   exact⟨s,m,by rw[←hn];exact(List.getElem?_append_left h0).symm⟩⟩,Below.refl _ _,λ_=>aa _,λ_ _ _=>rfl,λj gi hj=>?_⟩
  have hjl:=(List.getElem?_eq_some_iff.1 hj).1;by_cases hji:j=id
  ·subst hji;rw[hμ]at hj;cases hj;exact⟨_,by rw[List.getElem?_append_left (by simpa using hjl),List.getElem?_set_self hjl],(show GI.le (.own v0 size n) (.own (.slice none 0 0) size (n+1)) from ⟨rfl,.inr (by omega)⟩)⟩
  ·exact⟨gi,by rw[List.getElem?_append_left (by simpa using hjl),List.getElem?_set_ne (λh=>hji h.symm)];exact hj,gi.le_refl⟩
 refine⟨_,he,⟨by simp[h.len],λj ab gi k1 k2=>?_,λj j' gi gi' b k1 k2 k3 k4=>?_,h.fresh,λj gi b k1 k2=>?_,h.base⟩,by simp[←h.len]⟩
 ·rcases hget j gi k2 with ⟨hji,hjl,hj⟩ | ⟨rfl,rfl⟩ | ⟨rfl,rfl⟩
  ·rw[List.getElem?_append_left (by simpa using hjl),List.getElem?_set_ne (λh=>hji h.symm)]at k1;exact(h.ok j ab gi k1 hj).keep he (λx hx=>⟨rfl,rfl⟩)
  ·rw[List.getElem?_append_left (by simpa using hil),List.getElem?_set_self hil]at k1;cases k1;exactλb hb=>by simp[Value.ownBlock]at hb
  ·rw[List.getElem?_append_right (by simp)]at k1;simp at k1;subst k1;obtain⟨_,_,⟨xs,hown,hcs⟩,hL⟩:=h.ok id _ _ hid hμ;refine⟨rfl,rfl,⟨xs.take (k*size),?_,(hcs.take _).mono λ_ _=>he.arel⟩,λb hb=>hL b (hob b hb)⟩;rcases hv with ⟨rfl,rfl,rfl⟩ | ⟨g,cap,rfl,rfl⟩
   ·have:=World.ownsRow_nil w B e size;simpa using this
   ·exact zIt hown hk
 ·rcases hget j gi k1 with ⟨hji,hjl,hj⟩ | ⟨rfl,rfl⟩ | ⟨rfl,rfl⟩ <;> rcases hget j' gi' k2 with ⟨hji',hjl',hj'⟩ | ⟨rfl,rfl⟩ | ⟨rfl,rfl⟩
  ·exact h.dist j j' gi gi' b hj hj' k3 k4
  ·simp[GI.block,Value.ownBlock]at k4
  ·exact(hji (h.dist j id gi _ b hj hμ k3 (hob b k4))).elim
  ·simp[GI.block,Value.ownBlock]at k3
  ·rfl
  ·simp[GI.block,Value.ownBlock]at k3
  ·exact(hji' (h.dist j' id gi' _ b hj' hμ k4 (hob b k3))).elim
  ·simp[GI.block,Value.ownBlock]at k4
  ·rfl
 ·rcases hget j gi k1 with ⟨hji,hjl,hj⟩ | ⟨rfl,rfl⟩ | ⟨rfl,rfl⟩
  ·exact h.lt j gi b hj k2
  ·simp[GI.block,Value.ownBlock]at k2
  ·exact h.lt id _ b hμ (hob b k2)
theorem zJP{t:TypeId}{size:Nat}{v hv:Value}{x hi:AV}{K:AV→zaa→Prop}(hH:HRel B w G H)(hx:TRel w G v x)(hhi:TRel w G hv hi)(ht:zdx P t=some 1)(hs:(zbe P t).bind (zaQ P)=some size)(h:zo6 size x hi H K):OpOK P B w G K (((do pure (.value (←Instr.sliceAt t v none (some hv) none))):Sem Next).run P w):=by
 unfold zo6 at h;split at h
 ·rename_i id n;split at h
  ·rename_i e s n' cs kk k hid;obtain⟨⟨⟨rfl,rfl⟩,hk0,hkn⟩,hK⟩:=h;cases hhi;obtain⟨⟨ad,cap0,rfl,hcap0⟩,v',s',n'',hμ,hle,heq⟩:=hx;obtain⟨rfl,rfl,⟨xs,hown,hcs⟩,hL⟩:=hH.ok id _ _ hid hμ;obtain rfl:=heq rfl;cases he:zbe P t with
   |none=>simp[he]at hs
   |some e1=>
    simp only[he,Option.bind_some]at hs;have hkn':k.toNat≤n':=by omega
    obtain⟨_,hrow⟩:=hown;rcases hrow with ⟨h0,h00⟩|⟨g,cap,cur,h0,hB,hw,hcap,hcm,hcz,htk⟩
    ·cases h0;have hk00:k.toNat=0:=by omega
     have hb:=zge (P:=P) (w:=w) (isS:=true) (len:=0) (cap:=0) (lo:=none) (hi:=some (.int kk k)) (l:=0) (h:=0) (.inr ⟨kk,k,rfl,hk0,hk00.symm⟩) (.inl ⟨rfl,rfl⟩) (aa _) (aa _);obtain⟨G',hE,hH',hm⟩:=hH.pop (k:=k.toNat) (v:=.slice none 0 0) hid hμ (.inl ⟨rfl,rfl,hk00⟩) (by omega);have hr:(Instr.sliceAt t (.slice none 0 0) none (some (.int kk k)) none).run P w=.ok (.slice none 0 0) w:=by simp[Instr.sliceAt,Instr.slice,Sem.run_bind,zaT (zbI he),hb,zby hs]
     rw[Sem.run_bind,hr];refine⟨_,G',_,hE,hH',?_,hK⟩;rw[hk00]at hm ⊢;exact⟨⟨none,0,rfl,λh=>absurd h (by omega),by omega⟩,_,_,0,hm,aa _,λ_=>rfl⟩
    ·cases h0;have hb:=zge (P:=P) (w:=w) (isS:=true) (len:=n') (cap:=cap0) (lo:=none) (hi:=some (.int kk k)) (l:=0) (h:=k.toNat) (.inr ⟨kk,k,rfl,hk0,rfl⟩) (.inl ⟨rfl,rfl⟩) (bz _) (by omega);obtain⟨G',hE,hH',hm⟩:=hH.pop (k:=k.toNat) (v:=.slice (some ⟨g,0,none⟩) k.toNat cap0) hid hμ (.inr ⟨g,cap0,rfl,rfl⟩) (by omega);have hr:(Instr.sliceAt t (.slice (some ⟨g,0,none⟩) n' cap0) none (some (.int kk k)) none).run P w=.ok (.slice (some ⟨g,0,none⟩) k.toNat cap0) w:=by simp[Instr.sliceAt,Instr.slice,Sem.run_bind,zaT (zbI he),hb,zby hs,add_lit]
     rw[Sem.run_bind,hr];refine⟨_,G',_,hE,hH',?_,hK⟩;exact⟨⟨some ⟨g,0,none⟩,cap0,rfl,λh=>⟨g,rfl⟩,by omega⟩,_,_,_,hm,aa _,λ_=>rfl⟩
  ·exact h.elim
 ·exact zb1 hH (zry (lo:=none) (hi:=some hv) (alo:=none) (ahi:=some hi) hx trivial ⟨hhi,trivial⟩ ht (λ_=>hs) h)
theorem HRel.newMade(h:HRel B w G H)(vs:Array Value)(e:TypeId)(size cap:Nat)(hs:vs.size=cap*size)(hm:cap≤maxLen):
  Ext B w G (w.alloc (.cells vs e)) ⟨G.L,G.μ++[.own (.slice (some ⟨w.heap.size,0,none⟩) 0 cap) size 0]⟩∧HRel B (w.alloc (.cells vs e)) ⟨G.L,G.μ++[.own (.slice (some ⟨w.heap.size,0,none⟩) 0 cap) size 0]⟩ (H++[.vec e size 0 []]):=by
 have he:=Ext.alloc h (.cells vs e) G.L (λ_ _=>rfl) [.own (.slice (some ⟨w.heap.size,0,none⟩) 0 cap) size 0];refine⟨he,?_⟩;have split:∀(id:Nat) gi,(G.μ++[.own (.slice (some ⟨w.heap.size,0,none⟩) 0 cap) size 0])[id]?=some gi→G.μ[id]?=some gi∨(id=G.μ.length∧gi=.own (.slice (some ⟨w.heap.size,0,none⟩) 0 cap) size 0):=by
  intro id gi hg;by_cases hlt:id<G.μ.length
  ·rw[List.getElem?_append_left hlt]at hg;exact .inl hg
  ·have hlt2:=(List.getElem?_eq_some_iff.1 hg).1;simp at hlt2;have:id=G.μ.length:=by omega
   subst this;simp at hg;exact .inr ⟨rfl,hg.symm⟩
 refine⟨by simp[h.len],?_,?_,?_,?_,?_⟩
 ·intro id ab gi h1 h2;rcases split id gi h2 with h2 | ⟨rfl,rfl⟩
  ·have hlt:id<H.length:=by rw[←h.len];exact (List.getElem?_eq_some_iff.1 h2).1
   rw[List.getElem?_append_left hlt]at h1;exact(h.ok id ab gi h1 h2).keep he (λb hb=>⟨zdp (h.lt id gi b h2 hb),rfl⟩)
  ·rw[h.len]at h1;simp at h1;subst h1;refine⟨rfl,rfl,⟨[],World.ownsRow_made w vs cap h.base hm hs,trivial⟩,λb hb=>?_⟩;simp[Value.ownBlock]at hb;subst hb;exact h.fresh _ (aa _)
 ·intro id id' gi gi' b h1 h2 h3 h4;rcases split id gi h1 with h1 | ⟨rfl,rfl⟩ <;> rcases split id' gi' h2 with h2 | ⟨rfl,rfl⟩
  ·exact h.dist id id' gi gi' b h1 h2 h3 h4
  ·have:=h.lt id gi b h1 h3;simp[GI.block,Value.ownBlock]at h4;omega
  ·have:=h.lt id' gi' b h2 h4;simp[GI.block,Value.ownBlock]at h3;omega
  ·rfl
 ·intro b hb;rw[zcj]at hb;exact h.fresh b (by omega)
 ·intro id gi b h1 h2;rw[zcj];rcases split id gi h1 with h1 | ⟨rfl,rfl⟩
  ·have:=h.lt id gi b h1 h2;omega
  ·simp[GI.block,Value.ownBlock]at h2;omega
 ·rw[zcj];have:=h.base;omega
theorem zJJ{t e:TypeId}{size bytes:Nat}{z:Value}{vc:Value}{c:AV}{K:AV→zaa→Prop}(hH:HRel B w G H)(he:zbe P t=some e)(hn:zaQ P e=some size)(hby:zcO P e=some bytes)(hz:zbq P e=some z)(h0:0<size)(hzl:(zbt z).length=size)(hc:TRel w G vc c)(h:zeD e size bytes c H K):
  OpOK P B w G K (((do pure (.value (←Instr.makeSlice t (.int .i64 0) vc))):Sem Next).run P w):=by
 unfold zeD at h;split at h
 ·rename_i c;cases hc;obtain⟨⟨h2,h3,h4⟩,hk⟩:=h;have hzr:=zdO (w:=w) (G:=G) z;have hzs:z.cells.size=size:=by have:=hzr.length;simp at this;omega
  unfold zaQ at hn;unfold zbq at hz;unfold zcO at hby;cases hi:P.info? e with
  |none=>simp[hi]at hn
  |some i=>
   simp[hi]at hn hz hby;have hr:=run_make (P:=P) w t e i z (zbI he) hi hz .i64 .i64 0 c (by omega) h2 (by rw[hby,Int.mul_comm];omega) h4;have hm:=(zp5 hzr (by omega) c.toNat).length;rw[hn]at hr;obtain⟨hx,hH'⟩:=hH.newMade (madeCells z.cells (c.toNat*size)) e size c.toNat (by simp[madeCells]) (by simp[maxLen];omega);have hrun:((do pure (.value (←Instr.makeSlice t (.int .i64 0) (.int .i64 c)))):Sem Next).run P w=.ok (.value (.slice (some ⟨w.heap.size,0,none⟩) 0 c.toNat)) (w.alloc (.cells (madeCells z.cells (c.toNat*size)) e)):=by rw[Sem.run_bind,hr];rfl
   rw[hrun];refine⟨.ov H.length 0,_,_,hx,hH',⟨⟨_,_,rfl,(λh=>by omega),by omega⟩,.slice (some ⟨w.heap.size,0,none⟩) 0 c.toNat,size,0,?_,aa _,λ_=>rfl⟩,hk⟩;rw[←hH.len];simp
 ·exact h.elim
theorem zIn{o:Oper}{a:Act}{F:List AV}{K:AV→zaa→Prop}(hH:HRel B w G H)(hF:FRel w G a.tmps F)(h:zpg P o F H K):OpOK P B w G K ((execOp a.eval o).run P w):=by
 unfold zpg at h;split at h
 ·rename_i t len parts hop;obtain⟨dst,op,type,pos,after,guard⟩:=o;simp only[]at hop;subst hop;simp only[execOp];split at h
  ·rename_i e he;split at h
   ·rename_i size z hs hz;split at h
    ·rename_i hb;exact zJr hH he hs hz (by simpa using hb) (by simpa using zrc hF parts.toList) h
    ·exact h.elim
   ·exact h.elim
  ·exact h.elim
 ·rename_i op t x y pos hop;obtain⟨dst,op0,type,pos0,after,guard⟩:=o;simp only[]at hop;subst hop;split at h
  ·rename_i hy;simp only[execOp];exact zb1 hH (zJN (a:=a) (zaJ hF x) hy h)
  ·exact zgb hH hF h
 ·rename_i t l c hop;obtain⟨dst,op0,type,pos0,after,guard⟩:=o;simp only[]at hop;subst hop;split at h
  ·rename_i hl;simp only[execOp];split at h
   ·rename_i e he;split at h
    ·rename_i size bytes z hs hby hz;split at h
     ·rename_i hb;simp at hb;have hl0:a.eval l=.int .i64 0:=by
       unfold zxB at hl;split at hl
       ·rfl
       ·cases hl
      rw[hl0];exact zJJ hH he hs hby hz hb.1 hb.2 (zaJ hF c) h
     ·exact h.elim
    ·exact h.elim
   ·exact h.elim
  ·exact zgb hH hF h
 ·rename_i t x hi hop;obtain⟨dst,op0,type,pos0,after,guard⟩:=o;simp only[]at hop;subst hop;split at h
  ·rename_i ht;split at h
   ·rename_i size hs;exact zJP hH (zaJ hF x) (zaJ hF hi) ht hs h
   ·exact h.elim
  ·exact h.elim
 ·exact zgb hH hF h
theorem zyY{ops:Array Oper}{K:List AV→zaa→Prop}{Q:Exit→Act→World→Prop}{w0:World}{G0:Gh}(hQ:∀ a w G F H,Ext B w0 G0 w G→HRel B w G H→FRel w G a.tmps F→a.defers=[]→K F H→Q .normal a w):
  ∀(l:List Oper) (F:List AV) (H:zaa) (a:Act) (w:World) (G:Gh),Ext B w0 G0 w G→HRel B w G H→FRel w G a.tmps F→a.defers=[]→ziM P l K F H→wpList P ops Q l a w
 |[],F,H,a,w,G,hE,hH,hF,hd,h=>hQ a w G F H hE hH hF hd h
 |o::l,F,H,a,w,G,hE,hH,hF,hd,h=>by
  refine wpList_step λK' hK'=>?_;unfold ziM at h;split at h
  ·rename_i hg;rw[aB (by simp[Region.wanted,hg])];exact ziJ hF (zIn hH hF h) λv av w' G' H' h1 h2 h3 h4=>
    hK' _ _ (zyY hQ l _ _ _ _ G' (hE.trans h1) h2 ((hF.ext h1).put h3) (by cases hdst:o.dst <;> simpa[Act.put,hdst]using hd) h4)
  ·exact h.elim
theorem zrp{ops:Array Oper}{K:List AV→zaa→Prop}{Q:Exit→Act→World→Prop}{w0:World}{G0:Gh}(hQ:∀ a w G F H,Ext B w0 G0 w G→HRel B w G H→FRel w G a.tmps F→a.defers=[]→K F H→Q .normal a w):
  ∀(l:List Oper) (F:List AV) (H:zaa) (a:Act) (w:World) (G:Gh),Ext B w0 G0 w G→HRel B w G H→FRel w G a.tmps F→a.defers=[]→zfv P ops l K F H→wpList P ops Q l a w
 |[],F,H,a,w,G,hE,hH,hF,hd,h=>hQ a w G F H hE hH hF hd h
 |o::l,F,H,a,w,G,hE,hH,hF,hd,h=>by
  have go:∀(K':Act→World→Prop),(∀a w,wpList P ops Q l a w→K' a w)→zhX P o F H (λv H'=>zfv P ops l K (zbE F o.dst v) H')→o.wp P a w K' Q:=λK' hK' hop=>
   ziJ hF (zIl hH hF hop) λv av w' G' H' h1 h2 h3 h4=>
    hK' _ _ (zrp hQ l _ _ _ _ G' (hE.trans h1) h2 ((hF.ext h1).put h3) (by cases hdst:o.dst <;> simpa[Act.put,hdst]using hd) h4)
  have skip:∀(K':Act→World→Prop),(∀a w,wpList P ops Q l a w→K' a w)→zfv P ops l K (zbE F o.dst (.tup [])) H→K' (a.put o.dst undef) w:=λK' hK' hop=>
   hK' _ _ (zrp hQ l _ _ _ _ G hE hH (hF.put zrU) (by cases hdst:o.dst <;> simpa[Act.put,hdst]using hd) hop)
  refine wpList_step λK' hK'=>?_;unfold zfv at h;split at h
  ·rename_i hg;rw[aB (by simp[Region.wanted,hg])];exact go K' hK' h
  ·rename_i j want hg;split at h
   ·rename_i d hd';unfold zac zdn at h;split at h
    ·rename_i b hb;rw[zr1 hF hg hd' hb];unfold aIf at h;split at h
     ·rename_i hw;rw[aB hw];exact go K' hK' h
     ·rename_i hw;rw[ap hw];exact skip K' hK' h
    ·rename_i hb;rw[zAc hF hg hd' hb,ap (by simp)];exact skip K' hK' h
    ·exact h.elim
   ·exact h.elim


theorem zFQ{o:Oper}{F F':List AV}{K:AV→zaa→Prop}(h:∀x∈o.op.operands,ev F x=ev F' x):zdq P o F H K=zdq P o F' H K:=by
 obtain⟨dst,op,type,pos,after,guard⟩:=o;have pairs:∀ps:Array (Nat×Operand),(∀x∈ps.toList.map (·.2),ev F x=ev F' x)→(ps.toList.map λp=>(p.1,ev F p.2))=(ps.toList.map λp=>(p.1,ev F' p.2)):=λps hp=>
  bc λp hm=>by rw[hp p.2 (aV.2 ⟨p,hm,rfl⟩)]
 cases op <;> simp only[Op.operands]at h <;> simp only[zdq]
 case build t ps=>rw[pairs ps (by simpa using h)]
 case buildSlice t n ps=>rw[pairs ps (by simpa using h)]
 case makeFunc fn first caps=>
  cases fn <;> simp only[]
  rw[bc (l:=caps.toList) (λx hx=>h x (Array.mem_append.2 (.inr (by simpa using hx))))]
 case slice t x lo hi mx=>
  cases mx <;> simp only[]
  have hx:=h x (by simp);have hlo:lo.map (ev F)=lo.map (ev F'):=by cases lo <;> simp_all
  have hhi:hi.map (ev F)=hi.map (ev F'):=by cases hi <;> simp_all
  rw[hx,hlo,hhi]
 case call c=>
  cases hc:c.callee with
  |value f=>have hf:=h f (by simp[Call.operands,hc]);have ha:c.args.toList.map (ev F)=c.args.toList.map (ev F'):=bc λx hx=>h x (by simp[Call.operands,hc];exact .inr (by simpa using hx));simp only[hf,ha]
  |builtin b=>
   have ha:∀x∈c.args.toList,ev F x=ev F' x:=λx hx=>h x (by simp[Call.operands,hc];simpa using hx);cases b <;> simp only[ze6]
   all_goals
    split
    ·first
     | (rename_i hargs _
        rw[hargs]at ha;simp only[aZ,List.not_mem_nil,or_false,forall_eq_or_imp,forall_eq]at ha;simp only[ha])
     | (rename_i hargs
        rw[hargs]at ha;simp only[aZ,List.not_mem_nil,or_false,forall_eq_or_imp,forall_eq]at ha;simp only[ha])
    ·rfl
  |invoke r m=>rfl
 all_goals (first|rfl|(simp_all;done))

theorem zFT{o:Oper}{F F':List AV}{K:AV→zaa→Prop}(h:∀x∈o.op.operands,ev F x=ev F' x):zfa P o.op F H K=zfa P o.op F' H K:=by
 obtain⟨dst,op,type,pos,after,guard⟩:=o;cases op <;> simp only[Op.operands]at h <;> simp only[zfa]
 all_goals (first|rfl|(simp_all;done))
theorem zFU{o:Oper}{F F':List AV}{K:AV→zaa→Prop}(h:∀x∈o.op.operands,ev F x=ev F' x):aop P o F H K=aop P o F' H K:=by unfold aop;rw[zFT h,zFQ h]
theorem zFS{o:Oper}{F F':List AV}{K:AV→zaa→Prop}(h:∀x∈o.op.operands,ev F x=ev F' x):zbi fl P o F H K=zbi fl P o F' H K:=by
 unfold zbi;split
 ·rename_i t a hop;rw[h a (by rw[hop];simp[Op.operands])]
 ·exact zFU h
theorem zFR{o:Oper}{F:List AV}{K:AV→zaa→Prop}(h:zbi fl P o F H K):aop P o F H K:=by
 obtain⟨dst,op,type,pos,after,guard⟩:=o;unfold zbi at h;cases op <;> (try simp only[]at h) <;> (try exact h)
 simp only[aop,isM,zdq];split at h
 ·rename_i g n hg hn;cases fl with
  |true=>exact h
  |false=>
   unfold zjz zan at h;simp only[]at h;split at h
   ·exact h.elim
   ·exact h
 ·exact h.elim

theorem zyk{o:Oper}(ho:opF o.op=true){F:List AV}{r:AV}{H H':zaa}(h:zbi fl P o F H λv H2=>v=r∧H2=H):zbi fl P o F H' λv H2=>v=r∧H2=H':=by
 obtain⟨dst,op,type,pos,after,guard⟩:=o;cases op <;> simp only[opF,aD]at ho <;> simp only[zbi,aop,isM,zdq,and_true]at h ⊢
 all_goals first
  |exact h
  |skip
 case call c=>
  cases hc:c.callee with
  |value f=>simp[hc]at ho
  |invoke r m=>simp[hc]at ho
  |builtin b=>
   cases b <;> simp[hc]at ho
   simpa[hc,ze6]using h
 case makeFunc fn first caps=>cases fn <;> simp only[]at h ⊢ <;> try exact h
 case slice t x lo hi mx=>cases mx <;> simp only[]at h ⊢ <;> exact h

theorem zIm{o:Oper}(ho:opW .n o.op=true){F:List AV}{H:zaa}{K:AV→zaa→Prop}(h:zbi fl P o F H K):∃v H',(zbi fl P o F H λv2 H2=>v2=v∧H2=H')∧K v H':=by
 obtain⟨dst,op,type,pos,after,guard⟩:=o;cases op <;> simp only[opW,aD]at ho <;> simp only[zbi,aop,isM,zdq,zfa]at h ⊢
 case alloc t=>
  split at h
  ·exact⟨_,_,⟨rfl,rfl⟩,h⟩
  ·exact h.elim
 case box t x=>
  unfold zaw at h ⊢;split at h
  ·exact⟨_,_,⟨rfl,rfl⟩,h⟩
  ·exact h.elim
 case store t x y=>
  split at h
  ·simp only[ze8]at h ⊢;split at h
   ·split at h
    ·exact⟨_,_,⟨h.1,rfl,rfl⟩,h.2⟩
    ·exact h.elim
   ·split at h
    ·exact⟨_,_,⟨h.1,rfl,rfl⟩,h.2⟩
    ·exact h.elim
   ·exact h.elim
  ·exact h.elim
 case makeSlice t l c=>
  split at h
  ·split at h
   ·unfold za9 at h ⊢;split at h
    ·exact⟨_,_,⟨h.1,rfl,rfl⟩,h.2⟩
    ·exact h.elim
   ·exact h.elim
  ·exact h.elim
 case makeMap t r=>
  split at h
  ·exact⟨_,_,⟨rfl,rfl⟩,h⟩
  ·exact⟨_,_,⟨rfl,rfl⟩,h⟩
  ·exact h.elim
 case mapUpdate t m k x=>
  split at h
  ·unfold zcR at h ⊢;split at h
   ·split at h
    ·split at h
     ·exact h.elim
     ·exact⟨_,_,⟨rfl,rfl⟩,h⟩
    ·exact h.elim
   ·exact h.elim
  ·unfold zdo at h ⊢;split at h
   ·split at h
    ·split at h
     ·exact h.elim
     ·exact⟨_,_,⟨rfl,rfl⟩,h⟩
    ·exact h.elim
   ·exact h.elim
  ·exact h.elim
 case insert t m k x=>
  split at h
  ·unfold zcR at h ⊢;split at h
   ·split at h
    ·split at h
     ·exact h.elim
     ·exact⟨_,_,⟨rfl,rfl⟩,h⟩
    ·exact h.elim
   ·exact h.elim
  ·unfold zdo at h ⊢;split at h
   ·split at h
    ·split at h
     ·exact h.elim
     ·exact⟨_,_,⟨rfl,rfl⟩,h⟩
    ·exact h.elim
   ·exact h.elim
  ·exact h.elim
 case call c=>
  cases hc:c.callee with
  |value f=>simp[hc,WM.on]at ho
  |invoke r m=>simp[hc]at ho
  |builtin b=>
   cases b <;> simp[hc]at ho
   case append=>
    simp only[hc,ze6]at h ⊢;split at h
    ·split at h
     ·split at h
      ·obtain⟨r,H',k1,k2⟩:=zFn h;exact⟨r,H',k1,k2⟩
      ·exact h.elim
     ·exact h.elim
    ·exact h.elim
   case copy=>
    simp only[hc,ze6]at h ⊢;split at h
    ·split at h
     ·unfold zez at h ⊢;split at h
      ·split at h
       ·rename_i hcs;exact⟨_,_,⟨h.1,rfl,rfl⟩,h.2⟩
       ·exact h.elim
      ·split at h
       ·rename_i hcs;exact⟨_,_,⟨h.1,rfl,rfl⟩,h.2⟩
       ·exact h.elim
      ·exact h.elim
     ·exact h.elim
    ·exact h.elim

def TrOK(fl:Bool)(P:Program)(ops:Array Oper)(H:zaa)(F:List AV)(o:Oper)(r:AV)(H':zaa):Prop:=
 match o.guard with
 |none=>zbi fl P o F H λv H2=>v=r∧H2=H'
 | some (j,want)=>∃ d,(ops[j]?).bind (·.dst)=some d ∧
   ((∃ b,F.getD d .unk=.bool b∧(b == want)=true∧zbi fl P o F H λv H2=>v=r∧H2=H') ∨
    (∃b,F.getD d .unk=.bool b∧(b == want)=false∧r=.tup []∧H'=H)∨(F.getD d .unk=.tup []∧r=.tup []∧H'=H))

theorem TrOK.congr{ops:Array Oper}{F F':List AV}{o:Oper}{r:AV}{H':zaa}(h:∀s∈zcZ ops o,F.getD s .unk=F'.getD s .unk)(ht:TrOK fl P ops H F o r H'):TrOK fl P ops H F' o r H':=by
 have hev:∀x∈o.op.operands,ev F x=ev F' x:=λx hx=>by
  cases x with
  |tmp t=>exact h t (by simp only[zcZ,aP,br];exact .inl ⟨.tmp t,by simpa using hx,rfl⟩)
  |_=>rfl
 have hop:(zbi fl P o F H λv H2=>v=r∧H2=H')=zbi fl P o F' H λv H2=>v=r∧H2=H':=zFS hev;unfold TrOK at *;split at ht
 ·rw[←hop];exact ht
 ·rename_i j want hg;obtain⟨d,hd,ht⟩:=ht;have hs:=h d (by simp[zcZ,hg,hd]);refine⟨d,hd,?_⟩;rw[←hs,←hop];exact ht

theorem TrOK.free{ops:Array Oper}{F:List AV}{o:Oper}{r:AV}{H H':zaa}(ho:opF o.op=true)(ht:TrOK fl P ops H F o r H):TrOK fl P ops H' F o r H':=by
 unfold TrOK at *;split at ht
 ·exact zyk ho ht
 ·obtain⟨d,hd,ht⟩:=ht;refine⟨d,hd,?_⟩;rcases ht with ⟨b,h1,h2,h3⟩ | ⟨b,h1,h2,h3,_⟩ | ⟨h1,h2,_⟩
  ·exact .inl ⟨b,h1,h2,zyk ho h3⟩
  ·exact .inr (.inl ⟨b,h1,h2,h3,rfl⟩)
  ·exact .inr (.inr ⟨h1,h2,rfl⟩)

inductive TrL (fl:Bool) (wc:WM) (P:Program) (ops:Array Oper):List Oper→List AV→zaa→List AV→List zaa→List AV→zaa→Prop
 |nil (F:List AV) (H:zaa):TrL fl wc P ops [] F H [] [] F H
 |cons {o:Oper} {os:List Oper} {F rs Fn:List AV} {r:AV} {H H' Hn:zaa} {hs:List zaa} (h:TrOK fl P ops H F o r H') (hw:opW wc o.op=false→H'=H) (hx:opC wc o.op=true→∀J,TrOK fl P ops (H++J) F o r (H++J)) (hgr:opG wc o.op=true→GrowA H H') (hk:opK wc o.op=true→o.guard=none→zdX (zig ops F) H H') (t:TrL fl wc P ops os (zbE F o.dst r) H' rs hs Fn Hn):TrL fl wc P ops (o::os) F H (r::rs) (H'::hs) Fn Hn

theorem zwM{o:Oper}{gr:Bool}(ho:opW wc o.op=true)(hg:wc=.n→gr=false){F:List AV}{H:zaa}{K:AV→zaa→Prop}(h:zbl wc gr H (zbi fl P o F H) K):∃v H',(zbi fl P o F H λv2 H2=>v2=v∧H2=H')∧(gr=true→GrowA H H')∧K v H':=by
 cases wc with
 |n=>obtain⟨v,H',h1,h2⟩:=zIm ho h;exact⟨v,H',h1,(λh=>by rw[hg rfl]at h;cases h),h2⟩
 |w=>exact h
 |g=>exact h
 |c=>exact h
 |l=>exact h
theorem zyl(op:Op):opG .n op=false:=by
 cases op <;> try rfl
 rename_i c;cases hc:c.callee <;> simp[opG,hc,WM.gr]
theorem zIj{op:Op}(h:opW wc op=false):opG wc op=false:=by
 cases op <;> try rfl
 rename_i c;cases hc:c.callee with
 |value f=>cases wc <;> simp[opW,opG,hc,WM.on,WM.gr]at h ⊢
 |builtin b=>simp[opG,hc]
 |invoke r m=>simp[opG,hc]
theorem zIi{op:Op}(h:opC wc op=true):opW wc op=false:=by
 cases op <;> simp only[opC,aD]at h
 rename_i c;cases hc:c.callee with
 |value f=>simpa[opW,hc]using h
 |builtin b=>simp[hc]at h
 |invoke r m=>simp[hc]at h
theorem zkW{op:Op}(h:opK wc op=true):wc=.l∧opW wc op=true:=by
 cases op <;> simp only[opK,aD]at h
 rename_i c;cases hc:c.callee with
 |value f=>
  cases wc <;> simp[hc]at h
  exact⟨rfl,by simp[opW,hc,WM.on]⟩
 |builtin b=>simp[hc]at h
 |invoke r m=>simp[hc]at h
theorem zHv{b:Bool}{asx:List AV}{H':zaa}{K:Prop}(h:zd9 b asx H H' K):K∧(b=true→zdX asx H H'):=by cases b <;> first|exact⟨h,λe=>by cases e⟩|exact⟨h.2,λ_=>h.1⟩
theorem zc1{ops:Array Oper}{K:List AV→zaa→Prop}:∀ (l:List Oper) (F:List AV) (H:zaa),zcD fl wc P ops l K F H→∃ rs hs Fn Hn,TrL fl wc P ops l F H rs hs Fn Hn∧K Fn Hn
 |[],F,H,h=>⟨[],[],F,H,.nil F H,h⟩
 |o::l,F,H,h=>by
  unfold zcD at h;have noC:∀{p:Prop},opC wc o.op=false→opC wc o.op=true→p:=λh1 h2=>by rw[h1]at h2;cases h2
  have noG:∀{p:Prop},opW wc o.op=false→opG wc o.op=true→p:=λh1 h2=>by rw[zIj h1]at h2;cases h2
  have noK:opW wc o.op=false→opK wc o.op=true→o.guard=none→∀{p:Prop},p:=λh1 h2 _=>by rw[(zkW h2).2]at h1;cases h1
  have noW:∀{p:Prop},opW wc o.op=true→opC wc o.op=true→p:=λh1 h2=>by rw[zIi h2]at h1;cases h1
  split at h
  ·rename_i hg;split at h
   ·rename_i hw;split at h
    ·rename_i hc;obtain⟨r,h1,h2⟩:=h;obtain⟨rs,hs,Fn,Hn,h3,h4⟩:=zc1 l _ _ h2;exact⟨r::rs,H::hs,Fn,Hn,.cons (by unfold TrOK;rw[hg];exact h1) (λ_=>rfl) (noC hc) (noG hw) (λh0 h1=>noK hw h0 h1) h3,h4⟩
    ·rename_i hc;obtain⟨r,h1,h2⟩:=h;obtain⟨rs,hs,Fn,Hn,h3,h4⟩:=zc1 l _ _ h2;have hx:∀ J,TrOK fl P ops (H++J) F o r (H++J):=λJ=>by unfold TrOK;rw[hg];exact h1 J
     exact⟨r::rs,H::hs,Fn,Hn,.cons (by have:=hx [];rwa [aE]at this) (λ_=>rfl) (λ_=>hx) (noG hw) (λh0 h1=>noK hw h0 h1) h3,h4⟩
   ·rename_i hw;obtain⟨r,H',h1,hgr,h2⟩:=zwM hw (λe=>by rw[e];exact zyl _) h;obtain⟨h2,hkl⟩:=zHv h2;obtain⟨rs,hs,Fn,Hn,h3,h4⟩:=zc1 l _ _ h2;exact⟨r::rs,H'::hs,Fn,Hn,.cons (by unfold TrOK;rw[hg];exact h1) (λh0=>by rw[hw]at h0;cases h0) (noW hw) hgr (λh0 _=>hkl h0) h3,h4⟩
  ·rename_i j want hg;split at h
   ·rename_i d hd;have yes:∀ b,F.getD d .unk=.bool b→(b == want)=true→∀ {H1 H2:zaa} {r:AV},(zbi fl P o F H1 λv H3=>v=r∧H3=H2)→TrOK fl P ops H1 F o r H2:=λb hb hwb _ _ _ h1=>by unfold TrOK;rw[hg];exact⟨d,hd,.inl ⟨b,hb,hwb,h1⟩⟩
    have no:∀b,F.getD d .unk=.bool b→(b == want)=false→∀H1:zaa,TrOK fl P ops H1 F o (.tup []) H1:=λb hb hwb H1=>by unfold TrOK;rw[hg];exact⟨d,hd,.inr (.inl ⟨b,hb,hwb,rfl,rfl⟩)⟩
    have nil:F.getD d .unk=.tup []→∀H1:zaa,TrOK fl P ops H1 F o (.tup []) H1:=λhb H1=>by unfold TrOK;rw[hg];exact⟨d,hd,.inr (.inr ⟨hb,rfl,rfl⟩)⟩
    split at h
    ·rename_i hw;split at h
     ·rename_i hc;unfold zac zdn at h;split at h
      ·rename_i b hb;unfold aIf at h;split at h
       ·rename_i hwb;obtain⟨r,h1,h2⟩:=h;obtain⟨rs,hs,Fn,Hn,h3,h4⟩:=zc1 l _ _ h2;exact⟨r::rs,H::hs,Fn,Hn,.cons (yes b hb hwb h1) (λ_=>rfl) (noC hc) (noG hw) (λ_ h0=>by rw[hg]at h0;cases h0) h3,h4⟩
       ·rename_i hwb;obtain⟨rs,hs,Fn,Hn,h3,h4⟩:=zc1 l _ _ h;exact⟨.tup []::rs,H::hs,Fn,Hn,.cons (no b hb (by simpa using hwb) H) (λ_=>rfl) (noC hc) (noG hw) (λ_ h0=>by rw[hg]at h0;cases h0) h3,h4⟩
      ·rename_i hb;obtain⟨rs,hs,Fn,Hn,h3,h4⟩:=zc1 l _ _ h;exact⟨.tup []::rs,H::hs,Fn,Hn,.cons (nil hb H) (λ_=>rfl) (noC hc) (noG hw) (λ_ h0=>by rw[hg]at h0;cases h0) h3,h4⟩
      ·exact h.elim
     ·rename_i hc;unfold zac zdn at h;split at h
      ·rename_i b hb;unfold aIf at h;split at h
       ·rename_i hwb;obtain⟨r,h1,h2⟩:=h;obtain⟨rs,hs,Fn,Hn,h3,h4⟩:=zc1 l _ _ h2;have hx:∀J,TrOK fl P ops (H++J) F o r (H++J):=λJ=>yes b hb hwb (h1 J);exact⟨r::rs,H::hs,Fn,Hn,.cons (by have:=hx [];rwa [aE]at this) (λ_=>rfl) (λ_=>hx) (noG hw) (λ_ h0=>by rw[hg]at h0;cases h0) h3,h4⟩
       ·rename_i hwb;obtain⟨rs,hs,Fn,Hn,h3,h4⟩:=zc1 l _ _ h;exact⟨.tup []::rs,H::hs,Fn,Hn,.cons (no b hb (by simpa using hwb) H) (λ_=>rfl) (λ_ J=>no b hb (by simpa using hwb) _) (noG hw) (λ_ h0=>by rw[hg]at h0;cases h0) h3,h4⟩
      ·rename_i hb;obtain⟨rs,hs,Fn,Hn,h3,h4⟩:=zc1 l _ _ h;exact⟨.tup []::rs,H::hs,Fn,Hn,.cons (nil hb H) (λ_=>rfl) (λ_ J=>nil hb _) (noG hw) (λ_ h0=>by rw[hg]at h0;cases h0) h3,h4⟩
      ·exact h.elim
    ·rename_i hw;unfold zac zdn at h;split at h
     ·rename_i b hb;unfold aIf at h;split at h
      ·rename_i hwb;obtain⟨r,H',h1,hgr,h2⟩:=zwM hw (λe=>by rw[e];exact zyl _) h;obtain⟨rs,hs,Fn,Hn,h3,h4⟩:=zc1 l _ _ h2;exact⟨r::rs,H'::hs,Fn,Hn,.cons (yes b hb hwb h1) (λh0=>by rw[hw]at h0;cases h0) (noW hw) hgr (λ_ h0=>by rw[hg]at h0;cases h0) h3,h4⟩
      ·rename_i hwb;obtain⟨rs,hs,Fn,Hn,h3,h4⟩:=zc1 l _ _ h;exact⟨.tup []::rs,H::hs,Fn,Hn,.cons (no b hb (by simpa using hwb) H) (λ_=>rfl) (noW hw) (λ_=>.inl rfl) (λ_ h0=>by rw[hg]at h0;cases h0) h3,h4⟩
     ·rename_i hb;obtain⟨rs,hs,Fn,Hn,h3,h4⟩:=zc1 l _ _ h;exact⟨.tup []::rs,H::hs,Fn,Hn,.cons (nil hb H) (λ_=>rfl) (noW hw) (λ_=>.inl rfl) (λ_ h0=>by rw[hg]at h0;cases h0) h3,h4⟩
     ·exact h.elim
   ·exact h.elim

def frk:List Oper→List AV→List AV→Nat→List AV
 |_,_,F,0=>F
 |o::os,r::rs,F,i+1=>frk os rs (zbE F o.dst r) i
 |_,_,F,_=>F
def hpk:List zaa→zaa→Nat→zaa
 |_,H,0=>H
 |h::hs,_,i+1=>hpk hs h i
 |[],H,_=>H

theorem TrL.at{ops:Array Oper}{l:List Oper}{F rs Fn:List AV}{H Hn:zaa}{hs:List zaa}(h:TrL fl wc P ops l F H rs hs Fn Hn):rs.length=l.length∧frk l rs F l.length=Fn∧hpk hs H l.length=Hn ∧
  ∀(i:Nat) o,l[i]?=some o→∃r,rs[i]?=some r∧TrOK fl P ops (hpk hs H i) (frk l rs F i) o r (hpk hs H (i+1))∧frk l rs F (i+1)=zbE (frk l rs F i) o.dst r∧(opW wc o.op=false→hpk hs H (i+1)=hpk hs H i)∧(opC wc o.op=true→∀J,TrOK fl P ops (hpk hs H i++J) (frk l rs F i) o r (hpk hs H i++J))∧(opG wc o.op=true→GrowA (hpk hs H i) (hpk hs H (i+1)))∧(opK wc o.op=true→o.guard=none→zdX (zig ops (frk l rs F i)) (hpk hs H i) (hpk hs H (i+1))):=by
 induction h with
 |nil F H=>exact⟨rfl,rfl,rfl,λi o h=>by simp at h⟩
 |cons h hw hx hgr hk t ih=>
  obtain⟨h1,h2,h2',h3⟩:=ih;refine⟨by simp[h1],by simpa[frk]using h2,by simpa[hpk]using h2',λi o' ho=>?_⟩;cases i with
  |zero=>
   simp at ho;subst ho;rename_i os F rs Fn r H H' Hn hs;have e1:hpk (H'::hs) H 1=H':=by cases hs <;> rfl
   refine⟨_,rfl,?_,by simp[frk],λh0=>?_,λh0=>hx h0,λh0=>?_,λh0 h1=>?_⟩
   ·rw[aF,e1];exact h
   ·rw[aF,e1];exact hw h0
   ·rw[aF,e1];exact hgr h0
   ·rw[aF,e1];exact hk h0 h1
  |succ i=>obtain⟨r,h4,h5,h6,h7,h8,h9,h10⟩:=h3 i o' (by simpa using ho);exact⟨r,by simpa using h4,by simpa[hpk,frk]using h5,by simpa[frk]using h6,by simpa[hpk]using h7,by simpa[hpk,frk]using h8,by simpa[hpk]using h9,by simpa[hpk,frk]using h10⟩

def Grow(H H':zaa):Prop:=H'=H∨(∃x,H'=H++[x])∨∃(id:Nat) (a b:AB),H[id]?=some a∧(∀cs,a≠.cells cs)∧H'=H.set id b
theorem zvR{e s b:Nat}{x r:AV}{ys:List (List AV)}{H H':zaa}(h2:zaZ e s b x ys H λv H2=>v=r∧H2=H'):GrowA H H':=by
 unfold zaZ at h2;split at h2
 ·exact .inr (.inl ⟨_,_,_,h2.2.2.symm⟩)
 ·rename_i es id;exact .inr (.inr (.inl ⟨id,e,s,es.length,_,h2.1,h2.2.2.2.symm⟩))
 ·split at h2
  ·rename_i hid;obtain⟨⟨⟨rfl,rfl,rfl⟩,_⟩,_,he⟩:=h2;exact .inr (.inr (.inr (.inl ⟨_,_,_,_,_,_,_,hid,he.symm⟩)))
  ·exact h2.elim
 ·split at h2
  ·exact .inl h2.2.symm
  ·exact .inr (.inl ⟨_,_,_,h2.2.2.symm⟩)
 ·exact h2.elim
theorem zvP{e s b m:Nat}{x r:AV}{ds:List AV}{H H':zaa}(h:zdY e s b x m ds H λv H2=>v=r∧H2=H'):GrowA H H':=by
 unfold zdY at h;split at h
 ·split at h
  ·rename_i hid;obtain⟨⟨⟨rfl,rfl,rfl⟩,_⟩,_,he⟩:=h;exact .inr (.inr (.inr (.inl ⟨_,_,_,_,_,_,_,hid,he.symm⟩)))
  ·exact h.elim
 ·split at h
  ·exact .inl h.2.symm
  ·exact .inr (.inr (.inr (.inr ⟨_,_,_,_,h.2.2.symm⟩)))
 ·split at h
  ·exact h.elim
  ·exact .inr (.inr (.inr (.inr ⟨_,_,_,_,h.2.2.symm⟩)))
 ·exact h.elim
theorem zFo{e s b:Nat}{x y r:AV}{H H':zaa}(h:zax e s b x y H λv H2=>v=r∧H2=H'):GrowA H H':=by
 unfold zax at h;split at h
 ·split at h
  ·exact zvP h.2
  ·exact h.elim
 ·split at h
  ·exact zvP h.2
  ·exact h.elim
 ·unfold za6 at h;split at h
  ·exact zvR h.2
  ·exact zvR h.2
  ·exact h.elim
theorem GrowA.grow{H H':zaa}(h:GrowA H H'):Grow H H':=by
 rcases h with h|⟨e,s,n,h⟩|⟨id,e,s,n,n',h1,h2⟩|⟨id,e,s,n,n',cs,cs',h1,h2⟩|⟨e,s,n,cs,h⟩
 ·exact .inl h
 ·exact .inr (.inl ⟨_,h⟩)
 ·exact .inr (.inr ⟨id,_,_,h1,(λ_ h=>by cases h),h2⟩)
 ·exact .inr (.inr ⟨id,_,_,h1,(λ_ h=>by cases h),h2⟩)
 ·exact .inr (.inl ⟨_,h⟩)
theorem Grow.cells{H H':zaa}(h:Grow H H'){id:Nat}{cs:List AV}(hc:H[id]?=some (.cells cs)):H'[id]?=some (.cells cs):=by
 have hlt:id<H.length:=(List.getElem?_eq_some_iff.1 hc).1;rcases h with rfl|⟨x,rfl⟩|⟨id',a,b,h1,h2,rfl⟩
 ·exact hc
 ·rw[List.getElem?_append_left hlt];exact hc
 ·by_cases he:id=id'
  ·subst he;rw[hc]at h1;cases h1;exact(h2 _ rfl).elim
  ·rw[List.getElem?_set_ne (λh=>he h.symm)];exact hc
theorem GrowA.cells{H H':zaa}(h:GrowA H H'){id:Nat}{cs:List AV}(hc:H'[id]?=some (.cells cs)):H[id]?=some (.cells cs):=by
 rcases h with rfl|⟨e,s,n,rfl⟩|⟨id',e,s,n,n',h1,rfl⟩|⟨id',e,s,n,n',cs1,cs2,h1,rfl⟩|⟨e,s,n,cs1,rfl⟩
 ·exact hc
 ·by_cases hlt:id<H.length
  ·rwa [List.getElem?_append_left hlt]at hc
  ·have hlt2:=(List.getElem?_eq_some_iff.1 hc).1;simp at hlt2;have:id=H.length:=by omega
   subst this;simp at hc
 ·by_cases he:id=id'
  ·subst he;rw[List.getElem?_set_self (List.getElem?_eq_some_iff.1 h1).1]at hc;cases hc
  ·rwa [List.getElem?_set_ne (λh=>he h.symm)]at hc
 ·by_cases he:id=id'
  ·subst he;rw[List.getElem?_set_self (List.getElem?_eq_some_iff.1 h1).1]at hc;cases hc
  ·rwa [List.getElem?_set_ne (λh=>he h.symm)]at hc
 ·by_cases hlt:id<H.length
  ·rwa [List.getElem?_append_left hlt]at hc
  ·have hlt2:=(List.getElem?_eq_some_iff.1 hc).1;simp at hlt2;have:id=H.length:=by omega
   subst this;simp at hc
theorem zxJ{o:Oper}(hl:opL o.op=true){F:List AV}{H H':zaa}{r:AV}(he:fl=true→H'=H)(hc:∀(id:Nat) (cs:List AV),H[id]?=some (AB.cells cs)→H'[id]?=some (AB.cells cs))(h:zbi fl P o F H λv H2=>v=r∧H2=H):zbi fl P o F H' λv H2=>v=r∧H2=H':=by
 obtain⟨dst,op,type,pos,after,guard⟩:=o;cases op <;> simp only[opL,aD]at hl
 cases fl with
 |true=>rw[he rfl];exact h
 |false=>
 simp only[zbi,zjz,and_true]at h ⊢;split at h
 ·unfold zan at h ⊢;split at h
  ·exact h.elim
  rename_i hvp;simp only[zgJ]at h ⊢;split at h
  ·split at h
   ·rename_i hcs;rw[hc _ _ hcs];exact h
   ·exact h.elim
  ·exact h
  ·rename_i hev;exact(hvp _ _ _ hev).elim
  ·exact h.elim
 ·exact h.elim
theorem zxK{o:Oper}(hl:opL o.op=true){F:List AV}{H H':zaa}{r:AV}(he:fl=true→H'=H)(hc:∀(a:AV) (id off:Nat) (cs:List AV),(∃x∈o.op.operands,a=ev F x)→(∃t x,o.op=.load t x∧a=ev F x)→a=.ptr id off→H[id]?=some (AB.cells cs)→H'[id]?=some (AB.cells cs))(h:zbi fl P o F H λv H2=>v=r∧H2=H):zbi fl P o F H' λv H2=>v=r∧H2=H':=by
 obtain⟨dst,op,type,pos,after,guard⟩:=o;cases op <;> simp only[opL,aD]at hl
 cases fl with
 |true=>rw[he rfl];exact h
 |false=>
 simp only[zbi,zjz,and_true]at h ⊢;split at h
 ·unfold zan at h ⊢;split at h
  ·exact h.elim
  rename_i hvp;simp only[zgJ]at h ⊢;split at h
  ·split at h
   ·rename_i hev _ _ hcs;rw[hc _ _ _ _ ⟨_,by simp[Op.operands],rfl⟩ ⟨_,_,rfl,rfl⟩ hev hcs];exact h
   ·exact h.elim
  ·exact h
  ·rename_i hev;exact(hvp _ _ _ hev).elim
  ·exact h.elim
 ·exact h.elim
theorem TrOK.load'{ops:Array Oper}{F:List AV}{o:Oper}{r:AV}{H H':zaa}(hl:opL o.op=true)(he:fl=true→H'=H)(hc:∀(a:AV) (id off:Nat) (cs:List AV),(∃x∈o.op.operands,a=ev F x)→(∃t x,o.op=.load t x∧a=ev F x)→a=.ptr id off→H[id]?=some (AB.cells cs)→H'[id]?=some (AB.cells cs))(ht:TrOK fl P ops H F o r H):TrOK fl P ops H' F o r H':=by
 unfold TrOK at *;split at ht
 ·exact zxK hl he hc ht
 ·obtain⟨d,hd,ht⟩:=ht;refine⟨d,hd,?_⟩;rcases ht with ⟨b,h1,h2,h3⟩ | ⟨b,h1,h2,h3,_⟩ | ⟨h1,h2,_⟩
  ·exact .inl ⟨b,h1,h2,zxK hl he hc h3⟩
  ·exact .inr (.inl ⟨b,h1,h2,h3,rfl⟩)
  ·exact .inr (.inr ⟨h1,h2,rfl⟩)
theorem TrOK.load{ops:Array Oper}{F:List AV}{o:Oper}{r:AV}{H H':zaa}(hl:opL o.op=true)(he:fl=true→H'=H)(hc:∀(id:Nat) (cs:List AV),H[id]?=some (AB.cells cs)→H'[id]?=some (AB.cells cs))(ht:TrOK fl P ops H F o r H):TrOK fl P ops H' F o r H':=by
 unfold TrOK at *;split at ht
 ·exact zxJ hl he hc ht
 ·obtain⟨d,hd,ht⟩:=ht;refine⟨d,hd,?_⟩;rcases ht with ⟨b,h1,h2,h3⟩ | ⟨b,h1,h2,h3,_⟩ | ⟨h1,h2,_⟩
  ·exact .inl ⟨b,h1,h2,zxJ hl he hc h3⟩
  ·exact .inr (.inl ⟨b,h1,h2,h3,rfl⟩)
  ·exact .inr (.inr ⟨h1,h2,rfl⟩)
theorem zxf{o:Oper}(ho:opN o.op=true){F:List AV}{H H':zaa}{r:AV}(h:zbi fl P o F H λv H2=>v=r∧H2=H'):Grow H H':=by
 obtain⟨dst,op,type,pos,after,guard⟩:=o;cases op <;> simp only[opN,aD]at ho <;> simp only[zbi,aop,isM,zdq,zfa]at h
 case alloc t=>
  split at h
  ·exact .inr (.inl ⟨_,h.2.symm⟩)
  ·exact h.elim
 case box t x=>
  unfold zaw at h;split at h
  ·exact .inr (.inl ⟨_,h.2.symm⟩)
  ·exact h.elim
 case makeSlice t l c=>
  split at h
  ·split at h
   ·unfold za9 at h;split at h
    ·exact .inr (.inl ⟨_,h.2.2.symm⟩)
    ·exact h.elim
   ·exact h.elim
  ·exact h.elim
 case makeMap t r=>
  split at h
  ·exact .inr (.inl ⟨_,h.2.symm⟩)
  ·exact .inr (.inl ⟨_,h.2.symm⟩)
  ·exact h.elim
theorem zxe{o:Oper}(ho:opA .n o.op=true){F:List AV}{H H':zaa}{r:AV}(h:zbi fl P o F H λv H2=>v=r∧H2=H'):GrowA H H':=by
 obtain⟨dst,op,type,pos,after,guard⟩:=o;cases op <;> simp only[opA,WM.gr,aD]at ho <;> simp only[zbi,aop,isM,zdq]at h
 rename_i c;cases hc:c.callee with
 |value f=>simp[hc]at ho
 |invoke r m=>simp[hc]at ho
 |builtin b=>
  cases b <;> simp[hc]at ho
  simp only[hc,ze6]at h;split at h
  ·split at h
   ·split at h
    ·exact zFo h
    ·exact h.elim
   ·exact h.elim
  ·exact h.elim
theorem TrOK.growN{ops:Array Oper}{F:List AV}{o:Oper}{r:AV}{H H':zaa}(ho:opN o.op=true)(ht:TrOK fl P ops H F o r H'):Grow H H':=by
 unfold TrOK at ht;split at ht
 ·exact zxf ho ht
 ·obtain⟨d,hd,ht⟩:=ht;rcases ht with ⟨b,h1,h2,h3⟩ | ⟨b,h1,h2,h3,h4⟩ | ⟨h1,h2,h4⟩
  ·exact zxf ho h3
  ·exact .inl h4
  ·exact .inl h4
theorem TrOK.growA{ops:Array Oper}{F:List AV}{o:Oper}{r:AV}{H H':zaa}(ho:opA .n o.op=true)(ht:TrOK fl P ops H F o r H'):GrowA H H':=by
 unfold TrOK at ht;split at ht
 ·exact zxe ho ht
 ·obtain⟨d,hd,ht⟩:=ht;rcases ht with ⟨b,h1,h2,h3⟩ | ⟨b,h1,h2,h3,h4⟩ | ⟨h1,h2,h4⟩
  ·exact zxe ho h3
  ·exact .inl h4
  ·exact .inl h4

end
section
open Go.RowKit

variable {wc:WM} {P:Program} {B:Nat} {w:World} {G:Gh} {H:zaa}

structure Ord (ops:Array Oper):Prop where
 edge:∀(i:Nat) o,ops[i]?=some o→∀e∈o.after,Region.binds .any e=true→e.on<i
 dst:∀(i j:Nat) oi oj d,ops[i]?=some oi→ops[j]?=some oj→i≠j→oj.dst=some d→oi.dst≠some d
 before:∀(i j:Nat) oi oj d,ops[i]?=some oi→ops[j]?=some oj→j<i→oj.dst=some d→d∈zcZ ops oi→∃e∈oi.after,Region.binds .any e=true∧e.on=j
 behind:∀(i j:Nat) oi oj d,ops[i]?=some oi→ops[j]?=some oj→i<j→oj.dst=some d→d∈zcZ ops oi→∃e∈oj.after,Region.binds .any e=true∧e.on=i

theorem zjW{o:Oper}{j:Nat}(h:zd8 o j=true):∃e∈o.after,Region.binds .any e=true∧e.on=j:=by unfold zd8 at h;rw[Array.any_eq_true']at h;obtain⟨e,he,hb⟩:=h;simp only[ac,aY]at hb;exact⟨e,he,hb⟩

theorem zq8{ops:Array Oper}(h:zef ops=true):Ord ops:=by
 unfold zef at h;rw[am]at h;have mem:∀(i:Nat) o,ops[i]?=some o→(o,i)∈ops.toList.zipIdx:=λi o ho=>by rw[bG];simpa using ho
 have all:∀(i j:Nat) oi oj,ops[i]?=some oi→ops[j]?=some oj→zq6 ops i j oi oj=true:=λi j oi oj hi hj=>by have h1:=h _ (mem i oi hi);simp only[ac]at h1;exact am.1 h1.2 _ (mem j oj hj)
 have pair:∀(i j:Nat) oi oj d,ops[i]?=some oi→ops[j]?=some oj→i≠j→oj.dst=some d→oi.dst≠some d∧(d∈zcZ ops oi→(if j<i then zd8 oi j else zd8 oj i)=true):=by intro i j oi oj d hi hj hne hd;have h1:=all i j oi oj hi hj;unfold zq6 at h1;simp only[hd,bB,aY,hne,false_or,ac,bne_iff_ne,bY,List.contains_eq_mem,bv]at h1;exact⟨h1.1,λhm=>h1.2.resolve_left (λh=>h hm)⟩
 refine⟨λi o ho e he hb=>?_,λi j oi oj d hi hj hne hd=>(pair i j oi oj d hi hj hne hd).1,λi j oi oj d hi hj hlt hd hm=>?_,λi j oi oj d hi hj hlt hd hm=>?_⟩
 ·have h1:=h _ (mem i o ho);simp only[ac]at h1;have h2:=Array.all_eq_true'.1 h1.1 e he;simpa[hb]using h2
 ·have:=(pair i j oi oj d hi hj (by omega) hd).2 hm;rw[aB hlt]at this;exact zjW this
 ·have:=(pair i j oi oj d hi hj (by omega) hd).2 hm;rw[ap (by omega)]at this;exact zjW this

structure FlRel (ops:Array Oper) (F0 rs:List AV) (S:Nat→Bool) (F:List AV):Prop where
 len:F.length=F0.length
 done:∀(i:Nat) o s r,ops[i]?=some o→o.dst=some s→S i=true→rs[i]?=some r→s<F0.length→F[s]?=some r
 rest:∀s:Nat,(∀(i:Nat) o,ops[i]?=some o→o.dst=some s→S i=false)→F[s]?=F0[s]?

theorem FlRel.step{ops:Array Oper}{F0 rs F:List AV}{S:Nat→Bool}{i:Nat}{o:Oper}{r:AV}(hO:Ord ops)(h:FlRel ops F0 rs S F)(ho:ops[i]?=some o)(hr:rs[i]?=some r):
  FlRel ops F0 rs (λk=>if k=i then true else S k) (zbE F o.dst r):=by
 refine⟨by cases hd:o.dst <;> simp[zbE,h.len],λk ok s x hk hs hS hx hlt=>?_,λs hs=>?_⟩
 ·by_cases hki:k=i
  ·subst hki;rw[ho]at hk;cases hk;rw[hr]at hx;cases hx;simp only[zbE,hs];exact List.getElem?_set_self (by rw[h.len];exact hlt)
  ·simp only[hki,aT]at hS;have h1:=h.done k ok s x hk hs hS hx hlt;cases hd:o.dst with
   |none=>exact h1
   |some d=>have hne:d≠s:=λhe=>hO.dst i k o ok s ho hk (λh=>hki h.symm) hs (by rw[hd,he]);simp only[zbE];rw[List.getElem?_set_ne hne];exact h1
 ·have hi:=hs i o ho;have hns:o.dst≠some s:=λhd=>by have:=hi hd;simp at this
  have h1:=h.rest s (λk ok hk hks=>by
   have:=hs k ok hk hks;by_cases hki:k=i
   ·subst hki;simp at this
   ·simpa[hki]using this)
  cases hd:o.dst with
  |none=>exact h1
  |some d=>have hne:d≠s:=λhe=>hns (by rw[hd,he]);simp only[zbE];rw[List.getElem?_set_ne hne];exact h1

theorem FlRel.same{ops:Array Oper}{F0 rs F F':List AV}{S:Nat→Bool}(hr:rs.length=ops.size)(h:FlRel ops F0 rs S F)(h':FlRel ops F0 rs S F'):F=F':=by
 apply aI;intro s;by_cases hw:∃(i:Nat) (o:Oper),ops[i]?=some o∧o.dst=some s∧S i=true
 ·obtain⟨i,o,h1,h2,h3⟩:=hw;by_cases hlt:s<F0.length
  ·have hi:i<rs.length:=by rw[hr];exact (Array.getElem?_eq_some_iff.1 h1).1
   rw[h.done i o s rs[i] h1 h2 h3 (by simp[hi]) hlt,h'.done i o s rs[i] h1 h2 h3 (by simp[hi]) hlt]
  ·rw[List.getElem?_eq_none (by rw[h.len];omega),List.getElem?_eq_none (by rw[h'.len];omega)]
 ·have hn:∀(i:Nat) o,ops[i]?=some o→o.dst=some s→S i=false:=λi o h1 h2=>by
   cases hS:S i with
   |false=>rfl
   |true=>exact absurd ⟨i,o,h1,h2,hS⟩ hw
  rw[h.rest s hn,h'.rest s hn]

theorem FlRel.congr{ops:Array Oper}{F0 rs F:List AV}{S S':Nat→Bool}(h:FlRel ops F0 rs S F)(hS:∀i,i<ops.size→S i=S' i):FlRel ops F0 rs S' F:=
 ⟨h.len,λi o s r ho hs hSi=>h.done i o s r ho hs (by rw[hS i (Array.getElem?_eq_some_iff.1 ho).1];exact hSi),
  λs hs=>h.rest s λi o ho hd=>by rw[hS i (Array.getElem?_eq_some_iff.1 ho).1];exact hs i o ho hd⟩

theorem zpI{fl:Bool}{ops:Array Oper}{F0 rs Fn:List AV}{Hn:zaa}{hs:List zaa}(hO:Ord ops)(ht:TrL fl wc P ops ops.toList F0 H rs hs Fn Hn):∀ i,i≤ops.size→FlRel ops F0 rs (λk=>decide (k<i)) (frk ops.toList rs F0 i)
 |0,_=>by
  have:frk ops.toList rs F0 0=F0:=by unfold frk;cases ops.toList <;> rfl
  rw[this];exact⟨rfl,λi o s r _ _ hS=>by simp at hS,λs _=>rfl⟩
 |i+1,hi=>by
  obtain⟨hl,_,_,hat⟩:=ht.at;have ho:ops.toList[i]?=some ops[i]:=by simp[show i<ops.size by omega]
  obtain⟨r,h1,_,h3,_,_⟩:=hat i _ ho;rw[h3];refine(FlRel.step hO (zpI hO ht i (by omega)) (i:=i) (o:=ops[i]) (by simp[show i<ops.size by omega]) h1).congr λk _=>?_;by_cases hk:k=i
  ·subst hk;simp
  ·simp[hk];omega

theorem zIK{ops:Array Oper}{F0 rs F F':List AV}{S:Nat→Bool}{i:Nat}{o:Oper}(hO:Ord ops)(hr:rs.length=ops.size)(h:FlRel ops F0 rs S F)(h':FlRel ops F0 rs (λk=>decide (k<i)) F')(ho:ops[i]?=some o)(hi:S i=false)(hready:∀e∈o.after,Region.binds .any e=true→S e.on=true)(hclosed:∀(j:Nat) oj,ops[j]?=some oj→S j=true→∀e∈oj.after,Region.binds .any e=true→S e.on=true):∀s∈zcZ ops o,F.getD s .unk=F'.getD s .unk:=by
 intro s hs;have key:F[s]?=F'[s]?:=by
  by_cases hw:∃(j:Nat) (oj:Oper),ops[j]?=some oj∧oj.dst=some s∧j≠i
  ·obtain⟨j,oj,hj,hd,hne⟩:=hw;have uniq:∀(k:Nat) ok,ops[k]?=some ok→ok.dst=some s→k=j:=λk ok hk hks=>by
    by_cases hkj:k=j
    ·exact hkj
    ·exact absurd hks (hO.dst k j ok oj s hk hj hkj hd)
   by_cases hlt:j<i
   ·obtain⟨e,he,hb,hon⟩:=hO.before i j o oj s ho hj hlt hd hs;have hSj:=hready e he hb;rw[hon]at hSj;by_cases hsl:s<F0.length
    ·have hjl:j<rs.length:=by rw[hr];exact (Array.getElem?_eq_some_iff.1 hj).1
     rw[h.done j oj s rs[j] hj hd hSj (by simp[hjl]) hsl,h'.done j oj s rs[j] hj hd (by simpa using hlt) (by simp[hjl]) hsl]
    ·rw[List.getElem?_eq_none (by rw[h.len];omega),List.getElem?_eq_none (by rw[h'.len];omega)]
   ·obtain⟨e,he,hb,hon⟩:=hO.behind i j o oj s ho hj (by omega) hd hs;have hSj:S j=false:=by
     cases hSj:S j with
     |false=>rfl
     |true=>have:=hclosed j oj hj hSj e he hb;rw[hon,hi]at this;cases this
    rw[h.rest s (λk ok hk hks=>by rw[uniq k ok hk hks];exact hSj),h'.rest s (λk ok hk hks=>by rw[uniq k ok hk hks];simpa using hlt)]
  ·have hno:∀(k:Nat) ok,ops[k]?=some ok→ok.dst=some s→k=i:=λk ok hk hks=>by
    by_cases hki:k=i
    ·exact hki
    ·exact absurd ⟨k,ok,hk,hks,hki⟩ hw
   rw[h.rest s (λk ok hk hks=>by rw[hno k ok hk hks];exact hi),h'.rest s (λk ok hk hks=>by rw[hno k ok hk hks];simp)]
 rw[List.getD_eq_getElem?_getD,List.getD_eq_getElem?_getD,key]

inductive Anc (ops:Array Oper):Nat→Nat→Prop
 |one {j i:Nat} {o:Oper} {e:Edge} (ho:ops[j]?=some o) (he:e∈o.after) (hb:Region.binds .any e=true) (hi:e.on=i):Anc ops j i
 |more {j k i:Nat} {o:Oper} {e:Edge} (ho:ops[j]?=some o) (he:e∈o.after) (hb:Region.binds .any e=true) (hk:e.on=k) (h:Anc ops k i):Anc ops j i

theorem Anc.closed{ops:Array Oper}{S:Nat→Bool}(hc:∀(j:Nat) oj,ops[j]?=some oj→S j=true→∀e∈oj.after,Region.binds .any e=true→S e.on=true){j i:Nat}(h:Anc ops j i):S j=true→S i=true:=by
 induction h with
 |one ho he hb hi=>intro hj;rw[←hi];exact hc _ _ ho hj _ he hb
 |more ho he hb hk h ih=>intro hj;exact ih (by rw[←hk];exact hc _ _ ho hj _ he hb)
theorem Anc.ready{ops:Array Oper}{S:Nat→Bool}(hc:∀(j:Nat) oj,ops[j]?=some oj→S j=true→∀e∈oj.after,Region.binds .any e=true→S e.on=true){j i:Nat}{o:Oper}(ho:ops[j]?=some o)(hr:∀e∈o.after,Region.binds .any e=true→S e.on=true)(h:Anc ops j i):S i=true:=by
 cases h with
 |one ho' he hb hi=>rw[ho]at ho';cases ho';rw[←hi];exact hr _ he hb
 |more ho' he hb hk h=>rw[ho]at ho';cases ho';exact h.closed hc (by rw[←hk];exact hr _ he hb)

theorem zwe(ms:List Nat):∀ (es:List Edge) (m i:Nat),Nat.testBit (zhW ms es m) i=true→Nat.testBit m i=true∨∃ e∈es,Region.binds .any e=true∧(e.on=i∨Nat.testBit (ms.getD e.on 0) i=true)
 |[],m,i,h=>.inl h
 |e::es,m,i,h=>by
  unfold zhW at h;rcases zwe ms es _ i h with h1|⟨e',he',hb,hc⟩
  ·cases hb:Region.binds .any e with
   |false=>rw[hb]at h1;exact .inl h1
   |true=>
    rw[hb]at h1;simp only[Nat.testBit_or,bB,Nat.one_shiftLeft,Nat.testBit_two_pow,aH]at h1;rcases h1 with (h1|h1)|h1
    ·exact .inl h1
    ·exact .inr ⟨e,by simp,hb,.inl h1⟩
    ·exact .inr ⟨e,by simp,hb,.inr h1⟩
  ·exact .inr ⟨e',by simp[he'],hb,hc⟩
theorem zpe{ops:Array Oper}:∀ (l:List Oper) (ms:List Nat),ops.toList.drop ms.length=l→(∀ j i,Nat.testBit (ms.getD j 0) i=true→Anc ops j i) →
  (∀(j:Nat),(∃o,ops[j]?=some o)→∀e∈(ops[j]?.map (·.after)).getD #[],Region.binds .any e=true→e.on<j)→∀j i,Nat.testBit ((zgN l ms).getD j 0) i=true→Anc ops j i
 |[],ms,_,h,_,j,i=>h j i
 |o::l,ms,hd,h,he,j,i=>by
  have ho:ops[ms.length]?=some o:=by have:=congrArg (λx=>x[0]?) hd;simpa using this
  unfold zgN;refine zpe l (ms++[zhW ms o.after.toList 0]) ?_ ?_ he j i
  ·rw[ao,List.length_singleton,←cZ,hd];rfl
  ·intro j i hb;by_cases hj:j<ms.length
   ·rw[List.getD_eq_getElem?_getD,List.getElem?_append_left hj,←List.getD_eq_getElem?_getD]at hb;exact h j i hb
   ·by_cases hj2:j=ms.length
    ·subst hj2;rw[List.getD_eq_getElem?_getD,List.getElem?_append_right (aa _)]at hb;simp only[bU,List.getElem?_cons_zero,Option.getD_some]at hb;rcases zwe ms _ _ _ hb with h1 | ⟨e,hee,hbe,hc⟩
     ·simp at h1
     ·have hee':e∈o.after:=by simpa using hee
      rcases hc with hc|hc
      ·exact .one ho hee' hbe hc
      ·exact .more ho hee' hbe rfl (h _ _ hc)
    ·rw[List.getD_eq_getElem?_getD,List.getElem?_eq_none (by simp;omega)]at hb;simp at hb
theorem zkY{ops:Array Oper}(hO:Ord ops)(h:zdt wc ops=true){i j:Nat}{oi oj:Oper}(hi:ops[i]?=some oi)(hj:ops[j]?=some oj)(hlt:j<i)(hw:opW wc oi.op=true∨opW wc oj.op=true)(fi:opF oi.op=false)(fj:opF oj.op=false)(hu:okU wc oj.op oi.op=false):Anc ops i j:=by
 unfold zdt at h;have mem:∀(i:Nat) o,ops[i]?=some o→(o,i)∈ops.toList.zipIdx:=λi o ho=>by rw[bG];simpa using ho
 split at h
 ·rename_i hn;rw[List.any_eq_false]at hn;have hmi:oi∈ops.toList:=aJ.2 ⟨i,by simpa using hi⟩;have hmj:oj∈ops.toList:=aJ.2 ⟨j,by simpa using hj⟩;rcases hw with hw | hw
  ·exact absurd hw (hn _ hmi)
  ·exact absurd hw (hn _ hmj)
 ·have h1:=am.1 (am.1 h _ (mem i oi hi)) _ (mem j oj hj);have hw':(opW wc oi.op || opW wc oj.op)=true:=by rcases hw with hw | hw <;> simp[hw]
  simp only[hw',fi,fj,hu,hlt,dc,dz,bh]at h1;refine zpe ops.toList [] rfl (λj i hb=>by simp at hb) ?_ i j h1;intro j ⟨o,ho⟩ e he hb;rw[ho]at he;exact hO.edge j o ho e (by simpa using he) hb

end
section
open Go.RowKit
variable {P:Program} {B:Nat} {w:World} {G:Gh} {H:zaa}
theorem zwf{α:Type}{p:α→Prop}:∀ {l:List α},zpf l p→∀ i∈l,p i
 |[],_,i,hi=>by cases hi
 |[j],h,i,hi=>by simp at hi;subst hi;exact h
 |j::k::l,h,i,hi=>by
  rcases aZ.1 hi with rfl|hi
  ·exact h.1
  ·exact zwf h.2 i hi
theorem zr4{ops:Array Oper}{Q:Exit→Act→World→Prop}{i:Nat}{o:Oper}{a:Act}{K:Act→World→Prop}(ho:ops[i]?=some o)(hg:o.guard=none):wpOp P ops Q i K a w=(o.wp P a w K Q∨(o.asks P a w∧LetsOut Q)):=by unfold wpOp;simp only[ho];rw[aB (by simp[Region.wanted,hg])]
theorem zIO{ops:Array Oper}{K:List AV→zaa→Prop}{Q:Exit→Act→World→Prop}{w0:World}{G0:Gh}(hQ:∀ a w G F H,Ext B w0 G0 w G→HRel B w G H→FRel w G a.tmps F→a.defers=[]→K F H→Q .normal a w):
  ∀(n:Nat) (listed:Array Bool) (a:Act) (w:World) (G:Gh) (F:List AV) (H:zaa),Ext B w0 G0 w G→HRel B w G H→FRel w G a.tmps F→a.defers=[]→zhq P ops K n listed F H→wpAny P .any ops Q n listed a w:=by
 intro n;induction n with
 |zero=>
  intro listed a w G F H hE hH hF hd h;unfold zhq at h;split at h
  ·rename_i hr;exact⟨hr,hQ a w G F H hE hH hF hd h⟩
  ·exact h.elim
 |succ n ih=>
  intro listed a w G F H hE hH hF hd h;unfold zhq at h;split at h
  ·rename_i hr;exact⟨λ_=>hQ a w G F H hE hH hF hd h,λi hi=>by rw[hr]at hi;cases hi⟩
  ·rename_i i is hr;refine⟨λh0=>(by rw[hr]at h0;cases h0),λj hj=>?_⟩;rw[hr]at hj;have h1:=zwf h j hj;split at h1
   ·rename_i o ho;split at h1
    ·rename_i hg;rw[zr4 ho hg];refine .inl (ziJ hF (zgb hH hF h1) λv av w' G' H' k1 k2 k3 k4=>?_);have hput:(a.put o.dst v).defers=[]:=by cases hdst:o.dst <;> simpa[Act.put]using hd
     exact ih _ _ w' G' _ H' (hE.trans k1) k2 ((hF.ext k1).put k3) hput k4
    ·exact h1.elim
   ·exact h1.elim
def zli(T:Act→World→Prop)(Q:Exit→Act→World→Prop):Exit→Act→World→Prop
 |.normal,a,w=>T a w
 |e,a,w=>Q e a w
theorem zxF{T:Act→World→Prop}{Q:Exit→Act→World→Prop}(h:LetsOut (zli T Q)):LetsOut Q:=h
theorem zIq{o:Oper}{a:Act}{T:Act→World→Prop}{Q:Exit→Act→World→Prop}{K K':Act→World→Prop}(hk:∀a w,K a w→K' a w)(h:o.wp P a w K (zli T Q)):o.wp P a w K' Q:=by
 have h:=Oper.wp_mono hk h;unfold Oper.wp at *;generalize (execOp a.eval o).run P w=r at *;cases r with
 |ok n w'=>
  cases n <;> simp only[Oper.upon]at h ⊢ <;>
   first
    |exact h
    |exact Calls.mono h (λe w'' he=>by cases e <;> first|exact he|exact zxF he)
 |halt x w'=>cases x <;> simp only[Oper.upon]at h ⊢ <;> exact h
theorem zKP{ops pre:Array Oper}{m t:Nat}{Q:Exit→Act→World→Prop}(hm:m+t=ops.size)(hpre:pre=zdM ops m)(hdep:zrG ops m=true)(hedge:∀ (i:Nat) o,pre[i]?=some o→∀ e∈o.after,Region.binds .any e=true→e.on<i):
  ∀ (n:Nat) (listed:Array Bool) (a:Act) (w:World),listed.size=m→listed.toList.count false=n →
   (∀(j:Nat) oj,pre[j]?=some oj→listed.getD j false=true→∀e∈oj.after,Region.binds .any e=true→listed.getD e.on false=true) →
   wpAny P .any pre (zli (wpAny P .any ops Q t (zhx m t)) Q) n listed a w →
   wpAny P .any ops Q (n+t) (listed++(List.replicate t false).toArray) a w:=by
 have hps:pre.size=m:=by rw[hpre];simp[zdM];omega
 have same:∀i,i<m→pre[i]?=ops[i]?:=λi hi=>by rw[hpre];simp[zdM,hi]
 have hanc:∀j i,Nat.testBit ((zgN (ops.toList.take m) []).getD j 0) i=true→Anc pre j i:=by
  intro j i hb;have e1:ops.toList.take m=pre.toList:=by rw[hpre];simp[zdM]
  rw[e1]at hb;refine zpe pre.toList [] rfl (λj i hb=>by simp at hb) ?_ j i hb;intro j ⟨o,ho⟩ e he hb;rw[ho]at he;exact hedge j o ho e (by simpa using he) hb
 obtain⟨hd1,hd2⟩:(∀o∈ops.toList.drop m,∀i,i<m→zd8 o i=true∨∃k,k<m∧zd8 o k=true∧Anc pre k i)∧∀o∈ops.toList,o.guard=none:=by
  unfold zrG at hdep;rw[ac,am,am]at hdep;refine⟨λo ho i hi=>?_,λo ho=>by simpa using hdep.2 o ho⟩;have:=hdep.1 o ho;rw[am]at this;have:=this i (be.2 hi);rw[bB,List.any_eq_true]at this;rcases this with h|⟨k,hk,h⟩
  ·exact .inl h
  ·rw[ac]at h;exact .inr ⟨k,be.1 hk,h.1,hanc k i h.2⟩
 have bare:∀(i:Nat) (o:Oper),ops[i]?=some o→o.guard=none:=λi o ho=>hd2 o (aJ.2 ⟨i,by simpa using ho⟩);intro n;induction n with
 |zero=>
  intro listed a w hsz hc _ h;have hall:listed=(List.replicate m true).toArray:=by
   have h1:∀b∈listed.toList,b=true:=λb hb=>by
    cases b with
    |true=>rfl
    |false=>have:=cX.2 hb;omega
   have h2:listed.toList=List.replicate m true:=by rw[←hsz,←Array.length_toList];exact List.eq_replicate_of_mem h1
   rw[←Array.toArray_toList (xs:=listed),h2]
  obtain⟨_,h2⟩:=h;have:listed++(List.replicate t false).toArray=zhx m t:=by rw[hall];simp[zhx]
  rw[this,aF];exact h2
 |succ n ih=>
  intro listed a w hsz hc hcl h;have gl:∀(i:Nat) (d:Bool),i<m→(listed++(List.replicate t false).toArray).getD i d=listed.getD i d:=λi d hi=>by simp[Array.getElem?_append,hsz,hi]
  -- some operation of the first part is open
  obtain⟨k,hk,hkf⟩:∃k,k<m∧listed.getD k true=false:=by
   have:false∈listed.toList:=cX.1 (by omega);obtain⟨k,hk⟩:=aJ.1 this;have hlt:k<listed.size:=by have:=(List.getElem?_eq_some_iff.1 hk).1;simpa using this
   refine⟨k,by omega,?_⟩;have hk':listed[k]?=some false:=by simpa using hk
   simp[hk']
  have ready:∀i,i∈Region.ready .any ops (listed++(List.replicate t false).toArray)→i<m∧i∈Region.ready .any pre listed:=λi hi=>by
   obtain⟨h1,o,ho,he⟩:=mem_ready.1 hi;by_cases him:i<m
   ·rw[gl i true him]at h1;refine⟨him,mem_ready.2 ⟨h1,o,by rw[same i him];exact ho,λe hem hb=>?_⟩⟩;have hlt:=hedge i o (by rw[same i him];exact ho) e hem hb;have:=he e hem hb;rwa [gl e.on false (by omega)]at this
   ·have hmem:o∈ops.toList.drop m:=aJ.2 ⟨i-m,by rw[List.getElem?_drop,show m+(i-m)=i by omega];simpa using ho⟩;have hkf2:listed.getD k false=false:=by
     have hlt:k<listed.size:=by omega
     simp[hlt]at hkf ⊢;exact hkf
    rcases hd1 o hmem k hk with hh|⟨k',hk',hh,hA⟩
    ·obtain⟨e,hem,hb,hon⟩:=zjW hh;have:=he e hem hb;rw[hon,gl k false hk,hkf2]at this;cases this
    ·obtain⟨e,hem,hb,hon⟩:=zjW hh;have:=he e hem hb;rw[hon,gl k' false hk']at this;have:=Anc.closed (S:=λj=>listed.getD j false) hcl hA this;rw[hkf2]at this;cases this
  have some_ready:Region.ready .any ops (listed++(List.replicate t false).toArray)≠[]:=by
   intro hr;have all:∀i,i<m→listed.getD i false=true:=by
    intro i;induction i using Nat.strongRecOn with
    |_ i ihi=>
     intro hi;cases hS:listed.getD i false with
     |true=>rfl
     |false=>
      have hio:i<ops.size:=by omega
      have ho:ops[i]?=some ops[i]:=by simp[hio]
      have:i∈Region.ready .any ops (listed++(List.replicate t false).toArray):=by
       rw[mem_ready];refine⟨?_,ops[i],ho,λe he hb=>?_⟩
       ·rw[gl i true hi];have hlt:i<listed.size:=by omega
        simp[hlt]at hS ⊢;exact hS
       ·have hlt:=hedge i ops[i] (by rw[same i hi];exact ho) e he hb;rw[gl e.on false (by omega)];exact ihi e.on hlt (by omega)
      rw[hr]at this;cases this
   have h1:=all k hk;have hlt:k<listed.size:=by omega
   simp[hlt]at hkf h1;rw[h1]at hkf;cases hkf
  rw[show n+1+t=(n+t)+1 by omega];refine⟨λh0=>absurd h0 some_ready,λi hi=>?_⟩;obtain⟨him,hir⟩:=ready i hi;have h1:=h.2 i hir;obtain⟨hf1,o,ho,_⟩:=mem_ready.1 hir;have ho':ops[i]?=some o:=by rw[←same i him];exact ho
  have hg:=bare i o ho';rw[zr4 ho hg]at h1;rw[zr4 ho' hg];have hset:(listed++(List.replicate t false).toArray).setIfInBounds i true=listed.setIfInBounds i true++(List.replicate t false).toArray:=by rw[Array.setIfInBounds_append_left (by omega)]
  have hcount:(listed.setIfInBounds i true).toList.count false=n:=by
   have hil:i<listed.size:=by omega
   have hf:listed.toList[i]'(by simpa using hil)=false:=by simp[hil]at hf1;simpa using hf1
   rw[bR,List.count_set (by simpa using hil),hf];simp only[dh,cO,Bool.true_eq_false,aY,aT];omega
  rcases h1 with h1|⟨h1,h2⟩
  ·refine .inl (zIq (λa w hk=>?_) h1);rw[hset];refine ih _ a w (by simpa using hsz) hcount (λj oj hj hS e he hb=>?_) hk;obtain⟨_,o2,ho2,he2⟩:=mem_ready.1 hir;have gs:∀x,listed.getD x false=true→(listed.setIfInBounds i true).getD x false=true:=λx hx=>by
    by_cases hxi:x=i
    ·subst hxi;have hlt:x<listed.size:=by omega
     simp[hlt]
    ·simp only[bL]at hx ⊢;rw[Array.getElem?_setIfInBounds_ne (λh=>hxi h.symm)];exact hx
   by_cases hji:j=i
   ·subst hji;rw[ho2]at hj;cases hj;exact gs _ (he2 e he hb)
   ·refine gs _ (hcl j oj hj ?_ e he hb);simp only[bL]at hS ⊢;rw[Array.getElem?_setIfInBounds_ne (λh=>hji h.symm)]at hS;exact hS
  ·exact .inr ⟨h1,zxF h2⟩
end
end Go.Proofs.YtaifokkaaahdoaaGreatDoor
