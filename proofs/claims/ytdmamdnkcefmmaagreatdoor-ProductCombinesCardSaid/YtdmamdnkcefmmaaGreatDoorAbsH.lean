import Derived.Test.YtdmamdnkcefmmaaGreatDoorAbsC
import Derived.Laws.AppendOwnNone
import Derived.Laws.Strings
import Derived.Laws.MakeOwn
import Derived.Laws.BytesString
import Derived.MapKept
set_option linter.unusedSimpArgs false
set_option linter.unusedVariables false
set_option linter.unusedSectionVars false
set_option maxRecDepth 8000
namespace Go.Proofs.YtdmamdnkcefmmaaGreatDoor
section
open Go.RowKit

variable {P:Program} {B:Nat} {w:World} {G:Gh} {H:or}

def zJX(B:Nat)(w:World)(G:Gh)(K:AV→or→Prop)(e:Ending)(w':World):Prop:=
 ∃v r H' G',e=.returned v∧Ext B w G w' G'∧tU B w' G' H'∧TRel w' G' v r∧K r H'

def OpOK(P:Program)(B:Nat)(w:World)(G:Gh)(K:AV→or→Prop):Result Next→Prop
 |.ok (.value v) w'=>∃av G' H',Ext B w G w' G'∧tU B w' G' H'∧TRel w' G' v av∧K av H'
 |.ok .skip w'=>∃G' H',Ext B w G w' G'∧tU B w' G' H'∧K (.tup []) H'
 |.ok (.enter f vs) w'=>w'=w∧Calls P f vs w (zJX B w G K)
 |_=>False

theorem OpOK.same{K:AV→or→Prop}{v:Value}{av:AV}(hH:tU B w G H)(hv:TRel w G v av)(hK:K av H):OpOK P B w G K (.ok (.value v) w):=
 ⟨av,G,H,Ext.refl _ _ _,hH,hv,hK⟩

theorem OpOK.pre{G':Gh}{K:AV→or→Prop}(hE:Ext B w G w G'){r:Result Next}(h:OpOK P B w G' K r):OpOK P B w G K r:=by
 cases r with
 |halt x w'=>exact h
 |ok n w'=>
  cases n with
  |value v=>obtain⟨av,G2,H2,h1,h2⟩:=h;exact⟨av,G2,H2,hE.trans h1,h2⟩
  |skip=>obtain⟨G2,H2,h1,h2⟩:=h;exact⟨G2,H2,hE.trans h1,h2⟩
  |enter f vs=>refine⟨h.1,h.2.mono λe w' he=>?_⟩;obtain⟨v,r,H',G2,h1,h2,h3⟩:=he;exact⟨v,r,H',G2,h1,hE.trans h2,h3⟩
  |_=>exact h.elim

theorem Cr(v:Value):BRel w G v (Cg v):=by unfold Cg;split <;> first|rfl|trivial|exact⟨_,rfl⟩
theorem UE(v:Value):TRel w G v (zF v):=by
 unfold zF;split
 ·rename_i cs;refine⟨cs,rfl,?_⟩;refine All2.of_get (by simp) λi x y hx hy=>?_;rw[bn,hx]at hy;simp at hy;rw[←hy];exact ARel.of_b (Cr x)
 ·exact TRel.of_v (VRel.of_a (ARel.of_b (Cr v)))
theorem zL(v:Value):All2 (ARel w G) v.cells.toList (v7 v):=by
 unfold v7;split
 ·rename_i cs;simp only[Value.cells];refine All2.of_get (by simp) λi x y hx hy=>?_;rw[bn,hx]at hy;simp at hy;rw[←hy];exact ARel.of_b (Cr x)
 ·rename_i h;have:v.cells=#[v]:=by cases v <;> first | rfl | exact absurd rfl (h _)
  rw[this];exact⟨ARel.of_b (Cr v),trivial⟩

theorem uG{a:Act}{F:List AV}(hF:FRel w G a.tmps F)(x:Operand):TRel w G (a.eval x) (ev F x):=by
 cases x with
 |tmp t=>
  unfold Act.eval ev;simp only[];cases h:F[t]? with
  |none=>simp only[aq,h];trivial
  |some b=>
   obtain⟨v,h1,h2⟩:=All2.get hF h;have:a.tmps[t]?=some v:=by simpa using h1
   simp only[aq,h,Option.getD_some,cN,this];exact h2
 |const v=>exact UE v
 |global g=>trivial
 |func f=>exact⟨#[],rfl,trivial⟩

theorem UF{a:Act}{F:List AV}(hF:FRel w G a.tmps F)(xs:List Operand):All2 (TRel w G) (xs.map a.eval) (xs.map (ev F)):=by
 induction xs with
 |nil=>trivial
 |cons x xs ih=>exact⟨uG hF x,ih⟩

theorem UG{t:TypeId}{i:TypeInfo}(h:P.info? t=some i):(typeInfo t).run P w=.ok i w:=by simp[typeInfo,h]
theorem wG{t:TypeId}{n:Nat}(h:uV P t=some n):(sizeOf t).run P w=.ok n w:=by
 unfold uV at h;cases hi:P.info? t with
 |none=>simp[hi]at h
 |some i=>simp[hi]at h;simp[sizeOf,UG hi,h]
theorem Cs{t:TypeId}{z:Value}(h:vW P t=some z):(zeroValue t).run P w=.ok z w:=by
 unfold vW at h;cases hi:P.info? t with
 |none=>simp[hi]at h
 |some i=>simp[hi]at h;simp[zeroValue,UG hi,h]
theorem uY{t:TypeId}{d:TypeDesc}(h:P.underlying t=some d):(underlying t).run P w=.ok d w:=by simp[underlying,h]
theorem Ct{t:TypeId}{g:Bool}(h:y7 P t=some g):(isAgg t).run P w=.ok g w:=by
 unfold y7 at h;cases hu:P.underlying t with
 |none=>simp[hu]at h
 |some d=>simp only[hu,Option.map_some,cK]at h;cases d <;> simp_all [isAgg,uY hu]
theorem wV{t e:TypeId}(h:vD P t=some e):P.underlying t=some (.slice e):=by
 unfold vD at h;cases hu:P.underlying t with
 |none=>simp[hu]at h
 |some d=>simp only[hu,Option.bind_some]at h;cases d <;> simp_all
theorem NK{t:TypeId}(h:y8 P t=some 0):P.underlying t=some .string:=by
 unfold y8 at h;cases hu:P.underlying t with
 |none=>simp[hu]at h
 |some d=>simp only[hu,Option.bind_some]at h;cases d <;> simp_all
theorem Gf{t:TypeId}(h:y8 P t=some 1):∃e,P.underlying t=some (.slice e):=by
 unfold y8 at h;cases hu:P.underlying t with
 |none=>simp[hu]at h
 |some d=>simp only[hu,Option.bind_some]at h;cases d <;> simp_all
theorem UH{t:TypeId}{i:Nat}{f:Field}(h:Ck P t i=some f):∃fs,P.underlying t=some (.struct fs)∧fs[i]?=some f:=by
 unfold Ck at h;cases hu:P.underlying t with
 |none=>simp[hu]at h
 |some d=>simp only[hu,Option.bind_some]at h;cases d <;> simp_all

theorem add_lit(b o n:Nat):Addr.add ⟨b,o,none⟩ n=⟨b,o+n,none⟩:=Addr.add_lit b o n

theorem ARel.oneCell{v:Value}:∀{a:AV},a≠.unk→ARel w G v a→v.oneCell'=true:=by
 intro a fI h;cases a with
 |unk=>exact absurd rfl fI
 |fn f caps=>obtain⟨vs,rfl,_⟩:=h;rfl
 |agg cs=>exact h.elim
 |tup cs=>exact h.elim
 |sl es tok=>
  cases tok with
  |none=>obtain⟨a,cap,rfl,_⟩:=DRel.slice_form h;rfl
  |full=>obtain⟨a,cap,rfl,_⟩:=DRel.slice_form h.1;rfl
  |own id=>obtain⟨a,cap,rfl,_⟩:=DRel.slice_form h.1;rfl
 |bool b=>cases h;rfl
 |int k n=>cases h;rfl
 |str s=>cases h;rfl
 |nilp=>cases h;rfl
 |ZG=>cases h;rfl
 |nilfn=>cases h;rfl
 |nili=>cases h;rfl
 |ifc=>obtain⟨t,x,rfl⟩:=h;rfl
 |flt=>obtain⟨b,rfl⟩:=h;rfl
 |ptr id off=>obtain⟨b,_,rfl⟩:=h;rfl
 |view cs=>obtain⟨b,off,rfl,_⟩:=h;rfl
 |ms id off len cap=>obtain⟨b,_,rfl⟩:=h;rfl
 |ov id n=>obtain⟨⟨a,cap,rfl,_⟩,_⟩:=h;rfl
 |vp id n off=>obtain⟨⟨b,o,rfl⟩,_⟩:=h;rfl
 |os id n lo ft=>obtain⟨⟨_,a,c,rfl,_⟩,_⟩:=h;rfl
 |pf id n hh=>obtain⟨⟨_,a,c,rfl,_⟩,_⟩:=h;rfl
 |map id=>obtain⟨b,_,rfl⟩:=h;rfl

theorem DY{v:Value}{x:AV}{xs:List AV}(h:TRel w G v x)(hx:x.cs?=some xs):All2 (ARel w G) v.cells.toList xs:=by
 have atom:∀{y:AV},y≠.unk→y.cs?=some [y]→ARel w G v y→All2 (ARel w G) v.cells.toList [y]:=by
  intro y fI _ hr;have h1:=ARel.oneCell fI hr;have:v.cells=#[v]:=by cases v <;> first|rfl|simp[Value.oneCell']at h1
  rw[this];exact⟨hr,trivial⟩
 cases x with
 |unk=>simp[AV.cs?]at hx
 |tup vs=>simp[AV.cs?]at hx
 |agg cs=>simp[AV.cs?]at hx;subst hx;obtain⟨vs,rfl,h2⟩:=h;exact h2
 |_=>simp[AV.cs?]at hx;subst hx;exact atom (by simp) rfl h

theorem Gg{v:Value}{e:TypeId}{size n:Nat}{xs:List Value}(h:w.ownsRow B e size v n xs):∃a cap,v=.slice a n cap∧n≤cap:=by
 rcases h.2 with ⟨rfl,rfl⟩|⟨g,cap,cur,rfl,h1,h2,h3,h4⟩
 ·exact⟨none,0,rfl,af _⟩
 ·exact⟨_,cap,rfl,h3⟩

theorem ze{e:TypeId}{size n cap g:Nat}{xs:List Value}(h:w.ownsRow B e size (.slice (some ⟨g,0,none⟩) n cap) n xs):
  xs.length=n*size∧B≤g∧g<w.heap.size∧∀(j:Nat),j<n*size→w.cell? ⟨g,j,none⟩=xs[j]?:=by
 obtain⟨h0,h1⟩:=h;rcases h1 with ⟨h1,_⟩|⟨g',cap',cur,h1,h2,h3,h4,h5,h6,h7⟩
 ·simp at h1
 ·simp at h1;obtain⟨rfl,rfl⟩:=h1;refine⟨h0,h2,(aQ.1 h3).1,λj hj=>?_⟩;rw[←h7];simp only[World.cell?,h3];rw[dF hj];simp


theorem UI{t:TypeId}{g:Bool}{n:Nat}{b off:Nat}{ws:List Value}{cs:List AV}{K:AV→Prop}(hg:y7 P t=some g)(hn:uV P t=some n)(hr:All2 (ARel w G) ws cs)(hc:∀ (j:Nat) v,ws[j]?=some v→w.cell? ⟨b,j,none⟩=some v)(hk:vH g n off cs K):
  ∃v av,(loadVar t ⟨b,off,none⟩).run P w=.ok v w∧TRel w G v av∧K av:=by
 cases g with
 |true=>
  obtain⟨h1,h2⟩:=hk;have hl:=hr.length;have fz:((ws.drop off).take n).length=n:=by simp;omega
  have l8:=run_loadCells_list (P:=P) w ⟨b,off,none⟩ ((ws.drop off).take n) (λj v hj=>by
   rw[add_lit];apply hc;have:j<n:=by have:=(ac.1 hj).1;omega
   rw[bQ]at hj;simp[this]at hj;exact hj)
  rw[fz]at l8;refine⟨.agg ((ws.drop off).take n).toArray,.agg ((cs.drop off).take n),?_,⟨_,rfl,?_⟩,h2⟩
  ·simp[loadVar,Ct hg,wG hn,l8]
  ·simpa using(hr.drop off).take n
 |false=>
  unfold vH at hk;simp only[]at hk;cases jy:cs[off]? with
  |none=>rw[jy]at hk;exact hk.elim
  |some c=>rw[jy]at hk;obtain⟨v,h1,h2⟩:=hr.get jy;refine⟨v,c,?_,TRel.of_v (VRel.of_a h2),hk⟩;simp[loadVar,Ct hg,hc off v h1]

theorem DRel.toB{v:Value}{a:AV}(h:DRel w G.L v a):BRel w G v a:=by
 cases h with
 |bool b=>rfl
 |int k n=>rfl
 |str s=>rfl
 |slE a cap=>exact .slE a cap
 |sl b off cap ft es vs fI fZ hL fP hc hd=>exact .sl b off cap ft es vs fI fZ hL fP hc hd

theorem UJ{t:TypeId}{g:Bool}{n:Nat}{v:Value}{x:AV}{K:AV→or→Prop}(hH:tU B w G H)(hx:TRel w G v x)(hg:y7 P t=some g)(hn:uV P t=some n)(h:tL g n x H (K · H)):∃u,(Instr.loadAt t v).run P w=.ok u w∧∃av,TRel w G u av∧K av H:=by
 rw[Ch]at h;split at h
 ·rename_i id off;obtain⟨b,hμ,rfl⟩:=hx;split at h
  ·rename_i cs f5;have:=hH.ok id _ _ f5 hμ;obtain⟨_,_,vs,e,hw,hr⟩:=this;obtain⟨u,av,h1,h2,h3⟩:=UI (P:=P) (b:=b) (off:=off) (K:=(K · H)) hg hn hr (λj v hj=>by simp[World.cell?,hw];simpa using hj) h;exact⟨u,by simp[Instr.loadAt,Instr.sureAddr,h1],av,h2,h3⟩
  ·exact h.elim
 ·rename_i cs;obtain⟨b,off,rfl,hL,vs,hr,hc⟩:=hx;have jr:All2 (ARel w G) vs cs:=hr.mono λ_ _ hd=>ARel.of_b hd.toB
  -- the cells from 'off' on, read asx a row of their own
  cases g with
  |true=>
   obtain⟨h1,h2⟩:=h;have hl:=hr.length;have fz:(vs.take n).length=n:=by simp;omega
   have l8:=run_loadCells_list (P:=P) w ⟨b,off,none⟩ (vs.take n) (λj v hj=>by
    rw[add_lit];apply hc;rw[bQ]at hj;split at hj
    ·exact hj
    ·simp at hj)
   rw[fz]at l8;refine⟨.agg (vs.take n).toArray,?_,.agg (cs.take n),⟨_,rfl,?_⟩,?_⟩
   ·simp[Instr.loadAt,Instr.sureAddr,loadVar,Ct hg,wG hn,l8]
   ·simpa using jr.take n
   ·simpa using h2
  |false=>
   unfold vH at h;simp only[]at h;cases jy:cs[0]? with
   |none=>rw[jy]at h;exact h.elim
   |some c=>rw[jy]at h;obtain⟨v,h1,h2⟩:=jr.get jy;refine⟨v,?_,c,TRel.of_v (VRel.of_a h2),h⟩;have:=hc 0 v h1;simp at this;simp[Instr.loadAt,Instr.sureAddr,loadVar,Ct hg,this]
 ·rename_i id m off;obtain⟨_,v',size,m',hμ,_,heq⟩:=hx;split at h
  ·rename_i e s m2 cs f5;obtain⟨rfl,h⟩:=h;obtain⟨rfl,rfl,⟨xs,fF,hr⟩,_⟩:=hH.ok id _ _ f5 hμ;obtain⟨g,jz,rfl⟩:=heq rfl;obtain⟨a,cap,rfl,_⟩:=Gg fF;have ha:a=some ⟨g,0,none⟩:=by
    rcases fF.2 with ⟨h1,_⟩|⟨g',cap',cur,h1,_⟩
    ·rw[h1]at jz;cases jz
    ·rw[h1]at jz;simp[Value.ownBlock]at jz;subst jz;simp at h1;exact h1.1
   subst ha;obtain⟨ix,_,_,fR⟩:=ze fF;obtain⟨u,av,h1,h2,h3⟩:=UI (P:=P) (b:=g) (off:=off) (K:=(K · H)) hg hn hr (λj v hj=>by
    rw[fR j (by rw[←ix];exact(ac.1 hj).1)];exact hj) h
   exact⟨u,by simp[Instr.loadAt,Instr.sureAddr,h1],av,h2,h3⟩
  ·exact h.elim
 ·exact h.elim

theorem NL{xs:List Value}{cs:List AV}(h:All2 (ARel w G) xs cs)(hu:∀c∈cs,c≠.unk):∀v∈xs,v.oneCell'=true:=by intro v hv;obtain⟨i,hi⟩:=a8.1 hv;obtain⟨c,h1,h2⟩:=h.get' hi;exact ARel.oneCell (hu c (a8.2 ⟨i,h1⟩)) h2


theorem zPc{t:TypeId}{n:Nat}{v u:Value}{a x:AV}{K:or→Prop}(hH:tU B w G H)(ha:TRel w G v a)(hx:TRel w G u x)(hn:uV P t=some n)(h:ua n a x H K):∃w' H',(Instr.storeAt t v u).run P w=.ok () w'∧Ext B w G w' G∧tU B w' G H'∧K H':=by
 have ones:∀{xs:List AV},All2 (ARel w G) u.cells.toList xs→xs.all AV.ZP=true→∀v∈u.cells.toList,v.oneCell'=true:=λkq h3=>NL kq (λc hc=>by
  have:=aA.1 h3 c hc;intro su;subst su;simp[AV.ZP]at this)
 rw[Ai]at h;split at h
 ·rename_i id off xs kV;obtain⟨b,hμ,rfl⟩:=ha;split at h
  ·rename_i cs f5;obtain⟨⟨h1,h2,h3⟩,hk⟩:=h;obtain⟨hB,_,vs,e,hw,hr⟩:=hH.ok id _ _ f5 hμ;have kq:=DY hx kV;have hl:=hr.length;have mu:=kq.length;have fN:=run_storeCells_at P b off e u.cells.toList 0 vs w hw (by simp at hl mu ⊢;omega) (ones kq h3);simp only[Nat.add_zero]at fN;have mE:All2 (ARel w G) (vs.toList.take off++u.cells.toList++vs.toList.drop (off+u.cells.toList.length)).toArray.toList (cs.take off++xs++cs.drop (off+n)):=by
    have:u.cells.toList.length=n:=by rw[mu];exact h1
    rw[this];simpa using((hr.take off).append kq).append (hr.drop (off+n))
   obtain⟨he,f7⟩:=hH.store f5 hμ hw hB mE;refine⟨_,_,?_,he,f7,hk⟩;have fP:u.cells.size=n:=by simp at mu;omega
   simp[Instr.storeAt,Instr.sureAddr,storeVar,wG hn,fP,fN]
  ·exact h.elim
 ·rename_i id m off xs kV;obtain⟨_,v',size,m',hμ,_,heq⟩:=ha;split at h
  ·rename_i e s m2 cs f5;obtain⟨⟨rfl,h1,h2,h3⟩,hk⟩:=h;obtain⟨rfl,rfl,⟨ys,fF,hr⟩,_⟩:=hH.ok id _ _ f5 hμ;obtain⟨g,jz,rfl⟩:=heq rfl;obtain⟨rG,ic⟩:=fF;rcases ic with ⟨h5,_⟩ | ⟨g',cap,cur,h5,lK,hw,gM,iU,kA,kB⟩
   ·rw[h5]at jz;cases jz
   rw[h5]at jz hμ;simp[Value.ownBlock]at jz;subst jz;have kq:=DY hx kV;have hl:=hr.length;have mu:=kq.length;have rH:u.cells.toList.length=n:=by rw[mu];exact h1
   have hms:m2*s≤cur.size:=by rw[kA];exact aD _ gM
   have fN:=run_storeCells_at P g' off e u.cells.toList 0 cur w hw (by omega) (ones kq h3);simp only[Nat.add_zero]at fN;rw[rH]at fN;have gC:off+n≤m2*s:=by omega
   have gj:(cur.toList.take off++u.cells.toList++cur.toList.drop (off+n)).toArray.toList.take (m2*s)=ys.take off++u.cells.toList++ys.drop (off+n):=by
    rw[←kB];simp only[eM,a7,Array.length_toList,aH,rH];rw[dx,dx,eA,am (l:=u.cells.toList) (by omega)];congr 2
    ·congr 1;omega
    ·congr 1;omega
   obtain⟨he,f7⟩:=hH.storeV (cs':=cs.take off++xs++cs.drop (off+n)) f5 hμ hw lK gM iU (by simp[aH,rH];omega) gj (by simp[rH];omega) (by
    have:=((hr.take off).append kq).append (hr.drop (off+n));simpa using this)
   refine⟨_,_,?_,he,f7,hk⟩;have fP:u.cells.size=n:=by simp at mu;omega
   simp[Instr.storeAt,Instr.sureAddr,storeVar,wG hn,fP,fN]
  ·exact h.elim
 ·exact h.elim

theorem zOM{t:TypeId}{v:Value}{x:AV}{K:AV→or→Prop}(hH:tU B w G H)(hx:TRel w G v x)(h:ul x H K):
  OpOK P B w G K (((do pure (.value (←Instr.box t v))):Sem Next).run P w):=by
 unfold ul at h;split at h
 ·rename_i cs f5;obtain⟨he,f7⟩:=hH.new v.cells t cs (DY hx f5);have fE:((do pure (.value (←Instr.box t v))):Sem Next).run P w=.ok (.value (.pointer (some ⟨w.heap.size,0,none⟩))) (w.alloc (.cells v.cells t)):=by simp[Instr.box,newVar,newRow,World.alloc_eq]
  rw[fE];refine⟨.ptr H.length 0,_,_,he,f7,⟨w.heap.size,?_,rfl⟩,h⟩;rw[←hH.len];simp
 ·exact h.elim
theorem zOI{t:TypeId}{z:Value}{K:AV→or→Prop}(hH:tU B w G H)(hz:vW P t=some z)(h:K (.ptr H.length 0) (H++[.cells (v7 z)])):
  OpOK P B w G K (((do pure (.value (←Instr.alloc t true (.tuple #[])))):Sem Next).run P w):=by
 obtain⟨he,f7⟩:=hH.new z.cells t (v7 z) (zL z);have fE:((do pure (.value (←Instr.alloc t true (.tuple #[])))):Sem Next).run P w=.ok (.value (.pointer (some ⟨w.heap.size,0,none⟩))) (w.alloc (.cells z.cells t)):=by simp[Instr.alloc,Cs hz,newVar,newRow,World.alloc_eq]
 rw[fE];refine⟨.ptr H.length 0,_,_,he,f7,⟨w.heap.size,?_,rfl⟩,h⟩;rw[←hH.len];simp

theorem zOY{s:TypeId}{i:Nat}{f:Field}{n:Nat}{v:Value}{x:AV}{K:AV→Prop}(hx:TRel w G v x)(hf:Ck P s i=some f)(hn:uV P f.type=some (n+1))(h:tN f.offset x K):∃u,(Instr.fieldAt s v i).run P w=.ok u w∧∃av,TRel w G u av∧K av:=by
 obtain⟨fs,hu,mG⟩:=UH hf;rw[Ux]at h;split at h
 ·rename_i id off;obtain⟨b,hμ,rfl⟩:=hx;refine⟨.pointer (some ⟨b,off+f.offset,none⟩),?_,.ptr id (off+f.offset),⟨b,hμ,rfl⟩,h⟩;simp[Instr.fieldAt,uY hu,mG,Instr.sureAddr,fieldPlace,wG hn,add_lit]
 ·rename_i cs;obtain⟨b,off,rfl,hc⟩:=hx;refine⟨.pointer (some ⟨b,off+f.offset,none⟩),?_,.view (cs.drop f.offset),⟨b,_,rfl,hc.drop _ h.1⟩,h.2⟩;simp[Instr.fieldAt,uY hu,mG,Instr.sureAddr,fieldPlace,wG hn,add_lit]
 ·rename_i id m off;obtain⟨⟨b,o,rfl⟩,v',size,m',hμ,fS,heq⟩:=hx;refine⟨.pointer (some ⟨b,o+f.offset,none⟩),?_,.vp id m (off+f.offset),⟨⟨b,_,rfl⟩,v',size,m',hμ,fS,λe=>?_⟩,h⟩
  ·simp[Instr.fieldAt,uY hu,mG,Instr.sureAddr,fieldPlace,wG hn,add_lit]
  ·obtain⟨g,h1,h2⟩:=heq e;simp at h2;exact⟨g,h1,by rw[h2.1,h2.2]⟩
 ·exact h.elim
theorem zPb{t:TypeId}{g:Bool}{n off:Nat}{vs:Array Value}{cs:List AV}{K:AV→Prop}(hr:All2 (ARel w G) vs.toList cs)(hg:y7 P t=some g)(hn:uV P t=some n)(h:vH g n off cs K):∃u,(part t vs off).run P w=.ok u w∧∃av,TRel w G u av∧K av:=by
 cases g with
 |true=>
  obtain⟨h1,h2⟩:=h;refine⟨.agg (vs.extract off (off+n)),by simp[part,Ct hg,wG hn],.agg ((cs.drop off).take n),⟨_,rfl,?_⟩,h2⟩;have:(vs.extract off (off+n)).toList=(vs.toList.drop off).take n:=by rw[Array.toList_extract,List.extract_eq_take_drop];congr 1;omega
  rw[this];exact(hr.drop off).take n
 |false=>
  unfold vH at h;simp only[]at h;cases jy:cs[off]? with
  |none=>rw[jy]at h;exact h.elim
  |some c=>
   rw[jy]at h;obtain⟨v,h1,h2⟩:=hr.get jy;refine⟨v,?_,c,TRel.of_v (VRel.of_a h2),h⟩;have:vs[off]?=some v:=by simpa using h1
   simp[part,Ct hg,this]
theorem zOZ{s:TypeId}{i:Nat}{f:Field}{g:Bool}{n:Nat}{v:Value}{x:AV}{K:AV→Prop}(hx:TRel w G v x)(hf:Ck P s i=some f)(hg:y7 P f.type=some g)(hn:uV P f.type=some n)(h:Nv g n f.offset x K):∃u,(Instr.field s v i).run P w=.ok u w∧∃av,TRel w G u av∧K av:=by
 obtain⟨fs,hu,mG⟩:=UH hf;unfold Nv at h;split at h
 ·rename_i cs;obtain⟨vs,rfl,hr⟩:=hx;obtain⟨u,h1,h2⟩:=zPb (P:=P) hr hg hn h;exact⟨u,by simp[Instr.field,uY hu,mG,asAgg,h1],h2⟩
 ·exact h.elim

theorem DZ{v:Value}{es:List (List AV)}{tok:Tok}(h:TRel w G v (.sl es tok)):DRel w G.L v (.sl es .none):=by
 cases tok with
 |none=>exact h
 |full=>exact h.1
 |own id=>exact h.1

theorem zO1{t e:TypeId}{size:Nat}{v u:Value}{x i:AV}{K:AV→Prop}(hx:TRel w G v x)(hi:TRel w G u i)(he:vD P t=some e)(hn:uV P e=some size)(h:tW size x i K):∃r,(Instr.indexAt t v u).run P w=.ok r w∧∃av,TRel w G r av∧K av:=by
 have hu:=wV he;rw[Ci]at h;split at h
 ·rename_i es tok k n;obtain⟨⟨h0,fy⟩,fP,hk⟩:=h;cases hi;have hd:=DZ hx;have fK:n.toNat<es.length:=by omega
  obtain⟨b,off,cap,rfl,fZ,⟨ft,fX⟩,ja⟩:=hd.elem fK;have hc:=ja n.toNat fK;have gm:es.getD n.toNat []=es[n.toNat]:=by simp[aq,fK]
  rw[gm]at fP hk;rw[fP]at hc;refine⟨.pointer (some ⟨b,off+n.toNat*size,none⟩),?_,.view es[n.toNat],⟨b,_,rfl,hc⟩,hk⟩;simp[Instr.indexAt,asIntOf,uY hu,h0,fy,wG hn,add_lit]
 ·rename_i id off len cap k n;obtain⟨⟨h0,fy⟩,hk⟩:=h;cases hi;obtain⟨b,hμ,rfl⟩:=hx;refine⟨.pointer (some ⟨b,off+n.toNat*size,none⟩),?_,.ptr id (off+n.toNat*size),⟨b,hμ,rfl⟩,hk⟩;simp[Instr.indexAt,asIntOf,uY hu,h0,fy,wG hn,add_lit]
 ·rename_i id m k n;obtain⟨⟨h0,fy⟩,hk⟩:=h;cases hi;obtain⟨⟨a,cap,rfl,ha,_⟩,v',sz,m',hμ,fS,heq⟩:=hx;obtain⟨b,rfl⟩:=ha (by omega);refine⟨.pointer (some ⟨b,0+n.toNat*size,none⟩),?_,.vp id m (n.toNat*size),⟨⟨b,_,rfl⟩,v',sz,m',hμ,fS,λe=>?_⟩,hk⟩
  ·simp[Instr.indexAt,asIntOf,uY hu,h0,fy,wG hn,add_lit]
  ·rw[←heq e];exact⟨b,rfl,by simp⟩
 ·exact h.elim

theorem zO2{t:TypeId}{ar:Nat×TypeId}{size:Nat}{v u:Value}{x i:AV}{K:AV→Prop}(hx:TRel w G v x)(hi:TRel w G u i)(he:Gb P t=some ar)(hn:uV P ar.2=some size)(h:tW size (DM ar.1 x) i K):∃r,(Instr.indexAt t v u).run P w=.ok r w∧∃av,TRel w G r av∧K av:=by
 have hu:P.underlying t=some (.array ar.1 ar.2):=by
  unfold Gb at he;cases hp:P.underlying t with
  |none=>simp[hp]at he
  |some d=>cases d <;> simp[hp]at he <;> subst he <;> rfl
 cases x with
 |ptr id off=>
  rw[DM,Ci]at h;cases i with
  |int k n=>obtain⟨⟨h0,fy⟩,hk⟩:=h;cases hi;obtain⟨b,hμ,rfl⟩:=hx;refine⟨.pointer (some ⟨b,off+n.toNat*size,none⟩),?_,.ptr id (off+n.toNat*size),⟨b,hμ,rfl⟩,hk⟩;simp[Instr.indexAt,Instr.sureAddr,asIntOf,uY hu,h0,fy,wG hn,add_lit]
  |_=>exact h.elim
 |_=>simp only[DM]at h;rw[Ci]at h;exact h.elim

theorem D0(s:List UInt8):(ByteArray.mk s.toArray).size=s.length:=by simp[ByteArray.size]
theorem zPm(s:List UInt8)(i:Nat)(h:i<s.length):(ByteArray.mk s.toArray)[i]?=some s[i]:=by rw[getElem?_pos _ _ (by rw[D0];exact h)];rfl
theorem Cu(s:List UInt8):(ByteArray.mk s.toArray).toList=s:=Go.ByteArray.toList_mk s

theorem zO3{t:TypeId}{v u:Value}{x i:AV}{K:AV→Prop}(hx:TRel w G v x)(hi:TRel w G u i)(ht:y8 P t=some 0)(h:wl x i K):∃r,(Instr.index t v u).run P w=.ok r w∧∃av,TRel w G r av∧K av:=by
 have hu:=NK ht;unfold wl at h;split at h
 ·rename_i s k n;obtain⟨⟨h0,fy⟩,hk⟩:=h;cases hi;cases hx;have fK:n.toNat<s.length:=by omega
  have gm:s.getD n.toNat 0=s[n.toNat]:=by simp[aq,fK]
  rw[gm]at hk;refine⟨.int .u8 s[n.toNat].toNat,?_,.int .u8 s[n.toNat].toNat,rfl,hk⟩;simp[Instr.index,asIntOf,uY hu,h0,zPm s _ fK]
 ·exact h.elim

theorem zO4{t:TypeId}{k:Nat}{v:Value}{x:AV}{ty:TypeId}{K:AV→Prop}(hx:TRel w G v x)(ht:y8 P t=some k)(h:tV k x K):∃r,(Builtin.len_ #[t] ty #[v]).run P w=.ok r w∧∃av,TRel w G r av∧K av:=by
 rw[zKj]at h;split at h
 ·rename_i s;cases hx;exact⟨.int .i64 s.length,by simp[Builtin.len_,uY (NK ht),goInt,D0],.int .i64 s.length,rfl,h⟩
 ·rename_i es tok;obtain⟨e,hu⟩:=Gf ht;obtain⟨a,cap,rfl,_⟩:=(DZ hx).slice_form;exact⟨.int .i64 es.length,by simp[Builtin.len_,uY hu,goInt],.int .i64 es.length,rfl,h⟩
 ·obtain⟨e,hu⟩:=Gf ht;cases hx;exact⟨.int .i64 0,by simp[Builtin.len_,uY hu,goInt],.int .i64 0,rfl,h⟩
 ·rename_i len _;obtain⟨e,hu⟩:=Gf ht;obtain⟨b,hμ,rfl⟩:=hx;exact⟨.int .i64 len,by simp[Builtin.len_,uY hu,goInt],.int .i64 len,rfl,h⟩
 ·rename_i _ n;obtain⟨e,hu⟩:=Gf ht;obtain⟨⟨a,cap,rfl,_⟩,_⟩:=hx;exact⟨.int .i64 n,by simp[Builtin.len_,uY hu,goInt],.int .i64 n,rfl,h⟩
 ·exact h.elim

end
section
open Go.RowKit

variable {P:Program} {B:Nat} {w:World} {G:Gh} {H:or}

theorem zf{x:Option Value}{ax:Option AV}{d:Nat}{K:Nat→Prop}(hx:All2 (TRel w G) x.toList ax.toList)(h:wn ax d K):
  ∃l,((x=none∧l=d)∨∃k n,x=some (.int k n)∧0≤n∧l=n.toNat)∧K l:=by
 cases ax with
 |none=>
  cases x with
  |none=>exact⟨d,.inl ⟨rfl,rfl⟩,h⟩
  |some v=>simp[All2]at hx
 |some a=>
  cases x with
  |none=>simp[All2]at hx
  |some v=>
   have hv:TRel w G v a:=hx.1;unfold wn at h;cases a <;> first|exact h.elim|skip
   rename_i k n;cases hv;exact⟨n.toNat,.inr ⟨k,n,rfl,h.1,rfl⟩,h.2⟩

theorem DRel.sub{v:Value}{es:List (List AV)}{l h:Nat}(hd:DRel w G.L v (.sl es .none))(hl:l≤h)(hh:h≤es.length){a:Option Addr}{cap:Nat}(size:Nat)(hv:v=.slice a es.length cap)(fP:∀ c∈es,c.length=size):
  DRel w G.L (.slice (if cap=l then a else a.map (·.add (l*size))) (h-l) (cap-l)) (.sl ((es.take h).drop l) .none):=by
 by_cases hlh:l=h
 ·subst hlh;have:(es.take l).drop l=[]:=by apply ch;simp;omega
  rw[this,dG];exact .slE _ _
 ·cases hd with
  |slE a' cap'=>simp at hh;omega
  |sl b off cap' ft _ vs fI fZ hL iJ hc jA=>
   cases hv;have gN:cap≠l:=by omega
   have h0:0<es.length:=by omega
   have pg:ft=size:=by rw[←iJ 0 h0];exact fP _ (ae h0)
   subst pg;have fz:((es.take h).drop l).length=h-l:=by simp;omega
   simp only[gN,ba,Option.map_some,add_lit];have fJ:∀i (hi:i<((es.take h).drop l).length),((es.take h).drop l)[i]=es[l+i]'(by rw[fz]at hi;omega):=by intro i hi;simp
   have key:DRel w G.L (.slice (some ⟨b,off+l*ft,none⟩) ((es.take h).drop l).length (cap-l)) (.sl ((es.take h).drop l) .none):=by
    refine .sl b (off+l*ft) (cap-l) ft _ (λi j=>vs (l+i) j) ?_ (by rw[fz];omega) ?_ ?_ ?_ ?_
    ·intro ph;rw[ph]at fz;simp at fz;omega
    ·rw[fz];have h1:l*ft+(h-l)*ft=h*ft:=by rw[←bp];congr 1;omega
     have h2:h*ft≤es.length*ft:=aD _ hh;omega
    ·intro i hi;rw[fJ i hi];exact iJ _ _
    ·intro i j hi hj;rw[fz]at hi;have:=hc (l+i) j (by omega) (by rw[fJ i (by rw[fz];exact hi)]at hj;exact hj);rw[show off+l*ft+i*ft+j=off+(l+i)*ft+j by rw[bp];omega];exact this
    ·intro i j hi hj;have jB:=hi;rw[fz]at jB;have:=jA (l+i) j (by omega) (by rw[fJ i hi]at hj;exact hj);simpa[fJ i hi]using this
   rw[fz]at key;exact key

theorem Cv{isS:Bool}{len cap:Nat}{lo hi:Option Value}{l h:Nat}(kW:(hi=none∧h=len)∨∃ k n,hi=some (.int k n)∧0≤n∧h=n.toNat)(gR:(lo=none∧l=0)∨∃ k n,lo=some (.int k n)∧0≤n∧l=n.toNat)(hl:l≤h)(hh:h≤cap):
  (Instr.sliceBounds isS len cap lo hi none).run P w=.ok (l,h,cap) w:=by
 rcases kW with ⟨rfl,rfl⟩|⟨k,n,rfl,hn,rfl⟩ <;> rcases gR with ⟨rfl,rfl⟩|⟨k',m,rfl,hm,rfl⟩
 ·simp[Instr.sliceBounds]
 ·have:m≤(h:Int):=by omega
  simp[Instr.sliceBounds,Instr.sliceBound,asIntOf,hm,this]
 ·have:n≤(cap:Int):=by omega
  simp[Instr.sliceBounds,Instr.sliceBound,asIntOf,hn,this]
 ·have h1:n≤(cap:Int):=by omega
  have h2:m≤((n.toNat:Nat):Int):=by omega
  simp[Instr.sliceBounds,Instr.sliceBound,asIntOf,hn,h1,hm];try omega

theorem zPl(s:List UInt8)(l h:Nat):(ByteArray.mk s.toArray).extract l h=⟨((s.take h).drop l).toArray⟩:=by apply ByteArray.ext;simp[ByteArray.data_extract,eA]

theorem UK{t:TypeId}{u size:Nat}{v:Value}{x:AV}{lo hi:Option Value}{alo ahi:Option AV}{K:AV→Prop}(hx:TRel w G v x)(gR:All2 (TRel w G) lo.toList alo.toList)(kW:All2 (TRel w G) hi.toList ahi.toList)(ht:y8 P t=some u)(hs:u=1→(vD P t).bind (uV P)=some size)(h:uF u size x alo ahi K):∃r,(Instr.sliceAt t v lo hi none).run P w=.ok r w∧∃av,TRel w G r av∧K av:=by
 unfold uF at h;split at h
 ·rename_i s;have hu:=NK ht;cases hx;obtain⟨hh,nI,h⟩:=zf kW h;obtain⟨ll,nY,⟨h1,h2⟩,hk⟩:=zf gR h;refine⟨.string ⟨((s.take hh).drop ll).toArray⟩,?_,.str ((s.take hh).drop ll),rfl,hk⟩;have hb:=Cv (P:=P) (w:=w) (isS:=false) (len:=s.length) (cap:=s.length) nI nY h1 h2;simp only[Instr.sliceAt,Instr.slice,Sem.run_bind,uY hu,Result.andThen_ok,D0,hb,Option.isSome_none,aK,ba,Sem.run_pure,zPl]
 ·rename_i es tok;obtain⟨hh,nI,h⟩:=zf kW h;obtain⟨ll,nY,⟨h1,h2,h3⟩,hk⟩:=zf gR h;have hs:=hs rfl;cases he:vD P t with
  |none=>simp[he]at hs
  |some e=>
   simp only[he,Option.bind_some]at hs;have hd:=DZ hx;obtain⟨a,cap,rfl,fZ⟩:=hd.slice_form;have hcap':hh≤cap:=by
    by_cases fI:es=[]
    ·subst fI;simp at h2;omega
    ·have:=fZ fI;omega
   have hb:=Cv (P:=P) (w:=w) (isS:=true) (len:=es.length) (cap:=cap) nI nY h1 hcap';have kX:=hd.sub h1 h2 size rfl h3;refine⟨_,?_,.sl ((es.take hh).drop ll) .none,kX,hk⟩;simp only[Instr.sliceAt,Instr.slice,Sem.run_bind,uY (wV he),Result.andThen_ok,hb,Sem.run_pure,wG hs]
 ·obtain⟨hh,nI,h⟩:=zf kW h;obtain⟨ll,nY,⟨h1,h2⟩,hk⟩:=zf gR h;have hs:=hs rfl;cases he:vD P t with
  |none=>simp[he]at hs
  |some e=>
   simp only[he,Option.bind_some]at hs;cases hx;have hb:=Cv (P:=P) (w:=w) (isS:=true) (len:=0) (cap:=0) nI nY h1 h2;refine⟨.slice none 0 0,?_,.ZG,rfl,hk⟩;have:ll=0:=by omega
   subst this;have:hh=0:=by omega
   subst this;simp[Instr.sliceAt,Instr.slice,Sem.run_bind,uY (wV he),hb,wG hs]
 ·rename_i id n;unfold Cj at h;split at h
  ·rename_i j m;obtain⟨⟨iG,hmn⟩,hk⟩:=h;have hs:=hs rfl;obtain rfl:lo=none:=by
    cases lo with
    |none=>rfl
    |some _=>exact gR.elim
   obtain rfl:hi=some (.int j m):=by
    cases hi with
    |none=>exact kW.elim
    |some hv=>obtain⟨gU,_⟩:=kW;cases gU;rfl
   cases he:vD P t with
   |none=>simp[he]at hs
   |some e=>
    simp only[he,Option.bind_some]at hs;obtain⟨⟨a,cap,rfl,ha,oJ⟩,v',sz,n',hμ,fS,heq⟩:=hx;have hb:=Cv (P:=P) (w:=w) (isS:=true) (len:=n) (cap:=cap) (lo:=none) (hi:=some (.int j m)) (l:=0) (h:=m.toNat) (.inr ⟨j,m,rfl,iG,rfl⟩) (.inl ⟨rfl,rfl⟩) (bM _) (by omega);refine⟨.slice a m.toNat cap,?_,.pf id n m.toNat,⟨⟨by omega,a,cap,rfl,by omega⟩,v',sz,n',hμ,fS,λe=>⟨a,cap,(heq e).symm,rfl⟩⟩,hk⟩;simp only[Instr.sliceAt,Instr.slice,Sem.run_bind,uY (wV he),Result.andThen_ok,hb,Sem.run_pure,wG hs];cases a with
    |none=>simp
    |some a=>simp[Addr.add]
  obtain⟨hh,nI,h⟩:=zf kW h;obtain⟨ll,nY,⟨h1,rfl⟩,hk⟩:=zf gR h;have hs:=hs rfl;cases he:vD P t with
  |none=>simp[he]at hs
  |some e=>
   simp only[he,Option.bind_some]at hs;obtain⟨⟨a,cap,rfl,ha,oJ⟩,v',sz,n',hμ,fS,heq⟩:=hx;have hb:=Cv (P:=P) (w:=w) (isS:=true) (len:=hh) (cap:=cap) nI nY h1 oJ;refine⟨Cf size ll (.slice a hh cap),?_,.os id hh ll size,⟨⟨h1,?_⟩,v',sz,n',hμ,fS,λe=>by rw[←heq e]⟩,hk⟩
   ·simp only[Instr.sliceAt,Instr.slice,Sem.run_bind,uY (wV he),Result.andThen_ok,hb,Sem.run_pure,wG hs];cases a with
    |none=>simp[Cf]
    |some a=>by_cases hc:cap=ll <;> simp[Cf,hc]
   ·cases a with
    |none=>exact⟨none,cap-ll,rfl,by omega⟩
    |some a=>exact⟨_,cap-ll,rfl,by omega⟩
 ·rename_i id off len cap;obtain⟨hh,nI,h⟩:=zf kW h;obtain⟨ll,nY,⟨h1,h2⟩,hk⟩:=zf gR h;have hs:=hs rfl;cases he:vD P t with
  |none=>simp[he]at hs
  |some e=>simp only[he,Option.bind_some]at hs;obtain⟨b,hμ,rfl⟩:=hx;have hb:=Cv (P:=P) (w:=w) (isS:=true) (len:=len) (cap:=cap) nI nY h1 h2;refine⟨.slice (some ⟨b,if cap=ll then off else off+ll*size,none⟩) (hh-ll) (cap-ll),?_,.ms id (if cap=ll then off else off+ll*size) (hh-ll) (cap-ll),⟨b,hμ,rfl⟩,hk⟩;simp only[Instr.sliceAt,Instr.slice,Sem.run_bind,uY (wV he),Result.andThen_ok,hb,Sem.run_pure,wG hs];by_cases hc:cap=ll <;> simp[hc,add_lit]
 ·exact h.elim

theorem zNY{op:BinOp}{t:TypeId}{x y:Operand}{k:IntKind}{m:Int}{b:Value}:(eqGuard op t x y (.int k m) b).run P w=.ok () w:=by cases op <;> rfl
theorem zNZ{op:BinOp}{t:TypeId}{x y:Operand}{s:ByteArray}{b:Value}:(eqGuard op t x y (.string s) b).run P w=.ok () w:=by cases op <;> rfl
theorem zNX{op:BinOp}{t:TypeId}{x y:Operand}{m:Bool}{b:Value}:(eqGuard op t x y (.bool m) b).run P w=.ok () w:=by cases op <;> rfl

def BinR(P:Program)(w:World)(G:Gh)(op:BinOp)(t:TypeId)(u v:Value)(K:AV→Prop):Prop:=∃r,(binOp op t u v).run P w=.ok r w∧∃av,TRel w G r av∧K av
theorem BinR.mk{op:BinOp}{t:TypeId}{u v r:Value}{K:AV→Prop}(av:AV)(h:(binOp op t u v).run P w=.ok r w)(hr:TRel w G r av)(hk:K av):BinR P w G op t u v K:=⟨r,h,av,hr,hk⟩
theorem zKS{op:BinOp}{t:TypeId}{k:IntKind}{m n:Int}{b:Bool}{K:AV→Prop}(h:gt op b (.int k m) (.int k n) K):BinR P w G op t (.int k m) (.int k n) K:=by
 rw[xj]at h;have h:=h.2;cases op <;> simp only[]at h <;> first|exact h.elim|skip
 case add=>exact BinR.mk (.int k (k.wrap (m+n))) (by simp[binOp,Op.intArith]) rfl h
 case sub=>exact BinR.mk (.int k (k.wrap (m-n))) (by simp[binOp,Op.intArith]) rfl h
 case mul=>exact BinR.mk (.int k (k.wrap (m*n))) (by simp[binOp,Op.intArith]) rfl h
 case quo=>exact BinR.mk (.int k (k.wrap (m.tdiv n))) (by simp[binOp,Op.intDiv,h.1]) rfl h.2
 case rem=>exact BinR.mk (.int k (m.tmod n)) (by simp[binOp,Op.intDiv,h.1]) rfl h.2
 case eql=>exact BinR.mk (.bool (m == n)) (by simp[binOp,Op.intCmp]) rfl h
 case neq=>exact BinR.mk (.bool (m != n)) (by simp[binOp,Op.intCmp]) rfl h
 case lss=>exact BinR.mk (.bool (decide (m<n))) (by simp[binOp,Op.intCmp]) rfl h
 case leq=>exact BinR.mk (.bool (decide (m≤n))) (by simp[binOp,Op.intCmp]) rfl h
 case gtr=>exact BinR.mk (.bool (decide (m>n))) (by simp[binOp,Op.intCmp]) rfl h
 case geq=>exact BinR.mk (.bool (decide (m≥n))) (by simp[binOp,Op.intCmp]) rfl h
theorem zKT{op:BinOp}{t:TypeId}{s s':List UInt8}{b:Bool}{K:AV→Prop}(h:gt op b (.str s) (.str s') K):BinR P w G op t (.string ⟨s.toArray⟩) (.string ⟨s'.toArray⟩) K:=by
 rw[xj]at h;cases op <;> simp only[]at h <;> first|exact h.elim|skip
 case add=>
  obtain⟨h1,h2⟩:=h;refine BinR.mk (r:=.string ⟨(s++s').toArray⟩) (.str (s++s')) ?_ rfl h2;have fy:¬((((ByteArray.mk s.toArray).size+(ByteArray.mk s'.toArray).size:Nat):Int)>IntKind.i64.max):=by
   have:IntKind.i64.max=9223372036854775807:=by decide
   rw[D0,D0];omega
  have happ:(ByteArray.mk s.toArray)++(ByteArray.mk s'.toArray)=⟨(s++s').toArray⟩:=by apply ByteArray.ext;simp
  simp only[binOp,Op.stringOp];rw[aG fy,happ];rfl
 case eql=>exact BinR.mk (r:=.bool (s == s')) (.bool (s == s')) (by simp only[binOp,Op.stringOp,Cu];rfl) rfl h
 case neq=>exact BinR.mk (r:=.bool (!(s == s'))) (.bool (!(s == s'))) (by simp only[binOp,Op.stringOp,Cu];rfl) rfl h
 case lss=>exact BinR.mk (r:=.bool (Op.bytesLess s s')) (.bool (Op.bytesLess s s')) (by simp only[binOp,Op.stringOp,Cu];rfl) rfl h
 case leq=>exact BinR.mk (r:=.bool (Op.bytesLess s s' || s == s')) (.bool (Op.bytesLess s s' || s == s')) (by simp only[binOp,Op.stringOp,Cu];rfl) rfl h
 case gtr=>exact BinR.mk (r:=.bool (!(Op.bytesLess s s' || s == s'))) (.bool (!(Op.bytesLess s s' || s == s'))) (by simp only[binOp,Op.stringOp,Cu];rfl) rfl h
 case geq=>exact BinR.mk (r:=.bool (!Op.bytesLess s s')) (.bool (!Op.bytesLess s s')) (by simp only[binOp,Op.stringOp,Cu];rfl) rfl h
theorem zKR{op:BinOp}{t:TypeId}{m n b:Bool}{K:AV→Prop}(hu:b=true→P.underlying t=some .bool)(h:gt op b (.bool m) (.bool n) K):BinR P w G op t (.bool m) (.bool n) K:=by
 rw[xj]at h;have hu:=hu h.1;have h:=h.2;have he:∀x y:Bool,(Op.equal t (.bool x) (.bool y)).run P w=.ok (x == y) w:=λx y=>by have hm:Op.equal t (.bool x) (.bool y)=Op.equalIn (9999+1) t (.bool x) (.bool y):=rfl;rw[hm];unfold Op.equalIn;simp only[Sem.run_bind,uY hu,Result.andThen_ok,Sem.run_pure]
 cases op <;> simp only[]at h <;> first|exact h.elim|skip
 case eql=>exact BinR.mk (.bool (m == n)) (by simp only[binOp,Sem.run_bind,he,Result.andThen_ok,Sem.run_pure]) rfl h
 case neq=>exact BinR.mk (.bool (!(m == n))) (by simp only[binOp,Sem.run_bind,he,Result.andThen_ok,Sem.run_pure]) rfl h

theorem zOK{op:BinOp}{t:TypeId}{xo yo:Operand}{u v:Value}{x y:AV}{K:AV→Prop}(hx:TRel w G u x)(hy:TRel w G v y)(h:gt op (NA P t) x y K):
  ∃r,((do eqGuard op t xo yo u v;binOp op t u v):Sem Value).run P w=.ok r w∧∃av,TRel w G r av∧K av:=by
 have h0:=h;rw[xj]at h;split at h
 ·cases hx;cases hy;have hk:=h.1;subst hk;obtain⟨r,h1,h2⟩:=zKS (P:=P) (w:=w) (G:=G) (t:=t) h0;exact⟨r,by rw[Sem.run_bind,zNY];exact h1,h2⟩
 ·cases hx;cases hy;obtain⟨r,h1,h2⟩:=zKT (P:=P) (w:=w) (G:=G) (t:=t) h0;exact⟨r,by rw[Sem.run_bind,zNZ];exact h1,h2⟩
 ·cases hx;cases hy;obtain⟨r,h1,h2⟩:=zKR (P:=P) (w:=w) (G:=G) (t:=t) (λhb=>by
   unfold NA at hb;split at hb
   ·assumption
   ·cases hb) h0
  exact⟨r,by rw[Sem.run_bind,zNX];exact h1,h2⟩
 ·exact h.elim

theorem zO9{op:BinOp}{t:TypeId}{xo yo:Operand}{u:Value}{x:AV}{a:Act}{K:AV→Prop}(hx:TRel w G u x)(hy:Nw yo=true)(h:Uy (Nz P t) op x K):
  ∃r,((do eqGuard op t xo yo u (a.eval yo);binOp op t u (a.eval yo)):Sem Value).run P w=.ok r w∧∃av,TRel w G r av∧K av:=by
 obtain⟨ht,h⟩:=h;obtain⟨ms,hu⟩:∃ms,P.underlying t=some (.interface ms):=by
  unfold Nz at ht;split at ht
  ·exact⟨_,by assumption⟩
  ·cases ht
 obtain rfl:yo=.const .nilIface:=by
  unfold Nw at hy;split at hy
  ·rfl
  ·cases hy
 have he:a.eval (.const .nilIface)=.nilIface:=rfl;rw[he];split at h
 ·cases hx;have hq:∀ d:Nat,(Op.equalIn (d+1) t .nilIface .nilIface).run P w=.ok true w:=λd=>by simp[Op.equalIn,uY hu]
  have hg:∀op,eqGuard op t xo (.const .nilIface) .nilIface .nilIface=pure ():=λop=>eqGuard_nil_constR _ _ _ _;split at h
  ·exact⟨.bool true,by rw[hg];simp only[binOp];simp[Op.equal,Op.maxDepth,hq 9999],.bool true,rfl,h⟩
  ·exact⟨.bool false,by rw[hg];simp only[binOp];simp[Op.equal,Op.maxDepth,hq 9999],.bool false,rfl,h⟩
  ·exact h.elim
 ·obtain⟨ti,xi,rfl⟩:=hx;have hq:∀ d:Nat,(Op.equalIn (d+1) t (.iface ti xi) .nilIface).run P w=.ok false w:=λd=>by simp[Op.equalIn,uY hu]
  have hg:∀op,eqGuard op t xo (.const .nilIface) (.iface ti xi) .nilIface=pure ():=λop=>eqGuard_at_iface _ _ _ _ _ _ _;split at h
  ·exact⟨.bool false,by rw[hg];simp only[binOp];simp[Op.equal,Op.maxDepth,hq 9999],.bool false,rfl,h⟩
  ·exact⟨.bool true,by rw[hg];simp only[binOp];simp[Op.equal,Op.maxDepth,hq 9999],.bool true,rfl,h⟩
  ·exact h.elim
 ·exact h.elim

theorem zPd{op:UnOp}{v:Value}{x:AV}{K:AV→Prop}(hx:TRel w G v x)(h:aUn op x K):∃r,(Op.unary op v).run P w=.ok r w∧∃av,TRel w G r av∧K av:=by
 unfold aUn at h;split at h
 ·cases hx;exact⟨_,by simp[Op.unary],.bool _,rfl,h⟩
 ·cases hx;exact⟨_,by simp[Op.unary,Op.intArith],.int _ _,rfl,h⟩
 ·exact h.elim
theorem zOR{s t:TypeId}{j k:IntKind}{v:Value}{x:AV}{K:AV→Prop}(hx:TRel w G v x)(hs:P.underlying s=some (.int j))(ht:P.underlying t=some (.int k))(h:uw k x K):
  ∃r,(convert s t v).run P w=.ok r w∧∃av,TRel w G r av∧K av:=by
 unfold uw at h;split at h
 ·cases hx;exact⟨_,by simp[convert,uY hs,uY ht,Conv.intToInt],.int _ _,rfl,h⟩
 ·exact h.elim
theorem zOT{s t:TypeId}{v:Value}{x:AV}{K:AV→Prop}(hx:TRel w G v x)(hs:P.underlying s=some .string)(ht:P.underlying t=some .string)(h:Nx x K):
  ∃r,(convert s t v).run P w=.ok r w∧∃av,TRel w G r av∧K av:=by
 unfold Nx at h;split at h
 ·cases hx;exact⟨_,by simp[convert,uY hs,uY ht],.str _,rfl,h⟩
 ·exact h.elim
theorem zOV{v:Value}{x:AV}{i:Nat}{K:AV→Prop}(hx:TRel w G v x)(h:uo x i K):∃r,(Instr.extract v i).run P w=.ok r w∧∃av,TRel w G r av∧K av:=by
 unfold uo at h;split at h
 ·obtain⟨vs,rfl,hr⟩:=hx;split at h
  ·rename_i a ha;obtain⟨u,h1,h2⟩:=hr.get ha;have:vs[i]?=some u:=by simpa using h1
   exact⟨u,by simp[Instr.extract,this],a,TRel.of_v h2,h⟩
  ·exact h.elim
 ·exact h.elim

end
section
open Go.RowKit

variable {P:Program} {B:Nat} {w:World} {G:Gh} {H:or}

theorem zPe(l:List Value)(k:Nat)(v:Value)(rest:List Value)(hk:k+(rest.length+1)≤l.length):
  (l.set k v).take (k+1)++rest++(l.set k v).drop (k+1+rest.length)=l.take k++(v::rest)++l.drop (k+(rest.length+1)):=list_seg_step l k v rest hk

theorem UM(off:Nat):∀ (vs:List Value) (k:Nat) (cs:Array Value),off+k+vs.length≤cs.size →
  ((vs.zipIdx k).foldl (λ(cs:Array Value) (p:Value×Nat)=>cs.setIfInBounds (off+p.2) p.1) cs).toList=cs.toList.take (off+k)++vs++cs.toList.drop (off+k+vs.length)
 |[],k,cs,h=>by simp
 |v::vs,k,cs,h=>by simp only[List.zipIdx_cons,List.foldl_cons];rw[UM off vs (k+1) (cs.setIfInBounds (off+k) v) (by simp at h ⊢;omega)];have:=zPe cs.toList (off+k) v vs (by simp at h ⊢;omega);simpa[cQ,aa]using this

theorem UN(off:Nat)(vs cs:Array Value)(h:off+vs.size≤cs.size):
  (vs.zipIdx.foldl (λcs (c,j)=>cs.setIfInBounds (off+j) c) cs).toList=cs.toList.take off++vs.toList++cs.toList.drop (off+vs.size):=by
 have:=UM off vs.toList 0 cs (by simpa using h);simp only[Nat.add_zero,Array.length_toList]at this;rw[←this,←Array.foldl_toList,Array.toList_zipIdx]

theorem UO{places:List (Nat × Nat)}:∀ (fq:List (Nat × Value)) (fw:List (Nat × AV)) (cells:Array Value) (cs cs':List AV),
  All2 (λ(p:Nat×Value) (q:Nat×AV)=>p.1=q.1∧TRel w G p.2 q.2) fq fw→All2 (ARel w G) cells.toList cs→uv places fw cs=some cs' →
  ∃cells',Instr.fill (places.toArray[·]?) cells fq=some cells'∧All2 (ARel w G) cells'.toList cs'
 |[],[],cells,cs,cs',_,hc,hf=>by simp[uv]at hf;subst hf;exact⟨cells,rfl,hc⟩
 |(i,v)::fq,(i',x)::fw,cells,cs,cs',hp,hc,hf=>by
  obtain⟨⟨h1,h2⟩,h3⟩:=hp;simp only[]at h1 h2;subst h1;unfold uv at hf;split at hf
  ·rename_i off size xs gQ kV;split at hf
   ·rename_i hb;simp only[ap,bt,bc]at hb;have kq:=DY h2 kV;have mu:=kq.length;have sv:=hc.length;simp at mu sv;have gC:off+v.cells.size≤cells.size:=by omega
    have nJ:=UN off v.cells cells gC;have mE:All2 (ARel w G) (v.cells.zipIdx.foldl (λcs (c,j)=>cs.setIfInBounds (off+j) c) cells).toList (cs.take off++xs++cs.drop (off+size)):=by rw[nJ,mu,hb.1];exact((hc.take off).append kq).append (hc.drop (off+size))
    obtain⟨cells',gM,iU⟩:=UO fq fw _ _ cs' h3 mE hf;refine⟨cells',?_,iU⟩;unfold Instr.fill;have hpl':places.toArray[i]?=some (off,size):=by simpa using gQ
    simp only[hpl'];rw[aG (by simp;omega)];exact gM
   ·cases hf
  ·cases hf

theorem zNg(fs:List Field):(fs.mapM λf=>(uV P f.type).map λs=>(f.offset,s))=fs.mapM (λf=>(P.info? f.type).map λi=>(f.offset,i.size)):=by congr 1;funext f;simp[uV,Function.comp_def]

theorem UP{n s:Nat}:∀ (fq:List (Nat × Value)) (cells cells':Array Value),Instr.fill (((List.range n).map λi=>(i*s,s)).toArray[·]?) cells fq=some cells'→some cells'=Instr.fill (λi=>some (i*s,s)) cells fq
 |[],cells,cells',h=>h.symm
 |(i,v)::fq,cells,cells',h=>by
  unfold Instr.fill at h ⊢;by_cases hi:i<n
  ·have e:((List.range n).map λi=>(i*s,s)).toArray[i]?=some (i*s,s):=by simp[hi]
   rw[e]at h;simp only[]at h ⊢;split at h
   ·cases h
   ·rename_i hc;rw[aG hc];exact UP fq _ _ h
  ·have e:((List.range n).map λi=>(i*s,s)).toArray[i]?=none:=by simp;omega
   rw[e]at h;cases h
theorem zON{t:TypeId}{z:Value}{ps:List (Nat × Nat)}{fq:Array (Nat × Value)}{fw:List (Nat × AV)}{K:AV→Prop}(hz:vW P t=some z)(hp:NB P t=some ps)(hr:All2 (λ(p:Nat × Value) (q:Nat × AV)=>p.1=q.1∧TRel w G p.2 q.2) fq.toList fw)(h:ug (v7 z) ps fw K):
  ∃r,(Instr.build t fq).run P w=.ok r w∧∃av,TRel w G r av∧K av:=by
 unfold ug at h;split at h
 ·rename_i cs' hf;obtain⟨cells',h1,h2⟩:=UO fq.toList fw z.cells (v7 z) cs' hr (zL z) hf;refine⟨.agg cells',run_build w t fq cells' ?_,.agg cs',⟨cells',rfl,h2⟩,h⟩;unfold Program.built;unfold vW at hz;cases hi:P.info? t with
  |none=>simp[hi]at hz
  |some it=>
   simp[hi]at hz;unfold NB at hp;cases hu:P.underlying t with
   |none=>simp[hu]at hp
   |some d=>
    cases d;case struct fs=>simp only[hu,Option.bind_some]at hp;rw[zNg]at hp;simp only[hz,hp];exact h1
    case array n e=>
     simp only[hu,Option.bind_some]at hp;cases sw:P.info? e with
     |none=>simp[uV,sw]at hp
     |some ie=>simp[uV,sw]at hp;simp only[hz,sw];exact(UP (n:=n) (s:=ie.size) _ _ _ (by rw[hp];exact h1)).symm
    all_goals (simp only[hu,Option.bind_some]at hp;cases hp)
 ·exact h.elim

theorem zNe{v:Value}{a d:AV}(h:ARel w G v a)(hd:a.pd=some d):DRel w G.L v d:=by
 cases a with
 |bool b=>cases hd;cases h;exact .bool b
 |int k n=>cases hd;cases h;exact .int k n
 |str s=>cases hd;cases h;exact .str s
 |ZG=>cases hd;cases h;exact .slE _ _
 |sl es tok=>
  cases hd;cases tok with
  |none=>exact h
  |full=>exact h.1
  |own id=>exact h.1
 |_=>cases hd
theorem Ap:∀ {vs:List Value} {asx ds:List AV},All2 (ARel w G) vs asx→plain asx=some ds→All2 (DRel w G.L) vs ds
 |[],[],ds,_,h=>by cases h;trivial
 |v::vs,a::asx,ds,hr,h=>by
  unfold plain at h;split at h
  ·rename_i d ds' h1 h2;cases h;exact⟨zNe hr.1 h1,Ap hr.2 h2⟩
  ·cases h
theorem UQ:∀ {asx ds:List AV},plain asx=some ds→ds.length=asx.length
 |[],ds,h=>by cases h;rfl
 |a::asx,ds,h=>by
  unfold plain at h;split at h
  ·rename_i d ds' h1 h2;cases h;simp[UQ h2]
  ·cases h

theorem D3{size:Nat}:∀ {es:List (List AV)},(∀ c∈es,c.length=size)→es.flatten.length=es.length*size
 |[],_=>by simp
 |e::es,h=>by rw[List.flatten_cons,aH,D3 (λc hc=>h c (by simp[hc])),h e (by simp),List.length_cons,bp];omega
theorem D4{size:Nat}:∀ {es:List (List AV)},(∀ c∈es,c.length=size)→∀ (i j:Nat) (hi:i<es.length) (hj:j<(es[i]).length),es.flatten[i*size+j]?=some (es[i])[j]
 |[],_,i,_,hi,_=>by simp at hi
 |e::es,h,0,j,hi,hj=>by simp only[List.getElem_cons_zero]at hj ⊢;rw[List.flatten_cons,ah (by omega)];simp[hj]
 |e::es,h,i+1,j,hi,hj=>by simp only[List.getElem_cons_succ]at hj ⊢;have he:=h e (by simp);have:=D4 (es:=es) (λc hc=>h c (by simp[hc])) i j (by simpa using hi) hj;rw[List.flatten_cons,aM (by rw[he,bp];omega),he];rw[show (i+1)*size+j-size=i*size+j by rw[bp];omega];exact this

theorem DRel.of_flat{L:Nat→Nat}{g size cap:Nat}{es:List (List AV)}{zs:List Value}(fP:∀c∈es,c.length=size)(fI:es≠[])(fZ:es.length≤cap)(hL:es.length*size≤L g)(hr:All2 (DRel w L) zs es.flatten)(hc:∀j v,zs[j]?=some v→w.cell? ⟨g,j,none⟩=some v):DRel w L (.slice (some ⟨g,0,none⟩) es.length cap) (.sl es .none):=by
 have fJ:∀i j (hi:i<es.length) (hj:j<(es[i]).length),∃v,zs[i*size+j]?=some v∧DRel w L v (es[i])[j]:=λi j hi hj=>hr.get (D4 fP i j hi hj);refine .sl g 0 cap size es (λi j=>zs.getD (i*size+j) undef) fI fZ (by omega) (λi hi=>fP _ (ae hi)) (λi j hi hj=>?_) (λi j hi hj=>?_)
 ·obtain⟨v,h1,h2⟩:=fJ i j hi hj;simp only[aX,aq,h1,Option.getD_some];exact hc _ _ h1
 ·obtain⟨v,h1,h2⟩:=fJ i j hi hj;simp only[aq,h1,Option.getD_some];exact h2
theorem DRel.flat{L:Nat→Nat}{v:Value}{es:List (List AV)}{size:Nat}(h:DRel w L v (.sl es .none))(fI:es≠[])(fP:∀ c∈es,c.length=size):
  ∃b off cap zs,v=.slice (some ⟨b,off,none⟩) es.length cap∧zs.length=es.length*size∧All2 (DRel w L) zs es.flatten∧(∀j u,zs[j]?=some u→w.cell? ⟨b,off+j,none⟩=some u)∧off+es.length*size≤L b:=by
 cases h with
 |slE a cap=>exact absurd rfl fI
 |sl b off cap ft _ vs fI fZ hL iJ hc hd=>
  have h0:0<es.length:=by cases es <;> simp_all
  have pg:ft=size:=by rw[←iJ 0 h0];exact fP _ (ae h0)
  subst pg;have gI:=D3 fP
  -- position k of the row lies in element k / ft
  have jb:∀k,k<es.length*ft→∃i j,∃(hi:i<es.length) (_:j<(es[i]).length),k=i*ft+j:=by
   intro k hk;have hz:0<ft:=by cases ft <;> simp_all
   refine⟨k / ft,k % ft,?_,?_,?_⟩
   ·exact(cw hz).2 hk
   ·rw[iJ _ _];exact ci _ hz
   ·rw[bh];exact(cP k ft).symm
  refine⟨b,off,cap,(List.range (es.length*ft)).map (λk=>vs (k / ft) (k % ft)),rfl,by simp,?_,?_,hL⟩
  ·refine All2.of_get (by simp[gI]) λk x y hx hy=>?_;have hk:k<es.length*ft:=by have:=(ac.1 hx).1;simpa using this
   obtain⟨i,j,hi,hj,rfl⟩:=jb k hk;have nK:j<ft:=by rw[←iJ i hi];exact hj
   rw[D4 fP i j hi hj]at hy;cases hy;simp only[bn,bW hk,Option.map_some,cK]at hx;have hz:0<ft:=by omega
   rw[show (i*ft+j) / ft=i by rw[bh,ei hz,bB nK];omega,show (i*ft+j) % ft=j by rw[bh,eh,bC nK]]at hx;rw[←hx];exact hd i j hi hj
  ·intro k u hx;have hk:k<es.length*ft:=by have:=(ac.1 hx).1;simpa using this
   obtain⟨i,j,hi,hj,rfl⟩:=jb k hk;have nK:j<ft:=by rw[←iJ i hi];exact hj
   simp only[bn,bW hk,Option.map_some,cK]at hx;have hz:0<ft:=by omega
   rw[show (i*ft+j) / ft=i by rw[bh,ei hz,bB nK];omega,show (i*ft+j) % ft=j by rw[bh,eh,bC nK]]at hx;rw[←hx,←aa];exact hc i j hi hj

end
section
open Go.RowKit

variable {P:Program} {B:Nat} {w:World} {G:Gh} {H:or}

theorem NM{R:Value→AV→Prop}{z:Array Value}{zc:List AV}(h:All2 R z.toList zc)(hz:0<z.size):∀n,All2 R ((Array.range (n*z.size)).map (z[· % z.size]!)).toList (List.replicate n zc).flatten:=by
 intro n;have hl:=h.length;simp at hl;have fX:∀c∈List.replicate n zc,c.length=z.size:=λc hc=>by rw[bL hc,hl]
 have gI:=D3 fX;refine All2.of_get (by simp[hl]) λk x y hx hy=>?_;have hk:k<n*z.size:=by have:=(ac.1 hx).1;simpa using this
 have hi:k / z.size<(List.replicate n zc).length:=by simpa using(cw hz).2 hk
 have hj:k % z.size<((List.replicate n zc)[k / z.size]).length:=by simp[←hl];exact ci _ hz
 have:=D4 fX (k / z.size) (k % z.size) hi hj;rw[show k / z.size*z.size+k % z.size=k by rw[bh];exact cP k z.size,hy]at this;simp only[eR,cK]at this;have mv:z[k % z.size]! = x:=by simpa[hk]using hx
 have hm:k % z.size<z.size:=ci _ hz;have hzx:z.toList[k % z.size]?=some x:=by rw[←mv];simp[hm]
 obtain⟨b,h1,h2⟩:=h.get' hzx;have:zc[k % z.size]?=some y:=by rw[this];simp
 rw[this]at h1;cases h1;exact h2

theorem UR{size:Nat}:∀ {es:List (List AV)},(∀ c∈es,c.length=size)→∀ (i:Nat) (ds:List AV),i<es.length→(es.set i ds).flatten=es.flatten.take (i*size)++ds++es.flatten.drop (i*size+size)
 |[],_,i,_,hi=>by simp at hi
 |e::es,h,0,ds,hi=>by have he:=h e (by simp);simp[←he]
 |e::es,h,i+1,ds,hi=>by
  have he:=h e (by simp);have:=UR (es:=es) (λc hc=>h c (by simp[hc])) i ds (by simpa using hi);rw[List.set_cons_succ,List.flatten_cons,this,List.flatten_cons];have h1:(i+1)*size=e.length+i*size:=by rw[bp,he];omega
  rw[h1,aa];simp[eM,d8,am,ch]

theorem UT{size:Nat}:∀ (fq:List (Nat × Value)) (fw:List (Nat × AV)) (cells:Array Value) (es es':List (List AV)),(∀ c∈es,c.length=size) →
  All2 (λ(p:Nat×Value) (q:Nat×AV)=>p.1=q.1∧TRel w G p.2 q.2) fq fw→All2 (DRel w G.L) cells.toList es.flatten→uI size fw es=some es' →
  ∃cells',Instr.fill (λi=>some (i*size,size)) cells fq=some cells'∧All2 (DRel w G.L) cells'.toList es'.flatten∧(∀c∈es',c.length=size)∧es'.length=es.length
 |[],[],cells,es,es',hs,_,hc,hf=>by simp[uI]at hf;subst hf;exact⟨cells,rfl,hc,hs,rfl⟩
 |(i,v)::fq,(i',x)::fw,cells,es,es',hs,hp,hc,hf=>by
  obtain⟨⟨h1,h2⟩,h3⟩:=hp;simp only[]at h1 h2;subst h1;unfold uI at hf;split at hf
  ·rename_i xs kV;split at hf
   ·rename_i ds lM;split at hf
    ·rename_i hb;simp only[ap,bt,bc]at hb;have kq:=Ap (DY h2 kV) lM;have mu:=kq.length;have sv:=hc.length;have gI:=D3 hs;simp at mu;simp only[Array.length_toList]at sv;have kC:(i+1)*size≤es.length*size:=aD _ hb.2;rw[bp]at kC;have gC:i*size+v.cells.size≤cells.size:=by omega
     have nJ:=UN (i*size) v.cells cells gC;have mE:All2 (DRel w G.L) (v.cells.zipIdx.foldl (λcs (c,j)=>cs.setIfInBounds (i*size+j) c) cells).toList (es.set i ds).flatten:=by rw[nJ,UR hs i ds hb.2,mu,hb.1];exact((hc.take _).append kq).append (hc.drop _)
     have gK:∀c∈es.set i ds,c.length=size:=λc iw=>by
      rcases cj iw with h|h
      ·exact hs c h
      ·rw[h];exact hb.1
     obtain⟨cells',gM,iU,kA,kB⟩:=UT fq fw _ _ es' gK h3 mE hf;refine⟨cells',?_,iU,kA,by rw[kB];simp⟩;unfold Instr.fill;simp only[];rw[aG (by simp;omega)];exact gM
    ·cases hf
   ·cases hf
  ·cases hf

theorem zOO{t e:TypeId}{size len:Nat}{z:Value}{fq:Array (Nat × Value)}{fw:List (Nat × AV)}{K:AV→or→Prop}(hH:tU B w G H)(he:vD P t=some e)(hn:uV P e=some size)(hz:vW P e=some z)(h0:0<size)(fz:len*size≤16777216)(l9:(v7 z).length=size)(hr:All2 (λ(p:Nat × Value) (q:Nat × AV)=>p.1=q.1∧TRel w G p.2 q.2) fq.toList fw)(h:uk size (v7 z) len fw (K · H)):
  OpOK P B w G K (((do pure (.value (←Instr.buildSlice t len fq))):Sem Next).run P w):=by
 unfold uk at h;split at h
 ·rename_i zc qm;split at h
  ·rename_i es gm;have kY:=zL (w:=w) (G:=G) z;have js:z.cells.size=size:=by have:=kY.length;simp at this;omega
   have sy:=Ap kY qm;have hm:=NM sy (by omega) len;rw[js]at hm;have hzcl:zc.length=size:=by rw[UQ qm];exact l9
   have fX:∀c∈List.replicate len zc,c.length=size:=λc hc=>by rw[bL hc,hzcl]
   obtain⟨cells',h1,h2,h3,h4⟩:=UT fq.toList fw _ _ es fX hr hm gm;simp at h4;have iJ:cells'.size=len*size:=by have:=h2.length;rw[D3 h3,h4]at this;simpa using this
   obtain⟨hx,f7⟩:=hH.frozen cells' e (len*size);have fE:((do pure (.value (←Instr.buildSlice t len fq))):Sem Next).run P w=.ok (.value (.slice (some ⟨w.heap.size,0,none⟩) len len)) (w.alloc (.cells cells' e)):=by
    have iV:¬(2 ^ 24<len*size):=by omega
    by_cases jC:len*size=0
    ·have hl:len=0:=by rcases Nat.mul_eq_zero.1 jC with h | h <;> omega
     subst hl;simp only[eU,Array.range_zero',Array.map_empty]at h1;simp[Instr.buildSlice,uY (wV he),wG hn,h1,newRow,World.alloc_eq,Array.range_zero']
    ·simp[Instr.buildSlice,uY (wV he),wG hn,Cs hz,iV,jC,js,h1,newRow,World.alloc_eq]
   rw[fE];refine⟨.sl es .full,_,H,hx,f7,⟨?_,some ⟨w.heap.size,0,none⟩,by rw[h4]⟩,h⟩;by_cases fI:es=[]
   ·subst fI;simp at h4;subst h4;exact .slE _ _
   ·have:=DRel.of_flat (w:=w.alloc (.cells cells' e)) (L:=λb=>if b=w.heap.size then len*size else G.L b) (g:=w.heap.size) (cap:=len) (zs:=cells'.toList) h3 fI (by omega) (by simp[h4]) (h2.mono λ_ _=>hx.drel)
     (λj v hj=>by rw[World.cell?_alloc_new];simpa using hj)
    rw[h4]at this;exact this
  ·exact h.elim
 ·exact h.elim

theorem zO6{t e:TypeId}{size bytes:Nat}{z:Value}{vl vc:Value}{l c:AV}{K:AV→or→Prop}(hH:tU B w G H)(he:vD P t=some e)(hn:uV P e=some size)(gD:xI P e=some bytes)(hz:vW P e=some z)(h0:0<size)(l9:(v7 z).length=size)(hl:TRel w G vl l)(hc:TRel w G vc c)(h:vo bytes (v7 z) l c H K):
  OpOK P B w G K (((do pure (.value (←Instr.makeSlice t vl vc))):Sem Next).run P w):=by
 unfold vo at h;split at h
 ·rename_i l c;cases hl;cases hc;obtain⟨⟨h1,h2,h3,h4⟩,hk⟩:=h;have kY:=zL (w:=w) (G:=G) z;have js:z.cells.size=size:=by have:=kY.length;simp at this;omega
  unfold uV at hn;unfold vW at hz;unfold xI at gD;cases hi:P.info? e with
  |none=>simp[hi]at hn
  |some i=>
   simp[hi]at hn hz gD;have hr:=run_make (P:=P) w t e i z (wV he) hi hz .i64 .i64 l c h1 h2 (by rw[gD,eX];omega) h4;have hm:=NM kY (by omega) c.toNat;rw[js]at hm;rw[hn]at hr;obtain⟨hx,f7⟩:=hH.new (madeCells z.cells (c.toNat*size)) e _ (by simpa[madeCells,js]using hm);have fE:((do pure (.value (←Instr.makeSlice t (.int .i64 l) (.int .i64 c)))):Sem Next).run P w=.ok (.value (.slice (some ⟨w.heap.size,0,none⟩) l.toNat c.toNat)) (w.alloc (.cells (madeCells z.cells (c.toNat*size)) e)):=by rw[Sem.run_bind,hr];rfl
   rw[fE];refine⟨.ms H.length 0 l.toNat c.toNat,_,_,hx,f7,⟨w.heap.size,?_,rfl⟩,hk⟩;rw[←hH.len];simp
 ·exact h.elim

theorem UU:∀ {es:List (List AV)} {s:List UInt8},DL es=some s→∃ ns:List Int,es=ns.map (λn=>[.int .u8 n])∧s=ns.map (λn=>UInt8.ofNat n.toNat)
 |[],s,h=>by simp[DL]at h;exact⟨[],rfl,h.symm ▸ rfl⟩
 |c::es,s,h=>by
  unfold DL at h;split at h
  ·rename_i heq;cases heq
  ·rename_i n es' heq;cases heq;split at h
   ·rename_i s' gK;obtain⟨ns,rfl,rfl⟩:=UU gK;cases h;exact⟨n::ns,rfl,rfl⟩
   ·cases h
  ·cases h
theorem UV:∀ (ns:List Int) (fu:List UInt8),ns.foldl (λr n=>r.push (UInt8.ofNat n.toNat)) (ByteArray.mk fu.toArray)=⟨(fu++ns.map λn=>UInt8.ofNat n.toNat).toArray⟩
 |[],fu=>by simp
 |n::ns,fu=>by
  have h:(ByteArray.mk fu.toArray).push (UInt8.ofNat n.toNat)=⟨(fu++[UInt8.ofNat n.toNat]).toArray⟩:=by simp[ByteArray.push]
  rw[List.foldl_cons,h,UV ns];simp
theorem UW{L:Nat→Nat}:∀ {zs:List Value} {ns:List Int},All2 (DRel w L) zs (ns.map (AV.int .u8))→zs=ns.map (Value.int .u8)
 |[],[],_=>rfl
 |z::zs,n::ns,h=>by obtain⟨h1,h2⟩:=h;cases h1;rw[UW h2];rfl
theorem UX:∀ ns:List Int,(ns.map λn=>[AV.int .u8 n]).flatten=ns.map (AV.int .u8)
 |[]=>rfl
 |n::ns=>by rw[aL,List.flatten_cons,UX ns];rfl
theorem zOS{s t e:TypeId}{v:Value}{x:AV}{K:AV→Prop}(hx:TRel w G v x)(hs:P.underlying s=some (.slice e))(ht:P.underlying t=some .string)(he:tU8 P e=true)(h:Ny x K):
  ∃r,(convert s t v).run P w=.ok r w∧∃av,TRel w G r av∧K av:=by
 have sA:P.underlying e=some (.int .u8):=by
  unfold tU8 at he;split at he
  ·assumption
  ·cases he
 unfold Ny at h;split at h
 ·rename_i es tok;have hd:=DZ hx;split at h
  ·rename_i bs hb;obtain⟨ns,rfl,rfl⟩:=UU hb;refine⟨.string ⟨(ns.map λn=>UInt8.ofNat n.toNat).toArray⟩,?_,.str _,rfl,h⟩;by_cases fI:ns=[]
   ·subst fI;obtain⟨a,cap,rfl,_⟩:=hd.slice_form;rw[run_convert_bytes_string w s t e _ _ _ hs sA ht];cases a with
    |none=>rfl
    |some a=>
     have hl:(loadCells a 0).run P w=.ok #[] w:=by simpa using run_loadCells_list (P:=P) w a [] (by simp)
     exact run_bytesToString w a 0 cap [] hl
   ·obtain⟨b,off,cap,zs,rfl,l9,kY,qm,_⟩:=hd.flat (size:=1) (by simpa using fI) (by simp);rw[UX]at kY;obtain rfl:=UW kY;rw[run_convert_bytes_string w s t e _ _ _ hs sA ht];have l8:=run_loadCells_list (P:=P) w ⟨b,off,none⟩ (ns.map (Value.int .u8)) (λj v hj=>by rw[add_lit];exact qm j v hj);rw[cC]at l8;rw[cC,run_bytesToString w _ _ cap ns l8];have:=UV ns [];simp only[List.nil_append]at this;rw[←this];rfl
  ·exact h.elim
 ·cases hx;refine⟨.string ⟨#[]⟩,?_,.str [],rfl,h⟩;rw[run_convert_bytes_string w s t e _ _ _ hs sA ht];rfl
 ·exact h.elim

end
section
open Go.RowKit

variable {P:Program} {B:Nat} {w:World} {G:Gh} {H:or}

theorem zNM(v:Value):VRel w G v (zF v):=by
 unfold zF;split
 ·rename_i cs;refine⟨cs,rfl,?_⟩;refine All2.of_get (by simp) λi x y hx hy=>?_;rw[bn,hx]at hy;simp at hy;rw[←hy];exact ARel.of_b (Cr x)
 ·exact VRel.of_a (ARel.of_b (Cr v))
theorem UY{t e:TypeId}(h:zH P t=some e):∃k,P.underlying t=some (.map k e)∧P.underlying k=some .string:=by
 unfold zH at h;cases hu:P.underlying t with
 |none=>simp[hu]at h
 |some d=>
  simp only[hu,Option.bind_some]at h;cases d <;> simp only[]at h <;> try (cases h;done)
  rename_i k e';split at h
  ·rename_i hk;cases h;exact⟨k,rfl,hk⟩
  ·cases h

theorem NN{s:List UInt8}{x:AV}:∀ {es:List MapEntry} {kvs:List (List UInt8 × AV)} (i:Nat),All2 (ERel w G) es kvs →
  (wo kvs s=none∧Instr.findNow .string (.string ⟨s.toArray⟩) es i=some none∧xx kvs s x=kvs++[(s,x)]) ∨
  (∃j e v,wo kvs s=some v∧Instr.findNow .string (.string ⟨s.toArray⟩) es i=some (some (i+j,e.val))∧es[j]?=some e∧VRel w G e.val v∧e.key=.string ⟨s.toArray⟩∧xx kvs s x=kvs.set j (s,x))
 |[],[],i,_=>.inl ⟨rfl,rfl,rfl⟩
 |e::es,p::kvs,i,h=>by
  obtain⟨⟨hk,hv⟩,ht⟩:=h;have hbeq:((⟨s.toArray⟩:ByteArray) == ⟨p.1.toArray⟩)=(p.1 == s):=by
   have e1:((⟨s.toArray⟩:ByteArray) == ⟨p.1.toArray⟩)=(s.toArray == p.1.toArray):=rfl;rw[e1,dj,bt,bt];constructor
   ·intro h;have:=congrArg Array.toList h;simpa using this.symm
   ·intro h;rw[h]
  have gg:Instr.sameNow .string (.string ⟨s.toArray⟩) e.key=some (p.1 == s):=by rw[hk];simp only[Instr.sameNow,hbeq]
  cases hb:(p.1 == s) with
  |true=>
   right;rw[hb]at gg;have ke:p.1=s:=by simpa using hb
   exact⟨0,e,p.2,by simp only[wo,hb],by simp only[Instr.findNow,gg,Nat.add_zero],rfl,hv,by rw[hk,ke],by simp only[xx,hb,List.set_cons_zero]⟩
  |false=>
   rw[hb]at gg;rcases NN (s:=s) (x:=x) (i+1) ht with ⟨h1,h2,h3⟩|⟨j,e',v,h1,h2,h3,h4,h5,h6⟩
   ·exact .inl ⟨by simp only[wo,hb,h1],by simp only[Instr.findNow,gg,h2],by simp only[xx,hb,h3,List.cons_append]⟩
   ·refine .inr ⟨j+1,e',v,by simp only[wo,hb,h1],?_,by simpa using h3,h4,h5,by simp only[xx,hb,h6,List.set_cons_succ]⟩;simp only[Instr.findNow,gg,h2];congr 3;omega
 |[],_::_,_,h=>h.elim
 |_::_,[],_,h=>h.elim

theorem zO8{t:TypeId}{K:AV→or→Prop}(hH:tU B w G H)(h:Aj H K):OpOK P B w G K (((do pure (.value (←Instr.makeMap t none))):Sem Next).run P w):=by
 obtain⟨he,f7⟩:=hH.newMap;have fE:((do pure (.value (←Instr.makeMap t none))):Sem Next).run P w=.ok (.value (.map (some w.heap.size))) (w.alloc (.map #[] 0)):=by simp[Instr.makeMap,newObj,Sem.run,World.alloc_eq]
 rw[fE];refine⟨.map H.length,_,_,he,f7,⟨w.heap.size,?_,rfl⟩,h⟩;rw[←hH.len];simp

theorem zO5{t e:TypeId}{z vm vk:Value}{m k:AV}{ok:Bool}{K:AV→Prop}(hH:tU B w G H)(ht:zH P t=some e)(hz:vW P e=some z)(hm:TRel w G vm m)(hk:TRel w G vk k)(h:zG (zF z) ok m k H K):∃u,(Instr.lookup t vm vk ok).run P w=.ok u w∧∃av,TRel w G u av∧K av:=by
 obtain⟨kt,hu,ma⟩:=UY ht;unfold zG at h;split at h
 ·rename_i id s;split at h
  ·rename_i kvs mH;obtain⟨b,hμ,rfl⟩:=hm;cases hk;obtain⟨_,_,es,clk,hw,gm⟩:=hH.ok id _ _ mH hμ;have jD:MapKept.IsKey .string (.string ⟨s.toArray⟩):=trivial;rcases NN (s:=s) (x:=.unk) 0 gm with ⟨h1,h2,_⟩ | ⟨j,e',v,h1,h2,h3,h4,h5,_⟩
   ·rw[h1]at h;have hzv:VRel w G z (zF z):=zNM z;cases ok with
    |false=>refine⟨z,?_,_,UE z,h⟩;simp[Instr.lookup,uY hu,MapKept.run_getObj_map hw,MapKept.run_checkKey ma jD,MapKept.run_findKey ma h2,Cs hz]
    |true=>refine⟨.tuple #[z,.bool false],?_,.tup [zF z,.bool false],⟨_,rfl,hzv,rfl,trivial⟩,h⟩;simp[Instr.lookup,uY hu,MapKept.run_getObj_map hw,MapKept.run_checkKey ma jD,MapKept.run_findKey ma h2,Cs hz]
   ·rw[h1]at h;cases ok with
    |false=>refine⟨e'.val,?_,_,TRel.of_v h4,h⟩;simp[Instr.lookup,uY hu,MapKept.run_getObj_map hw,MapKept.run_checkKey ma jD,MapKept.run_findKey ma h2]
    |true=>refine⟨.tuple #[e'.val,.bool true],?_,.tup [v,.bool true],⟨_,rfl,h4,rfl,trivial⟩,h⟩;simp[Instr.lookup,uY hu,MapKept.run_getObj_map hw,MapKept.run_checkKey ma jD,MapKept.run_findKey ma h2]
  ·exact h.elim
 ·exact h.elim

theorem UZ{t e:TypeId}{vm vk vx:Value}{m k x:AV}{K:or→Prop}(hH:tU B w G H)(ht:zH P t=some e)(hm:TRel w G vm m)(hk:TRel w G vk k)(hx:TRel w G vx x)(h:yC m k x H K):∃w' H',(Instr.mapUpdate t vm vk vx).run P w=.ok () w'∧Ext B w G w' G∧tU B w' G H'∧K H':=by
 obtain⟨kt,hu,ma⟩:=UY ht;unfold yC at h;split at h
 ·rename_i id s;split at h
  ·rename_i kvs mH;obtain⟨b,hμ,rfl⟩:=hm;cases hk;obtain⟨_,_,es,clk,hw,gm⟩:=hH.ok id _ _ mH hμ;have jD:MapKept.IsKey .string (.string ⟨s.toArray⟩):=trivial;split at h
   ·exact h.elim
   ·rename_i hnt;have hv:VRel w G vx x:=by cases x <;> first | exact hx | exact (hnt _ rfl).elim
    rcases NN (s:=s) (x:=x) 0 gm with ⟨h1,h2,h6⟩|⟨j,e',v,h1,h2,h3,h4,h5,h6⟩
    ·rw[h6]at h;obtain⟨he,f7⟩:=hH.storeMap (es':=es.push ⟨.string ⟨s.toArray⟩,vx,clk⟩) (clk':=clk+1) mH hμ hw (kvs':=kvs++[(s,x)]) (by
      rw[Array.toList_push];exact gm.append ⟨⟨rfl,hv⟩,trivial⟩)
     refine⟨_,_,?_,he,f7,h⟩;simp[Instr.mapUpdate,uY hu,MapKept.run_getObj_map hw,MapKept.run_checkKey ma jD,MapKept.run_findKey ma h2,MapKept.run_setObj_map _ hw]
    ·rw[h6]at h;have hj:es[j]?=some e':=by simpa using h3
     have fU:j<es.size:=(aQ.1 hj).1;obtain⟨he,f7⟩:=hH.storeMap (es':=es.modify j λe=>{ e with key:=.string ⟨s.toArray⟩,val:=vx }) (clk':=clk) mH hμ hw (kvs':=kvs.set j (s,x)) (by
      have e1:(es.modify j λe=>{ e with key:=.string ⟨s.toArray⟩,val:=vx }).toList=es.toList.set j { e' with key:=.string ⟨s.toArray⟩,val:=vx }:=by rw[Array.toList_modify,List.modify_eq_set];simp[hj]
      rw[e1];exact gm.set j ⟨rfl,hv⟩)
     refine⟨_,_,?_,he,f7,h⟩;have iK:(Instr.keyThatStays (((es[j]?).map (·.key)).getD (.string ⟨s.toArray⟩)) (.string ⟨s.toArray⟩)).run P w=.ok (.string ⟨s.toArray⟩) w:=by rw[hj];simp only[Option.map_some,Option.getD_some,h5];exact MapKept.run_keyThatStays jD
     simp only[aX]at h2;simp[Instr.mapUpdate,uY hu,MapKept.run_getObj_map hw,MapKept.run_checkKey ma jD,MapKept.run_findKey ma h2,iK,MapKept.run_setObj_map _ hw]
  ·exact h.elim
 ·exact h.elim
end
section
open Go.RowKit

variable {P:Program} {B:Nat} {w:World} {G:Gh} {H:or}

structure GrB (w w':World) (g:Option Nat):Prop where
 dr:w.drawn≤w'.drawn
 os:w'.os=w.os
 tape:w'.tape=w.tape
 output:w'.output=w.output
 size:w.heap.size≤w'.heap.size
 block:∀k,k<w.heap.size→some k≠g→w'.heap[k]?=w.heap[k]?
theorem NO(w:World)(o:Obj):w.drawn≤(w.drew.alloc o).drawn:=cF _

theorem Cw{t t' ty e:TypeId}{a c:Option Addr}{n cap cap':Nat}(he:vD P t=some e)(qI:vD P t'=some e)(hs:∃ s,uV P e=some s)(hk:n≤cap):
  (Builtin.append_ #[t,t'] ty #[.slice a n cap,.slice c 0 cap']).run P w=.ok (.slice a n cap) w:=by
 obtain⟨s,hs⟩:=hs;have hl:∀x,(loadCells x 0).run P w=.ok #[] w:=λx=>by simpa using run_loadCells_list (P:=P) w x [] (by simp)
 have fN:∀x,(storeCells x [] 0).run P w=.ok () w:=λx=>rfl;cases a <;> cases c <;> simp[Builtin.append_,uY (wV he),uY (wV qI),wG hs,Builtin.lenOf,hk,Builtin.firstCells,hl,fN]

theorem Gi{t ty e:TypeId}{i:TypeInfo}{z:Value}(ht:P.underlying t=some (.slice e))(hi:P.info? e=some i)(hz:i.zero=some z)(js:z.cells.size=i.size){v:Value}{n:Nat}{xs:List Value}(fF:w.ownsRow B e i.size v n xs)(a:Addr)(m c:Nat)(news:List Value)(hl:news.length=m*i.size)(jQ:∀ j u,news[j]?=some u→w.cell? (a.add j)=some u)(h1:∀ u∈news,u.oneCell'=true)(hm:0<m)(pi:n+m≤maxLen)(iL:(n+m)*i.bytes≤140737488355328)(kD:B≤w.heap.size):
  ∃ v' w',(Builtin.append_ #[t,t] ty #[v,.slice (some a) m c]).run P w=.ok v' w'∧w'.ownsRow B e i.size v' (n+m) (xs++news) ∧
   ((∃g,v.ownBlock=some g∧v'.ownBlock=some g∧GrB w w' (some g))∨(v'.ownBlock=some w.heap.size∧GrB w w' none)):=by
 have hsmall:n+m≤9223372036854775807:=by simp only[maxLen]at pi;omega
 have fz:(xs++news).length=(n+m)*i.size:=by rw[aH,fF.1,hl,bp]
 have grown:∀ (old:Nat),old<n+m →
   (w.drew.alloc (.cells (xs.toArray++news.toArray++Builtin.zeroCells z.cells (grownCap w (n+m) old e-(n+m))) e)).ownsRow B e i.size
    (.slice (some ⟨w.heap.size,0,none⟩) (n+m) (grownCap w (n+m) old e)) (n+m) (xs++news) ∧
   GrB w (w.drew.alloc (.cells (xs.toArray++news.toArray++Builtin.zeroCells z.cells (grownCap w (n+m) old e-(n+m))) e)) none:=by
  intro old ho;have gW:=grownCap_ge w (n+m) old e;have iw:grownCap w (n+m) old e≤maxLen:=grownCap_le_maxLen w (n+m) old e pi;refine⟨⟨fz,.inr ⟨w.heap.size,_,_,rfl,kD,y6 (w:=w.drew) _,gW,iw,?_,?_⟩⟩,⟨NO w _,rfl,rfl,rfl,by simp,λk hk _=>yk (w:=w.drew) hk⟩⟩
  ·simp only[dp,cL,size_zeroCells,js,fF.1,hl,←bp];congr 1;omega
  ·simp only[ep,aB];rw[←aB,←fz];exact dw
 rcases fF.2 with ⟨rfl,rfl⟩|⟨g,cap,cur,rfl,lN,hg,oJ,iw,f5,gH⟩
 ·have hx:xs=[]:=aO (by simpa using fF.1);subst hx;have hr:=run_append_nil (P:=P) w t ty e i z ht hi hz a m c news hl jQ hm (by omega) (by have hb:=iL;simp only[aX]at hb;omega);have gE:=grown 0 (by omega);simp only[aX,List.nil_append,dP]at gE ⊢;exact⟨_,_,hr,gE.1,.inr ⟨rfl,gE.2⟩⟩
 ·by_cases jR:n+m≤cap
  ·have gC:n*i.size+news.length≤cur.size:=by rw[hl,f5,←bp];exact aD _ jR
   have hr:=run_append_room (P:=P) w t ty e i ht hi g n cap cur hg a m c news hl jQ h1 jR gC;refine⟨_,_,hr,⟨fz,.inr ⟨g,cap,_,rfl,lN,setRow_heap w g cur _ e _ hg,jR,iw,?_,?_⟩⟩,.inl ⟨g,rfl,rfl,⟨af _,rfl,rfl,rfl,by simp,λk _ hk=>setRow_other w g k _ (λe=>hk (by simp[e]))⟩⟩⟩
   ·simp only[cL,aH,a7,dy,Array.length_toList];omega
   ·rw[gH,←fz];exact dw
  ·have holds:∀j u,xs[j]?=some u→w.cell? ((⟨g,0,none⟩:Addr).add j)=some u:=fF.cells (g:=g) rfl;have hr:=run_append_grow (P:=P) w t ty e i z ht hi hz ⟨g,0,none⟩ n cap xs fF.1 holds a m c news hl jQ (by omega) (by omega) (growslice_fits (by omega) iL);have gE:=grown cap (by omega);exact⟨_,_,hr,gE.1,.inr ⟨rfl,gE.2⟩⟩

theorem NP{t ty e:TypeId}{i:TypeInfo}{z:Value}(ht:P.underlying t=some (.slice e))(hi:P.info? e=some i)(hz:i.zero=some z)(js:z.cells.size=i.size){ad:Option Addr}{n:Nat}{xs:List Value}(ix:xs.length=n*i.size)(hx:∀ b,ad=some b→∀ j u,xs[j]?=some u→w.cell? (b.add j)=some u)(hn:ad=none→n=0)(a:Addr)(m c:Nat)(news:List Value)(hl:news.length=m*i.size)(jQ:∀ j u,news[j]?=some u→w.cell? (a.add j)=some u)(hm:0<m)(pi:n+m≤maxLen)(iL:(n+m)*i.bytes≤140737488355328)(kD:B≤w.heap.size):
  ∃v' w',(Builtin.append_ #[t,t] ty #[.slice ad n n,.slice (some a) m c]).run P w=.ok v' w'∧w'.ownsRow B e i.size v' (n+m) (xs++news)∧v'.ownBlock=some w.heap.size∧GrB w w' none:=by
 have hsmall:n+m≤9223372036854775807:=by simp only[maxLen]at pi;omega
 have fz:(xs++news).length=(n+m)*i.size:=by rw[aH,ix,hl,bp]
 have grown:∀ (old:Nat),old<n+m →
   (w.drew.alloc (.cells (xs.toArray++news.toArray++Builtin.zeroCells z.cells (grownCap w (n+m) old e-(n+m))) e)).ownsRow B e i.size
    (.slice (some ⟨w.heap.size,0,none⟩) (n+m) (grownCap w (n+m) old e)) (n+m) (xs++news) ∧
   GrB w (w.drew.alloc (.cells (xs.toArray++news.toArray++Builtin.zeroCells z.cells (grownCap w (n+m) old e-(n+m))) e)) none:=by
  intro old ho;have gW:=grownCap_ge w (n+m) old e;have iw:grownCap w (n+m) old e≤maxLen:=grownCap_le_maxLen w (n+m) old e pi;refine⟨⟨fz,.inr ⟨w.heap.size,_,_,rfl,kD,y6 (w:=w.drew) _,gW,iw,?_,?_⟩⟩,⟨NO w _,rfl,rfl,rfl,by simp,λk hk _=>yk (w:=w.drew) hk⟩⟩
  ·simp only[dp,cL,size_zeroCells,js,ix,hl,←bp];congr 1;omega
  ·simp only[ep,aB];rw[←aB,←fz];exact dw
 cases ad with
 |none=>obtain rfl:=hn rfl;have kO:xs=[]:=aO (by simpa using ix);subst kO;have hr:=run_append_nil (P:=P) w t ty e i z ht hi hz a m c news hl jQ hm (by omega) (by have hb:=iL;simp only[aX]at hb;omega);have gE:=grown 0 (by omega);simp only[aX,List.nil_append,dP]at gE ⊢;exact⟨_,_,hr,gE.1,rfl,gE.2⟩
 |some b=>have hr:=run_append_grow (P:=P) w t ty e i z ht hi hz b n n xs ix (hx b rfl) a m c news hl jQ (by omega) (by omega) (growslice_fits (by omega) iL);have gE:=grown n (by omega);exact⟨_,_,hr,gE.1,rfl,gE.2⟩
theorem Gj{e:TypeId}{size n m id:Nat}{v v':Value}{w':World}{xs news:List Value}{es ys:List (List AV)}(hH:tU B w G H)(kZ:H[id]?=some (.perm e size n))(hμ:G.μ[id]?=some (.own v size n))(fF:w.ownsRow B e size v n xs)(fV:w'.ownsRow B e size v' (n+m) (xs++news))(fL:(∃ g,v.ownBlock=some g∧v'.ownBlock=some g∧GrB w w' (some g))∨(v'.ownBlock=some w.heap.size∧GrB w w' none))(hm:ys.length=m)(iG:0<m)(gm:es.length=n)(hse:∀ c∈es,c.length=size)(oK:∀ c∈ys,c.length=size)(hx:All2 (DRel w G.L) xs es.flatten)(hn:All2 (DRel w G.L) news ys.flatten):
  ∃G',Ext B w G w' G'∧tU B w' G' (H.set id (.perm e size (n+m)))∧TRel w' G' v' (.sl (es++ys) (.own id)):=by
 obtain⟨_,_,⟨_,_⟩,lO⟩:=hH.ok id _ _ kZ hμ;obtain⟨i6,ic⟩:=fV;rcases ic with ⟨hv,hz⟩|⟨g,cap,cur,hv,lK,mc,gM,iU,kA,kB⟩
 ·omega
 subst hv;have fV:w'.ownsRow B e size (.slice (some ⟨g,0,none⟩) (n+m) cap) (n+m) (xs++news):=⟨i6,.inr ⟨g,cap,cur,rfl,lK,mc,gM,iU,kA,kB⟩⟩;obtain⟨_,_,hglt,k8⟩:=ze fV;have fL:(v.ownBlock=some g∧GrB w w' (some g))∨(g=w.heap.size∧GrB w w' none):=by
  rcases fL with ⟨g0,h1,h2,h3⟩|⟨h1,h2⟩
  ·simp[Value.ownBlock]at h2;subst h2;exact .inl ⟨h1,h3⟩
  ·simp[Value.ownBlock]at h1;exact .inr ⟨h1,h2⟩
 have hB:∀b,v.ownBlock=some b→B≤b:=λb hb=>by
  rcases fF.2 with ⟨rfl,_⟩|⟨g0,cap0,cur0,rfl,qn,_⟩
  ·simp[Value.ownBlock]at hb
  ·simp[Value.ownBlock]at hb;omega
 have mI:G.L g≤(n+m)*size:=by
  rcases fL with ⟨h,_⟩|⟨h,_⟩
  ·rw[lO g h];exact aD _ (by omega)
  ·rw[hH.fresh g (by omega)];exact bM _
 -- all other blocks are asx they were
 have gg:∀b,b<w.heap.size→b≠g→w'.heap[b]?=w.heap[b]?:=by
  intro b hb fI;rcases fL with ⟨_,h⟩|⟨_,h⟩
  ·exact h.block b hb (by simp[fI])
  ·exact h.block b hb (by simp)
 have iA:w.heap.size≤w'.heap.size:=by rcases fL with ⟨_,h⟩|⟨_,h⟩ <;> exact h.size
 have jE:∀(id':Nat) gi b,id'≠id→G.μ[id']?=some gi→gi.block=some b→b≠g:=by
  intro id' gi b fI h1 h2 lN;subst lN;rcases fL with ⟨h,_⟩|⟨h,_⟩
  ·exact fI (hH.dist id' id gi _ b h1 hμ h2 (by simpa[GI.block]using h))
  ·have:=hH.lt id' gi b h1 h2;omega
 have iB:id<G.μ.length:=(ac.1 hμ).1;have he:Ext B w G w' ⟨λb=>if b=g then (n+m)*size else G.L b,G.μ.set id (.own (.slice (some ⟨g,0,none⟩) (n+m) cap) size (n+m))⟩:=by
  refine⟨DR.set (by rcases fL with ⟨_,h⟩|⟨_,h⟩ <;> exact h.dr) rfl (by simp),?_,?_,?_,?_⟩
  ·have hb:∀k,k<B→w'.heap[k]?=w.heap[k]?:=λk hk=>gg k (bK hk hH.base) (by
    intro sB;subst sB;rcases fL with ⟨h,_⟩|⟨h,_⟩
    ·have:=hB k h;omega
    ·have:=hH.base;omega)
   rcases fL with ⟨_,h⟩|⟨_,h⟩ <;> exact⟨h.os,h.tape,h.output,h.size,hb⟩
  ·intro b;by_cases hb:b=g
   ·subst hb;simpa using mI
   ·simp[hb]
  ·intro b off kf;by_cases lN:b=g
   ·subst lN;rcases fL with ⟨h,_⟩ | ⟨h,_⟩
    ·rcases fF.2 with ⟨rfl,_⟩ | ⟨g0,cap0,cur0,rfl,qn,rI,_⟩
     ·simp[Value.ownBlock]at h
     ·simp[Value.ownBlock]at h;subst h;rw[lO _ rfl]at kf;obtain⟨ix,_,_,kE⟩:=ze fF;rw[kE off kf,k8 off (bK kf (aD _ (by omega))),ah (by omega)]
    ·rw[hH.fresh b (by omega)]at kf;omega
   ·exact A0 (gg b (F8 hH kf) lN)
  ·intro id' gi h1;by_cases fA:id'=id
   ·subst fA;rw[hμ]at h1;cases h1;exact⟨_,ak iB,rfl,.inr (by omega)⟩
   ·exact⟨gi,by simp only[];rw[aj (λh=>fA h.symm)];exact h1,gi.le_refl⟩
 have gh:∀ (id':Nat) gi,(G.μ.set id (.own (.slice (some ⟨g,0,none⟩) (n+m) cap) size (n+m)))[id']?=some gi →
   (id'=id∧gi=.own (.slice (some ⟨g,0,none⟩) (n+m) cap) size (n+m))∨(id'≠id∧G.μ[id']?=some gi):=by
  intro id' gi h;by_cases fA:id'=id
  ·subst fA;rw[ak iB]at h;cases h;exact .inl ⟨rfl,rfl⟩
  ·rw[aj (λh=>fA h.symm)]at h;exact .inr ⟨fA,h⟩
 refine⟨_,he,⟨by simp[hH.len],?_,?_,?_,?_,aC hH.base iA⟩,⟨?_,_,size,n+m,ak iB,by simp;omega,λ_=>⟨rfl,λc hc=>?_⟩⟩⟩
 ·intro id' ab gi h1 h2;rcases gh id' gi h2 with ⟨rfl,rfl⟩ | ⟨fA,h2⟩
  ·have fy:id'<H.length:=by rw[←hH.len];exact iB
   rw[ak fy]at h1;cases h1;refine⟨rfl,rfl,⟨_,fV⟩,λb hb=>?_⟩;simp[Value.ownBlock]at hb;subst hb;simp
  ·rw[aj (λh=>fA h.symm)]at h1;refine(hH.ok id' ab gi h1 h2).keep he (λb hb=>?_);have fI:=jE id' gi b fA h2 hb;exact⟨gg b (hH.lt id' gi b h2 hb) fI,by simp[fI]⟩
 ·intro i1 i2 gi1 gi2 b h1 h2 h3 h4;rcases gh i1 gi1 h1 with ⟨e1,e2⟩ | ⟨gx,k1⟩ <;> rcases gh i2 gi2 h2 with ⟨e3,e4⟩ | ⟨ig,k2⟩
  ·rw[e1,e3]
  ·rw[e2]at h3;simp[GI.block,Value.ownBlock]at h3;exact absurd h3.symm (jE i2 gi2 b ig k2 h4)
  ·rw[e4]at h4;simp[GI.block,Value.ownBlock]at h4;exact absurd h4.symm (jE i1 gi1 b gx k1 h3)
  ·exact hH.dist i1 i2 gi1 gi2 b k1 k2 h3 h4
 ·intro b hb;have fI:b≠g:=by intro h;subst h;omega
  simp[fI,hH.fresh b (by omega)]
 ·intro i1 gi b h1 h2;rcases gh i1 gi h1 with ⟨rfl,rfl⟩ | ⟨gx,h1⟩
  ·simp[GI.block,Value.ownBlock]at h2;omega
  ·have:=hH.lt i1 gi b h1 h2;omega
 ·have fI:es++ys≠[]:=by intro h;have:=congrArg List.length h;rw[aH,List.length_nil]at this;omega
  have fX:∀c∈es++ys,c.length=size:=λc hc=>(bg.1 hc).elim (hse c) (oK c);have fz:(es++ys).length=n+m:=by simp;omega
  have gI:=DRel.of_flat (w:=w') (L:=λb=>if b=g then (n+m)*size else G.L b) (g:=g) (cap:=cap) (zs:=xs++news) fX fI (by omega) (by simp[gm,hm])
   (by rw[da];exact(hx.append hn).mono λ_ _=>he.drel)
   (λj u hj=>by
    have nK:j<(n+m)*size:=by rw[←i6];exact(ac.1 hj).1
    rw[k8 j nK];exact hj)
  rw[fz]at gI;exact gI
 ·rcases bg.1 hc with h | h
  ·exact hse c h
  ·exact oK c h

theorem Gk{e:TypeId}{size n m id:Nat}{v v':Value}{w':World}{xs news:List Value}{cs ds:List AV}(hH:tU B w G H)(kZ:H[id]?=some (.vec e size n cs))(hμ:G.μ[id]?=some (.own v size n))(fF:w.ownsRow B e size v n xs)(fV:w'.ownsRow B e size v' (n+m) (xs++news))(fL:(∃ g,v.ownBlock=some g∧v'.ownBlock=some g∧GrB w w' (some g))∨(v'.ownBlock=some w.heap.size∧GrB w w' none))(iG:0<m)(hx:All2 (ARel w G) xs cs)(hn:All2 (ARel w G) news ds):
  ∃G',Ext B w G w' G'∧tU B w' G' (H.set id (.vec e size (n+m) (cs++ds)))∧TRel w' G' v' (.ov id (n+m)):=by
 obtain⟨_,_,⟨_,_,_⟩,lO⟩:=hH.ok id _ _ kZ hμ;obtain⟨i6,ic⟩:=fV;rcases ic with ⟨hv,hz⟩|⟨g,cap,cur,hv,lK,mc,gM,iU,kA,kB⟩
 ·omega
 subst hv;have fV:w'.ownsRow B e size (.slice (some ⟨g,0,none⟩) (n+m) cap) (n+m) (xs++news):=⟨i6,.inr ⟨g,cap,cur,rfl,lK,mc,gM,iU,kA,kB⟩⟩;obtain⟨_,_,hglt,k8⟩:=ze fV;have fL:(v.ownBlock=some g∧GrB w w' (some g))∨(g=w.heap.size∧GrB w w' none):=by
  rcases fL with ⟨g0,h1,h2,h3⟩|⟨h1,h2⟩
  ·simp[Value.ownBlock]at h2;subst h2;exact .inl ⟨h1,h3⟩
  ·simp[Value.ownBlock]at h1;exact .inr ⟨h1,h2⟩
 have hB:∀b,v.ownBlock=some b→B≤b:=λb hb=>by
  rcases fF.2 with ⟨rfl,_⟩|⟨g0,cap0,cur0,rfl,qn,_⟩
  ·simp[Value.ownBlock]at hb
  ·simp[Value.ownBlock]at hb;omega
 have mI:G.L g=0:=by
  rcases fL with ⟨h,_⟩|⟨h,_⟩
  ·exact lO g h
  ·exact hH.fresh g (by omega)
 have gg:∀b,b<w.heap.size→b≠g→w'.heap[b]?=w.heap[b]?:=by
  intro b hb fI;rcases fL with ⟨_,h⟩|⟨_,h⟩
  ·exact h.block b hb (by simp[fI])
  ·exact h.block b hb (by simp)
 have iA:w.heap.size≤w'.heap.size:=by rcases fL with ⟨_,h⟩|⟨_,h⟩ <;> exact h.size
 have jE:∀(id':Nat) gi b,id'≠id→G.μ[id']?=some gi→gi.block=some b→b≠g:=by
  intro id' gi b fI h1 h2 lN;subst lN;rcases fL with ⟨h,_⟩|⟨h,_⟩
  ·exact fI (hH.dist id' id gi _ b h1 hμ h2 (by simpa[GI.block]using h))
  ·have:=hH.lt id' gi b h1 h2;omega
 have iB:id<G.μ.length:=(ac.1 hμ).1;have he:Ext B w G w' ⟨G.L,G.μ.set id (.own (.slice (some ⟨g,0,none⟩) (n+m) cap) size (n+m))⟩:=by
  refine⟨DR.set (by rcases fL with ⟨_,h⟩|⟨_,h⟩ <;> exact h.dr) rfl (by simp),?_,λ_=>af _,?_,?_⟩
  ·have hb:∀k,k<B→w'.heap[k]?=w.heap[k]?:=λk hk=>gg k (bK hk hH.base) (by
    intro sB;subst sB;rcases fL with ⟨h,_⟩|⟨h,_⟩
    ·have:=hB k h;omega
    ·have:=hH.base;omega)
   rcases fL with ⟨_,h⟩|⟨_,h⟩ <;> exact⟨h.os,h.tape,h.output,h.size,hb⟩
  ·intro b off kf;by_cases lN:b=g
   ·subst lN;omega
   ·exact A0 (gg b (F8 hH kf) lN)
  ·intro id' gi h1;by_cases fA:id'=id
   ·subst fA;rw[hμ]at h1;cases h1;exact⟨_,ak iB,rfl,.inr (by omega)⟩
   ·exact⟨gi,by simp only[];rw[aj (λh=>fA h.symm)];exact h1,gi.le_refl⟩
 have gh:∀ (id':Nat) gi,(G.μ.set id (.own (.slice (some ⟨g,0,none⟩) (n+m) cap) size (n+m)))[id']?=some gi →
   (id'=id∧gi=.own (.slice (some ⟨g,0,none⟩) (n+m) cap) size (n+m))∨(id'≠id∧G.μ[id']?=some gi):=by
  intro id' gi h;by_cases fA:id'=id
  ·subst fA;rw[ak iB]at h;cases h;exact .inl ⟨rfl,rfl⟩
  ·rw[aj (λh=>fA h.symm)]at h;exact .inr ⟨fA,h⟩
 refine⟨_,he,⟨by simp[hH.len],?_,?_,?_,?_,aC hH.base iA⟩,⟨⟨_,_,rfl,λ_=>⟨g,rfl⟩,gM⟩,_,size,n+m,ak iB,af _,λ_=>rfl⟩⟩
 ·intro id' ab gi h1 h2;rcases gh id' gi h2 with ⟨rfl,rfl⟩ | ⟨fA,h2⟩
  ·have fy:id'<H.length:=by rw[←hH.len];exact iB
   rw[ak fy]at h1;cases h1;refine⟨rfl,rfl,⟨_,fV,(hx.mono λ_ _=>he.arel).append (hn.mono λ_ _=>he.arel)⟩,λb hb=>?_⟩;simp[Value.ownBlock]at hb;subst hb;exact mI
  ·rw[aj (λh=>fA h.symm)]at h1;refine(hH.ok id' ab gi h1 h2).keep he (λb hb=>?_);have fI:=jE id' gi b fA h2 hb;exact⟨gg b (hH.lt id' gi b h2 hb) fI,rfl⟩
 ·intro i1 i2 gi1 gi2 b h1 h2 h3 h4;rcases gh i1 gi1 h1 with ⟨e1,e2⟩ | ⟨gx,k1⟩ <;> rcases gh i2 gi2 h2 with ⟨e3,e4⟩ | ⟨ig,k2⟩
  ·rw[e1,e3]
  ·rw[e2]at h3;simp[GI.block,Value.ownBlock]at h3;exact absurd h3.symm (jE i2 gi2 b ig k2 h4)
  ·rw[e4]at h4;simp[GI.block,Value.ownBlock]at h4;exact absurd h4.symm (jE i1 gi1 b gx k1 h3)
  ·exact hH.dist i1 i2 gi1 gi2 b k1 k2 h3 h4
 ·intro b hb;exact hH.fresh b (by omega)
 ·intro i1 gi b h1 h2;rcases gh i1 gi h1 with ⟨rfl,rfl⟩ | ⟨gx,h1⟩
  ·simp[GI.block,Value.ownBlock]at h2;omega
  ·have:=hH.lt i1 gi b h1 h2;omega

end
end Go.Proofs.YtdmamdnkcefmmaaGreatDoor
