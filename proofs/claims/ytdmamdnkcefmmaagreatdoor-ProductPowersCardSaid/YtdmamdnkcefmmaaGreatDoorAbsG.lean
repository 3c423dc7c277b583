import Derived.Test.YtdmamdnkcefmmaaGreatDoorAbsC
import Derived.Laws.AppendOwnNone
import Derived.Laws.Strings
import Derived.Laws.MakeOwn
import Derived.Laws.BytesString
set_option linter.unusedSimpArgs false
set_option linter.unusedVariables false
set_option maxRecDepth 8000
namespace Go.Proofs.YtdmamdnkcefmmaaGreatDoor
section
open Go.RowKit

variable {P:Program} {B:Nat} {w:World} {G:Gh} {H:zaa}

def zGY(B:Nat)(w:World)(G:Gh)(K:AV→zaa→Prop)(e:Ending)(w':World):Prop:=
 ∃v r H' G',e=.returned v∧Ext B w G w' G'∧HRel B w' G' H'∧TRel w' G' v r∧K r H'

def OpOK(P:Program)(B:Nat)(w:World)(G:Gh)(K:AV→zaa→Prop):Result Next→Prop
 |.ok (.value v) w'=>∃av G' H',Ext B w G w' G'∧HRel B w' G' H'∧TRel w' G' v av∧K av H'
 |.ok .skip w'=>∃G' H',Ext B w G w' G'∧HRel B w' G' H'∧K (.tup []) H'
 |.ok (.enter f vs) w'=>w'=w∧Calls P f vs w (zGY B w G K)
 |_=>False

theorem OpOK.same{K:AV→zaa→Prop}{v:Value}{av:AV}(hH:HRel B w G H)(hv:TRel w G v av)(hK:K av H):OpOK P B w G K (.ok (.value v) w):=
 ⟨av,G,H,Ext.refl _ _ _,hH,hv,hK⟩

theorem zg2(v:Value):BRel w G v (zgF v):=by unfold zgF;split <;> first|rfl|trivial
theorem zAu(v:Value):TRel w G v (zeE v):=by
 unfold zeE;split
 ·rename_i cs;refine⟨cs,rfl,?_⟩;refine All2.of_get (by simp) λi x y hx hy=>?_;rw[List.getElem?_map,hx]at hy;simp at hy;rw[←hy];exact ARel.of_b (zg2 x)
 ·exact TRel.of_v (VRel.of_a (ARel.of_b (zg2 v)))
theorem zd5(v:Value):All2 (ARel w G) v.cells.toList (zbG v):=by
 unfold zbG;split
 ·rename_i cs;simp only[Value.cells];refine All2.of_get (by simp) λi x y hx hy=>?_;rw[List.getElem?_map,hx]at hy;simp at hy;rw[←hy];exact ARel.of_b (zg2 x)
 ·rename_i h;have:v.cells=#[v]:=by cases v <;> first | rfl | exact absurd rfl (h _)
  rw[this];exact⟨ARel.of_b (zg2 v),trivial⟩

theorem zaQ{a:Act}{F:List AV}(hF:FRel w G a.tmps F)(x:Operand):TRel w G (a.eval x) (ev F x):=by
 cases x with
 |tmp t=>
  unfold Act.eval ev;simp only[];cases h:F[t]? with
  |none=>simp only[List.getD_eq_getElem?_getD,h];trivial
  |some b=>
   obtain⟨v,h1,h2⟩:=All2.get hF h;have:a.tmps[t]?=some v:=by simpa using h1
   simp only[List.getD_eq_getElem?_getD,h,Option.getD_some,bS,this];exact h2
 |const v=>exact zAu v
 |global g=>trivial
 |func f=>exact⟨#[],rfl,trivial⟩

theorem zyG{a:Act}{F:List AV}(hF:FRel w G a.tmps F)(xs:List Operand):All2 (TRel w G) (xs.map a.eval) (xs.map (ev F)):=by
 induction xs with
 |nil=>trivial
 |cons x xs ih=>exact⟨zaQ hF x,ih⟩

theorem zAF{t:TypeId}{i:TypeInfo}(h:P.info? t=some i):(typeInfo t).run P w=.ok i w:=by simp[typeInfo,h]
theorem zb6{t:TypeId}{n:Nat}(h:za4 P t=some n):(sizeOf t).run P w=.ok n w:=by
 unfold za4 at h;cases hi:P.info? t with
 |none=>simp[hi]at h
 |some i=>simp[hi]at h;simp[sizeOf,zAF hi,h]
theorem zfo{t:TypeId}{z:Value}(h:zbJ P t=some z):(zeroValue t).run P w=.ok z w:=by
 unfold zbJ at h;cases hi:P.info? t with
 |none=>simp[hi]at h
 |some i=>simp[hi]at h;simp[zeroValue,zAF hi,h]
theorem za7{t:TypeId}{d:TypeDesc}(h:P.underlying t=some d):(underlying t).run P w=.ok d w:=by simp[underlying,h]
theorem zg6{t:TypeId}{g:Bool}(h:zem P t=some g):(isAgg t).run P w=.ok g w:=by
 unfold zem at h;cases hu:P.underlying t with
 |none=>simp[hu]at h
 |some d=>simp only[hu,Option.map_some,bK]at h;cases d <;> simp_all [isAgg,za7 hu]
theorem zcf{t e:TypeId}(h:zbj P t=some e):P.underlying t=some (.slice e):=by
 unfold zbj at h;cases hu:P.underlying t with
 |none=>simp[hu]at h
 |some d=>simp only[hu,Option.bind_some]at h;cases d <;> simp_all
theorem zsP{t:TypeId}(h:zdQ P t=some 0):P.underlying t=some .string:=by
 unfold zdQ at h;cases hu:P.underlying t with
 |none=>simp[hu]at h
 |some d=>simp only[hu,Option.bind_some]at h;cases d <;> simp_all
theorem zlt{t:TypeId}(h:zdQ P t=some 1):∃e,P.underlying t=some (.slice e):=by
 unfold zdQ at h;cases hu:P.underlying t with
 |none=>simp[hu]at h
 |some d=>simp only[hu,Option.bind_some]at h;cases d <;> simp_all
theorem zBI{t:TypeId}{i:Nat}{f:Field}(h:zhb P t i=some f):∃fs,P.underlying t=some (.struct fs)∧fs[i]?=some f:=by
 unfold zhb at h;cases hu:P.underlying t with
 |none=>simp[hu]at h
 |some d=>simp only[hu,Option.bind_some]at h;cases d <;> simp_all

theorem add_lit(b o n:Nat):Addr.add ⟨b,o,none⟩ n=⟨b,o+n,none⟩:=Addr.add_lit b o n

theorem ARel.oneCell{v:Value}:∀{a:AV},a≠.unk→ARel w G v a→v.oneCell'=true:=by
 intro a ey h;cases a with
 |unk=>exact absurd rfl ey
 |fn f caps=>obtain⟨vs,rfl,_⟩:=h;rfl
 |agg cs=>exact h.elim
 |tup cs=>exact h.elim
 |sl es tok=>
  cases tok with
  |none=>obtain⟨a,cap,rfl,_⟩:=DRel.slice_form h;rfl
  |full=>obtain⟨a,cap,rfl,_⟩:=DRel.slice_form h.1;rfl
  |own id=>obtain⟨a,cap,rfl,_⟩:=DRel.slice_form h.1;rfl
 |bool b=>cases h;rfl
 |int k n=>cases h;rfl
 |str s=>cases h;rfl
 |nilp=>cases h;rfl
 |snil=>cases h;rfl
 |nilfn=>cases h;rfl
 |nili=>cases h;rfl
 |ifc=>obtain⟨t,x,rfl⟩:=h;rfl
 |ptr id off=>obtain⟨b,_,rfl⟩:=h;rfl
 |view cs=>obtain⟨b,off,rfl,_⟩:=h;rfl
 |ms id off len cap=>obtain⟨b,_,rfl⟩:=h;rfl
 |ov id n=>obtain⟨⟨a,cap,rfl,_⟩,_⟩:=h;rfl
 |vp id n off=>obtain⟨⟨b,o,rfl⟩,_⟩:=h;rfl
 |os id n lo ed=>obtain⟨⟨_,a,c,rfl,_⟩,_⟩:=h;rfl
 |map id=>obtain⟨b,_,rfl⟩:=h;rfl

theorem zhJ{v:Value}{x:AV}{xs:List AV}(h:TRel w G v x)(hx:x.cs?=some xs):All2 (ARel w G) v.cells.toList xs:=by
 have atom:∀{y:AV},y≠.unk→y.cs?=some [y]→ARel w G v y→All2 (ARel w G) v.cells.toList [y]:=by
  intro y ey _ hr;have h1:=ARel.oneCell ey hr;have:v.cells=#[v]:=by cases v <;> first|rfl|simp[Value.oneCell']at h1
  rw[this];exact⟨hr,trivial⟩
 cases x with
 |unk=>simp[AV.cs?]at hx
 |tup vs=>simp[AV.cs?]at hx
 |agg cs=>simp[AV.cs?]at hx;subst hx;obtain⟨vs,rfl,h2⟩:=h;exact h2
 |_=>simp[AV.cs?]at hx;subst hx;exact atom (by simp) rfl h

theorem zk2{v:Value}{e:TypeId}{size n:Nat}{xs:List Value}(h:w.ownsRow B e size v n xs):∃a cap,v=.slice a n cap∧n≤cap:=by
 rcases h.2 with ⟨rfl,rfl⟩|⟨g,cap,cur,rfl,h1,h2,h3,h4⟩
 ·exact⟨none,0,rfl,ac _⟩
 ·exact⟨_,cap,rfl,h3⟩

theorem zdL{e:TypeId}{size n cap g:Nat}{xs:List Value}(h:w.ownsRow B e size (.slice (some ⟨g,0,none⟩) n cap) n xs):
  xs.length=n*size∧B≤g∧g<w.heap.size∧∀(j:Nat),j<n*size→w.cell? ⟨g,j,none⟩=xs[j]?:=by
 obtain⟨h0,h1⟩:=h;rcases h1 with ⟨h1,_⟩|⟨g',cap',cur,h1,h2,h3,h4,h5,h6,h7⟩
 ·simp at h1
 ·simp at h1;obtain⟨rfl,rfl⟩:=h1;refine⟨h0,h2,(Array.getElem?_eq_some_iff.1 h3).1,λj hj=>?_⟩;rw[←h7];simp only[World.cell?,h3];rw[List.getElem?_take_of_lt hj];simp


theorem zAG{t:TypeId}{g:Bool}{n:Nat}{b off:Nat}{ws:List Value}{cs:List AV}{K:AV→Prop}(hg:zem P t=some g)(hn:za4 P t=some n)(hr:All2 (ARel w G) ws cs)(hc:∀ (j:Nat) v,ws[j]?=some v→w.cell? ⟨b,j,none⟩=some v)(hk:zbA g n off cs K):
  ∃v av,(loadVar t ⟨b,off,none⟩).run P w=.ok v w∧TRel w G v av∧K av:=by
 cases g with
 |true=>
  obtain⟨h1,h2⟩:=hk;have hl:=hr.length;have ek:((ws.drop off).take n).length=n:=by simp;omega
  have iS:=run_loadCells_list (P:=P) w ⟨b,off,none⟩ ((ws.drop off).take n) (λj v hj=>by
   rw[add_lit];apply hc;have:j<n:=by have:=(List.getElem?_eq_some_iff.1 hj).1;omega
   rw[List.getElem?_take]at hj;simp[this]at hj;exact hj)
  rw[ek]at iS;refine⟨.agg ((ws.drop off).take n).toArray,.agg ((cs.drop off).take n),?_,⟨_,rfl,?_⟩,h2⟩
  ·simp[loadVar,zg6 hg,zb6 hn,iS]
  ·simpa using(hr.drop off).take n
 |false=>
  unfold zbA at hk;simp only[]at hk;cases ia:cs[off]? with
  |none=>rw[ia]at hk;exact hk.elim
  |some c=>rw[ia]at hk;obtain⟨v,h1,h2⟩:=hr.get ia;refine⟨v,c,?_,TRel.of_v (VRel.of_a h2),hk⟩;simp[loadVar,zg6 hg,hc off v h1]

theorem DRel.toB{v:Value}{a:AV}(h:DRel w G.L v a):BRel w G v a:=by
 cases h with
 |bool b=>rfl
 |int k n=>rfl
 |str s=>rfl
 |slE a cap=>exact .slE a cap
 |sl b off cap ed es vs ey eM hL eB hc hd=>exact .sl b off cap ed es vs ey eM hL eB hc hd

theorem zAX{t:TypeId}{g:Bool}{n:Nat}{v:Value}{x:AV}{K:AV→zaa→Prop}(hH:HRel B w G H)(hx:TRel w G v x)(hg:zem P t=some g)(hn:za4 P t=some n)(h:zae g n x H (K · H)):∃u,(Instr.loadAt t v).run P w=.ok u w∧∃av,TRel w G u av∧K av H:=by
 rw[zhw]at h;split at h
 ·rename_i id off;obtain⟨b,hμ,rfl⟩:=hx;split at h
  ·rename_i cs eN;have:=hH.ok id _ _ eN hμ;obtain⟨_,_,vs,e,hw,hr⟩:=this;obtain⟨u,av,h1,h2,h3⟩:=zAG (P:=P) (b:=b) (off:=off) (K:=(K · H)) hg hn hr (λj v hj=>by simp[World.cell?,hw];simpa using hj) h;exact⟨u,by simp[Instr.loadAt,Instr.sureAddr,h1],av,h2,h3⟩
  ·exact h.elim
 ·rename_i cs;obtain⟨b,off,rfl,hL,vs,hr,hc⟩:=hx;have mU:All2 (ARel w G) vs cs:=hr.mono λ_ _ hd=>ARel.of_b hd.toB
  -- the cells from 'off' on, read asx a row of their own
  cases g with
  |true=>
   obtain⟨h1,h2⟩:=h;have hl:=hr.length;have ek:(vs.take n).length=n:=by simp;omega
   have iS:=run_loadCells_list (P:=P) w ⟨b,off,none⟩ (vs.take n) (λj v hj=>by
    rw[add_lit];apply hc;rw[List.getElem?_take]at hj;split at hj
    ·exact hj
    ·simp at hj)
   rw[ek]at iS;refine⟨.agg (vs.take n).toArray,?_,.agg (cs.take n),⟨_,rfl,?_⟩,?_⟩
   ·simp[Instr.loadAt,Instr.sureAddr,loadVar,zg6 hg,zb6 hn,iS]
   ·simpa using mU.take n
   ·simpa using h2
  |false=>
   unfold zbA at h;simp only[]at h;cases ia:cs[0]? with
   |none=>rw[ia]at h;exact h.elim
   |some c=>rw[ia]at h;obtain⟨v,h1,h2⟩:=mU.get ia;refine⟨v,?_,c,TRel.of_v (VRel.of_a h2),h⟩;have:=hc 0 v h1;simp at this;simp[Instr.loadAt,Instr.sureAddr,loadVar,zg6 hg,this]
 ·rename_i id m off;obtain⟨_,v',size,m',hμ,_,heq⟩:=hx;split at h
  ·rename_i e s m2 cs eN;obtain⟨rfl,h⟩:=h;obtain⟨rfl,rfl,⟨xs,er,hr⟩,_⟩:=hH.ok id _ _ eN hμ;obtain⟨g,iT,rfl⟩:=heq rfl;obtain⟨a,cap,rfl,_⟩:=zk2 er;have ha:a=some ⟨g,0,none⟩:=by
    rcases er.2 with ⟨h1,_⟩|⟨g',cap',cur,h1,_⟩
    ·rw[h1]at iT;cases iT
    ·rw[h1]at iT;simp[Value.ownBlock]at iT;subst iT;simp at h1;exact h1.1
   subst ha;obtain⟨gc,_,_,eG⟩:=zdL er;obtain⟨u,av,h1,h2,h3⟩:=zAG (P:=P) (b:=g) (off:=off) (K:=(K · H)) hg hn hr (λj v hj=>by
    rw[eG j (by rw[←gc];exact(List.getElem?_eq_some_iff.1 hj).1)];exact hj) h
   exact⟨u,by simp[Instr.loadAt,Instr.sureAddr,h1],av,h2,h3⟩
  ·exact h.elim
 ·exact h.elim

theorem zsc{xs:List Value}{cs:List AV}(h:All2 (ARel w G) xs cs)(hu:∀c∈cs,c≠.unk):∀v∈xs,v.oneCell'=true:=by intro v hv;obtain⟨i,hi⟩:=aQ.1 hv;obtain⟨c,h1,h2⟩:=h.get' hi;exact ARel.oneCell (hu c (aQ.2 ⟨i,h1⟩)) h2


theorem zLm{t:TypeId}{n:Nat}{v u:Value}{a x:AV}{K:zaa→Prop}(hH:HRel B w G H)(ha:TRel w G v a)(hx:TRel w G u x)(hn:za4 P t=some n)(h:zan n a x H K):∃w' H',(Instr.storeAt t v u).run P w=.ok () w'∧Ext B w G w' G∧HRel B w' G H'∧K H':=by
 have ones:∀{xs:List AV},All2 (ARel w G) u.cells.toList xs→xs.all AV.known=true→∀v∈u.cells.toList,v.oneCell'=true:=λiU h3=>zsc iU (λc hc=>by
  have:=am.1 h3 c hc;intro p8;subst p8;simp[AV.known]at this)
 rw[ze4]at h;split at h
 ·rename_i id off xs kQ;obtain⟨b,hμ,rfl⟩:=ha;split at h
  ·rename_i cs eN;obtain⟨⟨h1,h2,h3⟩,hk⟩:=h;obtain⟨hB,_,vs,e,hw,hr⟩:=hH.ok id _ _ eN hμ;have iU:=zhJ hx kQ;have hl:=hr.length;have kJ:=iU.length;have eL:=run_storeCells_at P b off e u.cells.toList 0 vs w hw (by simp at hl kJ ⊢;omega) (ones iU h3);simp only[Nat.add_zero]at eL;have kR:All2 (ARel w G) (vs.toList.take off++u.cells.toList++vs.toList.drop (off+u.cells.toList.length)).toArray.toList (cs.take off++xs++cs.drop (off+n)):=by
    have:u.cells.toList.length=n:=by rw[kJ];exact h1
    rw[this];simpa using((hr.take off).append iU).append (hr.drop (off+n))
   obtain⟨he,eU⟩:=hH.store eN hμ hw hB kR;refine⟨_,_,?_,he,eU,hk⟩;have eB:u.cells.size=n:=by simp at kJ;omega
   simp[Instr.storeAt,Instr.sureAddr,storeVar,zb6 hn,eB,eL]
  ·exact h.elim
 ·rename_i id m off xs kQ;obtain⟨_,v',size,m',hμ,_,heq⟩:=ha;split at h
  ·rename_i e s m2 cs eN;obtain⟨⟨rfl,h1,h2,h3⟩,hk⟩:=h;obtain⟨rfl,rfl,⟨ys,er,hr⟩,_⟩:=hH.ok id _ _ eN hμ;obtain⟨g,iT,rfl⟩:=heq rfl;obtain⟨hyl,fk⟩:=er;rcases fk with ⟨h5,_⟩ | ⟨g',cap,cur,h5,ko,hw,fP,ib,je,jP⟩
   ·rw[h5]at iT;cases iT
   rw[h5]at iT hμ;simp[Value.ownBlock]at iT;subst iT;have iU:=zhJ hx kQ;have hl:=hr.length;have kJ:=iU.length;have pu:u.cells.toList.length=n:=by rw[kJ];exact h1
   have hms:m2*s≤cur.size:=by rw[je];exact ar _ fP
   have eL:=run_storeCells_at P g' off e u.cells.toList 0 cur w hw (by omega) (ones iU h3);simp only[Nat.add_zero]at eL;rw[pu]at eL;have fd:off+n≤m2*s:=by omega
   have ff:(cur.toList.take off++u.cells.toList++cur.toList.drop (off+n)).toArray.toList.take (m2*s)=ys.take off++u.cells.toList++ys.drop (off+n):=by
    rw[←jP];simp only[dJ,aT,Array.length_toList,aw,pu];rw[cD,cD,dz,ai (l:=u.cells.toList) (by omega)];congr 2
    ·congr 1;omega
    ·congr 1;omega
   obtain⟨he,eU⟩:=hH.storeV (cs':=cs.take off++xs++cs.drop (off+n)) eN hμ hw ko fP ib (by simp[aw,pu];omega) ff (by simp[pu];omega) (by
    have:=((hr.take off).append iU).append (hr.drop (off+n));simpa using this)
   refine⟨_,_,?_,he,eU,hk⟩;have eB:u.cells.size=n:=by simp at kJ;omega
   simp[Instr.storeAt,Instr.sureAddr,storeVar,zb6 hn,eB,eL]
  ·exact h.elim
 ·exact h.elim

theorem zKX{t:TypeId}{v:Value}{x:AV}{K:AV→zaa→Prop}(hH:HRel B w G H)(hx:TRel w G v x)(h:zav x H K):
  OpOK P B w G K (((do pure (.value (←Instr.box t v))):Sem Next).run P w):=by
 unfold zav at h;split at h
 ·rename_i cs eN;obtain⟨he,eU⟩:=hH.new v.cells t cs (zhJ hx eN);have et:((do pure (.value (←Instr.box t v))):Sem Next).run P w=.ok (.value (.pointer (some ⟨w.heap.size,0,none⟩))) (w.alloc (.cells v.cells t)):=by simp[Instr.box,newVar,newRow,World.alloc_eq]
  rw[et];refine⟨.ptr H.length 0,_,_,he,eU,⟨w.heap.size,?_,rfl⟩,h⟩;rw[←hH.len];simp
 ·exact h.elim
theorem zKU{t:TypeId}{z:Value}{K:AV→zaa→Prop}(hH:HRel B w G H)(hz:zbJ P t=some z)(h:K (.ptr H.length 0) (H++[.cells (zbG z)])):
  OpOK P B w G K (((do pure (.value (←Instr.alloc t true (.tuple #[])))):Sem Next).run P w):=by
 obtain⟨he,eU⟩:=hH.new z.cells t (zbG z) (zd5 z);have et:((do pure (.value (←Instr.alloc t true (.tuple #[])))):Sem Next).run P w=.ok (.value (.pointer (some ⟨w.heap.size,0,none⟩))) (w.alloc (.cells z.cells t)):=by simp[Instr.alloc,zfo hz,newVar,newRow,World.alloc_eq]
 rw[et];refine⟨.ptr H.length 0,_,_,he,eU,⟨w.heap.size,?_,rfl⟩,h⟩;rw[←hH.len];simp

theorem zK9{s:TypeId}{i:Nat}{f:Field}{n:Nat}{v:Value}{x:AV}{K:AV→Prop}(hx:TRel w G v x)(hf:zhb P s i=some f)(hn:za4 P f.type=some (n+1))(h:zaf f.offset x K):∃u,(Instr.fieldAt s v i).run P w=.ok u w∧∃av,TRel w G u av∧K av:=by
 obtain⟨fs,hu,kS⟩:=zBI hf;rw[zxB]at h;split at h
 ·rename_i id off;obtain⟨b,hμ,rfl⟩:=hx;refine⟨.pointer (some ⟨b,off+f.offset,none⟩),?_,.ptr id (off+f.offset),⟨b,hμ,rfl⟩,h⟩;simp[Instr.fieldAt,za7 hu,kS,Instr.sureAddr,fieldPlace,zb6 hn,add_lit]
 ·rename_i cs;obtain⟨b,off,rfl,hc⟩:=hx;refine⟨.pointer (some ⟨b,off+f.offset,none⟩),?_,.view (cs.drop f.offset),⟨b,_,rfl,hc.drop _ h.1⟩,h.2⟩;simp[Instr.fieldAt,za7 hu,kS,Instr.sureAddr,fieldPlace,zb6 hn,add_lit]
 ·rename_i id m off;obtain⟨⟨b,o,rfl⟩,v',size,m',hμ,eP,heq⟩:=hx;refine⟨.pointer (some ⟨b,o+f.offset,none⟩),?_,.vp id m (off+f.offset),⟨⟨b,_,rfl⟩,v',size,m',hμ,eP,λe=>?_⟩,h⟩
  ·simp[Instr.fieldAt,za7 hu,kS,Instr.sureAddr,fieldPlace,zb6 hn,add_lit]
  ·obtain⟨g,h1,h2⟩:=heq e;simp at h2;exact⟨g,h1,by rw[h2.1,h2.2]⟩
 ·exact h.elim
theorem zLk{t:TypeId}{g:Bool}{n off:Nat}{vs:Array Value}{cs:List AV}{K:AV→Prop}(hr:All2 (ARel w G) vs.toList cs)(hg:zem P t=some g)(hn:za4 P t=some n)(h:zbA g n off cs K):∃u,(part t vs off).run P w=.ok u w∧∃av,TRel w G u av∧K av:=by
 cases g with
 |true=>
  obtain⟨h1,h2⟩:=h;refine⟨.agg (vs.extract off (off+n)),by simp[part,zg6 hg,zb6 hn],.agg ((cs.drop off).take n),⟨_,rfl,?_⟩,h2⟩;have:(vs.extract off (off+n)).toList=(vs.toList.drop off).take n:=by rw[Array.toList_extract,List.extract_eq_take_drop];congr 1;omega
  rw[this];exact(hr.drop off).take n
 |false=>
  unfold zbA at h;simp only[]at h;cases ia:cs[off]? with
  |none=>rw[ia]at h;exact h.elim
  |some c=>
   rw[ia]at h;obtain⟨v,h1,h2⟩:=hr.get ia;refine⟨v,?_,c,TRel.of_v (VRel.of_a h2),h⟩;have:vs[off]?=some v:=by simpa using h1
   simp[part,zg6 hg,this]
theorem zLa{s:TypeId}{i:Nat}{f:Field}{g:Bool}{n:Nat}{v:Value}{x:AV}{K:AV→Prop}(hx:TRel w G v x)(hf:zhb P s i=some f)(hg:zem P f.type=some g)(hn:za4 P f.type=some n)(h:zeb g n f.offset x K):∃u,(Instr.field s v i).run P w=.ok u w∧∃av,TRel w G u av∧K av:=by
 obtain⟨fs,hu,kS⟩:=zBI hf;unfold zeb at h;split at h
 ·rename_i cs;obtain⟨vs,rfl,hr⟩:=hx;obtain⟨u,h1,h2⟩:=zLk (P:=P) hr hg hn h;exact⟨u,by simp[Instr.field,za7 hu,kS,asAgg,h1],h2⟩
 ·exact h.elim

theorem ziL{v:Value}{es:List (List AV)}{tok:Tok}(h:TRel w G v (.sl es tok)):DRel w G.L v (.sl es .none):=by
 cases tok with
 |none=>exact h
 |full=>exact h.1
 |own id=>exact h.1

theorem zLb{t e:TypeId}{size:Nat}{v u:Value}{x i:AV}{K:AV→Prop}(hx:TRel w G v x)(hi:TRel w G u i)(he:zbj P t=some e)(hn:za4 P e=some size)(h:zak size x i K):∃r,(Instr.indexAt t v u).run P w=.ok r w∧∃av,TRel w G r av∧K av:=by
 have hu:=zcf he;rw[zjB]at h;split at h
 ·rename_i es tok k n;obtain⟨⟨h0,ei⟩,eB,hk⟩:=h;cases hi;have hd:=ziL hx;have eC:n.toNat<es.length:=by omega
  obtain⟨b,off,cap,rfl,eM,⟨ed,eO⟩,iG⟩:=hd.elem eC;have hc:=iG n.toNat eC;have eX:es.getD n.toNat []=es[n.toNat]:=by simp[List.getD_eq_getElem?_getD,eC]
  rw[eX]at eB hk;rw[eB]at hc;refine⟨.pointer (some ⟨b,off+n.toNat*size,none⟩),?_,.view es[n.toNat],⟨b,_,rfl,hc⟩,hk⟩;simp[Instr.indexAt,asIntOf,za7 hu,h0,ei,zb6 hn,add_lit]
 ·rename_i id off len cap k n;obtain⟨⟨h0,ei⟩,hk⟩:=h;cases hi;obtain⟨b,hμ,rfl⟩:=hx;refine⟨.pointer (some ⟨b,off+n.toNat*size,none⟩),?_,.ptr id (off+n.toNat*size),⟨b,hμ,rfl⟩,hk⟩;simp[Instr.indexAt,asIntOf,za7 hu,h0,ei,zb6 hn,add_lit]
 ·rename_i id m k n;obtain⟨⟨h0,ei⟩,hk⟩:=h;cases hi;obtain⟨⟨a,cap,rfl,ha,_⟩,v',sz,m',hμ,eP,heq⟩:=hx;obtain⟨b,rfl⟩:=ha (by omega);refine⟨.pointer (some ⟨b,0+n.toNat*size,none⟩),?_,.vp id m (n.toNat*size),⟨⟨b,_,rfl⟩,v',sz,m',hμ,eP,λe=>?_⟩,hk⟩
  ·simp[Instr.indexAt,asIntOf,za7 hu,h0,ei,zb6 hn,add_lit]
  ·rw[←heq e];exact⟨b,rfl,by simp⟩
 ·exact h.elim

theorem ziM(s:List UInt8):(ByteArray.mk s.toArray).size=s.length:=by simp[ByteArray.size]
theorem zLv(s:List UInt8)(i:Nat)(h:i<s.length):(ByteArray.mk s.toArray)[i]?=some s[i]:=by rw[getElem?_pos _ _ (by rw[ziM];exact h)];rfl
theorem zg7(s:List UInt8):(ByteArray.mk s.toArray).toList=s:=Go.ByteArray.toList_mk s

theorem zLc{t:TypeId}{v u:Value}{x i:AV}{K:AV→Prop}(hx:TRel w G v x)(hi:TRel w G u i)(ht:zdQ P t=some 0)(h:zbS x i K):∃r,(Instr.index t v u).run P w=.ok r w∧∃av,TRel w G r av∧K av:=by
 have hu:=zsP ht;unfold zbS at h;split at h
 ·rename_i s k n;obtain⟨⟨h0,ei⟩,hk⟩:=h;cases hi;cases hx;have eC:n.toNat<s.length:=by omega
  have eX:s.getD n.toNat 0=s[n.toNat]:=by simp[List.getD_eq_getElem?_getD,eC]
  rw[eX]at hk;refine⟨.int .u8 s[n.toNat].toNat,?_,.int .u8 s[n.toNat].toNat,rfl,hk⟩;simp[Instr.index,asIntOf,za7 hu,h0,zLv s _ eC]
 ·exact h.elim

theorem zLd{t:TypeId}{k:Nat}{v:Value}{x:AV}{ty:TypeId}{K:AV→Prop}(hx:TRel w G v x)(ht:zdQ P t=some k)(h:zah k x K):∃r,(Builtin.len_ #[t] ty #[v]).run P w=.ok r w∧∃av,TRel w G r av∧K av:=by
 rw[zHl]at h;split at h
 ·rename_i s;cases hx;exact⟨.int .i64 s.length,by simp[Builtin.len_,za7 (zsP ht),goInt,ziM],.int .i64 s.length,rfl,h⟩
 ·rename_i es tok;obtain⟨e,hu⟩:=zlt ht;obtain⟨a,cap,rfl,_⟩:=(ziL hx).slice_form;exact⟨.int .i64 es.length,by simp[Builtin.len_,za7 hu,goInt],.int .i64 es.length,rfl,h⟩
 ·obtain⟨e,hu⟩:=zlt ht;cases hx;exact⟨.int .i64 0,by simp[Builtin.len_,za7 hu,goInt],.int .i64 0,rfl,h⟩
 ·rename_i len _;obtain⟨e,hu⟩:=zlt ht;obtain⟨b,hμ,rfl⟩:=hx;exact⟨.int .i64 len,by simp[Builtin.len_,za7 hu,goInt],.int .i64 len,rfl,h⟩
 ·rename_i _ n;obtain⟨e,hu⟩:=zlt ht;obtain⟨⟨a,cap,rfl,_⟩,_⟩:=hx;exact⟨.int .i64 n,by simp[Builtin.len_,za7 hu,goInt],.int .i64 n,rfl,h⟩
 ·exact h.elim

end
section
open Go.RowKit

variable {P:Program} {B:Nat} {w:World} {G:Gh} {H:zaa}

theorem zek{x:Option Value}{ax:Option AV}{d:Nat}{K:Nat→Prop}(hx:All2 (TRel w G) x.toList ax.toList)(h:zbX ax d K):
  ∃l,((x=none∧l=d)∨∃k n,x=some (.int k n)∧0≤n∧l=n.toNat)∧K l:=by
 cases ax with
 |none=>
  cases x with
  |none=>exact⟨d,.inl ⟨rfl,rfl⟩,h⟩
  |some v=>simp[All2]at hx
 |some a=>
  cases x with
  |none=>simp[All2]at hx
  |some v=>
   have hv:TRel w G v a:=hx.1;unfold zbX at h;cases a <;> first|exact h.elim|skip
   rename_i k n;cases hv;exact⟨n.toNat,.inr ⟨k,n,rfl,h.1,rfl⟩,h.2⟩

theorem DRel.sub{v:Value}{es:List (List AV)}{l h:Nat}(hd:DRel w G.L v (.sl es .none))(hl:l≤h)(hh:h≤es.length){a:Option Addr}{cap:Nat}(size:Nat)(hv:v=.slice a es.length cap)(eB:∀ c∈es,c.length=size):
  DRel w G.L (.slice (if cap=l then a else a.map (·.add (l*size))) (h-l) (cap-l)) (.sl ((es.take h).drop l) .none):=by
 by_cases hlh:l=h
 ·subst hlh;have:(es.take l).drop l=[]:=by apply bJ;simp;omega
  rw[this,c7];exact .slE _ _
 ·cases hd with
  |slE a' cap'=>simp at hh;omega
  |sl b off cap' ed _ vs ey eM hL gg hc ic=>
   cases hv;have fV:cap≠l:=by omega
   have h0:0<es.length:=by omega
   have nk:ed=size:=by rw[←gg 0 h0];exact eB _ (af h0)
   subst nk;have ek:((es.take h).drop l).length=h-l:=by simp;omega
   simp only[fV,aN,Option.map_some,add_lit];have eA:∀i (hi:i<((es.take h).drop l).length),((es.take h).drop l)[i]=es[l+i]'(by rw[ek]at hi;omega):=by intro i hi;simp
   have key:DRel w G.L (.slice (some ⟨b,off+l*ed,none⟩) ((es.take h).drop l).length (cap-l)) (.sl ((es.take h).drop l) .none):=by
    refine .sl b (off+l*ed) (cap-l) ed _ (λi j=>vs (l+i) j) ?_ (by rw[ek];omega) ?_ ?_ ?_ ?_
    ·intro hnil;rw[hnil]at ek;simp at ek;omega
    ·rw[ek];have h1:l*ed+(h-l)*ed=h*ed:=by rw[←a8];congr 1;omega
     have h2:h*ed≤es.length*ed:=ar _ hh;omega
    ·intro i hi;rw[eA i hi];exact gg _ _
    ·intro i j hi hj;rw[ek]at hi;have:=hc (l+i) j (by omega) (by rw[eA i (by rw[ek];exact hi)]at hj;exact hj);rw[show off+l*ed+i*ed+j=off+(l+i)*ed+j by rw[a8];omega];exact this
    ·intro i j hi hj;have ie:=hi;rw[ek]at ie;have:=ic (l+i) j (by omega) (by rw[eA i hi]at hj;exact hj);simpa[eA i hi]using this
   rw[ek]at key;exact key

theorem zfY{isS:Bool}{len cap:Nat}{lo hi:Option Value}{l h:Nat}(jf:(hi=none∧h=len)∨∃ k n,hi=some (.int k n)∧0≤n∧h=n.toNat)(jg:(lo=none∧l=0)∨∃ k n,lo=some (.int k n)∧0≤n∧l=n.toNat)(hl:l≤h)(hh:h≤cap):
  (Instr.sliceBounds isS len cap lo hi none).run P w=.ok (l,h,cap) w:=by
 rcases jf with ⟨rfl,rfl⟩|⟨k,n,rfl,hn,rfl⟩ <;> rcases jg with ⟨rfl,rfl⟩|⟨k',m,rfl,hm,rfl⟩
 ·simp[Instr.sliceBounds]
 ·have:m≤(h:Int):=by omega
  simp[Instr.sliceBounds,Instr.sliceBound,asIntOf,hm,this]
 ·have:n≤(cap:Int):=by omega
  simp[Instr.sliceBounds,Instr.sliceBound,asIntOf,hn,this]
 ·have h1:n≤(cap:Int):=by omega
  have h2:m≤((n.toNat:Nat):Int):=by omega
  simp[Instr.sliceBounds,Instr.sliceBound,asIntOf,hn,h1,hm];try omega

theorem zLu(s:List UInt8)(l h:Nat):(ByteArray.mk s.toArray).extract l h=⟨((s.take h).drop l).toArray⟩:=by apply ByteArray.ext;simp[ByteArray.data_extract,dz]

theorem zsw{t:TypeId}{u size:Nat}{v:Value}{x:AV}{lo hi:Option Value}{alo ahi:Option AV}{K:AV→Prop}(hx:TRel w G v x)(jg:All2 (TRel w G) lo.toList alo.toList)(jf:All2 (TRel w G) hi.toList ahi.toList)(ht:zdQ P t=some u)(hs:u=1→(zbj P t).bind (za4 P)=some size)(h:zaN u size x alo ahi K):∃r,(Instr.sliceAt t v lo hi none).run P w=.ok r w∧∃av,TRel w G r av∧K av:=by
 unfold zaN at h;split at h
 ·rename_i s;have hu:=zsP ht;cases hx;obtain⟨hh,ml,h⟩:=zek jf h;obtain⟨ll,mn,⟨h1,h2⟩,hk⟩:=zek jg h;refine⟨.string ⟨((s.take hh).drop ll).toArray⟩,?_,.str ((s.take hh).drop ll),rfl,hk⟩;have hb:=zfY (P:=P) (w:=w) (isS:=false) (len:=s.length) (cap:=s.length) ml mn h1 h2;simp only[Instr.sliceAt,Instr.slice,Sem.run_bind,za7 hu,Result.andThen_ok,ziM,hb,Option.isSome_none,aH,aN,Sem.run_pure,zLu]
 ·rename_i es tok;obtain⟨hh,ml,h⟩:=zek jf h;obtain⟨ll,mn,⟨h1,h2,h3⟩,hk⟩:=zek jg h;have hs:=hs rfl;cases he:zbj P t with
  |none=>simp[he]at hs
  |some e=>
   simp only[he,Option.bind_some]at hs;have hd:=ziL hx;obtain⟨a,cap,rfl,eM⟩:=hd.slice_form;have hcap':hh≤cap:=by
    by_cases ey:es=[]
    ·subst ey;simp at h2;omega
    ·have:=eM ey;omega
   have hb:=zfY (P:=P) (w:=w) (isS:=true) (len:=es.length) (cap:=cap) ml mn h1 hcap';have ig:=hd.sub h1 h2 size rfl h3;refine⟨_,?_,.sl ((es.take hh).drop ll) .none,ig,hk⟩;simp only[Instr.sliceAt,Instr.slice,Sem.run_bind,za7 (zcf he),Result.andThen_ok,hb,Sem.run_pure,zb6 hs]
 ·obtain⟨hh,ml,h⟩:=zek jf h;obtain⟨ll,mn,⟨h1,h2⟩,hk⟩:=zek jg h;have hs:=hs rfl;cases he:zbj P t with
  |none=>simp[he]at hs
  |some e=>
   simp only[he,Option.bind_some]at hs;cases hx;have hb:=zfY (P:=P) (w:=w) (isS:=true) (len:=0) (cap:=0) ml mn h1 h2;refine⟨.slice none 0 0,?_,.snil,rfl,hk⟩;have:ll=0:=by omega
   subst this;have:hh=0:=by omega
   subst this;simp[Instr.sliceAt,Instr.slice,Sem.run_bind,za7 (zcf he),hb,zb6 hs]
 ·rename_i id n;obtain⟨hh,ml,h⟩:=zek jf h;obtain⟨ll,mn,⟨h1,rfl⟩,hk⟩:=zek jg h;have hs:=hs rfl;cases he:zbj P t with
  |none=>simp[he]at hs
  |some e=>
   simp only[he,Option.bind_some]at hs;obtain⟨⟨a,cap,rfl,ha,nn⟩,v',sz,n',hμ,eP,heq⟩:=hx;have hb:=zfY (P:=P) (w:=w) (isS:=true) (len:=hh) (cap:=cap) ml mn h1 nn;refine⟨ziK size ll (.slice a hh cap),?_,.os id hh ll size,⟨⟨h1,?_⟩,v',sz,n',hμ,eP,λe=>by rw[←heq e]⟩,hk⟩
   ·simp only[Instr.sliceAt,Instr.slice,Sem.run_bind,za7 (zcf he),Result.andThen_ok,hb,Sem.run_pure,zb6 hs];cases a with
    |none=>simp[ziK]
    |some a=>by_cases hc:cap=ll <;> simp[ziK,hc]
   ·cases a with
    |none=>exact⟨none,cap-ll,rfl,by omega⟩
    |some a=>exact⟨_,cap-ll,rfl,by omega⟩
 ·rename_i id off len cap;obtain⟨hh,ml,h⟩:=zek jf h;obtain⟨ll,mn,⟨h1,h2⟩,hk⟩:=zek jg h;have hs:=hs rfl;cases he:zbj P t with
  |none=>simp[he]at hs
  |some e=>simp only[he,Option.bind_some]at hs;obtain⟨b,hμ,rfl⟩:=hx;have hb:=zfY (P:=P) (w:=w) (isS:=true) (len:=len) (cap:=cap) ml mn h1 h2;refine⟨.slice (some ⟨b,if cap=ll then off else off+ll*size,none⟩) (hh-ll) (cap-ll),?_,.ms id (if cap=ll then off else off+ll*size) (hh-ll) (cap-ll),⟨b,hμ,rfl⟩,hk⟩;simp only[Instr.sliceAt,Instr.slice,Sem.run_bind,za7 (zcf he),Result.andThen_ok,hb,Sem.run_pure,zb6 hs];by_cases hc:cap=ll <;> simp[hc,add_lit]
 ·exact h.elim

theorem zKl{op:BinOp}{t:TypeId}{x y:Operand}{k:IntKind}{m:Int}{b:Value}:(eqGuard op t x y (.int k m) b).run P w=.ok () w:=by cases op <;> rfl
theorem zKm{op:BinOp}{t:TypeId}{x y:Operand}{s:ByteArray}{b:Value}:(eqGuard op t x y (.string s) b).run P w=.ok () w:=by cases op <;> rfl
theorem zKk{op:BinOp}{t:TypeId}{x y:Operand}{m:Bool}{b:Value}:(eqGuard op t x y (.bool m) b).run P w=.ok () w:=by cases op <;> rfl

def BinR(P:Program)(w:World)(G:Gh)(op:BinOp)(t:TypeId)(u v:Value)(K:AV→Prop):Prop:=∃r,(binOp op t u v).run P w=.ok r w∧∃av,TRel w G r av∧K av
theorem BinR.mk{op:BinOp}{t:TypeId}{u v r:Value}{K:AV→Prop}(av:AV)(h:(binOp op t u v).run P w=.ok r w)(hr:TRel w G r av)(hk:K av):BinR P w G op t u v K:=⟨r,h,av,hr,hk⟩
theorem zHP{op:BinOp}{t:TypeId}{k:IntKind}{m n:Int}{b:Bool}{K:AV→Prop}(h:zac op b (.int k m) (.int k n) K):BinR P w G op t (.int k m) (.int k n) K:=by
 rw[zcy]at h;have h:=h.2;cases op <;> simp only[]at h <;> first|exact h.elim|skip
 case add=>exact BinR.mk (.int k (k.wrap (m+n))) (by simp[binOp,Op.intArith]) rfl h
 case sub=>exact BinR.mk (.int k (k.wrap (m-n))) (by simp[binOp,Op.intArith]) rfl h
 case mul=>exact BinR.mk (.int k (k.wrap (m*n))) (by simp[binOp,Op.intArith]) rfl h
 case quo=>exact BinR.mk (.int k (k.wrap (m.tdiv n))) (by simp[binOp,Op.intDiv,h.1]) rfl h.2
 case rem=>exact BinR.mk (.int k (m.tmod n)) (by simp[binOp,Op.intDiv,h.1]) rfl h.2
 case eql=>exact BinR.mk (.bool (m == n)) (by simp[binOp,Op.intCmp]) rfl h
 case neq=>exact BinR.mk (.bool (m != n)) (by simp[binOp,Op.intCmp]) rfl h
 case lss=>exact BinR.mk (.bool (decide (m<n))) (by simp[binOp,Op.intCmp]) rfl h
 case leq=>exact BinR.mk (.bool (decide (m≤n))) (by simp[binOp,Op.intCmp]) rfl h
 case gtr=>exact BinR.mk (.bool (decide (m>n))) (by simp[binOp,Op.intCmp]) rfl h
 case geq=>exact BinR.mk (.bool (decide (m≥n))) (by simp[binOp,Op.intCmp]) rfl h
theorem zHQ{op:BinOp}{t:TypeId}{s s':List UInt8}{b:Bool}{K:AV→Prop}(h:zac op b (.str s) (.str s') K):BinR P w G op t (.string ⟨s.toArray⟩) (.string ⟨s'.toArray⟩) K:=by
 rw[zcy]at h;cases op <;> simp only[]at h <;> first|exact h.elim|skip
 case add=>
  obtain⟨h1,h2⟩:=h;refine BinR.mk (r:=.string ⟨(s++s').toArray⟩) (.str (s++s')) ?_ rfl h2;have ei:¬((((ByteArray.mk s.toArray).size+(ByteArray.mk s'.toArray).size:Nat):Int)>IntKind.i64.max):=by
   have:IntKind.i64.max=9223372036854775807:=by decide
   rw[ziM,ziM];omega
  have happ:(ByteArray.mk s.toArray)++(ByteArray.mk s'.toArray)=⟨(s++s').toArray⟩:=by apply ByteArray.ext;simp
  simp only[binOp,Op.stringOp];rw[au ei,happ];rfl
 case eql=>exact BinR.mk (r:=.bool (s == s')) (.bool (s == s')) (by simp only[binOp,Op.stringOp,zg7];rfl) rfl h
 case neq=>exact BinR.mk (r:=.bool (!(s == s'))) (.bool (!(s == s'))) (by simp only[binOp,Op.stringOp,zg7];rfl) rfl h
 case lss=>exact BinR.mk (r:=.bool (Op.bytesLess s s')) (.bool (Op.bytesLess s s')) (by simp only[binOp,Op.stringOp,zg7];rfl) rfl h
 case leq=>exact BinR.mk (r:=.bool (Op.bytesLess s s' || s == s')) (.bool (Op.bytesLess s s' || s == s')) (by simp only[binOp,Op.stringOp,zg7];rfl) rfl h
 case gtr=>exact BinR.mk (r:=.bool (!(Op.bytesLess s s' || s == s'))) (.bool (!(Op.bytesLess s s' || s == s'))) (by simp only[binOp,Op.stringOp,zg7];rfl) rfl h
 case geq=>exact BinR.mk (r:=.bool (!Op.bytesLess s s')) (.bool (!Op.bytesLess s s')) (by simp only[binOp,Op.stringOp,zg7];rfl) rfl h
theorem zHO{op:BinOp}{t:TypeId}{m n b:Bool}{K:AV→Prop}(hu:b=true→P.underlying t=some .bool)(h:zac op b (.bool m) (.bool n) K):BinR P w G op t (.bool m) (.bool n) K:=by
 rw[zcy]at h;have hu:=hu h.1;have h:=h.2;have he:∀x y:Bool,(Op.equal t (.bool x) (.bool y)).run P w=.ok (x == y) w:=λx y=>by have hm:Op.equal t (.bool x) (.bool y)=Op.equalIn (9999+1) t (.bool x) (.bool y):=rfl;rw[hm];unfold Op.equalIn;simp only[Sem.run_bind,za7 hu,Result.andThen_ok,Sem.run_pure]
 cases op <;> simp only[]at h <;> first|exact h.elim|skip
 case eql=>exact BinR.mk (.bool (m == n)) (by simp only[binOp,Sem.run_bind,he,Result.andThen_ok,Sem.run_pure]) rfl h
 case neq=>exact BinR.mk (.bool (!(m == n))) (by simp only[binOp,Sem.run_bind,he,Result.andThen_ok,Sem.run_pure]) rfl h

theorem zKW{op:BinOp}{t:TypeId}{xo yo:Operand}{u v:Value}{x y:AV}{K:AV→Prop}(hx:TRel w G u x)(hy:TRel w G v y)(h:zac op (zsB P t) x y K):
  ∃r,((do eqGuard op t xo yo u v;binOp op t u v):Sem Value).run P w=.ok r w∧∃av,TRel w G r av∧K av:=by
 have h0:=h;rw[zcy]at h;split at h
 ·cases hx;cases hy;have hk:=h.1;subst hk;obtain⟨r,h1,h2⟩:=zHP (P:=P) (w:=w) (G:=G) (t:=t) h0;exact⟨r,by rw[Sem.run_bind,zKl];exact h1,h2⟩
 ·cases hx;cases hy;obtain⟨r,h1,h2⟩:=zHQ (P:=P) (w:=w) (G:=G) (t:=t) h0;exact⟨r,by rw[Sem.run_bind,zKm];exact h1,h2⟩
 ·cases hx;cases hy;obtain⟨r,h1,h2⟩:=zHO (P:=P) (w:=w) (G:=G) (t:=t) (λhb=>by
   unfold zsB at hb;split at hb
   ·assumption
   ·cases hb) h0
  exact⟨r,by rw[Sem.run_bind,zKk];exact h1,h2⟩
 ·exact h.elim

theorem zLi{op:BinOp}{t:TypeId}{xo yo:Operand}{u:Value}{x:AV}{a:Act}{K:AV→Prop}(hx:TRel w G u x)(hy:zqP yo=true)(h:zda (zsC P t) op x K):
  ∃r,((do eqGuard op t xo yo u (a.eval yo);binOp op t u (a.eval yo)):Sem Value).run P w=.ok r w∧∃av,TRel w G r av∧K av:=by
 obtain⟨ht,h⟩:=h;obtain⟨ms,hu⟩:∃ms,P.underlying t=some (.interface ms):=by
  unfold zsC at ht;split at ht
  ·exact⟨_,by assumption⟩
  ·cases ht
 obtain rfl:yo=.const .nilIface:=by
  unfold zqP at hy;split at hy
  ·rfl
  ·cases hy
 have he:a.eval (.const .nilIface)=.nilIface:=rfl;rw[he];split at h
 ·cases hx;have hq:∀ d:Nat,(Op.equalIn (d+1) t .nilIface .nilIface).run P w=.ok true w:=λd=>by simp[Op.equalIn,za7 hu]
  have hg:∀op,eqGuard op t xo (.const .nilIface) .nilIface .nilIface=pure ():=λop=>eqGuard_nil_constR _ _ _ _;split at h
  ·exact⟨.bool true,by rw[hg];simp only[binOp];simp[Op.equal,Op.maxDepth,hq 9999],.bool true,rfl,h⟩
  ·exact⟨.bool false,by rw[hg];simp only[binOp];simp[Op.equal,Op.maxDepth,hq 9999],.bool false,rfl,h⟩
  ·exact h.elim
 ·obtain⟨ti,xi,rfl⟩:=hx;have hq:∀ d:Nat,(Op.equalIn (d+1) t (.iface ti xi) .nilIface).run P w=.ok false w:=λd=>by simp[Op.equalIn,za7 hu]
  have hg:∀op,eqGuard op t xo (.const .nilIface) (.iface ti xi) .nilIface=pure ():=λop=>eqGuard_at_iface _ _ _ _ _ _ _;split at h
  ·exact⟨.bool false,by rw[hg];simp only[binOp];simp[Op.equal,Op.maxDepth,hq 9999],.bool false,rfl,h⟩
  ·exact⟨.bool true,by rw[hg];simp only[binOp];simp[Op.equal,Op.maxDepth,hq 9999],.bool true,rfl,h⟩
  ·exact h.elim
 ·exact h.elim

theorem zLn{op:UnOp}{v:Value}{x:AV}{K:AV→Prop}(hx:TRel w G v x)(h:aUn op x K):∃r,(Op.unary op v).run P w=.ok r w∧∃av,TRel w G r av∧K av:=by
 unfold aUn at h;split at h
 ·cases hx;exact⟨_,by simp[Op.unary],.bool _,rfl,h⟩
 ·cases hx;exact⟨_,by simp[Op.unary,Op.intArith],.int _ _,rfl,h⟩
 ·exact h.elim
theorem zK3{s t:TypeId}{j k:IntKind}{v:Value}{x:AV}{K:AV→Prop}(hx:TRel w G v x)(hs:P.underlying s=some (.int j))(ht:P.underlying t=some (.int k))(h:za8 k x K):
  ∃r,(convert s t v).run P w=.ok r w∧∃av,TRel w G r av∧K av:=by
 unfold za8 at h;split at h
 ·cases hx;exact⟨_,by simp[convert,za7 hs,za7 ht,Conv.intToInt],.int _ _,rfl,h⟩
 ·exact h.elim
theorem zK5{s t:TypeId}{v:Value}{x:AV}{K:AV→Prop}(hx:TRel w G v x)(hs:P.underlying s=some .string)(ht:P.underlying t=some .string)(h:zea x K):
  ∃r,(convert s t v).run P w=.ok r w∧∃av,TRel w G r av∧K av:=by
 unfold zea at h;split at h
 ·cases hx;exact⟨_,by simp[convert,za7 hs,za7 ht],.str _,rfl,h⟩
 ·exact h.elim
theorem zK7{v:Value}{x:AV}{i:Nat}{K:AV→Prop}(hx:TRel w G v x)(h:zaE x i K):∃r,(Instr.extract v i).run P w=.ok r w∧∃av,TRel w G r av∧K av:=by
 unfold zaE at h;split at h
 ·obtain⟨vs,rfl,hr⟩:=hx;split at h
  ·rename_i a ha;obtain⟨u,h1,h2⟩:=hr.get ha;have:vs[i]?=some u:=by simpa using h1
   exact⟨u,by simp[Instr.extract,this],a,TRel.of_v h2,h⟩
  ·exact h.elim
 ·exact h.elim

end
section
open Go.RowKit

variable {P:Program} {B:Nat} {w:World} {G:Gh} {H:zaa}

theorem zLo(l:List Value)(k:Nat)(v:Value)(rest:List Value)(hk:k+(rest.length+1)≤l.length):
  (l.set k v).take (k+1)++rest++(l.set k v).drop (k+1+rest.length)=l.take k++(v::rest)++l.drop (k+(rest.length+1)):=list_seg_step l k v rest hk

theorem zyQ(off:Nat):∀ (vs:List Value) (k:Nat) (cs:Array Value),off+k+vs.length≤cs.size →
  ((vs.zipIdx k).foldl (λ(cs:Array Value) (p:Value×Nat)=>cs.setIfInBounds (off+p.2) p.1) cs).toList=cs.toList.take (off+k)++vs++cs.toList.drop (off+k+vs.length)
 |[],k,cs,h=>by simp
 |v::vs,k,cs,h=>by simp only[List.zipIdx_cons,List.foldl_cons];rw[zyQ off vs (k+1) (cs.setIfInBounds (off+k) v) (by simp at h ⊢;omega)];have:=zLo cs.toList (off+k) v vs (by simp at h ⊢;omega);simpa[bV,aa]using this

theorem zx3(off:Nat)(vs cs:Array Value)(h:off+vs.size≤cs.size):
  (vs.zipIdx.foldl (λcs (c,j)=>cs.setIfInBounds (off+j) c) cs).toList=cs.toList.take off++vs.toList++cs.toList.drop (off+vs.size):=by
 have:=zyQ off vs.toList 0 cs (by simpa using h);simp only[Nat.add_zero,Array.length_toList]at this;rw[←this,←Array.foldl_toList,Array.toList_zipIdx]

theorem zyL{places:List (Nat × Nat)}:∀ (ec:List (Nat × Value)) (ef:List (Nat × AV)) (cells:Array Value) (cs cs':List AV),
  All2 (λ(p:Nat×Value) (q:Nat×AV)=>p.1=q.1∧TRel w G p.2 q.2) ec ef→All2 (ARel w G) cells.toList cs→zaJ places ef cs=some cs' →
  ∃cells',Instr.fill (places.toArray[·]?) cells ec=some cells'∧All2 (ARel w G) cells'.toList cs'
 |[],[],cells,cs,cs',_,hc,hf=>by simp[zaJ]at hf;subst hf;exact⟨cells,rfl,hc⟩
 |(i,v)::ec,(i',x)::ef,cells,cs,cs',hp,hc,hf=>by
  obtain⟨⟨h1,h2⟩,h3⟩:=hp;simp only[]at h1 h2;subst h1;unfold zaJ at hf;split at hf
  ·rename_i off size xs fe kQ;split at hf
   ·rename_i hb;simp only[aj,ba,aS]at hb;have iU:=zhJ h2 kQ;have kJ:=iU.length;have p9:=hc.length;simp at kJ p9;have fd:off+v.cells.size≤cells.size:=by omega
    have l4:=zx3 off v.cells cells fd;have kR:All2 (ARel w G) (v.cells.zipIdx.foldl (λcs (c,j)=>cs.setIfInBounds (off+j) c) cells).toList (cs.take off++xs++cs.drop (off+size)):=by rw[l4,kJ,hb.1];exact((hc.take off).append iU).append (hc.drop (off+size))
    obtain⟨cells',fP,ib⟩:=zyL ec ef _ _ cs' h3 kR hf;refine⟨cells',?_,ib⟩;unfold Instr.fill;have hpl':places.toArray[i]?=some (off,size):=by simpa using fe
    simp only[hpl'];rw[au (by simp;omega)];exact fP
   ·cases hf
  ·cases hf

theorem zJT(fs:List Field):(fs.mapM λf=>(za4 P f.type).map λs=>(f.offset,s))=fs.mapM (λf=>(P.info? f.type).map λi=>(f.offset,i.size)):=by congr 1;funext f;simp[za4,Function.comp_def]

theorem zKY{t:TypeId}{z:Value}{ps:List (Nat × Nat)}{ec:Array (Nat × Value)}{ef:List (Nat × AV)}{K:AV→Prop}(hz:zbJ P t=some z)(hp:zsD P t=some ps)(hr:All2 (λ(p:Nat × Value) (q:Nat × AV)=>p.1=q.1∧TRel w G p.2 q.2) ec.toList ef)(h:zaq (zbG z) ps ef K):
  ∃r,(Instr.build t ec).run P w=.ok r w∧∃av,TRel w G r av∧K av:=by
 unfold zaq at h;split at h
 ·rename_i cs' hf;obtain⟨cells',h1,h2⟩:=zyL ec.toList ef z.cells (zbG z) cs' hr (zd5 z) hf;refine⟨.agg cells',run_build w t ec cells' ?_,.agg cs',⟨cells',rfl,h2⟩,h⟩;unfold Program.built;unfold zbJ at hz;cases hi:P.info? t with
  |none=>simp[hi]at hz
  |some it=>
   simp[hi]at hz;unfold zsD at hp;cases hu:P.underlying t with
   |none=>simp[hu]at hp
   |some d=>
    cases d <;> simp only[hu,Option.bind_some]at hp <;> try (cases hp;done)
    rw[zJT]at hp;simp only[hz,hp];exact h1
 ·exact h.elim

theorem zJS{v:Value}{a d:AV}(h:ARel w G v a)(hd:a.pd=some d):DRel w G.L v d:=by
 cases a with
 |bool b=>cases hd;cases h;exact .bool b
 |int k n=>cases hd;cases h;exact .int k n
 |str s=>cases hd;cases h;exact .str s
 |snil=>cases hd;cases h;exact .slE _ _
 |sl es tok=>
  cases hd;cases tok with
  |none=>exact h
  |full=>exact h.1
  |own id=>exact h.1
 |_=>cases hd
theorem zdM:∀ {vs:List Value} {asx ds:List AV},All2 (ARel w G) vs asx→plain asx=some ds→All2 (DRel w G.L) vs ds
 |[],[],ds,_,h=>by cases h;trivial
 |v::vs,a::asx,ds,hr,h=>by
  unfold plain at h;split at h
  ·rename_i d ds' h1 h2;cases h;exact⟨zJS hr.1 h1,zdM hr.2 h2⟩
  ·cases h
theorem zAd:∀ {asx ds:List AV},plain asx=some ds→ds.length=asx.length
 |[],ds,h=>by cases h;rfl
 |a::asx,ds,h=>by
  unfold plain at h;split at h
  ·rename_i d ds' h1 h2;cases h;simp[zAd h2]
  ·cases h

theorem zhS{size:Nat}:∀ {es:List (List AV)},(∀ c∈es,c.length=size)→es.flatten.length=es.length*size
 |[],_=>by simp
 |e::es,h=>by rw[List.flatten_cons,aw,zhS (λc hc=>h c (by simp[hc])),h e (by simp),List.length_cons,a8];omega
theorem zhR{size:Nat}:∀ {es:List (List AV)},(∀ c∈es,c.length=size)→∀ (i j:Nat) (hi:i<es.length) (hj:j<(es[i]).length),es.flatten[i*size+j]?=some (es[i])[j]
 |[],_,i,_,hi,_=>by simp at hi
 |e::es,h,0,j,hi,hj=>by simp only[List.getElem_cons_zero]at hj ⊢;rw[List.flatten_cons,List.getElem?_append_left (by omega)];simp[hj]
 |e::es,h,i+1,j,hi,hj=>by simp only[List.getElem_cons_succ]at hj ⊢;have he:=h e (by simp);have:=zhR (es:=es) (λc hc=>h c (by simp[hc])) i j (by simpa using hi) hj;rw[List.flatten_cons,List.getElem?_append_right (by rw[he,a8];omega),he];rw[show (i+1)*size+j-size=i*size+j by rw[a8];omega];exact this

theorem DRel.of_flat{L:Nat→Nat}{g size cap:Nat}{es:List (List AV)}{zs:List Value}(eB:∀c∈es,c.length=size)(ey:es≠[])(eM:es.length≤cap)(hL:es.length*size≤L g)(hr:All2 (DRel w L) zs es.flatten)(hc:∀j v,zs[j]?=some v→w.cell? ⟨g,j,none⟩=some v):DRel w L (.slice (some ⟨g,0,none⟩) es.length cap) (.sl es .none):=by
 have eA:∀i j (hi:i<es.length) (hj:j<(es[i]).length),∃v,zs[i*size+j]?=some v∧DRel w L v (es[i])[j]:=λi j hi hj=>hr.get (zhR eB i j hi hj);refine .sl g 0 cap size es (λi j=>zs.getD (i*size+j) undef) ey eM (by omega) (λi hi=>eB _ (af hi)) (λi j hi hj=>?_) (λi j hi hj=>?_)
 ·obtain⟨v,h1,h2⟩:=eA i j hi hj;simp only[aC,List.getD_eq_getElem?_getD,h1,Option.getD_some];exact hc _ _ h1
 ·obtain⟨v,h1,h2⟩:=eA i j hi hj;simp only[List.getD_eq_getElem?_getD,h1,Option.getD_some];exact h2
theorem DRel.flat{L:Nat→Nat}{v:Value}{es:List (List AV)}{size:Nat}(h:DRel w L v (.sl es .none))(ey:es≠[])(eB:∀ c∈es,c.length=size):
  ∃b off cap zs,v=.slice (some ⟨b,off,none⟩) es.length cap∧zs.length=es.length*size∧All2 (DRel w L) zs es.flatten∧(∀j u,zs[j]?=some u→w.cell? ⟨b,off+j,none⟩=some u)∧off+es.length*size≤L b:=by
 cases h with
 |slE a cap=>exact absurd rfl ey
 |sl b off cap ed _ vs ey eM hL gg hc hd=>
  have h0:0<es.length:=by cases es <;> simp_all
  have nk:ed=size:=by rw[←gg 0 h0];exact eB _ (af h0)
  subst nk;have fp:=zhS eB
  -- position k of the row lies in element k / ed
  have f7:∀k,k<es.length*ed→∃i j,∃(hi:i<es.length) (_:j<(es[i]).length),k=i*ed+j:=by
   intro k hk;have hz:0<ed:=by cases ed <;> simp_all
   refine⟨k / ed,k % ed,?_,?_,?_⟩
   ·exact(cu hz).2 hk
   ·rw[gg _ _];exact ck _ hz
   ·rw[bi];exact(di k ed).symm
  refine⟨b,off,cap,(List.range (es.length*ed)).map (λk=>vs (k / ed) (k % ed)),rfl,by simp,?_,?_,hL⟩
  ·refine All2.of_get (by simp[fp]) λk x y hx hy=>?_;have hk:k<es.length*ed:=by have:=(List.getElem?_eq_some_iff.1 hx).1;simpa using this
   obtain⟨i,j,hi,hj,rfl⟩:=f7 k hk;have l5:j<ed:=by rw[←gg i hi];exact hj
   rw[zhR eB i j hi hj]at hy;cases hy;simp only[List.getElem?_map,List.getElem?_range hk,Option.map_some,bK]at hx;have hz:0<ed:=by omega
   rw[show (i*ed+j) / ed=i by rw[bi,dq hz,bP l5];omega,show (i*ed+j) % ed=j by rw[bi,dp,bH l5]]at hx;rw[←hx];exact hd i j hi hj
  ·intro k u hx;have hk:k<es.length*ed:=by have:=(List.getElem?_eq_some_iff.1 hx).1;simpa using this
   obtain⟨i,j,hi,hj,rfl⟩:=f7 k hk;have l5:j<ed:=by rw[←gg i hi];exact hj
   simp only[List.getElem?_map,List.getElem?_range hk,Option.map_some,bK]at hx;have hz:0<ed:=by omega
   rw[show (i*ed+j) / ed=i by rw[bi,dq hz,bP l5];omega,show (i*ed+j) % ed=j by rw[bi,dp,bH l5]]at hx;rw[←hx,←aa];exact hc i j hi hj

end
section
open Go.RowKit

variable {P:Program} {B:Nat} {w:World} {G:Gh} {H:zaa}

theorem zqW{R:Value→AV→Prop}{z:Array Value}{zc:List AV}(h:All2 R z.toList zc)(hz:0<z.size):∀n,All2 R ((Array.range (n*z.size)).map (z[· % z.size]!)).toList (List.replicate n zc).flatten:=by
 intro n;have hl:=h.length;simp at hl;have eO:∀c∈List.replicate n zc,c.length=z.size:=λc hc=>by rw[bn hc,hl]
 have fp:=zhS eO;refine All2.of_get (by simp[hl]) λk x y hx hy=>?_;have hk:k<n*z.size:=by have:=(List.getElem?_eq_some_iff.1 hx).1;simpa using this
 have hi:k / z.size<(List.replicate n zc).length:=by simpa using(cu hz).2 hk
 have hj:k % z.size<((List.replicate n zc)[k / z.size]).length:=by simp[←hl];exact ck _ hz
 have:=zhR eO (k / z.size) (k % z.size) hi hj;rw[show k / z.size*z.size+k % z.size=k by rw[bi];exact di k z.size,hy]at this;simp only[dM,bK]at this;have kK:z[k % z.size]! = x:=by simpa[hk]using hx
 have hm:k % z.size<z.size:=ck _ hz;have hzx:z.toList[k % z.size]?=some x:=by rw[←kK];simp[hm]
 obtain⟨b,h1,h2⟩:=h.get' hzx;have:zc[k % z.size]?=some y:=by rw[this];simp
 rw[this]at h1;cases h1;exact h2

theorem zyN{size:Nat}:∀ {es:List (List AV)},(∀ c∈es,c.length=size)→∀ (i:Nat) (ds:List AV),i<es.length→(es.set i ds).flatten=es.flatten.take (i*size)++ds++es.flatten.drop (i*size+size)
 |[],_,i,_,hi=>by simp at hi
 |e::es,h,0,ds,hi=>by have he:=h e (by simp);simp[←he]
 |e::es,h,i+1,ds,hi=>by
  have he:=h e (by simp);have:=zyN (es:=es) (λc hc=>h c (by simp[hc])) i ds (by simpa using hi);rw[List.set_cons_succ,List.flatten_cons,this,List.flatten_cons];have h1:(i+1)*size=e.length+i*size:=by rw[a8,he];omega
  rw[h1,aa];simp[dJ,da,ai,bJ]

theorem zyK{size:Nat}:∀ (ec:List (Nat × Value)) (ef:List (Nat × AV)) (cells:Array Value) (es es':List (List AV)),(∀ c∈es,c.length=size) →
  All2 (λ(p:Nat×Value) (q:Nat×AV)=>p.1=q.1∧TRel w G p.2 q.2) ec ef→All2 (DRel w G.L) cells.toList es.flatten→zaR size ef es=some es' →
  ∃cells',Instr.fill (λi=>some (i*size,size)) cells ec=some cells'∧All2 (DRel w G.L) cells'.toList es'.flatten∧(∀c∈es',c.length=size)∧es'.length=es.length
 |[],[],cells,es,es',hs,_,hc,hf=>by simp[zaR]at hf;subst hf;exact⟨cells,rfl,hc,hs,rfl⟩
 |(i,v)::ec,(i',x)::ef,cells,es,es',hs,hp,hc,hf=>by
  obtain⟨⟨h1,h2⟩,h3⟩:=hp;simp only[]at h1 h2;subst h1;unfold zaR at hf;split at hf
  ·rename_i xs kQ;split at hf
   ·rename_i ds jQ;split at hf
    ·rename_i hb;simp only[aj,ba,aS]at hb;have iU:=zdM (zhJ h2 kQ) jQ;have kJ:=iU.length;have p9:=hc.length;have fp:=zhS hs;simp at kJ;simp only[Array.length_toList]at p9;have kp:(i+1)*size≤es.length*size:=ar _ hb.2;rw[a8]at kp;have fd:i*size+v.cells.size≤cells.size:=by omega
     have l4:=zx3 (i*size) v.cells cells fd;have kR:All2 (DRel w G.L) (v.cells.zipIdx.foldl (λcs (c,j)=>cs.setIfInBounds (i*size+j) c) cells).toList (es.set i ds).flatten:=by rw[l4,zyN hs i ds hb.2,kJ,hb.1];exact((hc.take _).append iU).append (hc.drop _)
     have jo:∀c∈es.set i ds,c.length=size:=λc fO=>by
      rcases bM fO with h|h
      ·exact hs c h
      ·rw[h];exact hb.1
     obtain⟨cells',fP,ib,je,jP⟩:=zyK ec ef _ _ es' jo h3 kR hf;refine⟨cells',?_,ib,je,by rw[jP];simp⟩;unfold Instr.fill;simp only[];rw[au (by simp;omega)];exact fP
    ·cases hf
   ·cases hf
  ·cases hf

theorem zKZ{t e:TypeId}{size len:Nat}{z:Value}{ec:Array (Nat × Value)}{ef:List (Nat × AV)}{K:AV→zaa→Prop}(hH:HRel B w G H)(he:zbj P t=some e)(hn:za4 P e=some size)(hz:zbJ P e=some z)(h0:0<size)(ek:len*size≤16777216)(jR:(zbG z).length=size)(hr:All2 (λ(p:Nat × Value) (q:Nat × AV)=>p.1=q.1∧TRel w G p.2 q.2) ec.toList ef)(h:zaw size (zbG z) len ef (K · H)):
  OpOK P B w G K (((do pure (.value (←Instr.buildSlice t len ec))):Sem Next).run P w):=by
 unfold zaw at h;split at h
 ·rename_i zc ot;split at h
  ·rename_i es eX;have iH:=zd5 (w:=w) (G:=G) z;have iI:z.cells.size=size:=by have:=iH.length;simp at this;omega
   have oI:=zdM iH ot;have hm:=zqW oI (by omega) len;rw[iI]at hm;have hzcl:zc.length=size:=by rw[zAd ot];exact jR
   have eO:∀c∈List.replicate len zc,c.length=size:=λc hc=>by rw[bn hc,hzcl]
   obtain⟨cells',h1,h2,h3,h4⟩:=zyK ec.toList ef _ _ es eO hr hm eX;simp at h4;have gg:cells'.size=len*size:=by have:=h2.length;rw[zhS h3,h4]at this;simpa using this
   obtain⟨hx,eU⟩:=hH.frozen cells' e (len*size);have et:((do pure (.value (←Instr.buildSlice t len ec))):Sem Next).run P w=.ok (.value (.slice (some ⟨w.heap.size,0,none⟩) len len)) (w.alloc (.cells cells' e)):=by
    have fW:¬(2 ^ 24<len*size):=by omega
    by_cases ik:len*size=0
    ·have hl:len=0:=by rcases Nat.mul_eq_zero.1 ik with h | h <;> omega
     subst hl;simp only[dZ,Array.range_zero',Array.map_empty]at h1;simp[Instr.buildSlice,za7 (zcf he),zb6 hn,h1,newRow,World.alloc_eq,Array.range_zero']
    ·simp[Instr.buildSlice,za7 (zcf he),zb6 hn,zfo hz,fW,ik,iI,h1,newRow,World.alloc_eq]
   rw[et];refine⟨.sl es .full,_,H,hx,eU,⟨?_,some ⟨w.heap.size,0,none⟩,by rw[h4]⟩,h⟩;by_cases ey:es=[]
   ·subst ey;simp at h4;subst h4;exact .slE _ _
   ·have:=DRel.of_flat (w:=w.alloc (.cells cells' e)) (L:=λb=>if b=w.heap.size then len*size else G.L b) (g:=w.heap.size) (cap:=len) (zs:=cells'.toList) h3 ey (by omega) (by simp[h4]) (h2.mono λ_ _=>hx.drel)
     (λj v hj=>by rw[World.cell?_alloc_new];simpa using hj)
    rw[h4]at this;exact this
  ·exact h.elim
 ·exact h.elim

theorem zLf{t e:TypeId}{size bytes:Nat}{z:Value}{vl vc:Value}{l c:AV}{K:AV→zaa→Prop}(hH:HRel B w G H)(he:zbj P t=some e)(hn:za4 P e=some size)(fA:zdk P e=some bytes)(hz:zbJ P e=some z)(h0:0<size)(jR:(zbG z).length=size)(hl:TRel w G vl l)(hc:TRel w G vc c)(h:zbp bytes (zbG z) l c H K):
  OpOK P B w G K (((do pure (.value (←Instr.makeSlice t vl vc))):Sem Next).run P w):=by
 unfold zbp at h;split at h
 ·rename_i l c;cases hl;cases hc;obtain⟨⟨h1,h2,h3,h4⟩,hk⟩:=h;have iH:=zd5 (w:=w) (G:=G) z;have iI:z.cells.size=size:=by have:=iH.length;simp at this;omega
  unfold za4 at hn;unfold zbJ at hz;unfold zdk at fA;cases hi:P.info? e with
  |none=>simp[hi]at hn
  |some i=>
   simp[hi]at hn hz fA;have hr:=run_make (P:=P) w t e i z (zcf he) hi hz .i64 .i64 l c h1 h2 (by rw[fA,dV];omega) h4;have hm:=zqW iH (by omega) c.toNat;rw[iI]at hm;rw[hn]at hr;obtain⟨hx,eU⟩:=hH.new (madeCells z.cells (c.toNat*size)) e _ (by simpa[madeCells,iI]using hm);have et:((do pure (.value (←Instr.makeSlice t (.int .i64 l) (.int .i64 c)))):Sem Next).run P w=.ok (.value (.slice (some ⟨w.heap.size,0,none⟩) l.toNat c.toNat)) (w.alloc (.cells (madeCells z.cells (c.toNat*size)) e)):=by rw[Sem.run_bind,hr];rfl
   rw[et];refine⟨.ms H.length 0 l.toNat c.toNat,_,_,hx,eU,⟨w.heap.size,?_,rfl⟩,hk⟩;rw[←hH.len];simp
 ·exact h.elim

theorem zyg:∀ {es:List (List AV)} {s:List UInt8},zhF es=some s→∃ ns:List Int,es=ns.map (λn=>[.int .u8 n])∧s=ns.map (λn=>UInt8.ofNat n.toNat)
 |[],s,h=>by simp[zhF]at h;exact⟨[],rfl,h.symm ▸ rfl⟩
 |c::es,s,h=>by
  unfold zhF at h;split at h
  ·rename_i heq;cases heq
  ·rename_i n es' heq;cases heq;split at h
   ·rename_i s' jo;obtain⟨ns,rfl,rfl⟩:=zyg jo;cases h;exact⟨n::ns,rfl,rfl⟩
   ·cases h
  ·cases h
theorem zAk:∀ (ns:List Int) (ee:List UInt8),ns.foldl (λr n=>r.push (UInt8.ofNat n.toNat)) (ByteArray.mk ee.toArray)=⟨(ee++ns.map λn=>UInt8.ofNat n.toNat).toArray⟩
 |[],ee=>by simp
 |n::ns,ee=>by
  have h:(ByteArray.mk ee.toArray).push (UInt8.ofNat n.toNat)=⟨(ee++[UInt8.ofNat n.toNat]).toArray⟩:=by simp[ByteArray.push]
  rw[List.foldl_cons,h,zAk ns];simp
theorem zy1{L:Nat→Nat}:∀ {zs:List Value} {ns:List Int},All2 (DRel w L) zs (ns.map (AV.int .u8))→zs=ns.map (Value.int .u8)
 |[],[],_=>rfl
 |z::zs,n::ns,h=>by obtain⟨h1,h2⟩:=h;cases h1;rw[zy1 h2];rfl
theorem zBH:∀ ns:List Int,(ns.map λn=>[AV.int .u8 n]).flatten=ns.map (AV.int .u8)
 |[]=>rfl
 |n::ns=>by rw[aF,List.flatten_cons,zBH ns];rfl
theorem zK4{s t e:TypeId}{v:Value}{x:AV}{K:AV→Prop}(hx:TRel w G v x)(hs:P.underlying s=some (.slice e))(ht:P.underlying t=some .string)(he:tU8 P e=true)(h:zfz x K):
  ∃r,(convert s t v).run P w=.ok r w∧∃av,TRel w G r av∧K av:=by
 have qa:P.underlying e=some (.int .u8):=by
  unfold tU8 at he;split at he
  ·assumption
  ·cases he
 unfold zfz at h;split at h
 ·rename_i es tok;have hd:=ziL hx;split at h
  ·rename_i bs hb;obtain⟨ns,rfl,rfl⟩:=zyg hb;refine⟨.string ⟨(ns.map λn=>UInt8.ofNat n.toNat).toArray⟩,?_,.str _,rfl,h⟩;by_cases ey:ns=[]
   ·subst ey;obtain⟨a,cap,rfl,_⟩:=hd.slice_form;rw[run_convert_bytes_string w s t e _ _ _ hs qa ht];cases a with
    |none=>rfl
    |some a=>
     have hl:(loadCells a 0).run P w=.ok #[] w:=by simpa using run_loadCells_list (P:=P) w a [] (by simp)
     exact run_bytesToString w a 0 cap [] hl
   ·obtain⟨b,off,cap,zs,rfl,jR,iH,ot,_⟩:=hd.flat (size:=1) (by simpa using ey) (by simp);rw[zBH]at iH;obtain rfl:=zy1 iH;rw[run_convert_bytes_string w s t e _ _ _ hs qa ht];have iS:=run_loadCells_list (P:=P) w ⟨b,off,none⟩ (ns.map (Value.int .u8)) (λj v hj=>by rw[add_lit];exact ot j v hj);rw[bR]at iS;rw[bR,run_bytesToString w _ _ cap ns iS];have:=zAk ns [];simp only[List.nil_append]at this;rw[←this];rfl
  ·exact h.elim
 ·cases hx;refine⟨.string ⟨#[]⟩,?_,.str [],rfl,h⟩;rw[run_convert_bytes_string w s t e _ _ _ hs qa ht];rfl
 ·exact h.elim

end
end Go.Proofs.YtdmamdnkcefmmaaGreatDoor
