import Derived.Test.YtdmamdnkcefmmaaGreatDoorAbsC
import Derived.Laws.AppendOwnNone
import Derived.Laws.Strings
import Derived.Laws.MakeOwn
import Derived.Laws.BytesString
set_option linter.unusedSimpArgs false
set_option linter.unusedVariables false
set_option maxRecDepth 8000
namespace Go.Proofs.YtdmamdnkcefmmaaGreatDoor
section
open Go.RowKit

variable {P:Program} {B:Nat} {w:World} {G:Gh} {H:zaa}

def zD3(B:Nat)(w:World)(G:Gh)(K:AV→zaa→Prop)(e:Ending)(w':World):Prop:=
 ∃v r H' G',e=.returned v∧Ext B w G w' G'∧HRel B w' G' H'∧TRel w' G' v r∧K r H'

def OpOK(P:Program)(B:Nat)(w:World)(G:Gh)(K:AV→zaa→Prop):Result Next→Prop
 |.ok (.value v) w'=>∃av G' H',Ext B w G w' G'∧HRel B w' G' H'∧TRel w' G' v av∧K av H'
 |.ok .skip w'=>∃G' H',Ext B w G w' G'∧HRel B w' G' H'∧K (.tup []) H'
 |.ok (.enter f vs) w'=>w'=w∧Calls P f vs w (zD3 B w G K)
 |_=>False

theorem OpOK.same{K:AV→zaa→Prop}{v:Value}{av:AV}(hH:HRel B w G H)(hv:TRel w G v av)(hK:K av H):OpOK P B w G K (.ok (.value v) w):=
 ⟨av,G,H,Ext.refl _ _ _,hH,hv,hK⟩

theorem zgB(v:Value):BRel w G v (zgc v):=by unfold zgc;split <;> first|rfl|trivial
theorem zx0(v:Value):TRel w G v (zen v):=by
 unfold zen;split
 ·rename_i cs;refine⟨cs,rfl,?_⟩;refine All2.of_get (by simp) λi x y hx hy=>?_;rw[List.getElem?_map,hx]at hy;simp at hy;rw[←hy];exact ARel.of_b (zgB x)
 ·exact TRel.of_v (VRel.of_a (ARel.of_b (zgB v)))
theorem zdR(v:Value):All2 (ARel w G) v.cells.toList (zbx v):=by
 unfold zbx;split
 ·rename_i cs;simp only[Value.cells];refine All2.of_get (by simp) λi x y hx hy=>?_;rw[List.getElem?_map,hx]at hy;simp at hy;rw[←hy];exact ARel.of_b (zgB x)
 ·rename_i h;have:v.cells=#[v]:=by cases v <;> first | rfl | exact absurd rfl (h _)
  rw[this];exact⟨ARel.of_b (zgB v),trivial⟩

theorem zaP{a:Act}{F:List AV}(hF:FRel w G a.tmps F)(x:Operand):TRel w G (a.eval x) (ev F x):=by
 cases x with
 |tmp t=>
  unfold Act.eval ev;simp only[];cases h:F[t]? with
  |none=>simp only[List.getD_eq_getElem?_getD,h];trivial
  |some b=>
   obtain⟨v,h1,h2⟩:=All2.get hF h;have:a.tmps[t]?=some v:=by simpa using h1
   simp only[List.getD_eq_getElem?_getD,h,Option.getD_some,bS,this];exact h2
 |const v=>exact zx0 v
 |global g=>trivial
 |func f=>exact⟨#[],rfl,trivial⟩

theorem zwp{a:Act}{F:List AV}(hF:FRel w G a.tmps F)(xs:List Operand):All2 (TRel w G) (xs.map a.eval) (xs.map (ev F)):=by
 induction xs with
 |nil=>trivial
 |cons x xs ih=>exact⟨zaP hF x,ih⟩

theorem zyg{t:TypeId}{i:TypeInfo}(h:P.info? t=some i):(typeInfo t).run P w=.ok i w:=by simp[typeInfo,h]
theorem zbX{t:TypeId}{n:Nat}(h:za0 P t=some n):(sizeOf t).run P w=.ok n w:=by
 unfold za0 at h;cases hi:P.info? t with
 |none=>simp[hi]at h
 |some i=>simp[hi]at h;simp[sizeOf,zyg hi,h]
theorem ze5{t:TypeId}{z:Value}(h:zbA P t=some z):(zeroValue t).run P w=.ok z w:=by
 unfold zbA at h;cases hi:P.info? t with
 |none=>simp[hi]at h
 |some i=>simp[hi]at h;simp[zeroValue,zyg hi,h]
theorem za1{t:TypeId}{d:TypeDesc}(h:P.underlying t=some d):(underlying t).run P w=.ok d w:=by simp[underlying,h]
theorem zgD{t:TypeId}{g:Bool}(h:zd9 P t=some g):(isAgg t).run P w=.ok g w:=by
 unfold zd9 at h;cases hu:P.underlying t with
 |none=>simp[hu]at h
 |some d=>simp only[hu,Option.map_some,bL]at h;cases d <;> simp_all [isAgg,za1 hu]
theorem zb6{t e:TypeId}(h:zbc P t=some e):P.underlying t=some (.slice e):=by
 unfold zbc at h;cases hu:P.underlying t with
 |none=>simp[hu]at h
 |some d=>simp only[hu,Option.bind_some]at h;cases d <;> simp_all
theorem zrd{t:TypeId}(h:zdE P t=some 0):P.underlying t=some .string:=by
 unfold zdE at h;cases hu:P.underlying t with
 |none=>simp[hu]at h
 |some d=>simp only[hu,Option.bind_some]at h;cases d <;> simp_all
theorem zkG{t:TypeId}(h:zdE P t=some 1):∃e,P.underlying t=some (.slice e):=by
 unfold zdE at h;cases hu:P.underlying t with
 |none=>simp[hu]at h
 |some d=>simp only[hu,Option.bind_some]at h;cases d <;> simp_all
theorem zzj{t:TypeId}{i:Nat}{f:Field}(h:zgG P t i=some f):∃fs,P.underlying t=some (.struct fs)∧fs[i]?=some f:=by
 unfold zgG at h;cases hu:P.underlying t with
 |none=>simp[hu]at h
 |some d=>simp only[hu,Option.bind_some]at h;cases d <;> simp_all

theorem add_lit(b o n:Nat):Addr.add ⟨b,o,none⟩ n=⟨b,o+n,none⟩:=Addr.add_lit b o n

theorem ARel.oneCell{v:Value}:∀{a:AV},a≠.unk→ARel w G v a→v.oneCell'=true:=by
 intro a en h;cases a with
 |unk=>exact absurd rfl en
 |fn f caps=>obtain⟨vs,rfl,_⟩:=h;rfl
 |agg cs=>exact h.elim
 |tup cs=>exact h.elim
 |sl es tok=>
  cases tok with
  |none=>obtain⟨a,cap,rfl,_⟩:=DRel.slice_form h;rfl
  |full=>obtain⟨a,cap,rfl,_⟩:=DRel.slice_form h.1;rfl
  |own id=>obtain⟨a,cap,rfl,_⟩:=DRel.slice_form h.1;rfl
 |bool b=>cases h;rfl
 |int k n=>cases h;rfl
 |str s=>cases h;rfl
 |nilp=>cases h;rfl
 |snil=>cases h;rfl
 |nilfn=>cases h;rfl
 |nili=>cases h;rfl
 |ifc=>obtain⟨t,x,rfl⟩:=h;rfl
 |ptr id off=>obtain⟨b,_,rfl⟩:=h;rfl
 |view cs=>obtain⟨b,off,rfl,_⟩:=h;rfl
 |ms id off len cap=>obtain⟨b,_,rfl⟩:=h;rfl
 |ov id n=>obtain⟨⟨a,cap,rfl,_⟩,_⟩:=h;rfl
 |vp id n off=>obtain⟨⟨b,o,rfl⟩,_⟩:=h;rfl
 |os id n lo dY=>obtain⟨⟨_,a,c,rfl,_⟩,_⟩:=h;rfl
 |map id=>obtain⟨b,_,rfl⟩:=h;rfl

theorem zhi{v:Value}{x:AV}{xs:List AV}(h:TRel w G v x)(hx:x.cs?=some xs):All2 (ARel w G) v.cells.toList xs:=by
 have atom:∀{y:AV},y≠.unk→y.cs?=some [y]→ARel w G v y→All2 (ARel w G) v.cells.toList [y]:=by
  intro y en _ hr;have h1:=ARel.oneCell en hr;have:v.cells=#[v]:=by cases v <;> first|rfl|simp[Value.oneCell']at h1
  rw[this];exact⟨hr,trivial⟩
 cases x with
 |unk=>simp[AV.cs?]at hx
 |tup vs=>simp[AV.cs?]at hx
 |agg cs=>simp[AV.cs?]at hx;subst hx;obtain⟨vs,rfl,h2⟩:=h;exact h2
 |_=>simp[AV.cs?]at hx;subst hx;exact atom (by simp) rfl h

theorem zkd{v:Value}{e:TypeId}{size n:Nat}{xs:List Value}(h:w.ownsRow B e size v n xs):∃a cap,v=.slice a n cap∧n≤cap:=by
 rcases h.2 with ⟨rfl,rfl⟩|⟨g,cap,cur,rfl,h1,h2,h3,h4⟩
 ·exact⟨none,0,rfl,aa _⟩
 ·exact⟨_,cap,rfl,h3⟩

theorem zdw{e:TypeId}{size n cap g:Nat}{xs:List Value}(h:w.ownsRow B e size (.slice (some ⟨g,0,none⟩) n cap) n xs):
  xs.length=n*size∧B≤g∧g<w.heap.size∧∀(j:Nat),j<n*size→w.cell? ⟨g,j,none⟩=xs[j]?:=by
 obtain⟨h0,h1⟩:=h;rcases h1 with ⟨h1,_⟩|⟨g',cap',cur,h1,h2,h3,h4,h5,h6,h7⟩
 ·simp at h1
 ·simp at h1;obtain⟨rfl,rfl⟩:=h1;refine⟨h0,h2,(Array.getElem?_eq_some_iff.1 h3).1,λj hj=>?_⟩;rw[←h7];simp only[World.cell?,h3];rw[List.getElem?_take_of_lt hj];simp


theorem zyh{t:TypeId}{g:Bool}{n:Nat}{b off:Nat}{ws:List Value}{cs:List AV}{K:AV→Prop}(hg:zd9 P t=some g)(hn:za0 P t=some n)(hr:All2 (ARel w G) ws cs)(hc:∀ (j:Nat) v,ws[j]?=some v→w.cell? ⟨b,j,none⟩=some v)(hk:zbt g n off cs K):
  ∃v av,(loadVar t ⟨b,off,none⟩).run P w=.ok v w∧TRel w G v av∧K av:=by
 cases g with
 |true=>
  obtain⟨h1,h2⟩:=hk;have hl:=hr.length;have d8:((ws.drop off).take n).length=n:=by simp;omega
  have iD:=run_loadCells_list (P:=P) w ⟨b,off,none⟩ ((ws.drop off).take n) (λj v hj=>by
   rw[add_lit];apply hc;have:j<n:=by have:=(List.getElem?_eq_some_iff.1 hj).1;omega
   rw[List.getElem?_take]at hj;simp[this]at hj;exact hj)
  rw[d8]at iD;refine⟨.agg ((ws.drop off).take n).toArray,.agg ((cs.drop off).take n),?_,⟨_,rfl,?_⟩,h2⟩
  ·simp[loadVar,zgD hg,zbX hn,iD]
  ·simpa using(hr.drop off).take n
 |false=>
  unfold zbt at hk;simp only[]at hk;cases g9:cs[off]? with
  |none=>rw[g9]at hk;exact hk.elim
  |some c=>rw[g9]at hk;obtain⟨v,h1,h2⟩:=hr.get g9;refine⟨v,c,?_,TRel.of_v (VRel.of_a h2),hk⟩;simp[loadVar,zgD hg,hc off v h1]

theorem DRel.toB{v:Value}{a:AV}(h:DRel w G.L v a):BRel w G v a:=by
 cases h with
 |bool b=>rfl
 |int k n=>rfl
 |str s=>rfl
 |slE a cap=>exact .slE a cap
 |sl b off cap dY es vs en ey hL ep hc hd=>exact .sl b off cap dY es vs en ey hL ep hc hd

theorem zyz{t:TypeId}{g:Bool}{n:Nat}{v:Value}{x:AV}{K:AV→zaa→Prop}(hH:HRel B w G H)(hx:TRel w G v x)(hg:zd9 P t=some g)(hn:za0 P t=some n)(h:zae g n x H (K · H)):∃u,(Instr.loadAt t v).run P w=.ok u w∧∃av,TRel w G u av∧K av H:=by
 rw[zg2]at h;split at h
 ·rename_i id off;obtain⟨b,hμ,rfl⟩:=hx;split at h
  ·rename_i cs ew;have:=hH.ok id _ _ ew hμ;obtain⟨_,_,vs,e,hw,hr⟩:=this;obtain⟨u,av,h1,h2,h3⟩:=zyh (P:=P) (b:=b) (off:=off) (K:=(K · H)) hg hn hr (λj v hj=>by simp[World.cell?,hw];simpa using hj) h;exact⟨u,by simp[Instr.loadAt,Instr.sureAddr,h1],av,h2,h3⟩
  ·exact h.elim
 ·rename_i cs;obtain⟨b,off,rfl,hL,vs,hr,hc⟩:=hx;have lX:All2 (ARel w G) vs cs:=hr.mono λ_ _ hd=>ARel.of_b hd.toB
  -- the cells from 'off' on, read asx a row of their own
  cases g with
  |true=>
   obtain⟨h1,h2⟩:=h;have hl:=hr.length;have d8:(vs.take n).length=n:=by simp;omega
   have iD:=run_loadCells_list (P:=P) w ⟨b,off,none⟩ (vs.take n) (λj v hj=>by
    rw[add_lit];apply hc;rw[List.getElem?_take]at hj;split at hj
    ·exact hj
    ·simp at hj)
   rw[d8]at iD;refine⟨.agg (vs.take n).toArray,?_,.agg (cs.take n),⟨_,rfl,?_⟩,?_⟩
   ·simp[Instr.loadAt,Instr.sureAddr,loadVar,zgD hg,zbX hn,iD]
   ·simpa using lX.take n
   ·simpa using h2
  |false=>
   unfold zbt at h;simp only[]at h;cases g9:cs[0]? with
   |none=>rw[g9]at h;exact h.elim
   |some c=>rw[g9]at h;obtain⟨v,h1,h2⟩:=lX.get g9;refine⟨v,?_,c,TRel.of_v (VRel.of_a h2),h⟩;have:=hc 0 v h1;simp at this;simp[Instr.loadAt,Instr.sureAddr,loadVar,zgD hg,this]
 ·rename_i id m off;obtain⟨_,v',size,m',hμ,_,heq⟩:=hx;split at h
  ·rename_i e s m2 cs ew;obtain⟨rfl,h⟩:=h;obtain⟨rfl,rfl,⟨xs,ed,hr⟩,_⟩:=hH.ok id _ _ ew hμ;obtain⟨g,hY,rfl⟩:=heq rfl;obtain⟨a,cap,rfl,_⟩:=zkd ed;have ha:a=some ⟨g,0,none⟩:=by
    rcases ed.2 with ⟨h1,_⟩|⟨g',cap',cur,h1,_⟩
    ·rw[h1]at hY;cases hY
    ·rw[h1]at hY;simp[Value.ownBlock]at hY;subst hY;simp at h1;exact h1.1
   subst ha;obtain⟨fN,_,_,er⟩:=zdw ed;obtain⟨u,av,h1,h2,h3⟩:=zyh (P:=P) (b:=g) (off:=off) (K:=(K · H)) hg hn hr (λj v hj=>by
    rw[er j (by rw[←fN];exact(List.getElem?_eq_some_iff.1 hj).1)];exact hj) h
   exact⟨u,by simp[Instr.loadAt,Instr.sureAddr,h1],av,h2,h3⟩
  ·exact h.elim
 ·exact h.elim

theorem zqr{xs:List Value}{cs:List AV}(h:All2 (ARel w G) xs cs)(hu:∀c∈cs,c≠.unk):∀v∈xs,v.oneCell'=true:=by intro v hv;obtain⟨i,hi⟩:=aM.1 hv;obtain⟨c,h1,h2⟩:=h.get' hi;exact ARel.oneCell (hu c (aM.2 ⟨i,h1⟩)) h2


theorem zIQ{t:TypeId}{n:Nat}{v u:Value}{a x:AV}{K:zaa→Prop}(hH:HRel B w G H)(ha:TRel w G v a)(hx:TRel w G u x)(hn:za0 P t=some n)(h:zao n a x H K):∃w' H',(Instr.storeAt t v u).run P w=.ok () w'∧Ext B w G w' G∧HRel B w' G H'∧K H':=by
 have ones:∀{xs:List AV},All2 (ARel w G) u.cells.toList xs→xs.all AV.known=true→∀v∈u.cells.toList,v.oneCell'=true:=λiE h3=>zqr iE (λc hc=>by
  have:=ak.1 h3 c hc;intro oQ;subst oQ;simp[AV.known]at this)
 rw[zeN]at h;split at h
 ·rename_i id off xs jY;obtain⟨b,hμ,rfl⟩:=ha;split at h
  ·rename_i cs ew;obtain⟨⟨h1,h2,h3⟩,hk⟩:=h;obtain⟨hB,_,vs,e,hw,hr⟩:=hH.ok id _ _ ew hμ;have iE:=zhi hx jY;have hl:=hr.length;have jP:=iE.length;have eD:=run_storeCells_at P b off e u.cells.toList 0 vs w hw (by simp at hl jP ⊢;omega) (ones iE h3);simp only[Nat.add_zero]at eD;have jZ:All2 (ARel w G) (vs.toList.take off++u.cells.toList++vs.toList.drop (off+u.cells.toList.length)).toArray.toList (cs.take off++xs++cs.drop (off+n)):=by
    have:u.cells.toList.length=n:=by rw[jP];exact h1
    rw[this];simpa using((hr.take off).append iE).append (hr.drop (off+n))
   obtain⟨he,eJ⟩:=hH.store ew hμ hw hB jZ;refine⟨_,_,?_,he,eJ,hk⟩;have ep:u.cells.size=n:=by simp at jP;omega
   simp[Instr.storeAt,Instr.sureAddr,storeVar,zbX hn,ep,eD]
  ·exact h.elim
 ·rename_i id m off xs jY;obtain⟨_,v',size,m',hμ,_,heq⟩:=ha;split at h
  ·rename_i e s m2 cs ew;obtain⟨⟨rfl,h1,h2,h3⟩,hk⟩:=h;obtain⟨rfl,rfl,⟨ys,ed,hr⟩,_⟩:=hH.ok id _ _ ew hμ;obtain⟨g,hY,rfl⟩:=heq rfl;obtain⟨hyl,eW⟩:=ed;rcases eW with ⟨h5,_⟩ | ⟨g',cap,cur,h5,jx,hw,fE,gO,iF,jh⟩
   ·rw[h5]at hY;cases hY
   rw[h5]at hY hμ;simp[Value.ownBlock]at hY;subst hY;have iE:=zhi hx jY;have hl:=hr.length;have jP:=iE.length;have ob:u.cells.toList.length=n:=by rw[jP];exact h1
   have hms:m2*s≤cur.size:=by rw[iF];exact au _ fE
   have eD:=run_storeCells_at P g' off e u.cells.toList 0 cur w hw (by omega) (ones iE h3);simp only[Nat.add_zero]at eD;rw[ob]at eD;have eU:off+n≤m2*s:=by omega
   have eX:(cur.toList.take off++u.cells.toList++cur.toList.drop (off+n)).toArray.toList.take (m2*s)=ys.take off++u.cells.toList++ys.drop (off+n):=by
    rw[←jh];simp only[dJ,aW,Array.length_toList,az,ob];rw[cR,cR,du,am (l:=u.cells.toList) (by omega)];congr 2
    ·congr 1;omega
    ·congr 1;omega
   obtain⟨he,eJ⟩:=hH.storeV (cs':=cs.take off++xs++cs.drop (off+n)) ew hμ hw jx fE gO (by simp[az,ob];omega) eX (by simp[ob];omega) (by
    have:=((hr.take off).append iE).append (hr.drop (off+n));simpa using this)
   refine⟨_,_,?_,he,eJ,hk⟩;have ep:u.cells.size=n:=by simp at jP;omega
   simp[Instr.storeAt,Instr.sureAddr,storeVar,zbX hn,ep,eD]
  ·exact h.elim
 ·exact h.elim

theorem zIr{t:TypeId}{v:Value}{x:AV}{K:AV→zaa→Prop}(hH:HRel B w G H)(hx:TRel w G v x)(h:zaw x H K):
  OpOK P B w G K (((do pure (.value (←Instr.box t v))):Sem Next).run P w):=by
 unfold zaw at h;split at h
 ·rename_i cs ew;obtain⟨he,eJ⟩:=hH.new v.cells t cs (zhi hx ew);have ef:((do pure (.value (←Instr.box t v))):Sem Next).run P w=.ok (.value (.pointer (some ⟨w.heap.size,0,none⟩))) (w.alloc (.cells v.cells t)):=by simp[Instr.box,newVar,newRow,World.alloc_eq]
  rw[ef];refine⟨.ptr H.length 0,_,_,he,eJ,⟨w.heap.size,?_,rfl⟩,h⟩;rw[←hH.len];simp
 ·exact h.elim
theorem zIo{t:TypeId}{z:Value}{K:AV→zaa→Prop}(hH:HRel B w G H)(hz:zbA P t=some z)(h:K (.ptr H.length 0) (H++[.cells (zbx z)])):
  OpOK P B w G K (((do pure (.value (←Instr.alloc t true (.tuple #[])))):Sem Next).run P w):=by
 obtain⟨he,eJ⟩:=hH.new z.cells t (zbx z) (zdR z);have ef:((do pure (.value (←Instr.alloc t true (.tuple #[])))):Sem Next).run P w=.ok (.value (.pointer (some ⟨w.heap.size,0,none⟩))) (w.alloc (.cells z.cells t)):=by simp[Instr.alloc,ze5 hz,newVar,newRow,World.alloc_eq]
 rw[ef];refine⟨.ptr H.length 0,_,_,he,eJ,⟨w.heap.size,?_,rfl⟩,h⟩;rw[←hH.len];simp

theorem zID{s:TypeId}{i:Nat}{f:Field}{n:Nat}{v:Value}{x:AV}{K:AV→Prop}(hx:TRel w G v x)(hf:zgG P s i=some f)(hn:za0 P f.type=some (n+1))(h:zaf f.offset x K):∃u,(Instr.fieldAt s v i).run P w=.ok u w∧∃av,TRel w G u av∧K av:=by
 obtain⟨fs,hu,ke⟩:=zzj hf;rw[zvl]at h;split at h
 ·rename_i id off;obtain⟨b,hμ,rfl⟩:=hx;refine⟨.pointer (some ⟨b,off+f.offset,none⟩),?_,.ptr id (off+f.offset),⟨b,hμ,rfl⟩,h⟩;simp[Instr.fieldAt,za1 hu,ke,Instr.sureAddr,fieldPlace,zbX hn,add_lit]
 ·rename_i cs;obtain⟨b,off,rfl,hc⟩:=hx;refine⟨.pointer (some ⟨b,off+f.offset,none⟩),?_,.view (cs.drop f.offset),⟨b,_,rfl,hc.drop _ h.1⟩,h.2⟩;simp[Instr.fieldAt,za1 hu,ke,Instr.sureAddr,fieldPlace,zbX hn,add_lit]
 ·rename_i id m off;obtain⟨⟨b,o,rfl⟩,v',size,m',hμ,eH,heq⟩:=hx;refine⟨.pointer (some ⟨b,o+f.offset,none⟩),?_,.vp id m (off+f.offset),⟨⟨b,_,rfl⟩,v',size,m',hμ,eH,λe=>?_⟩,h⟩
  ·simp[Instr.fieldAt,za1 hu,ke,Instr.sureAddr,fieldPlace,zbX hn,add_lit]
  ·obtain⟨g,h1,h2⟩:=heq e;simp at h2;exact⟨g,h1,by rw[h2.1,h2.2]⟩
 ·exact h.elim
theorem zIO{t:TypeId}{g:Bool}{n off:Nat}{vs:Array Value}{cs:List AV}{K:AV→Prop}(hr:All2 (ARel w G) vs.toList cs)(hg:zd9 P t=some g)(hn:za0 P t=some n)(h:zbt g n off cs K):∃u,(part t vs off).run P w=.ok u w∧∃av,TRel w G u av∧K av:=by
 cases g with
 |true=>
  obtain⟨h1,h2⟩:=h;refine⟨.agg (vs.extract off (off+n)),by simp[part,zgD hg,zbX hn],.agg ((cs.drop off).take n),⟨_,rfl,?_⟩,h2⟩;have:(vs.extract off (off+n)).toList=(vs.toList.drop off).take n:=by rw[Array.toList_extract,List.extract_eq_take_drop];congr 1;omega
  rw[this];exact(hr.drop off).take n
 |false=>
  unfold zbt at h;simp only[]at h;cases g9:cs[off]? with
  |none=>rw[g9]at h;exact h.elim
  |some c=>
   rw[g9]at h;obtain⟨v,h1,h2⟩:=hr.get g9;refine⟨v,?_,c,TRel.of_v (VRel.of_a h2),h⟩;have:vs[off]?=some v:=by simpa using h1
   simp[part,zgD hg,this]
theorem zIE{s:TypeId}{i:Nat}{f:Field}{g:Bool}{n:Nat}{v:Value}{x:AV}{K:AV→Prop}(hx:TRel w G v x)(hf:zgG P s i=some f)(hg:zd9 P f.type=some g)(hn:za0 P f.type=some n)(h:zdX g n f.offset x K):∃u,(Instr.field s v i).run P w=.ok u w∧∃av,TRel w G u av∧K av:=by
 obtain⟨fs,hu,ke⟩:=zzj hf;unfold zdX at h;split at h
 ·rename_i cs;obtain⟨vs,rfl,hr⟩:=hx;obtain⟨u,h1,h2⟩:=zIO (P:=P) hr hg hn h;exact⟨u,by simp[Instr.field,za1 hu,ke,asAgg,h1],h2⟩
 ·exact h.elim

theorem zii{v:Value}{es:List (List AV)}{tok:Tok}(h:TRel w G v (.sl es tok)):DRel w G.L v (.sl es .none):=by
 cases tok with
 |none=>exact h
 |full=>exact h.1
 |own id=>exact h.1

theorem zIF{t e:TypeId}{size:Nat}{v u:Value}{x i:AV}{K:AV→Prop}(hx:TRel w G v x)(hi:TRel w G u i)(he:zbc P t=some e)(hn:za0 P e=some size)(h:zaj size x i K):∃r,(Instr.indexAt t v u).run P w=.ok r w∧∃av,TRel w G r av∧K av:=by
 have hu:=zb6 he;rw[ziZ]at h;split at h
 ·rename_i es tok k n;obtain⟨⟨h0,d7⟩,ep,hk⟩:=h;cases hi;have hd:=zii hx;have eE:n.toNat<es.length:=by omega
  obtain⟨b,off,cap,rfl,ey,⟨dY,eB⟩,gP⟩:=hd.elem eE;have hc:=gP n.toNat eE;have eO:es.getD n.toNat []=es[n.toNat]:=by simp[List.getD_eq_getElem?_getD,eE]
  rw[eO]at ep hk;rw[ep]at hc;refine⟨.pointer (some ⟨b,off+n.toNat*size,none⟩),?_,.view es[n.toNat],⟨b,_,rfl,hc⟩,hk⟩;simp[Instr.indexAt,asIntOf,za1 hu,h0,d7,zbX hn,add_lit]
 ·rename_i id off len cap k n;obtain⟨⟨h0,d7⟩,hk⟩:=h;cases hi;obtain⟨b,hμ,rfl⟩:=hx;refine⟨.pointer (some ⟨b,off+n.toNat*size,none⟩),?_,.ptr id (off+n.toNat*size),⟨b,hμ,rfl⟩,hk⟩;simp[Instr.indexAt,asIntOf,za1 hu,h0,d7,zbX hn,add_lit]
 ·rename_i id m k n;obtain⟨⟨h0,d7⟩,hk⟩:=h;cases hi;obtain⟨⟨a,cap,rfl,ha,_⟩,v',sz,m',hμ,eH,heq⟩:=hx;obtain⟨b,rfl⟩:=ha (by omega);refine⟨.pointer (some ⟨b,0+n.toNat*size,none⟩),?_,.vp id m (n.toNat*size),⟨⟨b,_,rfl⟩,v',sz,m',hμ,eH,λe=>?_⟩,hk⟩
  ·simp[Instr.indexAt,asIntOf,za1 hu,h0,d7,zbX hn,add_lit]
  ·rw[←heq e];exact⟨b,rfl,by simp⟩
 ·exact h.elim

theorem zij(s:List UInt8):(ByteArray.mk s.toArray).size=s.length:=by simp[ByteArray.size]
theorem zIZ(s:List UInt8)(i:Nat)(h:i<s.length):(ByteArray.mk s.toArray)[i]?=some s[i]:=by rw[getElem?_pos _ _ (by rw[zij];exact h)];rfl
theorem zgF(s:List UInt8):(ByteArray.mk s.toArray).toList=s:=Go.ByteArray.toList_mk s

theorem zIG{t:TypeId}{v u:Value}{x i:AV}{K:AV→Prop}(hx:TRel w G v x)(hi:TRel w G u i)(ht:zdE P t=some 0)(h:zbI x i K):∃r,(Instr.index t v u).run P w=.ok r w∧∃av,TRel w G r av∧K av:=by
 have hu:=zrd ht;unfold zbI at h;split at h
 ·rename_i s k n;obtain⟨⟨h0,d7⟩,hk⟩:=h;cases hi;cases hx;have eE:n.toNat<s.length:=by omega
  have eO:s.getD n.toNat 0=s[n.toNat]:=by simp[List.getD_eq_getElem?_getD,eE]
  rw[eO]at hk;refine⟨.int .u8 s[n.toNat].toNat,?_,.int .u8 s[n.toNat].toNat,rfl,hk⟩;simp[Instr.index,asIntOf,za1 hu,h0,zIZ s _ eE]
 ·exact h.elim

theorem zIH{t:TypeId}{k:Nat}{v:Value}{x:AV}{ty:TypeId}{K:AV→Prop}(hx:TRel w G v x)(ht:zdE P t=some k)(h:zai k x K):∃r,(Builtin.len_ #[t] ty #[v]).run P w=.ok r w∧∃av,TRel w G r av∧K av:=by
 rw[zEr]at h;split at h
 ·rename_i s;cases hx;exact⟨.int .i64 s.length,by simp[Builtin.len_,za1 (zrd ht),goInt,zij],.int .i64 s.length,rfl,h⟩
 ·rename_i es tok;obtain⟨e,hu⟩:=zkG ht;obtain⟨a,cap,rfl,_⟩:=(zii hx).slice_form;exact⟨.int .i64 es.length,by simp[Builtin.len_,za1 hu,goInt],.int .i64 es.length,rfl,h⟩
 ·obtain⟨e,hu⟩:=zkG ht;cases hx;exact⟨.int .i64 0,by simp[Builtin.len_,za1 hu,goInt],.int .i64 0,rfl,h⟩
 ·rename_i len _;obtain⟨e,hu⟩:=zkG ht;obtain⟨b,hμ,rfl⟩:=hx;exact⟨.int .i64 len,by simp[Builtin.len_,za1 hu,goInt],.int .i64 len,rfl,h⟩
 ·rename_i _ n;obtain⟨e,hu⟩:=zkG ht;obtain⟨⟨a,cap,rfl,_⟩,_⟩:=hx;exact⟨.int .i64 n,by simp[Builtin.len_,za1 hu,goInt],.int .i64 n,rfl,h⟩
 ·exact h.elim

end
section
open Go.RowKit

variable {P:Program} {B:Nat} {w:World} {G:Gh} {H:zaa}

theorem zd6{x:Option Value}{ax:Option AV}{d:Nat}{K:Nat→Prop}(hx:All2 (TRel w G) x.toList ax.toList)(h:zbN ax d K):
  ∃l,((x=none∧l=d)∨∃k n,x=some (.int k n)∧0≤n∧l=n.toNat)∧K l:=by
 cases ax with
 |none=>
  cases x with
  |none=>exact⟨d,.inl ⟨rfl,rfl⟩,h⟩
  |some v=>simp[All2]at hx
 |some a=>
  cases x with
  |none=>simp[All2]at hx
  |some v=>
   have hv:TRel w G v a:=hx.1;unfold zbN at h;cases a <;> first|exact h.elim|skip
   rename_i k n;cases hv;exact⟨n.toNat,.inr ⟨k,n,rfl,h.1,rfl⟩,h.2⟩

theorem DRel.sub{v:Value}{es:List (List AV)}{l h:Nat}(hd:DRel w G.L v (.sl es .none))(hl:l≤h)(hh:h≤es.length){a:Option Addr}{cap:Nat}(size:Nat)(hv:v=.slice a es.length cap)(ep:∀ c∈es,c.length=size):
  DRel w G.L (.slice (if cap=l then a else a.map (·.add (l*size))) (h-l) (cap-l)) (.sl ((es.take h).drop l) .none):=by
 by_cases hlh:l=h
 ·subst hlh;have:(es.take l).drop l=[]:=by apply bK;simp;omega
  rw[this,cT];exact .slE _ _
 ·cases hd with
  |slE a' cap'=>simp at hh;omega
  |sl b off cap' dY _ vs en ey hL fO hc gF=>
   cases hv;have fd:cap≠l:=by omega
   have h0:0<es.length:=by omega
   have mi:dY=size:=by rw[←fO 0 h0];exact ep _ (ah h0)
   subst mi;have d8:((es.take h).drop l).length=h-l:=by simp;omega
   simp only[fd,aH,Option.map_some,add_lit];have ek:∀i (hi:i<((es.take h).drop l).length),((es.take h).drop l)[i]=es[l+i]'(by rw[d8]at hi;omega):=by intro i hi;simp
   have key:DRel w G.L (.slice (some ⟨b,off+l*dY,none⟩) ((es.take h).drop l).length (cap-l)) (.sl ((es.take h).drop l) .none):=by
    refine .sl b (off+l*dY) (cap-l) dY _ (λi j=>vs (l+i) j) ?_ (by rw[d8];omega) ?_ ?_ ?_ ?_
    ·intro hnil;rw[hnil]at d8;simp at d8;omega
    ·rw[d8];have h1:l*dY+(h-l)*dY=h*dY:=by rw[←aZ];congr 1;omega
     have h2:h*dY≤es.length*dY:=au _ hh;omega
    ·intro i hi;rw[ek i hi];exact fO _ _
    ·intro i j hi hj;rw[d8]at hi;have:=hc (l+i) j (by omega) (by rw[ek i (by rw[d8];exact hi)]at hj;exact hj);rw[show off+l*dY+i*dY+j=off+(l+i)*dY+j by rw[aZ];omega];exact this
    ·intro i j hi hj;have gG:=hi;rw[d8]at gG;have:=gF (l+i) j (by omega) (by rw[ek i hi]at hj;exact hj);simpa[ek i hi]using this
   rw[d8]at key;exact key

theorem zfE{isS:Bool}{len cap:Nat}{lo hi:Option Value}{l h:Nat}(iG:(hi=none∧h=len)∨∃ k n,hi=some (.int k n)∧0≤n∧h=n.toNat)(iH:(lo=none∧l=0)∨∃ k n,lo=some (.int k n)∧0≤n∧l=n.toNat)(hl:l≤h)(hh:h≤cap):
  (Instr.sliceBounds isS len cap lo hi none).run P w=.ok (l,h,cap) w:=by
 rcases iG with ⟨rfl,rfl⟩|⟨k,n,rfl,hn,rfl⟩ <;> rcases iH with ⟨rfl,rfl⟩|⟨k',m,rfl,hm,rfl⟩
 ·simp[Instr.sliceBounds]
 ·have:m≤(h:Int):=by omega
  simp[Instr.sliceBounds,Instr.sliceBound,asIntOf,hm,this]
 ·have:n≤(cap:Int):=by omega
  simp[Instr.sliceBounds,Instr.sliceBound,asIntOf,hn,this]
 ·have h1:n≤(cap:Int):=by omega
  have h2:m≤((n.toNat:Nat):Int):=by omega
  simp[Instr.sliceBounds,Instr.sliceBound,asIntOf,hn,h1,hm];try omega

theorem zIY(s:List UInt8)(l h:Nat):(ByteArray.mk s.toArray).extract l h=⟨((s.take h).drop l).toArray⟩:=by apply ByteArray.ext;simp[ByteArray.data_extract,du]

theorem zqQ{t:TypeId}{u size:Nat}{v:Value}{x:AV}{lo hi:Option Value}{alo ahi:Option AV}{K:AV→Prop}(hx:TRel w G v x)(iH:All2 (TRel w G) lo.toList alo.toList)(iG:All2 (TRel w G) hi.toList ahi.toList)(ht:zdE P t=some u)(hs:u=1→(zbc P t).bind (za0 P)=some size)(h:zaS u size x alo ahi K):∃r,(Instr.sliceAt t v lo hi none).run P w=.ok r w∧∃av,TRel w G r av∧K av:=by
 unfold zaS at h;split at h
 ·rename_i s;have hu:=zrd ht;cases hx;obtain⟨hh,lj,h⟩:=zd6 iG h;obtain⟨ll,lk,⟨h1,h2⟩,hk⟩:=zd6 iH h;refine⟨.string ⟨((s.take hh).drop ll).toArray⟩,?_,.str ((s.take hh).drop ll),rfl,hk⟩;have hb:=zfE (P:=P) (w:=w) (isS:=false) (len:=s.length) (cap:=s.length) lj lk h1 h2;simp only[Instr.sliceAt,Instr.slice,Sem.run_bind,za1 hu,Result.andThen_ok,zij,hb,Option.isSome_none,aF,aH,Sem.run_pure,zIY]
 ·rename_i es tok;obtain⟨hh,lj,h⟩:=zd6 iG h;obtain⟨ll,lk,⟨h1,h2,h3⟩,hk⟩:=zd6 iH h;have hs:=hs rfl;cases he:zbc P t with
  |none=>simp[he]at hs
  |some e=>
   simp only[he,Option.bind_some]at hs;have hd:=zii hx;obtain⟨a,cap,rfl,ey⟩:=hd.slice_form;have hcap':hh≤cap:=by
    by_cases en:es=[]
    ·subst en;simp at h2;omega
    ·have:=ey en;omega
   have hb:=zfE (P:=P) (w:=w) (isS:=true) (len:=es.length) (cap:=cap) lj lk h1 hcap';have iR:=hd.sub h1 h2 size rfl h3;refine⟨_,?_,.sl ((es.take hh).drop ll) .none,iR,hk⟩;simp only[Instr.sliceAt,Instr.slice,Sem.run_bind,za1 (zb6 he),Result.andThen_ok,hb,Sem.run_pure,zbX hs]
 ·obtain⟨hh,lj,h⟩:=zd6 iG h;obtain⟨ll,lk,⟨h1,h2⟩,hk⟩:=zd6 iH h;have hs:=hs rfl;cases he:zbc P t with
  |none=>simp[he]at hs
  |some e=>
   simp only[he,Option.bind_some]at hs;cases hx;have hb:=zfE (P:=P) (w:=w) (isS:=true) (len:=0) (cap:=0) lj lk h1 h2;refine⟨.slice none 0 0,?_,.snil,rfl,hk⟩;have:ll=0:=by omega
   subst this;have:hh=0:=by omega
   subst this;simp[Instr.sliceAt,Instr.slice,Sem.run_bind,za1 (zb6 he),hb,zbX hs]
 ·rename_i id n;obtain⟨hh,lj,h⟩:=zd6 iG h;obtain⟨ll,lk,⟨h1,rfl⟩,hk⟩:=zd6 iH h;have hs:=hs rfl;cases he:zbc P t with
  |none=>simp[he]at hs
  |some e=>
   simp only[he,Option.bind_some]at hs;obtain⟨⟨a,cap,rfl,ha,mj⟩,v',sz,n',hμ,eH,heq⟩:=hx;have hb:=zfE (P:=P) (w:=w) (isS:=true) (len:=hh) (cap:=cap) lj lk h1 mj;refine⟨zih size ll (.slice a hh cap),?_,.os id hh ll size,⟨⟨h1,?_⟩,v',sz,n',hμ,eH,λe=>by rw[←heq e]⟩,hk⟩
   ·simp only[Instr.sliceAt,Instr.slice,Sem.run_bind,za1 (zb6 he),Result.andThen_ok,hb,Sem.run_pure,zbX hs];cases a with
    |none=>simp[zih]
    |some a=>by_cases hc:cap=ll <;> simp[zih,hc]
   ·cases a with
    |none=>exact⟨none,cap-ll,rfl,by omega⟩
    |some a=>exact⟨_,cap-ll,rfl,by omega⟩
 ·rename_i id off len cap;obtain⟨hh,lj,h⟩:=zd6 iG h;obtain⟨ll,lk,⟨h1,h2⟩,hk⟩:=zd6 iH h;have hs:=hs rfl;cases he:zbc P t with
  |none=>simp[he]at hs
  |some e=>simp only[he,Option.bind_some]at hs;obtain⟨b,hμ,rfl⟩:=hx;have hb:=zfE (P:=P) (w:=w) (isS:=true) (len:=len) (cap:=cap) lj lk h1 h2;refine⟨.slice (some ⟨b,if cap=ll then off else off+ll*size,none⟩) (hh-ll) (cap-ll),?_,.ms id (if cap=ll then off else off+ll*size) (hh-ll) (cap-ll),⟨b,hμ,rfl⟩,hk⟩;simp only[Instr.sliceAt,Instr.slice,Sem.run_bind,za1 (zb6 he),Result.andThen_ok,hb,Sem.run_pure,zbX hs];by_cases hc:cap=ll <;> simp[hc,add_lit]
 ·exact h.elim

theorem zHM{op:BinOp}{t:TypeId}{x y:Operand}{k:IntKind}{m:Int}{b:Value}:(eqGuard op t x y (.int k m) b).run P w=.ok () w:=by cases op <;> rfl
theorem zHN{op:BinOp}{t:TypeId}{x y:Operand}{s:ByteArray}{b:Value}:(eqGuard op t x y (.string s) b).run P w=.ok () w:=by cases op <;> rfl
theorem zHL{op:BinOp}{t:TypeId}{x y:Operand}{m:Bool}{b:Value}:(eqGuard op t x y (.bool m) b).run P w=.ok () w:=by cases op <;> rfl

def BinR(P:Program)(w:World)(G:Gh)(op:BinOp)(t:TypeId)(u v:Value)(K:AV→Prop):Prop:=∃r,(binOp op t u v).run P w=.ok r w∧∃av,TRel w G r av∧K av
theorem BinR.mk{op:BinOp}{t:TypeId}{u v r:Value}{K:AV→Prop}(av:AV)(h:(binOp op t u v).run P w=.ok r w)(hr:TRel w G r av)(hk:K av):BinR P w G op t u v K:=⟨r,h,av,hr,hk⟩
theorem zEY{op:BinOp}{t:TypeId}{k:IntKind}{m n:Int}{b:Bool}{K:AV→Prop}(h:zad op b (.int k m) (.int k n) K):BinR P w G op t (.int k m) (.int k n) K:=by
 rw[zcg]at h;have h:=h.2;cases op <;> simp only[]at h <;> first|exact h.elim|skip
 case add=>exact BinR.mk (.int k (k.wrap (m+n))) (by simp[binOp,Op.intArith]) rfl h
 case sub=>exact BinR.mk (.int k (k.wrap (m-n))) (by simp[binOp,Op.intArith]) rfl h
 case mul=>exact BinR.mk (.int k (k.wrap (m*n))) (by simp[binOp,Op.intArith]) rfl h
 case quo=>exact BinR.mk (.int k (k.wrap (m.tdiv n))) (by simp[binOp,Op.intDiv,h.1]) rfl h.2
 case rem=>exact BinR.mk (.int k (m.tmod n)) (by simp[binOp,Op.intDiv,h.1]) rfl h.2
 case eql=>exact BinR.mk (.bool (m == n)) (by simp[binOp,Op.intCmp]) rfl h
 case neq=>exact BinR.mk (.bool (m != n)) (by simp[binOp,Op.intCmp]) rfl h
 case lss=>exact BinR.mk (.bool (decide (m<n))) (by simp[binOp,Op.intCmp]) rfl h
 case leq=>exact BinR.mk (.bool (decide (m≤n))) (by simp[binOp,Op.intCmp]) rfl h
 case gtr=>exact BinR.mk (.bool (decide (m>n))) (by simp[binOp,Op.intCmp]) rfl h
 case geq=>exact BinR.mk (.bool (decide (m≥n))) (by simp[binOp,Op.intCmp]) rfl h
theorem zEZ{op:BinOp}{t:TypeId}{s s':List UInt8}{b:Bool}{K:AV→Prop}(h:zad op b (.str s) (.str s') K):BinR P w G op t (.string ⟨s.toArray⟩) (.string ⟨s'.toArray⟩) K:=by
 rw[zcg]at h;cases op <;> simp only[]at h <;> first|exact h.elim|skip
 case add=>
  obtain⟨h1,h2⟩:=h;refine BinR.mk (r:=.string ⟨(s++s').toArray⟩) (.str (s++s')) ?_ rfl h2;have d7:¬((((ByteArray.mk s.toArray).size+(ByteArray.mk s'.toArray).size:Nat):Int)>IntKind.i64.max):=by
   have:IntKind.i64.max=9223372036854775807:=by decide
   rw[zij,zij];omega
  have ml:(ByteArray.mk s.toArray)++(ByteArray.mk s'.toArray)=⟨(s++s').toArray⟩:=by apply ByteArray.ext;simp
  simp only[binOp,Op.stringOp];rw[ap d7,ml];rfl
 case eql=>exact BinR.mk (r:=.bool (s == s')) (.bool (s == s')) (by simp only[binOp,Op.stringOp,zgF];rfl) rfl h
 case neq=>exact BinR.mk (r:=.bool (!(s == s'))) (.bool (!(s == s'))) (by simp only[binOp,Op.stringOp,zgF];rfl) rfl h
 case lss=>exact BinR.mk (r:=.bool (Op.bytesLess s s')) (.bool (Op.bytesLess s s')) (by simp only[binOp,Op.stringOp,zgF];rfl) rfl h
 case leq=>exact BinR.mk (r:=.bool (Op.bytesLess s s' || s == s')) (.bool (Op.bytesLess s s' || s == s')) (by simp only[binOp,Op.stringOp,zgF];rfl) rfl h
 case gtr=>exact BinR.mk (r:=.bool (!(Op.bytesLess s s' || s == s'))) (.bool (!(Op.bytesLess s s' || s == s'))) (by simp only[binOp,Op.stringOp,zgF];rfl) rfl h
 case geq=>exact BinR.mk (r:=.bool (!Op.bytesLess s s')) (.bool (!Op.bytesLess s s')) (by simp only[binOp,Op.stringOp,zgF];rfl) rfl h
theorem zEX{op:BinOp}{t:TypeId}{m n b:Bool}{K:AV→Prop}(hu:b=true→P.underlying t=some .bool)(h:zad op b (.bool m) (.bool n) K):BinR P w G op t (.bool m) (.bool n) K:=by
 rw[zcg]at h;have hu:=hu h.1;have h:=h.2;have he:∀x y:Bool,(Op.equal t (.bool x) (.bool y)).run P w=.ok (x == y) w:=λx y=>by have hm:Op.equal t (.bool x) (.bool y)=Op.equalIn (9999+1) t (.bool x) (.bool y):=rfl;rw[hm];unfold Op.equalIn;simp only[Sem.run_bind,za1 hu,Result.andThen_ok,Sem.run_pure]
 cases op <;> simp only[]at h <;> first|exact h.elim|skip
 case eql=>exact BinR.mk (.bool (m == n)) (by simp only[binOp,Sem.run_bind,he,Result.andThen_ok,Sem.run_pure]) rfl h
 case neq=>exact BinR.mk (.bool (!(m == n))) (by simp only[binOp,Sem.run_bind,he,Result.andThen_ok,Sem.run_pure]) rfl h

theorem zIq{op:BinOp}{t:TypeId}{xo yo:Operand}{u v:Value}{x y:AV}{K:AV→Prop}(hx:TRel w G u x)(hy:TRel w G v y)(h:zad op (zqX P t) x y K):
  ∃r,((do eqGuard op t xo yo u v;binOp op t u v):Sem Value).run P w=.ok r w∧∃av,TRel w G r av∧K av:=by
 have h0:=h;rw[zcg]at h;split at h
 ·cases hx;cases hy;have hk:=h.1;subst hk;obtain⟨r,h1,h2⟩:=zEY (P:=P) (w:=w) (G:=G) (t:=t) h0;exact⟨r,by rw[Sem.run_bind,zHM];exact h1,h2⟩
 ·cases hx;cases hy;obtain⟨r,h1,h2⟩:=zEZ (P:=P) (w:=w) (G:=G) (t:=t) h0;exact⟨r,by rw[Sem.run_bind,zHN];exact h1,h2⟩
 ·cases hx;cases hy;obtain⟨r,h1,h2⟩:=zEX (P:=P) (w:=w) (G:=G) (t:=t) (λhb=>by
   unfold zqX at hb;split at hb
   ·assumption
   ·cases hb) h0
  exact⟨r,by rw[Sem.run_bind,zHL];exact h1,h2⟩
 ·exact h.elim

theorem zIM{op:BinOp}{t:TypeId}{xo yo:Operand}{u:Value}{x:AV}{a:Act}{K:AV→Prop}(hx:TRel w G u x)(hy:zo8 yo=true)(h:zcU (zqY P t) op x K):
  ∃r,((do eqGuard op t xo yo u (a.eval yo);binOp op t u (a.eval yo)):Sem Value).run P w=.ok r w∧∃av,TRel w G r av∧K av:=by
 obtain⟨ht,h⟩:=h;obtain⟨ms,hu⟩:∃ms,P.underlying t=some (.interface ms):=by
  unfold zqY at ht;split at ht
  ·exact⟨_,by assumption⟩
  ·cases ht
 obtain rfl:yo=.const .nilIface:=by
  unfold zo8 at hy;split at hy
  ·rfl
  ·cases hy
 have he:a.eval (.const .nilIface)=.nilIface:=rfl;rw[he];split at h
 ·cases hx;have hq:∀ d:Nat,(Op.equalIn (d+1) t .nilIface .nilIface).run P w=.ok true w:=λd=>by simp[Op.equalIn,za1 hu]
  have hg:∀op,eqGuard op t xo (.const .nilIface) .nilIface .nilIface=pure ():=λop=>eqGuard_nil_constR _ _ _ _;split at h
  ·exact⟨.bool true,by rw[hg];simp only[binOp];simp[Op.equal,Op.maxDepth,hq 9999],.bool true,rfl,h⟩
  ·exact⟨.bool false,by rw[hg];simp only[binOp];simp[Op.equal,Op.maxDepth,hq 9999],.bool false,rfl,h⟩
  ·exact h.elim
 ·obtain⟨ti,xi,rfl⟩:=hx;have hq:∀ d:Nat,(Op.equalIn (d+1) t (.iface ti xi) .nilIface).run P w=.ok false w:=λd=>by simp[Op.equalIn,za1 hu]
  have hg:∀op,eqGuard op t xo (.const .nilIface) (.iface ti xi) .nilIface=pure ():=λop=>eqGuard_at_iface _ _ _ _ _ _ _;split at h
  ·exact⟨.bool false,by rw[hg];simp only[binOp];simp[Op.equal,Op.maxDepth,hq 9999],.bool false,rfl,h⟩
  ·exact⟨.bool true,by rw[hg];simp only[binOp];simp[Op.equal,Op.maxDepth,hq 9999],.bool true,rfl,h⟩
  ·exact h.elim
 ·exact h.elim

theorem zIR{op:UnOp}{v:Value}{x:AV}{K:AV→Prop}(hx:TRel w G v x)(h:aUn op x K):∃r,(Op.unary op v).run P w=.ok r w∧∃av,TRel w G r av∧K av:=by
 unfold aUn at h;split at h
 ·cases hx;exact⟨_,by simp[Op.unary],.bool _,rfl,h⟩
 ·cases hx;exact⟨_,by simp[Op.unary,Op.intArith],.int _ _,rfl,h⟩
 ·exact h.elim
theorem zIx{s t:TypeId}{j k:IntKind}{v:Value}{x:AV}{K:AV→Prop}(hx:TRel w G v x)(hs:P.underlying s=some (.int j))(ht:P.underlying t=some (.int k))(h:za9 k x K):
  ∃r,(convert s t v).run P w=.ok r w∧∃av,TRel w G r av∧K av:=by
 unfold za9 at h;split at h
 ·cases hx;exact⟨_,by simp[convert,za1 hs,za1 ht,Conv.intToInt],.int _ _,rfl,h⟩
 ·exact h.elim
theorem zIz{s t:TypeId}{v:Value}{x:AV}{K:AV→Prop}(hx:TRel w G v x)(hs:P.underlying s=some .string)(ht:P.underlying t=some .string)(h:zdW x K):
  ∃r,(convert s t v).run P w=.ok r w∧∃av,TRel w G r av∧K av:=by
 unfold zdW at h;split at h
 ·cases hx;exact⟨_,by simp[convert,za1 hs,za1 ht],.str _,rfl,h⟩
 ·exact h.elim
theorem zIB{v:Value}{x:AV}{i:Nat}{K:AV→Prop}(hx:TRel w G v x)(h:zay x i K):∃r,(Instr.extract v i).run P w=.ok r w∧∃av,TRel w G r av∧K av:=by
 unfold zay at h;split at h
 ·obtain⟨vs,rfl,hr⟩:=hx;split at h
  ·rename_i a ha;obtain⟨u,h1,h2⟩:=hr.get ha;have:vs[i]?=some u:=by simpa using h1
   exact⟨u,by simp[Instr.extract,this],a,TRel.of_v h2,h⟩
  ·exact h.elim
 ·exact h.elim

end
section
open Go.RowKit

variable {P:Program} {B:Nat} {w:World} {G:Gh} {H:zaa}

theorem zIS(l:List Value)(k:Nat)(v:Value)(rest:List Value)(hk:k+(rest.length+1)≤l.length):
  (l.set k v).take (k+1)++rest++(l.set k v).drop (k+1+rest.length)=l.take k++(v::rest)++l.drop (k+(rest.length+1)):=list_seg_step l k v rest hk

theorem zwA(off:Nat):∀ (vs:List Value) (k:Nat) (cs:Array Value),off+k+vs.length≤cs.size →
  ((vs.zipIdx k).foldl (λ(cs:Array Value) (p:Value×Nat)=>cs.setIfInBounds (off+p.2) p.1) cs).toList=cs.toList.take (off+k)++vs++cs.toList.drop (off+k+vs.length)
 |[],k,cs,h=>by simp
 |v::vs,k,cs,h=>by simp only[List.zipIdx_cons,List.foldl_cons];rw[zwA off vs (k+1) (cs.setIfInBounds (off+k) v) (by simp at h ⊢;omega)];have:=zIS cs.toList (off+k) v vs (by simp at h ⊢;omega);simpa[bT,ae]using this

theorem zvJ(off:Nat)(vs cs:Array Value)(h:off+vs.size≤cs.size):
  (vs.zipIdx.foldl (λcs (c,j)=>cs.setIfInBounds (off+j) c) cs).toList=cs.toList.take off++vs.toList++cs.toList.drop (off+vs.size):=by
 have:=zwA off vs.toList 0 cs (by simpa using h);simp only[Nat.add_zero,Array.length_toList]at this;rw[←this,←Array.foldl_toList,Array.toList_zipIdx]

theorem zwv{places:List (Nat × Nat)}:∀ (dX:List (Nat × Value)) (d5:List (Nat × AV)) (cells:Array Value) (cs cs':List AV),
  All2 (λ(p:Nat×Value) (q:Nat×AV)=>p.1=q.1∧TRel w G p.2 q.2) dX d5→All2 (ARel w G) cells.toList cs→zaL places d5 cs=some cs' →
  ∃cells',Instr.fill (places.toArray[·]?) cells dX=some cells'∧All2 (ARel w G) cells'.toList cs'
 |[],[],cells,cs,cs',_,hc,hf=>by simp[zaL]at hf;subst hf;exact⟨cells,rfl,hc⟩
 |(i,v)::dX,(i',x)::d5,cells,cs,cs',hp,hc,hf=>by
  obtain⟨⟨h1,h2⟩,h3⟩:=hp;simp only[]at h1 h2;subst h1;unfold zaL at hf;split at hf
  ·rename_i off size xs gd jY;split at hf
   ·rename_i hb;simp only[ai,a6,aR]at hb;have iE:=zhi h2 jY;have jP:=iE.length;have oR:=hc.length;simp at jP oR;have eU:off+v.cells.size≤cells.size:=by omega
    have oS:=zvJ off v.cells cells eU;have jZ:All2 (ARel w G) (v.cells.zipIdx.foldl (λcs (c,j)=>cs.setIfInBounds (off+j) c) cells).toList (cs.take off++xs++cs.drop (off+size)):=by rw[oS,jP,hb.1];exact((hc.take off).append iE).append (hc.drop (off+size))
    obtain⟨cells',fE,gO⟩:=zwv dX d5 _ _ cs' h3 jZ hf;refine⟨cells',?_,gO⟩;unfold Instr.fill;have hpl':places.toArray[i]?=some (off,size):=by simpa using gd
    simp only[hpl'];rw[ap (by simp;omega)];exact fE
   ·cases hf
  ·cases hf

theorem zHj(fs:List Field):(fs.mapM λf=>(za0 P f.type).map λs=>(f.offset,s))=fs.mapM (λf=>(P.info? f.type).map λi=>(f.offset,i.size)):=by congr 1;funext f;simp[za0,Function.comp_def]

theorem zIs{t:TypeId}{z:Value}{ps:List (Nat × Nat)}{dX:Array (Nat × Value)}{d5:List (Nat × AV)}{K:AV→Prop}(hz:zbA P t=some z)(hp:zqZ P t=some ps)(hr:All2 (λ(p:Nat × Value) (q:Nat × AV)=>p.1=q.1∧TRel w G p.2 q.2) dX.toList d5)(h:zar (zbx z) ps d5 K):
  ∃r,(Instr.build t dX).run P w=.ok r w∧∃av,TRel w G r av∧K av:=by
 unfold zar at h;split at h
 ·rename_i cs' hf;obtain⟨cells',h1,h2⟩:=zwv dX.toList d5 z.cells (zbx z) cs' hr (zdR z) hf;refine⟨.agg cells',run_build w t dX cells' ?_,.agg cs',⟨cells',rfl,h2⟩,h⟩;unfold Program.built;unfold zbA at hz;cases hi:P.info? t with
  |none=>simp[hi]at hz
  |some it=>
   simp[hi]at hz;unfold zqZ at hp;cases hu:P.underlying t with
   |none=>simp[hu]at hp
   |some d=>
    cases d <;> simp only[hu,Option.bind_some]at hp <;> try (cases hp;done)
    rw[zHj]at hp;simp only[hz,hp];exact h1
 ·exact h.elim

theorem zHi{v:Value}{a d:AV}(h:ARel w G v a)(hd:a.pd=some d):DRel w G.L v d:=by
 cases a with
 |bool b=>cases hd;cases h;exact .bool b
 |int k n=>cases hd;cases h;exact .int k n
 |str s=>cases hd;cases h;exact .str s
 |snil=>cases hd;cases h;exact .slE _ _
 |sl es tok=>
  cases hd;cases tok with
  |none=>exact h
  |full=>exact h.1
  |own id=>exact h.1
 |_=>cases hd
theorem zdx:∀ {vs:List Value} {asx ds:List AV},All2 (ARel w G) vs asx→plain asx=some ds→All2 (DRel w G.L) vs ds
 |[],[],ds,_,h=>by cases h;trivial
 |v::vs,a::asx,ds,hr,h=>by
  unfold plain at h;split at h
  ·rename_i d ds' h1 h2;cases h;exact⟨zHi hr.1 h1,zdx hr.2 h2⟩
  ·cases h
theorem zxQ:∀ {asx ds:List AV},plain asx=some ds→ds.length=asx.length
 |[],ds,h=>by cases h;rfl
 |a::asx,ds,h=>by
  unfold plain at h;split at h
  ·rename_i d ds' h1 h2;cases h;simp[zxQ h2]
  ·cases h

theorem zhq{size:Nat}:∀ {es:List (List AV)},(∀ c∈es,c.length=size)→es.flatten.length=es.length*size
 |[],_=>by simp
 |e::es,h=>by rw[List.flatten_cons,az,zhq (λc hc=>h c (by simp[hc])),h e (by simp),List.length_cons,aZ];omega
theorem zhp{size:Nat}:∀ {es:List (List AV)},(∀ c∈es,c.length=size)→∀ (i j:Nat) (hi:i<es.length) (hj:j<(es[i]).length),es.flatten[i*size+j]?=some (es[i])[j]
 |[],_,i,_,hi,_=>by simp at hi
 |e::es,h,0,j,hi,hj=>by simp only[List.getElem_cons_zero]at hj ⊢;rw[List.flatten_cons,List.getElem?_append_left (by omega)];simp[hj]
 |e::es,h,i+1,j,hi,hj=>by simp only[List.getElem_cons_succ]at hj ⊢;have he:=h e (by simp);have:=zhp (es:=es) (λc hc=>h c (by simp[hc])) i j (by simpa using hi) hj;rw[List.flatten_cons,List.getElem?_append_right (by rw[he,aZ];omega),he];rw[show (i+1)*size+j-size=i*size+j by rw[aZ];omega];exact this

theorem DRel.of_flat{L:Nat→Nat}{g size cap:Nat}{es:List (List AV)}{zs:List Value}(ep:∀c∈es,c.length=size)(en:es≠[])(ey:es.length≤cap)(hL:es.length*size≤L g)(hr:All2 (DRel w L) zs es.flatten)(hc:∀j v,zs[j]?=some v→w.cell? ⟨g,j,none⟩=some v):DRel w L (.slice (some ⟨g,0,none⟩) es.length cap) (.sl es .none):=by
 have ek:∀i j (hi:i<es.length) (hj:j<(es[i]).length),∃v,zs[i*size+j]?=some v∧DRel w L v (es[i])[j]:=λi j hi hj=>hr.get (zhp ep i j hi hj);refine .sl g 0 cap size es (λi j=>zs.getD (i*size+j) undef) en ey (by omega) (λi hi=>ep _ (ah hi)) (λi j hi hj=>?_) (λi j hi hj=>?_)
 ·obtain⟨v,h1,h2⟩:=ek i j hi hj;simp only[aG,List.getD_eq_getElem?_getD,h1,Option.getD_some];exact hc _ _ h1
 ·obtain⟨v,h1,h2⟩:=ek i j hi hj;simp only[List.getD_eq_getElem?_getD,h1,Option.getD_some];exact h2
theorem DRel.flat{L:Nat→Nat}{v:Value}{es:List (List AV)}{size:Nat}(h:DRel w L v (.sl es .none))(en:es≠[])(ep:∀ c∈es,c.length=size):
  ∃b off cap zs,v=.slice (some ⟨b,off,none⟩) es.length cap∧zs.length=es.length*size∧All2 (DRel w L) zs es.flatten∧(∀j u,zs[j]?=some u→w.cell? ⟨b,off+j,none⟩=some u)∧off+es.length*size≤L b:=by
 cases h with
 |slE a cap=>exact absurd rfl en
 |sl b off cap dY _ vs en ey hL fO hc hd=>
  have h0:0<es.length:=by cases es <;> simp_all
  have mi:dY=size:=by rw[←fO 0 h0];exact ep _ (ah h0)
  subst mi;have eZ:=zhq ep
  -- position k of the row lies in element k / dY
  have ga:∀k,k<es.length*dY→∃i j,∃(hi:i<es.length) (_:j<(es[i]).length),k=i*dY+j:=by
   intro k hk;have hz:0<dY:=by cases dY <;> simp_all
   refine⟨k / dY,k % dY,?_,?_,?_⟩
   ·exact(ct hz).2 hk
   ·rw[fO _ _];exact ck _ hz
   ·rw[ba];exact(dh k dY).symm
  refine⟨b,off,cap,(List.range (es.length*dY)).map (λk=>vs (k / dY) (k % dY)),rfl,by simp,?_,?_,hL⟩
  ·refine All2.of_get (by simp[eZ]) λk x y hx hy=>?_;have hk:k<es.length*dY:=by have:=(List.getElem?_eq_some_iff.1 hx).1;simpa using this
   obtain⟨i,j,hi,hj,rfl⟩:=ga k hk;have kV:j<dY:=by rw[←fO i hi];exact hj
   rw[zhp ep i j hi hj]at hy;cases hy;simp only[List.getElem?_map,List.getElem?_range hk,Option.map_some,bL]at hx;have hz:0<dY:=by omega
   rw[show (i*dY+j) / dY=i by rw[ba,c9 hz,bQ kV];omega,show (i*dY+j) % dY=j by rw[ba,db,bH kV]]at hx;rw[←hx];exact hd i j hi hj
  ·intro k u hx;have hk:k<es.length*dY:=by have:=(List.getElem?_eq_some_iff.1 hx).1;simpa using this
   obtain⟨i,j,hi,hj,rfl⟩:=ga k hk;have kV:j<dY:=by rw[←fO i hi];exact hj
   simp only[List.getElem?_map,List.getElem?_range hk,Option.map_some,bL]at hx;have hz:0<dY:=by omega
   rw[show (i*dY+j) / dY=i by rw[ba,c9 hz,bQ kV];omega,show (i*dY+j) % dY=j by rw[ba,db,bH kV]]at hx;rw[←hx,←ae];exact hc i j hi hj

end
section
open Go.RowKit

variable {P:Program} {B:Nat} {w:World} {G:Gh} {H:zaa}

theorem zpg{R:Value→AV→Prop}{z:Array Value}{zc:List AV}(h:All2 R z.toList zc)(hz:0<z.size):∀n,All2 R ((Array.range (n*z.size)).map (z[· % z.size]!)).toList (List.replicate n zc).flatten:=by
 intro n;have hl:=h.length;simp at hl;have eB:∀c∈List.replicate n zc,c.length=z.size:=λc hc=>by rw[bm hc,hl]
 have eZ:=zhq eB;refine All2.of_get (by simp[hl]) λk x y hx hy=>?_;have hk:k<n*z.size:=by have:=(List.getElem?_eq_some_iff.1 hx).1;simpa using this
 have hi:k / z.size<(List.replicate n zc).length:=by simpa using(ct hz).2 hk
 have hj:k % z.size<((List.replicate n zc)[k / z.size]).length:=by simp[←hl];exact ck _ hz
 have:=zhp eB (k / z.size) (k % z.size) hi hj;rw[show k / z.size*z.size+k % z.size=k by rw[ba];exact dh k z.size,hy]at this;simp only[dK,bL]at this;have jQ:z[k % z.size]! = x:=by simpa[hk]using hx
 have hm:k % z.size<z.size:=ck _ hz;have hzx:z.toList[k % z.size]?=some x:=by rw[←jQ];simp[hm]
 obtain⟨b,h1,h2⟩:=h.get' hzx;have:zc[k % z.size]?=some y:=by rw[this];simp
 rw[this]at h1;cases h1;exact h2

theorem zwx{size:Nat}:∀ {es:List (List AV)},(∀ c∈es,c.length=size)→∀ (i:Nat) (ds:List AV),i<es.length→(es.set i ds).flatten=es.flatten.take (i*size)++ds++es.flatten.drop (i*size+size)
 |[],_,i,_,hi=>by simp at hi
 |e::es,h,0,ds,hi=>by have he:=h e (by simp);simp[←he]
 |e::es,h,i+1,ds,hi=>by
  have he:=h e (by simp);have:=zwx (es:=es) (λc hc=>h c (by simp[hc])) i ds (by simpa using hi);rw[List.set_cons_succ,List.flatten_cons,this,List.flatten_cons];have h1:(i+1)*size=e.length+i*size:=by rw[aZ,he];omega
  rw[h1,ae];simp[dJ,cZ,am,bK]

theorem zwu{size:Nat}:∀ (dX:List (Nat × Value)) (d5:List (Nat × AV)) (cells:Array Value) (es es':List (List AV)),(∀ c∈es,c.length=size) →
  All2 (λ(p:Nat×Value) (q:Nat×AV)=>p.1=q.1∧TRel w G p.2 q.2) dX d5→All2 (DRel w G.L) cells.toList es.flatten→zaU size d5 es=some es' →
  ∃cells',Instr.fill (λi=>some (i*size,size)) cells dX=some cells'∧All2 (DRel w G.L) cells'.toList es'.flatten∧(∀c∈es',c.length=size)∧es'.length=es.length
 |[],[],cells,es,es',hs,_,hc,hf=>by simp[zaU]at hf;subst hf;exact⟨cells,rfl,hc,hs,rfl⟩
 |(i,v)::dX,(i',x)::d5,cells,es,es',hs,hp,hc,hf=>by
  obtain⟨⟨h1,h2⟩,h3⟩:=hp;simp only[]at h1 h2;subst h1;unfold zaU at hf;split at hf
  ·rename_i xs jY;split at hf
   ·rename_i ds ji;split at hf
    ·rename_i hb;simp only[ai,a6,aR]at hb;have iE:=zdx (zhi h2 jY) ji;have jP:=iE.length;have oR:=hc.length;have eZ:=zhq hs;simp at jP;simp only[Array.length_toList]at oR;have kf:(i+1)*size≤es.length*size:=au _ hb.2;rw[aZ]at kf;have eU:i*size+v.cells.size≤cells.size:=by omega
     have oS:=zvJ (i*size) v.cells cells eU;have jZ:All2 (DRel w G.L) (v.cells.zipIdx.foldl (λcs (c,j)=>cs.setIfInBounds (i*size+j) c) cells).toList (es.set i ds).flatten:=by rw[oS,zwx hs i ds hb.2,jP,hb.1];exact((hc.take _).append iE).append (hc.drop _)
     have kg:∀c∈es.set i ds,c.length=size:=λc fg=>by
      rcases bX fg with h|h
      ·exact hs c h
      ·rw[h];exact hb.1
     obtain⟨cells',fE,gO,iF,jh⟩:=zwu dX d5 _ _ es' kg h3 jZ hf;refine⟨cells',?_,gO,iF,by rw[jh];simp⟩;unfold Instr.fill;simp only[];rw[ap (by simp;omega)];exact fE
    ·cases hf
   ·cases hf
  ·cases hf

theorem zIt{t e:TypeId}{size len:Nat}{z:Value}{dX:Array (Nat × Value)}{d5:List (Nat × AV)}{K:AV→zaa→Prop}(hH:HRel B w G H)(he:zbc P t=some e)(hn:za0 P e=some size)(hz:zbA P e=some z)(h0:0<size)(d8:len*size≤16777216)(jj:(zbx z).length=size)(hr:All2 (λ(p:Nat × Value) (q:Nat × AV)=>p.1=q.1∧TRel w G p.2 q.2) dX.toList d5)(h:zau size (zbx z) len d5 (K · H)):
  OpOK P B w G K (((do pure (.value (←Instr.buildSlice t len dX))):Sem Next).run P w):=by
 unfold zau at h;split at h
 ·rename_i zc nh;split at h
  ·rename_i es eO;have gQ:=zdR (w:=w) (G:=G) z;have gR:z.cells.size=size:=by have:=gQ.length;simp at this;omega
   have oT:=zdx gQ nh;have hm:=zpg oT (by omega) len;rw[gR]at hm;have hzcl:zc.length=size:=by rw[zxQ nh];exact jj
   have eB:∀c∈List.replicate len zc,c.length=size:=λc hc=>by rw[bm hc,hzcl]
   obtain⟨cells',h1,h2,h3,h4⟩:=zwu dX.toList d5 _ _ es eB hr hm eO;simp at h4;have fO:cells'.size=len*size:=by have:=h2.length;rw[zhq h3,h4]at this;simpa using this
   obtain⟨hx,eJ⟩:=hH.frozen cells' e (len*size);have ef:((do pure (.value (←Instr.buildSlice t len dX))):Sem Next).run P w=.ok (.value (.slice (some ⟨w.heap.size,0,none⟩) len len)) (w.alloc (.cells cells' e)):=by
    have gS:¬(2 ^ 24<len*size):=by omega
    by_cases iS:len*size=0
    ·have hl:len=0:=by rcases Nat.mul_eq_zero.1 iS with h | h <;> omega
     subst hl;simp only[dN,Array.range_zero',Array.map_empty]at h1;simp[Instr.buildSlice,za1 (zb6 he),zbX hn,h1,newRow,World.alloc_eq,Array.range_zero']
    ·simp[Instr.buildSlice,za1 (zb6 he),zbX hn,ze5 hz,gS,iS,gR,h1,newRow,World.alloc_eq]
   rw[ef];refine⟨.sl es .full,_,H,hx,eJ,⟨?_,some ⟨w.heap.size,0,none⟩,by rw[h4]⟩,h⟩;by_cases en:es=[]
   ·subst en;simp at h4;subst h4;exact .slE _ _
   ·have:=DRel.of_flat (w:=w.alloc (.cells cells' e)) (L:=λb=>if b=w.heap.size then len*size else G.L b) (g:=w.heap.size) (cap:=len) (zs:=cells'.toList) h3 en (by omega) (by simp[h4]) (h2.mono λ_ _=>hx.drel)
     (λj v hj=>by rw[World.cell?_alloc_new];simpa using hj)
    rw[h4]at this;exact this
  ·exact h.elim
 ·exact h.elim

theorem zIJ{t e:TypeId}{size bytes:Nat}{z:Value}{vl vc:Value}{l c:AV}{K:AV→zaa→Prop}(hH:HRel B w G H)(he:zbc P t=some e)(hn:za0 P e=some size)(fh:zc5 P e=some bytes)(hz:zbA P e=some z)(h0:0<size)(jj:(zbx z).length=size)(hl:TRel w G vl l)(hc:TRel w G vc c)(h:zbu bytes (zbx z) l c H K):
  OpOK P B w G K (((do pure (.value (←Instr.makeSlice t vl vc))):Sem Next).run P w):=by
 unfold zbu at h;split at h
 ·rename_i l c;cases hl;cases hc;obtain⟨⟨h1,h2,h3,h4⟩,hk⟩:=h;have gQ:=zdR (w:=w) (G:=G) z;have gR:z.cells.size=size:=by have:=gQ.length;simp at this;omega
  unfold za0 at hn;unfold zbA at hz;unfold zc5 at fh;cases hi:P.info? e with
  |none=>simp[hi]at hn
  |some i=>
   simp[hi]at hn hz fh;have hr:=run_make (P:=P) w t e i z (zb6 he) hi hz .i64 .i64 l c h1 h2 (by rw[fh,Int.mul_comm];omega) h4;have hm:=zpg gQ (by omega) c.toNat;rw[gR]at hm;rw[hn]at hr;obtain⟨hx,eJ⟩:=hH.new (madeCells z.cells (c.toNat*size)) e _ (by simpa[madeCells,gR]using hm);have ef:((do pure (.value (←Instr.makeSlice t (.int .i64 l) (.int .i64 c)))):Sem Next).run P w=.ok (.value (.slice (some ⟨w.heap.size,0,none⟩) l.toNat c.toNat)) (w.alloc (.cells (madeCells z.cells (c.toNat*size)) e)):=by rw[Sem.run_bind,hr];rfl
   rw[ef];refine⟨.ms H.length 0 l.toNat c.toNat,_,_,hx,eJ,⟨w.heap.size,?_,rfl⟩,hk⟩;rw[←hH.len];simp
 ·exact h.elim

theorem zvW:∀ {es:List (List AV)} {s:List UInt8},zhe es=some s→∃ ns:List Int,es=ns.map (λn=>[.int .u8 n])∧s=ns.map (λn=>UInt8.ofNat n.toNat)
 |[],s,h=>by simp[zhe]at h;exact⟨[],rfl,h.symm ▸ rfl⟩
 |c::es,s,h=>by
  unfold zhe at h;split at h
  ·rename_i heq;cases heq
  ·rename_i n es' heq;cases heq;split at h
   ·rename_i s' kg;obtain⟨ns,rfl,rfl⟩:=zvW kg;cases h;exact⟨n::ns,rfl,rfl⟩
   ·cases h
  ·cases h
theorem zxW:∀ (ns:List Int) (dZ:List UInt8),ns.foldl (λr n=>r.push (UInt8.ofNat n.toNat)) (ByteArray.mk dZ.toArray)=⟨(dZ++ns.map λn=>UInt8.ofNat n.toNat).toArray⟩
 |[],dZ=>by simp
 |n::ns,dZ=>by
  have h:(ByteArray.mk dZ.toArray).push (UInt8.ofNat n.toNat)=⟨(dZ++[UInt8.ofNat n.toNat]).toArray⟩:=by simp[ByteArray.push]
  rw[List.foldl_cons,h,zxW ns];simp
theorem zwI{L:Nat→Nat}:∀ {zs:List Value} {ns:List Int},All2 (DRel w L) zs (ns.map (AV.int .u8))→zs=ns.map (Value.int .u8)
 |[],[],_=>rfl
 |z::zs,n::ns,h=>by obtain⟨h1,h2⟩:=h;cases h1;rw[zwI h2];rfl
theorem zzi:∀ ns:List Int,(ns.map λn=>[AV.int .u8 n]).flatten=ns.map (AV.int .u8)
 |[]=>rfl
 |n::ns=>by rw[aD,List.flatten_cons,zzi ns];rfl
theorem zIy{s t e:TypeId}{v:Value}{x:AV}{K:AV→Prop}(hx:TRel w G v x)(hs:P.underlying s=some (.slice e))(ht:P.underlying t=some .string)(he:tU8 P e=true)(h:zff x K):
  ∃r,(convert s t v).run P w=.ok r w∧∃av,TRel w G r av∧K av:=by
 have oU:P.underlying e=some (.int .u8):=by
  unfold tU8 at he;split at he
  ·assumption
  ·cases he
 unfold zff at h;split at h
 ·rename_i es tok;have hd:=zii hx;split at h
  ·rename_i bs hb;obtain⟨ns,rfl,rfl⟩:=zvW hb;refine⟨.string ⟨(ns.map λn=>UInt8.ofNat n.toNat).toArray⟩,?_,.str _,rfl,h⟩;by_cases en:ns=[]
   ·subst en;obtain⟨a,cap,rfl,_⟩:=hd.slice_form;rw[run_convert_bytes_string w s t e _ _ _ hs oU ht];cases a with
    |none=>rfl
    |some a=>
     have hl:(loadCells a 0).run P w=.ok #[] w:=by simpa using run_loadCells_list (P:=P) w a [] (by simp)
     exact run_bytesToString w a 0 cap [] hl
   ·obtain⟨b,off,cap,zs,rfl,jj,gQ,nh,_⟩:=hd.flat (size:=1) (by simpa using en) (by simp);rw[zzi]at gQ;obtain rfl:=zwI gQ;rw[run_convert_bytes_string w s t e _ _ _ hs oU ht];have iD:=run_loadCells_list (P:=P) w ⟨b,off,none⟩ (ns.map (Value.int .u8)) (λj v hj=>by rw[add_lit];exact nh j v hj);rw[cc]at iD;rw[cc,run_bytesToString w _ _ cap ns iD];have:=zxW ns [];simp only[List.nil_append]at this;rw[←this];rfl
  ·exact h.elim
 ·cases hx;refine⟨.string ⟨#[]⟩,?_,.str [],rfl,h⟩;rw[run_convert_bytes_string w s t e _ _ _ hs oU ht];rfl
 ·exact h.elim

end
end Go.Proofs.YtdmamdnkcefmmaaGreatDoor
