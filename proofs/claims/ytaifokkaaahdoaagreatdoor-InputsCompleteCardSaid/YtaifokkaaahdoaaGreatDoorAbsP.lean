import Derived.Test.YtaifokkaaahdoaaGreatDoorAbsC
import Derived.Laws.AppendOwnNone
import Derived.Laws.Strings
import Derived.Laws.MakeOwn
import Derived.Laws.BytesString
import Derived.MapKept
set_option linter.unusedSimpArgs false
set_option linter.unusedVariables false
set_option linter.unusedSectionVars false
set_option maxRecDepth 8000
namespace Go.Abs
open Go Go.RowKit

variable {P:Program} {B:Nat} {w:World} {G:Gh} {H:zaa}

def zBq(B:Nat)(w:World)(G:Gh)(K:AV→zaa→Prop)(e:Ending)(w':World):Prop:=
 ∃v r H' G',e=.returned v∧Ext B w G w' G'∧HRel B w' G' H'∧TRel w' G' v r∧K r H'

def OpOK(P:Program)(B:Nat)(w:World)(G:Gh)(K:AV→zaa→Prop):Result Next→Prop
 |.ok (.value v) w'=>∃av G' H',Ext B w G w' G'∧HRel B w' G' H'∧TRel w' G' v av∧K av H'
 |.ok .skip w'=>∃G' H',Ext B w G w' G'∧HRel B w' G' H'∧K (.tup []) H'
 |.ok (.enter f vs) w'=>w'=w∧Calls P f vs w (zBq B w G K)
 |_=>False

theorem OpOK.same{K:AV→zaa→Prop}{v:Value}{av:AV}(hH:HRel B w G H)(hv:TRel w G v av)(hK:K av H):OpOK P B w G K (.ok (.value v) w):=
 ⟨av,G,H,Ext.refl _ _ _,hH,hv,hK⟩

theorem zgM(v:Value):BRel w G v (zgr v):=by unfold zgr;split <;> first|rfl|trivial
theorem zpE(v:Value):TRel w G v (zcY v):=by
 unfold zcY;split
 ·rename_i cs;refine⟨cs,rfl,?_⟩;refine All2.of_get (by simp) λi x y hx hy=>?_;rw[List.getElem?_map,hx]at hy;simp at hy;rw[←hy];exact ARel.of_b (zgM x)
 ·exact TRel.of_v (VRel.of_a (ARel.of_b (zgM v)))
theorem zdM(v:Value):All2 (ARel w G) v.cells.toList (zbs v):=by
 unfold zbs;split
 ·rename_i cs;simp only[Value.cells];refine All2.of_get (by simp) λi x y hx hy=>?_;rw[List.getElem?_map,hx]at hy;simp at hy;rw[←hy];exact ARel.of_b (zgM x)
 ·rename_i h;have:v.cells=#[v]:=by cases v <;> first | rfl | exact absurd rfl (h _)
  rw[this];exact⟨ARel.of_b (zgM v),trivial⟩

theorem zaF{a:Act}{F:List AV}(hF:FRel w G a.tmps F)(x:Operand):TRel w G (a.eval x) (ev F x):=by
 cases x with
 |tmp t=>
  unfold Act.eval ev;simp only[];cases h:F[t]? with
  |none=>simp only[List.getD_eq_getElem?_getD,h];trivial
  |some b=>
   obtain⟨v,h1,h2⟩:=All2.get hF h;have:a.tmps[t]?=some v:=by simpa using h1
   simp only[List.getD_eq_getElem?_getD,h,Option.getD_some,Array.getD_eq_getD_getElem?,this];exact h2
 |const v=>exact zpE v
 |global g=>trivial
 |func f=>exact⟨#[],rfl,trivial⟩

theorem zuo{a:Act}{F:List AV}(hF:FRel w G a.tmps F)(xs:List Operand):All2 (TRel w G) (xs.map a.eval) (xs.map (ev F)):=by
 induction xs with
 |nil=>trivial
 |cons x xs ih=>exact⟨zaF hF x,ih⟩

theorem zwp{t:TypeId}{i:TypeInfo}(h:P.info? t=some i):(typeInfo t).run P w=.ok i w:=by simp[typeInfo,h]
theorem zbx{t:TypeId}{n:Nat}(h:zaP P t=some n):(sizeOf t).run P w=.ok n w:=by
 unfold zaP at h;cases hi:P.info? t with
 |none=>simp[hi]at h
 |some i=>simp[hi]at h;simp[sizeOf,zwp hi,h]
theorem zea{t:TypeId}{z:Value}(h:zbn P t=some z):(zeroValue t).run P w=.ok z w:=by
 unfold zbn at h;cases hi:P.info? t with
 |none=>simp[hi]at h
 |some i=>simp[hi]at h;simp[zeroValue,zwp hi,h]
theorem zaS{t:TypeId}{d:TypeDesc}(h:P.underlying t=some d):(underlying t).run P w=.ok d w:=by simp[underlying,h]
theorem zgO{t:TypeId}{g:Bool}(h:zec P t=some g):(isAgg t).run P w=.ok g w:=by
 unfold zec at h;cases hu:P.underlying t with
 |none=>simp[hu]at h
 |some d=>simp only[hu,Option.map_some,Option.some.injEq]at h;cases d <;> simp_all [isAgg,zaS hu]
theorem zbG{t e:TypeId}(h:zbf P t=some e):P.underlying t=some (.slice e):=by
 unfold zbf at h;cases hu:P.underlying t with
 |none=>simp[hu]at h
 |some d=>simp only[hu,Option.bind_some]at h;cases d <;> simp_all
theorem zqc{t:TypeId}(h:zdx P t=some 0):P.underlying t=some .string:=by
 unfold zdx at h;cases hu:P.underlying t with
 |none=>simp[hu]at h
 |some d=>simp only[hu,Option.bind_some]at h;cases d <;> simp_all
theorem zkW{t:TypeId}(h:zdx P t=some 1):∃e,P.underlying t=some (.slice e):=by
 unfold zdx at h;cases hu:P.underlying t with
 |none=>simp[hu]at h
 |some d=>simp only[hu,Option.bind_some]at h;cases d <;> simp_all
theorem zxe{t:TypeId}{i:Nat}{f:Field}(h:zgS P t i=some f):∃fs,P.underlying t=some (.struct fs)∧fs[i]?=some f:=by
 unfold zgS at h;cases hu:P.underlying t with
 |none=>simp[hu]at h
 |some d=>simp only[hu,Option.bind_some]at h;cases d <;> simp_all

theorem add_lit(b o n:Nat):Addr.add ⟨b,o,none⟩ n=⟨b,o+n,none⟩:=Addr.add_lit b o n

theorem ARel.oneCell{v:Value}:∀{a:AV},a≠.unk→ARel w G v a→v.oneCell'=true:=by
 intro a hne h;cases a with
 |unk=>exact absurd rfl hne
 |fn f caps=>obtain⟨vs,rfl,_⟩:=h;rfl
 |agg cs=>exact h.elim
 |tup cs=>exact h.elim
 |sl es tok=>
  cases tok with
  |none=>obtain⟨a,cap,rfl,_⟩:=DRel.slice_form h;rfl
  |full=>obtain⟨a,cap,rfl,_⟩:=DRel.slice_form h.1;rfl
  |own id=>obtain⟨a,cap,rfl,_⟩:=DRel.slice_form h.1;rfl
 |bool b=>cases h;rfl
 |int k n=>cases h;rfl
 |str s=>cases h;rfl
 |nilp=>cases h;rfl
 |snil=>cases h;rfl
 |nilfn=>cases h;rfl
 |nili=>cases h;rfl
 |ifc=>obtain⟨t,x,rfl⟩:=h;rfl
 |ptr id off=>obtain⟨b,_,rfl⟩:=h;rfl
 |view cs=>obtain⟨b,off,rfl,_⟩:=h;rfl
 |ms id off len cap=>obtain⟨b,_,rfl⟩:=h;rfl
 |ov id n=>obtain⟨⟨a,cap,rfl,_⟩,_⟩:=h;rfl
 |vp id n off=>obtain⟨⟨b,o,rfl⟩,_⟩:=h;rfl
 |os id n lo esz=>obtain⟨⟨_,a,c,rfl,_⟩,_⟩:=h;rfl
 |map id=>obtain⟨b,_,rfl⟩:=h;rfl

theorem zhr{v:Value}{x:AV}{xs:List AV}(h:TRel w G v x)(hx:x.cs?=some xs):All2 (ARel w G) v.cells.toList xs:=by
 have atom:∀{y:AV},y≠.unk→y.cs?=some [y]→ARel w G v y→All2 (ARel w G) v.cells.toList [y]:=by
  intro y hne _ hr;have h1:=ARel.oneCell hne hr;have:v.cells=#[v]:=by cases v <;> first|rfl|simp[Value.oneCell']at h1
  rw[this];exact⟨hr,trivial⟩
 cases x with
 |unk=>simp[AV.cs?]at hx
 |tup vs=>simp[AV.cs?]at hx
 |agg cs=>simp[AV.cs?]at hx;subst hx;obtain⟨vs,rfl,h2⟩:=h;exact h2
 |_=>simp[AV.cs?]at hx;subst hx;exact atom (by simp) rfl h

theorem zkr{v:Value}{e:TypeId}{size n:Nat}{xs:List Value}(h:w.ownsRow B e size v n xs):∃a cap,v=.slice a n cap∧n≤cap:=by
 rcases h.2 with ⟨rfl,rfl⟩|⟨g,cap,cur,rfl,h1,h2,h3,h4⟩
 ·exact⟨none,0,rfl,Nat.le_refl _⟩
 ·exact⟨_,cap,rfl,h3⟩

theorem zdJ{e:TypeId}{size n cap g:Nat}{xs:List Value}(h:w.ownsRow B e size (.slice (some ⟨g,0,none⟩) n cap) n xs):
  xs.length=n*size∧B≤g∧g<w.heap.size∧∀(j:Nat),j<n*size→w.cell? ⟨g,j,none⟩=xs[j]?:=by
 obtain⟨h0,h1⟩:=h;rcases h1 with ⟨h1,_⟩|⟨g',cap',cur,h1,h2,h3,h4,h5,h6,h7⟩
 ·simp at h1
 ·simp at h1;obtain⟨rfl,rfl⟩:=h1;refine⟨h0,h2,(Array.getElem?_eq_some_iff.1 h3).1,λj hj=>?_⟩;rw[←h7];simp only[World.cell?,h3];rw[List.getElem?_take_of_lt hj];simp


theorem zwq{t:TypeId}{g:Bool}{n:Nat}{b off:Nat}{ws:List Value}{cs:List AV}{K:AV→Prop}(hg:zec P t=some g)(hn:zaP P t=some n)(hr:All2 (ARel w G) ws cs)(hc:∀ (j:Nat) v,ws[j]?=some v→w.cell? ⟨b,j,none⟩=some v)(hk:zbp g n off cs K):
  ∃v av,(loadVar t ⟨b,off,none⟩).run P w=.ok v w∧TRel w G v av∧K av:=by
 cases g with
 |true=>
  obtain⟨h1,h2⟩:=hk;have hl:=hr.length;have hlen:((ws.drop off).take n).length=n:=by simp;omega
  have hld:=run_loadCells_list (P:=P) w ⟨b,off,none⟩ ((ws.drop off).take n) (λj v hj=>by
   rw[add_lit];apply hc;have:j<n:=by have:=(List.getElem?_eq_some_iff.1 hj).1;omega
   rw[List.getElem?_take]at hj;simp[this]at hj;exact hj)
  rw[hlen]at hld;refine⟨.agg ((ws.drop off).take n).toArray,.agg ((cs.drop off).take n),?_,⟨_,rfl,?_⟩,h2⟩
  ·simp[loadVar,zgO hg,zbx hn,hld]
  ·simpa using(hr.drop off).take n
 |false=>
  unfold zbp at hk;simp only[]at hk;cases hco:cs[off]? with
  |none=>rw[hco]at hk;exact hk.elim
  |some c=>rw[hco]at hk;obtain⟨v,h1,h2⟩:=hr.get hco;refine⟨v,c,?_,TRel.of_v (VRel.of_a h2),hk⟩;simp[loadVar,zgO hg,hc off v h1]

theorem DRel.toB{v:Value}{a:AV}(h:DRel w G.L v a):BRel w G v a:=by
 cases h with
 |bool b=>rfl
 |int k n=>rfl
 |str s=>rfl
 |slE a cap=>exact .slE a cap
 |sl b off cap esz es vs hne hcap hL hsz hc hd=>exact .sl b off cap esz es vs hne hcap hL hsz hc hd

theorem zwF{t:TypeId}{g:Bool}{n:Nat}{v:Value}{x:AV}{K:AV→zaa→Prop}(hH:HRel B w G H)(hx:TRel w G v x)(hg:zec P t=some g)(hn:zaP P t=some n)(h:zae g n x H (K · H)):∃u,(Instr.loadAt t v).run P w=.ok u w∧∃av,TRel w G u av∧K av H:=by
 rw[zgj]at h;split at h
 ·rename_i id off;obtain⟨b,hμ,rfl⟩:=hx;split at h
  ·rename_i cs hcs;have:=hH.ok id _ _ hcs hμ;obtain⟨_,_,vs,e,hw,hr⟩:=this;obtain⟨u,av,h1,h2,h3⟩:=zwq (P:=P) (b:=b) (off:=off) (K:=(K · H)) hg hn hr (λj v hj=>by simp[World.cell?,hw];simpa using hj) h;exact⟨u,by simp[Instr.loadAt,Instr.sureAddr,h1],av,h2,h3⟩
  ·exact h.elim
 ·rename_i cs;obtain⟨b,off,rfl,hL,vs,hr,hc⟩:=hx;have hr':All2 (ARel w G) vs cs:=hr.mono λ_ _ hd=>ARel.of_b hd.toB
  -- the cells from 'off' on, read asx a row of their own
  cases g with
  |true=>
   obtain⟨h1,h2⟩:=h;have hl:=hr.length;have hlen:(vs.take n).length=n:=by simp;omega
   have hld:=run_loadCells_list (P:=P) w ⟨b,off,none⟩ (vs.take n) (λj v hj=>by
    rw[add_lit];apply hc;rw[List.getElem?_take]at hj;split at hj
    ·exact hj
    ·simp at hj)
   rw[hlen]at hld;refine⟨.agg (vs.take n).toArray,?_,.agg (cs.take n),⟨_,rfl,?_⟩,?_⟩
   ·simp[Instr.loadAt,Instr.sureAddr,loadVar,zgO hg,zbx hn,hld]
   ·simpa using hr'.take n
   ·simpa using h2
  |false=>
   unfold zbp at h;simp only[]at h;cases hco:cs[0]? with
   |none=>rw[hco]at h;exact h.elim
   |some c=>rw[hco]at h;obtain⟨v,h1,h2⟩:=hr'.get hco;refine⟨v,?_,c,TRel.of_v (VRel.of_a h2),h⟩;have:=hc 0 v h1;simp at this;simp[Instr.loadAt,Instr.sureAddr,loadVar,zgO hg,this]
 ·rename_i id m off;obtain⟨_,v',size,m',hμ,_,heq⟩:=hx;split at h
  ·rename_i e s m2 cs hcs;obtain⟨rfl,h⟩:=h;obtain⟨rfl,rfl,⟨xs,hown,hr⟩,_⟩:=hH.ok id _ _ hcs hμ;obtain⟨g,hg0,rfl⟩:=heq rfl;obtain⟨a,cap,rfl,_⟩:=zkr hown;have ha:a=some ⟨g,0,none⟩:=by
    rcases hown.2 with ⟨h1,_⟩|⟨g',cap',cur,h1,_⟩
    ·rw[h1]at hg0;cases hg0
    ·rw[h1]at hg0;simp[Value.ownBlock]at hg0;subst hg0;simp at h1;exact h1.1
   subst ha;obtain⟨hxl,_,_,hcell⟩:=zdJ hown;obtain⟨u,av,h1,h2,h3⟩:=zwq (P:=P) (b:=g) (off:=off) (K:=(K · H)) hg hn hr (λj v hj=>by
    rw[hcell j (by rw[←hxl];exact(List.getElem?_eq_some_iff.1 hj).1)];exact hj) h
   exact⟨u,by simp[Instr.loadAt,Instr.sureAddr,h1],av,h2,h3⟩
  ·exact h.elim
 ·exact h.elim

theorem zkt{xs:List Value}{cs:List AV}(h:All2 (ARel w G) xs cs)(hu:∀c∈cs,c≠.unk):∀v∈xs,v.oneCell'=true:=by intro v hv;obtain⟨i,hi⟩:=List.mem_iff_getElem?.1 hv;obtain⟨c,h1,h2⟩:=h.get' hi;exact ARel.oneCell (hu c (List.mem_iff_getElem?.2 ⟨i,h1⟩)) h2


theorem zFY{t:TypeId}{n:Nat}{v u:Value}{a x:AV}{K:zaa→Prop}(hH:HRel B w G H)(ha:TRel w G v a)(hx:TRel w G u x)(hn:zaP P t=some n)(h:zak n a x H K):∃w' H',(Instr.storeAt t v u).run P w=.ok () w'∧Ext B w G w' G∧HRel B w' G H'∧K H':=by
 have ones:∀{xs:List AV},All2 (ARel w G) u.cells.toList xs→xs.all AV.known=true→∀v∈u.cells.toList,v.oneCell'=true:=λhxr h3=>zkt hxr (λc hc=>by
  have:=List.all_eq_true.1 h3 c hc;intro hcu;subst hcu;simp[AV.known]at this)
 rw[zeU]at h;split at h
 ·rename_i id off xs hxs;obtain⟨b,hμ,rfl⟩:=ha;split at h
  ·rename_i cs hcs;obtain⟨⟨h1,h2,h3⟩,hk⟩:=h;obtain⟨hB,_,vs,e,hw,hr⟩:=hH.ok id _ _ hcs hμ;have hxr:=zhr hx hxs;have hl:=hr.length;have hlx:=hxr.length;have hst:=run_storeCells_at P b off e u.cells.toList 0 vs w hw (by simp at hl hlx ⊢;omega) (ones hxr h3);simp only[Nat.add_zero]at hst;have hnew:All2 (ARel w G) (vs.toList.take off++u.cells.toList++vs.toList.drop (off+u.cells.toList.length)).toArray.toList (cs.take off++xs++cs.drop (off+n)):=by
    have:u.cells.toList.length=n:=by rw[hlx];exact h1
    rw[this];simpa using((hr.take off).append hxr).append (hr.drop (off+n))
   obtain⟨he,hH'⟩:=hH.store hcs hμ hw hB hnew;refine⟨_,_,?_,he,hH',hk⟩;have hsz:u.cells.size=n:=by simp at hlx;omega
   simp[Instr.storeAt,Instr.sureAddr,storeVar,zbx hn,hsz,hst]
  ·exact h.elim
 ·rename_i id m off xs hxs;obtain⟨_,v',size,m',hμ,_,heq⟩:=ha;split at h
  ·rename_i e s m2 cs hcs;obtain⟨⟨rfl,h1,h2,h3⟩,hk⟩:=h;obtain⟨rfl,rfl,⟨ys,hown,hr⟩,_⟩:=hH.ok id _ _ hcs hμ;obtain⟨g,hg0,rfl⟩:=heq rfl;obtain⟨hyl,hrow⟩:=hown;rcases hrow with ⟨h5,_⟩ | ⟨g',cap,cur,h5,hBg,hw,hc1,hc2,hc3,hc4⟩
   ·rw[h5]at hg0;cases hg0
   rw[h5]at hg0 hμ;simp[Value.ownBlock]at hg0;subst hg0;have hxr:=zhr hx hxs;have hl:=hr.length;have hlx:=hxr.length;have hun:u.cells.toList.length=n:=by rw[hlx];exact h1
   have hms:m2*s≤cur.size:=by rw[hc3];exact Nat.mul_le_mul_right _ hc1
   have hst:=run_storeCells_at P g' off e u.cells.toList 0 cur w hw (by omega) (ones hxr h3);simp only[Nat.add_zero]at hst;rw[hun]at hst;have hfit:off+n≤m2*s:=by omega
   have htk:(cur.toList.take off++u.cells.toList++cur.toList.drop (off+n)).toArray.toList.take (m2*s)=ys.take off++u.cells.toList++ys.drop (off+n):=by
    rw[←hc4];simp only[List.take_append,List.length_take,Array.length_toList,List.length_append,hun];rw[List.take_take,List.take_take,List.drop_take,List.take_of_length_le (l:=u.cells.toList) (by omega)];congr 2
    ·congr 1;omega
    ·congr 1;omega
   obtain⟨he,hH'⟩:=hH.storeV (cs':=cs.take off++xs++cs.drop (off+n)) hcs hμ hw hBg hc1 hc2 (by simp[List.length_append,hun];omega) htk (by simp[hun];omega) (by
    have:=((hr.take off).append hxr).append (hr.drop (off+n));simpa using this)
   refine⟨_,_,?_,he,hH',hk⟩;have hsz:u.cells.size=n:=by simp at hlx;omega
   simp[Instr.storeAt,Instr.sureAddr,storeVar,zbx hn,hsz,hst]
  ·exact h.elim
 ·exact h.elim

theorem zFw{t:TypeId}{v:Value}{x:AV}{K:AV→zaa→Prop}(hH:HRel B w G H)(hx:TRel w G v x)(h:zaw x H K):
  OpOK P B w G K (((do pure (.value (←Instr.box t v))):Sem Next).run P w):=by
 unfold zaw at h;split at h
 ·rename_i cs hcs;obtain⟨he,hH'⟩:=hH.new v.cells t cs (zhr hx hcs);have hrun:((do pure (.value (←Instr.box t v))):Sem Next).run P w=.ok (.value (.pointer (some ⟨w.heap.size,0,none⟩))) (w.alloc (.cells v.cells t)):=by simp[Instr.box,newVar,newRow,World.alloc_eq]
  rw[hrun];refine⟨.ptr H.length 0,_,_,he,hH',⟨w.heap.size,?_,rfl⟩,h⟩;rw[←hH.len];simp
 ·exact h.elim
theorem zFt{t:TypeId}{z:Value}{K:AV→zaa→Prop}(hH:HRel B w G H)(hz:zbn P t=some z)(h:K (.ptr H.length 0) (H++[.cells (zbs z)])):
  OpOK P B w G K (((do pure (.value (←Instr.alloc t true (.tuple #[])))):Sem Next).run P w):=by
 obtain⟨he,hH'⟩:=hH.new z.cells t (zbs z) (zdM z);have hrun:((do pure (.value (←Instr.alloc t true (.tuple #[])))):Sem Next).run P w=.ok (.value (.pointer (some ⟨w.heap.size,0,none⟩))) (w.alloc (.cells z.cells t)):=by simp[Instr.alloc,zea hz,newVar,newRow,World.alloc_eq]
 rw[hrun];refine⟨.ptr H.length 0,_,_,he,hH',⟨w.heap.size,?_,rfl⟩,h⟩;rw[←hH.len];simp

theorem zFI{s:TypeId}{i:Nat}{f:Field}{n:Nat}{v:Value}{x:AV}{K:AV→Prop}(hx:TRel w G v x)(hf:zgS P s i=some f)(hn:zaP P f.type=some (n+1))(h:zaf f.offset x K):∃u,(Instr.fieldAt s v i).run P w=.ok u w∧∃av,TRel w G u av∧K av:=by
 obtain⟨fs,hu,hfs⟩:=zxe hf;rw[ztw]at h;split at h
 ·rename_i id off;obtain⟨b,hμ,rfl⟩:=hx;refine⟨.pointer (some ⟨b,off+f.offset,none⟩),?_,.ptr id (off+f.offset),⟨b,hμ,rfl⟩,h⟩;simp[Instr.fieldAt,zaS hu,hfs,Instr.sureAddr,fieldPlace,zbx hn,add_lit]
 ·rename_i cs;obtain⟨b,off,rfl,hc⟩:=hx;refine⟨.pointer (some ⟨b,off+f.offset,none⟩),?_,.view (cs.drop f.offset),⟨b,_,rfl,hc.drop _ h.1⟩,h.2⟩;simp[Instr.fieldAt,zaS hu,hfs,Instr.sureAddr,fieldPlace,zbx hn,add_lit]
 ·rename_i id m off;obtain⟨⟨b,o,rfl⟩,v',size,m',hμ,hle,heq⟩:=hx;refine⟨.pointer (some ⟨b,o+f.offset,none⟩),?_,.vp id m (off+f.offset),⟨⟨b,_,rfl⟩,v',size,m',hμ,hle,λe=>?_⟩,h⟩
  ·simp[Instr.fieldAt,zaS hu,hfs,Instr.sureAddr,fieldPlace,zbx hn,add_lit]
  ·obtain⟨g,h1,h2⟩:=heq e;simp at h2;exact⟨g,h1,by rw[h2.1,h2.2]⟩
 ·exact h.elim
theorem zFW{t:TypeId}{g:Bool}{n off:Nat}{vs:Array Value}{cs:List AV}{K:AV→Prop}(hr:All2 (ARel w G) vs.toList cs)(hg:zec P t=some g)(hn:zaP P t=some n)(h:zbp g n off cs K):∃u,(part t vs off).run P w=.ok u w∧∃av,TRel w G u av∧K av:=by
 cases g with
 |true=>
  obtain⟨h1,h2⟩:=h;refine⟨.agg (vs.extract off (off+n)),by simp[part,zgO hg,zbx hn],.agg ((cs.drop off).take n),⟨_,rfl,?_⟩,h2⟩;have:(vs.extract off (off+n)).toList=(vs.toList.drop off).take n:=by rw[Array.toList_extract,List.extract_eq_take_drop];congr 1;omega
  rw[this];exact(hr.drop off).take n
 |false=>
  unfold zbp at h;simp only[]at h;cases hco:cs[off]? with
  |none=>rw[hco]at h;exact h.elim
  |some c=>
   rw[hco]at h;obtain⟨v,h1,h2⟩:=hr.get hco;refine⟨v,?_,c,TRel.of_v (VRel.of_a h2),h⟩;have:vs[off]?=some v:=by simpa using h1
   simp[part,zgO hg,this]
theorem zFJ{s:TypeId}{i:Nat}{f:Field}{g:Bool}{n:Nat}{v:Value}{x:AV}{K:AV→Prop}(hx:TRel w G v x)(hf:zgS P s i=some f)(hg:zec P f.type=some g)(hn:zaP P f.type=some n)(h:zdT g n f.offset x K):∃u,(Instr.field s v i).run P w=.ok u w∧∃av,TRel w G u av∧K av:=by
 obtain⟨fs,hu,hfs⟩:=zxe hf;unfold zdT at h;split at h
 ·rename_i cs;obtain⟨vs,rfl,hr⟩:=hx;obtain⟨u,h1,h2⟩:=zFW (P:=P) hr hg hn h;exact⟨u,by simp[Instr.field,zaS hu,hfs,asAgg,h1],h2⟩
 ·exact h.elim

theorem zij{v:Value}{es:List (List AV)}{tok:Tok}(h:TRel w G v (.sl es tok)):DRel w G.L v (.sl es .none):=by
 cases tok with
 |none=>exact h
 |full=>exact h.1
 |own id=>exact h.1

theorem zFK{t e:TypeId}{size:Nat}{v u:Value}{x i:AV}{K:AV→Prop}(hx:TRel w G v x)(hi:TRel w G u i)(he:zbf P t=some e)(hn:zaP P e=some size)(h:zaj size x i K):∃r,(Instr.indexAt t v u).run P w=.ok r w∧∃av,TRel w G r av∧K av:=by
 have hu:=zbG he;rw[zft]at h;split at h
 ·rename_i es tok k n;obtain⟨⟨h0,hlt⟩,hsz,hk⟩:=h;cases hi;have hd:=zij hx;have hlt':n.toNat<es.length:=by omega
  obtain⟨b,off,cap,rfl,hcap,⟨esz,hall⟩,hel⟩:=hd.elem hlt';have hc:=hel n.toNat hlt';have hes:es.getD n.toNat []=es[n.toNat]:=by simp[List.getD_eq_getElem?_getD,hlt']
  rw[hes]at hsz hk;rw[hsz]at hc;refine⟨.pointer (some ⟨b,off+n.toNat*size,none⟩),?_,.view es[n.toNat],⟨b,_,rfl,hc⟩,hk⟩;simp[Instr.indexAt,asIntOf,zaS hu,h0,hlt,zbx hn,add_lit]
 ·rename_i id off len cap k n;obtain⟨⟨h0,hlt⟩,hk⟩:=h;cases hi;obtain⟨b,hμ,rfl⟩:=hx;refine⟨.pointer (some ⟨b,off+n.toNat*size,none⟩),?_,.ptr id (off+n.toNat*size),⟨b,hμ,rfl⟩,hk⟩;simp[Instr.indexAt,asIntOf,zaS hu,h0,hlt,zbx hn,add_lit]
 ·rename_i id m k n;obtain⟨⟨h0,hlt⟩,hk⟩:=h;cases hi;obtain⟨⟨a,cap,rfl,ha,_⟩,v',sz,m',hμ,hle,heq⟩:=hx;obtain⟨b,rfl⟩:=ha (by omega);refine⟨.pointer (some ⟨b,0+n.toNat*size,none⟩),?_,.vp id m (n.toNat*size),⟨⟨b,_,rfl⟩,v',sz,m',hμ,hle,λe=>?_⟩,hk⟩
  ·simp[Instr.indexAt,asIntOf,zaS hu,h0,hlt,zbx hn,add_lit]
  ·rw[←heq e];exact⟨b,rfl,by simp⟩
 ·exact h.elim

theorem zFL{t:TypeId}{ar:Nat×TypeId}{size:Nat}{v u:Value}{x i:AV}{K:AV→Prop}(hx:TRel w G v x)(hi:TRel w G u i)(he:zkK P t=some ar)(hn:zaP P ar.2=some size)(h:zaj size (zfy ar.1 x) i K):∃r,(Instr.indexAt t v u).run P w=.ok r w∧∃av,TRel w G r av∧K av:=by
 have hu:P.underlying t=some (.array ar.1 ar.2):=by
  unfold zkK at he;cases hp:P.underlying t with
  |none=>simp[hp]at he
  |some d=>cases d <;> simp[hp]at he <;> subst he <;> rfl
 cases x with
 |ptr id off=>
  rw[zfy,zft]at h;cases i with
  |int k n=>obtain⟨⟨h0,hlt⟩,hk⟩:=h;cases hi;obtain⟨b,hμ,rfl⟩:=hx;refine⟨.pointer (some ⟨b,off+n.toNat*size,none⟩),?_,.ptr id (off+n.toNat*size),⟨b,hμ,rfl⟩,hk⟩;simp[Instr.indexAt,Instr.sureAddr,asIntOf,zaS hu,h0,hlt,zbx hn,add_lit]
  |_=>exact h.elim
 |_=>simp only[zfy]at h;rw[zft]at h;exact h.elim

theorem zik(s:List UInt8):(ByteArray.mk s.toArray).size=s.length:=by simp[ByteArray.size]
theorem zF8(s:List UInt8)(i:Nat)(h:i<s.length):(ByteArray.mk s.toArray)[i]?=some s[i]:=by rw[getElem?_pos _ _ (by rw[zik];exact h)];rfl
theorem zgR(s:List UInt8):(ByteArray.mk s.toArray).toList=s:=Go.ByteArray.toList_mk s

theorem zFM{t:TypeId}{v u:Value}{x i:AV}{K:AV→Prop}(hx:TRel w G v x)(hi:TRel w G u i)(ht:zdx P t=some 0)(h:zbA x i K):∃r,(Instr.index t v u).run P w=.ok r w∧∃av,TRel w G r av∧K av:=by
 have hu:=zqc ht;unfold zbA at h;split at h
 ·rename_i s k n;obtain⟨⟨h0,hlt⟩,hk⟩:=h;cases hi;cases hx;have hlt':n.toNat<s.length:=by omega
  have hes:s.getD n.toNat 0=s[n.toNat]:=by simp[List.getD_eq_getElem?_getD,hlt']
  rw[hes]at hk;refine⟨.int .u8 s[n.toNat].toNat,?_,.int .u8 s[n.toNat].toNat,rfl,hk⟩;simp[Instr.index,asIntOf,zaS hu,h0,zF8 s _ hlt']
 ·exact h.elim

theorem zFN{t:TypeId}{k:Nat}{v:Value}{x:AV}{ty:TypeId}{K:AV→Prop}(hx:TRel w G v x)(ht:zdx P t=some k)(h:zah k x K):∃r,(Builtin.len_ #[t] ty #[v]).run P w=.ok r w∧∃av,TRel w G r av∧K av:=by
 rw[zBG]at h;split at h
 ·rename_i s;cases hx;exact⟨.int .i64 s.length,by simp[Builtin.len_,zaS (zqc ht),goInt,zik],.int .i64 s.length,rfl,h⟩
 ·rename_i es tok;obtain⟨e,hu⟩:=zkW ht;obtain⟨a,cap,rfl,_⟩:=(zij hx).slice_form;exact⟨.int .i64 es.length,by simp[Builtin.len_,zaS hu,goInt],.int .i64 es.length,rfl,h⟩
 ·obtain⟨e,hu⟩:=zkW ht;cases hx;exact⟨.int .i64 0,by simp[Builtin.len_,zaS hu,goInt],.int .i64 0,rfl,h⟩
 ·rename_i len _;obtain⟨e,hu⟩:=zkW ht;obtain⟨b,hμ,rfl⟩:=hx;exact⟨.int .i64 len,by simp[Builtin.len_,zaS hu,goInt],.int .i64 len,rfl,h⟩
 ·rename_i _ n;obtain⟨e,hu⟩:=zkW ht;obtain⟨⟨a,cap,rfl,_⟩,_⟩:=hx;exact⟨.int .i64 n,by simp[Builtin.len_,zaS hu,goInt],.int .i64 n,rfl,h⟩
 ·exact h.elim

end Go.Abs
namespace Go.Abs
open Go Go.RowKit

variable {P:Program} {B:Nat} {w:World} {G:Gh} {H:zaa}

theorem zd9{x:Option Value}{ax:Option AV}{d:Nat}{K:Nat→Prop}(hx:All2 (TRel w G) x.toList ax.toList)(h:zbC ax d K):
  ∃l,((x=none∧l=d)∨∃k n,x=some (.int k n)∧0≤n∧l=n.toNat)∧K l:=by
 cases ax with
 |none=>
  cases x with
  |none=>exact⟨d,.inl ⟨rfl,rfl⟩,h⟩
  |some v=>simp[All2]at hx
 |some a=>
  cases x with
  |none=>simp[All2]at hx
  |some v=>
   have hv:TRel w G v a:=hx.1;unfold zbC at h;cases a <;> first|exact h.elim|skip
   rename_i k n;cases hv;exact⟨n.toNat,.inr ⟨k,n,rfl,h.1,rfl⟩,h.2⟩

theorem DRel.sub{v:Value}{es:List (List AV)}{l h:Nat}(hd:DRel w G.L v (.sl es .none))(hl:l≤h)(hh:h≤es.length){a:Option Addr}{cap:Nat}(size:Nat)(hv:v=.slice a es.length cap)(hsz:∀ c∈es,c.length=size):
  DRel w G.L (.slice (if cap=l then a else a.map (·.add (l*size))) (h-l) (cap-l)) (.sl ((es.take h).drop l) .none):=by
 by_cases hlh:l=h
 ·subst hlh;have:(es.take l).drop l=[]:=by apply List.drop_eq_nil_of_le;simp;omega
  rw[this,Nat.sub_self];exact .slE _ _
 ·cases hd with
  |slE a' cap'=>simp at hh;omega
  |sl b off cap' esz _ vs hne hcap hL hsz' hc hdd=>
   cases hv;have hcl:cap≠l:=by omega
   have h0:0<es.length:=by omega
   have hesz:esz=size:=by rw[←hsz' 0 h0];exact hsz _ (List.getElem_mem h0)
   subst hesz;have hlen:((es.take h).drop l).length=h-l:=by simp;omega
   simp only[hcl,if_false,Option.map_some,add_lit];have hget:∀i (hi:i<((es.take h).drop l).length),((es.take h).drop l)[i]=es[l+i]'(by rw[hlen]at hi;omega):=by intro i hi;simp
   have key:DRel w G.L (.slice (some ⟨b,off+l*esz,none⟩) ((es.take h).drop l).length (cap-l)) (.sl ((es.take h).drop l) .none):=by
    refine .sl b (off+l*esz) (cap-l) esz _ (λi j=>vs (l+i) j) ?_ (by rw[hlen];omega) ?_ ?_ ?_ ?_
    ·intro hnil;rw[hnil]at hlen;simp at hlen;omega
    ·rw[hlen];have h1:l*esz+(h-l)*esz=h*esz:=by rw[←Nat.add_mul];congr 1;omega
     have h2:h*esz≤es.length*esz:=Nat.mul_le_mul_right _ hh;omega
    ·intro i hi;rw[hget i hi];exact hsz' _ _
    ·intro i j hi hj;rw[hlen]at hi;have:=hc (l+i) j (by omega) (by rw[hget i (by rw[hlen];exact hi)]at hj;exact hj);rw[show off+l*esz+i*esz+j=off+(l+i)*esz+j by rw[Nat.add_mul];omega];exact this
    ·intro i j hi hj;have hi':=hi;rw[hlen]at hi';have:=hdd (l+i) j (by omega) (by rw[hget i hi]at hj;exact hj);simpa[hget i hi]using this
   rw[hlen]at key;exact key

theorem zfS{isS:Bool}{len cap:Nat}{lo hi:Option Value}{l h:Nat}(hhi:(hi=none∧h=len)∨∃ k n,hi=some (.int k n)∧0≤n∧h=n.toNat)(hlo:(lo=none∧l=0)∨∃ k n,lo=some (.int k n)∧0≤n∧l=n.toNat)(hl:l≤h)(hh:h≤cap):
  (Instr.sliceBounds isS len cap lo hi none).run P w=.ok (l,h,cap) w:=by
 rcases hhi with ⟨rfl,rfl⟩|⟨k,n,rfl,hn,rfl⟩ <;> rcases hlo with ⟨rfl,rfl⟩|⟨k',m,rfl,hm,rfl⟩
 ·simp[Instr.sliceBounds]
 ·have:m≤(h:Int):=by omega
  simp[Instr.sliceBounds,Instr.sliceBound,asIntOf,hm,this]
 ·have:n≤(cap:Int):=by omega
  simp[Instr.sliceBounds,Instr.sliceBound,asIntOf,hn,this]
 ·have h1:n≤(cap:Int):=by omega
  have h2:m≤((n.toNat:Nat):Int):=by omega
  simp[Instr.sliceBounds,Instr.sliceBound,asIntOf,hn,h1,hm];try omega

theorem zF7(s:List UInt8)(l h:Nat):(ByteArray.mk s.toArray).extract l h=⟨((s.take h).drop l).toArray⟩:=by apply ByteArray.ext;simp[ByteArray.data_extract,List.drop_take]

theorem zpU{t:TypeId}{u size:Nat}{v:Value}{x:AV}{lo hi:Option Value}{alo ahi:Option AV}{K:AV→Prop}(hx:TRel w G v x)(hlo:All2 (TRel w G) lo.toList alo.toList)(hhi:All2 (TRel w G) hi.toList ahi.toList)(ht:zdx P t=some u)(hs:u=1→(zbf P t).bind (zaP P)=some size)(h:za7 u size x alo ahi K):∃r,(Instr.sliceAt t v lo hi none).run P w=.ok r w∧∃av,TRel w G r av∧K av:=by
 unfold za7 at h;split at h
 ·rename_i s;have hu:=zqc ht;cases hx;obtain⟨hh,hhv,h⟩:=zd9 hhi h;obtain⟨ll,hlv,⟨h1,h2⟩,hk⟩:=zd9 hlo h;refine⟨.string ⟨((s.take hh).drop ll).toArray⟩,?_,.str ((s.take hh).drop ll),rfl,hk⟩;have hb:=zfS (P:=P) (w:=w) (isS:=false) (len:=s.length) (cap:=s.length) hhv hlv h1 h2;simp only[Instr.sliceAt,Instr.slice,Sem.run_bind,zaS hu,Result.andThen_ok,zik,hb,Option.isSome_none,Bool.false_eq_true,if_false,Sem.run_pure,zF7]
 ·rename_i es tok;obtain⟨hh,hhv,h⟩:=zd9 hhi h;obtain⟨ll,hlv,⟨h1,h2,h3⟩,hk⟩:=zd9 hlo h;have hs:=hs rfl;cases he:zbf P t with
  |none=>simp[he]at hs
  |some e=>
   simp only[he,Option.bind_some]at hs;have hd:=zij hx;obtain⟨a,cap,rfl,hcap⟩:=hd.slice_form;have hcap':hh≤cap:=by
    by_cases hne:es=[]
    ·subst hne;simp at h2;omega
    ·have:=hcap hne;omega
   have hb:=zfS (P:=P) (w:=w) (isS:=true) (len:=es.length) (cap:=cap) hhv hlv h1 hcap';have hsub:=hd.sub h1 h2 size rfl h3;refine⟨_,?_,.sl ((es.take hh).drop ll) .none,hsub,hk⟩;simp only[Instr.sliceAt,Instr.slice,Sem.run_bind,zaS (zbG he),Result.andThen_ok,hb,Sem.run_pure,zbx hs]
 ·obtain⟨hh,hhv,h⟩:=zd9 hhi h;obtain⟨ll,hlv,⟨h1,h2⟩,hk⟩:=zd9 hlo h;have hs:=hs rfl;cases he:zbf P t with
  |none=>simp[he]at hs
  |some e=>
   simp only[he,Option.bind_some]at hs;cases hx;have hb:=zfS (P:=P) (w:=w) (isS:=true) (len:=0) (cap:=0) hhv hlv h1 h2;refine⟨.slice none 0 0,?_,.snil,rfl,hk⟩;have:ll=0:=by omega
   subst this;have:hh=0:=by omega
   subst this;simp[Instr.sliceAt,Instr.slice,Sem.run_bind,zaS (zbG he),hb,zbx hs]
 ·rename_i id n;obtain⟨hh,hhv,h⟩:=zd9 hhi h;obtain⟨ll,hlv,⟨h1,rfl⟩,hk⟩:=zd9 hlo h;have hs:=hs rfl;cases he:zbf P t with
  |none=>simp[he]at hs
  |some e=>
   simp only[he,Option.bind_some]at hs;obtain⟨⟨a,cap,rfl,ha,hnc⟩,v',sz,n',hμ,hle,heq⟩:=hx;have hb:=zfS (P:=P) (w:=w) (isS:=true) (len:=hh) (cap:=cap) hhv hlv h1 hnc;refine⟨zii size ll (.slice a hh cap),?_,.os id hh ll size,⟨⟨h1,?_⟩,v',sz,n',hμ,hle,λe=>by rw[←heq e]⟩,hk⟩
   ·simp only[Instr.sliceAt,Instr.slice,Sem.run_bind,zaS (zbG he),Result.andThen_ok,hb,Sem.run_pure,zbx hs];cases a with
    |none=>simp[zii]
    |some a=>by_cases hc:cap=ll <;> simp[zii,hc]
   ·cases a with
    |none=>exact⟨none,cap-ll,rfl,by omega⟩
    |some a=>exact⟨_,cap-ll,rfl,by omega⟩
 ·rename_i id off len cap;obtain⟨hh,hhv,h⟩:=zd9 hhi h;obtain⟨ll,hlv,⟨h1,h2⟩,hk⟩:=zd9 hlo h;have hs:=hs rfl;cases he:zbf P t with
  |none=>simp[he]at hs
  |some e=>simp only[he,Option.bind_some]at hs;obtain⟨b,hμ,rfl⟩:=hx;have hb:=zfS (P:=P) (w:=w) (isS:=true) (len:=len) (cap:=cap) hhv hlv h1 h2;refine⟨.slice (some ⟨b,if cap=ll then off else off+ll*size,none⟩) (hh-ll) (cap-ll),?_,.ms id (if cap=ll then off else off+ll*size) (hh-ll) (cap-ll),⟨b,hμ,rfl⟩,hk⟩;simp only[Instr.sliceAt,Instr.slice,Sem.run_bind,zaS (zbG he),Result.andThen_ok,hb,Sem.run_pure,zbx hs];by_cases hc:cap=ll <;> simp[hc,add_lit]
 ·exact h.elim

theorem zE3{op:BinOp}{t:TypeId}{x y:Operand}{k:IntKind}{m:Int}{b:Value}:(eqGuard op t x y (.int k m) b).run P w=.ok () w:=by cases op <;> rfl
theorem zE4{op:BinOp}{t:TypeId}{x y:Operand}{s:ByteArray}{b:Value}:(eqGuard op t x y (.string s) b).run P w=.ok () w:=by cases op <;> rfl
theorem zE2{op:BinOp}{t:TypeId}{x y:Operand}{m:Bool}{b:Value}:(eqGuard op t x y (.bool m) b).run P w=.ok () w:=by cases op <;> rfl

def BinR(P:Program)(w:World)(G:Gh)(op:BinOp)(t:TypeId)(u v:Value)(K:AV→Prop):Prop:=∃r,(binOp op t u v).run P w=.ok r w∧∃av,TRel w G r av∧K av
theorem BinR.mk{op:BinOp}{t:TypeId}{u v r:Value}{K:AV→Prop}(av:AV)(h:(binOp op t u v).run P w=.ok r w)(hr:TRel w G r av)(hk:K av):BinR P w G op t u v K:=⟨r,h,av,hr,hk⟩
theorem zCg{op:BinOp}{t:TypeId}{k:IntKind}{m n:Int}{b:Bool}{K:AV→Prop}(h:zac op b (.int k m) (.int k n) K):BinR P w G op t (.int k m) (.int k n) K:=by
 rw[zca]at h;have h:=h.2;cases op <;> simp only[]at h <;> first|exact h.elim|skip
 case add=>exact BinR.mk (.int k (k.wrap (m+n))) (by simp[binOp,Op.intArith]) rfl h
 case sub=>exact BinR.mk (.int k (k.wrap (m-n))) (by simp[binOp,Op.intArith]) rfl h
 case mul=>exact BinR.mk (.int k (k.wrap (m*n))) (by simp[binOp,Op.intArith]) rfl h
 case quo=>exact BinR.mk (.int k (k.wrap (m.tdiv n))) (by simp[binOp,Op.intDiv,h.1]) rfl h.2
 case rem=>exact BinR.mk (.int k (m.tmod n)) (by simp[binOp,Op.intDiv,h.1]) rfl h.2
 case eql=>exact BinR.mk (.bool (m == n)) (by simp[binOp,Op.intCmp]) rfl h
 case neq=>exact BinR.mk (.bool (m != n)) (by simp[binOp,Op.intCmp]) rfl h
 case lss=>exact BinR.mk (.bool (decide (m<n))) (by simp[binOp,Op.intCmp]) rfl h
 case leq=>exact BinR.mk (.bool (decide (m≤n))) (by simp[binOp,Op.intCmp]) rfl h
 case gtr=>exact BinR.mk (.bool (decide (m>n))) (by simp[binOp,Op.intCmp]) rfl h
 case geq=>exact BinR.mk (.bool (decide (m≥n))) (by simp[binOp,Op.intCmp]) rfl h
theorem zCh{op:BinOp}{t:TypeId}{s s':List UInt8}{b:Bool}{K:AV→Prop}(h:zac op b (.str s) (.str s') K):BinR P w G op t (.string ⟨s.toArray⟩) (.string ⟨s'.toArray⟩) K:=by
 rw[zca]at h;cases op <;> simp only[]at h <;> first|exact h.elim|skip
 case add=>
  obtain⟨h1,h2⟩:=h;refine BinR.mk (r:=.string ⟨(s++s').toArray⟩) (.str (s++s')) ?_ rfl h2;have hlt:¬((((ByteArray.mk s.toArray).size+(ByteArray.mk s'.toArray).size:Nat):Int)>IntKind.i64.max):=by
   have:IntKind.i64.max=9223372036854775807:=by decide
   rw[zik,zik];omega
  have happ:(ByteArray.mk s.toArray)++(ByteArray.mk s'.toArray)=⟨(s++s').toArray⟩:=by apply ByteArray.ext;simp
  simp only[binOp,Op.stringOp];rw[if_neg hlt,happ];rfl
 case eql=>exact BinR.mk (r:=.bool (s == s')) (.bool (s == s')) (by simp only[binOp,Op.stringOp,zgR];rfl) rfl h
 case neq=>exact BinR.mk (r:=.bool (!(s == s'))) (.bool (!(s == s'))) (by simp only[binOp,Op.stringOp,zgR];rfl) rfl h
 case lss=>exact BinR.mk (r:=.bool (Op.bytesLess s s')) (.bool (Op.bytesLess s s')) (by simp only[binOp,Op.stringOp,zgR];rfl) rfl h
 case leq=>exact BinR.mk (r:=.bool (Op.bytesLess s s' || s == s')) (.bool (Op.bytesLess s s' || s == s')) (by simp only[binOp,Op.stringOp,zgR];rfl) rfl h
 case gtr=>exact BinR.mk (r:=.bool (!(Op.bytesLess s s' || s == s'))) (.bool (!(Op.bytesLess s s' || s == s'))) (by simp only[binOp,Op.stringOp,zgR];rfl) rfl h
 case geq=>exact BinR.mk (r:=.bool (!Op.bytesLess s s')) (.bool (!Op.bytesLess s s')) (by simp only[binOp,Op.stringOp,zgR];rfl) rfl h
theorem zCf{op:BinOp}{t:TypeId}{m n b:Bool}{K:AV→Prop}(hu:b=true→P.underlying t=some .bool)(h:zac op b (.bool m) (.bool n) K):BinR P w G op t (.bool m) (.bool n) K:=by
 rw[zca]at h;have hu:=hu h.1;have h:=h.2;have he:∀x y:Bool,(Op.equal t (.bool x) (.bool y)).run P w=.ok (x == y) w:=λx y=>by have hm:Op.equal t (.bool x) (.bool y)=Op.equalIn (9999+1) t (.bool x) (.bool y):=rfl;rw[hm];unfold Op.equalIn;simp only[Sem.run_bind,zaS hu,Result.andThen_ok,Sem.run_pure]
 cases op <;> simp only[]at h <;> first|exact h.elim|skip
 case eql=>exact BinR.mk (.bool (m == n)) (by simp only[binOp,Sem.run_bind,he,Result.andThen_ok,Sem.run_pure]) rfl h
 case neq=>exact BinR.mk (.bool (!(m == n))) (by simp only[binOp,Sem.run_bind,he,Result.andThen_ok,Sem.run_pure]) rfl h

theorem zFv{op:BinOp}{t:TypeId}{xo yo:Operand}{u v:Value}{x y:AV}{K:AV→Prop}(hx:TRel w G u x)(hy:TRel w G v y)(h:zac op (zpZ P t) x y K):
  ∃r,((do eqGuard op t xo yo u v;binOp op t u v):Sem Value).run P w=.ok r w∧∃av,TRel w G r av∧K av:=by
 have h0:=h;rw[zca]at h;split at h
 ·cases hx;cases hy;have hk:=h.1;subst hk;obtain⟨r,h1,h2⟩:=zCg (P:=P) (w:=w) (G:=G) (t:=t) h0;exact⟨r,by rw[Sem.run_bind,zE3];exact h1,h2⟩
 ·cases hx;cases hy;obtain⟨r,h1,h2⟩:=zCh (P:=P) (w:=w) (G:=G) (t:=t) h0;exact⟨r,by rw[Sem.run_bind,zE4];exact h1,h2⟩
 ·cases hx;cases hy;obtain⟨r,h1,h2⟩:=zCf (P:=P) (w:=w) (G:=G) (t:=t) (λhb=>by
   unfold zpZ at hb;split at hb
   ·assumption
   ·cases hb) h0
  exact⟨r,by rw[Sem.run_bind,zE2];exact h1,h2⟩
 ·exact h.elim

theorem zFU{op:BinOp}{t:TypeId}{xo yo:Operand}{u:Value}{x:AV}{a:Act}{K:AV→Prop}(hx:TRel w G u x)(hy:zos yo=true)(h:zcM (zp0 P t) op x K):
  ∃r,((do eqGuard op t xo yo u (a.eval yo);binOp op t u (a.eval yo)):Sem Value).run P w=.ok r w∧∃av,TRel w G r av∧K av:=by
 obtain⟨ht,h⟩:=h;obtain⟨ms,hu⟩:∃ms,P.underlying t=some (.interface ms):=by
  unfold zp0 at ht;split at ht
  ·exact⟨_,by assumption⟩
  ·cases ht
 obtain rfl:yo=.const .nilIface:=by
  unfold zos at hy;split at hy
  ·rfl
  ·cases hy
 have he:a.eval (.const .nilIface)=.nilIface:=rfl;rw[he];split at h
 ·cases hx;have hq:∀ d:Nat,(Op.equalIn (d+1) t .nilIface .nilIface).run P w=.ok true w:=λd=>by simp[Op.equalIn,zaS hu]
  have hg:∀op,eqGuard op t xo (.const .nilIface) .nilIface .nilIface=pure ():=λop=>eqGuard_nil_constR _ _ _ _;split at h
  ·exact⟨.bool true,by rw[hg];simp only[binOp];simp[Op.equal,Op.maxDepth,hq 9999],.bool true,rfl,h⟩
  ·exact⟨.bool false,by rw[hg];simp only[binOp];simp[Op.equal,Op.maxDepth,hq 9999],.bool false,rfl,h⟩
  ·exact h.elim
 ·obtain⟨ti,xi,rfl⟩:=hx;have hq:∀ d:Nat,(Op.equalIn (d+1) t (.iface ti xi) .nilIface).run P w=.ok false w:=λd=>by simp[Op.equalIn,zaS hu]
  have hg:∀op,eqGuard op t xo (.const .nilIface) (.iface ti xi) .nilIface=pure ():=λop=>eqGuard_at_iface _ _ _ _ _ _ _;split at h
  ·exact⟨.bool false,by rw[hg];simp only[binOp];simp[Op.equal,Op.maxDepth,hq 9999],.bool false,rfl,h⟩
  ·exact⟨.bool true,by rw[hg];simp only[binOp];simp[Op.equal,Op.maxDepth,hq 9999],.bool true,rfl,h⟩
  ·exact h.elim
 ·exact h.elim

theorem zFZ{op:UnOp}{v:Value}{x:AV}{K:AV→Prop}(hx:TRel w G v x)(h:aUn op x K):∃r,(Op.unary op v).run P w=.ok r w∧∃av,TRel w G r av∧K av:=by
 unfold aUn at h;split at h
 ·cases hx;exact⟨_,by simp[Op.unary],.bool _,rfl,h⟩
 ·cases hx;exact⟨_,by simp[Op.unary,Op.intArith],.int _ _,rfl,h⟩
 ·exact h.elim
theorem zFC{s t:TypeId}{j k:IntKind}{v:Value}{x:AV}{K:AV→Prop}(hx:TRel w G v x)(hs:P.underlying s=some (.int j))(ht:P.underlying t=some (.int k))(h:zbJ k x K):
  ∃r,(convert s t v).run P w=.ok r w∧∃av,TRel w G r av∧K av:=by
 unfold zbJ at h;split at h
 ·cases hx;exact⟨_,by simp[convert,zaS hs,zaS ht,Conv.intToInt],.int _ _,rfl,h⟩
 ·exact h.elim
theorem zFE{s t:TypeId}{v:Value}{x:AV}{K:AV→Prop}(hx:TRel w G v x)(hs:P.underlying s=some .string)(ht:P.underlying t=some .string)(h:zdS x K):
  ∃r,(convert s t v).run P w=.ok r w∧∃av,TRel w G r av∧K av:=by
 unfold zdS at h;split at h
 ·cases hx;exact⟨_,by simp[convert,zaS hs,zaS ht],.str _,rfl,h⟩
 ·exact h.elim
theorem zFG{v:Value}{x:AV}{i:Nat}{K:AV→Prop}(hx:TRel w G v x)(h:zaN x i K):∃r,(Instr.extract v i).run P w=.ok r w∧∃av,TRel w G r av∧K av:=by
 unfold zaN at h;split at h
 ·obtain⟨vs,rfl,hr⟩:=hx;split at h
  ·rename_i a ha;obtain⟨u,h1,h2⟩:=hr.get ha;have:vs[i]?=some u:=by simpa using h1
   exact⟨u,by simp[Instr.extract,this],a,TRel.of_v h2,h⟩
  ·exact h.elim
 ·exact h.elim

end Go.Abs
namespace Go.Abs
open Go Go.RowKit

variable {P:Program} {B:Nat} {w:World} {G:Gh} {H:zaa}

theorem zF0(l:List Value)(k:Nat)(v:Value)(rest:List Value)(hk:k+(rest.length+1)≤l.length):
  (l.set k v).take (k+1)++rest++(l.set k v).drop (k+1+rest.length)=l.take k++(v::rest)++l.drop (k+(rest.length+1)):=list_seg_step l k v rest hk

theorem zuC(off:Nat):∀ (vs:List Value) (k:Nat) (cs:Array Value),off+k+vs.length≤cs.size →
  ((vs.zipIdx k).foldl (λ(cs:Array Value) (p:Value×Nat)=>cs.setIfInBounds (off+p.2) p.1) cs).toList=cs.toList.take (off+k)++vs++cs.toList.drop (off+k+vs.length)
 |[],k,cs,h=>by simp
 |v::vs,k,cs,h=>by simp only[List.zipIdx_cons,List.foldl_cons];rw[zuC off vs (k+1) (cs.setIfInBounds (off+k) v) (by simp at h ⊢;omega)];have:=zF0 cs.toList (off+k) v vs (by simp at h ⊢;omega);simpa[Array.toList_setIfInBounds,Nat.add_assoc]using this

theorem ztR(off:Nat)(vs cs:Array Value)(h:off+vs.size≤cs.size):
  (vs.zipIdx.foldl (λcs (c,j)=>cs.setIfInBounds (off+j) c) cs).toList=cs.toList.take off++vs.toList++cs.toList.drop (off+vs.size):=by
 have:=zuC off vs.toList 0 cs (by simpa using h);simp only[Nat.add_zero,Array.length_toList]at this;rw[←this,←Array.foldl_toList,Array.toList_zipIdx]

theorem zus{places:List (Nat × Nat)}:∀ (parts:List (Nat × Value)) (aparts:List (Nat × AV)) (cells:Array Value) (cs cs':List AV),
  All2 (λ(p:Nat×Value) (q:Nat×AV)=>p.1=q.1∧TRel w G p.2 q.2) parts aparts→All2 (ARel w G) cells.toList cs→zaM places aparts cs=some cs' →
  ∃cells',Instr.fill (places.toArray[·]?) cells parts=some cells'∧All2 (ARel w G) cells'.toList cs'
 |[],[],cells,cs,cs',_,hc,hf=>by simp[zaM]at hf;subst hf;exact⟨cells,rfl,hc⟩
 |(i,v)::parts,(i',x)::aparts,cells,cs,cs',hp,hc,hf=>by
  obtain⟨⟨h1,h2⟩,h3⟩:=hp;simp only[]at h1 h2;subst h1;unfold zaM at hf;split at hf
  ·rename_i off size xs hpl hxs;split at hf
   ·rename_i hb;simp only[Bool.and_eq_true,beq_iff_eq,decide_eq_true_eq]at hb;have hxr:=zhr h2 hxs;have hlx:=hxr.length;have hlc:=hc.length;simp at hlx hlc;have hfit:off+v.cells.size≤cells.size:=by omega
    have hsp:=ztR off v.cells cells hfit;have hnew:All2 (ARel w G) (v.cells.zipIdx.foldl (λcs (c,j)=>cs.setIfInBounds (off+j) c) cells).toList (cs.take off++xs++cs.drop (off+size)):=by rw[hsp,hlx,hb.1];exact((hc.take off).append hxr).append (hc.drop (off+size))
    obtain⟨cells',hc1,hc2⟩:=zus parts aparts _ _ cs' h3 hnew hf;refine⟨cells',?_,hc2⟩;unfold Instr.fill;have hpl':places.toArray[i]?=some (off,size):=by simpa using hpl
    simp only[hpl'];rw[if_neg (by simp;omega)];exact hc1
   ·cases hf
  ·cases hf

theorem zEP(fs:List Field):(fs.mapM λf=>(zaP P f.type).map λs=>(f.offset,s))=fs.mapM (λf=>(P.info? f.type).map λi=>(f.offset,i.size)):=by congr 1;funext f;simp[zaP,Function.comp_def]

theorem zur{n s:Nat}:∀ (parts:List (Nat × Value)) (cells cells':Array Value),Instr.fill (((List.range n).map λi=>(i*s,s)).toArray[·]?) cells parts=some cells'→some cells'=Instr.fill (λi=>some (i*s,s)) cells parts
 |[],cells,cells',h=>h.symm
 |(i,v)::parts,cells,cells',h=>by
  unfold Instr.fill at h ⊢;by_cases hi:i<n
  ·have e:((List.range n).map λi=>(i*s,s)).toArray[i]?=some (i*s,s):=by simp[hi]
   rw[e]at h;simp only[]at h ⊢;split at h
   ·cases h
   ·rename_i hc;rw[if_neg hc];exact zur parts _ _ h
  ·have e:((List.range n).map λi=>(i*s,s)).toArray[i]?=none:=by simp;omega
   rw[e]at h;cases h
theorem zFx{t:TypeId}{z:Value}{ps:List (Nat × Nat)}{parts:Array (Nat × Value)}{aparts:List (Nat × AV)}{K:AV→Prop}(hz:zbn P t=some z)(hp:zp1 P t=some ps)(hr:All2 (λ(p:Nat × Value) (q:Nat × AV)=>p.1=q.1∧TRel w G p.2 q.2) parts.toList aparts)(h:zao (zbs z) ps aparts K):
  ∃r,(Instr.build t parts).run P w=.ok r w∧∃av,TRel w G r av∧K av:=by
 unfold zao at h;split at h
 ·rename_i cs' hf;obtain⟨cells',h1,h2⟩:=zus parts.toList aparts z.cells (zbs z) cs' hr (zdM z) hf;refine⟨.agg cells',run_build w t parts cells' ?_,.agg cs',⟨cells',rfl,h2⟩,h⟩;unfold Program.built;unfold zbn at hz;cases hi:P.info? t with
  |none=>simp[hi]at hz
  |some it=>
   simp[hi]at hz;unfold zp1 at hp;cases hu:P.underlying t with
   |none=>simp[hu]at hp
   |some d=>
    cases d;case struct fs=>simp only[hu,Option.bind_some]at hp;rw[zEP]at hp;simp only[hz,hp];exact h1
    case array n e=>
     simp only[hu,Option.bind_some]at hp;cases hie:P.info? e with
     |none=>simp[zaP,hie]at hp
     |some ie=>simp[zaP,hie]at hp;simp only[hz,hie];exact(zur (n:=n) (s:=ie.size) _ _ _ (by rw[hp];exact h1)).symm
    all_goals (simp only[hu,Option.bind_some]at hp;cases hp)
 ·exact h.elim

theorem zEO{v:Value}{a d:AV}(h:ARel w G v a)(hd:a.pd=some d):DRel w G.L v d:=by
 cases a with
 |bool b=>cases hd;cases h;exact .bool b
 |int k n=>cases hd;cases h;exact .int k n
 |str s=>cases hd;cases h;exact .str s
 |snil=>cases hd;cases h;exact .slE _ _
 |sl es tok=>
  cases hd;cases tok with
  |none=>exact h
  |full=>exact h.1
  |own id=>exact h.1
 |_=>cases hd
theorem zez:∀ {vs:List Value} {asx ds:List AV},All2 (ARel w G) vs asx→plain asx=some ds→All2 (DRel w G.L) vs ds
 |[],[],ds,_,h=>by cases h;trivial
 |v::vs,a::asx,ds,hr,h=>by
  unfold plain at h;split at h
  ·rename_i d ds' h1 h2;cases h;exact⟨zEO hr.1 h1,zez hr.2 h2⟩
  ·cases h
theorem zv4:∀ {asx ds:List AV},plain asx=some ds→ds.length=asx.length
 |[],ds,h=>by cases h;rfl
 |a::asx,ds,h=>by
  unfold plain at h;split at h
  ·rename_i d ds' h1 h2;cases h;simp[zv4 h2]
  ·cases h

theorem zhz{size:Nat}:∀ {es:List (List AV)},(∀ c∈es,c.length=size)→es.flatten.length=es.length*size
 |[],_=>by simp
 |e::es,h=>by rw[List.flatten_cons,List.length_append,zhz (λc hc=>h c (by simp[hc])),h e (by simp),List.length_cons,Nat.add_mul];omega
theorem zhy{size:Nat}:∀ {es:List (List AV)},(∀ c∈es,c.length=size)→∀ (i j:Nat) (hi:i<es.length) (hj:j<(es[i]).length),es.flatten[i*size+j]?=some (es[i])[j]
 |[],_,i,_,hi,_=>by simp at hi
 |e::es,h,0,j,hi,hj=>by simp only[List.getElem_cons_zero]at hj ⊢;rw[List.flatten_cons,List.getElem?_append_left (by omega)];simp[hj]
 |e::es,h,i+1,j,hi,hj=>by simp only[List.getElem_cons_succ]at hj ⊢;have he:=h e (by simp);have:=zhy (es:=es) (λc hc=>h c (by simp[hc])) i j (by simpa using hi) hj;rw[List.flatten_cons,List.getElem?_append_right (by rw[he,Nat.add_mul];omega),he];rw[show (i+1)*size+j-size=i*size+j by rw[Nat.add_mul];omega];exact this

theorem DRel.of_flat{L:Nat→Nat}{g size cap:Nat}{es:List (List AV)}{zs:List Value}(hsz:∀c∈es,c.length=size)(hne:es≠[])(hcap:es.length≤cap)(hL:es.length*size≤L g)(hr:All2 (DRel w L) zs es.flatten)(hc:∀j v,zs[j]?=some v→w.cell? ⟨g,j,none⟩=some v):DRel w L (.slice (some ⟨g,0,none⟩) es.length cap) (.sl es .none):=by
 have hget:∀i j (hi:i<es.length) (hj:j<(es[i]).length),∃v,zs[i*size+j]?=some v∧DRel w L v (es[i])[j]:=λi j hi hj=>hr.get (zhy hsz i j hi hj);refine .sl g 0 cap size es (λi j=>zs.getD (i*size+j) undef) hne hcap (by omega) (λi hi=>hsz _ (List.getElem_mem hi)) (λi j hi hj=>?_) (λi j hi hj=>?_)
 ·obtain⟨v,h1,h2⟩:=hget i j hi hj;simp only[Nat.zero_add,List.getD_eq_getElem?_getD,h1,Option.getD_some];exact hc _ _ h1
 ·obtain⟨v,h1,h2⟩:=hget i j hi hj;simp only[List.getD_eq_getElem?_getD,h1,Option.getD_some];exact h2
theorem DRel.flat{L:Nat→Nat}{v:Value}{es:List (List AV)}{size:Nat}(h:DRel w L v (.sl es .none))(hne:es≠[])(hsz:∀ c∈es,c.length=size):
  ∃b off cap zs,v=.slice (some ⟨b,off,none⟩) es.length cap∧zs.length=es.length*size∧All2 (DRel w L) zs es.flatten∧(∀j u,zs[j]?=some u→w.cell? ⟨b,off+j,none⟩=some u)∧off+es.length*size≤L b:=by
 cases h with
 |slE a cap=>exact absurd rfl hne
 |sl b off cap esz _ vs hne hcap hL hsz' hc hd=>
  have h0:0<es.length:=by cases es <;> simp_all
  have hesz:esz=size:=by rw[←hsz' 0 h0];exact hsz _ (List.getElem_mem h0)
  subst hesz;have hfl:=zhz hsz
  -- position k of the row lies in element k / esz
  have hpos:∀k,k<es.length*esz→∃i j,∃(hi:i<es.length) (_:j<(es[i]).length),k=i*esz+j:=by
   intro k hk;have hz:0<esz:=by cases esz <;> simp_all
   refine⟨k / esz,k % esz,?_,?_,?_⟩
   ·exact(Nat.div_lt_iff_lt_mul hz).2 hk
   ·rw[hsz' _ _];exact Nat.mod_lt _ hz
   ·rw[Nat.mul_comm];exact(Nat.div_add_mod k esz).symm
  refine⟨b,off,cap,(List.range (es.length*esz)).map (λk=>vs (k / esz) (k % esz)),rfl,by simp,?_,?_,hL⟩
  ·refine All2.of_get (by simp[hfl]) λk x y hx hy=>?_;have hk:k<es.length*esz:=by have:=(List.getElem?_eq_some_iff.1 hx).1;simpa using this
   obtain⟨i,j,hi,hj,rfl⟩:=hpos k hk;have hj':j<esz:=by rw[←hsz' i hi];exact hj
   rw[zhy hsz i j hi hj]at hy;cases hy;simp only[List.getElem?_map,List.getElem?_range hk,Option.map_some,Option.some.injEq]at hx;have hz:0<esz:=by omega
   rw[show (i*esz+j) / esz=i by rw[Nat.mul_comm,Nat.mul_add_div hz,Nat.div_eq_of_lt hj'];omega,show (i*esz+j) % esz=j by rw[Nat.mul_comm,Nat.mul_add_mod,Nat.mod_eq_of_lt hj']]at hx;rw[←hx];exact hd i j hi hj
  ·intro k u hx;have hk:k<es.length*esz:=by have:=(List.getElem?_eq_some_iff.1 hx).1;simpa using this
   obtain⟨i,j,hi,hj,rfl⟩:=hpos k hk;have hj':j<esz:=by rw[←hsz' i hi];exact hj
   simp only[List.getElem?_map,List.getElem?_range hk,Option.map_some,Option.some.injEq]at hx;have hz:0<esz:=by omega
   rw[show (i*esz+j) / esz=i by rw[Nat.mul_comm,Nat.mul_add_div hz,Nat.div_eq_of_lt hj'];omega,show (i*esz+j) % esz=j by rw[Nat.mul_comm,Nat.mul_add_mod,Nat.mod_eq_of_lt hj']]at hx;rw[←hx,←Nat.add_assoc];exact hc i j hi hj

end Go.Abs
namespace Go.Abs
open Go Go.RowKit

variable {P:Program} {B:Nat} {w:World} {G:Gh} {H:zaa}

theorem zoH{R:Value→AV→Prop}{z:Array Value}{zc:List AV}(h:All2 R z.toList zc)(hz:0<z.size):∀n,All2 R ((Array.range (n*z.size)).map (z[· % z.size]!)).toList (List.replicate n zc).flatten:=by
 intro n;have hl:=h.length;simp at hl;have hall:∀c∈List.replicate n zc,c.length=z.size:=λc hc=>by rw[List.eq_of_mem_replicate hc,hl]
 have hfl:=zhz hall;refine All2.of_get (by simp[hl]) λk x y hx hy=>?_;have hk:k<n*z.size:=by have:=(List.getElem?_eq_some_iff.1 hx).1;simpa using this
 have hi:k / z.size<(List.replicate n zc).length:=by simpa using(Nat.div_lt_iff_lt_mul hz).2 hk
 have hj:k % z.size<((List.replicate n zc)[k / z.size]).length:=by simp[←hl];exact Nat.mod_lt _ hz
 have:=zhy hall (k / z.size) (k % z.size) hi hj;rw[show k / z.size*z.size+k % z.size=k by rw[Nat.mul_comm];exact Nat.div_add_mod k z.size,hy]at this;simp only[List.getElem_replicate,Option.some.injEq]at this;have hx':z[k % z.size]! = x:=by simpa[hk]using hx
 have hm:k % z.size<z.size:=Nat.mod_lt _ hz;have hzx:z.toList[k % z.size]?=some x:=by rw[←hx'];simp[hm]
 obtain⟨b,h1,h2⟩:=h.get' hzx;have:zc[k % z.size]?=some y:=by rw[this];simp
 rw[this]at h1;cases h1;exact h2

theorem zuv{size:Nat}:∀ {es:List (List AV)},(∀ c∈es,c.length=size)→∀ (i:Nat) (ds:List AV),i<es.length→(es.set i ds).flatten=es.flatten.take (i*size)++ds++es.flatten.drop (i*size+size)
 |[],_,i,_,hi=>by simp at hi
 |e::es,h,0,ds,hi=>by have he:=h e (by simp);simp[←he]
 |e::es,h,i+1,ds,hi=>by
  have he:=h e (by simp);have:=zuv (es:=es) (λc hc=>h c (by simp[hc])) i ds (by simpa using hi);rw[List.set_cons_succ,List.flatten_cons,this,List.flatten_cons];have h1:(i+1)*size=e.length+i*size:=by rw[Nat.add_mul,he];omega
  rw[h1,Nat.add_assoc];simp[List.take_append,List.drop_append,List.take_of_length_le,List.drop_eq_nil_of_le]

theorem zuq{size:Nat}:∀ (parts:List (Nat × Value)) (aparts:List (Nat × AV)) (cells:Array Value) (es es':List (List AV)),(∀ c∈es,c.length=size) →
  All2 (λ(p:Nat×Value) (q:Nat×AV)=>p.1=q.1∧TRel w G p.2 q.2) parts aparts→All2 (DRel w G.L) cells.toList es.flatten→zbh size aparts es=some es' →
  ∃cells',Instr.fill (λi=>some (i*size,size)) cells parts=some cells'∧All2 (DRel w G.L) cells'.toList es'.flatten∧(∀c∈es',c.length=size)∧es'.length=es.length
 |[],[],cells,es,es',hs,_,hc,hf=>by simp[zbh]at hf;subst hf;exact⟨cells,rfl,hc,hs,rfl⟩
 |(i,v)::parts,(i',x)::aparts,cells,es,es',hs,hp,hc,hf=>by
  obtain⟨⟨h1,h2⟩,h3⟩:=hp;simp only[]at h1 h2;subst h1;unfold zbh at hf;split at hf
  ·rename_i xs hxs;split at hf
   ·rename_i ds hds;split at hf
    ·rename_i hb;simp only[Bool.and_eq_true,beq_iff_eq,decide_eq_true_eq]at hb;have hxr:=zez (zhr h2 hxs) hds;have hlx:=hxr.length;have hlc:=hc.length;have hfl:=zhz hs;simp at hlx;simp only[Array.length_toList]at hlc;have hmul:(i+1)*size≤es.length*size:=Nat.mul_le_mul_right _ hb.2;rw[Nat.add_mul]at hmul;have hfit:i*size+v.cells.size≤cells.size:=by omega
     have hsp:=ztR (i*size) v.cells cells hfit;have hnew:All2 (DRel w G.L) (v.cells.zipIdx.foldl (λcs (c,j)=>cs.setIfInBounds (i*size+j) c) cells).toList (es.set i ds).flatten:=by rw[hsp,zuv hs i ds hb.2,hlx,hb.1];exact((hc.take _).append hxr).append (hc.drop _)
     have hs':∀c∈es.set i ds,c.length=size:=λc hcm=>by
      rcases List.mem_or_eq_of_mem_set hcm with h|h
      ·exact hs c h
      ·rw[h];exact hb.1
     obtain⟨cells',hc1,hc2,hc3,hc4⟩:=zuq parts aparts _ _ es' hs' h3 hnew hf;refine⟨cells',?_,hc2,hc3,by rw[hc4];simp⟩;unfold Instr.fill;simp only[];rw[if_neg (by simp;omega)];exact hc1
    ·cases hf
   ·cases hf
  ·cases hf

theorem zFy{t e:TypeId}{size len:Nat}{z:Value}{parts:Array (Nat × Value)}{aparts:List (Nat × AV)}{K:AV→zaa→Prop}(hH:HRel B w G H)(he:zbf P t=some e)(hn:zaP P e=some size)(hz:zbn P e=some z)(h0:0<size)(hlen:len*size≤16777216)(hzl:(zbs z).length=size)(hr:All2 (λ(p:Nat × Value) (q:Nat × AV)=>p.1=q.1∧TRel w G p.2 q.2) parts.toList aparts)(h:zas size (zbs z) len aparts (K · H)):
  OpOK P B w G K (((do pure (.value (←Instr.buildSlice t len parts))):Sem Next).run P w):=by
 unfold zas at h;split at h
 ·rename_i zc hzc;split at h
  ·rename_i es hes;have hzr:=zdM (w:=w) (G:=G) z;have hzs:z.cells.size=size:=by have:=hzr.length;simp at this;omega
   have hzd:=zez hzr hzc;have hm:=zoH hzd (by omega) len;rw[hzs]at hm;have hzcl:zc.length=size:=by rw[zv4 hzc];exact hzl
   have hall:∀c∈List.replicate len zc,c.length=size:=λc hc=>by rw[List.eq_of_mem_replicate hc,hzcl]
   obtain⟨cells',h1,h2,h3,h4⟩:=zuq parts.toList aparts _ _ es hall hr hm hes;simp at h4;have hsz':cells'.size=len*size:=by have:=h2.length;rw[zhz h3,h4]at this;simpa using this
   obtain⟨hx,hH'⟩:=hH.frozen cells' e (len*size);have hrun:((do pure (.value (←Instr.buildSlice t len parts))):Sem Next).run P w=.ok (.value (.slice (some ⟨w.heap.size,0,none⟩) len len)) (w.alloc (.cells cells' e)):=by
    have hbig:¬(2 ^ 24<len*size):=by omega
    by_cases hl0:len*size=0
    ·have hl:len=0:=by rcases Nat.mul_eq_zero.1 hl0 with h | h <;> omega
     subst hl;simp only[Nat.zero_mul,Array.range_zero',Array.map_empty]at h1;simp[Instr.buildSlice,zaS (zbG he),zbx hn,h1,newRow,World.alloc_eq,Array.range_zero']
    ·simp[Instr.buildSlice,zaS (zbG he),zbx hn,zea hz,hbig,hl0,hzs,h1,newRow,World.alloc_eq]
   rw[hrun];refine⟨.sl es .full,_,H,hx,hH',⟨?_,some ⟨w.heap.size,0,none⟩,by rw[h4]⟩,h⟩;by_cases hne:es=[]
   ·subst hne;simp at h4;subst h4;exact .slE _ _
   ·have:=DRel.of_flat (w:=w.alloc (.cells cells' e)) (L:=λb=>if b=w.heap.size then len*size else G.L b) (g:=w.heap.size) (cap:=len) (zs:=cells'.toList) h3 hne (by omega) (by simp[h4]) (h2.mono λ_ _=>hx.drel)
     (λj v hj=>by rw[World.cell?_alloc_new];simpa using hj)
    rw[h4]at this;exact this
  ·exact h.elim
 ·exact h.elim

theorem zFQ{t e:TypeId}{size bytes:Nat}{z:Value}{vl vc:Value}{l c:AV}{K:AV→zaa→Prop}(hH:HRel B w G H)(he:zbf P t=some e)(hn:zaP P e=some size)(hby:zcJ P e=some bytes)(hz:zbn P e=some z)(h0:0<size)(hzl:(zbs z).length=size)(hl:TRel w G vl l)(hc:TRel w G vc c)(h:zbu bytes (zbs z) l c H K):
  OpOK P B w G K (((do pure (.value (←Instr.makeSlice t vl vc))):Sem Next).run P w):=by
 unfold zbu at h;split at h
 ·rename_i l c;cases hl;cases hc;obtain⟨⟨h1,h2,h3,h4⟩,hk⟩:=h;have hzr:=zdM (w:=w) (G:=G) z;have hzs:z.cells.size=size:=by have:=hzr.length;simp at this;omega
  unfold zaP at hn;unfold zbn at hz;unfold zcJ at hby;cases hi:P.info? e with
  |none=>simp[hi]at hn
  |some i=>
   simp[hi]at hn hz hby;have hr:=run_make (P:=P) w t e i z (zbG he) hi hz .i64 .i64 l c h1 h2 (by rw[hby,Int.mul_comm];omega) h4;have hm:=zoH hzr (by omega) c.toNat;rw[hzs]at hm;rw[hn]at hr;obtain⟨hx,hH'⟩:=hH.new (madeCells z.cells (c.toNat*size)) e _ (by simpa[madeCells,hzs]using hm);have hrun:((do pure (.value (←Instr.makeSlice t (.int .i64 l) (.int .i64 c)))):Sem Next).run P w=.ok (.value (.slice (some ⟨w.heap.size,0,none⟩) l.toNat c.toNat)) (w.alloc (.cells (madeCells z.cells (c.toNat*size)) e)):=by rw[Sem.run_bind,hr];rfl
   rw[hrun];refine⟨.ms H.length 0 l.toNat c.toNat,_,_,hx,hH',⟨w.heap.size,?_,rfl⟩,hk⟩;rw[←hH.len];simp
 ·exact h.elim

theorem ztY:∀ {es:List (List AV)} {s:List UInt8},zho es=some s→∃ ns:List Int,es=ns.map (λn=>[.int .u8 n])∧s=ns.map (λn=>UInt8.ofNat n.toNat)
 |[],s,h=>by simp[zho]at h;exact⟨[],rfl,h.symm ▸ rfl⟩
 |c::es,s,h=>by
  unfold zho at h;split at h
  ·rename_i heq;cases heq
  ·rename_i n es' heq;cases heq;split at h
   ·rename_i s' hs';obtain⟨ns,rfl,rfl⟩:=ztY hs';cases h;exact⟨n::ns,rfl,rfl⟩
   ·cases h
  ·cases h
theorem zv8:∀ (ns:List Int) (acc:List UInt8),ns.foldl (λr n=>r.push (UInt8.ofNat n.toNat)) (ByteArray.mk acc.toArray)=⟨(acc++ns.map λn=>UInt8.ofNat n.toNat).toArray⟩
 |[],acc=>by simp
 |n::ns,acc=>by
  have h:(ByteArray.mk acc.toArray).push (UInt8.ofNat n.toNat)=⟨(acc++[UInt8.ofNat n.toNat]).toArray⟩:=by simp[ByteArray.push]
  rw[List.foldl_cons,h,zv8 ns];simp
theorem zu2{L:Nat→Nat}:∀ {zs:List Value} {ns:List Int},All2 (DRel w L) zs (ns.map (AV.int .u8))→zs=ns.map (Value.int .u8)
 |[],[],_=>rfl
 |z::zs,n::ns,h=>by obtain⟨h1,h2⟩:=h;cases h1;rw[zu2 h2];rfl
theorem zxd:∀ ns:List Int,(ns.map λn=>[AV.int .u8 n]).flatten=ns.map (AV.int .u8)
 |[]=>rfl
 |n::ns=>by rw[List.map_cons,List.flatten_cons,zxd ns];rfl
theorem zFD{s t e:TypeId}{v:Value}{x:AV}{K:AV→Prop}(hx:TRel w G v x)(hs:P.underlying s=some (.slice e))(ht:P.underlying t=some .string)(he:tU8 P e=true)(h:zfs x K):
  ∃r,(convert s t v).run P w=.ok r w∧∃av,TRel w G r av∧K av:=by
 have hue:P.underlying e=some (.int .u8):=by
  unfold tU8 at he;split at he
  ·assumption
  ·cases he
 unfold zfs at h;split at h
 ·rename_i es tok;have hd:=zij hx;split at h
  ·rename_i bs hb;obtain⟨ns,rfl,rfl⟩:=ztY hb;refine⟨.string ⟨(ns.map λn=>UInt8.ofNat n.toNat).toArray⟩,?_,.str _,rfl,h⟩;by_cases hne:ns=[]
   ·subst hne;obtain⟨a,cap,rfl,_⟩:=hd.slice_form;rw[run_convert_bytes_string w s t e _ _ _ hs hue ht];cases a with
    |none=>rfl
    |some a=>
     have hl:(loadCells a 0).run P w=.ok #[] w:=by simpa using run_loadCells_list (P:=P) w a [] (by simp)
     exact run_bytesToString w a 0 cap [] hl
   ·obtain⟨b,off,cap,zs,rfl,hzl,hzr,hzc,_⟩:=hd.flat (size:=1) (by simpa using hne) (by simp);rw[zxd]at hzr;obtain rfl:=zu2 hzr;rw[run_convert_bytes_string w s t e _ _ _ hs hue ht];have hld:=run_loadCells_list (P:=P) w ⟨b,off,none⟩ (ns.map (Value.int .u8)) (λj v hj=>by rw[add_lit];exact hzc j v hj);rw[List.length_map]at hld;rw[List.length_map,run_bytesToString w _ _ cap ns hld];have:=zv8 ns [];simp only[List.nil_append]at this;rw[←this];rfl
  ·exact h.elim
 ·cases hx;refine⟨.string ⟨#[]⟩,?_,.str [],rfl,h⟩;rw[run_convert_bytes_string w s t e _ _ _ hs hue ht];rfl
 ·exact h.elim

end Go.Abs
namespace Go.Abs
open Go Go.RowKit

variable {P:Program} {B:Nat} {w:World} {G:Gh} {H:zaa}

theorem zwe(v:Value):VRel w G v (zcY v):=by
 unfold zcY;split
 ·rename_i cs;refine⟨cs,rfl,?_⟩;refine All2.of_get (by simp) λi x y hx hy=>?_;rw[List.getElem?_map,hx]at hy;simp at hy;rw[←hy];exact ARel.of_b (zgM x)
 ·exact VRel.of_a (ARel.of_b (zgM v))
theorem zxg{t e:TypeId}(h:zeI P t=some e):∃k,P.underlying t=some (.map k e)∧P.underlying k=some .string:=by
 unfold zeI at h;cases hu:P.underlying t with
 |none=>simp[hu]at h
 |some d=>
  simp only[hu,Option.bind_some]at h;cases d <;> simp only[]at h <;> try (cases h;done)
  rename_i k e';split at h
  ·rename_i hk;cases h;exact⟨k,rfl,hk⟩
  ·cases h

theorem zn8{s:List UInt8}{x:AV}:∀ {es:List MapEntry} {kvs:List (List UInt8 × AV)} (i:Nat),All2 (ERel w G) es kvs →
  (zbY kvs s=none∧Instr.findNow .string (.string ⟨s.toArray⟩) es i=some none∧zcP kvs s x=kvs++[(s,x)]) ∨
  (∃j e v,zbY kvs s=some v∧Instr.findNow .string (.string ⟨s.toArray⟩) es i=some (some (i+j,e.val))∧es[j]?=some e∧VRel w G e.val v∧e.key=.string ⟨s.toArray⟩∧zcP kvs s x=kvs.set j (s,x))
 |[],[],i,_=>.inl ⟨rfl,rfl,rfl⟩
 |e::es,p::kvs,i,h=>by
  obtain⟨⟨hk,hv⟩,ht⟩:=h;have hbeq:((⟨s.toArray⟩:ByteArray) == ⟨p.1.toArray⟩)=(p.1 == s):=by
   have e1:((⟨s.toArray⟩:ByteArray) == ⟨p.1.toArray⟩)=(s.toArray == p.1.toArray):=rfl;rw[e1,Bool.eq_iff_iff,beq_iff_eq,beq_iff_eq];constructor
   ·intro h;have:=congrArg Array.toList h;simpa using this.symm
   ·intro h;rw[h]
  have hsame:Instr.sameNow .string (.string ⟨s.toArray⟩) e.key=some (p.1 == s):=by rw[hk];simp only[Instr.sameNow,hbeq]
  cases hb:(p.1 == s) with
  |true=>
   right;rw[hb]at hsame;have hps:p.1=s:=by simpa using hb
   exact⟨0,e,p.2,by simp only[zbY,hb],by simp only[Instr.findNow,hsame,Nat.add_zero],rfl,hv,by rw[hk,hps],by simp only[zcP,hb,List.set_cons_zero]⟩
  |false=>
   rw[hb]at hsame;rcases zn8 (s:=s) (x:=x) (i+1) ht with ⟨h1,h2,h3⟩|⟨j,e',v,h1,h2,h3,h4,h5,h6⟩
   ·exact .inl ⟨by simp only[zbY,hb,h1],by simp only[Instr.findNow,hsame,h2],by simp only[zcP,hb,h3,List.cons_append]⟩
   ·refine .inr ⟨j+1,e',v,by simp only[zbY,hb,h1],?_,by simpa using h3,h4,h5,by simp only[zcP,hb,h6,List.set_cons_succ]⟩;simp only[Instr.findNow,hsame,h2];congr 3;omega
 |[],_::_,_,h=>h.elim
 |_::_,[],_,h=>h.elim

theorem zFS{t:TypeId}{K:AV→zaa→Prop}(hH:HRel B w G H)(h:zdU H K):OpOK P B w G K (((do pure (.value (←Instr.makeMap t none))):Sem Next).run P w):=by
 obtain⟨he,hH'⟩:=hH.newMap;have hrun:((do pure (.value (←Instr.makeMap t none))):Sem Next).run P w=.ok (.value (.map (some w.heap.size))) (w.alloc (.map #[] 0)):=by simp[Instr.makeMap,newObj,Sem.run,World.alloc_eq]
 rw[hrun];refine⟨.map H.length,_,_,he,hH',⟨w.heap.size,?_,rfl⟩,h⟩;rw[←hH.len];simp

theorem zFO{t e:TypeId}{z vm vk:Value}{m k:AV}{ok:Bool}{K:AV→Prop}(hH:HRel B w G H)(ht:zeI P t=some e)(hz:zbn P e=some z)(hm:TRel w G vm m)(hk:TRel w G vk k)(h:zdC (zcY z) ok m k H K):∃u,(Instr.lookup t vm vk ok).run P w=.ok u w∧∃av,TRel w G u av∧K av:=by
 obtain⟨kt,hu,huk⟩:=zxg ht;unfold zdC at h;split at h
 ·rename_i id s;split at h
  ·rename_i kvs hkvs;obtain⟨b,hμ,rfl⟩:=hm;cases hk;obtain⟨_,_,es,clk,hw,hes⟩:=hH.ok id _ _ hkvs hμ;have hkey:MapKept.IsKey .string (.string ⟨s.toArray⟩):=trivial;rcases zn8 (s:=s) (x:=.unk) 0 hes with ⟨h1,h2,_⟩ | ⟨j,e',v,h1,h2,h3,h4,h5,_⟩
   ·rw[h1]at h;have hzv:VRel w G z (zcY z):=zwe z;cases ok with
    |false=>refine⟨z,?_,_,zpE z,h⟩;simp[Instr.lookup,zaS hu,MapKept.run_getObj_map hw,MapKept.run_checkKey huk hkey,MapKept.run_findKey huk h2,zea hz]
    |true=>refine⟨.tuple #[z,.bool false],?_,.tup [zcY z,.bool false],⟨_,rfl,hzv,rfl,trivial⟩,h⟩;simp[Instr.lookup,zaS hu,MapKept.run_getObj_map hw,MapKept.run_checkKey huk hkey,MapKept.run_findKey huk h2,zea hz]
   ·rw[h1]at h;cases ok with
    |false=>refine⟨e'.val,?_,_,TRel.of_v h4,h⟩;simp[Instr.lookup,zaS hu,MapKept.run_getObj_map hw,MapKept.run_checkKey huk hkey,MapKept.run_findKey huk h2]
    |true=>refine⟨.tuple #[e'.val,.bool true],?_,.tup [v,.bool true],⟨_,rfl,h4,rfl,trivial⟩,h⟩;simp[Instr.lookup,zaS hu,MapKept.run_getObj_map hw,MapKept.run_checkKey huk hkey,MapKept.run_findKey huk h2]
  ·exact h.elim
 ·exact h.elim

theorem zwG{t e:TypeId}{vm vk vx:Value}{m k x:AV}{K:zaa→Prop}(hH:HRel B w G H)(ht:zeI P t=some e)(hm:TRel w G vm m)(hk:TRel w G vk k)(hx:TRel w G vx x)(h:zcL m k x H K):∃w' H',(Instr.mapUpdate t vm vk vx).run P w=.ok () w'∧Ext B w G w' G∧HRel B w' G H'∧K H':=by
 obtain⟨kt,hu,huk⟩:=zxg ht;unfold zcL at h;split at h
 ·rename_i id s;split at h
  ·rename_i kvs hkvs;obtain⟨b,hμ,rfl⟩:=hm;cases hk;obtain⟨_,_,es,clk,hw,hes⟩:=hH.ok id _ _ hkvs hμ;have hkey:MapKept.IsKey .string (.string ⟨s.toArray⟩):=trivial;split at h
   ·exact h.elim
   ·rename_i hnt;have hv:VRel w G vx x:=by cases x <;> first | exact hx | exact (hnt _ rfl).elim
    rcases zn8 (s:=s) (x:=x) 0 hes with ⟨h1,h2,h6⟩|⟨j,e',v,h1,h2,h3,h4,h5,h6⟩
    ·rw[h6]at h;obtain⟨he,hH'⟩:=hH.storeMap (es':=es.push ⟨.string ⟨s.toArray⟩,vx,clk⟩) (clk':=clk+1) hkvs hμ hw (kvs':=kvs++[(s,x)]) (by
      rw[Array.toList_push];exact hes.append ⟨⟨rfl,hv⟩,trivial⟩)
     refine⟨_,_,?_,he,hH',h⟩;simp[Instr.mapUpdate,zaS hu,MapKept.run_getObj_map hw,MapKept.run_checkKey huk hkey,MapKept.run_findKey huk h2,MapKept.run_setObj_map _ hw]
    ·rw[h6]at h;have hj:es[j]?=some e':=by simpa using h3
     have hjl:j<es.size:=(Array.getElem?_eq_some_iff.1 hj).1;obtain⟨he,hH'⟩:=hH.storeMap (es':=es.modify j λe=>{ e with key:=.string ⟨s.toArray⟩,val:=vx }) (clk':=clk) hkvs hμ hw (kvs':=kvs.set j (s,x)) (by
      have e1:(es.modify j λe=>{ e with key:=.string ⟨s.toArray⟩,val:=vx }).toList=es.toList.set j { e' with key:=.string ⟨s.toArray⟩,val:=vx }:=by rw[Array.toList_modify,List.modify_eq_set];simp[hj]
      rw[e1];exact hes.set j ⟨rfl,hv⟩)
     refine⟨_,_,?_,he,hH',h⟩;have hks:(Instr.keyThatStays (((es[j]?).map (·.key)).getD (.string ⟨s.toArray⟩)) (.string ⟨s.toArray⟩)).run P w=.ok (.string ⟨s.toArray⟩) w:=by rw[hj];simp only[Option.map_some,Option.getD_some,h5];exact MapKept.run_keyThatStays hkey
     simp only[Nat.zero_add]at h2;simp[Instr.mapUpdate,zaS hu,MapKept.run_getObj_map hw,MapKept.run_checkKey huk hkey,MapKept.run_findKey huk h2,hks,MapKept.run_setObj_map _ hw]
  ·exact h.elim
 ·exact h.elim
end Go.Abs
