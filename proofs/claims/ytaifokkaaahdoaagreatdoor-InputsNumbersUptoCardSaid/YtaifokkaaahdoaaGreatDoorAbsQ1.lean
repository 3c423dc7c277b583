import Derived.Test.YtaifokkaaahdoaaGreatDoorAbsM
import Derived.IntWalk
import Derived.KernelRfl
set_option linter.unusedSimpArgs false
set_option linter.unusedVariables false
set_option linter.unusedSectionVars false
set_option maxRecDepth 8000
namespace Go.Proofs.YtaifokkaaahdoaaGreatDoor
section
open Go.RowKit

variable {P:Program} {B:Nat} {w:World} {G:Gh} {H:zaa}

theorem DRel.of_flat_at{L:Nat→Nat}{g off size cap:Nat}{es:List (List AV)}{zs:List Value}(hsz:∀c∈es,c.length=size)(hne:es≠[])(hcap:es.length≤cap)(hL:off+es.length*size≤L g)(hr:All2 (DRel w L) zs es.flatten)(hc:∀j v,zs[j]?=some v→w.cell? ⟨g,off+j,none⟩=some v):DRel w L (.slice (some ⟨g,off,none⟩) es.length cap) (.sl es .none):=by
 have hget:∀i j (hi:i<es.length) (hj:j<(es[i]).length),∃v,zs[i*size+j]?=some v∧DRel w L v (es[i])[j]:=λi j hi hj=>hr.get (zh9 hsz i j hi hj);refine .sl g off cap size es (λi j=>zs.getD (i*size+j) undef) hne hcap hL (λi hi=>hsz _ (ae hi)) (λi j hi hj=>?_) (λi j hi hj=>?_)
 ·obtain⟨v,h1,h2⟩:=hget i j hi hj;simp only[List.getD_eq_getElem?_getD,h1,Option.getD_some,ag];exact hc _ _ h1
 ·obtain⟨v,h1,h2⟩:=hget i j hi hj;simp only[List.getD_eq_getElem?_getD,h1,Option.getD_some];exact h2

inductive OutV (H:zaa) (n:Nat):AV→AV→Prop
 |wk {a b:AV} (h:WkV a b) (hv:b.isV=true) (hs:b.scV n=true):OutV H n a b
 | frz (id off len cap size:Nat) (cs:List AV) (es:List (List AV)) (hid:n≤id) (hH:H[id]?=some (.cells cs)) (hfit:off+len*size≤cs.length)
   (hp:plain ((cs.drop off).take (len*size))=some es.flatten) (hlen:es.length=len) (hsz:∀c∈es,c.length=size) (hcap:len≤cap):OutV H n (.ms id off len cap) (.sl es .none)
 |vfz (id e size m:Nat) (cs:List AV) (es:List (List AV)) (hid:n≤id) (hH:H[id]?=some (.vec e size m cs)) (hp:plain cs=some es.flatten) (hlen:es.length=m) (hsz:∀c∈es,c.length=size):OutV H n (.ov id m) (.sl es .none)
inductive OutT (H:zaa) (n:Nat):AV→AV→Prop
 |one {a b:AV} (h:OutV H n a b):OutT H n a b
 |tup {asx bs:List AV} (h:All2 (OutV H n) asx bs):OutT H n (.tup asx) (.tup bs)

theorem zHr{n:Nat}{b:AV}(hv:b.isV=true)(hs:b.scV n=true):b.sc n=true:=by cases b <;> first|exact hs|(simp[AV.isV]at hv;done)

theorem OutV.vrel(hH:HRel B w G H){n:Nat}{v:Value}{a b:AV}(h:OutV H n a b)(hr:TRel w G v a):VRel w (G.cut w n) v b:=by
 cases h with
 |wk h hv hs=>exact zxA (zwK hH (h.trel hr) (zHr hv hs)) hv
 |frz id off len cap size cs es hid hHid hfit hp hlen hsz hcap=>
  obtain⟨b,hμ,rfl⟩:=hr;have hok:=hH.ok id _ _ hHid hμ;obtain⟨_,_,vs,e,hw,hcs⟩:=hok;subst hlen;show DRel w (G.cut w n).L _ _;by_cases hne:es=[]
  ·subst hne;exact .slE _ _
  ·have hl:=hcs.length;have hd:=zeL ((hcs.drop off).take (es.length*size)) hp;refine DRel.of_flat_at (zs:=(vs.toList.drop off).take (es.length*size)) hsz hne hcap ?_ (hd.mono λ_ _=>zh4 hH) ?_
   ·have:(G.cut w n).L b=vs.size:=by simp only[Gh.cut];rw[aB (cut_dropped.2 ⟨id,_,hid,hμ,rfl⟩),hw]
    rw[this];simp at hl;omega
   ·intro j u hj;rw[List.getElem?_take]at hj;split at hj
    ·simp only[World.cell?,hw];simpa using hj
    ·cases hj
 |vfz id e size m cs es hid hHid hp hlen hsz=>
  obtain⟨⟨a,cap0,rfl,_⟩,v',s0,n',hμ,_,heq⟩:=hr;obtain⟨rfl,rfl,⟨xs,hown,hcs⟩,_⟩:=hH.ok id _ _ hHid hμ;obtain rfl:=heq rfl;subst hlen;show DRel w (G.cut w n).L _ _;by_cases hne:es=[]
  ·subst hne;exact .slE _ _
  ·have hown2:=hown;obtain⟨hl,hrow⟩:=hown2;rcases hrow with ⟨h1,h2⟩ | ⟨g,cap,cur,h1,h2,h3,h4,h5,h6,h7⟩
   ·cases es <;> simp_all
   ·simp at h1;obtain⟨rfl,rfl⟩:=h1;obtain⟨_,_,_,hcell⟩:=zdL hown;refine DRel.of_flat_at (zs:=xs) hsz hne h4 ?_ ((zeL hcs hp).mono λ_ _=>zh4 hH) ?_
    ·have:(G.cut w n).L g=cur.size:=by simp only[Gh.cut];rw[aB (cut_dropped.2 ⟨id,_,hid,hμ,rfl⟩),h3]
     rw[this,h6,aF];exact aq _ h4
    ·intro j u hj;rw[aF,hcell j (by rw[←hl];exact(List.getElem?_eq_some_iff.1 hj).1)];exact hj

theorem zyr(hH:HRel B w G H){n:Nat}{asx bs:List AV}(h:All2 (OutV H n) asx bs):∀{vs:List Value},All2 (VRel w G) vs asx→All2 (VRel w (G.cut w n)) vs bs:=by
 induction asx generalizing bs with
 |nil=>
  intro vs hr;cases bs with
  |nil=>cases vs <;> first|trivial|exact hr.elim
  |cons b bs=>exact h.elim
 |cons a asx ih=>
  intro vs hr;cases bs with
  |nil=>exact h.elim
  |cons b bs=>
   cases vs with
   |nil=>exact hr.elim
   |cons v vs=>exact⟨h.1.vrel hH (TRel.of_v hr.1),ih h.2 hr.2⟩

def Out(n:Nat)(K:AV→zaa→Prop)(r:AV)(H':zaa):Prop:=∃r2 H2 J,H'=H2++J∧n≤H2.length∧HSc H2∧OutT H' H2.length r r2∧K r2 H2

theorem ACalls.out{f:FuncId}{args:List AV}{K:AV→zaa→Prop}(h:ACalls P f args H (Out H.length K)):ACalls P f args H K:=by
 intro B w G vs hH hv;refine(h B w G vs hH hv).mono λe w' ⟨v,r,H',G',h1,h2,h3,h4,h5⟩=>?_;obtain⟨r2,H2,J,hJ,hn,hsc,ho,hk⟩:=h5;subst hJ;refine⟨v,r2,H2,G'.cut w' H2.length,h1,zpv h3 h2 (by rw[hH.len];exact hn),h3.cut hsc,?_,hk⟩;cases ho with
 |one ho=>exact TRel.of_v (ho.vrel h3 h4)
 |tup ho=>obtain⟨us,hu,hr⟩:=h4;exact⟨us,hu,zyr h3 ho hr⟩

theorem Out.same{n:Nat}{K:AV→zaa→Prop}{r:AV}{J:zaa}(hn:n=H.length)(hsc:HSc H)(hv:r.isV=true)(hr:r.scV H.length=true)(h:K r H):Out n K r (H++J):=
 ⟨r,H,J,rfl,by omega,hsc,.one (.wk (.atom (.refl r)) hv hr),h⟩

theorem ALoop.own{c:Code}{Q:AExit→List AV→zaa→Prop}{F:List AV}(i e size:Nat)(hi:F[i]?=some .snil)(h:ALoop P c Q (F.set i (.sl [] (.own H.length))) (H++[.perm e size 0])):ALoop P c Q F H:=by
 intro B w G a hH hF hd;obtain⟨hE,hH'⟩:=hH.newOwn e size;have hF':FRel w ⟨G.L,G.μ++[.own (.slice none 0 0) size 0]⟩ a.tmps (F.set i (.sl [] (.own H.length))):=by
  unfold FRel;obtain⟨v,h1,h2⟩:=All2.get hF hi;have h2:v=.slice none 0 0:=h2;subst h2;have hset:a.tmps.toList=a.tmps.toList.set i (.slice none 0 0):=by
   apply aI;intro k;by_cases hk:k=i
   ·subst hk;rw[List.getElem?_set_self (List.getElem?_eq_some_iff.1 h1).1];exact h1
   ·rw[List.getElem?_set_ne (λh=>hk h.symm)]
  rw[hset];refine All2.set i (hF.ext hE) ?_;refine⟨.slE _ _,.slice none 0 0,size,0,?_,aa _,λ_=>⟨rfl,by simp⟩⟩;rw[←hH.len];simp
 refine wp_mono (h B w _ a hH' hF' hd) λe a' w' hp=>?_;obtain⟨F'',H'',G'',e'',rfl,k1,k2,k3,k4,k5⟩:=hp;exact⟨F'',H'',G'',e'',rfl,hE.trans k1,k2,k3,k4,k5⟩

def zbO(w:World)(b:Nat):Nat:=match w.heap[b]? with|some (.cells c _ _)=>c.size|_=>0
def G0(w:World):Gh:=⟨zbO w,[]⟩

theorem zHi(w:World):HRel w.heap.size w (G0 w) []:=
 ⟨rfl,λ_ _ _ h=>by simp at h,λ_ _ _ _ _ h=>by simp[G0]at h,λb hb=>by simp[G0,zbO,Array.getElem?_eq_none hb],λ_ _ _ h=>by simp[G0]at h,aa _⟩

end
section
open Go.RowKit

section
variable {H:zaa} {K:AV→zaa→Prop} {k:AV→Prop}
@[simp] theorem zYt(p q:Prop):aIf true p q=p:=propext aG
@[simp] theorem zYs(p q:Prop):aIf false p q=q:=propext aG
theorem zv4(b:Bool)(p q:Prop):zag (.bool b) p q=(if b=true then p else q):=rfl
@[simp] theorem zZ2(p q:Prop):zag (.bool true) p q=p:=propext aG
@[simp] theorem zZ1(p q:Prop):zag (.bool false) p q=q:=propext aG
@[simp] theorem zZv(x y:AV):zak (.bool true) x y k=k x:=propext aG
@[simp] theorem zZu(x y:AV):zak (.bool false) x y k=k y:=propext aG
@[simp] theorem zYk(p q:Prop):zdn (.bool true) true p q=p:=propext aG
@[simp] theorem zYh(p q:Prop):zdn (.bool false) false p q=p:=propext aG
@[simp] theorem zYj(p q:Prop):zdn (.bool true) false p q=q:=propext aG
@[simp] theorem zYi(p q:Prop):zdn (.bool false) true p q=q:=propext aG
@[simp] theorem zYl(want:Bool)(p q:Prop):zdn (.tup []) want p q=q:=propext aG
@[simp] theorem zYe(p:(AV→zaa→Prop)→Prop)(J:AV→zaa→Prop):zac (.bool true) true H p J=p J:=propext aG
@[simp] theorem zYb(p:(AV→zaa→Prop)→Prop)(J:AV→zaa→Prop):zac (.bool false) false H p J=p J:=propext aG
@[simp] theorem zYd(p:(AV→zaa→Prop)→Prop)(J:AV→zaa→Prop):zac (.bool true) false H p J=J (.tup []) H:=propext aG
@[simp] theorem zYc(p:(AV→zaa→Prop)→Prop)(J:AV→zaa→Prop):zac (.bool false) true H p J=J (.tup []) H:=propext aG
@[simp] theorem zYf(want:Bool)(p:(AV→zaa→Prop)→Prop)(J:AV→zaa→Prop):zac (.tup []) want H p J=J (.tup []) H:=propext aG
@[simp] theorem yae(cs:List AV):(AV.agg cs).cs?=some cs:=rfl
@[simp] theorem yah(j:IntKind)(n:Int):(AV.int j n).cs?=some [.int j n]:=rfl
@[simp] theorem yaf(b:Bool):(AV.bool b).cs?=some [.bool b]:=rfl
@[simp] theorem yas(s:List UInt8):(AV.str s).cs?=some [.str s]:=rfl
@[simp] theorem yaq(es:List (List AV))(t:Tok):(AV.sl es t).cs?=some [.sl es t]:=rfl
@[simp] theorem yar:(AV.snil).cs?=some [.snil]:=rfl
@[simp] theorem yap(i o:Nat):(AV.ptr i o).cs?=some [.ptr i o]:=rfl
@[simp] theorem yaj(i o l c:Nat):(AV.ms i o l c).cs?=some [.ms i o l c]:=rfl
@[simp] theorem yag(f:Nat)(c:List AV):(AV.fn f c).cs?=some [.fn f c]:=rfl
@[simp] theorem yam:(AV.nilp).cs?=some [.nilp]:=rfl
@[simp] theorem yal:(AV.nili).cs?=some [.nili]:=rfl
@[simp] theorem yao(i n:Nat):(AV.ov i n).cs?=some [.ov i n]:=rfl
@[simp] theorem yat(i n o:Nat):(AV.vp i n o).cs?=some [.vp i n o]:=rfl
@[simp] theorem yak:(AV.nilfn).cs?=some [.nilfn]:=rfl
@[simp] theorem zZi(cs:List AV):zay cs H K=K (.ptr H.length 0) (H++[.cells cs]):=propext aG
@[simp] theorem zXw(cs:List AV):zaw (.agg cs) H K=K (.ptr H.length 0) (H++[.cells cs]):=propext aG
@[simp] theorem zXA(j:IntKind)(n:Int):zaw (.int j n) H K=K (.ptr H.length 0) (H++[.cells [.int j n]]):=propext aG
@[simp] theorem zXH(s:List UInt8):zaw (.str s) H K=K (.ptr H.length 0) (H++[.cells [.str s]]):=propext aG
@[simp] theorem zXx(b:Bool):zaw (.bool b) H K=K (.ptr H.length 0) (H++[.cells [.bool b]]):=propext aG
@[simp] theorem zXF(es:List (List AV))(t:Tok):zaw (.sl es t) H K=K (.ptr H.length 0) (H++[.cells [.sl es t]]):=propext aG
@[simp] theorem zfO(n off:Nat)(cs:List AV):zbr true n off cs k=(off+n≤cs.length∧k (.agg ((cs.drop off).take n))):=propext aG
theorem zc4{cs:List AV}{off:Nat}{c:AV}(n:Nat)(h:cs[off]?=some c):zbr false n off cs k=k c:=by simp[zbr,h]
@[simp] theorem zXN(n:Nat)(c:AV)(cs:List AV):zbr false n 0 (c::cs) k=k c:=propext aG
@[simp] theorem zXM(n i:Nat)(c:AV)(cs:List AV):zbr false n (i+1) (c::cs) k=zbr false n i cs k:=by simp[zbr]
@[simp] theorem zYN(g:Bool)(n:Nat)(cs:List AV):zae g n (.view cs) H k=zbr g n 0 cs k:=propext aG
def ze7(g:Bool)(n off:Nat)(b:Option AB)(k:AV→Prop):Prop:=
 match b with
 |some (.cells cs)=>zbr g n off cs k
 |_=>False
@[simp] theorem zfQ(g:Bool)(n off:Nat)(cs:List AV):ze7 g n off (some (.cells cs)) k=zbr g n off cs k:=propext aG
@[simp] theorem zc5(g:Bool)(n id off:Nat):zae g n (.ptr id off) H k=ze7 g n off H[id]? k:=by rw[zgJ];rfl
def zcH(n off id:Nat)(xs:Option (List AV))(b:Option AB)(H:zaa)(K:zaa→Prop):Prop:=
 match xs,b with
 |some xs,some (.cells cs)=>(xs.length=n∧off+n≤cs.length∧xs.all AV.known=true)∧K (H.set id (.cells (cs.take off++xs++cs.drop (off+n))))
 |_,_=>False
@[simp] theorem zd2{K':zaa→Prop}(n off id:Nat)(xs cs:List AV):zcH n off id (some xs) (some (.cells cs)) H K'=((xs.length=n∧off+n≤cs.length∧xs.all AV.known=true)∧K' (H.set id (.cells (cs.take off++xs++cs.drop (off+n))))):=propext aG
@[simp] theorem zgM{K':zaa→Prop}(n id off:Nat)(x:AV):zam n (.ptr id off) x H K'=zcH n off id x.cs? H[id]? H K':=by
 cases hx:x.cs? with
 |none=>simp[ze8,zcH,hx]
 | some xs=>cases hb:H[id]? with
  |none=>simp[ze8,zcH,hx,hb]
  |some b=>cases b <;> simp[ze8,zcH,hx,hb]
def zvW(g:Bool)(n m off:Nat)(b:Option AB)(k:AV→Prop):Prop:=
 match b with
 |some (.vec _ _ m' cs)=>m'=m∧zbr g n off cs k
 |_=>False
@[simp] theorem zYL(g:Bool)(n m off e s m':Nat)(cs:List AV):zvW g n m off (some (.vec e s m' cs)) k=(m'=m∧zbr g n off cs k):=propext aG
@[simp] theorem zYO(g:Bool)(n id m off:Nat):zae g n (.vp id m off) H k=zvW g n m off H[id]? k:=by rw[zgJ];rfl
def zhU(n m off id:Nat)(xs:Option (List AV))(b:Option AB)(H:zaa)(K':zaa→Prop):Prop:=
 match xs,b with
 |some xs,some (.vec e s m' cs)=>(m'=m∧xs.length=n∧off+n≤cs.length∧xs.all AV.known=true)∧K' (H.set id (.vec e s m' (cs.take off++xs++cs.drop (off+n))))
 |_,_=>False
@[simp] theorem zFE{K':zaa→Prop}(n m off id e s m':Nat)(xs cs:List AV):zhU n m off id (some xs) (some (.vec e s m' cs)) H K'=((m'=m∧xs.length=n∧off+n≤cs.length∧xs.all AV.known=true)∧K' (H.set id (.vec e s m' (cs.take off++xs++cs.drop (off+n))))):=propext aG
@[simp] theorem zv2{K':zaa→Prop}(n id m off:Nat)(x:AV):zam n (.vp id m off) x H K'=zhU n m off id x.cs? H[id]? H K':=by
 cases hx:x.cs? with
 |none=>simp[ze8,zhU,hx]
 | some xs=>cases hb:H[id]? with
  |none=>simp[ze8,zhU,hx,hb]
  |some b=>cases b <;> simp[ze8,zhU,hx,hb]
def zo3(e size bytes n id:Nat)(ys:List (List AV))(b:Option AB)(H:zaa)(K:AV→zaa→Prop):Prop:=
 match b with
 |some (.vec e' s' n' cs)=>((e'=e∧s'=size∧n'=n)∧(n+ys.length)*bytes≤140737488355328∧n+ys.length≤9223372036854775807)∧K (.ov id (n+ys.length)) (H.set id (.vec e size (n+ys.length) (cs++ys.flatten)))
 |_=>False
@[simp] theorem zXs(e size bytes n id e' s' n':Nat)(ys:List (List AV))(cs:List AV):zo3 e size bytes n id ys (some (.vec e' s' n' cs)) H K=(((e'=e∧s'=size∧n'=n)∧(n+ys.length)*bytes≤140737488355328∧n+ys.length≤9223372036854775807)∧K (.ov id (n+ys.length)) (H.set id (.vec e size (n+ys.length) (cs++ys.flatten)))):=propext aG
@[simp] theorem zXr(e size bytes id n:Nat)(ys:List (List AV)):zaZ e size bytes (.ov id n) ys H K=zo3 e size bytes n id ys H[id]? H K:=by unfold zaZ zo3;rfl
@[simp] theorem zFv(esz id m:Nat)(j:IntKind)(n:Int):zai esz (.ov id m) (.int j n) k=((0≤n∧n<m)∧k (.vp id m (n.toNat*esz))):=zeA ..
@[simp] theorem zYv(id n:Nat):zah 1 (.ov id n) k=k (.int .i64 n):=propext aG
@[simp] theorem zX7(off i m o:Nat):zaf off (.vp i m o) k=k (.vp i m (o+off)):=propext aG
@[simp] theorem zZr(i m o:Nat):zaM (.vp i m o) k=k (.vp i m o):=propext aG
@[simp] theorem zXD(i n:Nat):zaw (.ov i n) H K=K (.ptr H.length 0) (H++[.cells [.ov i n]]):=propext aG
@[simp] theorem yaC(i n:Nat):(AV.ov i n).known=true:=rfl
@[simp] theorem yaO(m i n:Nat):(AV.ov i n).scA m=decide (i<m):=rfl
@[simp] theorem zZp(i o:Nat):zaM (.ptr i o) k=k (.ptr i o):=propext aG
@[simp] theorem zZq(cs:List AV):zaM (.view cs) k=k (.view cs):=propext aG
@[simp] theorem zZo(f:Nat)(c:List AV):zaM (.fn f c) k=k (.fn f c):=propext aG
@[simp] theorem zX5(off i o:Nat):zaf off (.ptr i o) k=k (.ptr i (o+off)):=propext aG
@[simp] theorem zX6(off:Nat)(cs:List AV):zaf off (.view cs) k=(off≤cs.length∧k (.view (cs.drop off))):=zvU ..
@[simp] theorem zX2(g:Bool)(n off:Nat)(cs:List AV):zd0 g n off (.agg cs) k=zbr g n off cs k:=propext aG
@[simp] theorem zYo(esz:Nat)(es:List (List AV))(t:Tok)(j:IntKind)(n:Int):zai esz (.sl es t) (.int j n) k=((0≤n∧n<es.length)∧((es.getD n.toNat []).length=esz∧k (.view (es.getD n.toNat [])))):=zeA ..
@[simp] theorem zYn(esz id off len cap:Nat)(j:IntKind)(n:Int):zai esz (.ms id off len cap) (.int j n) k=((0≤n∧n<len)∧k (.ptr id (off+n.toNat*esz))):=zeA ..
@[simp] theorem zYq(s:List UInt8)(j:IntKind)(n:Int):zbC (.str s) (.int j n) k=((0≤n∧n<s.length)∧k (.int .u8 (s.getD n.toNat 0).toNat)):=propext aG
@[simp] theorem zYx(s:List UInt8):zah 0 (.str s) k=k (.int .i64 s.length):=propext aG
@[simp] theorem zeB(es:List (List AV))(t:Tok):zah 1 (.sl es t) k=k (.int .i64 es.length):=propext aG
@[simp] theorem zYw:zah 1 .snil k=k (.int .i64 0):=propext aG
@[simp] theorem zFx(i o l c:Nat):zah 1 (.ms i o l c) k=k (.int .i64 l):=propext aG
@[simp] theorem zFq(d:Nat)(q:Nat→Prop):zbA none d q=q d:=propext aG
@[simp] theorem zFp(j:IntKind)(n:Int)(d:Nat)(q:Nat→Prop):zbA (some (.int j n)) d q=(0≤n∧q n.toNat):=propext aG
@[simp] theorem zY2{K:AV→zaa→Prop}{H:zaa}(e s b:Nat)(c:Int):zeD e s b (.int .i64 c) H K=((0≤c∧c*b≤140737488355328∧c≤9223372036854775807)∧K (.ov H.length 0) (H++[.vec e s 0 []])):=propext aG
@[congr] theorem zY1{K:AV→zaa→Prop}{H H':zaa}{e s b:Nat}{c c':AV}(hc:c=c')(hH:H=H'):zeD e s b c H K=zeD e s b c' H' K:=by rw[hc,hH]
@[simp] theorem zY5{K:AV→Prop}(k k':IntKind)(m n:Int):zhT (.int k m) (.int k' n) K=K (.int k (if n>m then n else m)):=propext aG
@[congr] theorem zY4{K:AV→Prop}{x x' y y':AV}(h:x=x')(hy:y=y'):zhT x y K=zhT x' y' K:=by rw[h,hy]
@[simp] theorem zY7{K:AV→Prop}(k k':IntKind)(m n:Int):zgL (.int k m) (.int k' n) K=K (.int k (if n<m then n else m)):=propext aG
@[congr] theorem zY6{K:AV→Prop}{x x' y y':AV}(h:x=x')(hy:y=y'):zgL x y K=zgL x' y' K:=by rw[h,hy]
@[simp] theorem zZV(esz id n:Nat)(lo hi:Option AV):za1 1 esz (.ov id n) lo hi k=zbA hi n λh=>zbA lo 0 λl=>(l≤h∧h=n)∧k (.os id n l esz):=propext aG
@[simp] theorem yan(i n l z:Nat):(AV.os i n l z).cs?=some [.os i n l z]:=rfl
def zvS(size id n lo z id' n' lo' z':Nat)(b:Option AB)(H:zaa)(K:AV→zaa→Prop):Prop:=
 match b with
 | some (.vec e s m cs) => (((id' = id ∧ n' = n ∧ m = n) ∧ z = size ∧ z' = size ∧ s = size) ∧ cs.all AV.known = true) ∧
    K (.int .i64 ((min (n-lo') (n-lo):Nat):Int)) (H.set id (.vec e s m (zcC cs (lo*size) ((cs.drop (lo'*size)).take (min (n-lo') (n-lo)*size)))))
 |_=>False
@[simp] theorem zXU{K:AV→zaa→Prop}(size id n lo z id' n' lo' z':Nat):zez size (.os id n lo z) (.os id' n' lo' z') H K=zvS size id n lo z id' n' lo' z' H[id]? H K:=propext aG
@[simp] theorem zXT{K : AV → zaa → Prop}(size id n lo z id' n' lo' z' e s m : Nat)(cs : List AV): zvS size id n lo z id' n' lo' z' (some (.vec e s m cs)) H K = ((((id' = id ∧ n' = n ∧ m = n) ∧ z = size ∧ z' = size ∧ s = size) ∧ cs.all AV.known = true) ∧
        K (.int .i64 ((min (n-lo') (n-lo):Nat):Int)) (H.set id (.vec e s m (zcC cs (lo*size) ((cs.drop (lo'*size)).take (min (n-lo') (n-lo)*size)))))):=propext aG
def zvT(size off len:Nat)(id:Nat)(es:List (List AV))(b:Option AB)(H:zaa)(K:AV→zaa→Prop):Prop:=
 match b with
 | some (.cells cs) => ((off + min es.length len * size ≤ cs.length ∧ ∀ c ∈ es, c.length = size) ∧ es.flatten.all AV.known = true) ∧
    K (.int .i64 ((min es.length len:Nat):Int)) (H.set id (.cells (zcC cs off (es.flatten.take (min es.length len*size)))))
 |_=>False
@[simp] theorem zFu{K:AV→zaa→Prop}(size id off len cap:Nat)(es:List (List AV))(t:Tok):zez size (.ms id off len cap) (.sl es t) H K=zvT size off len id es H[id]? H K:=propext aG
@[simp] theorem zFt{K : AV → zaa → Prop}(size off len id : Nat)(es : List (List AV))(cs : List AV): zvT size off len id es (some (.cells cs)) H K = (((off + min es.length len * size ≤ cs.length ∧ ∀ c ∈ es, c.length = size) ∧ es.flatten.all AV.known = true) ∧
        K (.int .i64 ((min es.length len:Nat):Int)) (H.set id (.cells (zcC cs off (es.flatten.take (min es.length len*size)))))):=propext aG
@[simp] theorem zFD(s:List UInt8)(lo hi:Option AV):za1 0 0 (.str s) lo hi k=zbA hi s.length λh=>zbA lo 0 λl=>(l≤h∧h≤s.length)∧k (.str ((s.take h).drop l)):=propext aG
@[simp] theorem zZW(esz:Nat)(es:List (List AV))(t:Tok)(lo hi:Option AV):za1 1 esz (.sl es t) lo hi k=zbA hi es.length λh=>zbA lo 0 λl=>(l≤h∧h≤es.length∧∀c∈es,c.length=esz)∧k (.sl ((es.take h).drop l) .none):=propext aG
@[simp] theorem zgG(b:Bool)(j:IntKind)(m n:Int):zab .add b (.int j m) (.int j n) k=k (.int j (j.wrap (m+n))):=by simp[zch]
@[simp] theorem zv3(b:Bool)(j:IntKind)(m n:Int):zab .sub b (.int j m) (.int j n) k=k (.int j (j.wrap (m-n))):=by simp[zch]
@[simp] theorem zZc(b:Bool)(j:IntKind)(m n:Int):zab .mul b (.int j m) (.int j n) k=k (.int j (j.wrap (m*n))):=by simp[zch]
@[simp] theorem zXX(b:Bool)(j:IntKind)(m n:Int):zab .eql b (.int j m) (.int j n) k=k (.bool (m == n)):=by simp[zch]
@[simp] theorem zZf(b:Bool)(j:IntKind)(m n:Int):zab .neq b (.int j m) (.int j n) k=k (.bool (m != n)):=by simp[zch]
@[simp] theorem zYP(b:Bool)(j:IntKind)(m n:Int):zab .lss b (.int j m) (.int j n) k=k (.bool (decide (m<n))):=by simp[zch]
@[simp] theorem zYy(b:Bool)(j:IntKind)(m n:Int):zab .leq b (.int j m) (.int j n) k=k (.bool (decide (m≤n))):=by simp[zch]
@[simp] theorem zX9(b:Bool)(j:IntKind)(m n:Int):zab .gtr b (.int j m) (.int j n) k=k (.bool (decide (m>n))):=by simp[zch]
@[simp] theorem zX8(b:Bool)(j:IntKind)(m n:Int):zab .geq b (.int j m) (.int j n) k=k (.bool (decide (m≥n))):=by simp[zch]
@[simp] theorem zXY(b:Bool)(s t:List UInt8):zab .eql b (.str s) (.str t) k=k (.bool (s == t)):=propext aG
@[simp] theorem zZg(b:Bool)(s t:List UInt8):zab .neq b (.str s) (.str t) k=k (.bool (!(s == t))):=rfl
@[simp] theorem zXp(b:Bool)(s t:List UInt8):zab .add b (.str s) (.str t) k=(s.length+t.length≤9223372036854775807∧k (.str (s++t))):=zch ..
@[simp] theorem zXW(m n:Bool):zab .eql true (.bool m) (.bool n) k=k (.bool (m == n)):=by simp[zch]
@[simp] theorem zZe(m n:Bool):zab .neq true (.bool m) (.bool n) k=k (.bool (!(m == n))):=by simp[zch]
@[simp] theorem zZs(b:Bool):aUn .not (.bool b) k=k (.bool (!b)):=rfl
@[simp] theorem zZd(j:IntKind)(n:Int):aUn .neg (.int j n) k=k (.int j (j.wrap (0-n))):=rfl
@[simp] theorem zFs(j i:IntKind)(n:Int):zbg j (.int i n) k=k (.int j (j.wrap n)):=propext aG
@[simp] theorem zXR(s:List UInt8):zdZ (.str s) k=k (.str s):=propext aG
@[simp] theorem zXZ(v:AV)(vs:List AV):zaI (.tup (v::vs)) 0 k=k v:=propext aG
@[simp] theorem zX1(v:AV)(vs:List AV)(i:Nat):zaI (.tup (v::vs)) (i+1) k=zaI (.tup vs) i k:=by simp[zaI]
@[simp] theorem zXP(f:Nat)(caps:List AV):zci f caps k=(caps.all AV.isB=true∧k (.fn f caps)):=propext aG
@[simp] theorem zZS(v:AV):zaX [v] k=k v:=propext aG
@[simp] theorem zZT(v u:AV)(vs:List AV):zaX (v::u::vs) k=((v::u::vs).all AV.isV=true∧k (.tup (v::u::vs))):=propext aG
end


section
variable {H:zaa} {K:AV→zaa→Prop} {k:AV→Prop} {kh:zaa→Prop}
@[simp] theorem yai(i:Nat):(AV.map i).cs?=some [.map i]:=rfl
@[simp] theorem zZb:zd1 H K=K (.map H.length) (H++[.map []]):=propext aG
def zgH(zero:AV)(ok:Bool)(s:List UInt8)(b:Option AB)(k:AV→Prop):Prop:=
 match b with
 | some (.map kvs)=>k (match ok with
   |true=>.tup [(zbZ kvs s).getD zero,.bool (zbZ kvs s).isSome]
   |false=>(zbZ kvs s).getD zero)
 |_=>False
@[simp] theorem zYI(z:AV)(ok:Bool)(id:Nat)(s:List UInt8):zdC z ok (.map id) (.str s) H k=zgH z ok s H[id]? k:=by unfold zdC zgH;rfl
@[simp] theorem zYA(z:AV)(s:List UInt8)(kvs:List (List UInt8×AV)):zgH z false s (some (.map kvs)) k=k ((zbZ kvs s).getD z):=propext aG
@[simp] theorem zYB(z:AV)(s:List UInt8)(kvs:List (List UInt8×AV)):zgH z true s (some (.map kvs)) k=k (.tup [(zbZ kvs s).getD z,.bool (zbZ kvs s).isSome]):=propext aG
def zgK(id:Nat)(s:List UInt8)(x:AV)(b:Option AB)(H:zaa)(kh:zaa→Prop):Prop:=
 match b with
 | some (.map kvs)=>(match x with
   |.tup _=>False
   |x=>kh (H.set id (.map (zcX kvs s x))))
 |_=>False
@[simp] theorem zY0(id:Nat)(s:List UInt8)(x:AV):zcR (.map id) (.str s) x H kh=zgK id s x H[id]? H kh:=by unfold zcR zgK;rfl
@[simp] theorem zYQ(id:Nat)(s:List UInt8)(b:Bool)(kvs:List (List UInt8×AV)):zgK id s (.bool b) (some (.map kvs)) H kh=kh (H.set id (.map (zcX kvs s (.bool b)))):=propext aG
@[simp] theorem zYS(id:Nat)(s:List UInt8)(j:IntKind)(n:Int)(kvs:List (List UInt8×AV)):zgK id s (.int j n) (some (.map kvs)) H kh=kh (H.set id (.map (zcX kvs s (.int j n)))):=propext aG
@[congr] theorem zZa{H':zaa}(hH:H=H'):zd1 H K=zd1 H' K:=by rw[hH]
@[congr] theorem zYH{H':zaa}{z:AV}{ok:Bool}{m m' x x':AV}(hm:m=m')(hx:x=x')(hH:H=H'):zdC z ok m x H k=zdC z ok m' x' H' k:=by rw[hm,hx,hH]
@[congr] theorem zYz{z:AV}{ok:Bool}{s s':List UInt8}{b b':Option AB}(hs:s=s')(hb:b=b'):zgH z ok s b k=zgH z ok s' b' k:=by rw[hs,hb]
@[congr] theorem zYZ{H':zaa}{m m' y y' x x':AV}(hm:m=m')(hy:y=y')(hx:x=x')(hH:H=H'):zcR m y x H kh=zcR m' y' x' H' kh:=by rw[hm,hy,hx,hH]
@[congr] theorem zYR{H':zaa}{id id':Nat}{s s':List UInt8}{x x':AV}{b b':Option AB}(hi:id=id')(hs:s=s')(hx:x=x')(hb:b=b')(hH:H=H'):zgK id s x b H kh=zgK id' s' x' b' H' kh:=by rw[hi,hs,hx,hb,hH]
@[simp] theorem zY9:zeE H K=K (.map H.length) (H++[.mapP []]):=propext aG
def zgI(zero:AV)(ok:Bool)(s:Int×Int)(b:Option AB)(k:AV→Prop):Prop:=
 match b with
 | some (.mapP kvs)=>k (match ok with
   |true=>.tup [(zcd kvs s).getD zero,.bool (zcd kvs s).isSome]
   |false=>(zcd kvs s).getD zero)
 |_=>False
@[simp] theorem zYG(z:AV)(ok:Bool)(id:Nat)(a b:Int):zeC z ok (.map id) (.agg [.int .i64 a,.int .i64 b]) H k=zgI z ok (a,b) H[id]? k:=by unfold zeC zgI;rfl
@[simp] theorem zYD(z:AV)(s:Int×Int)(kvs:List ((Int×Int)×AV)):zgI z false s (some (.mapP kvs)) k=k ((zcd kvs s).getD z):=propext aG
@[simp] theorem zYE(z:AV)(s:Int×Int)(kvs:List ((Int×Int)×AV)):zgI z true s (some (.mapP kvs)) k=k (.tup [(zcd kvs s).getD z,.bool (zcd kvs s).isSome]):=propext aG
def zfR(id:Nat)(s:Int×Int)(x:AV)(b:Option AB)(H:zaa)(kh:zaa→Prop):Prop:=
 match b with
 | some (.mapP kvs)=>(match x with
   |.tup _=>False
   |x=>kh (H.set id (.mapP (zcK kvs s x))))
 |_=>False
@[simp] theorem zYY(id:Nat)(a b:Int)(x:AV):zdo (.map id) (.agg [.int .i64 a,.int .i64 b]) x H kh=zfR id (a,b) x H[id]? H kh:=by unfold zdo zfR;rfl
@[simp] theorem zYT(id:Nat)(s:Int×Int)(cs:List AV)(kvs:List ((Int×Int)×AV)):zfR id s (.agg cs) (some (.mapP kvs)) H kh=kh (H.set id (.mapP (zcK kvs s (.agg cs)))):=propext aG
@[simp] theorem zYV(id:Nat)(s:Int×Int)(es:List (List AV))(tok:Tok)(kvs:List ((Int×Int)×AV)):zfR id s (.sl es tok) (some (.mapP kvs)) H kh=kh (H.set id (.mapP (zcK kvs s (.sl es tok)))):=propext aG
@[simp] theorem zYW(id:Nat)(s:Int×Int)(kvs:List ((Int×Int)×AV)):zfR id s .snil (some (.mapP kvs)) H kh=kh (H.set id (.mapP (zcK kvs s .snil))):=propext aG
@[congr] theorem zY8{H':zaa}(hH:H=H'):zeE H K=zeE H' K:=by rw[hH]
@[congr] theorem zYF{H':zaa}{z:AV}{ok:Bool}{m m' x x':AV}(hm:m=m')(hx:x=x')(hH:H=H'):zeC z ok m x H k=zeC z ok m' x' H' k:=by rw[hm,hx,hH]
@[congr] theorem zYC{z:AV}{ok:Bool}{s s':Int×Int}{b b':Option AB}(hs:s=s')(hb:b=b'):zgI z ok s b k=zgI z ok s' b' k:=by rw[hs,hb]
@[congr] theorem zYX{H':zaa}{m m' y y' x x':AV}(hm:m=m')(hy:y=y')(hx:x=x')(hH:H=H'):zdo m y x H kh=zdo m' y' x' H' kh:=by rw[hm,hy,hx,hH]
@[congr] theorem zYU{H':zaa}{id id':Nat}{s s':Int×Int}{x x':AV}{b b':Option AB}(hi:id=id')(hs:s=s')(hx:x=x')(hb:b=b')(hH:H=H'):zfR id s x b H kh=zfR id' s' x' b' H' kh:=by rw[hi,hs,hx,hb,hH]
@[simp] theorem yaa(n id off:Nat):zfV n (.ptr id off)=.ms id off n n:=rfl
end

section
variable {H H':zaa} {K:AV→zaa→Prop} {k:AV→Prop} {kh:zaa→Prop}
@[congr] theorem zYr{b b':Bool}{p q:Prop}(h:b=b'):aIf b p q=aIf b' p q:=by rw[h]
@[congr] theorem zZ0{c c':AV}{p q:Prop}(h:c=c'):zag c p q=zag c' p q:=by rw[h]
@[congr] theorem zYg{c c':AV}{w:Bool}{p q:Prop}(h:c=c'):zdn c w p q=zdn c' w p q:=by rw[h]
@[congr] theorem zYa{c c':AV}{w:Bool}{p:(AV→zaa→Prop)→Prop}{J:AV→zaa→Prop}(h:c=c')(hH:H=H'):zac c w H p J=zac c' w H' p J:=by rw[h,hH]
@[congr] theorem zZt{c c' a a' b b':AV}(h:c=c')(ha:a=a')(hb:b=b'):zak c a b k=zak c' a' b' k:=by rw[h,ha,hb]
@[congr] theorem zXy{x x':AV}(h:x=x')(hH:H=H'):zaw x H K=zaw x' H' K:=by rw[h,hH]
@[congr] theorem zZh{x x':List AV}(h:x=x')(hH:H=H'):zay x H K=zay x' H' K:=by rw[h,hH]
@[congr] theorem zXL{g:Bool}{n n' o o':Nat}{c c':List AV}(hn:n=n')(ho:o=o')(hc:c=c'):zbr g n o c k=zbr g n' o' c' k:=by rw[hn,ho,hc]
@[congr] theorem zYM{g:Bool}{n:Nat}{x x':AV}(h:x=x')(hH:H=H'):zae g n x H k=zae g n x' H' k:=by rw[h,hH]
@[congr] theorem zYJ{g:Bool}{n o o':Nat}{b b':Option AB}(ho:o=o')(h:b=b'):ze7 g n o b k=ze7 g n o' b' k:=by rw[h,ho]
@[congr] theorem zZZ{n:Nat}{a a' x x':AV}(ha:a=a')(h:x=x')(hH:H=H'):zam n a x H kh=zam n a' x' H' kh:=by rw[ha,h,hH]
@[congr] theorem zZY{n o o' i i':Nat}{x x':Option (List AV)}{b b':Option AB}(ho:o=o')(hi:i=i')(h:x=x')(hb:b=b')(hH:H=H'):zcH n o i x b H kh=zcH n o' i' x' b' H' kh:=by rw[ho,hi,h,hb,hH]
@[congr] theorem zX4{n:Nat}{x x':AV}(h:x=x'):zaf n x k=zaf n x' k:=by rw[h]
@[congr] theorem zX3{g:Bool}{n o:Nat}{x x':AV}(h:x=x'):zd0 g n o x k=zd0 g n o x' k:=by rw[h]
@[congr] theorem zYm{n:Nat}{x x' i i':AV}(h:x=x')(hi:i=i'):zai n x i k=zai n x' i' k:=by rw[h,hi]
@[congr] theorem zYp{x x' i i':AV}(h:x=x')(hi:i=i'):zbC x i k=zbC x' i' k:=by rw[h,hi]
@[congr] theorem zYu{u:Nat}{x x':AV}(h:x=x'):zah u x k=zah u x' k:=by rw[h]
@[congr] theorem zXv{x x':Option AV}{d d':Nat}{q:Nat→Prop}(h:x=x')(hd:d=d'):zbA x d q=zbA x' d' q:=by rw[h,hd]
@[congr] theorem zZU{u e:Nat}{x x':AV}{l l' h h':Option AV}(hx:x=x')(hl:l=l')(hh:h=h'):za1 u e x l h k=za1 u e x' l' h' k:=by rw[hx,hl,hh]
@[congr] theorem zXu{o:BinOp}{b:Bool}{x x' y y':AV}(h:x=x')(hy:y=y'):zab o b x y k=zab o b x' y' k:=by rw[h,hy]
@[congr] theorem zZ3{o:UnOp}{x x':AV}(h:x=x'):aUn o x k=aUn o x' k:=by rw[h]
@[congr] theorem zXS{o:IntKind}{x x':AV}(h:x=x'):zbg o x k=zbg o x' k:=by rw[h]
@[congr] theorem zXQ{x x':AV}(h:x=x'):zdZ x k=zdZ x' k:=by rw[h]
@[congr] theorem zX0{x x':AV}{i:Nat}(h:x=x'):zaI x i k=zaI x' i k:=by rw[h]
@[congr] theorem zXO{f:Nat}{x x':List AV}(h:x=x'):zci f x k=zci f x' k:=by rw[h]
@[congr] theorem zZn{x x':AV}(h:x=x'):zaM x k=zaM x' k:=by rw[h]
@[congr] theorem zXJ{z:List AV}{p:List (Nat×Nat)}{x x':List (Nat×AV)}(h:x=x'):zar z p x k=zar z p x' k:=by rw[h]
@[congr] theorem zXI{e:Nat}{z:List AV}{l:Nat}{x x':List (Nat×AV)}(h:x=x'):zau e z l x k=zau e z l x' k:=by rw[h]
@[congr] theorem zY3{b:Nat}{z:List AV}{l l' c c':AV}(h:l=l')(hc:c=c')(hH:H=H'):za9 b z l c H K=za9 b z l' c' H' K:=by rw[h,hc,hH]
@[congr] theorem zXt{e s b:Nat}{x x' y y':AV}(h:x=x')(hy:y=y')(hH:H=H'):zax e s b x y H K=zax e s b x' y' H' K:=by rw[h,hy,hH]
@[congr] theorem zXq{e s b:Nat}{x x':AV}{y y':List (List AV)}(h:x=x')(hy:y=y')(hH:H=H'):zaZ e s b x y H K=zaZ e s b x' y' H' K:=by rw[h,hy,hH]
@[congr] theorem zZX{x x':AV}{q:List (List AV)→Prop}(h:x=x'):za6 x q=za6 x' q:=by rw[h]
@[congr] theorem zXn{P:Program}{f:FuncId}{x x':List AV}(h:x=x')(hH:H=H'):ACalls P f x H K=ACalls P f x' H' K:=by rw[h,hH]
@[congr] theorem zXK{P:Program}{g g':AV}{x x':List AV}(hg:g=g')(h:x=x')(hH:H=H'):aCallV P g x H K=aCallV P g' x' H' K:=by rw[hg,h,hH]
@[congr] theorem zZz{p:(AV→zaa→Prop)→Prop}:zad H p k=zad H p k:=rfl
@[congr] theorem zXo{n:Nat}{r r':AV}(hr:r=r')(hH:H=H'):Out n K r H=Out n K r' H':=by rw[hr,hH]
end
section
variable {H:zaa} {k:AV→Prop}
theorem zb6{p:(AV→Prop)→Prop}(h:∀q:AV→Prop,p q↔∃v,p (λu=>u=v)∧q v):zad H (λK'=>p λv=>K' v H) k=p k:=by unfold zad;rw[eq_iff_iff,h k];simp only[and_true]
@[simp] theorem zZH(x:AV):zad H (λK'=>K' x H) k=k x:=by simp[zad]
theorem zps(g:Bool)(n o:Nat)(cs:List AV)(q:AV→Prop):zbr g n o cs q↔∃v,zbr g n o cs (λu=>u=v)∧q v:=by
 unfold zbr;split
 ·constructor
  ·rintro⟨h1,h2⟩;exact⟨_,⟨h1,rfl⟩,h2⟩
  ·rintro⟨v,⟨h1,rfl⟩,h2⟩;exact⟨h1,h2⟩
 ·split <;> simp
theorem zFP{a:Prop}{p:Prop}{p':AV→Prop}{q:AV→Prop}(h:p↔∃v,p' v∧q v):(a∧p)↔∃v,(a∧p' v)∧q v:=by
 constructor
 ·rintro⟨h1,h2⟩;obtain⟨v,h3,h4⟩:=h.1 h2;exact⟨v,⟨h1,h3⟩,h4⟩
 ·rintro⟨v,⟨h1,h3⟩,h4⟩;exact⟨h1,h.2 ⟨v,h3,h4⟩⟩
@[simp] theorem zZL(g:Bool)(n:Nat)(a:AV):zad H (λK'=>zae g n a H λv=>K' v H) k=zae g n a H k:=zb6 (p:=λq=>zae g n a H q) λq=>by
 unfold zae;split
 ·exact zps _ _ _ _ q
 ·simp
@[simp] theorem zFy(g:Bool)(n id off:Nat):zan g n (.ptr id off) H k=zae g n (.ptr id off) H k:=propext aG
@[simp] theorem zYK(g:Bool)(n:Nat)(cs:List AV):zan g n (.view cs) H k=zae g n (.view cs) H k:=propext aG
@[simp] theorem zZM(g:Bool)(n:Nat)(a:AV):zad H (λK'=>zan g n a H λv=>K' v H) k=zan g n a H k:=zb6 (p:=λq=>zan g n a H q) λq=>by
 unfold zan;split
 ·simp
 unfold zae;split
 ·exact zps _ _ _ _ q
 ·simp
@[simp] theorem zZO(b:Bool)(o:BinOp)(x:AV):zad H (λK'=>zcS b o x λv=>K' v H) k=zcS b o x k:=zb6 (p:=λq=>zcS b o x q) λq=>by
 unfold zcS;refine zFP ?_;split
 ·split <;> simp
 ·split <;> simp
 ·simp
@[simp] theorem zZm:zcS true .neq .nili k=k (.bool false):=by simp[zcS]
@[simp] theorem zZk:zcS true .neq .ifc k=k (.bool true):=by simp[zcS]
@[simp] theorem zZl:zcS true .eql .nili k=k (.bool true):=by simp[zcS]
@[simp] theorem zZj:zcS true .eql .ifc k=k (.bool false):=by simp[zcS]
@[simp] theorem zZP(c a b:AV):zad H (λK'=>zak c a b λv=>K' v H) k=zak c a b k:=zb6 (p:=λq=>zak c a b q) λq=>by unfold zak;split <;> simp
@[simp] theorem zZF(o:Nat)(a:AV):zad H (λK'=>zaf o a λv=>K' v H) k=zaf o a k:=zb6 (p:=λq=>zaf o a q) λq=>by unfold zaf;split <;> simp
@[simp] theorem zZG(g:Bool)(n o:Nat)(a:AV):zad H (λK'=>zd0 g n o a λv=>K' v H) k=zd0 g n o a k:=zb6 (p:=λq=>zd0 g n o a q) λq=>by
 unfold zd0;split
 ·exact zps _ _ _ _ q
 ·simp
@[simp] theorem zZI(n:Nat)(x i:AV):zad H (λK'=>zai n x i λv=>K' v H) k=zai n x i k:=zb6 (p:=λq=>zai n x i q) λq=>by unfold zai;split <;> simp
@[simp] theorem zZJ(x i:AV):zad H (λK'=>zbC x i λv=>K' v H) k=zbC x i k:=zb6 (p:=λq=>zbC x i q) λq=>by
 unfold zbC;split
 ·constructor
  ·rintro⟨h1,h2⟩;exact⟨_,⟨h1,rfl⟩,h2⟩
  ·rintro⟨v,⟨h1,rfl⟩,h2⟩;exact⟨h1,h2⟩
 ·simp
@[simp] theorem zZK(u:Nat)(x:AV):zad H (λK'=>zah u x λv=>K' v H) k=zah u x k:=zb6 (p:=λq=>zah u x q) λq=>by unfold zah;split <;> simp
@[simp] theorem zZR(o:UnOp)(x:AV):zad H (λK'=>aUn o x λv=>K' v H) k=aUn o x k:=zb6 (p:=λq=>aUn o x q) λq=>by unfold aUn;split <;> simp
@[simp] theorem zZB(o:IntKind)(x:AV):zad H (λK'=>zbg o x λv=>K' v H) k=zbg o x k:=zb6 (p:=λq=>zbg o x q) λq=>by unfold zbg;split <;> simp
@[simp] theorem zZD(x:AV):zad H (λK'=>zdZ x λv=>K' v H) k=zdZ x k:=zb6 (p:=λq=>zdZ x q) λq=>by unfold zdZ;split <;> simp
@[simp] theorem zZC(x:AV):zad H (λK'=>zfP x λv=>K' v H) k=zfP x k:=zb6 (p:=λq=>zfP x q) λq=>by
 unfold zfP;split
 ·split <;> simp
 ·simp
 ·simp
@[simp] theorem zZN(x:AV):zad H (λK'=>zaM x λv=>K' v H) k=zaM x k:=zb6 (p:=λq=>zaM x q) λq=>by unfold zaM;split <;> simp
@[simp] theorem zZE(x:AV)(i:Nat):zad H (λK'=>zaI x i λv=>K' v H) k=zaI x i k:=zb6 (p:=λq=>zaI x i q) λq=>by
 unfold zaI;split
 ·split <;> simp
 ·simp
@[simp] theorem zZx(z:List AV)(ps:List (Nat×Nat))(x:List (Nat×AV)):zad H (λK'=>zar z ps x λv=>K' v H) k=zar z ps x k:=zb6 (p:=λq=>zar z ps x q) λq=>by unfold zar;split <;> simp
@[simp] theorem zZy(e:Nat)(z:List AV)(l:Nat)(x:List (Nat×AV)):zad H (λK'=>zau e z l x λv=>K' v H) k=zau e z l x k:=zb6 (p:=λq=>zau e z l x q) λq=>by
 unfold zau;split
 ·split <;> simp
 ·simp
@[simp] theorem zZw(o:BinOp)(b:Bool)(x y:AV):zad H (λK'=>zab o b x y λv=>K' v H) k=zab o b x y k:=zb6 (p:=λq=>zab o b x y q) λq=>by unfold zab;split <;> simp
@[simp] theorem zZA(f:Nat)(x:List AV):zad H (λK'=>zci f x λv=>K' v H) k=zci f x k:=zb6 (p:=λq=>zci f x q) λq=>by
 unfold zci;constructor
 ·rintro⟨h1,h2⟩;exact⟨_,⟨h1,rfl⟩,h2⟩
 ·rintro⟨v,⟨h1,rfl⟩,h2⟩;exact⟨h1,h2⟩
end
@[simp] theorem zHd(A l:zaa):(A++l)[A.length]?=l[0]?:=by rw[List.getElem?_append_right (aa _)];simp
@[simp] theorem zHe(A l:zaa)(k:Nat):(A++l)[A.length+k]?=l[k]?:=by rw[List.getElem?_append_right (by omega)];congr 1;omega
@[simp] theorem zI2(A l:zaa)(x:AB):(A++l).set A.length x=A++l.set 0 x:=by rw[ai _ _ (aa _)];simp
@[simp] theorem zy8(A l:zaa)(k:Nat)(x:AB):(A++l).set (A.length+k) x=A++l.set k x:=by rw[ai _ _ (by omega)];congr 2;omega
@[simp] theorem yau(A l:zaa)(i:Nat)(y:AB):(A.set i y++l)[A.length]?=l[0]?:=by have:=zHd (A.set i y) l;rwa [cc]at this
@[simp] theorem yav(A l:zaa)(i:Nat)(y:AB)(k:Nat):(A.set i y++l)[A.length+k]?=l[k]?:=by have:=zHe (A.set i y) l k;rwa [cc]at this
@[simp] theorem yaU(A l:zaa)(i:Nat)(x y:AB):(A.set i y++l).set A.length x=A.set i y++l.set 0 x:=by have:=zI2 (A.set i y) l x;rwa [cc]at this
@[simp] theorem yaV(A l:zaa)(i:Nat)(y:AB)(k:Nat)(x:AB):(A.set i y++l).set (A.length+k) x=A.set i y++l.set k x:=by have:=zy8 (A.set i y) l k x;rwa [cc]at this
theorem zcB{H J:zaa}{id:Nat}{b:AB}(h:H[id]?=some b):(H++J)[id]?=some b:=by rw[List.getElem?_append_left (List.getElem?_eq_some_iff.1 h).1];exact h
theorem zf1{H:zaa}{id:Nat}{b:AB}(h:H[id]?=some b):id<H.length:=(List.getElem?_eq_some_iff.1 h).1
theorem zgO{H J:zaa}{id:Nat}{b:AB}(x:AB)(h:H[id]?=some b):(H++J).set id x=H.set id x++J:=a6 _ _ (zf1 h)
theorem zem{H:zaa}{id:Nat}{b:AB}(x:AB)(h:H[id]?=some b):(H.set id x)[id]?=some x:=List.getElem?_set_self (zf1 h)

theorem zaz{n:Int}(h1:-9223372036854775808≤n)(h2:n≤9223372036854775807):IntKind.i64.wrap n=n:=IntWalk.i64_in n ⟨h1,h2⟩

theorem HSc.set{H:zaa}{id:Nat}{b:AB}(h:HSc H)(hb:b.sc H.length=true):HSc (H.set id b):=by
 intro x hx;rw[cc];rcases bA hx with h1|h1
 ·exact h x h1
 ·rw[h1];exact hb
theorem zb7{n m:Nat}(h:n≤m):∀{a:AV},a.sc n=true→a.sc m=true:=by
 have hB:∀{a:AV},a.scB n=true→a.scB m=true:=by
  intro a ha;cases a with
  |sl es t=>cases t <;> simp_all [AV.scB];omega
  |_=>simp_all [AV.scB] <;> omega
 have hA:∀{a:AV},a.scA n=true→a.scA m=true:=by
  intro a ha;cases a with
  |fn f caps=>simp only[AV.scA,am]at ha ⊢;exactλx hx=>hB (ha x hx)
  |_=>simp only[AV.scA]at ha ⊢;exact hB ha
 have hV:∀{a:AV},a.scV n=true→a.scV m=true:=by
  intro a ha;cases a with
  |agg caps=>simp only[AV.scV,am]at ha ⊢;exactλx hx=>hA (ha x hx)
  |_=>simp only[AV.scV]at ha ⊢;exact hA ha
 intro a ha;cases a with
 |tup caps=>simp only[AV.sc,am]at ha ⊢;exactλx hx=>hV (ha x hx)
 |_=>simp only[AV.sc]at ha ⊢;exact hV ha
theorem Back.here{n0:Nat}{Inv:List AV→zaa→Prop}{F:List AV}{H:zaa}(hn:n0≤H.length)(hsc:HSc H)(hs:F.all (AV.sc H.length)=true)(h:Inv F H):Back n0 Inv F H:=by have:=Back.same (J:=[]) hn hsc hs h;simpa using this
theorem zgf{n m:Nat}(h:n≤m){a:AV}(ha:a.scA n=true):a.scA m=true:=by
 cases a with
 |agg cs=>rfl
 |tup vs=>rfl
 |fn f caps=>exact zb7 h (a:=.fn f caps) ha
 |sl es t=>exact zb7 h (a:=.sl es t) ha
 |ptr i o=>exact zb7 h (a:=.ptr i o) ha
 |ms i o l c=>exact zb7 h (a:=.ms i o l c) ha
 |ov i n=>exact zb7 h (a:=.ov i n) ha
 |vp i n o=>exact zb7 h (a:=.vp i n o) ha
 |os i n l e=>exact zb7 h (a:=.os i n l e) ha
 |map i=>exact zb7 h (a:=.map i) ha
 |_=>rfl
theorem zy3{n m:Nat}(h:n≤m){a:AV}(ha:a.scV n=true):a.scV m=true:=by
 cases a with
 |tup vs=>rfl
 |agg cs=>exact zb7 h (a:=.agg cs) ha
 |fn f caps=>exact zb7 h (a:=.fn f caps) ha
 |sl es t=>exact zb7 h (a:=.sl es t) ha
 |ptr i o=>exact zb7 h (a:=.ptr i o) ha
 |ms i o l c=>exact zb7 h (a:=.ms i o l c) ha
 |ov i n=>exact zb7 h (a:=.ov i n) ha
 |vp i n o=>exact zb7 h (a:=.vp i n o) ha
 |os i n l e=>exact zb7 h (a:=.os i n l e) ha
 |map i=>exact zb7 h (a:=.map i) ha
 |_=>rfl
theorem zFc{n m:Nat}(h:n≤m){b:AB}(hb:b.sc n=true):b.sc m=true:=by
 cases b with
 |cells cs=>simp only[AB.sc,am]at hb ⊢;exactλx hx=>zgf h (hb x hx)
 |perm e s n=>rfl
 |gap=>rfl
 |dead=>rfl
 |nodr=>rfl
 |fact φ=>rfl
 |frz e s n=>rfl
 |map kvs=>simp only[AB.sc,am]at hb ⊢;exactλx hx=>zy3 h (hb x hx)
 |mapP kvs=>simp only[AB.sc,am]at hb ⊢;exactλx hx=>zy3 h (hb x hx)
 |bld t cs=>simp only[AB.sc,am]at hb ⊢;exactλx hx=>zgf h (hb x hx)
 |vec e s n cs=>simp only[AB.sc,am]at hb ⊢;exactλx hx=>zgf h (hb x hx)
theorem HSc.append{A J:zaa}(hA:HSc A)(hJ:J.all (AB.sc (A.length+J.length))=true):HSc (A++J):=by
 intro x hx;rw[ao];rcases aP.1 hx with h1|h1
 ·exact zFc (by omega) (hA x h1)
 ·exact am.1 hJ x h1
end

inductive VT where
 |mk (kind num:Int) (kids:List VT)

mutual
def VT.cs:VT→List AV
 |.mk k n ks=>[.int .i64 k,.int .i64 n,.sl (VT.css ks) .none]
def VT.css:List VT→List (List AV)
 |[]=>[]
 |v::vs=>VT.cs v::VT.css vs
end
mutual
def VT.nodes:VT→Nat
 |.mk _ _ ks=>VT.nodesL ks+1
def VT.nodesL:List VT→Nat
 |[]=>0
 |v::vs=>VT.nodes v+VT.nodesL vs
end
theorem VT.css_map:∀ ks:List VT,VT.css ks=ks.map VT.cs
 |[]=>rfl
 |v::vs=>by simp[VT.css,VT.css_map vs]
theorem VT.nodes_pos:∀ v:VT,0<v.nodes
 |.mk _ _ _=>by simp[VT.nodes]
theorem VT.nodesL_app:∀ (a b:List VT),VT.nodesL (a++b)=VT.nodesL a+VT.nodesL b
 |[],b=>by simp[VT.nodesL]
 |v::a,b=>by simp[VT.nodesL,VT.nodesL_app a b];omega
@[simp] theorem VT.cs_len(v:VT):v.cs.length=3:=by cases v;simp[VT.cs]
@[simp] theorem VT.css_len(ks:List VT):(VT.css ks).length=ks.length:=by simp[VT.css_map]
@[simp] theorem VT.cs_take(v:VT):v.cs.take 3=v.cs:=by cases v;simp[VT.cs]
@[simp] theorem VT.cs_known(v:VT):v.cs.all AV.known=true:=by cases v;simp[VT.cs,AV.known]
@[simp] theorem VT.cs_scA(v:VT)(n:Nat):v.cs.all (AV.scA n)=true:=by cases v;simp[VT.cs,AV.scA,AV.scB]
@[simp] theorem VT.css_at{ks:List VT}{i:Nat}(h:i<ks.length):(VT.css ks)[i]?.getD []=(ks[i]).cs:=by simp[VT.css_map,h]
@[simp] theorem VT.css_get{ks:List VT}{i:Nat}(h:i<(VT.css ks).length):(VT.css ks)[i]=(ks[i]'(by simpa using h)).cs:=by simp[VT.css_map]
theorem VT.kid_lt{k n:Int}{ks:List VT}{i:Nat}(h:i<ks.length):(ks[i]).nodes<(VT.mk k n ks).nodes:=by
 have h1:VT.nodesL ks=VT.nodesL (ks.take i)+((ks[i]).nodes+VT.nodesL (ks.drop (i+1))):=by
  conv=>lhs;rw[←aN i ks,VT.nodesL_app,af h]
  rw[VT.nodesL]
 simp only[VT.nodes];omega
theorem VT.len_le:∀ ks:List VT,ks.length≤VT.nodesL ks
 |[]=>by simp
 |v::vs=>by have:=VT.len_le vs;have:=v.nodes_pos;simp[VT.nodesL];omega
theorem VT.nodesL_take{ks:List VT}{i:Nat}(h:i<ks.length):VT.nodesL (ks.take (i+1))=VT.nodesL (ks.take i)+(ks[i]).nodes:=by rw[aj h,VT.nodesL_app];simp[VT.nodesL]
theorem VT.nodesL_take_le(ks:List VT)(i:Nat):VT.nodesL (ks.take i)≤VT.nodesL ks:=by
 conv=>rhs;rw[←aN i ks,VT.nodesL_app]
 omega
def VT.leaf(k:Int):Bool:=k == 6 || k == 7 || k == 8
mutual
def VT.size:VT→Nat
 |.mk k _ ks=>if VT.leaf k=true then 1 else VT.sizeL ks+1
def VT.sizeL:List VT→Nat
 |[]=>0
 |v::vs=>VT.size v+VT.sizeL vs
end
mutual
theorem VT.size_le:∀ v:VT,v.size≤v.nodes
 |.mk k n ks=>by have:=VT.sizeL_le ks;simp only[VT.size,VT.nodes];split <;> omega
theorem VT.sizeL_le:∀ ks:List VT,VT.sizeL ks≤VT.nodesL ks
 |[]=>by simp[VT.sizeL,VT.nodesL]
 |v::vs=>by have:=VT.size_le v;have:=VT.sizeL_le vs;simp only[VT.sizeL,VT.nodesL];omega
end
/- The guard on a value's nodes: what is left of a number behind it, and whether it was enough. -/
mutual
def VT.val:VT→Int→Bool × Int
 |.mk _ _ ks,n=>if n-1<0 then (false,n-1) else VT.valL ks (n-1)
def VT.valL:List VT→Int→Bool × Int
 |[],n=>(true,n)
 | v::vs,n=>match VT.val v n with
  |(true,m)=>VT.valL vs m
  |(false,m)=>(false,m)
end
mutual
theorem VT.val_spec:∀ (v:VT) (n:Int),0≤n→((VT.val v n).1=true→(VT.val v n).2=n-v.nodes∧0≤(VT.val v n).2)∧-1≤(VT.val v n).2∧(VT.val v n).2≤n
 |.mk k m ks,n,h=>by
  simp only[VT.val,VT.nodes];split
  ·simp;omega
  ·have:=VT.valL_spec ks (n-1) (by omega);refine⟨λht=>?_,by omega,by omega⟩;have:=this.1 ht;omega
theorem VT.valL_spec:∀ (ks:List VT) (n:Int),0≤n→((VT.valL ks n).1=true→(VT.valL ks n).2=n-VT.nodesL ks∧0≤(VT.valL ks n).2)∧-1≤(VT.valL ks n).2∧(VT.valL ks n).2≤n
 |[],n,h=>by simp[VT.valL,VT.nodesL];omega
 |v::vs,n,h=>by
  have h1:=VT.val_spec v n h;simp only[VT.valL,VT.nodesL];split
  ·rename_i m hm;rw[hm]at h1;have h2:=h1.1 rfl;simp only at h2;have h3:=VT.valL_spec vs m h2.2;refine⟨λht=>?_,by omega,by omega⟩;have:=h3.1 ht;omega
  ·rename_i m hm;rw[hm]at h1;simp only at h1;exact⟨by simp,by omega,by omega⟩
end
def icmp(a b:Int):Int:=if a<b then -1 else if b<a then 1 else 0
def cor(a b:Int):Int:=if a=0 then b else a
theorem zpM(a b:Int):icmp a b=- icmp b a:=by unfold icmp;split <;> split <;> first|omega|(split <;> omega)
theorem zHk(a b:Int):icmp a b=0↔a=b:=by unfold icmp;split <;> first|omega|(split <;> omega)
theorem zpN(a b:Int):icmp a b=-1∨icmp a b=0∨icmp a b=1:=by unfold icmp;split <;> first|omega|(split <;> omega)
theorem zjI{a a' b b':Int}(h:a=- b)(h':a'=- b'):cor a a'=- cor b b':=by unfold cor;split <;> split <;> omega
theorem zpt(a b:Int):cor a b=0↔a=0∧b=0:=by unfold cor;split <;> omega
theorem zjJ{a b:Int}(h:a=-1∨a=0∨a=1)(h':b=-1∨b=0∨b=1):cor a b=-1∨cor a b=0∨cor a b=1:=by unfold cor;split <;> omega
theorem zwF{a b:Int}(h:a≠0):cor a b=a:=by simp[cor,h]
theorem zwG{a b:Int}(h:a=0):cor a b=b:=by simp[cor,h]
def Tri(a b c:Int):Prop:=a≤0→b≤0→c≤0∧(c=0→a=0∧b=0)
theorem Tri.icmp(x y z:Int):Tri (icmp x y) (icmp y z) (icmp x z):=by unfold Tri Go.Proofs.YtaifokkaaahdoaaGreatDoor.icmp;intro h1 h2;split at h1 <;> split at h2 <;> (try split at h1) <;> (try split at h2) <;> split <;> (try split) <;> omega
theorem Tri.cor{a b c a' b' c':Int}(h:Tri a b c)(h':Tri a' b' c'):Tri (cor a a') (cor b b') (cor c c'):=by unfold Tri Go.Proofs.YtaifokkaaahdoaaGreatDoor.cor at *;intro h1 h2;by_cases ha:a=0 <;> by_cases hb:b=0 <;> by_cases hc:c=0 <;> simp only[ha,hb,hc,cO,aT]at*<;> first|omega|(simp_all;done)|(have:=h' h1 h2;simp_all;omega)
mutual
def VT.cmp:VT→VT→Int
 |.mk k n ks,.mk k' n' ks'=>cor (icmp k k') (cor (icmp n n') (cor (icmp ks.length ks'.length) (VT.cmpL ks ks')))
def VT.cmpL:List VT→List VT→Int
 |v::vs,w::ws=>cor (VT.cmp v w) (VT.cmpL vs ws)
 |[],[]=>0
 |[],_::_=>-1
 |_::_,[]=>1
end
mutual
def VT.same:VT→VT→Bool
 |.mk k n ks,.mk k' n' ks'=>k == k' && n == n' && VT.sameL ks ks'
def VT.sameL:List VT→List VT→Bool
 |v::vs,w::ws=>VT.same v w && VT.sameL vs ws
 |[],[]=>true
 |[],_::_=>false
 |_::_,[]=>false
end
mutual
theorem VT.cmp_anti:∀ v w:VT,VT.cmp v w=- VT.cmp w v
 |.mk k n ks,.mk k' n' ks'=>by simp only[VT.cmp];exact zjI (zpM _ _) (zjI (zpM _ _) (zjI (zpM _ _) (VT.cmpL_anti ks ks')))
theorem VT.cmpL_anti:∀ v w:List VT,VT.cmpL v w=- VT.cmpL w v
 |v::vs,w::ws=>by simp only[VT.cmpL];exact zjI (VT.cmp_anti v w) (VT.cmpL_anti vs ws)
 |[],[]=>by simp[VT.cmpL]
 |[],_::_=>by simp[VT.cmpL]
 |_::_,[]=>by simp[VT.cmpL]
end
mutual
theorem VT.cmp_rng:∀ v w:VT,VT.cmp v w=-1∨VT.cmp v w=0∨VT.cmp v w=1
 |.mk k n ks,.mk k' n' ks'=>by simp only[VT.cmp];exact zjJ (zpN _ _) (zjJ (zpN _ _) (zjJ (zpN _ _) (VT.cmpL_rng ks ks')))
theorem VT.cmpL_rng:∀ v w:List VT,VT.cmpL v w=-1∨VT.cmpL v w=0∨VT.cmpL v w=1
 |v::vs,w::ws=>by simp only[VT.cmpL];exact zjJ (VT.cmp_rng v w) (VT.cmpL_rng vs ws)
 |[],[]=>by simp[VT.cmpL]
 |[],_::_=>by simp[VT.cmpL]
 |_::_,[]=>by simp[VT.cmpL]
end
theorem VT.sameL_len:∀ v w:List VT,VT.sameL v w=true→v.length=w.length
 |v::vs,w::ws=>by simp only[VT.sameL,ac,List.length_cons];intro h;have:=VT.sameL_len vs ws h.2;omega
 |[],[]=>by simp
 |[],_::_=>by simp[VT.sameL]
 |_::_,[]=>by simp[VT.sameL]
mutual
theorem VT.cmp_zero:∀ v w:VT,VT.cmp v w=0↔VT.same v w=true
 |.mk k n ks,.mk k' n' ks'=>by
  have h:=VT.cmpL_zero ks ks';simp only[VT.cmp,VT.same,zpt,zHk,ac,aY,and_assoc,h];constructor
  ·rintro⟨a,b,_,c⟩;exact⟨a,b,c⟩
  ·rintro⟨a,b,c⟩;exact⟨a,b,by have:=VT.sameL_len _ _ c;omega,c⟩
theorem VT.cmpL_zero:∀ v w:List VT,VT.cmpL v w=0↔VT.sameL v w=true
 |v::vs,w::ws=>by simp only[VT.cmpL,VT.sameL,zpt,ac,VT.cmp_zero v w,VT.cmpL_zero vs ws]
 |[],[]=>by simp[VT.cmpL,VT.sameL]
 |[],_::_=>by simp[VT.cmpL,VT.sameL]
 |_::_,[]=>by simp[VT.cmpL,VT.sameL]
end
mutual
theorem VT.cmp_tri:∀ v w x:VT,Tri (VT.cmp v w) (VT.cmp w x) (VT.cmp v x)
 |.mk k n ks,.mk k' n' ks',.mk k'' n'' ks''=>by simp only[VT.cmp];exact(Tri.icmp _ _ _).cor ((Tri.icmp _ _ _).cor ((Tri.icmp _ _ _).cor (VT.cmpL_tri ks ks' ks'')))
theorem VT.cmpL_tri:∀ v w x:List VT,Tri (VT.cmpL v w) (VT.cmpL w x) (VT.cmpL v x)
 |v::vs,w::ws,x::xs=>by simp only[VT.cmpL];exact(VT.cmp_tri v w x).cor (VT.cmpL_tri vs ws xs)
 |[],[],[]=>by simp[VT.cmpL,Tri]
 |[],[],_::_=>by simp[VT.cmpL,Tri]
 |[],_::_,[]=>by simp[VT.cmpL,Tri]
 |[],_::_,_::_=>by simp[VT.cmpL,Tri]
 |_::_,[],[]=>by simp[VT.cmpL,Tri]
 |_::_,[],_::_=>by simp[VT.cmpL,Tri]
 |_::_,_::_,[]=>by simp[VT.cmpL,Tri]
end
theorem VT.cmpL_drop{a b:List VT}{i:Nat}(ha:i<a.length)(hb:i<b.length):VT.cmpL (a.drop i) (b.drop i)=cor (VT.cmp a[i] b[i]) (VT.cmpL (a.drop (i+1)) (b.drop (i+1))):=by rw[af ha,af hb,VT.cmpL]
theorem VT.sameL_drop{a b:List VT}{i:Nat}(ha:i<a.length)(hb:i<b.length):VT.sameL (a.drop i) (b.drop i)=(VT.same a[i] b[i] && VT.sameL (a.drop (i+1)) (b.drop (i+1))):=by rw[af ha,af hb,VT.sameL]
theorem Out.tup{H J:zaa}{K:AV→zaa→Prop}{asx bs:List AV}(hs:HSc H)(h:K (.tup bs) H)(hw:All2 (λa b=>WkV a b∧b.isV=true∧b.scV H.length=true) asx bs):Out H.length K (.tup asx) (H++J):=
 ⟨_,H,J,rfl,aa _,hs,.tup (hw.mono λ_ _ h=>.wk h.1 h.2.1 h.2.2),h⟩
theorem Out.tup0{H:zaa}{K:AV→zaa→Prop}{asx bs:List AV}(hs:HSc H)(h:K (.tup bs) H)(hw:All2 (λa b=>WkV a b∧b.isV=true∧b.scV H.length=true) asx bs):Out H.length K (.tup asx) H:=by have:=Out.tup (J:=[]) hs h hw;simpa using this
theorem Out.one{H J:zaa}{K:AV→zaa→Prop}{a b:AV}(hs:HSc H)(hw:WkV a b)(hv:b.isV=true)(hc:b.scV H.length=true)(h:K b H):Out H.length K a (H++J):=
 ⟨_,H,J,rfl,aa _,hs,.one (.wk hw hv hc),h⟩
theorem Out.one0{H:zaa}{K:AV→zaa→Prop}{a b:AV}(hs:HSc H)(hw:WkV a b)(hv:b.isV=true)(hc:b.scV H.length=true)(h:K b H):Out H.length K a H:=by have:=Out.one (J:=[]) hs hw hv hc h;simpa using this
@[simp] theorem yay(k:IntKind)(n:Int):(AV.int k n).known=true:=rfl
@[simp] theorem yaF(s:List UInt8):(AV.str s).known=true:=rfl
@[simp] theorem yaw(b:Bool):(AV.bool b).known=true:=rfl
@[simp] theorem yaE(es:List (List AV))(t:Tok):(AV.sl es t).known=true:=rfl
@[simp] theorem zdc:AV.snil.known=true:=rfl
@[simp] theorem yaB:AV.nilp.known=true:=rfl
@[simp] theorem yaD(i o:Nat):(AV.ptr i o).known=true:=rfl
@[simp] theorem yaA(i o l c:Nat):(AV.ms i o l c).known=true:=rfl
@[simp] theorem yax(f:Nat)(c:List AV):(AV.fn f c).known=true:=rfl
@[simp] theorem yaz(i:Nat):(AV.map i).known=true:=rfl
@[simp] theorem yaG(cs:List AV):(AV.view cs).known=true:=rfl
section
variable {H:zaa} {K:AV→zaa→Prop}
@[simp] theorem zXE(i o:Nat):zaw (.ptr i o) H K=K (.ptr H.length 0) (H++[.cells [.ptr i o]]):=propext aG
@[simp] theorem zXC(i o l c:Nat):zaw (.ms i o l c) H K=K (.ptr H.length 0) (H++[.cells [.ms i o l c]]):=propext aG
@[simp] theorem zXB(i:Nat):zaw (.map i) H K=K (.ptr H.length 0) (H++[.cells [.map i]]):=propext aG
@[simp] theorem zXz(f:Nat)(c:List AV):zaw (.fn f c) H K=K (.ptr H.length 0) (H++[.cells [.fn f c]]):=propext aG
@[simp] theorem zXG:zaw .snil H K=K (.ptr H.length 0) (H++[.cells [.snil]]):=propext aG
end
theorem zaC{H:zaa}{p:zaa→(AV→zaa→Prop)→Prop}{k:AV→Prop}(r:AV)(h:∀J:zaa,p (H++J) λv H'=>v=r∧H'=H++J)(hk:k r):zaF H p k:=⟨r,h,hk⟩
@[simp] theorem yaL(m:Nat)(k:IntKind)(n:Int):(AV.int k n).scA m=true:=rfl
@[simp] theorem yaT(m:Nat)(s:List UInt8):(AV.str s).scA m=true:=rfl
@[simp] theorem yaK(m:Nat)(b:Bool):(AV.bool b).scA m=true:=rfl
@[simp] theorem yaR(m:Nat)(es:List (List AV)):(AV.sl es .none).scA m=true:=rfl
@[simp] theorem yaS(m:Nat):AV.snil.scA m=true:=rfl
@[simp] theorem yaQ(m i o:Nat):(AV.ptr i o).scA m=decide (i<m):=rfl
@[simp] theorem yaN(m i o l c:Nat):(AV.ms i o l c).scA m=decide (i<m):=rfl
@[simp] theorem yaM(m i:Nat):(AV.map i).scA m=decide (i<m):=rfl
@[simp] theorem yaP(m:Nat)(es:List (List AV))(i:Nat):(AV.sl es (.own i)).scA m=decide (i<m):=rfl
theorem WkV.rfl'{a:AV}:WkV a a:=.atom (.refl a)
theorem zbN{n:Nat}{a:AV}(h1:a.isV=true)(h2:a.scV n=true):WkV a a∧a.isV=true∧a.scV n=true:=⟨.rfl',h1,h2⟩
theorem slV{n:Nat}{es:List (List AV)}{t:Tok}:WkV (.sl es t) (.sl es .none)∧(AV.sl es .none).isV=true∧(AV.sl es .none).scV n=true:=⟨.atom (.sl es t),rfl,rfl⟩
theorem zhu{n:Nat}:WkV .snil (.sl [] .none)∧(AV.sl [] .none).isV=true∧(AV.sl [] .none).scV n=true:=⟨.atom .snil,rfl,rfl⟩
theorem zd3{x:Option AV}{d:Nat}{p:Nat→Prop}{p':AV→Nat→Prop}{q:AV→Prop}(hp:∀n,p n↔∃v,p' v n∧q v):zbA x d p↔∃v,zbA x d (p' v)∧q v:=by
 unfold zbA;split
 ·exact hp d
 ·rename_i n;constructor
  ·rintro⟨h1,h2⟩;obtain⟨v,h3,h4⟩:=(hp _).1 h2;exact⟨v,⟨h1,h3⟩,h4⟩
  ·rintro⟨v,⟨h1,h3⟩,h4⟩;exact⟨h1,(hp _).2 ⟨v,h3,h4⟩⟩
 ·simp
theorem zih{a:Prop}{q:AV→Prop}{x:AV}:(a∧q x)↔∃v,(a∧x=v)∧q v:=by
 constructor
 ·rintro⟨h1,h2⟩;exact⟨_,⟨h1,rfl⟩,h2⟩
 ·rintro⟨v,⟨h1,rfl⟩,h2⟩;exact⟨h1,h2⟩
@[simp] theorem zZQ{H:zaa}{k:AV→Prop}(u e:Nat)(x:AV)(lo hi:Option AV):zad H (λK'=>za1 u e x lo hi λv=>K' v H) k=za1 u e x lo hi k:=zb6 (p:=λq=>za1 u e x lo hi q) λq=>by
 unfold za1;split
 ·exact zd3 λh=>zd3 λl=>zih
 ·exact zd3 λh=>zd3 λl=>zih
 ·exact zd3 λh=>zd3 λl=>zih
 ·exact zd3 λh=>zd3 λl=>zih
 ·exact zd3 λh=>zd3 λl=>zih
 ·simp
theorem Out.at{n:Nat}{H2 J H':zaa}{K:AV→zaa→Prop}{a b:AV}(he:H'=H2++J)(hn:n≤H2.length)(hs:HSc H2)(hw:WkV a b)(hv:b.isV=true)(hc:b.scV H2.length=true)(h:K b H2):Out n K a H':=by subst he;exact⟨_,H2,J,rfl,hn,hs,.one (.wk hw hv hc),h⟩
theorem Out.bool{n:Nat}{H2 J H':zaa}{K:AV→zaa→Prop}{b:Bool}(he:H'=H2++J)(hn:n≤H2.length)(hs:HSc H2)(h:K (.bool b) H2):Out n K (.bool b) H':=Out.at he hn hs .rfl' rfl rfl h
theorem Out.int{n:Nat}{H2 J H':zaa}{K:AV→zaa→Prop}{k:IntKind}{b:Int}(he:H'=H2++J)(hn:n≤H2.length)(hs:HSc H2)(h:K (.int k b) H2):Out n K (.int k b) H':=Out.at he hn hs .rfl' rfl rfl h
theorem Back.at{n0:Nat}{Inv:List AV→zaa→Prop}{F:List AV}{H2 J H':zaa}(he:H'=H2++J)(hn:n0≤H2.length)(hsc:HSc H2)(hs:F.all (AV.sc H2.length)=true)(h:Inv F H2):Back n0 Inv F H':=by subst he;exact Back.same hn hsc hs h
theorem HSc.snoc{H:zaa}{b:AB}(h:HSc H)(hb:b.sc (H.length+1)=true):HSc (H++[b]):=h.append (by simpa using hb)
theorem zG1{B:Nat}{w w':World}{G G':Gh}(h:Ext B w G w' G'):G.μ.length≤G'.μ.length:=by
 by_cases h0:G.μ.length=0
 ·omega
 ·obtain⟨g,h1,_⟩:=h.ids (G.μ.length-1) _ (List.getElem?_eq_getElem (by omega));have:=(List.getElem?_eq_some_iff.1 h1).1;omega
theorem ACalls.mono'{P:Program}{f:FuncId}{args:List AV}{H:zaa}{K K':AV→zaa→Prop}(h:ACalls P f args H K)(hk:∀r H',HSc H'→H.length≤H'.length→K r H'→K' r H'):ACalls P f args H K':=
 λB w G vs hH hv=>(h B w G vs hH hv).mono λ_ _ ⟨v,r,H',G',h1,h2,h3,h4,h5⟩=>⟨v,r,H',G',h1,h2,h3,h4,hk _ _ h3.sc (by have:=zG1 h2;rw[hH.len,h3.len]at this;exact this) h5⟩
theorem aCallV.mono'{P:Program}{g:AV}{args:List AV}{H:zaa}{K K':AV→zaa→Prop}(h:aCallV P g args H K)(hk:∀r H',HSc H'→H.length≤H'.length→K r H'→K' r H'):aCallV P g args H K':=by
 unfold aCallV at *;split at h
 ·split at h
  ·exact ACalls.mono' h hk
  ·exact h.elim
 ·exact h.elim
section
open Go.RowKit
theorem HRel.reCell{B:Nat}{w:World}{G:Gh}{H:zaa}(h:HRel B w G H){id:Nat}{cs cs':List AV}(hid:H[id]?=some (.cells cs))(hc:∀vs:List Value,All2 (ARel w G) vs cs→All2 (ARel w G) vs cs'):HRel B w G (H.set id (.cells cs')):=by
 refine⟨by simp[h.len],?_,h.dist,h.fresh,h.lt,h.base⟩;intro i ab gi h1 h2;by_cases hi:i=id
 ·subst hi;rw[List.getElem?_set_self (List.getElem?_eq_some_iff.1 hid).1]at h1;cases h1;have hok:=h.ok i _ _ hid h2;cases gi with
  |blk b=>obtain⟨k1,k2,vs,e,k3,k4⟩:=hok;exact⟨k1,k2,vs,e,k3,hc _ k4⟩
  |own v s n=>exact hok.elim
  |gap=>exact hok.elim
 ·rw[List.getElem?_set_ne (λh=>hi h.symm)]at h1;exact h.ok i ab gi h1 h2
theorem HRel.ownCell{B:Nat}{w:World}{G:Gh}{H:zaa}(h:HRel B w G H){id j:Nat}{cs:List AV}(e size:Nat)(hid:H[id]?=some (.cells cs))(hj:cs[j]?=some .snil):
  ∃G',Ext B w G w G'∧HRel B w G' (H.set id (.cells (cs.set j (.sl [] (.own H.length))))++[.perm e size 0]):=by
 obtain⟨hE,hH'⟩:=h.newOwn e size;refine⟨_,hE,?_⟩;have hlt:=(List.getElem?_eq_some_iff.1 hid).1;have:=hH'.reCell (id:=id) (cs:=cs) (cs':=cs.set j (.sl [] (.own H.length))) (by rw[List.getElem?_append_left hlt];exact hid) (λvs hvs=>by
  obtain⟨v,h1,h2⟩:=All2.get hvs hj;have h2:v=.slice none 0 0:=h2;subst h2;have hset:vs=vs.set j (.slice none 0 0):=by
   apply aI;intro k;by_cases hk:k=j
   ·subst hk;rw[List.getElem?_set_self (List.getElem?_eq_some_iff.1 h1).1];exact h1
   ·rw[List.getElem?_set_ne (λh=>hk h.symm)]
  rw[hset];refine All2.set j hvs ?_;refine⟨.slE _ _,.slice none 0 0,size,0,?_,aa _,λ_=>⟨rfl,by simp⟩⟩;rw[←h.len];simp)
 rwa [a6 _ _ hlt]at this
theorem ALoop.ownC{P:Program}{c:Code}{Q:AExit→List AV→zaa→Prop}{F:List AV}{H:zaa}{cs:List AV}(id j e size:Nat)(hid:H[id]?=some (.cells cs))(hj:cs[j]?=some .snil)(h:ALoop P c Q F (H.set id (.cells (cs.set j (.sl [] (.own H.length))))++[.perm e size 0])):ALoop P c Q F H:=by
 intro B w G a hH hF hd;obtain⟨G',hE,hH'⟩:=hH.ownCell e size hid hj;refine wp_mono (h B w G' a hH' (hF.ext hE) hd) λe a' w' hp=>?_;obtain⟨F'',H'',G'',e'',rfl,k1,k2,k3,k4,k5⟩:=hp;exact⟨F'',H'',G'',e'',rfl,hE.trans k1,k2,k3,k4,k5⟩
end
structure Con where
 name:List UInt8
 args:List VT
structure Dat where
 name:List UInt8
 vars:Int
 cons:List Con
structure Cod where
 name:List UInt8
 params:List Int
 capt:List Int
 res:VT
 body:Int
structure CEx where
 op:Int
 num:Int
 vars:List Int
 binds:List (List Int)
 kids:List Int
 ty:VT
structure Cor where
 data:List Dat
 codes:List Cod
 vars:List VT
 exprs:List CEx
def ints(l:List Int):List (List AV):=l.map λn=>[.int .i64 n]
def rows(l:List (List Int)):List (List AV):=l.map λr=>[.sl (ints r) .none]
def Con.cs(c:Con):List AV:=[.str c.name,.sl (VT.css c.args) .none]
def Dat.cs(d:Dat):List AV:=[.str d.name,.int .i64 d.vars,.sl (d.cons.map Con.cs) .none]
def Cod.cs(c:Cod):List AV:=.str c.name::.sl (ints c.params) .none::.sl (ints c.capt) .none::(c.res.cs++[.int .i64 c.body])
def CEx.cs(e:CEx):List AV:=.int .i64 e.op::.int .i64 e.num::.sl (ints e.vars) .none::.sl (rows e.binds) .none::.sl (ints e.kids) .none::e.ty.cs
def Cor.cs(c:Cor):List AV:=[.sl (c.data.map Dat.cs) .none,.sl (c.codes.map Cod.cs) .none,.sl (VT.css c.vars) .none,.sl (c.exprs.map CEx.cs) .none]
@[simp] theorem zfl(l:List Int):(ints l).length=l.length:=by simp[ints]
@[simp] theorem yaJ(l:List (List Int)):(rows l).length=l.length:=by simp[rows]
def VT.kind:VT→Int|.mk k _ _=>k
def VT.num:VT→Int|.mk _ n _=>n
def VT.kids:VT→List VT|.mk _ _ ks=>ks
def zaK(data:List Dat)(vars k n:Int)(len:Nat):Bool:=
 if k == 1 || k == 2 || k == 3 then n == 0 && len == 0
 else if k == 4 then decide (0≤n) && decide (n<vars) && len == 0
 else if k == 5 then decide (0≤n) && (match data[n.toNat]? with|some d=>(len:Int) == d.vars|none=>false)
 else if k == 6 then n == 0 && decide (2≤len) && decide (len≤6)
 else if k == 7 || k == 8 then n == 0 && len == 1
 else if k == 9 then n == 0 && decide (1≤len) && decide (len≤7)
 else false
mutual
def zaG(data:List Dat)(vars:Int):VT→Bool
 |.mk k n asx=>zaK data vars k n asx.length && zaV data vars asx
def zaV(data:List Dat)(vars:Int):List VT→Bool
 |[]=>true
 |t::ts=>zaG data vars t && zaV data vars ts
end
def zaD(data:List Dat)(vars:Int)(t:VT):Bool:=decide (t.nodes≤200) && zaG data vars t
mutual
def subst(args:List VT):VT→VT
 |.mk k n ks=>if k=4∧0≤n∧n<args.length then (args[n.toNat]?).getD (.mk 0 0 []) else .mk k n (zaR args ks)
def zaR(args:List VT):List VT→List VT
 |[]=>[]
 |t::ts=>subst args t::zaR args ts
end
def za7(data:List Dat)(t:VT)(c:Int):Option (List VT):=
 if t.kind=5∧0≤t.num∧0≤c then
  match data[t.num.toNat]? with
  | some d=>if (t.kids.length:Int)=d.vars then
    match d.cons[c.toNat]? with
    | some k=>let l:=k.args.map (subst t.kids)
     if l.all (λx=>decide (x.nodes≤200))=true then some l else none
    |none=>none
   else none
  |none=>none
 else none
abbrev Kt:=AV→zaa→Prop
abbrev Lt:=List AV→zaa→Prop
def ux:Nat→List AV→List AV
 |0,l=>l
 |n+1,l=>.unk::ux n l
@[simp] theorem ya2(m n:Nat)(l:List AV):(ux n l).all (AV.sc m)=l.all (AV.sc m):=by
 induction n with
 |zero=>rfl
 |succ n ih=>rw[ux,List.all_cons,ih];rfl
def rl:Bool→List Nat→List Bool
 |_,[]=>[]
 |b,n::l=>List.replicate n b++rl (!b) l
section
open Go.RowKit
variable {P:Program} {M:Nat→List Bool} {c:Code} {Q:AExit→List AV→zaa→Prop} {H:zaa}
def Rd1(fr:AV→List AV)(bd:AV→zaa→Lt→Prop)(H:zaa)(Inv:Nat→AV→zaa→Prop):Prop:=
 ∀n t0 H',Inv n t0 H'→HSc H'→H.length≤H'.length→(fr t0).all (AV.sc H'.length)=true→∀Kb:Lt,(∀F'' H'',(∃n',n'<n∧Back H.length (λF2 H2=>∃t0,F2=fr t0∧Inv n' t0 H2) F'' H'')→Kb F'' H'')→bd t0 H' Kb
theorem lp1{fr:AV→List AV}{bd:AV→zaa→Lt→Prop}(m:List Bool)(t0:AV)(he:(λt0 H Kb=>awp P M c (zbp m Kb Q) (fr t0) H)=bd)(Inv:Nat→AV→zaa→Prop)(n:Nat)(h0:HSc H→Inv n t0 H)(round:Rd1 fr bd H Inv):ALoop P c Q (fr t0) H:=by subst he;exact zpd (M:=M) m (λn F H=>∃t0,F=fr t0∧Inv n t0 H) n (λhs _=>⟨t0,rfl,h0 hs⟩) (λn F H' ⟨t0,hF,hI⟩ h1 h2 h3=>by subst hF;exact round n t0 H' hI h1 h2 h3 _ (λ_ _ h=>h))
def Rd2(fr:AV→AV→List AV)(bd:AV→AV→zaa→Lt→Prop)(H:zaa)(Inv:Nat→AV→AV→zaa→Prop):Prop:=
 ∀n t0 t1 H',Inv n t0 t1 H'→HSc H'→H.length≤H'.length→(fr t0 t1).all (AV.sc H'.length)=true→∀Kb:Lt,(∀F'' H'',(∃n',n'<n∧Back H.length (λF2 H2=>∃t0 t1,F2=fr t0 t1∧Inv n' t0 t1 H2) F'' H'')→Kb F'' H'')→bd t0 t1 H' Kb
theorem lp2{fr:AV→AV→List AV}{bd:AV→AV→zaa→Lt→Prop}(m:List Bool)(t0 t1:AV)(he:(λt0 t1 H Kb=>awp P M c (zbp m Kb Q) (fr t0 t1) H)=bd)(Inv:Nat→AV→AV→zaa→Prop)(n:Nat)(h0:HSc H→Inv n t0 t1 H)(round:Rd2 fr bd H Inv):ALoop P c Q (fr t0 t1) H:=by subst he;exact zpd (M:=M) m (λn F H=>∃t0 t1,F=fr t0 t1∧Inv n t0 t1 H) n (λhs _=>⟨t0,t1,rfl,h0 hs⟩) (λn F H' ⟨t0,t1,hF,hI⟩ h1 h2 h3=>by subst hF;exact round n t0 t1 H' hI h1 h2 h3 _ (λ_ _ h=>h))
def Rd3(fr:AV→AV→AV→List AV)(bd:AV→AV→AV→zaa→Lt→Prop)(H:zaa)(Inv:Nat→AV→AV→AV→zaa→Prop):Prop:=
 ∀n t0 t1 t2 H',Inv n t0 t1 t2 H'→HSc H'→H.length≤H'.length→(fr t0 t1 t2).all (AV.sc H'.length)=true→∀Kb:Lt,(∀F'' H'',(∃n',n'<n∧Back H.length (λF2 H2=>∃t0 t1 t2,F2=fr t0 t1 t2∧Inv n' t0 t1 t2 H2) F'' H'')→Kb F'' H'')→bd t0 t1 t2 H' Kb
theorem lp3{fr:AV→AV→AV→List AV}{bd:AV→AV→AV→zaa→Lt→Prop}(m:List Bool)(t0 t1 t2:AV)(he:(λt0 t1 t2 H Kb=>awp P M c (zbp m Kb Q) (fr t0 t1 t2) H)=bd)(Inv:Nat→AV→AV→AV→zaa→Prop)(n:Nat)(h0:HSc H→Inv n t0 t1 t2 H)(round:Rd3 fr bd H Inv):ALoop P c Q (fr t0 t1 t2) H:=by subst he;exact zpd (M:=M) m (λn F H=>∃t0 t1 t2,F=fr t0 t1 t2∧Inv n t0 t1 t2 H) n (λhs _=>⟨t0,t1,t2,rfl,h0 hs⟩) (λn F H' ⟨t0,t1,t2,hF,hI⟩ h1 h2 h3=>by subst hF;exact round n t0 t1 t2 H' hI h1 h2 h3 _ (λ_ _ h=>h))
def Lo1(fr:AV→List AV)(bd:AV→zaa→Lt→Prop)(t0:AV)(H:zaa)(G:Prop):Prop:=∀(Inv:Nat→AV→zaa→Prop) (n:Nat) (h0:HSc H→Inv n t0 H) (round:Rd1 fr bd H Inv),G
theorem lq1{P:Program}{c:Code}{Q:AExit→List AV→zaa→Prop}{H:zaa}{fr:AV→List AV}{bd:AV→zaa→Lt→Prop}{t0:AV}(M:Nat→List Bool)(m:List Bool)(he:(λt0 H Kb=>awp P M c (zbp m Kb Q) (fr t0) H)=bd:=by kernel_rfl):Lo1 fr bd t0 H (ALoop P c Q (fr t0) H):=λI n h r=>lp1 (M:=M) m t0 he I n h r
def Lo2(fr:AV→AV→List AV)(bd:AV→AV→zaa→Lt→Prop)(t0 t1:AV)(H:zaa)(G:Prop):Prop:=∀(Inv:Nat→AV→AV→zaa→Prop) (n:Nat) (h0:HSc H→Inv n t0 t1 H) (round:Rd2 fr bd H Inv),G
theorem lq2{P:Program}{c:Code}{Q:AExit→List AV→zaa→Prop}{H:zaa}{fr:AV→AV→List AV}{bd:AV→AV→zaa→Lt→Prop}{t0 t1:AV}(M:Nat→List Bool)(m:List Bool)(he:(λt0 t1 H Kb=>awp P M c (zbp m Kb Q) (fr t0 t1) H)=bd:=by kernel_rfl):Lo2 fr bd t0 t1 H (ALoop P c Q (fr t0 t1) H):=λI n h r=>lp2 (M:=M) m t0 t1 he I n h r
def Lo3(fr:AV→AV→AV→List AV)(bd:AV→AV→AV→zaa→Lt→Prop)(t0 t1 t2:AV)(H:zaa)(G:Prop):Prop:=∀(Inv:Nat→AV→AV→AV→zaa→Prop) (n:Nat) (h0:HSc H→Inv n t0 t1 t2 H) (round:Rd3 fr bd H Inv),G
theorem lq3{P:Program}{c:Code}{Q:AExit→List AV→zaa→Prop}{H:zaa}{fr:AV→AV→AV→List AV}{bd:AV→AV→AV→zaa→Lt→Prop}{t0 t1 t2:AV}(M:Nat→List Bool)(m:List Bool)(he:(λt0 t1 t2 H Kb=>awp P M c (zbp m Kb Q) (fr t0 t1 t2) H)=bd:=by kernel_rfl):Lo3 fr bd t0 t1 t2 H (ALoop P c Q (fr t0 t1 t2) H):=λI n h r=>lp3 (M:=M) m t0 t1 t2 he I n h r
def apu(H:zaa)(p:(AV→Prop)→Prop)(K:AV→Prop):Prop:=zad H (λK'=>p λv=>K' v H) K
def apm(H:zaa)(x:AV)(K:AV→Prop):Prop:=zad H (λK'=>K' x H) K
@[congr] theorem zZ8{H:zaa}{p:(AV→Prop)→Prop}{k:AV→Prop}:apu H p k=apu H p k:=rfl
@[congr] theorem zZ6{H:zaa}{x:AV}{k:AV→Prop}:apm H x k=apm H x k:=rfl
@[simp] theorem zZ9{H:zaa}{p:(AV→Prop)→Prop}{k:AV→Prop}:apu H p k=zad H (λK'=>p λv=>K' v H) k:=rfl
@[simp] theorem zZ7{H:zaa}{x:AV}{k:AV→Prop}:apm H x k=k x:=by simp[apm,zad]
end
end Go.Proofs.YtaifokkaaahdoaaGreatDoor
