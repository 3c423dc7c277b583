import Derived.Test.YtdmamdnkcefmmaaGreatDoorAbsY
import Derived.Scope
set_option linter.unusedSimpArgs false
set_option linter.unusedVariables false
set_option maxRecDepth 8000
namespace Go.Proofs.YtdmamdnkcefmmaaGreatDoor
section
open Go.RowKit

variable {fl:Bool} {wc:WM} {P:Program} {B:Nat} {w:World} {G:Gh} {H:zaa}

def inS(d9:Array Bool)(i:Nat):Bool:=d9.getD i false

theorem zqO{d9:Array Bool}{i:Nat}(hi:i<d9.size)(k:Nat):inS (d9.setIfInBounds i true) k=if k=i then true else inS d9 k:=by
 unfold inS;by_cases hk:k=i
 ·subst hk;simp[hi]
 ·simp[hk,Array.getElem?_setIfInBounds_ne (λh=>hk h.symm)]

theorem zfc(n i:Nat):inS (Array.replicate n false) i=false:=by unfold inS;rw[bS,Array.getElem?_replicate];split <;> rfl

theorem ziz{op:Op}(h:opW wc op=true):opF op=false:=by
 cases op <;> simp only[opW,aH]at h <;> simp only[opF]
 rename_i c;cases hc:c.callee with
 |builtin b=>cases b <;> simp[hc]at h ⊢
 |value f=>rfl
 |invoke r m=>simp[hc]at h
theorem zdw{op:Op}(h:opW wc op=true):opL op=false∧opC wc op=false:=by
 cases op <;> simp only[opW,aH]at h <;> first|exact⟨rfl,rfl⟩|skip
 rename_i c;refine⟨rfl,?_⟩;cases hc:c.callee with
 |builtin b=>cases b <;> simp[hc]at h <;> simp[opC,hc]
 |value f=>simpa[opC,hc]using h
 |invoke r m=>simp[hc]at h
theorem zgW{op:Op}(h:opV op=true):opW wc op=true∧opL op=false∧opC wc op=false∧opA wc op=false∧opF op=false:=by cases op <;> simp only[opV,aH]at h <;> exact⟨rfl,rfl,rfl,rfl,rfl⟩
theorem zJz{op:Op}(h:opV op=true):opN op=true:=by cases op <;> simp only[opV,aH]at h <;> rfl
theorem zzW{op:Op}(h:opL op=true):opW wc op=false∧opF op=false∧opA wc op=false∧opC wc op=false∧opV op=false:=by cases op <;> simp only[opL,aH]at h <;> exact⟨rfl,rfl,rfl,rfl,rfl⟩
theorem zzP{op:Op}(h:opC wc op=true):opW wc op=false∧opF op=false∧opL op=false∧opV op=false:=by
 cases op <;> simp only[opC,aH]at h
 rename_i c;cases hc:c.callee with
 |value f=>exact⟨by simpa[opW,hc]using h,by simp[opF,hc],rfl,rfl⟩
 |builtin b=>simp[hc]at h
 |invoke r m=>simp[hc]at h
theorem zK8{t:TypeId}{z:Value}{id:Nat}{K:AV→zaa→Prop}(hH:HRel B w G H)(hz:zbJ P t=some z)(en:H[id]?=some .gap)(h:K (.ptr id 0) (H.set id (.cells (zbG z)))):
  OpOK P B w G K (((do pure (.value (←Instr.alloc t true (.tuple #[])))):Sem Next).run P w):=by
 obtain⟨he,eU⟩:=hH.fill en z.cells t (zbG z) (zd5 z);have et:((do pure (.value (←Instr.alloc t true (.tuple #[])))):Sem Next).run P w=.ok (.value (.pointer (some ⟨w.heap.size,0,none⟩))) (w.alloc (.cells z.cells t)):=by simp[Instr.alloc,zfo hz,newVar,newRow,World.alloc_eq]
 rw[et];refine⟨.ptr id 0,_,_,he,eU,⟨w.heap.size,?_,rfl⟩,h⟩;exact List.getElem?_set_self (by rw[hH.len];exact(List.getElem?_eq_some_iff.1 en).1)

def zG2(wc:WM)(eh:Array Oper)(S:Nat→Bool)(p:Nat):Prop:=∀(i:Nat) o,eh[i]?=some o→opW wc o.op=true→(S i=true↔i<p)
def ze0(fl:Bool)(wc:WM)(P:Program)(eh:Array Oper)(F0 rs:List AV)(hs:List zaa)(H:zaa):Prop:=
 ∀ (i:Nat) o,eh.toList[i]?=some o→∃ r,rs[i]?=some r∧TrOK fl P eh (hpk hs H i) (frk eh.toList rs F0 i) o r (hpk hs H (i+1))∧frk eh.toList rs F0 (i+1)=zbZ (frk eh.toList rs F0 i) o.dst r ∧
  (opW wc o.op=false→hpk hs H (i+1)=hpk hs H i)∧(opC wc o.op=true→∀J,TrOK fl P eh (hpk hs H i++J) (frk eh.toList rs F0 i) o r (hpk hs H i++J))∧(opG wc o.op=true→GrowA (hpk hs H i) (hpk hs H (i+1)))

theorem zdr{eh:Array Oper}{hs:List zaa}{F0 rs:List AV}(e8:ze0 fl wc P eh F0 rs hs H){p:Nat}:∀ (q:Nat),p≤q→q≤eh.size→(∀ (i:Nat) o,eh[i]?=some o→opW wc o.op=true→p≤i→i<q→False)→hpk hs H q=hpk hs H p
 |0,hp,_,_=>by rw[Nat.le_zero.1 hp]
 |q+1,hp,hq,hn=>by
  by_cases he:p=q+1
  ·rw[he]
  ·have ho:eh[q]?=some eh[q]:=by simp[show q<eh.size by omega]
   obtain⟨r,_,_,_,h4,_⟩:=e8 q eh[q] (by simp);have hw:opW wc (eh[q]).op=false:=by
    cases hw:opW wc (eh[q]).op with
    |false=>rfl
    |true=>exact(hn q _ ho hw (by omega) (by omega)).elim
   rw[h4 hw];exact zdr e8 q (by omega) (by omega) (λi o h1 h2 h3 h4=>hn i o h1 h2 h3 (by omega))
theorem zJt{op:Op}(h:opA wc op=true):opA .n op=true∨opG wc op=true:=by
 cases op <;> simp only[opA,aH]at h
 rename_i c;cases hc:c.callee with
 |value f=>right;simpa[opG,hc]using h
 |builtin b=>left;cases b <;> simp[opA,hc]at h ⊢
 |invoke r m=>simp[hc]at h
theorem TrOK.growW{eh:Array Oper}{F:List AV}{o:Oper}{r:AV}{H H':zaa}(ht:TrOK fl P eh H F o r H')(hg:opG wc o.op=true→GrowA H H')(ho:opA wc o.op=true):GrowA H H':=by
 rcases zJt ho with h|h
 ·exact ht.growA h
 ·exact hg h
theorem zqM{eh:Array Oper}{hs:List zaa}{F0 rs:List AV}(e8:ze0 fl wc P eh F0 rs hs H){i:Nat}:∀ (q:Nat),i≤q→q≤eh.size→(∀ (k:Nat) o,eh[k]?=some o→opW wc o.op=true→i≤k→k<q→opA wc o.op=true∨opN o.op=true) →
  ∀(id:Nat) (cs:List AV),(hpk hs H i)[id]?=some (AB.cells cs)→(hpk hs H q)[id]?=some (AB.cells cs)
 |0,h1,_,_,id,cs,hc=>by rw[Nat.le_zero.1 h1]at hc;exact hc
 |q+1,h1,h2,hn,id,cs,hc=>by
  by_cases he:i=q+1
  ·rw[←he];exact hc
  ·have hq:eh[q]?=some eh[q]:=by simp[show q<eh.size by omega]
   obtain⟨rq,_,pz,_,qi,_,qj⟩:=e8 q eh[q] (by simp);have h3:=zqM e8 q (by omega) (by omega) (λk o a b c d=>hn k o a b c (by omega)) id cs hc;cases oO:opW wc (eh[q]).op with
   |false=>rw[qi oO];exact h3
   |true=>
    rcases hn q _ hq oO (by omega) (by omega) with ha|ha
    ·exact(pz.growW qj ha).grow.cells h3
    ·exact(pz.growN ha).cells h3
theorem zyX{eh:Array Oper}{hs:List zaa}{F0 rs:List AV}(e8:ze0 fl wc P eh F0 rs hs H){p:Nat}:∀ (q:Nat),p≤q→q≤eh.size→(∀ (k:Nat) o,eh[k]?=some o→opW wc o.op=true→p≤k→k<q→opA wc o.op=true) →
  ∀(id:Nat) (cs:List AV),(hpk hs H q)[id]?=some (AB.cells cs)→(hpk hs H p)[id]?=some (AB.cells cs)
 |0,h1,_,_,id,cs,hc=>by rw[Nat.le_zero.1 h1];exact hc
 |q+1,h1,h2,hn,id,cs,hc=>by
  by_cases he:p=q+1
  ·rw[he];exact hc
  ·have hq:eh[q]?=some eh[q]:=by simp[show q<eh.size by omega]
   obtain⟨rq,_,pz,_,qi,_,qj⟩:=e8 q eh[q] (by simp);refine zyX e8 q (by omega) (by omega) (λk o a b c d=>hn k o a b c (by omega)) id cs ?_;cases oO:opW wc (eh[q]).op with
   |false=>rw[qi oO]at hc;exact hc
   |true=>exact(pz.growW qj (hn q _ hq oO (by omega) (by omega))).cells hc

structure VB (eh:Array Oper) (a b:Nat):Prop where
 le:a≤b
 fit:b≤eh.size
 iff:∀(i:Nat) o,eh[i]?=some o→(opV o.op=true↔a≤i∧i<b)
 bare:∀(i:Nat) o,eh[i]?=some o→opV o.op=true→o.guard=none
theorem zzX{eh:Array Oper}(h:zeN eh=true):∃a b,VB eh a b:=by
 unfold zeN at h;have mem:∀(i:Nat) o,eh[i]?=some o→(o,i)∈eh.toList.zipIdx:=λi o ho=>by rw[cq];simpa using ho
 split at h
 ·rename_i hn;rw[List.any_eq_false]at hn;have no:∀(i:Nat) o,eh[i]?=some o→opV o.op=true→False:=λi o ho hv=>hn o (aQ.2 ⟨i,by simpa using ho⟩) hv;exact⟨0,0,ac _,bv _,λi o ho=>⟨λhv=>(no i o ho hv).elim,λhc=>by omega⟩,λi o ho hv=>(no i o ho hv).elim⟩
 ·rename_i hn;generalize eh.toList.findIdx (λo=>opV o.op)=a at h;generalize eh.toList.countP (λo=>opV o.op)=k at h;have key:∀ (i:Nat) o,eh[i]?=some o→(opV o.op=true↔a≤i∧i<a+k)∧(opV o.op=true→o.guard=none):=λi o ho=>by have:=am.1 h _ (mem i o ho);simp only[aj,ba,cx,cz,Option.isNone_iff_eq_none]at this;refine⟨?_,λhv=>(this.2.resolve_left (by simp[hv]))⟩;rw[this.1];simp
  by_cases fd:a+k≤eh.size
  ·exact⟨a,a+k,by omega,fd,λi o ho=>(key i o ho).1,λi o ho=>(key i o ho).2⟩
  ·by_cases ha:a≤eh.size
   ·refine⟨a,eh.size,ha,ac _,λi o ho=>?_,λi o ho=>(key i o ho).2⟩;have hi:i<eh.size:=(Array.getElem?_eq_some_iff.1 ho).1;rw[(key i o ho).1];constructor <;> rintro⟨_,_⟩ <;> constructor <;> omega
   ·refine⟨0,0,ac _,bv _,λi o ho=>?_,λi o ho=>(key i o ho).2⟩;have hi:i<eh.size:=(Array.getElem?_eq_some_iff.1 ho).1;rw[(key i o ho).1];constructor <;> rintro⟨_,_⟩ <;> omega

def zOf(hs:List zaa)(H:zaa)(j:Nat):List AV:=match (hpk hs H (j+1))[(hpk hs H j).length]? with|some (.cells cs)=>cs|_=>[]
theorem zzG{eh:Array Oper}{hs:List zaa}{F0 rs:List AV}{a b:Nat}(e8:ze0 fl wc P eh F0 rs hs H)(hV:VB eh a b){j:Nat}(h1:a≤j)(h2:j<b):
  ∃o t z,eh[j]?=some o∧o.op=.alloc t∧zbJ P t=some z∧zOf hs H j=zbG z∧hpk hs H (j+1)=hpk hs H j++[.cells (zOf hs H j)]∧rs[j]?=some (.ptr (hpk hs H j).length 0):=by
 have hj:j<eh.size:=by have:=hV.fit;omega
 have ho:eh[j]?=some eh[j]:=by simp[hj]
 have hv:=(hV.iff j _ ho).2 ⟨h1,h2⟩;obtain⟨r,hr,mw,_⟩:=e8 j eh[j] (by simp);unfold TrOK at mw;rw[hV.bare j _ ho hv]at mw;simp only[]at mw;have fE:∃t,(eh[j]).op=.alloc t:=by
  revert hv
  cases (eh[j]).op <;> simp[opV]
 obtain⟨t,fE⟩:=fE;simp only[zby,aop,zdF,fE,isM]at mw;split at mw
 ·rename_i z hz;obtain⟨e1,e2⟩:=mw;have pA:zOf hs H j=zbG z:=by unfold zOf;rw[←e2];simp
  exact⟨eh[j],t,z,ho,fE,hz,pA,by rw[pA];exact e2.symm,by rw[hr,←e1]⟩
 ·exact mw.elim
def zcD(hs:List zaa)(H:zaa)(a b:Nat)(S:Nat→Bool):zaa:=(List.range (b-a)).map λq=>if S (a+q)=true then AB.cells (zOf hs H (a+q)) else .gap
theorem zqN{eh:Array Oper}{hs:List zaa}{F0 rs:List AV}{a b:Nat}(e8:ze0 fl wc P eh F0 rs hs H)(hV:VB eh a b):∀ m,a+m≤b→hpk hs H (a+m)=hpk hs H a++(List.range m).map λq=>AB.cells (zOf hs H (a+q))
 |0,_=>by simp
 |m+1,hm=>by obtain⟨o,t,z,_,_,_,_,h1,_⟩:=zzG e8 hV (j:=a+m) (by omega) (by omega);rw[show a+(m+1)=a+m+1 by omega,h1,zqN e8 hV m (by omega),bU,aK,aq];rfl
theorem zyT{eh:Array Oper}{hs:List zaa}{F0 rs:List AV}{a b:Nat}(e8:ze0 fl wc P eh F0 rs hs H)(hV:VB eh a b){S:Nat→Bool}(h:∀j,a≤j→j<b→S j=true):hpk hs H a++zcD hs H a b S=hpk hs H b:=by have:=zqN e8 hV (b-a) (by have:=hV.le;omega);rw[show a+(b-a)=b by have:=hV.le;omega]at this;rw[this];congr 1;apply bo;intro q hq;rw[az (h (a+q) (by omega) (by have:=bz.1 hq;omega))]
theorem zIy{hs:List zaa}{a b:Nat}{S:Nat→Bool}(h:∀j,a≤j→j<b→S j=false):zcD hs H a b S=List.replicate (b-a) .gap:=by
 apply aL;intro q;unfold zcD;rw[List.getElem?_map];by_cases hq:q<b-a
 ·rw[List.getElem?_range hq,List.getElem?_replicate,az hq];simp[h (a+q) (by omega) (by omega)]
 ·rw[List.getElem?_eq_none (by simp;omega),List.getElem?_eq_none (by simp;omega)];rfl
theorem zIz{hs:List zaa}{a b i:Nat}{S:Nat→Bool}(h1:a≤i)(h2:i<b):(zcD hs H a b S).set (i-a) (.cells (zOf hs H i))=zcD hs H a b (λk=>if k=i then true else S k):=by
 apply aL;intro q;by_cases hq:q=i-a
 ·subst hq;rw[List.getElem?_set_self (by simp[zcD];omega)];unfold zcD;rw[List.getElem?_map,List.getElem?_range (by omega)];simp[show a+(i-a)=i by omega]
 ·rw[List.getElem?_set_ne (λh=>hq h.symm)];unfold zcD;rw[List.getElem?_map,List.getElem?_map];by_cases qk:q<b-a
  ·rw[List.getElem?_range qk];simp[show a+q≠i by omega]
  ·rw[List.getElem?_eq_none (by simp;omega)];rfl
theorem zIx{hs:List zaa}{a b i:Nat}{S:Nat→Bool}(h1:a≤i)(h2:i<b)(h:S i=false):(zcD hs H a b S)[i-a]?=some .gap:=by unfold zcD;rw[List.getElem?_map,List.getElem?_range (by omega)];simp[show a+(i-a)=i by omega,h]

def StOK(wc:WM)(eh:Array Oper)(hs:List zaa)(H:zaa)(a b:Nat)(S:Nat→Bool)(Hc:zaa):Prop:=
 (∃p,p≤eh.size∧zG2 wc eh S p∧Hc=hpk hs H p∧((∀j,a≤j→j<b→S j=false)∨(∀j,a≤j→j<b→S j=true))) ∨
 ((∀ (k:Nat) o,eh[k]?=some o→opW wc o.op=true→k<a→S k=true)∧(∀ (k:Nat) o,eh[k]?=some o→opW wc o.op=true→b≤k→S k=false) ∧
   (∃j,a≤j∧j<b∧S j=true)∧(∃j,a≤j∧j<b∧S j=false)∧Hc=hpk hs H a++zcD hs H a b S)

theorem StOK.congr{eh:Array Oper}{hs:List zaa}{a b:Nat}{S S':Nat→Bool}{Hc:zaa}(hV:VB eh a b)(h:StOK wc eh hs H a b S Hc)(he:∀i,i<eh.size→S i=S' i):StOK wc eh hs H a b S' Hc:=by
 have fd:=hV.fit;rcases h with ⟨p,h1,h2,h3,h4⟩|⟨h1,h2,⟨j,mZ,kM,my⟩,⟨k,l8,l9,oB⟩,h5⟩
 ·refine .inl ⟨p,h1,λi o ho hw=>by rw[←he i (Array.getElem?_eq_some_iff.1 ho).1];exact h2 i o ho hw,h3,?_⟩;rcases h4 with h4 | h4
  ·exact .inl λj a b=>by rw[←he j (by omega)];exact h4 j a b
  ·exact .inr λj a b=>by rw[←he j (by omega)];exact h4 j a b
 ·refine .inr ⟨λk o ho hw hk=>by rw[←he k (Array.getElem?_eq_some_iff.1 ho).1];exact h1 k o ho hw hk,λk o ho hw hk=>by rw[←he k (Array.getElem?_eq_some_iff.1 ho).1];exact h2 k o ho hw hk,
   ⟨j,mZ,kM,by rw[←he j (by omega)];exact my⟩,⟨k,l8,l9,by rw[←he k (by omega)];exact oB⟩,?_⟩
  rw[h5];congr 1;apply bo;intro q hq;rw[he (a+q) (by have:=bz.1 hq;omega)]

section
variable {eh:Array Oper} {F0 rs F:List AV} {hs:List zaa} {S:Nat→Bool} {i:Nat} {o:Oper} {r:AV} {a b:Nat} {Hc:zaa}
theorem StOK.step(fp:fl=true→∀ (k:Nat) ok,eh[k]?=some ok→opA wc ok.op=false∧opN ok.op=false)(hO:Ord eh)(hW:zd1 wc eh=true)(hV:VB eh a b)(e8:ze0 fl wc P eh F0 rs hs H)(eL:StOK wc eh hs H a b S Hc)(fV:∀ (j:Nat) oj,eh[j]?=some oj→S j=true→∀ e∈oj.after,Region.binds .any e=true→S e.on=true)(ho:eh[i]?=some o)(ky:S i=false)(fQ:∀ e∈o.after,Region.binds .any e=true→S e.on=true)(hr:rs[i]?=some r)(iL:∀ s∈zeL eh o,(frk eh.toList rs F0 i).getD s .unk=F.getD s .unk)(kY:opV o.op=false):
  ∃Hc',StOK wc eh hs H a b (λk=>if k=i then true else S k) Hc'∧TrOK fl P eh Hc F o r Hc':=by
 have nw:i<eh.size:=(Array.getElem?_eq_some_iff.1 ho).1;have fd:=hV.fit;have eP:=hV.le;obtain⟨r',mU,mw,_,oP,hxx,_⟩:=e8 i o (by simpa using ho);rw[hr]at mU;cases mU;have fK:TrOK fl P eh (hpk hs H i) F o r (hpk hs H (i+1)):=mw.congr iL;have hx:opC wc o.op=true→∀J,TrOK fl P eh (hpk hs H i++J) F o r (hpk hs H i++J):=λhc J=>(hxx hc J).congr iL;have oQ:¬(a≤i∧i<b):=λh=>by have:=(hV.iff i o ho).2 h;rw[kY]at this;cases this
 have isNew:∀{k:Nat},a≤k→k<b→∃ok,eh[k]?=some ok∧opV ok.op=true:=λ{k} h1 h2=>by
  have hk:eh[k]?=some eh[k]:=by simp[show k<eh.size by omega]
  exact⟨_,hk,(hV.iff k _ hk).2 ⟨h1,h2⟩⟩
 have notV:∀{k:Nat} {ok:Oper},eh[k]?=some ok→¬(a≤k∧k<b)→opV ok.op=false:=λ{k ok} hk hn=>by
  cases hv:opV ok.op with
  |false=>rfl
  |true=>exact(hn ((hV.iff k ok hk).1 hv)).elim
 have uf:∀{q p:Op},opL q=false→opL p=false→(opC wc q=false∨opV p=false)→(opV q=false∨opV p=false)→okU wc q p=false:=λh1 h2 h3 h4=>by unfold okU;rw[h1,h2];rcases h3 with h3|h3 <;> rcases h4 with h4|h4 <;> simp[h3,h4]
 -- what writes before it is done, what writes behind it is not
 have before:opF o.op=false→∀(k:Nat) ok,eh[k]?=some ok→opW wc ok.op=true→k<i→okU wc ok.op o.op=false→S k=true:=λhf k ok hk hw ei hu=>
  (zkY hO hW ho hk ei (.inr hw) hf (ziz hw) hu).ready fV ho fQ
 have behind:opF o.op=false→∀(k:Nat) ok,eh[k]?=some ok→opW wc ok.op=true→i<k→okU wc o.op ok.op=false→S k=false:=λhf k ok hk hw ei hu=>by
  cases hS:S k with
  |false=>rfl
  |true=>have:=(zkY hO hW hk ho ei (.inl hw) (ziz hw) hf hu).closed fV hS;rw[ky]at this;cases this
 have keepS:∀Hc0,opW wc o.op=false→StOK wc eh hs H a b S Hc0→StOK wc eh hs H a b (λk=>if k=i then true else S k) Hc0:=by
  intro Hc0 hw h;have other:∀(k:Nat) ok,eh[k]?=some ok→opW wc ok.op=true→k≠i:=λk ok hk eJ fm=>by subst fm;rw[ho]at hk;cases hk;rw[hw]at eJ;cases eJ
  have otherV:∀j,a≤j→j<b→j≠i:=λj h1 h2 g8=>by subst g8;exact oQ ⟨h1,h2⟩
  rcases h with ⟨p,h1,h2,h3,h4⟩|⟨h1,h2,⟨j,mZ,kM,my⟩,⟨k,l8,l9,oB⟩,h5⟩
  ·refine .inl ⟨p,h1,λk ok hk eJ=>by simp only[other k ok hk eJ,aN];exact h2 k ok hk eJ,h3,?_⟩;rcases h4 with h4 | h4
   ·exact .inl λj x y=>by simp only[otherV j x y,aN];exact h4 j x y
   ·exact .inr λj x y=>by simp only[otherV j x y,aN];exact h4 j x y
  ·refine .inr ⟨λk ok hk eJ ny=>by simp only[other k ok hk eJ,aN];exact h1 k ok hk eJ ny,λk ok hk eJ ny=>by simp only[other k ok hk eJ,aN];exact h2 k ok hk eJ ny,
    ⟨j,mZ,kM,by simp only[otherV j mZ kM,aN];exact my⟩,⟨k,l8,l9,by simp only[otherV k l8 l9,aN];exact oB⟩,?_⟩
   rw[h5];congr 1;apply bo;intro q hq;have:=bz.1 hq;simp only[otherV (a+q) (by omega) (by omega),aN]
 cases hf:opF o.op with
 |true=>
  have hw:opW wc o.op=false:=by
   cases hw:opW wc o.op with
   |false=>rfl
   |true=>rw[ziz hw]at hf;cases hf
  rw[oP hw]at fK;exact⟨Hc,keepS Hc hw eL,fK.free hf⟩
 |false=>
 rcases eL with ⟨p,hp,iM,rfl,oR⟩|hII
 ·-- the heap of the text
  have stay:StOK wc eh hs H a b S (hpk hs H p):=.inl ⟨p,hp,iM,rfl,oR⟩;cases hl:opL o.op with
  |true=>
   obtain⟨hw,_,ql,ma,_⟩:=zzW hl;rw[oP hw]at fK;have dn:∀(k:Nat) ok,eh[k]?=some ok→opW wc ok.op=true→p≤k→k<i→opA wc ok.op=true:=λk ok hk eJ eP ei=>by
    cases hu:okU wc ok.op o.op with
    |true=>obtain⟨h1,h2⟩:=zdw eJ;simp only[okU,h1,h2,kY,hl,aY,bt,bA,cC,ch]at hu;exact hu
    |false=>have:=(iM k ok hk eJ).1 (before hf k ok hk eJ ei hu);omega
   have up:∀(k:Nat) ok,eh[k]?=some ok→opW wc ok.op=true→i≤k→k<p→opA wc ok.op=true∨opN ok.op=true:=λk ok hk eJ eP ei=>by
    have gQ:=(iM k ok hk eJ).2 ei;have fm:k≠i:=by rintro rfl;rw[ky]at gQ;cases gQ
    cases hu:okU wc o.op ok.op with
    |true=>obtain⟨h1,h2⟩:=zdw eJ;simp only[okU,hl,h1,ql,ma,kY,aY,bt,bA,cC,bk,cx]at hu;exact hu
    |false=>have:=behind hf k ok hk eJ (by omega) hu;rw[this]at gQ;cases gQ
   refine⟨hpk hs H p,keepS _ hw stay,fK.load hl (λjt=>?_) ?_⟩
   ·by_cases nz:p≤i
    ·exact(zdr e8 i nz (by omega) λk ok h1 h2 h3 h4=>by have:=dn k ok h1 h2 h3 h4;rw[(fp jt k ok h1).1]at this;cases this).symm
    ·exact zdr e8 p (by omega) hp λk ok h1 h2 h3 h4=>by have:=up k ok h1 h2 h3 h4;rw[(fp jt k ok h1).1,(fp jt k ok h1).2]at this;rcases this with h|h <;> cases h
   by_cases nz:p≤i
   ·exact zyX e8 i nz (by omega) dn
   ·exact zqM e8 p (by omega) hp up
  |false=>
   cases hc:opC wc o.op with
   |true=>
    obtain⟨hw,_,_,_⟩:=zzP hc;have below:∀(k:Nat) ok,eh[k]?=some ok→opW wc ok.op=true→k<i→k<p:=λk ok hk eJ ei=>
     (iM k ok hk eJ).1 (before hf k ok hk eJ ei (uf (zdw eJ).1 hl (.inl (zdw eJ).2) (.inr kY)))
    have above:∀(k:Nat) ok,eh[k]?=some ok→opW wc ok.op=true→i<k→¬(a≤k∧k<b)→¬k<p:=λk ok hk eJ ei hn oS=>by have:=behind hf k ok hk eJ ei (uf hl (zdw eJ).1 (.inr (notV hk hn)) (.inl kY));rw[(iM k ok hk eJ).2 oS]at this;cases this
    refine⟨hpk hs H p,keepS _ hw stay,?_⟩;have same:(∀(k:Nat) ok,eh[k]?=some ok→opW wc ok.op=true→i≤k→k<p→False)→TrOK fl P eh (hpk hs H p) F o r (hpk hs H p):=λiy=>by
     have e:hpk hs H p=hpk hs H i:=by
      by_cases nz:p≤i
      ·exact(zdr e8 i nz (by omega) (λk ok hk eJ h1 h2=>by have:=below k ok hk eJ h2;omega)).symm
      ·exact zdr e8 p (by omega) hp iy
     rw[oP hw]at fK;rw[e];exact fK
    have selfW:∀(k:Nat) ok,eh[k]?=some ok→opW wc ok.op=true→k≠i:=λk ok hk eJ fm=>by subst fm;rw[ho]at hk;cases hk;rw[hw]at eJ;cases eJ
    rcases oR with iy|eO
    ·refine same λk ok hk eJ h1 h2=>?_;have fm:=selfW k ok hk eJ;by_cases fI:a≤k∧k<b
     ·have:=iy k fI.1 fI.2;rw[(iM k ok hk eJ).2 h2]at this;cases this
     ·exact above k ok hk eJ (by omega) fI h2
    ·by_cases qm:i<a
     ·by_cases eY:a=b
      ·refine same λk ok hk eJ h1 h2=>?_;exact above k ok hk eJ (by have:=selfW k ok hk eJ;omega) (by omega) h2
      ·-- all new variables are there
       obtain⟨on,mu,hvn⟩:=isNew (k:=b-1) (by omega) (by omega);have hbp:b≤p:=by have:=(iM (b-1) on mu (zgW hvn).1).1 (eO (b-1) (by omega) (by omega));omega
       have e1:hpk hs H a=hpk hs H i:=zdr e8 a (by omega) (by omega) (λk ok hk eJ h1 h2=>by
        have fm:=selfW k ok hk eJ;exact above k ok hk eJ (by omega) (by omega) (by omega))
       have e2:hpk hs H p=hpk hs H b:=zdr e8 p hbp hp (λk ok hk eJ h1 h2=>above k ok hk eJ (by omega) (by omega) h2);rw[e2,←zyT e8 hV eO,e1];exact hx hc _
     ·refine same λk ok hk eJ h1 h2=>?_;exact above k ok hk eJ (by have:=selfW k ok hk eJ;omega) (by omega) h2
   |false=>
    have below:∀(k:Nat) ok,eh[k]?=some ok→opW wc ok.op=true→k<i→k<p:=λk ok hk eJ ei=>
     (iM k ok hk eJ).1 (before hf k ok hk eJ ei (uf (zdw eJ).1 hl (.inl (zdw eJ).2) (.inr kY)))
    have above:∀(k:Nat) ok,eh[k]?=some ok→opW wc ok.op=true→i≤k→¬k<p:=λk ok hk eJ eP oS=>by
     have gQ:=(iM k ok hk eJ).2 oS;by_cases fm:k=i
     ·subst fm;rw[ky]at gQ;cases gQ
     ·have:=behind hf k ok hk eJ (by omega) (uf hl (zdw eJ).1 (.inl hc) (.inl kY));rw[gQ]at this;cases this
    have e:hpk hs H p=hpk hs H i:=by
     by_cases nz:p≤i
     ·exact(zdr e8 i nz (by omega) (λk ok hk eJ h1 h2=>by have:=below k ok hk eJ h2;omega)).symm
     ·exact zdr e8 p (by omega) hp (λk ok hk eJ h1 h2=>above k ok hk eJ h1 h2)
    cases hw:opW wc o.op with
    |false=>rw[oP hw]at fK;exact⟨hpk hs H p,keepS _ hw stay,by rw[e];exact fK⟩
    |true=>
     refine⟨hpk hs H (i+1),.inl ⟨i+1,by omega,λk ok hk eJ=>?_,rfl,?_⟩,by rw[e];exact fK⟩
     ·by_cases fm:k=i
      ·subst fm;simp
      ·simp only[fm,aN];rw[iM k ok hk eJ];constructor
       ·intro oS;by_cases jx:i≤k
        ·exact(above k ok hk eJ jx oS).elim
        ·omega
       ·intro hki2;exact below k ok hk eJ (by omega)
     ·rcases oR with iy | eO
      ·exact .inl λj x y=>by have:j≠i:=λh=>oQ ⟨by omega,by omega⟩;simp only[this,aN];exact iy j x y
      ·exact .inr λj x y=>by have:j≠i:=λh=>oQ ⟨by omega,by omega⟩;simp only[this,aN];exact eO j x y
 ·-- some of the new variables are there
  obtain⟨h1,h2,⟨j0,mZ,kM,my⟩,⟨j1,l8,l9,oB⟩,h5⟩:=hII;obtain⟨o0,ho0,iN⟩:=isNew mZ kM;obtain⟨o1,ho1,jU⟩:=isNew l8 l9;have qm:i<a:=by
   by_cases qm:i<a
   ·exact qm
   ·have:=before hf j1 o1 ho1 (zgW jU).1 (by omega) (by
     obtain⟨_,x1,x2,x3,_⟩:=zgW (wc:=wc) jU;unfold okU;simp[x1,x2,x3,kY])
    rw[oB]at this;cases this
  have early:okU wc o.op o0.op=true:=by
   cases hu:okU wc o.op o0.op with
   |true=>rfl
   |false=>have:=behind hf j0 o0 ho0 (zgW iN).1 (by omega) hu;rw[my]at this;cases this
  have stay:StOK wc eh hs H a b S Hc:=.inr ⟨h1,h2,⟨j0,mZ,kM,my⟩,⟨j1,l8,l9,oB⟩,h5⟩;subst h5;cases hl:opL o.op with
  |true=>
   obtain⟨hw,_,ql,ma,_⟩:=zzW hl;rw[oP hw]at fK;refine⟨_,keepS _ hw stay,fK.load hl (λjt=>by have:=(fp jt j0 o0 ho0).2;rw[zJz iN]at this;cases this) λid cs eN=>?_⟩;have:=zqM e8 a (by omega) (by omega) (λk ok hk eJ eP ei=>by
    have gQ:=h1 k ok hk eJ ei;have fm:k≠i:=by rintro rfl;rw[ky]at gQ;cases gQ
    cases hu:okU wc o.op ok.op with
    |true=>obtain⟨x1,x2⟩:=zdw eJ;simp only[okU,hl,x1,ql,ma,kY,aY,bt,bA,cC,bk,cx]at hu;exact hu
    |false=>
     have:=behind hf k ok hk eJ (by omega) hu;rw[this]at gQ;cases gQ) id cs eN
   rw[List.getElem?_append_left (List.getElem?_eq_some_iff.1 this).1];exact this
  |false=>
   have hc:opC wc o.op=true:=by unfold okU at early;simp only[hl,kY,(zgW (wc:=wc) iN).2.1,aY,bA,bt,cC,aj]at early;exact early.1
   obtain⟨hw,_,_,_⟩:=zzP hc;have e1:hpk hs H a=hpk hs H i:=zdr e8 a (by omega) (by omega) (λk ok hk eJ eP ei=>by
    have gQ:=h1 k ok hk eJ ei;have fm:k≠i:=by rintro rfl;rw[ky]at gQ;cases gQ
    have:=behind hf k ok hk eJ (by omega) (uf hl (zdw eJ).1 (.inr (notV hk (by omega))) (.inl kY));rw[this]at gQ;cases gQ)
   refine⟨_,keepS _ hw stay,?_⟩;rw[e1];exact hx hc _
end

theorem zyD{eh:Array Oper}{F0 rs Fn:List AV}{hs:List zaa}{Hn:zaa}{K:List AV→zaa→Prop}{Q:Exit→Act→World→Prop}{w0:World}{G0:Gh}{va vb:Nat}(fp:fl=true→∀ (k:Nat) ok,eh[k]?=some ok→opA wc ok.op=false∧opN ok.op=false)(hO:Ord eh)(hW:zd1 wc eh=true)(hV:VB eh va vb)(ht:TrL fl wc P eh eh.toList F0 H rs hs Fn Hn)(hK:K Fn Hn)(hQ:∀ a w G F H,Ext B w0 G0 w G→HRel B w G H→FRel w G a.tmps F→a.defers=[]→K F H→Q .normal a w):
  ∀ (fuel:Nat) (d9:Array Bool) (a:Act) (w:World) (G:Gh) (F:List AV) (Hc:zaa),StOK wc eh hs H va vb (inS d9) Hc→d9.size=eh.size→d9.toList.count false≤fuel →
   (∀(j:Nat) oj,eh[j]?=some oj→inS d9 j=true→∀e∈oj.after,Region.binds .any e=true→inS d9 e.on=true) →
   Ext B w0 G0 w G→HRel B w G Hc→FlRel eh F0 rs (inS d9) F→FRel w G a.tmps F→a.defers=[]→wpAny P .any eh Q fuel d9 a w:=by
 obtain⟨ek,qn,hhn,hat0⟩:=ht.at;have e8:ze0 fl wc P eh F0 rs hs H:=hat0;have gw:rs.length=eh.size:=by simpa using ek
 have fd:=hV.fit
 -- nothing is ready only at the end
 have fin:∀ (d9:Array Bool) (a:Act) (w:World) (G:Gh) (F:List AV) (Hc:zaa),StOK wc eh hs H va vb (inS d9) Hc→d9.size=eh.size→Ext B w0 G0 w G→HRel B w G Hc→FlRel eh F0 rs (inS d9) F→FRel w G a.tmps F→a.defers=[] →
   Region.ready .any eh d9=[]→Q .normal a w:=by
  intro d9 a w G F Hc eL eB hE hH mz hF hd hr;have all:∀i,i<eh.size→inS d9 i=true:=by
   intro i;induction i using Nat.strongRecOn with
   |_ i ih=>
    intro hi;cases hS:inS d9 i with
    |true=>rfl
    |false=>
     have:i∈Region.ready .any eh d9:=by
      rw[mem_ready];refine⟨?_,eh[i],by simp[hi],λe he hb=>?_⟩
      ·have ie:i<d9.size:=by omega
       simpa[inS,ie]using hS
      ·have ei:=hO.edge i eh[i] (by simp[hi]) e he hb;exact ih e.on ei (by omega)
     rw[hr]at this;cases this
  have h1:FlRel eh F0 rs (λk=>decide (k<eh.size)) F:=mz.congr λi hi=>by rw[all i hi];simp[hi]
  have h2:=zqD hO ht eh.size (ac _);have:F=Fn:=by rw[FlRel.same gw h1 h2,←qn];simp
  rw[this]at hF;have hHn:Hc=Hn:=by
   rcases eL with ⟨p,hp,iM,rfl,_⟩|⟨_,_,_,⟨j,mZ,kM,my⟩,_⟩
   ·rw[←hhn,Array.length_toList];exact(zdr e8 eh.size hp (ac _) (λi o h1 h2 h3 h4=>by
     have:=(iM i o h1 h2).1 (all i h4);omega)).symm
   ·rw[all j (by omega)]at my;cases my
  rw[hHn]at hH;exact hQ a w G Fn Hn hE hH hF hd hK
 intro fuel;induction fuel with
 |zero=>
  intro d9 a w G F Hc eL eB hc fV hE hH mz hF hd;have hr:Region.ready .any eh d9=[]:=by
   cases hr:Region.ready .any eh d9 with
   |nil=>rfl
   |cons i is=>
    have hi:i∈Region.ready .any eh d9:=by rw[hr];simp
    obtain⟨h1,o,ho,_⟩:=mem_ready.1 hi;have ie:i<d9.size:=by rw[eB];exact(Array.getElem?_eq_some_iff.1 ho).1
    have hf:d9[i]=false:=by simpa[ie]using h1
    have:false∈d9.toList:=by rw[←hf];simp
    have:=dw.2 this;omega
  exact⟨hr,fin d9 a w G F Hc eL eB hE hH mz hF hd hr⟩
 |succ fuel ih=>
  intro d9 a w G F Hc eL eB hc fV hE hH mz hF hd;refine⟨fin d9 a w G F Hc eL eB hE hH mz hF hd,λi hi=>?_⟩;obtain⟨h1,o,ho,fQ⟩:=mem_ready.1 hi;have nw:i<eh.size:=(Array.getElem?_eq_some_iff.1 ho).1;have ie:i<d9.size:=by omega
  have ky:inS d9 i=false:=by
   have:d9[i]=false:=by simpa[ie]using h1
   simp[inS,ie,this]
  obtain⟨r,hr,_⟩:=e8 i o (by simpa using ho);have iL:=zJ7 hO gw mz (zqD hO ht i (by omega)) ho ky fQ fV
  -- what comes behind it
  have next:∀(a':Act) (w':World) (G':Gh) (Hc':zaa),StOK wc eh hs H va vb (λk=>if k=i then true else inS d9 k) Hc'→Ext B w0 G0 w' G'→HRel B w' G' Hc'→FRel w' G' a'.tmps (zbZ F o.dst r)→a'.defers=[]→wpAny P .any eh Q fuel (d9.setIfInBounds i true) a' w':=by
   intro a' w' G' Hc' gR js eU m0 jj;refine ih _ a' w' G' (zbZ F o.dst r) Hc' (gR.congr hV λk _=>(zqO ie k).symm) (by simpa using eB) ?_ ?_ js eU ?_ m0 jj
   ·have hf:d9.toList[i]'(by simpa using ie)=false:=by
     have:d9[i]=false:=by simpa[ie]using h1
     simpa using this
    rw[bV,List.count_set (by simpa using ie)];rw[hf];simp only[dK,a6,Bool.true_eq_false,ba,aN];omega
   ·intro j oj hj kN e he hb;rw[zqO ie]at kN ⊢;by_cases g8:j=i
    ·subst g8;rw[ho]at hj;cases hj;have:=fQ e he hb;by_cases oT:e.on=j
     ·simp[oT]
     ·simp only[oT,aN];exact this
    ·simp only[g8,aN]at kN;have:=fV j oj hj kN e he hb;by_cases oT:e.on=i
     ·simp[oT]
     ·simp only[oT,aN];exact this
   ·exact(FlRel.step hO mz ho hr).congr λk _=>(zqO ie k).symm
  unfold wpOp;simp only[ho];have jw:∀v,(a.put o.dst v).defers=[]:=λv=>by cases ip:o.dst <;> simpa[Act.put]using hd
  cases hv:opV o.op with
  |true=>
   -- a new variable
   have eY:=(hV.iff i o ho).1 hv;obtain⟨hw,gd,nn,hna,hnf⟩:=zgW (wc:=wc) hv;have hg:=hV.bare i o ho hv;rw[az (by simp[Region.wanted,hg])];refine .inl ?_;obtain⟨o',t,z,gv,fE,hz,pA,eV,mU⟩:=zzG e8 hV eY.1 eY.2;rw[ho]at gv;cases gv;rw[hr]at mU;cases mU;have hlen_i:(hpk hs H i).length=(hpk hs H va).length+(i-va):=by have:=zqN e8 hV (i-va) (by omega);rw[show va+(i-va)=i by omega]at this;rw[this];simp
   -- the writing ones before the new variables are done, those behind are not
   have early:∀(k:Nat) ok,eh[k]?=some ok→opW wc ok.op=true→k<va→inS d9 k=true:=λk ok hk eJ ei=>by
    have nA:opV ok.op=false:=by
     cases mA:opV ok.op with
     |false=>rfl
     |true=>have:=(hV.iff k ok hk).1 mA;omega
    exact(zkY hO hW ho hk (by omega) (.inr eJ) hnf (ziz eJ) (by unfold okU;simp[(zdw eJ).1,(zdw eJ).2,nA,gd])).ready fV ho fQ
   have late:∀(k:Nat) ok,eh[k]?=some ok→opW wc ok.op=true→vb≤k→inS d9 k=false:=λk ok hk eJ eP=>by
    have nA:opV ok.op=false:=by
     cases mA:opV ok.op with
     |false=>rfl
     |true=>have:=(hV.iff k ok hk).1 mA;omega
    cases hS:inS d9 k with
    |false=>rfl
    |true=>have:=(zkY hO hW hk ho (by omega) (.inl eJ) (ziz eJ) hnf (by unfold okU;simp[(zdw eJ).1,gd,nn,hna,nA])).closed fV hS;rw[ky]at this;cases this
   -- the heap with places for the new variables
   have hplaces:∃G1,Ext B w G w G1∧HRel B w G1 (hpk hs H va++zcD hs H va vb (inS d9)):=by
    rcases eL with ⟨p,hp,iM,rfl,oR⟩|⟨_,_,_,_,rfl⟩
    ·have iy:∀j,va≤j→j<vb→inS d9 j=false:=by
      rcases oR with h|h
      ·exact h
      ·have:=h i eY.1 eY.2;rw[ky]at this;cases this
     have e:hpk hs H p=hpk hs H va:=by
      by_cases iz:p≤va
      ·exact(zdr e8 va iz (by omega) (λk ok hk eJ h1 h2=>by
        have:=(iM k ok hk eJ).1 (early k ok hk eJ h2);omega)).symm
      ·refine zdr e8 p (by omega) hp (λk ok hk eJ h1 h2=>?_);have gQ:=(iM k ok hk eJ).2 h2;by_cases jy:k<vb
       ·rw[iy k h1 jy]at gQ;cases gQ
       ·rw[late k ok hk eJ (by omega)]at gQ;cases gQ
     rw[e]at hH;rw[zIy iy];obtain⟨h1,h2⟩:=hH.keepGaps (vb-va);exact⟨_,h1,h2⟩
    ·exact⟨G,Ext.refl _ _ _,hH⟩
   obtain⟨G1,kZ,gS⟩:=hplaces;have nh:(hpk hs H va++zcD hs H va vb (inS d9))[(hpk hs H va).length+(i-va)]?=some .gap:=by rw[List.getElem?_append_right (by omega),dE];exact zIx eY.1 eY.2 ky
   have eQ:(hpk hs H va++zcD hs H va vb (inS d9)).set ((hpk hs H va).length+(i-va)) (.cells (zbG z))=hpk hs H va++zcD hs H va vb (λk=>if k=i then true else inS d9 k):=by rw[ah _ _ (by omega),dE,←pA,zIz eY.1 eY.2]
   have gR:StOK wc eh hs H va vb (λk=>if k=i then true else inS d9 k) (hpk hs H va++zcD hs H va vb (λk=>if k=i then true else inS d9 k)):=by
    by_cases eO:∀j,va≤j→j<vb→(if j=i then true else inS d9 j)=true
    ·refine .inl ⟨vb,by omega,λk ok hk eJ=>?_,zyT e8 hV eO,.inr eO⟩;by_cases fm:k=i
     ·subst fm;simp[eY.2]
     ·simp only[fm,aN];by_cases oC:k<vb
      ·simp only[oC,iff_true];by_cases ny:va≤k
       ·have:=eO k ny oC;simpa[fm]using this
       ·exact early k ok hk eJ (by omega)
      ·simp only[oC,iff_false];rw[late k ok hk eJ (by omega)];simp
    ·have hsome:∃j,va≤j∧j<vb∧(if j=i then true else inS d9 j)=false:=by
      apply Classical.byContradiction;intro iy;apply eO;intro j h1 h2;cases hS:(if j=i then true else inS d9 j) with
      |true=>rfl
      |false=>exact(iy ⟨j,h1,h2,hS⟩).elim
     refine .inr ⟨λk ok hk eJ ny=>?_,λk ok hk eJ jy=>?_,⟨i,eY.1,eY.2,by simp⟩,hsome,rfl⟩
     ·have fm:k≠i:=by omega
      simp only[fm,aN];exact early k ok hk eJ ny
     ·have fm:k≠i:=by omega
      simp only[fm,aN];exact late k ok hk eJ jy
   have et:(execOp a.eval o).run P w=(((do pure (.value (←Instr.alloc t true (.tuple #[])))):Sem Next)).run P w:=by obtain⟨dst,op,type,pos,after,guard⟩:=o;simp only at fE;subst fE;rfl
   refine ziA (hF.ext kZ) (K:=λv H'=>v=.ptr (hpk hs H i).length 0∧H'=hpk hs H va++zcD hs H va vb (λk=>if k=i then true else inS d9 k)) (by
    rw[et];exact zK8 gS hz nh ⟨by rw[hlen_i],eQ⟩) λv av w' G' H' k1 k2 k3 k4=>?_
   obtain⟨rfl,rfl⟩:=k4;exact next _ w' G' _ gR ((hE.trans kZ).trans k1) k2 (((hF.ext kZ).ext k1).put k3) (jw v)
  |false=>
   obtain⟨Hc',gR,fK⟩:=StOK.step (F:=F) fp hO hW hV e8 eL fV ho ky fQ hr (λs hs=>(iL s hs).symm) hv;have run:(zby fl P o F Hc λv H'=>v=r∧H'=Hc')→o.wp P a w (wpAny P .any eh Q fuel (d9.setIfInBounds i true)) Q:=λfE=>
    ziA hF (zfT hH hF (zHD fE)) λv av w' G' H' k1 k2 k3 k4=>by obtain⟨rfl,rfl⟩:=k4;exact next _ w' G' _ gR (hE.trans k1) k2 ((hF.ext k1).put k3) (jw v)
   have skip:r=.tup []→Hc'=Hc→wpAny P .any eh Q fuel (d9.setIfInBounds i true) (a.put o.dst undef) w:=λk0 he=>by subst k0;subst he;exact next _ w G _ gR hE hH (hF.put zsQ) (jw _)
   unfold TrOK at fK;split at fK
   ·rename_i hg;rw[az (by simp[Region.wanted,hg])];exact .inl (run fK)
   ·rename_i j want hg;obtain⟨d,ic,eD⟩:=fK;rcases eD with ⟨b,hb,hw,fE⟩ | ⟨b,hb,hw,k0,he⟩ | ⟨hb,k0,he⟩
    ·rw[zsV hF hg ic hb,az hw];exact .inl (run fE)
    ·rw[zsV hF hg ic hb,au (by simp[hw])];exact skip k0 he
    ·rw[zBN hF hg ic hb,au (by simp)];exact skip k0 he

theorem Post.of{w0:World}{G0:Gh}{Q:AExit→List AV→zaa→Prop}{a:Act}{F:List AV}{e:AExit}(hE:Ext B w0 G0 w G)(hH:HRel B w G H)(hF:FRel w G a.tmps F)(hd:a.defers=[])(h:Q e F H):Post B w0 G0 Q e.toExit a w:=
 ⟨F,H,G,e,rfl,hE,hH,hF,hd,h⟩

theorem zh3:∀ (m:List Bool) {tm:List Value} {F:List AV},All2 (TRel w G) tm F→All2 (TRel w G) tm (zfO m F)
 |[],tm,F,h=>by unfold zfO;exact h
 |b::m,[],[],h=>by cases b <;> trivial
 |true::m,v::tm,a::F,h=>⟨h.1,zh3 m h.2⟩
 |false::m,v::tm,a::F,h=>⟨trivial,zh3 m h.2⟩

theorem zJq(m:List Bool){y:Code}{Q:AExit→List AV→zaa→Prop}{now:List AV→zaa→Prop}{F:List AV}{H:zaa}(h:nxt m P y Q now F H)(hn:now F H→AWp P y Q F H):AWp P y Q F H:=by
 cases m with
 |nil=>exact hn h
 |cons b ms=>exactλB w G a hH hF hd=>h B w G a hH (zh3 _ hF) hd
theorem zgB{M:Nat→List Bool}:∀(c:Code) (Q:AExit→List AV→zaa→Prop) (F:List AV) (H:zaa),awp P M c Q F H→AWp P c Q F H:=by
 intro c;induction c with
 |skip=>intro Q F H h B w G a hH hF hd;exact wp_skip (Post.of (e:=.normal) (Ext.refl _ _ _) hH hF hd h)
 |label l=>intro Q F H h B w G a hH hF hd;exact wp_label (Post.of (e:=.normal) (Ext.refl _ _ _) hH hF hd h)
 |region id eh draw=>
  intro Q F H h B w G a hH hF hd;cases draw with
  |false=>
   refine wp_region_list ?_;have h:(match M (300000+id) with
    |[]=>zfn P eh eh.toList (Q .normal) F H
    |_::_=>ziI P eh.toList (Q .normal) F H):=h
   split at h
   ·exact zsn (K:=Q .normal) (λa w G F H h1 h2 h3 h4 h5=>Post.of (e:=.normal) h1 h2 h3 h4 h5) eh.toList F H a w G (Ext.refl _ _ _) hH hF hd h
   ·exact zAE (K:=Q .normal) (λa w G F H h1 h2 h3 h4 h5=>Post.of (e:=.normal) h1 h2 h3 h4 h5) eh.toList F H a w G (Ext.refl _ _ _) hH hF hd h
  |true=>
   have main:∀ (fl:Bool) (wc:WM),(fl=true→∀ (k:Nat) ok,eh[k]?=some ok→opA wc ok.op=false∧opN ok.op=false)→(match zeM eh && zd1 wc eh && zeN eh && P.follows .mixedOrders with
     |true=>zc4 fl wc P eh eh.toList (Q .normal) F H
     |false=>False)→(Code.region id eh true).wp P (Post B w G Q) a w:=by
    intro fl wc fp h;split at h
    ·rename_i hb;simp only[aj]at hb;obtain⟨⟨⟨mB,qo⟩,nu⟩,hm⟩:=hb;obtain⟨rs,hs,Fn,Hn,ht,hK⟩:=zdh eh.toList F H h;obtain⟨va,vb,hV⟩:=zzX nu;refine wp_region_any hm ?_;refine zyD fp (zr8 mB) qo hV ht (K:=Q .normal) hK (w0:=w) (G0:=G) (λa w G F H h1 h2 h3 h4 h5=>Post.of (e:=.normal) h1 h2 h3 h4 h5) eh.size _ a _ G F H (.inl ⟨0,bv _,λk ok _ _=>by rw[zfc];simp,by cases hs <;> rfl,.inl λj _ _=>zfc _ _⟩) (by simp) (by simp) ?_ (Ext.drew B w G _ (bL _)) (hH.drew _ (bL _)) ?_ ?_ hd
     ·intro j oj _ hj;rw[zfc]at hj;cases hj
     ·refine⟨rfl,λi o s r _ _ hS=>?_,λs _=>rfl⟩;rw[zfc]at hS;cases hS
     ·exact hF.ext (Ext.drew B w G _ (bL _))
    ·exact h.elim
   simp only[awp]at h;split at h
   ·cases hn:noG eh with
    |false=>simp[hn]at h
    |true=>rw[hn,ch]at h;refine main true .n (λ_ k ok hk=>?_) h;have:=am.1 hn ok (df (by rw[Array.getElem?_toList];exact hk));simpa using this
   have no:∀wc:WM,false=true→∀(k:Nat) ok,eh[k]?=some ok→opA wc ok.op=false∧opN ok.op=false:=λwc h=>by cases h
   split at h
   ·exact main false .n (no _) h
   ·exact main false .w (no _) h
   ·exact main false .g (no _) h
   ·exact main false .c (no _) h
   ·rename_i l _;split at h
    ·rename_i hb;simp only[aj,aS]at hb;obtain⟨⟨⟨⟨⟨mB,qo⟩,nu⟩,hm⟩,kz⟩,eP⟩:=hb;have eB:eh.size-l.length+l.length=eh.size:=by omega
     generalize fw:zd2 eh (eh.size-l.length)=pre at *;have gJ:pre.size=eh.size-l.length:=by rw[←fw];simp[zd2]
     obtain⟨rs,hs,Fn,Hn,ht,hK⟩:=zdh pre.toList F H h;obtain⟨va,vb,hV⟩:=zzX nu;refine wp_region_any hm ?_;have key:=zyD (fl:=false) (λh=>by cases h) (zr8 mB) qo hV ht (K:=zg5 P eh (Q .normal) l.length (zhc (eh.size-l.length) l.length)) hK (Q:=zln (wpAny P .any eh (Post B w G Q) l.length (zhc (eh.size-l.length) l.length)) (Post B w G Q)) (w0:=w) (G0:=G)
      (λa w G F H h1 h2 h3 h4 h5=>zKi (λa w G F H h1 h2 h3 h4 h5=>Post.of (e:=.normal) h1 h2 h3 h4 h5) _ _ a w G F H h1 h2 h3 h4 h5)
      pre.size (Array.replicate pre.size false) a { w with drawn:=w.drawn+1 } G F H (.inl ⟨0,bv _,λk ok _ _=>by rw[zfc];simp,by cases hs <;> rfl,.inl λj _ _=>zfc _ _⟩) (by simp) (by simp) (λj oj _ hj=>by rw[zfc]at hj;cases hj) (Ext.drew B w G _ (bL _)) (hH.drew _ (bL _))
      ⟨rfl,λi o s r _ _ hS=>(by rw[zfc]at hS;cases hS),λs _=>rfl⟩ (hF.ext (Ext.drew B w G _ (bL _))) hd
     have:=zL4 eB fw.symm kz (zr8 mB).edge pre.size (Array.replicate pre.size false) a _ (by simp[gJ]) (by simp) (λj oj _ hS=>by by_cases ei:j<pre.size <;> simp[ei]at hS) key;have e:Array.replicate pre.size false++(List.replicate l.length false).toArray=Array.replicate eh.size false:=by apply Array.toList_inj.1;simp[gJ,List.replicate_append_replicate,eB]
     rw[e,gJ,eB]at this;exact this
    ·exact h.elim
 |seq x y ihx ihy=>
  intro Q F H h B w G a hH hF hd;refine wp_seq (wp_mono (ihx _ F H h B w G a hH hF hd) λe a' w' hp=>?_);obtain⟨F',H',G',e',rfl,h1,h2,h3,h4,h5⟩:=hp;cases e' with
  |normal=>
   have h6:AWp P y Q F' H':=by exact zJq _ h5 (ihy Q F' H')
   refine wp_mono (h6 B w' G' a' h2 h3 h4) λe a'' w'' hp=>?_;obtain⟨F'',H'',G'',e'',rfl,k1,k2,k3,k4,k5⟩:=hp;exact⟨F'',H'',G'',e'',rfl,h1.trans k1,k2,k3,k4,k5⟩
  |exit id=>exact Post.of (e:=.exit id) h1 h2 h3 h4 h5
  |ret=>exact Post.of (e:=.ret) h1 h2 h3 h4 h5
 |scope c ih=>
  intro Q F H h B w G a hH hF hd;refine wp_scope_straight (wp_mono (ih Q F H h B w G a hH hF hd) λe a' w' hp=>?_);obtain⟨F',H',G',e',rfl,h1,h2,h3,h4,h5⟩:=hp;cases e' with
  |normal=>exact Post.of (e:=.normal) h1 h2 h3 h4 h5
  |exit id=>exact Post.of (e:=.exit id) h1 h2 h3 h4 h5
  |ret=>exact Post.of (e:=.ret) h1 h2 h3 h4 h5
 |cond c x y ihx ihy=>
  intro Q F H h B w G a hH hF hd;simp only[awp,zag]at h;split at h
  ·rename_i t ht;have hc:=zaQ hF c;rw[ht]at hc;have hc:a.eval c=.bool t:=hc;unfold aIf at h;refine wp_cond hc ?_;cases t with
   |true=>exact ihx Q F H (by simpa using h) B w G a hH hF hd
   |false=>exact ihy Q F H (by simpa using h) B w G a hH hF hd
  ·exact h.elim
 |block id c ih=>
  intro Q F H h B w G a hH hF hd;refine wp_block (wp_mono (ih _ F H h B w G a hH hF hd) λe a' w' hp=>?_);obtain⟨F',H',G',e',rfl,h1,h2,h3,h4,h5⟩:=hp;cases e' with
  |normal=>exact Post.of (e:=.normal) h1 h2 h3 h4 h5
  |ret=>exact Post.of (e:=.ret) h1 h2 h3 h4 h5
  |exit id'=>
   simp only[AExit.toExit,Exit.inBlock];simp only[zqj]at h5;split at h5
   ·rename_i en;rw[az (by simpa using en)];exact Post.of (e:=.normal) h1 h2 h3 h4 h5
   ·rename_i en;rw[au (by simpa using en)];exact Post.of (e:=.exit id') h1 h2 h3 h4 h5
 |loop c ih=>intro Q F H h B w G a hH hF hd;exact h B w G a hH (zh3 _ hF) hd
 |ret=>intro Q F H h B w G a hH hF hd;exact wp_ret (Post.of (e:=.ret) (Ext.refl _ _ _) hH hF hd h)
 |exit id=>intro Q F H h B w G a hH hF hd;exact wp_exit (Post.of (e:=.exit id) (Ext.refl _ _ _) hH hF hd h)
 |_=>intro Q F H h;exact h.elim

end
end Go.Proofs.YtdmamdnkcefmmaaGreatDoor
