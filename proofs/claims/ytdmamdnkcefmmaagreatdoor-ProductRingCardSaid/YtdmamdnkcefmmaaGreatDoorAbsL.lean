import Derived.Test.YtdmamdnkcefmmaaGreatDoorAbsY
import Derived.Scope
set_option linter.unusedSimpArgs false
set_option linter.unusedVariables false
set_option maxRecDepth 8000
namespace Go.Proofs.YtdmamdnkcefmmaaGreatDoor
section
open Go.RowKit

variable {fl:Bool} {wc:WM} {P:Program} {B:Nat} {w:World} {G:Gh} {H:zaa}

def inS(dW:Array Bool)(i:Nat):Bool:=dW.getD i false

theorem zo6{dW:Array Bool}{i:Nat}(hi:i<dW.size)(k:Nat):inS (dW.setIfInBounds i true) k=if k=i then true else inS dW k:=by
 unfold inS;by_cases hk:k=i
 ·subst hk;simp[hi]
 ·simp[hk,Array.getElem?_setIfInBounds_ne (λh=>hk h.symm)]

theorem zeV(n i:Nat):inS (Array.replicate n false) i=false:=by unfold inS;rw[bS,Array.getElem?_replicate];split <;> rfl

theorem zh8{op:Op}(h:opW wc op=true):opF op=false:=by
 cases op <;> simp only[opW,aF]at h <;> simp only[opF]
 rename_i c;cases hc:c.callee with
 |builtin b=>cases b <;> simp[hc]at h ⊢
 |value f=>rfl
 |invoke r m=>simp[hc]at h
theorem zdg{op:Op}(h:opW wc op=true):opL op=false∧opC wc op=false:=by
 cases op <;> simp only[opW,aF]at h <;> first|exact⟨rfl,rfl⟩|skip
 rename_i c;refine⟨rfl,?_⟩;cases hc:c.callee with
 |builtin b=>cases b <;> simp[hc]at h <;> simp[opC,hc]
 |value f=>simpa[opC,hc]using h
 |invoke r m=>simp[hc]at h
theorem zgu{op:Op}(h:opV op=true):opW wc op=true∧opL op=false∧opC wc op=false∧opA wc op=false∧opF op=false:=by cases op <;> simp only[opV,aF]at h <;> exact⟨rfl,rfl,rfl,rfl,rfl⟩
theorem zGV{op:Op}(h:opV op=true):opN op=true:=by cases op <;> simp only[opV,aF]at h <;> rfl
theorem zxB{op:Op}(h:opL op=true):opW wc op=false∧opF op=false∧opA wc op=false∧opC wc op=false∧opV op=false:=by cases op <;> simp only[opL,aF]at h <;> exact⟨rfl,rfl,rfl,rfl,rfl⟩
theorem zxv{op:Op}(h:opC wc op=true):opW wc op=false∧opF op=false∧opL op=false∧opV op=false:=by
 cases op <;> simp only[opC,aF]at h
 rename_i c;cases hc:c.callee with
 |value f=>exact⟨by simpa[opW,hc]using h,by simp[opF,hc],rfl,rfl⟩
 |builtin b=>simp[hc]at h
 |invoke r m=>simp[hc]at h
theorem zIC{t:TypeId}{z:Value}{id:Nat}{K:AV→zaa→Prop}(hH:HRel B w G H)(hz:zbA P t=some z)(d9:H[id]?=some .gap)(h:K (.ptr id 0) (H.set id (.cells (zbx z)))):
  OpOK P B w G K (((do pure (.value (←Instr.alloc t true (.tuple #[])))):Sem Next).run P w):=by
 obtain⟨he,eJ⟩:=hH.fill d9 z.cells t (zbx z) (zdR z);have ef:((do pure (.value (←Instr.alloc t true (.tuple #[])))):Sem Next).run P w=.ok (.value (.pointer (some ⟨w.heap.size,0,none⟩))) (w.alloc (.cells z.cells t)):=by simp[Instr.alloc,ze5 hz,newVar,newRow,World.alloc_eq]
 rw[ef];refine⟨.ptr id 0,_,_,he,eJ,⟨w.heap.size,?_,rfl⟩,h⟩;exact List.getElem?_set_self (by rw[hH.len];exact(List.getElem?_eq_some_iff.1 d9).1)

def zD7(wc:WM)(d6:Array Oper)(S:Nat→Bool)(p:Nat):Prop:=∀(i:Nat) o,d6[i]?=some o→opW wc o.op=true→(S i=true↔i<p)
def zeJ(fl:Bool)(wc:WM)(P:Program)(d6:Array Oper)(F0 rs:List AV)(hs:List zaa)(H:zaa):Prop:=
 ∀ (i:Nat) o,d6.toList[i]?=some o→∃ r,rs[i]?=some r∧TrOK fl P d6 (hpk hs H i) (frk d6.toList rs F0 i) o r (hpk hs H (i+1))∧frk d6.toList rs F0 (i+1)=zbQ (frk d6.toList rs F0 i) o.dst r ∧
  (opW wc o.op=false→hpk hs H (i+1)=hpk hs H i)∧(opC wc o.op=true→∀J,TrOK fl P d6 (hpk hs H i++J) (frk d6.toList rs F0 i) o r (hpk hs H i++J))∧(opG wc o.op=true→GrowA (hpk hs H i) (hpk hs H (i+1)))

theorem zdd{d6:Array Oper}{hs:List zaa}{F0 rs:List AV}(eR:zeJ fl wc P d6 F0 rs hs H){p:Nat}:∀ (q:Nat),p≤q→q≤d6.size→(∀ (i:Nat) o,d6[i]?=some o→opW wc o.op=true→p≤i→i<q→False)→hpk hs H q=hpk hs H p
 |0,hp,_,_=>by rw[Nat.le_zero.1 hp]
 |q+1,hp,hq,hn=>by
  by_cases he:p=q+1
  ·rw[he]
  ·have ho:d6[q]?=some d6[q]:=by simp[show q<d6.size by omega]
   obtain⟨r,_,_,_,h4,_⟩:=eR q d6[q] (by simp);have hw:opW wc (d6[q]).op=false:=by
    cases hw:opW wc (d6[q]).op with
    |false=>rfl
    |true=>exact(hn q _ ho hw (by omega) (by omega)).elim
   rw[h4 hw];exact zdd eR q (by omega) (by omega) (λi o h1 h2 h3 h4=>hn i o h1 h2 h3 (by omega))
theorem zGP{op:Op}(h:opA wc op=true):opA .n op=true∨opG wc op=true:=by
 cases op <;> simp only[opA,aF]at h
 rename_i c;cases hc:c.callee with
 |value f=>right;simpa[opG,hc]using h
 |builtin b=>left;cases b <;> simp[opA,hc]at h ⊢
 |invoke r m=>simp[hc]at h
theorem TrOK.growW{d6:Array Oper}{F:List AV}{o:Oper}{r:AV}{H H':zaa}(ht:TrOK fl P d6 H F o r H')(hg:opG wc o.op=true→GrowA H H')(ho:opA wc o.op=true):GrowA H H':=by
 rcases zGP ho with h|h
 ·exact ht.growA h
 ·exact hg h
theorem zo3{d6:Array Oper}{hs:List zaa}{F0 rs:List AV}(eR:zeJ fl wc P d6 F0 rs hs H){i:Nat}:∀ (q:Nat),i≤q→q≤d6.size→(∀ (k:Nat) o,d6[k]?=some o→opW wc o.op=true→i≤k→k<q→opA wc o.op=true∨opN o.op=true) →
  ∀(id:Nat) (cs:List AV),(hpk hs H i)[id]?=some (AB.cells cs)→(hpk hs H q)[id]?=some (AB.cells cs)
 |0,h1,_,_,id,cs,hc=>by rw[Nat.le_zero.1 h1]at hc;exact hc
 |q+1,h1,h2,hn,id,cs,hc=>by
  by_cases he:i=q+1
  ·rw[←he];exact hc
  ·have hq:d6[q]?=some d6[q]:=by simp[show q<d6.size by omega]
   obtain⟨rq,_,ol,_,o6,_,o7⟩:=eR q d6[q] (by simp);have h3:=zo3 eR q (by omega) (by omega) (λk o a b c d=>hn k o a b c (by omega)) id cs hc;cases nH:opW wc (d6[q]).op with
   |false=>rw[o6 nH];exact h3
   |true=>
    rcases hn q _ hq nH (by omega) (by omega) with ha|ha
    ·exact(ol.growW o7 ha).grow.cells h3
    ·exact(ol.growN ha).cells h3
theorem zwH{d6:Array Oper}{hs:List zaa}{F0 rs:List AV}(eR:zeJ fl wc P d6 F0 rs hs H){p:Nat}:∀ (q:Nat),p≤q→q≤d6.size→(∀ (k:Nat) o,d6[k]?=some o→opW wc o.op=true→p≤k→k<q→opA wc o.op=true) →
  ∀(id:Nat) (cs:List AV),(hpk hs H q)[id]?=some (AB.cells cs)→(hpk hs H p)[id]?=some (AB.cells cs)
 |0,h1,_,_,id,cs,hc=>by rw[Nat.le_zero.1 h1];exact hc
 |q+1,h1,h2,hn,id,cs,hc=>by
  by_cases he:p=q+1
  ·rw[he];exact hc
  ·have hq:d6[q]?=some d6[q]:=by simp[show q<d6.size by omega]
   obtain⟨rq,_,ol,_,o6,_,o7⟩:=eR q d6[q] (by simp);refine zwH eR q (by omega) (by omega) (λk o a b c d=>hn k o a b c (by omega)) id cs ?_;cases nH:opW wc (d6[q]).op with
   |false=>rw[o6 nH]at hc;exact hc
   |true=>exact(ol.growW o7 (hn q _ hq nH (by omega) (by omega))).cells hc

structure VB (d6:Array Oper) (a b:Nat):Prop where
 le:a≤b
 fit:b≤d6.size
 iff:∀(i:Nat) o,d6[i]?=some o→(opV o.op=true↔a≤i∧i<b)
 bare:∀(i:Nat) o,d6[i]?=some o→opV o.op=true→o.guard=none
theorem zxD{d6:Array Oper}(h:zew d6=true):∃a b,VB d6 a b:=by
 unfold zew at h;have mem:∀(i:Nat) o,d6[i]?=some o→(o,i)∈d6.toList.zipIdx:=λi o ho=>by rw[cn];simpa using ho
 split at h
 ·rename_i hn;rw[List.any_eq_false]at hn;have no:∀(i:Nat) o,d6[i]?=some o→opV o.op=true→False:=λi o ho hv=>hn o (aM.2 ⟨i,by simpa using ho⟩) hv;exact⟨0,0,aa _,bu _,λi o ho=>⟨λhv=>(no i o ho hv).elim,λhc=>by omega⟩,λi o ho hv=>(no i o ho hv).elim⟩
 ·rename_i hn;generalize d6.toList.findIdx (λo=>opV o.op)=a at h;generalize d6.toList.countP (λo=>opV o.op)=k at h;have key:∀ (i:Nat) o,d6[i]?=some o→(opV o.op=true↔a≤i∧i<a+k)∧(opV o.op=true→o.guard=none):=λi o ho=>by have:=ak.1 h _ (mem i o ho);simp only[ai,a6,bZ,cw,Option.isNone_iff_eq_none]at this;refine⟨?_,λhv=>(this.2.resolve_left (by simp[hv]))⟩;rw[this.1];simp
  by_cases eU:a+k≤d6.size
  ·exact⟨a,a+k,by omega,eU,λi o ho=>(key i o ho).1,λi o ho=>(key i o ho).2⟩
  ·by_cases ha:a≤d6.size
   ·refine⟨a,d6.size,ha,aa _,λi o ho=>?_,λi o ho=>(key i o ho).2⟩;have hi:i<d6.size:=(Array.getElem?_eq_some_iff.1 ho).1;rw[(key i o ho).1];constructor <;> rintro⟨_,_⟩ <;> constructor <;> omega
   ·refine⟨0,0,aa _,bu _,λi o ho=>?_,λi o ho=>(key i o ho).2⟩;have hi:i<d6.size:=(Array.getElem?_eq_some_iff.1 ho).1;rw[(key i o ho).1];constructor <;> rintro⟨_,_⟩ <;> omega

def zOf(hs:List zaa)(H:zaa)(j:Nat):List AV:=match (hpk hs H (j+1))[(hpk hs H j).length]? with|some (.cells cs)=>cs|_=>[]
theorem zxn{d6:Array Oper}{hs:List zaa}{F0 rs:List AV}{a b:Nat}(eR:zeJ fl wc P d6 F0 rs hs H)(hV:VB d6 a b){j:Nat}(h1:a≤j)(h2:j<b):
  ∃o t z,d6[j]?=some o∧o.op=.alloc t∧zbA P t=some z∧zOf hs H j=zbx z∧hpk hs H (j+1)=hpk hs H j++[.cells (zOf hs H j)]∧rs[j]?=some (.ptr (hpk hs H j).length 0):=by
 have hj:j<d6.size:=by have:=hV.fit;omega
 have ho:d6[j]?=some d6[j]:=by simp[hj]
 have hv:=(hV.iff j _ ho).2 ⟨h1,h2⟩;obtain⟨r,hr,lx,_⟩:=eR j d6[j] (by simp);unfold TrOK at lx;rw[hV.bare j _ ho hv]at lx;simp only[]at lx;have fp:∃t,(d6[j]).op=.alloc t:=by
  revert hv
  cases (d6[j]).op <;> simp[opV]
 obtain⟨t,fp⟩:=fp;simp only[zbn,aop,zdr,fp,isM]at lx;split at lx
 ·rename_i z hz;obtain⟨e1,e2⟩:=lx;have om:zOf hs H j=zbx z:=by unfold zOf;rw[←e2];simp
  exact⟨d6[j],t,z,ho,fp,hz,om,by rw[om];exact e2.symm,by rw[hr,←e1]⟩
 ·exact lx.elim
def zcq(hs:List zaa)(H:zaa)(a b:Nat)(S:Nat→Bool):zaa:=(List.range (b-a)).map λq=>if S (a+q)=true then AB.cells (zOf hs H (a+q)) else .gap
theorem zo4{d6:Array Oper}{hs:List zaa}{F0 rs:List AV}{a b:Nat}(eR:zeJ fl wc P d6 F0 rs hs H)(hV:VB d6 a b):∀ m,a+m≤b→hpk hs H (a+m)=hpk hs H a++(List.range m).map λq=>AB.cells (zOf hs H (a+q))
 |0,_=>by simp
 |m+1,hm=>by obtain⟨o,t,z,_,_,_,_,h1,_⟩:=zxn eR hV (j:=a+m) (by omega) (by omega);rw[show a+(m+1)=a+m+1 by omega,h1,zo4 eR hV m (by omega),bO,aP,aw];rfl
theorem zwD{d6:Array Oper}{hs:List zaa}{F0 rs:List AV}{a b:Nat}(eR:zeJ fl wc P d6 F0 rs hs H)(hV:VB d6 a b){S:Nat→Bool}(h:∀j,a≤j→j<b→S j=true):hpk hs H a++zcq hs H a b S=hpk hs H b:=by have:=zo4 eR hV (b-a) (by have:=hV.le;omega);rw[show a+(b-a)=b by have:=hV.le;omega]at this;rw[this];congr 1;apply be;intro q hq;rw[aA (h (a+q) (by omega) (by have:=bh.1 hq;omega))]
theorem zFQ{hs:List zaa}{a b:Nat}{S:Nat→Bool}(h:∀j,a≤j→j<b→S j=false):zcq hs H a b S=List.replicate (b-a) .gap:=by
 apply aJ;intro q;unfold zcq;rw[List.getElem?_map];by_cases hq:q<b-a
 ·rw[List.getElem?_range hq,List.getElem?_replicate,aA hq];simp[h (a+q) (by omega) (by omega)]
 ·rw[List.getElem?_eq_none (by simp;omega),List.getElem?_eq_none (by simp;omega)];rfl
theorem zFR{hs:List zaa}{a b i:Nat}{S:Nat→Bool}(h1:a≤i)(h2:i<b):(zcq hs H a b S).set (i-a) (.cells (zOf hs H i))=zcq hs H a b (λk=>if k=i then true else S k):=by
 apply aJ;intro q;by_cases hq:q=i-a
 ·subst hq;rw[List.getElem?_set_self (by simp[zcq];omega)];unfold zcq;rw[List.getElem?_map,List.getElem?_range (by omega)];simp[show a+(i-a)=i by omega]
 ·rw[List.getElem?_set_ne (λh=>hq h.symm)];unfold zcq;rw[List.getElem?_map,List.getElem?_map];by_cases hq2:q<b-a
  ·rw[List.getElem?_range hq2];simp[show a+q≠i by omega]
  ·rw[List.getElem?_eq_none (by simp;omega)];rfl
theorem zFP{hs:List zaa}{a b i:Nat}{S:Nat→Bool}(h1:a≤i)(h2:i<b)(h:S i=false):(zcq hs H a b S)[i-a]?=some .gap:=by unfold zcq;rw[List.getElem?_map,List.getElem?_range (by omega)];simp[show a+(i-a)=i by omega,h]

def StOK(wc:WM)(d6:Array Oper)(hs:List zaa)(H:zaa)(a b:Nat)(S:Nat→Bool)(Hc:zaa):Prop:=
 (∃p,p≤d6.size∧zD7 wc d6 S p∧Hc=hpk hs H p∧((∀j,a≤j→j<b→S j=false)∨(∀j,a≤j→j<b→S j=true))) ∨
 ((∀ (k:Nat) o,d6[k]?=some o→opW wc o.op=true→k<a→S k=true)∧(∀ (k:Nat) o,d6[k]?=some o→opW wc o.op=true→b≤k→S k=false) ∧
   (∃j,a≤j∧j<b∧S j=true)∧(∃j,a≤j∧j<b∧S j=false)∧Hc=hpk hs H a++zcq hs H a b S)

theorem StOK.congr{d6:Array Oper}{hs:List zaa}{a b:Nat}{S S':Nat→Bool}{Hc:zaa}(hV:VB d6 a b)(h:StOK wc d6 hs H a b S Hc)(he:∀i,i<d6.size→S i=S' i):StOK wc d6 hs H a b S' Hc:=by
 have eU:=hV.fit;rcases h with ⟨p,h1,h2,h3,h4⟩|⟨h1,h2,⟨j,jV,jD,ly⟩,⟨k,jl,lz,nu⟩,h5⟩
 ·refine .inl ⟨p,h1,λi o ho hw=>by rw[←he i (Array.getElem?_eq_some_iff.1 ho).1];exact h2 i o ho hw,h3,?_⟩;rcases h4 with h4 | h4
  ·exact .inl λj a b=>by rw[←he j (by omega)];exact h4 j a b
  ·exact .inr λj a b=>by rw[←he j (by omega)];exact h4 j a b
 ·refine .inr ⟨λk o ho hw hk=>by rw[←he k (Array.getElem?_eq_some_iff.1 ho).1];exact h1 k o ho hw hk,λk o ho hw hk=>by rw[←he k (Array.getElem?_eq_some_iff.1 ho).1];exact h2 k o ho hw hk,
   ⟨j,jV,jD,by rw[←he j (by omega)];exact ly⟩,⟨k,jl,lz,by rw[←he k (by omega)];exact nu⟩,?_⟩
  rw[h5];congr 1;apply be;intro q hq;rw[he (a+q) (by have:=bh.1 hq;omega)]

section
variable {d6:Array Oper} {F0 rs F:List AV} {hs:List zaa} {S:Nat→Bool} {i:Nat} {o:Oper} {r:AV} {a b:Nat} {Hc:zaa}
theorem StOK.step(eZ:fl=true→∀ (k:Nat) ok,d6[k]?=some ok→opA wc ok.op=false∧opN ok.op=false)(hO:Ord d6)(hW:zdL wc d6=true)(hV:VB d6 a b)(eR:zeJ fl wc P d6 F0 rs hs H)(eD:StOK wc d6 hs H a b S Hc)(fd:∀ (j:Nat) oj,d6[j]?=some oj→S j=true→∀ e∈oj.after,Region.binds .any e=true→S e.on=true)(ho:d6[i]?=some o)(jE:S i=false)(fw:∀ e∈o.after,Region.binds .any e=true→S e.on=true)(hr:rs[i]?=some r)(gU:∀ s∈zeu d6 o,(frk d6.toList rs F0 i).getD s .unk=F.getD s .unk)(kp:opV o.op=false):
  ∃Hc',StOK wc d6 hs H a b (λk=>if k=i then true else S k) Hc'∧TrOK fl P d6 Hc F o r Hc':=by
 have mw:i<d6.size:=(Array.getElem?_eq_some_iff.1 ho).1;have eU:=hV.fit;have eH:=hV.le;obtain⟨r',lX,lx,_,nI,hxx,_⟩:=eR i o (by simpa using ho);rw[hr]at lX;cases lX;have ft:TrOK fl P d6 (hpk hs H i) F o r (hpk hs H (i+1)):=lx.congr gU;have hx:opC wc o.op=true→∀J,TrOK fl P d6 (hpk hs H i++J) F o r (hpk hs H i++J):=λhc J=>(hxx hc J).congr gU;have nJ:¬(a≤i∧i<b):=λh=>by have:=(hV.iff i o ho).2 h;rw[kp]at this;cases this
 have isNew:∀{k:Nat},a≤k→k<b→∃ok,d6[k]?=some ok∧opV ok.op=true:=λ{k} h1 h2=>by
  have hk:d6[k]?=some d6[k]:=by simp[show k<d6.size by omega]
  exact⟨_,hk,(hV.iff k _ hk).2 ⟨h1,h2⟩⟩
 have notV:∀{k:Nat} {ok:Oper},d6[k]?=some ok→¬(a≤k∧k<b)→opV ok.op=false:=λ{k ok} hk hn=>by
  cases hv:opV ok.op with
  |false=>rfl
  |true=>exact(hn ((hV.iff k ok hk).1 hv)).elim
 have uf:∀{q p:Op},opL q=false→opL p=false→(opC wc q=false∨opV p=false)→(opV q=false∨opV p=false)→okU wc q p=false:=λh1 h2 h3 h4=>by unfold okU;rw[h1,h2];rcases h3 with h3|h3 <;> rcases h4 with h4|h4 <;> simp[h3,h4]
 -- what writes before it is done, what writes behind it is not
 have before:opF o.op=false→∀(k:Nat) ok,d6[k]?=some ok→opW wc ok.op=true→k<i→okU wc ok.op o.op=false→S k=true:=λhf k ok hk hw d7 hu=>
  (zka hO hW ho hk d7 (.inr hw) hf (zh8 hw) hu).ready fd ho fw
 have behind:opF o.op=false→∀(k:Nat) ok,d6[k]?=some ok→opW wc ok.op=true→i<k→okU wc o.op ok.op=false→S k=false:=λhf k ok hk hw d7 hu=>by
  cases hS:S k with
  |false=>rfl
  |true=>have:=(zka hO hW hk ho d7 (.inl hw) (zh8 hw) hf hu).closed fd hS;rw[jE]at this;cases this
 have keepS:∀Hc0,opW wc o.op=false→StOK wc d6 hs H a b S Hc0→StOK wc d6 hs H a b (λk=>if k=i then true else S k) Hc0:=by
  intro Hc0 hw h;have other:∀(k:Nat) ok,d6[k]?=some ok→opW wc ok.op=true→k≠i:=λk ok hk eu eY=>by subst eY;rw[ho]at hk;cases hk;rw[hw]at eu;cases eu
  have otherV:∀j,a≤j→j<b→j≠i:=λj h1 h2 gD=>by subst gD;exact nJ ⟨h1,h2⟩
  rcases h with ⟨p,h1,h2,h3,h4⟩|⟨h1,h2,⟨j,jV,jD,ly⟩,⟨k,jl,lz,nu⟩,h5⟩
  ·refine .inl ⟨p,h1,λk ok hk eu=>by simp only[other k ok hk eu,aH];exact h2 k ok hk eu,h3,?_⟩;rcases h4 with h4 | h4
   ·exact .inl λj x y=>by simp only[otherV j x y,aH];exact h4 j x y
   ·exact .inr λj x y=>by simp only[otherV j x y,aH];exact h4 j x y
  ·refine .inr ⟨λk ok hk eu my=>by simp only[other k ok hk eu,aH];exact h1 k ok hk eu my,λk ok hk eu my=>by simp only[other k ok hk eu,aH];exact h2 k ok hk eu my,
    ⟨j,jV,jD,by simp only[otherV j jV jD,aH];exact ly⟩,⟨k,jl,lz,by simp only[otherV k jl lz,aH];exact nu⟩,?_⟩
   rw[h5];congr 1;apply be;intro q hq;have:=bh.1 hq;simp only[otherV (a+q) (by omega) (by omega),aH]
 cases hf:opF o.op with
 |true=>
  have hw:opW wc o.op=false:=by
   cases hw:opW wc o.op with
   |false=>rfl
   |true=>rw[zh8 hw]at hf;cases hf
  rw[nI hw]at ft;exact⟨Hc,keepS Hc hw eD,ft.free hf⟩
 |false=>
 rcases eD with ⟨p,hp,i5,rfl,nK⟩|hII
 ·-- the heap of the text
  have stay:StOK wc d6 hs H a b S (hpk hs H p):=.inl ⟨p,hp,i5,rfl,nK⟩;cases hl:opL o.op with
  |true=>
   obtain⟨hw,_,o8,kX,_⟩:=zxB hl;rw[nI hw]at ft;have dn:∀(k:Nat) ok,d6[k]?=some ok→opW wc ok.op=true→p≤k→k<i→opA wc ok.op=true:=λk ok hk eu eH d7=>by
    cases hu:okU wc ok.op o.op with
    |true=>obtain⟨h1,h2⟩:=zdg eu;simp only[okU,h1,h2,kp,hl,aY,bt,bz,cu,ce]at hu;exact hu
    |false=>have:=(i5 k ok hk eu).1 (before hf k ok hk eu d7 hu);omega
   have up:∀(k:Nat) ok,d6[k]?=some ok→opW wc ok.op=true→i≤k→k<p→opA wc ok.op=true∨opN ok.op=true:=λk ok hk eu eH d7=>by
    have gm:=(i5 k ok hk eu).2 d7;have eY:k≠i:=by rintro rfl;rw[jE]at gm;cases gm
    cases hu:okU wc o.op ok.op with
    |true=>obtain⟨h1,h2⟩:=zdg eu;simp only[okU,hl,h1,o8,kX,kp,aY,bt,bz,cu,bi,bZ]at hu;exact hu
    |false=>have:=behind hf k ok hk eu (by omega) hu;rw[this]at gm;cases gm
   refine⟨hpk hs H p,keepS _ hw stay,ft.load hl (λiX=>?_) ?_⟩
   ·by_cases mz:p≤i
    ·exact(zdd eR i mz (by omega) λk ok h1 h2 h3 h4=>by have:=dn k ok h1 h2 h3 h4;rw[(eZ iX k ok h1).1]at this;cases this).symm
    ·exact zdd eR p (by omega) hp λk ok h1 h2 h3 h4=>by have:=up k ok h1 h2 h3 h4;rw[(eZ iX k ok h1).1,(eZ iX k ok h1).2]at this;rcases this with h|h <;> cases h
   by_cases mz:p≤i
   ·exact zwH eR i mz (by omega) dn
   ·exact zo3 eR p (by omega) hp up
  |false=>
   cases hc:opC wc o.op with
   |true=>
    obtain⟨hw,_,_,_⟩:=zxv hc;have below:∀(k:Nat) ok,d6[k]?=some ok→opW wc ok.op=true→k<i→k<p:=λk ok hk eu d7=>
     (i5 k ok hk eu).1 (before hf k ok hk eu d7 (uf (zdg eu).1 hl (.inl (zdg eu).2) (.inr kp)))
    have above:∀(k:Nat) ok,d6[k]?=some ok→opW wc ok.op=true→i<k→¬(a≤k∧k<b)→¬k<p:=λk ok hk eu d7 hn nL=>by have:=behind hf k ok hk eu d7 (uf hl (zdg eu).1 (.inr (notV hk hn)) (.inl kp));rw[(i5 k ok hk eu).2 nL]at this;cases this
    refine⟨hpk hs H p,keepS _ hw stay,?_⟩;have same:(∀(k:Nat) ok,d6[k]?=some ok→opW wc ok.op=true→i≤k→k<p→False)→TrOK fl P d6 (hpk hs H p) F o r (hpk hs H p):=λgN=>by
     have e:hpk hs H p=hpk hs H i:=by
      by_cases mz:p≤i
      ·exact(zdd eR i mz (by omega) (λk ok hk eu h1 h2=>by have:=below k ok hk eu h2;omega)).symm
      ·exact zdd eR p (by omega) hp gN
     rw[nI hw]at ft;rw[e];exact ft
    have selfW:∀(k:Nat) ok,d6[k]?=some ok→opW wc ok.op=true→k≠i:=λk ok hk eu eY=>by subst eY;rw[ho]at hk;cases hk;rw[hw]at eu;cases eu
    rcases nK with gN|eB
    ·refine same λk ok hk eu h1 h2=>?_;have eY:=selfW k ok hk eu;by_cases gC:a≤k∧k<b
     ·have:=gN k gC.1 gC.2;rw[(i5 k ok hk eu).2 h2]at this;cases this
     ·exact above k ok hk eu (by omega) gC h2
    ·by_cases o9:i<a
     ·by_cases eS:a=b
      ·refine same λk ok hk eu h1 h2=>?_;exact above k ok hk eu (by have:=selfW k ok hk eu;omega) (by omega) h2
      ·-- all new variables are there
       obtain⟨on,lv,hvn⟩:=isNew (k:=b-1) (by omega) (by omega);have hbp:b≤p:=by have:=(i5 (b-1) on lv (zgu hvn).1).1 (eB (b-1) (by omega) (by omega));omega
       have e1:hpk hs H a=hpk hs H i:=zdd eR a (by omega) (by omega) (λk ok hk eu h1 h2=>by
        have eY:=selfW k ok hk eu;exact above k ok hk eu (by omega) (by omega) (by omega))
       have e2:hpk hs H p=hpk hs H b:=zdd eR p hbp hp (λk ok hk eu h1 h2=>above k ok hk eu (by omega) (by omega) h2);rw[e2,←zwD eR hV eB,e1];exact hx hc _
     ·refine same λk ok hk eu h1 h2=>?_;exact above k ok hk eu (by have:=selfW k ok hk eu;omega) (by omega) h2
   |false=>
    have below:∀(k:Nat) ok,d6[k]?=some ok→opW wc ok.op=true→k<i→k<p:=λk ok hk eu d7=>
     (i5 k ok hk eu).1 (before hf k ok hk eu d7 (uf (zdg eu).1 hl (.inl (zdg eu).2) (.inr kp)))
    have above:∀(k:Nat) ok,d6[k]?=some ok→opW wc ok.op=true→i≤k→¬k<p:=λk ok hk eu eH nL=>by
     have gm:=(i5 k ok hk eu).2 nL;by_cases eY:k=i
     ·subst eY;rw[jE]at gm;cases gm
     ·have:=behind hf k ok hk eu (by omega) (uf hl (zdg eu).1 (.inl hc) (.inl kp));rw[gm]at this;cases this
    have e:hpk hs H p=hpk hs H i:=by
     by_cases mz:p≤i
     ·exact(zdd eR i mz (by omega) (λk ok hk eu h1 h2=>by have:=below k ok hk eu h2;omega)).symm
     ·exact zdd eR p (by omega) hp (λk ok hk eu h1 h2=>above k ok hk eu h1 h2)
    cases hw:opW wc o.op with
    |false=>rw[nI hw]at ft;exact⟨hpk hs H p,keepS _ hw stay,by rw[e];exact ft⟩
    |true=>
     refine⟨hpk hs H (i+1),.inl ⟨i+1,by omega,λk ok hk eu=>?_,rfl,?_⟩,by rw[e];exact ft⟩
     ·by_cases eY:k=i
      ·subst eY;simp
      ·simp only[eY,aH];rw[i5 k ok hk eu];constructor
       ·intro nL;by_cases lC:i≤k
        ·exact(above k ok hk eu lC nL).elim
        ·omega
       ·intro hki2;exact below k ok hk eu (by omega)
     ·rcases nK with gN | eB
      ·exact .inl λj x y=>by have:j≠i:=λh=>nJ ⟨by omega,by omega⟩;simp only[this,aH];exact gN j x y
      ·exact .inr λj x y=>by have:j≠i:=λh=>nJ ⟨by omega,by omega⟩;simp only[this,aH];exact eB j x y
 ·-- some of the new variables are there
  obtain⟨h1,h2,⟨j0,jV,jD,ly⟩,⟨j1,jl,lz,nu⟩,h5⟩:=hII;obtain⟨o0,ho0,gV⟩:=isNew jV jD;obtain⟨o1,ho1,jW⟩:=isNew jl lz;have o9:i<a:=by
   by_cases o9:i<a
   ·exact o9
   ·have:=before hf j1 o1 ho1 (zgu jW).1 (by omega) (by
     obtain⟨_,x1,x2,x3,_⟩:=zgu (wc:=wc) jW;unfold okU;simp[x1,x2,x3,kp])
    rw[nu]at this;cases this
  have early:okU wc o.op o0.op=true:=by
   cases hu:okU wc o.op o0.op with
   |true=>rfl
   |false=>have:=behind hf j0 o0 ho0 (zgu gV).1 (by omega) hu;rw[ly]at this;cases this
  have stay:StOK wc d6 hs H a b S Hc:=.inr ⟨h1,h2,⟨j0,jV,jD,ly⟩,⟨j1,jl,lz,nu⟩,h5⟩;subst h5;cases hl:opL o.op with
  |true=>
   obtain⟨hw,_,o8,kX,_⟩:=zxB hl;rw[nI hw]at ft;refine⟨_,keepS _ hw stay,ft.load hl (λiX=>by have:=(eZ iX j0 o0 ho0).2;rw[zGV gV]at this;cases this) λid cs ew=>?_⟩;have:=zo3 eR a (by omega) (by omega) (λk ok hk eu eH d7=>by
    have gm:=h1 k ok hk eu d7;have eY:k≠i:=by rintro rfl;rw[jE]at gm;cases gm
    cases hu:okU wc o.op ok.op with
    |true=>obtain⟨x1,x2⟩:=zdg eu;simp only[okU,hl,x1,o8,kX,kp,aY,bt,bz,cu,bi,bZ]at hu;exact hu
    |false=>
     have:=behind hf k ok hk eu (by omega) hu;rw[this]at gm;cases gm) id cs ew
   rw[List.getElem?_append_left (List.getElem?_eq_some_iff.1 this).1];exact this
  |false=>
   have hc:opC wc o.op=true:=by unfold okU at early;simp only[hl,kp,(zgu (wc:=wc) gV).2.1,aY,bz,bt,cu,ai]at early;exact early.1
   obtain⟨hw,_,_,_⟩:=zxv hc;have e1:hpk hs H a=hpk hs H i:=zdd eR a (by omega) (by omega) (λk ok hk eu eH d7=>by
    have gm:=h1 k ok hk eu d7;have eY:k≠i:=by rintro rfl;rw[jE]at gm;cases gm
    have:=behind hf k ok hk eu (by omega) (uf hl (zdg eu).1 (.inr (notV hk (by omega))) (.inl kp));rw[this]at gm;cases gm)
   refine⟨_,keepS _ hw stay,?_⟩;rw[e1];exact hx hc _
end

theorem zwm{d6:Array Oper}{F0 rs Fn:List AV}{hs:List zaa}{Hn:zaa}{K:List AV→zaa→Prop}{Q:Exit→Act→World→Prop}{w0:World}{G0:Gh}{va vb:Nat}(eZ:fl=true→∀ (k:Nat) ok,d6[k]?=some ok→opA wc ok.op=false∧opN ok.op=false)(hO:Ord d6)(hW:zdL wc d6=true)(hV:VB d6 va vb)(ht:TrL fl wc P d6 d6.toList F0 H rs hs Fn Hn)(hK:K Fn Hn)(hQ:∀ a w G F H,Ext B w0 G0 w G→HRel B w G H→FRel w G a.tmps F→a.defers=[]→K F H→Q .normal a w):
  ∀ (fuel:Nat) (dW:Array Bool) (a:Act) (w:World) (G:Gh) (F:List AV) (Hc:zaa),StOK wc d6 hs H va vb (inS dW) Hc→dW.size=d6.size→dW.toList.count false≤fuel →
   (∀(j:Nat) oj,d6[j]?=some oj→inS dW j=true→∀e∈oj.after,Region.binds .any e=true→inS dW e.on=true) →
   Ext B w0 G0 w G→HRel B w G Hc→FlRel d6 F0 rs (inS dW) F→FRel w G a.tmps F→a.defers=[]→wpAny P .any d6 Q fuel dW a w:=by
 obtain⟨d8,pe,hhn,hat0⟩:=ht.at;have eR:zeJ fl wc P d6 F0 rs hs H:=hat0;have iw:rs.length=d6.size:=by simpa using d8
 have eU:=hV.fit
 -- nothing is ready only at the end
 have fin:∀ (dW:Array Bool) (a:Act) (w:World) (G:Gh) (F:List AV) (Hc:zaa),StOK wc d6 hs H va vb (inS dW) Hc→dW.size=d6.size→Ext B w0 G0 w G→HRel B w G Hc→FlRel d6 F0 rs (inS dW) F→FRel w G a.tmps F→a.defers=[] →
   Region.ready .any d6 dW=[]→Q .normal a w:=by
  intro dW a w G F Hc eD ep hE hH lD hF hd hr;have all:∀i,i<d6.size→inS dW i=true:=by
   intro i;induction i using Nat.strongRecOn with
   |_ i ih=>
    intro hi;cases hS:inS dW i with
    |true=>rfl
    |false=>
     have:i∈Region.ready .any d6 dW:=by
      rw[mem_ready];refine⟨?_,d6[i],by simp[hi],λe he hb=>?_⟩
      ·have gG:i<dW.size:=by omega
       simpa[inS,gG]using hS
      ·have d7:=hO.edge i d6[i] (by simp[hi]) e he hb;exact ih e.on d7 (by omega)
     rw[hr]at this;cases this
  have h1:FlRel d6 F0 rs (λk=>decide (k<d6.size)) F:=lD.congr λi hi=>by rw[all i hi];simp[hi]
  have h2:=zoX hO ht d6.size (aa _);have:F=Fn:=by rw[FlRel.same iw h1 h2,←pe];simp
  rw[this]at hF;have hHn:Hc=Hn:=by
   rcases eD with ⟨p,hp,i5,rfl,_⟩|⟨_,_,_,⟨j,jV,jD,ly⟩,_⟩
   ·rw[←hhn,Array.length_toList];exact(zdd eR d6.size hp (aa _) (λi o h1 h2 h3 h4=>by
     have:=(i5 i o h1 h2).1 (all i h4);omega)).symm
   ·rw[all j (by omega)]at ly;cases ly
  rw[hHn]at hH;exact hQ a w G Fn Hn hE hH hF hd hK
 intro fuel;induction fuel with
 |zero=>
  intro dW a w G F Hc eD ep hc fd hE hH lD hF hd;have hr:Region.ready .any d6 dW=[]:=by
   cases hr:Region.ready .any d6 dW with
   |nil=>rfl
   |cons i is=>
    have hi:i∈Region.ready .any d6 dW:=by rw[hr];simp
    obtain⟨h1,o,ho,_⟩:=mem_ready.1 hi;have gG:i<dW.size:=by rw[ep];exact(Array.getElem?_eq_some_iff.1 ho).1
    have hf:dW[i]=false:=by simpa[gG]using h1
    have:false∈dW.toList:=by rw[←hf];simp
    have:=dm.2 this;omega
  exact⟨hr,fin dW a w G F Hc eD ep hE hH lD hF hd hr⟩
 |succ fuel ih=>
  intro dW a w G F Hc eD ep hc fd hE hH lD hF hd;refine⟨fin dW a w G F Hc eD ep hE hH lD hF hd,λi hi=>?_⟩;obtain⟨h1,o,ho,fw⟩:=mem_ready.1 hi;have mw:i<d6.size:=(Array.getElem?_eq_some_iff.1 ho).1;have gG:i<dW.size:=by omega
  have jE:inS dW i=false:=by
   have:dW[i]=false:=by simpa[gG]using h1
   simp[inS,gG,this]
  obtain⟨r,hr,_⟩:=eR i o (by simpa using ho);have gU:=zHu hO iw lD (zoX hO ht i (by omega)) ho jE fw fd
  -- what comes behind it
  have next:∀(a':Act) (w':World) (G':Gh) (Hc':zaa),StOK wc d6 hs H va vb (λk=>if k=i then true else inS dW k) Hc'→Ext B w0 G0 w' G'→HRel B w' G' Hc'→FRel w' G' a'.tmps (zbQ F o.dst r)→a'.defers=[]→wpAny P .any d6 Q fuel (dW.setIfInBounds i true) a' w':=by
   intro a' w' G' Hc' gn iW eJ l7 jT;refine ih _ a' w' G' (zbQ F o.dst r) Hc' (gn.congr hV λk _=>(zo6 gG k).symm) (by simpa using ep) ?_ ?_ iW eJ ?_ l7 jT
   ·have hf:dW.toList[i]'(by simpa using gG)=false:=by
     have:dW[i]=false:=by simpa[gG]using h1
     simpa using this
    rw[bT,List.count_set (by simpa using gG)];rw[hf];simp only[dI,aV,Bool.true_eq_false,a6,aH];omega
   ·intro j oj hj jU e he hb;rw[zo6 gG]at jU ⊢;by_cases gD:j=i
    ·subst gD;rw[ho]at hj;cases hj;have:=fw e he hb;by_cases nM:e.on=j
     ·simp[nM]
     ·simp only[nM,aH];exact this
    ·simp only[gD,aH]at jU;have:=fd j oj hj jU e he hb;by_cases nM:e.on=i
     ·simp[nM]
     ·simp only[nM,aH];exact this
   ·exact(FlRel.step hO lD ho hr).congr λk _=>(zo6 gG k).symm
  unfold wpOp;simp only[ho];have i4:∀v,(a.put o.dst v).defers=[]:=λv=>by cases gJ:o.dst <;> simpa[Act.put]using hd
  cases hv:opV o.op with
  |true=>
   -- a new variable
   have eS:=(hV.iff i o ho).1 hv;obtain⟨hw,fT,mj,hna,hnf⟩:=zgu (wc:=wc) hv;have hg:=hV.bare i o ho hv;rw[aA (by simp[Region.wanted,hg])];refine .inl ?_;obtain⟨o',t,z,fZ,fp,hz,om,eP,lX⟩:=zxn eR hV eS.1 eS.2;rw[ho]at fZ;cases fZ;rw[hr]at lX;cases lX;have hlen_i:(hpk hs H i).length=(hpk hs H va).length+(i-va):=by have:=zo4 eR hV (i-va) (by omega);rw[show va+(i-va)=i by omega]at this;rw[this];simp
   -- the writing ones before the new variables are done, those behind are not
   have early:∀(k:Nat) ok,d6[k]?=some ok→opW wc ok.op=true→k<va→inS dW k=true:=λk ok hk eu d7=>by
    have mA:opV ok.op=false:=by
     cases lE:opV ok.op with
     |false=>rfl
     |true=>have:=(hV.iff k ok hk).1 lE;omega
    exact(zka hO hW ho hk (by omega) (.inr eu) hnf (zh8 eu) (by unfold okU;simp[(zdg eu).1,(zdg eu).2,mA,fT])).ready fd ho fw
   have late:∀(k:Nat) ok,d6[k]?=some ok→opW wc ok.op=true→vb≤k→inS dW k=false:=λk ok hk eu eH=>by
    have mA:opV ok.op=false:=by
     cases lE:opV ok.op with
     |false=>rfl
     |true=>have:=(hV.iff k ok hk).1 lE;omega
    cases hS:inS dW k with
    |false=>rfl
    |true=>have:=(zka hO hW hk ho (by omega) (.inl eu) (zh8 eu) hnf (by unfold okU;simp[(zdg eu).1,fT,mj,hna,mA])).closed fd hS;rw[jE]at this;cases this
   -- the heap with places for the new variables
   have hplaces:∃G1,Ext B w G w G1∧HRel B w G1 (hpk hs H va++zcq hs H va vb (inS dW)):=by
    rcases eD with ⟨p,hp,i5,rfl,nK⟩|⟨_,_,_,_,rfl⟩
    ·have gN:∀j,va≤j→j<vb→inS dW j=false:=by
      rcases nK with h|h
      ·exact h
      ·have:=h i eS.1 eS.2;rw[jE]at this;cases this
     have e:hpk hs H p=hpk hs H va:=by
      by_cases ix:p≤va
      ·exact(zdd eR va ix (by omega) (λk ok hk eu h1 h2=>by
        have:=(i5 k ok hk eu).1 (early k ok hk eu h2);omega)).symm
      ·refine zdd eR p (by omega) hp (λk ok hk eu h1 h2=>?_);have gm:=(i5 k ok hk eu).2 h2;by_cases mB:k<vb
       ·rw[gN k h1 mB]at gm;cases gm
       ·rw[late k ok hk eu (by omega)]at gm;cases gm
     rw[e]at hH;rw[zFQ gN];obtain⟨h1,h2⟩:=hH.keepGaps (vb-va);exact⟨_,h1,h2⟩
    ·exact⟨G,Ext.refl _ _ _,hH⟩
   obtain⟨G1,kq,gK⟩:=hplaces;have mh:(hpk hs H va++zcq hs H va vb (inS dW))[(hpk hs H va).length+(i-va)]?=some .gap:=by rw[List.getElem?_append_right (by omega),dy];exact zFP eS.1 eS.2 jE
   have eI:(hpk hs H va++zcq hs H va vb (inS dW)).set ((hpk hs H va).length+(i-va)) (.cells (zbx z))=hpk hs H va++zcq hs H va vb (λk=>if k=i then true else inS dW k):=by rw[aj _ _ (by omega),dy,←om,zFR eS.1 eS.2]
   have gn:StOK wc d6 hs H va vb (λk=>if k=i then true else inS dW k) (hpk hs H va++zcq hs H va vb (λk=>if k=i then true else inS dW k)):=by
    by_cases eB:∀j,va≤j→j<vb→(if j=i then true else inS dW j)=true
    ·refine .inl ⟨vb,by omega,λk ok hk eu=>?_,zwD eR hV eB,.inr eB⟩;by_cases eY:k=i
     ·subst eY;simp[eS.2]
     ·simp only[eY,aH];by_cases nv:k<vb
      ·simp only[nv,iff_true];by_cases my:va≤k
       ·have:=eB k my nv;simpa[eY]using this
       ·exact early k ok hk eu (by omega)
      ·simp only[nv,iff_false];rw[late k ok hk eu (by omega)];simp
    ·have hsome:∃j,va≤j∧j<vb∧(if j=i then true else inS dW j)=false:=by
      apply Classical.byContradiction;intro gN;apply eB;intro j h1 h2;cases hS:(if j=i then true else inS dW j) with
      |true=>rfl
      |false=>exact(gN ⟨j,h1,h2,hS⟩).elim
     refine .inr ⟨λk ok hk eu my=>?_,λk ok hk eu mB=>?_,⟨i,eS.1,eS.2,by simp⟩,hsome,rfl⟩
     ·have eY:k≠i:=by omega
      simp only[eY,aH];exact early k ok hk eu my
     ·have eY:k≠i:=by omega
      simp only[eY,aH];exact late k ok hk eu mB
   have ef:(execOp a.eval o).run P w=(((do pure (.value (←Instr.alloc t true (.tuple #[])))):Sem Next)).run P w:=by obtain⟨dst,op,type,pos,after,guard⟩:=o;simp only at fp;subst fp;rfl
   refine zh9 (hF.ext kq) (K:=λv H'=>v=.ptr (hpk hs H i).length 0∧H'=hpk hs H va++zcq hs H va vb (λk=>if k=i then true else inS dW k)) (by
    rw[ef];exact zIC gK hz mh ⟨by rw[hlen_i],eI⟩) λv av w' G' H' k1 k2 k3 k4=>?_
   obtain⟨rfl,rfl⟩:=k4;exact next _ w' G' _ gn ((hE.trans kq).trans k1) k2 (((hF.ext kq).ext k1).put k3) (i4 v)
  |false=>
   obtain⟨Hc',gn,ft⟩:=StOK.step (F:=F) eZ hO hW hV eR eD fd ho jE fw hr (λs hs=>(gU s hs).symm) hv;have run:(zbn fl P o F Hc λv H'=>v=r∧H'=Hc')→o.wp P a w (wpAny P .any d6 Q fuel (dW.setIfInBounds i true)) Q:=λfp=>
    zh9 hF (zfA hH hF (zEF fp)) λv av w' G' H' k1 k2 k3 k4=>by obtain⟨rfl,rfl⟩:=k4;exact next _ w' G' _ gn (hE.trans k1) k2 ((hF.ext k1).put k3) (i4 v)
   have skip:r=.tup []→Hc'=Hc→wpAny P .any d6 Q fuel (dW.setIfInBounds i true) (a.put o.dst undef) w:=λkr he=>by subst kr;subst he;exact next _ w G _ gn hE hH (hF.put zre) (i4 _)
   unfold TrOK at ft;split at ft
   ·rename_i hg;rw[aA (by simp[Region.wanted,hg])];exact .inl (run ft)
   ·rename_i j want hg;obtain⟨d,gF,eq⟩:=ft;rcases eq with ⟨b,hb,hw,fp⟩ | ⟨b,hb,hw,kr,he⟩ | ⟨hb,kr,he⟩
    ·rw[zri hF hg gF hb,aA hw];exact .inl (run fp)
    ·rw[zri hF hg gF hb,ap (by simp[hw])];exact skip kr he
    ·rw[zzr hF hg gF hb,ap (by simp)];exact skip kr he

theorem Post.of{w0:World}{G0:Gh}{Q:AExit→List AV→zaa→Prop}{a:Act}{F:List AV}{e:AExit}(hE:Ext B w0 G0 w G)(hH:HRel B w G H)(hF:FRel w G a.tmps F)(hd:a.defers=[])(h:Q e F H):Post B w0 G0 Q e.toExit a w:=
 ⟨F,H,G,e,rfl,hE,hH,hF,hd,h⟩

theorem zhB:∀ (m:List Bool) {tm:List Value} {F:List AV},All2 (TRel w G) tm F→All2 (TRel w G) tm (zfu m F)
 |[],tm,F,h=>by unfold zfu;exact h
 |b::m,[],[],h=>by cases b <;> trivial
 |true::m,v::tm,a::F,h=>⟨h.1,zhB m h.2⟩
 |false::m,v::tm,a::F,h=>⟨trivial,zhB m h.2⟩

theorem zGL(m:List Bool){y:Code}{Q:AExit→List AV→zaa→Prop}{now:List AV→zaa→Prop}{F:List AV}{H:zaa}(h:nxt m P y Q now F H)(hn:now F H→AWp P y Q F H):AWp P y Q F H:=by
 cases m with
 |nil=>exact hn h
 |cons b ms=>exactλB w G a hH hF hd=>h B w G a hH (zhB _ hF) hd
theorem zf7{M:Nat→List Bool}:∀(c:Code) (Q:AExit→List AV→zaa→Prop) (F:List AV) (H:zaa),awp P M c Q F H→AWp P c Q F H:=by
 intro c;induction c with
 |skip=>intro Q F H h B w G a hH hF hd;exact wp_skip (Post.of (e:=.normal) (Ext.refl _ _ _) hH hF hd h)
 |label l=>intro Q F H h B w G a hH hF hd;exact wp_label (Post.of (e:=.normal) (Ext.refl _ _ _) hH hF hd h)
 |region id d6 draw=>
  intro Q F H h B w G a hH hF hd;cases draw with
  |false=>
   refine wp_region_list ?_;have h:(match M (300000+id) with
    |[]=>ze4 P d6 d6.toList (Q .normal) F H
    |_::_=>zif P d6.toList (Q .normal) F H):=h
   split at h
   ·exact zqI (K:=Q .normal) (λa w G F H h1 h2 h3 h4 h5=>Post.of (e:=.normal) h1 h2 h3 h4 h5) d6.toList F H a w G (Ext.refl _ _ _) hH hF hd h
   ·exact zyf (K:=Q .normal) (λa w G F H h1 h2 h3 h4 h5=>Post.of (e:=.normal) h1 h2 h3 h4 h5) d6.toList F H a w G (Ext.refl _ _ _) hH hF hd h
  |true=>
   have main:∀ (fl:Bool) (wc:WM),(fl=true→∀ (k:Nat) ok,d6[k]?=some ok→opA wc ok.op=false∧opN ok.op=false)→(match zev d6 && zdL wc d6 && zew d6 && P.follows .mixedOrders with
     |true=>zcO fl wc P d6 d6.toList (Q .normal) F H
     |false=>False)→(Code.region id d6 true).wp P (Post B w G Q) a w:=by
    intro fl wc eZ h;split at h
    ·rename_i hb;simp only[ai]at hb;obtain⟨⟨⟨lF,pf⟩,mu⟩,hm⟩:=hb;obtain⟨rs,hs,Fn,Hn,ht,hK⟩:=zc1 d6.toList F H h;obtain⟨va,vb,hV⟩:=zxD mu;refine wp_region_any hm ?_;refine zwm eZ (zqn lF) pf hV ht (K:=Q .normal) hK (w0:=w) (G0:=G) (λa w G F H h1 h2 h3 h4 h5=>Post.of (e:=.normal) h1 h2 h3 h4 h5) d6.size _ a _ G F H (.inl ⟨0,bu _,λk ok _ _=>by rw[zeV];simp,by cases hs <;> rfl,.inl λj _ _=>zeV _ _⟩) (by simp) (by simp) ?_ (Ext.drew B w G _ (bP _)) (hH.drew _ (bP _)) ?_ ?_ hd
     ·intro j oj _ hj;rw[zeV]at hj;cases hj
     ·refine⟨rfl,λi o s r _ _ hS=>?_,λs _=>rfl⟩;rw[zeV]at hS;cases hS
     ·exact hF.ext (Ext.drew B w G _ (bP _))
    ·exact h.elim
   simp only[awp]at h;split at h
   ·cases hn:noG d6 with
    |false=>simp[hn]at h
    |true=>rw[hn,ce]at h;refine main true .n (λ_ k ok hk=>?_) h;have:=ak.1 hn ok (c7 (by rw[Array.getElem?_toList];exact hk));simpa using this
   have no:∀wc:WM,false=true→∀(k:Nat) ok,d6[k]?=some ok→opA wc ok.op=false∧opN ok.op=false:=λwc h=>by cases h
   split at h
   ·exact main false .n (no _) h
   ·exact main false .w (no _) h
   ·exact main false .g (no _) h
   ·exact main false .c (no _) h
   ·rename_i l _;split at h
    ·rename_i hb;simp only[ai,aR]at hb;obtain⟨⟨⟨⟨⟨lF,pf⟩,mu⟩,hm⟩,jF⟩,eH⟩:=hb;have ep:d6.size-l.length+l.length=d6.size:=by omega
     generalize iu:zdN d6 (d6.size-l.length)=pre at *;have iI:pre.size=d6.size-l.length:=by rw[←iu];simp[zdN]
     obtain⟨rs,hs,Fn,Hn,ht,hK⟩:=zc1 pre.toList F H h;obtain⟨va,vb,hV⟩:=zxD mu;refine wp_region_any hm ?_;have key:=zwm (fl:=false) (λh=>by cases h) (zqn lF) pf hV ht (K:=zgC P d6 (Q .normal) l.length (zgH (d6.size-l.length) l.length)) hK (Q:=zkz (wpAny P .any d6 (Post B w G Q) l.length (zgH (d6.size-l.length) l.length)) (Post B w G Q)) (w0:=w) (G0:=G)
      (λa w G F H h1 h2 h3 h4 h5=>zHJ (λa w G F H h1 h2 h3 h4 h5=>Post.of (e:=.normal) h1 h2 h3 h4 h5) _ _ a w G F H h1 h2 h3 h4 h5)
      pre.size (Array.replicate pre.size false) a { w with drawn:=w.drawn+1 } G F H (.inl ⟨0,bu _,λk ok _ _=>by rw[zeV];simp,by cases hs <;> rfl,.inl λj _ _=>zeV _ _⟩) (by simp) (by simp) (λj oj _ hj=>by rw[zeV]at hj;cases hj) (Ext.drew B w G _ (bP _)) (hH.drew _ (bP _))
      ⟨rfl,λi o s r _ _ hS=>(by rw[zeV]at hS;cases hS),λs _=>rfl⟩ (hF.ext (Ext.drew B w G _ (bP _))) hd
     have:=zJF ep iu.symm jF (zqn lF).edge pre.size (Array.replicate pre.size false) a _ (by simp[iI]) (by simp) (λj oj _ hS=>by by_cases d7:j<pre.size <;> simp[d7]at hS) key;have e:Array.replicate pre.size false++(List.replicate l.length false).toArray=Array.replicate d6.size false:=by apply Array.toList_inj.1;simp[iI,List.replicate_append_replicate,ep]
     rw[e,iI,ep]at this;exact this
    ·exact h.elim
 |seq x y ihx ihy=>
  intro Q F H h B w G a hH hF hd;refine wp_seq (wp_mono (ihx _ F H h B w G a hH hF hd) λe a' w' hp=>?_);obtain⟨F',H',G',e',rfl,h1,h2,h3,h4,h5⟩:=hp;cases e' with
  |normal=>
   have h6:AWp P y Q F' H':=by exact zGL _ h5 (ihy Q F' H')
   refine wp_mono (h6 B w' G' a' h2 h3 h4) λe a'' w'' hp=>?_;obtain⟨F'',H'',G'',e'',rfl,k1,k2,k3,k4,k5⟩:=hp;exact⟨F'',H'',G'',e'',rfl,h1.trans k1,k2,k3,k4,k5⟩
  |exit id=>exact Post.of (e:=.exit id) h1 h2 h3 h4 h5
  |ret=>exact Post.of (e:=.ret) h1 h2 h3 h4 h5
 |scope c ih=>
  intro Q F H h B w G a hH hF hd;refine wp_scope_straight (wp_mono (ih Q F H h B w G a hH hF hd) λe a' w' hp=>?_);obtain⟨F',H',G',e',rfl,h1,h2,h3,h4,h5⟩:=hp;cases e' with
  |normal=>exact Post.of (e:=.normal) h1 h2 h3 h4 h5
  |exit id=>exact Post.of (e:=.exit id) h1 h2 h3 h4 h5
  |ret=>exact Post.of (e:=.ret) h1 h2 h3 h4 h5
 |cond c x y ihx ihy=>
  intro Q F H h B w G a hH hF hd;simp only[awp,zag]at h;split at h
  ·rename_i t ht;have hc:=zaP hF c;rw[ht]at hc;have hc:a.eval c=.bool t:=hc;unfold aIf at h;refine wp_cond hc ?_;cases t with
   |true=>exact ihx Q F H (by simpa using h) B w G a hH hF hd
   |false=>exact ihy Q F H (by simpa using h) B w G a hH hF hd
  ·exact h.elim
 |block id c ih=>
  intro Q F H h B w G a hH hF hd;refine wp_block (wp_mono (ih _ F H h B w G a hH hF hd) λe a' w' hp=>?_);obtain⟨F',H',G',e',rfl,h1,h2,h3,h4,h5⟩:=hp;cases e' with
  |normal=>exact Post.of (e:=.normal) h1 h2 h3 h4 h5
  |ret=>exact Post.of (e:=.ret) h1 h2 h3 h4 h5
  |exit id'=>
   simp only[AExit.toExit,Exit.inBlock];simp only[zoF]at h5;split at h5
   ·rename_i d9;rw[aA (by simpa using d9)];exact Post.of (e:=.normal) h1 h2 h3 h4 h5
   ·rename_i d9;rw[ap (by simpa using d9)];exact Post.of (e:=.exit id') h1 h2 h3 h4 h5
 |loop c ih=>intro Q F H h B w G a hH hF hd;exact h B w G a hH (zhB _ hF) hd
 |ret=>intro Q F H h B w G a hH hF hd;exact wp_ret (Post.of (e:=.ret) (Ext.refl _ _ _) hH hF hd h)
 |exit id=>intro Q F H h B w G a hH hF hd;exact wp_exit (Post.of (e:=.exit id) (Ext.refl _ _ _) hH hF hd h)
 |_=>intro Q F H h;exact h.elim

end
end Go.Proofs.YtdmamdnkcefmmaaGreatDoor
