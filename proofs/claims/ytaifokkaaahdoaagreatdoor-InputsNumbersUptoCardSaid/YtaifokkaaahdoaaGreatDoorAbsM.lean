import Derived.Test.YtaifokkaaahdoaaGreatDoorAbsY
import Derived.Scope
set_option linter.unusedSimpArgs false
set_option linter.unusedVariables false
set_option linter.unusedSectionVars false
set_option maxRecDepth 8000
namespace Go.Proofs.YtaifokkaaahdoaaGreatDoor
section
open Go.RowKit

variable {fl:Bool} {wc:WM} {P:Program} {B:Nat} {w:World} {G:Gh} {H:zaa}

def inS(listed:Array Bool)(i:Nat):Bool:=listed.getD i false

theorem zdI{listed:Array Bool}{i:Nat}(hi:i<listed.size)(k:Nat):inS (listed.setIfInBounds i true) k=if k=i then true else inS listed k:=by
 unfold inS;by_cases hk:k=i
 ·subst hk;simp[hi]
 ·simp[hk,Array.getElem?_setIfInBounds_ne (λh=>hk h.symm)]

theorem zfk(n i:Nat):inS (Array.replicate n false) i=false:=by unfold inS;rw[bL,Array.getElem?_replicate];split <;> rfl

theorem ziI{op:Op}(h:opW wc op=true):opF op=false:=by
 cases op <;> simp only[opW,aD]at h <;> simp only[opF]
 rename_i c;cases hc:c.callee with
 |builtin b=>cases b <;> simp[hc]at h ⊢
 |value f=>rfl
 |invoke r m=>simp[hc]at h
theorem zdf{op:Op}(h:opW wc op=true):opL op=false∧opC wc op=false:=by
 cases op <;> simp only[opW,aD]at h <;> first|exact⟨rfl,rfl⟩|skip
 rename_i c;refine⟨rfl,?_⟩;cases hc:c.callee with
 |builtin b=>cases b <;> simp[hc]at h <;> simp[opC,hc]
 |value f=>simpa[opC,hc]using h
 |invoke r m=>simp[hc]at h
theorem zhk{op:Op}(h:opV op=true):opW wc op=true∧opL op=false∧opC wc op=false∧opA wc op=false∧opF op=false:=by cases op <;> simp only[opV,aD]at h <;> exact⟨rfl,rfl,rfl,rfl,rfl⟩
theorem zyn{op:Op}(h:opV op=true):opN op=true:=by cases op <;> simp only[opV,aD]at h <;> rfl
theorem zym{op:Op}(h:opL op=true):opW wc op=false∧opF op=false∧opA wc op=false∧opC wc op=false∧opV op=false:=by cases op <;> simp only[opL,aD]at h <;> exact⟨rfl,rfl,rfl,rfl,rfl⟩
theorem zyj{op:Op}(h:opC wc op=true):opW wc op=false∧opF op=false∧opL op=false∧opV op=false:=by
 cases op <;> simp only[opC,aD]at h
 rename_i c;cases hc:c.callee with
 |value f=>exact⟨by simpa[opW,hc]using h,by simp[opF,hc],rfl,rfl⟩
 |builtin b=>simp[hc]at h
 |invoke r m=>simp[hc]at h
theorem zJz{t:TypeId}{z:Value}{id:Nat}{K:AV→zaa→Prop}(hH:HRel B w G H)(hz:zbq P t=some z)(hid:H[id]?=some .gap)(h:K (.ptr id 0) (H.set id (.cells (zbt z)))):
  OpOK P B w G K (((do pure (.value (←Instr.alloc t true (.tuple #[])))):Sem Next).run P w):=by
 obtain⟨he,hH'⟩:=hH.fill hid z.cells t (zbt z) (zdO z);have hrun:((do pure (.value (←Instr.alloc t true (.tuple #[])))):Sem Next).run P w=.ok (.value (.pointer (some ⟨w.heap.size,0,none⟩))) (w.alloc (.cells z.cells t)):=by simp[Instr.alloc,zek hz,newVar,newRow,World.alloc_eq]
 rw[hrun];refine⟨.ptr id 0,_,_,he,hH',⟨w.heap.size,?_,rfl⟩,h⟩;exact List.getElem?_set_self (by rw[hH.len];exact(List.getElem?_eq_some_iff.1 hid).1)

def zFg(wc:WM)(ops:Array Oper)(S:Nat→Bool)(p:Nat):Prop:=∀(i:Nat) o,ops[i]?=some o→opW wc o.op=true→(S i=true↔i<p)
def zdV(fl:Bool)(wc:WM)(P:Program)(ops:Array Oper)(F0 rs:List AV)(hs:List zaa)(H:zaa):Prop:=
 ∀ (i:Nat) o,ops.toList[i]?=some o→∃ r,rs[i]?=some r∧TrOK fl P ops (hpk hs H i) (frk ops.toList rs F0 i) o r (hpk hs H (i+1))∧frk ops.toList rs F0 (i+1)=zbE (frk ops.toList rs F0 i) o.dst r ∧
  (opW wc o.op=false→hpk hs H (i+1)=hpk hs H i)∧(opC wc o.op=true→∀J,TrOK fl P ops (hpk hs H i++J) (frk ops.toList rs F0 i) o r (hpk hs H i++J))∧(opG wc o.op=true→GrowA (hpk hs H i) (hpk hs H (i+1)))∧(opK wc o.op=true→o.guard=none→zdX (zig ops (frk ops.toList rs F0 i)) (hpk hs H i) (hpk hs H (i+1)))

theorem zdb{ops:Array Oper}{hs:List zaa}{F0 rs:List AV}(hat:zdV fl wc P ops F0 rs hs H){p:Nat}:∀ (q:Nat),p≤q→q≤ops.size→(∀ (i:Nat) o,ops[i]?=some o→opW wc o.op=true→p≤i→i<q→False)→hpk hs H q=hpk hs H p
 |0,hp,_,_=>by rw[de.1 hp]
 |q+1,hp,hq,hn=>by
  by_cases he:p=q+1
  ·rw[he]
  ·have ho:ops[q]?=some ops[q]:=by simp[show q<ops.size by omega]
   obtain⟨r,_,_,_,h4,_⟩:=hat q ops[q] (by simp);have hw:opW wc (ops[q]).op=false:=by
    cases hw:opW wc (ops[q]).op with
    |false=>rfl
    |true=>exact(hn q _ ho hw (by omega) (by omega)).elim
   rw[h4 hw];exact zdb hat q (by omega) (by omega) (λi o h1 h2 h3 h4=>hn i o h1 h2 h3 (by omega))
theorem zIh{op:Op}(h:opA wc op=true):opA .n op=true∨opG wc op=true:=by
 cases op <;> simp only[opA,aD]at h
 rename_i c;cases hc:c.callee with
 |value f=>right;simpa[opG,hc]using h
 |builtin b=>left;cases b <;> simp[opA,hc]at h ⊢
 |invoke r m=>simp[hc]at h
theorem TrOK.growW{ops:Array Oper}{F:List AV}{o:Oper}{r:AV}{H H':zaa}(ht:TrOK fl P ops H F o r H')(hg:opG wc o.op=true→GrowA H H')(ho:opA wc o.op=true):GrowA H H':=by
 rcases zIh ho with h|h
 ·exact ht.growA h
 ·exact hg h
theorem zxm{ops:Array Oper}{hs:List zaa}{F0 rs:List AV}(hat:zdV fl wc P ops F0 rs hs H){i:Nat}:∀ (q:Nat),i≤q→q≤ops.size→(∀ (k:Nat) o,ops[k]?=some o→opW wc o.op=true→i≤k→k<q→opA wc o.op=true∨opN o.op=true) →
  ∀(id:Nat) (cs:List AV),(hpk hs H i)[id]?=some (AB.cells cs)→(hpk hs H q)[id]?=some (AB.cells cs)
 |0,h1,_,_,id,cs,hc=>by rw[de.1 h1]at hc;exact hc
 |q+1,h1,h2,hn,id,cs,hc=>by
  by_cases he:i=q+1
  ·rw[←he];exact hc
  ·have hq:ops[q]?=some ops[q]:=by simp[show q<ops.size by omega]
   obtain⟨rq,_,htq,_,hnq,_,hgq,_⟩:=hat q ops[q] (by simp);have h3:=zxm hat q (by omega) (by omega) (λk o a b c d=>hn k o a b c (by omega)) id cs hc;cases hwq:opW wc (ops[q]).op with
   |false=>rw[hnq hwq];exact h3
   |true=>
    rcases hn q _ hq hwq (by omega) (by omega) with ha|ha
    ·exact(htq.growW hgq ha).grow.cells h3
    ·exact(htq.growN ha).cells h3
theorem zxn{ops:Array Oper}{hs:List zaa}{F0 rs:List AV}(hat:zdV fl wc P ops F0 rs hs H){i id:Nat}:∀ (q:Nat),i≤q→q≤ops.size→(∀ (k:Nat) o,ops[k]?=some o→opW wc o.op=true→i≤k→k<q→(opA wc o.op=true∨opN o.op=true)∨∀ cs:List AV,(hpk hs H k)[id]?=some (AB.cells cs)→(hpk hs H (k+1))[id]?=some (AB.cells cs)) →
  ∀(cs:List AV),(hpk hs H i)[id]?=some (AB.cells cs)→(hpk hs H q)[id]?=some (AB.cells cs)
 |0,h1,_,_,cs,hc=>by rw[de.1 h1]at hc;exact hc
 |q+1,h1,h2,hn,cs,hc=>by
  by_cases he:i=q+1
  ·rw[←he];exact hc
  ·have hq:ops[q]?=some ops[q]:=by simp[show q<ops.size by omega]
   obtain⟨rq,_,htq,_,hnq,_,hgq,_⟩:=hat q ops[q] (by simp);have h3:=zxn hat q (by omega) (by omega) (λk o a b c d=>hn k o a b c (by omega)) cs hc;cases hwq:opW wc (ops[q]).op with
   |false=>rw[hnq hwq];exact h3
   |true=>
    rcases hn q _ hq hwq (by omega) (by omega) with (ha|ha)|ha
    ·exact(htq.growW hgq ha).grow.cells h3
    ·exact(htq.growN ha).cells h3
    ·exact ha cs h3
theorem zw7{ops:Array Oper}{hs:List zaa}{F0 rs:List AV}(hat:zdV fl wc P ops F0 rs hs H){i s:Nat}:∀ (k:Nat),i≤k→k≤ops.size→(∀ (j:Nat) o,ops[j]?=some o→i≤j→j<k→o.dst≠some s)→(frk ops.toList rs F0 k).getD s .unk=(frk ops.toList rs F0 i).getD s .unk
 |0,h1,_,_=>by rw[de.1 h1]
 |k+1,h1,h2,hn=>by
  by_cases he:i=k+1
  ·rw[he]
  ·have hk:ops[k]?=some ops[k]:=by simp[show k<ops.size by omega]
   obtain⟨rk,_,_,hput,_⟩:=hat k ops[k] (by simp);have h3:=zw7 hat (s:=s) k (by omega) (by omega) λj o a b c=>hn j o a b (by omega);rw[hput,←h3];have hd:=hn k _ hk (by omega) (by omega);unfold zbE;cases e:(ops[k]).dst with
   |none=>rfl
   |some d=>have:d≠s:=λh=>hd (by rw[e,h]);simp only;rw[List.getD_eq_getElem?_getD,List.getD_eq_getElem?_getD,List.getElem?_set_ne this]
theorem zHA{ops:Array Oper}(h:zeI ops=true){i j:Nat}{oi oj:Oper}(hi:ops[i]?=some oi)(hj:ops[j]?=some oj)(hl:opL oi.op=true)(hij:i≤j){s:Nat}(hs:s∈zcZ ops oi):oj.dst≠some s:=by
 unfold zeI at h;simp only[ac,am]at h;have mem:∀{i:Nat} {o:Oper},ops[i]?=some o→(o,i)∈ops.toList.zipIdx:=λ{i o} ho=>by rw[bG];simpa using ho
 have h1:=h.1 _ (mem hi);simp only[hl,dz,bh,am]at h1;have h2:=h1 _ (mem hj);intro e;simp only[e,bB,aH]at h2;rcases h2 with h2|h2
 ·omega
 ·have:(zcZ ops oi).contains s=true:=by simpa using hs
  rw[this]at h2;cases h2
theorem zxE{ops:Array Oper}(h:zeI ops=true){i:Nat}{o:Oper}(hi:ops[i]?=some o):opN o.op=false∧o.guard=none:=by unfold zeI at h;simp only[ac,am]at h;have:=h.2 o (aQ (by rw[Array.getElem?_toList];exact hi));simpa using this
theorem zxl{ops:Array Oper}{hs:List zaa}{F0 rs:List AV}(hat:zdV fl wc P ops F0 rs hs H){p:Nat}:∀ (q:Nat),p≤q→q≤ops.size→(∀ (k:Nat) o,ops[k]?=some o→opW wc o.op=true→p≤k→k<q→opA wc o.op=true) →
  ∀(id:Nat) (cs:List AV),(hpk hs H q)[id]?=some (AB.cells cs)→(hpk hs H p)[id]?=some (AB.cells cs)
 |0,h1,_,_,id,cs,hc=>by rw[de.1 h1];exact hc
 |q+1,h1,h2,hn,id,cs,hc=>by
  by_cases he:p=q+1
  ·rw[he];exact hc
  ·have hq:ops[q]?=some ops[q]:=by simp[show q<ops.size by omega]
   obtain⟨rq,_,htq,_,hnq,_,hgq,_⟩:=hat q ops[q] (by simp);refine zxl hat q (by omega) (by omega) (λk o a b c d=>hn k o a b c (by omega)) id cs ?_;cases hwq:opW wc (ops[q]).op with
   |false=>rw[hnq hwq]at hc;exact hc
   |true=>exact(htq.growW hgq (hn q _ hq hwq (by omega) (by omega))).cells hc

structure VB (ops:Array Oper) (a b:Nat):Prop where
 le:a≤b
 fit:b≤ops.size
 iff:∀(i:Nat) o,ops[i]?=some o→(opV o.op=true↔a≤i∧i<b)
 bare:∀(i:Nat) o,ops[i]?=some o→opV o.op=true→o.guard=none
theorem zyo{ops:Array Oper}(h:zeg ops=true):∃a b,VB ops a b:=by
 unfold zeg at h;have mem:∀(i:Nat) o,ops[i]?=some o→(o,i)∈ops.toList.zipIdx:=λi o ho=>by rw[bG];simpa using ho
 split at h
 ·rename_i hn;rw[List.any_eq_false]at hn;have no:∀(i:Nat) o,ops[i]?=some o→opV o.op=true→False:=λi o ho hv=>hn o (aJ.2 ⟨i,by simpa using ho⟩) hv;exact⟨0,0,aa _,bz _,λi o ho=>⟨λhv=>(no i o ho hv).elim,λhc=>by omega⟩,λi o ho hv=>(no i o ho hv).elim⟩
 ·rename_i hn;generalize ops.toList.findIdx (λo=>opV o.op)=a at h;generalize ops.toList.countP (λo=>opV o.op)=k at h;have key:∀ (i:Nat) o,ops[i]?=some o→(opV o.op=true↔a≤i∧i<a+k)∧(opV o.op=true→o.guard=none):=λi o ho=>by have:=am.1 h _ (mem i o ho);simp only[ac,aY,bB,bY,Option.isNone_iff_eq_none]at this;refine⟨?_,λhv=>(this.2.resolve_left (by simp[hv]))⟩;rw[this.1];simp
  by_cases hfit:a+k≤ops.size
  ·exact⟨a,a+k,by omega,hfit,λi o ho=>(key i o ho).1,λi o ho=>(key i o ho).2⟩
  ·by_cases ha:a≤ops.size
   ·refine⟨a,ops.size,ha,aa _,λi o ho=>?_,λi o ho=>(key i o ho).2⟩;have hi:i<ops.size:=(Array.getElem?_eq_some_iff.1 ho).1;rw[(key i o ho).1];constructor <;> rintro⟨_,_⟩ <;> constructor <;> omega
   ·refine⟨0,0,aa _,bz _,λi o ho=>?_,λi o ho=>(key i o ho).2⟩;have hi:i<ops.size:=(Array.getElem?_eq_some_iff.1 ho).1;rw[(key i o ho).1];constructor <;> rintro⟨_,_⟩ <;> omega

def zOf(hs:List zaa)(H:zaa)(j:Nat):List AV:=match (hpk hs H (j+1))[(hpk hs H j).length]? with|some (.cells cs)=>cs|_=>[]
theorem zya{ops:Array Oper}{hs:List zaa}{F0 rs:List AV}{a b:Nat}(hat:zdV fl wc P ops F0 rs hs H)(hV:VB ops a b){j:Nat}(h1:a≤j)(h2:j<b):
  ∃o t z,ops[j]?=some o∧o.op=.alloc t∧zbq P t=some z∧zOf hs H j=zbt z∧hpk hs H (j+1)=hpk hs H j++[.cells (zOf hs H j)]∧rs[j]?=some (.ptr (hpk hs H j).length 0):=by
 have hj:j<ops.size:=by have:=hV.fit;omega
 have ho:ops[j]?=some ops[j]:=by simp[hj]
 have hv:=(hV.iff j _ ho).2 ⟨h1,h2⟩;obtain⟨r,hr,htr,_⟩:=hat j ops[j] (by simp);unfold TrOK at htr;rw[hV.bare j _ ho hv]at htr;simp only[]at htr;have hop:∃t,(ops[j]).op=.alloc t:=by
  revert hv
  cases (ops[j]).op <;> simp[opV]
 obtain⟨t,hop⟩:=hop;simp only[zbi,aop,zdq,hop,isM]at htr;split at htr
 ·rename_i z hz;obtain⟨e1,e2⟩:=htr;have hzo:zOf hs H j=zbt z:=by unfold zOf;rw[←e2];simp
  exact⟨ops[j],t,z,ho,hop,hz,hzo,by rw[hzo];exact e2.symm,by rw[hr,←e1]⟩
 ·exact htr.elim
def zcr(hs:List zaa)(H:zaa)(a b:Nat)(S:Nat→Bool):zaa:=(List.range (b-a)).map λq=>if S (a+q)=true then AB.cells (zOf hs H (a+q)) else .gap
theorem zpL{ops:Array Oper}{hs:List zaa}{F0 rs:List AV}{a b:Nat}(hat:zdV fl wc P ops F0 rs hs H)(hV:VB ops a b):∀ m,a+m≤b→hpk hs H (a+m)=hpk hs H a++(List.range m).map λq=>AB.cells (zOf hs H (a+q))
 |0,_=>by simp
 |m+1,hm=>by obtain⟨o,t,z,_,_,_,_,h1,_⟩:=zya hat hV (j:=a+m) (by omega) (by omega);rw[show a+(m+1)=a+m+1 by omega,h1,zpL hat hV m (by omega),cb,bj,ah];rfl
theorem zxa{ops:Array Oper}{hs:List zaa}{F0 rs:List AV}{a b:Nat}(hat:zdV fl wc P ops F0 rs hs H)(hV:VB ops a b){S:Nat→Bool}(h:∀j,a≤j→j<b→S j=true):hpk hs H a++zcr hs H a b S=hpk hs H b:=by have:=zpL hat hV (b-a) (by have:=hV.le;omega);rw[show a+(b-a)=b by have:=hV.le;omega]at this;rw[this];congr 1;apply bc;intro q hq;rw[aB (h (a+q) (by omega) (by have:=be.1 hq;omega))]
theorem zHa{hs:List zaa}{a b:Nat}{S:Nat→Bool}(h:∀j,a≤j→j<b→S j=false):zcr hs H a b S=List.replicate (b-a) .gap:=by
 apply aI;intro q;unfold zcr;rw[List.getElem?_map];by_cases hq:q<b-a
 ·rw[List.getElem?_range hq,List.getElem?_replicate,aB hq];simp[h (a+q) (by omega) (by omega)]
 ·rw[List.getElem?_eq_none (by simp;omega),List.getElem?_eq_none (by simp;omega)];rfl
theorem zHb{hs:List zaa}{a b i:Nat}{S:Nat→Bool}(h1:a≤i)(h2:i<b):(zcr hs H a b S).set (i-a) (.cells (zOf hs H i))=zcr hs H a b (λk=>if k=i then true else S k):=by
 apply aI;intro q;by_cases hq:q=i-a
 ·subst hq;rw[List.getElem?_set_self (by simp[zcr];omega)];unfold zcr;rw[List.getElem?_map,List.getElem?_range (by omega)];simp[show a+(i-a)=i by omega]
 ·rw[List.getElem?_set_ne (λh=>hq h.symm)];unfold zcr;rw[List.getElem?_map,List.getElem?_map];by_cases hq2:q<b-a
  ·rw[List.getElem?_range hq2];simp[show a+q≠i by omega]
  ·rw[List.getElem?_eq_none (by simp;omega)];rfl
theorem zG9{hs:List zaa}{a b i:Nat}{S:Nat→Bool}(h1:a≤i)(h2:i<b)(h:S i=false):(zcr hs H a b S)[i-a]?=some .gap:=by unfold zcr;rw[List.getElem?_map,List.getElem?_range (by omega)];simp[show a+(i-a)=i by omega,h]

def StOK(wc:WM)(ops:Array Oper)(hs:List zaa)(H:zaa)(a b:Nat)(S:Nat→Bool)(Hc:zaa):Prop:=
 (∃p,p≤ops.size∧zFg wc ops S p∧Hc=hpk hs H p∧((∀j,a≤j→j<b→S j=false)∨(∀j,a≤j→j<b→S j=true))) ∨
 ((∀ (k:Nat) o,ops[k]?=some o→opW wc o.op=true→k<a→S k=true)∧(∀ (k:Nat) o,ops[k]?=some o→opW wc o.op=true→b≤k→S k=false) ∧
   (∃j,a≤j∧j<b∧S j=true)∧(∃j,a≤j∧j<b∧S j=false)∧Hc=hpk hs H a++zcr hs H a b S)

theorem StOK.congr{ops:Array Oper}{hs:List zaa}{a b:Nat}{S S':Nat→Bool}{Hc:zaa}(hV:VB ops a b)(h:StOK wc ops hs H a b S Hc)(he:∀i,i<ops.size→S i=S' i):StOK wc ops hs H a b S' Hc:=by
 have hfit:=hV.fit;rcases h with ⟨p,h1,h2,h3,h4⟩|⟨h1,h2,⟨j,hj1,hj2,hj3⟩,⟨k,hk1,hk2,hk3⟩,h5⟩
 ·refine .inl ⟨p,h1,λi o ho hw=>by rw[←he i (Array.getElem?_eq_some_iff.1 ho).1];exact h2 i o ho hw,h3,?_⟩;rcases h4 with h4 | h4
  ·exact .inl λj a b=>by rw[←he j (by omega)];exact h4 j a b
  ·exact .inr λj a b=>by rw[←he j (by omega)];exact h4 j a b
 ·refine .inr ⟨λk o ho hw hk=>by rw[←he k (Array.getElem?_eq_some_iff.1 ho).1];exact h1 k o ho hw hk,λk o ho hw hk=>by rw[←he k (Array.getElem?_eq_some_iff.1 ho).1];exact h2 k o ho hw hk,
   ⟨j,hj1,hj2,by rw[←he j (by omega)];exact hj3⟩,⟨k,hk1,hk2,by rw[←he k (by omega)];exact hk3⟩,?_⟩
  rw[h5];congr 1;apply bc;intro q hq;rw[he (a+q) (by have:=be.1 hq;omega)]

section
variable {ops:Array Oper} {F0 rs F:List AV} {hs:List zaa} {S:Nat→Bool} {i:Nat} {o:Oper} {r:AV} {a b:Nat} {Hc:zaa}
theorem StOK.step(hLS:wc=.l→zeI ops=true)(hfl:fl=true→∀ (k:Nat) ok,ops[k]?=some ok→opA wc ok.op=false∧opN ok.op=false∧opK wc ok.op=false)(hO:Ord ops)(hW:zdt wc ops=true)(hV:VB ops a b)(hat:zdV fl wc P ops F0 rs hs H)(hst:StOK wc ops hs H a b S Hc)(hcl:∀ (j:Nat) oj,ops[j]?=some oj→S j=true→∀ e∈oj.after,Region.binds .any e=true→S e.on=true)(ho:ops[i]?=some o)(hSi:S i=false)(hedge:∀ e∈o.after,Region.binds .any e=true→S e.on=true)(hr:rs[i]?=some r)(hreads:∀ s∈zcZ ops o,(frk ops.toList rs F0 i).getD s .unk=F.getD s .unk)(hnv:opV o.op=false):
  ∃Hc',StOK wc ops hs H a b (λk=>if k=i then true else S k) Hc'∧TrOK fl P ops Hc F o r Hc':=by
 have hin:i<ops.size:=(Array.getElem?_eq_some_iff.1 ho).1;have hfit:=hV.fit;have hle:=hV.le;obtain⟨r',hr',htr,_,hnw,hxx,_⟩:=hat i o (by simpa using ho);rw[hr]at hr';cases hr';have htr':TrOK fl P ops (hpk hs H i) F o r (hpk hs H (i+1)):=htr.congr hreads;have hx:opC wc o.op=true→∀J,TrOK fl P ops (hpk hs H i++J) F o r (hpk hs H i++J):=λhc J=>(hxx hc J).congr hreads;have hni:¬(a≤i∧i<b):=λh=>by have:=(hV.iff i o ho).2 h;rw[hnv]at this;cases this
 have isNew:∀{k:Nat},a≤k→k<b→∃ok,ops[k]?=some ok∧opV ok.op=true:=λ{k} h1 h2=>by
  have hk:ops[k]?=some ops[k]:=by simp[show k<ops.size by omega]
  exact⟨_,hk,(hV.iff k _ hk).2 ⟨h1,h2⟩⟩
 have notV:∀{k:Nat} {ok:Oper},ops[k]?=some ok→¬(a≤k∧k<b)→opV ok.op=false:=λ{k ok} hk hn=>by
  cases hv:opV ok.op with
  |false=>rfl
  |true=>exact(hn ((hV.iff k ok hk).1 hv)).elim
 have uf:∀{q p:Op},opL q=false→opL p=false→(opC wc q=false∨opV p=false)→(opV q=false∨opV p=false)→okU wc q p=false:=λh1 h2 h3 h4=>by unfold okU;rw[h1,h2];rcases h3 with h3|h3 <;> rcases h4 with h4|h4 <;> simp[h3,h4]
 -- what writes before it is done, what writes behind it is not
 have before:opF o.op=false→∀(k:Nat) ok,ops[k]?=some ok→opW wc ok.op=true→k<i→okU wc ok.op o.op=false→S k=true:=λhf k ok hk hw hlt hu=>
  (zkY hO hW ho hk hlt (.inr hw) hf (ziI hw) hu).ready hcl ho hedge
 have behind:opF o.op=false→∀(k:Nat) ok,ops[k]?=some ok→opW wc ok.op=true→i<k→okU wc o.op ok.op=false→S k=false:=λhf k ok hk hw hlt hu=>by
  cases hS:S k with
  |false=>rfl
  |true=>have:=(zkY hO hW hk ho hlt (.inl hw) (ziI hw) hf hu).closed hcl hS;rw[hSi]at this;cases this
 have keepS:∀Hc0,opW wc o.op=false→StOK wc ops hs H a b S Hc0→StOK wc ops hs H a b (λk=>if k=i then true else S k) Hc0:=by
  intro Hc0 hw h;have other:∀(k:Nat) ok,ops[k]?=some ok→opW wc ok.op=true→k≠i:=λk ok hk hwk hki=>by subst hki;rw[ho]at hk;cases hk;rw[hw]at hwk;cases hwk
  have otherV:∀j,a≤j→j<b→j≠i:=λj h1 h2 hji=>by subst hji;exact hni ⟨h1,h2⟩
  rcases h with ⟨p,h1,h2,h3,h4⟩|⟨h1,h2,⟨j,hj1,hj2,hj3⟩,⟨k,hk1,hk2,hk3⟩,h5⟩
  ·refine .inl ⟨p,h1,λk ok hk hwk=>by simp only[other k ok hk hwk,aT];exact h2 k ok hk hwk,h3,?_⟩;rcases h4 with h4 | h4
   ·exact .inl λj x y=>by simp only[otherV j x y,aT];exact h4 j x y
   ·exact .inr λj x y=>by simp only[otherV j x y,aT];exact h4 j x y
  ·refine .inr ⟨λk ok hk hwk hka=>by simp only[other k ok hk hwk,aT];exact h1 k ok hk hwk hka,λk ok hk hwk hka=>by simp only[other k ok hk hwk,aT];exact h2 k ok hk hwk hka,
    ⟨j,hj1,hj2,by simp only[otherV j hj1 hj2,aT];exact hj3⟩,⟨k,hk1,hk2,by simp only[otherV k hk1 hk2,aT];exact hk3⟩,?_⟩
   rw[h5];congr 1;apply bc;intro q hq;have:=be.1 hq;simp only[otherV (a+q) (by omega) (by omega),aT]
 cases hf:opF o.op with
 |true=>
  have hw:opW wc o.op=false:=by
   cases hw:opW wc o.op with
   |false=>rfl
   |true=>rw[ziI hw]at hf;cases hf
  rw[hnw hw]at htr';exact⟨Hc,keepS Hc hw hst,htr'.free hf⟩
 |false=>
 rcases hst with ⟨p,hp,hpo,rfl,hph⟩|hII
 ·-- the heap of the text
  have stay:StOK wc ops hs H a b S (hpk hs H p):=.inl ⟨p,hp,hpo,rfl,hph⟩;cases hl:opL o.op with
  |true=>
   obtain⟨hw,_,hoa,hoc,_⟩:=zym hl;rw[hnw hw]at htr';have dn:∀(k:Nat) ok,ops[k]?=some ok→opW wc ok.op=true→p≤k→k<i→opA wc ok.op=true:=λk ok hk hwk hle hlt=>by
    cases hu:okU wc ok.op o.op with
    |true=>obtain⟨h1,h2⟩:=zdf hwk;simp only[okU,h1,h2,hnv,hl,aL,bh,bn,cr,bW]at hu;exact hu
    |false=>have:=(hpo k ok hk hwk).1 (before hf k ok hk hwk hlt hu);omega
   have up:∀(k:Nat) ok,ops[k]?=some ok→opW wc ok.op=true→i≤k→k<p→(opA wc ok.op=true∨opN ok.op=true)∨opK wc ok.op=true:=λk ok hk hwk hle hlt=>by
    have hSk:=(hpo k ok hk hwk).2 hlt;have hki:k≠i:=by rintro rfl;rw[hSi]at hSk;cases hSk
    cases hu:okU wc o.op ok.op with
    |true=>obtain⟨h1,h2⟩:=zdf hwk;simp only[okU,hl,h1,hoa,hoc,hnv,aL,bh,bn,cr,aR,bB]at hu;exact hu
    |false=>have:=behind hf k ok hk hwk (by omega) hu;rw[this]at hSk;cases hSk
   refine⟨hpk hs H p,keepS _ hw stay,htr'.load' hl (λhfe=>?_) ?_⟩
   ·by_cases hpi:p≤i
    ·exact(zdb hat i hpi (by omega) λk ok h1 h2 h3 h4=>by have:=dn k ok h1 h2 h3 h4;rw[(hfl hfe k ok h1).1]at this;cases this).symm
    ·exact zdb hat p (by omega) hp λk ok h1 h2 h3 h4=>by have:=up k ok h1 h2 h3 h4;rw[(hfl hfe k ok h1).1,(hfl hfe k ok h1).2.1,(hfl hfe k ok h1).2.2]at this;rcases this with (h|h)|h <;> cases h
   intro av id off cs _ ⟨ty,y,hoy,hay⟩ hptr hcs;by_cases hpi:p≤i
   ·exact zxl hat i hpi (by omega) dn id cs hcs
   ·refine zxn hat p (by omega) hp (λk ok hk hwk hle hlt=>?_) cs hcs;rcases up k ok hk hwk hle hlt with h | h
    ·exact .inl h
    ·refine .inr λcs' hcs'=>?_;have hls:=hLS (zkW h).1;obtain⟨rk,_,_,_,_,_,_,hkk⟩:=hat k ok (by simpa using hk);refine hkk h (zxE hls hk).2 (ev (frk ops.toList rs F0 k) y) ?_ id off ?_ cs' hcs'
     ·unfold zig;refine br.2 ⟨o,aQ (by rw[Array.getElem?_toList];exact ho),?_⟩;rw[hoy]
     ·rw[←hptr,hay];cases y with
      |tmp s=>
       have hsr:s∈zcZ ops o:=by simp[zcZ,hoy,Op.operands]
       show (frk ops.toList rs F0 k).getD s .unk=F.getD s .unk;rw[zw7 hat k hle (by omega) λj oj hj hij _=>zHA hls ho hj hl hij hsr];exact hreads s hsr
      |_=>rfl
  |false=>
   cases hc:opC wc o.op with
   |true=>
    obtain⟨hw,_,_,_⟩:=zyj hc;have below:∀(k:Nat) ok,ops[k]?=some ok→opW wc ok.op=true→k<i→k<p:=λk ok hk hwk hlt=>
     (hpo k ok hk hwk).1 (before hf k ok hk hwk hlt (uf (zdf hwk).1 hl (.inl (zdf hwk).2) (.inr hnv)))
    have above:∀(k:Nat) ok,ops[k]?=some ok→opW wc ok.op=true→i<k→¬(a≤k∧k<b)→¬k<p:=λk ok hk hwk hlt hn hkp=>by have:=behind hf k ok hk hwk hlt (uf hl (zdf hwk).1 (.inr (notV hk hn)) (.inl hnv));rw[(hpo k ok hk hwk).2 hkp]at this;cases this
    refine⟨hpk hs H p,keepS _ hw stay,?_⟩;have same:(∀(k:Nat) ok,ops[k]?=some ok→opW wc ok.op=true→i≤k→k<p→False)→TrOK fl P ops (hpk hs H p) F o r (hpk hs H p):=λhno=>by
     have e:hpk hs H p=hpk hs H i:=by
      by_cases hpi:p≤i
      ·exact(zdb hat i hpi (by omega) (λk ok hk hwk h1 h2=>by have:=below k ok hk hwk h2;omega)).symm
      ·exact zdb hat p (by omega) hp hno
     rw[hnw hw]at htr';rw[e];exact htr'
    have selfW:∀(k:Nat) ok,ops[k]?=some ok→opW wc ok.op=true→k≠i:=λk ok hk hwk hki=>by subst hki;rw[ho]at hk;cases hk;rw[hw]at hwk;cases hwk
    rcases hph with hno|hall
    ·refine same λk ok hk hwk h1 h2=>?_;have hki:=selfW k ok hk hwk;by_cases hkn:a≤k∧k<b
     ·have:=hno k hkn.1 hkn.2;rw[(hpo k ok hk hwk).2 h2]at this;cases this
     ·exact above k ok hk hwk (by omega) hkn h2
    ·by_cases hia:i<a
     ·by_cases hab:a=b
      ·refine same λk ok hk hwk h1 h2=>?_;exact above k ok hk hwk (by have:=selfW k ok hk hwk;omega) (by omega) h2
      ·-- all new variables are there
       obtain⟨on,hon,hvn⟩:=isNew (k:=b-1) (by omega) (by omega);have hbp:b≤p:=by have:=(hpo (b-1) on hon (zhk hvn).1).1 (hall (b-1) (by omega) (by omega));omega
       have e1:hpk hs H a=hpk hs H i:=zdb hat a (by omega) (by omega) (λk ok hk hwk h1 h2=>by
        have hki:=selfW k ok hk hwk;exact above k ok hk hwk (by omega) (by omega) (by omega))
       have e2:hpk hs H p=hpk hs H b:=zdb hat p hbp hp (λk ok hk hwk h1 h2=>above k ok hk hwk (by omega) (by omega) h2);rw[e2,←zxa hat hV hall,e1];exact hx hc _
     ·refine same λk ok hk hwk h1 h2=>?_;exact above k ok hk hwk (by have:=selfW k ok hk hwk;omega) (by omega) h2
   |false=>
    have below:∀(k:Nat) ok,ops[k]?=some ok→opW wc ok.op=true→k<i→k<p:=λk ok hk hwk hlt=>
     (hpo k ok hk hwk).1 (before hf k ok hk hwk hlt (uf (zdf hwk).1 hl (.inl (zdf hwk).2) (.inr hnv)))
    have above:∀(k:Nat) ok,ops[k]?=some ok→opW wc ok.op=true→i≤k→¬k<p:=λk ok hk hwk hle hkp=>by
     have hSk:=(hpo k ok hk hwk).2 hkp;by_cases hki:k=i
     ·subst hki;rw[hSi]at hSk;cases hSk
     ·have:=behind hf k ok hk hwk (by omega) (uf hl (zdf hwk).1 (.inl hc) (.inl hnv));rw[hSk]at this;cases this
    have e:hpk hs H p=hpk hs H i:=by
     by_cases hpi:p≤i
     ·exact(zdb hat i hpi (by omega) (λk ok hk hwk h1 h2=>by have:=below k ok hk hwk h2;omega)).symm
     ·exact zdb hat p (by omega) hp (λk ok hk hwk h1 h2=>above k ok hk hwk h1 h2)
    cases hw:opW wc o.op with
    |false=>rw[hnw hw]at htr';exact⟨hpk hs H p,keepS _ hw stay,by rw[e];exact htr'⟩
    |true=>
     refine⟨hpk hs H (i+1),.inl ⟨i+1,by omega,λk ok hk hwk=>?_,rfl,?_⟩,by rw[e];exact htr'⟩
     ·by_cases hki:k=i
      ·subst hki;simp
      ·simp only[hki,aT];rw[hpo k ok hk hwk];constructor
       ·intro hkp;by_cases hik:i≤k
        ·exact(above k ok hk hwk hik hkp).elim
        ·omega
       ·intro hki2;exact below k ok hk hwk (by omega)
     ·rcases hph with hno | hall
      ·exact .inl λj x y=>by have:j≠i:=λh=>hni ⟨by omega,by omega⟩;simp only[this,aT];exact hno j x y
      ·exact .inr λj x y=>by have:j≠i:=λh=>hni ⟨by omega,by omega⟩;simp only[this,aT];exact hall j x y
 ·-- some of the new variables are there
  obtain⟨h1,h2,⟨j0,hj1,hj2,hj3⟩,⟨j1,hk1,hk2,hk3⟩,h5⟩:=hII;obtain⟨o0,ho0,hv0⟩:=isNew hj1 hj2;obtain⟨o1,ho1,hv1⟩:=isNew hk1 hk2;have hia:i<a:=by
   by_cases hia:i<a
   ·exact hia
   ·have:=before hf j1 o1 ho1 (zhk hv1).1 (by omega) (by
     obtain⟨_,x1,x2,x3,_⟩:=zhk (wc:=wc) hv1;unfold okU;simp[x1,x2,x3,hnv])
    rw[hk3]at this;cases this
  have early:okU wc o.op o0.op=true:=by
   cases hu:okU wc o.op o0.op with
   |true=>rfl
   |false=>have:=behind hf j0 o0 ho0 (zhk hv0).1 (by omega) hu;rw[hj3]at this;cases this
  have stay:StOK wc ops hs H a b S Hc:=.inr ⟨h1,h2,⟨j0,hj1,hj2,hj3⟩,⟨j1,hk1,hk2,hk3⟩,h5⟩;subst h5;cases hl:opL o.op with
  |true=>
   obtain⟨hw,_,hoa,hoc,_⟩:=zym hl;rw[hnw hw]at htr';refine⟨_,keepS _ hw stay,htr'.load hl (λhfe=>by have:=(hfl hfe j0 o0 ho0).2.1;rw[zyn hv0]at this;cases this) λid cs hcs=>?_⟩;have:=zxm hat a (by omega) (by omega) (λk ok hk hwk hle hlt=>by
    have hSk:=h1 k ok hk hwk hlt;have hki:k≠i:=by rintro rfl;rw[hSi]at hSk;cases hSk
    cases hu:okU wc o.op ok.op with
    |true=>
     obtain⟨x1,x2⟩:=zdf hwk;simp only[okU,hl,x1,hoa,hoc,hnv,aL,bh,bn,cr,aR,bB]at hu;rcases hu with hu|hu
     ·exact hu
     ·have:=(zxE (hLS (zkW hu).1) ho0).1;rw[zyn hv0]at this;cases this
    |false=>
     have:=behind hf k ok hk hwk (by omega) hu;rw[this]at hSk;cases hSk) id cs hcs
   rw[List.getElem?_append_left (List.getElem?_eq_some_iff.1 this).1];exact this
  |false=>
   have hc:opC wc o.op=true:=by unfold okU at early;simp only[hl,hnv,(zhk (wc:=wc) hv0).2.1,aL,bn,bh,cr,ac]at early;exact early.1
   obtain⟨hw,_,_,_⟩:=zyj hc;have e1:hpk hs H a=hpk hs H i:=zdb hat a (by omega) (by omega) (λk ok hk hwk hle hlt=>by
    have hSk:=h1 k ok hk hwk hlt;have hki:k≠i:=by rintro rfl;rw[hSi]at hSk;cases hSk
    have:=behind hf k ok hk hwk (by omega) (uf hl (zdf hwk).1 (.inr (notV hk (by omega))) (.inl hnv));rw[this]at hSk;cases hSk)
   refine⟨_,keepS _ hw stay,?_⟩;rw[e1];exact hx hc _
end

theorem zwO{ops:Array Oper}{F0 rs Fn:List AV}{hs:List zaa}{Hn:zaa}{K:List AV→zaa→Prop}{Q:Exit→Act→World→Prop}{w0:World}{G0:Gh}{va vb:Nat}(hLS:wc=.l→zeI ops=true)(hfl:fl=true→∀ (k:Nat) ok,ops[k]?=some ok→opA wc ok.op=false∧opN ok.op=false∧opK wc ok.op=false)(hO:Ord ops)(hW:zdt wc ops=true)(hV:VB ops va vb)(ht:TrL fl wc P ops ops.toList F0 H rs hs Fn Hn)(hK:K Fn Hn)(hQ:∀ a w G F H,Ext B w0 G0 w G→HRel B w G H→FRel w G a.tmps F→a.defers=[]→K F H→Q .normal a w):
  ∀ (fuel:Nat) (listed:Array Bool) (a:Act) (w:World) (G:Gh) (F:List AV) (Hc:zaa),StOK wc ops hs H va vb (inS listed) Hc→listed.size=ops.size→listed.toList.count false≤fuel →
   (∀(j:Nat) oj,ops[j]?=some oj→inS listed j=true→∀e∈oj.after,Region.binds .any e=true→inS listed e.on=true) →
   Ext B w0 G0 w G→HRel B w G Hc→FlRel ops F0 rs (inS listed) F→FRel w G a.tmps F→a.defers=[]→wpAny P .any ops Q fuel listed a w:=by
 obtain⟨hlen,hfn,hhn,hat0⟩:=ht.at;have hat:zdV fl wc P ops F0 rs hs H:=hat0;have hlen':rs.length=ops.size:=by simpa using hlen
 have hfit:=hV.fit
 -- nothing is ready only at the end
 have fin:∀ (listed:Array Bool) (a:Act) (w:World) (G:Gh) (F:List AV) (Hc:zaa),StOK wc ops hs H va vb (inS listed) Hc→listed.size=ops.size→Ext B w0 G0 w G→HRel B w G Hc→FlRel ops F0 rs (inS listed) F→FRel w G a.tmps F→a.defers=[] →
   Region.ready .any ops listed=[]→Q .normal a w:=by
  intro listed a w G F Hc hst hsz hE hH hFl hF hd hr;have all:∀i,i<ops.size→inS listed i=true:=by
   intro i;induction i using Nat.strongRecOn with
   |_ i ih=>
    intro hi;cases hS:inS listed i with
    |true=>rfl
    |false=>
     have:i∈Region.ready .any ops listed:=by
      rw[mem_ready];refine⟨?_,ops[i],by simp[hi],λe he hb=>?_⟩
      ·have hi':i<listed.size:=by omega
       simpa[inS,hi']using hS
      ·have hlt:=hO.edge i ops[i] (by simp[hi]) e he hb;exact ih e.on hlt (by omega)
     rw[hr]at this;cases this
  have h1:FlRel ops F0 rs (λk=>decide (k<ops.size)) F:=hFl.congr λi hi=>by rw[all i hi];simp[hi]
  have h2:=zpI hO ht ops.size (aa _);have:F=Fn:=by rw[FlRel.same hlen' h1 h2,←hfn];simp
  rw[this]at hF;have hHn:Hc=Hn:=by
   rcases hst with ⟨p,hp,hpo,rfl,_⟩|⟨_,_,_,⟨j,hj1,hj2,hj3⟩,_⟩
   ·rw[←hhn,Array.length_toList];exact(zdb hat ops.size hp (aa _) (λi o h1 h2 h3 h4=>by
     have:=(hpo i o h1 h2).1 (all i h4);omega)).symm
   ·rw[all j (by omega)]at hj3;cases hj3
  rw[hHn]at hH;exact hQ a w G Fn Hn hE hH hF hd hK
 intro fuel;induction fuel with
 |zero=>
  intro listed a w G F Hc hst hsz hc hcl hE hH hFl hF hd;have hr:Region.ready .any ops listed=[]:=by
   cases hr:Region.ready .any ops listed with
   |nil=>rfl
   |cons i is=>
    have hi:i∈Region.ready .any ops listed:=by rw[hr];simp
    obtain⟨h1,o,ho,_⟩:=mem_ready.1 hi;have hi':i<listed.size:=by rw[hsz];exact(Array.getElem?_eq_some_iff.1 ho).1
    have hf:listed[i]=false:=by simpa[hi']using h1
    have:false∈listed.toList:=by rw[←hf];simp
    have:=cX.2 this;omega
  exact⟨hr,fin listed a w G F Hc hst hsz hE hH hFl hF hd hr⟩
 |succ fuel ih=>
  intro listed a w G F Hc hst hsz hc hcl hE hH hFl hF hd;refine⟨fin listed a w G F Hc hst hsz hE hH hFl hF hd,λi hi=>?_⟩;obtain⟨h1,o,ho,hedge⟩:=mem_ready.1 hi;have hin:i<ops.size:=(Array.getElem?_eq_some_iff.1 ho).1;have hi':i<listed.size:=by omega
  have hSi:inS listed i=false:=by
   have:listed[i]=false:=by simpa[hi']using h1
   simp[inS,hi',this]
  obtain⟨r,hr,_⟩:=hat i o (by simpa using ho);have hreads:=zIK hO hlen' hFl (zpI hO ht i (by omega)) ho hSi hedge hcl
  -- what comes behind it
  have next:∀(a':Act) (w':World) (G':Gh) (Hc':zaa),StOK wc ops hs H va vb (λk=>if k=i then true else inS listed k) Hc'→Ext B w0 G0 w' G'→HRel B w' G' Hc'→FRel w' G' a'.tmps (zbE F o.dst r)→a'.defers=[]→wpAny P .any ops Q fuel (listed.setIfInBounds i true) a' w':=by
   intro a' w' G' Hc' hst' hE' hH' hF' hd';refine ih _ a' w' G' (zbE F o.dst r) Hc' (hst'.congr hV λk _=>(zdI hi' k).symm) (by simpa using hsz) ?_ ?_ hE' hH' ?_ hF' hd'
   ·have hf:listed.toList[i]'(by simpa using hi')=false:=by
     have:listed[i]=false:=by simpa[hi']using h1
     simpa using this
    rw[bR,List.count_set (by simpa using hi')];rw[hf];simp only[dh,cO,Bool.true_eq_false,aY,aT];omega
   ·intro j oj hj hSj e he hb;rw[zdI hi']at hSj ⊢;by_cases hji:j=i
    ·subst hji;rw[ho]at hj;cases hj;have:=hedge e he hb;by_cases hei:e.on=j
     ·simp[hei]
     ·simp only[hei,aT];exact this
    ·simp only[hji,aT]at hSj;have:=hcl j oj hj hSj e he hb;by_cases hei:e.on=i
     ·simp[hei]
     ·simp only[hei,aT];exact this
   ·exact(FlRel.step hO hFl ho hr).congr λk _=>(zdI hi' k).symm
  unfold wpOp;simp only[ho];have hput:∀v,(a.put o.dst v).defers=[]:=λv=>by cases hdst:o.dst <;> simpa[Act.put]using hd
  cases hv:opV o.op with
  |true=>
   -- a new variable
   have hab:=(hV.iff i o ho).1 hv;obtain⟨hw,hnl,hnc,hna,hnf⟩:=zhk (wc:=wc) hv;have hg:=hV.bare i o ho hv;rw[aB (by simp[Region.wanted,hg])];refine .inl ?_;obtain⟨o',t,z,ho',hop,hz,hzo,hnext,hr'⟩:=zya hat hV hab.1 hab.2;rw[ho]at ho';cases ho';rw[hr]at hr';cases hr';have hlen_i:(hpk hs H i).length=(hpk hs H va).length+(i-va):=by have:=zpL hat hV (i-va) (by omega);rw[show va+(i-va)=i by omega]at this;rw[this];simp
   -- the writing ones before the new variables are done, those behind are not
   have early:∀(k:Nat) ok,ops[k]?=some ok→opW wc ok.op=true→k<va→inS listed k=true:=λk ok hk hwk hlt=>by
    have hnvk:opV ok.op=false:=by
     cases hvk:opV ok.op with
     |false=>rfl
     |true=>have:=(hV.iff k ok hk).1 hvk;omega
    exact(zkY hO hW ho hk (by omega) (.inr hwk) hnf (ziI hwk) (by unfold okU;simp[(zdf hwk).1,(zdf hwk).2,hnvk,hnl])).ready hcl ho hedge
   have late:∀(k:Nat) ok,ops[k]?=some ok→opW wc ok.op=true→vb≤k→inS listed k=false:=λk ok hk hwk hle=>by
    have hnvk:opV ok.op=false:=by
     cases hvk:opV ok.op with
     |false=>rfl
     |true=>have:=(hV.iff k ok hk).1 hvk;omega
    cases hS:inS listed k with
    |false=>rfl
    |true=>have:=(zkY hO hW hk ho (by omega) (.inl hwk) (ziI hwk) hnf (by unfold okU;simp[(zdf hwk).1,hnl,hnc,hna,hnvk])).closed hcl hS;rw[hSi]at this;cases this
   -- the heap with places for the new variables
   have hplaces:∃G1,Ext B w G w G1∧HRel B w G1 (hpk hs H va++zcr hs H va vb (inS listed)):=by
    rcases hst with ⟨p,hp,hpo,rfl,hph⟩|⟨_,_,_,_,rfl⟩
    ·have hno:∀j,va≤j→j<vb→inS listed j=false:=by
      rcases hph with h|h
      ·exact h
      ·have:=h i hab.1 hab.2;rw[hSi]at this;cases this
     have e:hpk hs H p=hpk hs H va:=by
      by_cases hpa:p≤va
      ·exact(zdb hat va hpa (by omega) (λk ok hk hwk h1 h2=>by
        have:=(hpo k ok hk hwk).1 (early k ok hk hwk h2);omega)).symm
      ·refine zdb hat p (by omega) hp (λk ok hk hwk h1 h2=>?_);have hSk:=(hpo k ok hk hwk).2 h2;by_cases hkb:k<vb
       ·rw[hno k h1 hkb]at hSk;cases hSk
       ·rw[late k ok hk hwk (by omega)]at hSk;cases hSk
     rw[e]at hH;rw[zHa hno];obtain⟨h1,h2⟩:=hH.keepGaps (vb-va);exact⟨_,h1,h2⟩
    ·exact⟨G,Ext.refl _ _ _,hH⟩
   obtain⟨G1,hE1,hH1⟩:=hplaces;have hgap:(hpk hs H va++zcr hs H va vb (inS listed))[(hpk hs H va).length+(i-va)]?=some .gap:=by rw[List.getElem?_append_right (by omega),cD];exact zG9 hab.1 hab.2 hSi
   have hset:(hpk hs H va++zcr hs H va vb (inS listed)).set ((hpk hs H va).length+(i-va)) (.cells (zbt z))=hpk hs H va++zcr hs H va vb (λk=>if k=i then true else inS listed k):=by rw[ai _ _ (by omega),cD,←hzo,zHb hab.1 hab.2]
   have hst':StOK wc ops hs H va vb (λk=>if k=i then true else inS listed k) (hpk hs H va++zcr hs H va vb (λk=>if k=i then true else inS listed k)):=by
    by_cases hall:∀j,va≤j→j<vb→(if j=i then true else inS listed j)=true
    ·refine .inl ⟨vb,by omega,λk ok hk hwk=>?_,zxa hat hV hall,.inr hall⟩;by_cases hki:k=i
     ·subst hki;simp[hab.2]
     ·simp only[hki,aT];by_cases hkv:k<vb
      ·simp only[hkv,iff_true];by_cases hka:va≤k
       ·have:=hall k hka hkv;simpa[hki]using this
       ·exact early k ok hk hwk (by omega)
      ·simp only[hkv,iff_false];rw[late k ok hk hwk (by omega)];simp
    ·have hsome:∃j,va≤j∧j<vb∧(if j=i then true else inS listed j)=false:=by
      apply c5;intro hno;apply hall;intro j h1 h2;cases hS:(if j=i then true else inS listed j) with
      |true=>rfl
      |false=>exact(hno ⟨j,h1,h2,hS⟩).elim
     refine .inr ⟨λk ok hk hwk hka=>?_,λk ok hk hwk hkb=>?_,⟨i,hab.1,hab.2,by simp⟩,hsome,rfl⟩
     ·have hki:k≠i:=by omega
      simp only[hki,aT];exact early k ok hk hwk hka
     ·have hki:k≠i:=by omega
      simp only[hki,aT];exact late k ok hk hwk hkb
   have hrun:(execOp a.eval o).run P w=(((do pure (.value (←Instr.alloc t true (.tuple #[])))):Sem Next)).run P w:=by obtain⟨dst,op,type,pos,after,guard⟩:=o;simp only at hop;subst hop;rfl
   refine ziJ (hF.ext hE1) (K:=λv H'=>v=.ptr (hpk hs H i).length 0∧H'=hpk hs H va++zcr hs H va vb (λk=>if k=i then true else inS listed k)) (by
    rw[hrun];exact zJz hH1 hz hgap ⟨by rw[hlen_i],hset⟩) λv av w' G' H' k1 k2 k3 k4=>?_
   obtain⟨rfl,rfl⟩:=k4;exact next _ w' G' _ hst' ((hE.trans hE1).trans k1) k2 (((hF.ext hE1).ext k1).put k3) (hput v)
  |false=>
   obtain⟨Hc',hst',htr'⟩:=StOK.step (F:=F) hLS hfl hO hW hV hat hst hcl ho hSi hedge hr (λs hs=>(hreads s hs).symm) hv;have run:(zbi fl P o F Hc λv H'=>v=r∧H'=Hc')→o.wp P a w (wpAny P .any ops Q fuel (listed.setIfInBounds i true)) Q:=λhop=>
    ziJ hF (zgb hH hF (zFR hop)) λv av w' G' H' k1 k2 k3 k4=>by obtain⟨rfl,rfl⟩:=k4;exact next _ w' G' _ hst' (hE.trans k1) k2 ((hF.ext k1).put k3) (hput v)
   have skip:r=.tup []→Hc'=Hc→wpAny P .any ops Q fuel (listed.setIfInBounds i true) (a.put o.dst undef) w:=λhr0 he=>by subst hr0;subst he;exact next _ w G _ hst' hE hH (hF.put zrU) (hput _)
   unfold TrOK at htr';split at htr'
   ·rename_i hg;rw[aB (by simp[Region.wanted,hg])];exact .inl (run htr')
   ·rename_i j want hg;obtain⟨d,hdd,hcase⟩:=htr';rcases hcase with ⟨b,hb,hw,hop⟩ | ⟨b,hb,hw,hr0,he⟩ | ⟨hb,hr0,he⟩
    ·rw[zr1 hF hg hdd hb,aB hw];exact .inl (run hop)
    ·rw[zr1 hF hg hdd hb,ap (by simp[hw])];exact skip hr0 he
    ·rw[zAc hF hg hdd hb,ap (by simp)];exact skip hr0 he

theorem Post.of{w0:World}{G0:Gh}{Q:AExit→List AV→zaa→Prop}{a:Act}{F:List AV}{e:AExit}(hE:Ext B w0 G0 w G)(hH:HRel B w G H)(hF:FRel w G a.tmps F)(hd:a.defers=[])(h:Q e F H):Post B w0 G0 Q e.toExit a w:=
 ⟨F,H,G,e,rfl,hE,hH,hF,hd,h⟩

theorem zik:∀ (m:List Bool) {tm:List Value} {F:List AV},All2 (TRel w G) tm F→All2 (TRel w G) tm (zf2 m F)
 |[],tm,F,h=>by unfold zf2;exact h
 |b::m,[],[],h=>by cases b <;> trivial
 |true::m,v::tm,a::F,h=>⟨h.1,zik m h.2⟩
 |false::m,v::tm,a::F,h=>⟨trivial,zik m h.2⟩

theorem zIe(m:List Bool){y:Code}{Q:AExit→List AV→zaa→Prop}{now:List AV→zaa→Prop}{F:List AV}{H:zaa}(h:nxt m P y Q now F H)(hn:now F H→AWp P y Q F H):AWp P y Q F H:=by
 cases m with
 |nil=>exact hn h
 |cons b ms=>exactλB w G a hH hF hd=>h B w G a hH (zik _ hF) hd
theorem zgQ{M:Nat→List Bool}:∀(c:Code) (Q:AExit→List AV→zaa→Prop) (F:List AV) (H:zaa),awp P M c Q F H→AWp P c Q F H:=by
 intro c;induction c with
 |skip=>intro Q F H h B w G a hH hF hd;exact wp_skip (Post.of (e:=.normal) (Ext.refl _ _ _) hH hF hd h)
 |label l=>intro Q F H h B w G a hH hF hd;exact wp_label (Post.of (e:=.normal) (Ext.refl _ _ _) hH hF hd h)
 |region id ops draw=>
  intro Q F H h B w G a hH hF hd;cases draw with
  |false=>
   refine wp_region_list ?_;have h:(match M (300000+id) with
    |[]=>zfv P ops ops.toList (Q .normal) F H
    |_::_=>ziM P ops.toList (Q .normal) F H):=h
   split at h
   ·exact zrp (K:=Q .normal) (λa w G F H h1 h2 h3 h4 h5=>Post.of (e:=.normal) h1 h2 h3 h4 h5) ops.toList F H a w G (Ext.refl _ _ _) hH hF hd h
   ·exact zyY (K:=Q .normal) (λa w G F H h1 h2 h3 h4 h5=>Post.of (e:=.normal) h1 h2 h3 h4 h5) ops.toList F H a w G (Ext.refl _ _ _) hH hF hd h
  |true=>
   have main:∀ (fl:Bool) (wc:WM),(wc=.l→zeI ops=true)→(fl=true→∀ (k:Nat) ok,ops[k]?=some ok→opA wc ok.op=false∧opN ok.op=false∧opK wc ok.op=false)→(match zef ops && zdt wc ops && zeg ops && P.follows .mixedOrders with
     |true=>zcD fl wc P ops ops.toList (Q .normal) F H
     |false=>False)→(Code.region id ops true).wp P (Post B w G Q) a w:=by
    intro fl wc hLS hfl h;split at h
    ·rename_i hb;simp only[ac]at hb;obtain⟨⟨⟨hord,hwr⟩,hvr⟩,hm⟩:=hb;obtain⟨rs,hs,Fn,Hn,ht,hK⟩:=zc1 ops.toList F H h;obtain⟨va,vb,hV⟩:=zyo hvr;refine wp_region_any hm ?_;refine zwO hLS hfl (zq8 hord) hwr hV ht (K:=Q .normal) hK (w0:=w) (G0:=G) (λa w G F H h1 h2 h3 h4 h5=>Post.of (e:=.normal) h1 h2 h3 h4 h5) ops.size _ a _ G F H (.inl ⟨0,bz _,λk ok _ _=>by rw[zfk];simp,by cases hs <;> rfl,.inl λj _ _=>zfk _ _⟩) (by simp) (by simp) ?_ (Ext.drew B w G _ (cH _)) (hH.drew _ (cH _)) ?_ ?_ hd
     ·intro j oj _ hj;rw[zfk]at hj;cases hj
     ·refine⟨rfl,λi o s r _ _ hS=>?_,λs _=>rfl⟩;rw[zfk]at hS;cases hS
     ·exact hF.ext (Ext.drew B w G _ (cH _))
    ·exact h.elim
   simp only[awp]at h;split at h
   ·cases hn:noG ops with
    |false=>simp[hn]at h
    |true=>
     rw[hn,bW]at h;refine main true .n (λe=>by cases e) (λ_ k ok hk=>?_) h;have:=am.1 hn ok (aQ (by rw[Array.getElem?_toList];exact hk));have hk0:opK .n ok.op=false:=by
      cases hb:opK .n ok.op with
      |false=>rfl
      |true=>have:=(zkW hb).1;cases this
     rw[hk0];simpa using this
   have no:∀wc:WM,false=true→∀(k:Nat) ok,ops[k]?=some ok→opA wc ok.op=false∧opN ok.op=false∧opK wc ok.op=false:=λwc h=>by cases h
   split at h
   ·cases hl:zeI ops with
    |false=>simp[hl]at h
    |true=>rw[hl,bW]at h;exact main false .l (λ_=>hl) (no _) h
   split at h
   ·exact main false .n (λe=>by cases e) (no _) h
   ·exact main false .w (λe=>by cases e) (no _) h
   ·exact main false .g (λe=>by cases e) (no _) h
   ·exact main false .c (λe=>by cases e) (no _) h
   ·rename_i l _;split at h
    ·rename_i hb;simp only[ac,aH]at hb;obtain⟨⟨⟨⟨⟨hord,hwr⟩,hvr⟩,hm⟩,hdep⟩,hle⟩:=hb;have hsz:ops.size-l.length+l.length=ops.size:=by omega
     generalize hpre:zdM ops (ops.size-l.length)=pre at *;have hps:pre.size=ops.size-l.length:=by rw[←hpre];simp[zdM]
     obtain⟨rs,hs,Fn,Hn,ht,hK⟩:=zc1 pre.toList F H h;obtain⟨va,vb,hV⟩:=zyo hvr;refine wp_region_any hm ?_;have key:=zwO (fl:=false) (λh=>by cases h) (λh=>by cases h) (zq8 hord) hwr hV ht (K:=zhq P ops (Q .normal) l.length (zhx (ops.size-l.length) l.length)) hK (Q:=zli (wpAny P .any ops (Post B w G Q) l.length (zhx (ops.size-l.length) l.length)) (Post B w G Q)) (w0:=w) (G0:=G)
      (λa w G F H h1 h2 h3 h4 h5=>zIO (λa w G F H h1 h2 h3 h4 h5=>Post.of (e:=.normal) h1 h2 h3 h4 h5) _ _ a w G F H h1 h2 h3 h4 h5)
      pre.size (Array.replicate pre.size false) a { w with drawn:=w.drawn+1 } G F H (.inl ⟨0,bz _,λk ok _ _=>by rw[zfk];simp,by cases hs <;> rfl,.inl λj _ _=>zfk _ _⟩) (by simp) (by simp) (λj oj _ hj=>by rw[zfk]at hj;cases hj) (Ext.drew B w G _ (cH _)) (hH.drew _ (cH _))
      ⟨rfl,λi o s r _ _ hS=>(by rw[zfk]at hS;cases hS),λs _=>rfl⟩ (hF.ext (Ext.drew B w G _ (cH _))) hd
     have:=zKP hsz hpre.symm hdep (zq8 hord).edge pre.size (Array.replicate pre.size false) a _ (by simp[hps]) (by simp) (λj oj _ hS=>by by_cases hlt:j<pre.size <;> simp[hlt]at hS) key;have e:Array.replicate pre.size false++(List.replicate l.length false).toArray=Array.replicate ops.size false:=by apply Array.toList_inj.1;simp[hps,List.replicate_append_replicate,hsz]
     rw[e,hps,hsz]at this;exact this
    ·exact h.elim
 |seq x y ihx ihy=>
  intro Q F H h B w G a hH hF hd;refine wp_seq (wp_mono (ihx _ F H h B w G a hH hF hd) λe a' w' hp=>?_);obtain⟨F',H',G',e',rfl,h1,h2,h3,h4,h5⟩:=hp;cases e' with
  |normal=>
   have h6:AWp P y Q F' H':=by exact zIe _ h5 (ihy Q F' H')
   refine wp_mono (h6 B w' G' a' h2 h3 h4) λe a'' w'' hp=>?_;obtain⟨F'',H'',G'',e'',rfl,k1,k2,k3,k4,k5⟩:=hp;exact⟨F'',H'',G'',e'',rfl,h1.trans k1,k2,k3,k4,k5⟩
  |exit id=>exact Post.of (e:=.exit id) h1 h2 h3 h4 h5
  |ret=>exact Post.of (e:=.ret) h1 h2 h3 h4 h5
 |scope c ih=>
  intro Q F H h B w G a hH hF hd;refine wp_scope_straight (wp_mono (ih Q F H h B w G a hH hF hd) λe a' w' hp=>?_);obtain⟨F',H',G',e',rfl,h1,h2,h3,h4,h5⟩:=hp;cases e' with
  |normal=>exact Post.of (e:=.normal) h1 h2 h3 h4 h5
  |exit id=>exact Post.of (e:=.exit id) h1 h2 h3 h4 h5
  |ret=>exact Post.of (e:=.ret) h1 h2 h3 h4 h5
 |cond c x y ihx ihy=>
  intro Q F H h B w G a hH hF hd;simp only[awp,zag]at h;split at h
  ·rename_i t ht;have hc:=zaJ hF c;rw[ht]at hc;have hc:a.eval c=.bool t:=hc;unfold aIf at h;refine wp_cond hc ?_;cases t with
   |true=>exact ihx Q F H (by simpa using h) B w G a hH hF hd
   |false=>exact ihy Q F H (by simpa using h) B w G a hH hF hd
  ·exact h.elim
 |block id c ih=>
  intro Q F H h B w G a hH hF hd;refine wp_block (wp_mono (ih _ F H h B w G a hH hF hd) λe a' w' hp=>?_);obtain⟨F',H',G',e',rfl,h1,h2,h3,h4,h5⟩:=hp;cases e' with
  |normal=>exact Post.of (e:=.normal) h1 h2 h3 h4 h5
  |ret=>exact Post.of (e:=.ret) h1 h2 h3 h4 h5
  |exit id'=>
   simp only[AExit.toExit,Exit.inBlock];simp only[zpj]at h5;split at h5
   ·rename_i hid;rw[aB (by simpa using hid)];exact Post.of (e:=.normal) h1 h2 h3 h4 h5
   ·rename_i hid;rw[ap (by simpa using hid)];exact Post.of (e:=.exit id') h1 h2 h3 h4 h5
 |loop c ih=>intro Q F H h B w G a hH hF hd;exact h B w G a hH (zik _ hF) hd
 |ret=>intro Q F H h B w G a hH hF hd;exact wp_ret (Post.of (e:=.ret) (Ext.refl _ _ _) hH hF hd h)
 |exit id=>intro Q F H h B w G a hH hF hd;exact wp_exit (Post.of (e:=.exit id) (Ext.refl _ _ _) hH hF hd h)
 |_=>intro Q F H h;exact h.elim

end
section
open Go.RowKit

variable {P:Program} {B:Nat} {w:World} {G:Gh} {H:zaa}

def AV.scB(n:Nat):AV→Bool
 |.ptr id _=>decide (id<n)
 |.ms id _ _ _=>decide (id<n)
 |.ov id _=>decide (id<n)
 |.vp id _ _=>decide (id<n)
 |.os id _ _ _=>decide (id<n)
 |.map id=>decide (id<n)
 |.sl _ (.own id)=>decide (id<n)
 |_=>true
def AV.scA(n:Nat):AV→Bool
 |.fn _ caps=>caps.all (AV.scB n)
 |a=>a.scB n
def AV.scV(n:Nat):AV→Bool
 |.agg cs=>cs.all (AV.scA n)
 |a=>a.scA n
def AV.sc(n:Nat):AV→Bool
 |.tup vs=>vs.all (AV.scV n)
 |a=>a.scV n
def AB.sc(n:Nat):AB→Bool
 |.cells cs=>cs.all (AV.scA n)
 |.map kvs=>kvs.all λp=>p.2.scV n
 |.mapP kvs=>kvs.all λp=>p.2.scV n
 |.bld _ cs=>cs.all (AV.scA n)
 |.vec _ _ _ cs=>cs.all (AV.scA n)
 |_=>true
def HSc(H:zaa):Prop:=∀b∈H,b.sc H.length=true

theorem lt_of_μ{id:Nat}{gi:GI}(h:G.μ[id]?=some gi):id<G.μ.length:=(List.getElem?_eq_some_iff.1 h).1

theorem BRel.sc{v:Value}{a:AV}(h:BRel w G v a):a.scB G.μ.length=true:=by
 cases a with
 |ptr id off=>obtain⟨b,h1,_⟩:=h;simpa[AV.scB]using lt_of_μ h1
 |ms id off len cap=>obtain⟨b,h1,_⟩:=h;simpa[AV.scB]using lt_of_μ h1
 |ov id n=>obtain⟨_,v',s,n',h1,_⟩:=h;simpa[AV.scB]using lt_of_μ h1
 |vp id n off=>obtain⟨_,v',s,n',h1,_⟩:=h;simpa[AV.scB]using lt_of_μ h1
 |os id n l e=>obtain⟨_,v',s,n',h1,_⟩:=h;simpa[AV.scB]using lt_of_μ h1
 |map id=>obtain⟨b,h1,_⟩:=h;simpa[AV.scB]using lt_of_μ h1
 |sl es tok=>
  cases tok with
  |own id=>obtain⟨_,v',s,n,h1,_⟩:=h;simpa[AV.scB]using lt_of_μ h1
  |none=>rfl
  |full=>rfl
 |_=>rfl
theorem All2.all_of{R:Value→AV→Prop}{p:AV→Bool}(hp:∀ v a,R v a→p a=true):∀ {vs:List Value} {asx:List AV},All2 R vs asx→asx.all p=true
 |[],[],_=>rfl
 |_::_,_::_,h=>by simp only[List.all_cons,ac];exact⟨hp _ _ h.1,All2.all_of hp h.2⟩
theorem ARel.sc{v:Value}{a:AV}(h:ARel w G v a):a.scA G.μ.length=true:=by
 have hb:∀{x:AV},BRel w G v x→x.scB G.μ.length=true:=λh=>h.sc;cases a with
 |fn f caps=>obtain⟨vs,_,h2⟩:=h;exact All2.all_of (λv a (h:BRel w G v a)=>h.sc) h2
 |unk=>exact hb (x:=.unk) h
 |bool b=>exact hb (x:=.bool b) h
 |int k n=>exact hb (x:=.int k n) h
 |str s=>exact hb (x:=.str s) h
 |nilp=>exact hb (x:=.nilp) h
 |ptr i o=>exact hb (x:=.ptr i o) h
 |view cs=>exact hb (x:=.view cs) h
 |snil=>exact hb (x:=.snil) h
 |sl es t=>exact hb (x:=.sl es t) h
 |ms i o l c=>exact hb (x:=.ms i o l c) h
 |ov i n=>exact hb (x:=.ov i n) h
 |vp i n o=>exact hb (x:=.vp i n o) h
 |os i n l e=>exact hb (x:=.os i n l e) h
 |map i=>exact hb (x:=.map i) h
 |nilfn=>exact hb (x:=.nilfn) h
 |nili=>exact hb (x:=.nili) h
 |ifc=>exact hb (x:=.ifc) h
 |agg cs=>exact hb (x:=.agg cs) h
 |tup vs=>exact hb (x:=.tup vs) h
theorem VRel.sc{v:Value}{a:AV}(h:VRel w G v a):a.scV G.μ.length=true:=by
 have ha:∀{x:AV},ARel w G v x→x.scA G.μ.length=true:=λh=>h.sc;cases a with
 |agg cs=>obtain⟨vs,_,h2⟩:=h;exact All2.all_of (λv a (h:ARel w G v a)=>h.sc) h2
 |fn f caps=>exact ha (x:=.fn f caps) h
 |unk=>rfl
 |bool b=>rfl
 |int k n=>rfl
 |str s=>rfl
 |nilp=>rfl
 |ptr i o=>exact ha (x:=.ptr i o) h
 |view cs=>rfl
 |snil=>rfl
 |sl es t=>exact ha (x:=.sl es t) h
 |ms i o l c=>exact ha (x:=.ms i o l c) h
 |ov i n=>exact ha (x:=.ov i n) h
 |vp i n o=>exact ha (x:=.vp i n o) h
 |os i n l e=>exact ha (x:=.os i n l e) h
 |map i=>exact ha (x:=.map i) h
 |nilfn=>rfl
 |nili=>rfl
 |ifc=>rfl
 |tup vs=>exact ha (x:=.tup vs) h
theorem ERel.sc{e:MapEntry}{p:List UInt8×AV}(h:ERel w G e p):p.2.scV G.μ.length=true:=h.2.sc
theorem ERelP.sc{e:MapEntry}{p:(Int×Int)×AV}(h:ERelP w G e p):p.2.scV G.μ.length=true:=h.2.sc
theorem All2.all_ents{p:AV→Bool}{R:MapEntry→List UInt8 × AV→Prop}(hp:∀ v a,R v a→p a.2=true):∀ {vs:List MapEntry} {asx:List (List UInt8 × AV)},All2 R vs asx→(asx.all λa=>p a.2)=true
 |[],[],_=>rfl
 |_::_,_::_,h=>by simp only[List.all_cons,ac];exact⟨hp _ _ h.1,All2.all_ents hp h.2⟩
theorem All2.all_entsP{p:AV→Bool}{R:MapEntry→(Int × Int) × AV→Prop}(hp:∀ v a,R v a→p a.2=true):∀ {vs:List MapEntry} {asx:List ((Int × Int) × AV)},All2 R vs asx→(asx.all λa=>p a.2)=true
 |[],[],_=>rfl
 |_::_,_::_,h=>by simp only[List.all_cons,ac];exact⟨hp _ _ h.1,All2.all_entsP hp h.2⟩
theorem HRel.sc(h:HRel B w G H):HSc H:=by
 intro ab hab;obtain⟨id,hid⟩:=aJ.1 hab;have hlt:id<G.μ.length:=by rw[h.len];exact(List.getElem?_eq_some_iff.1 hid).1
 have hok:=h.ok id ab _ hid (List.getElem?_eq_getElem hlt);cases ab with
 |cells cs=>
  cases hg:G.μ[id] with
  |blk b=>rw[hg]at hok;obtain⟨_,_,vs,e,_,h2⟩:=hok;have:=All2.all_of (λv a (h:ARel w G v a)=>h.sc) h2;rw[h.len]at this;exact this
  |own v s n=>rw[hg]at hok;exact hok.elim
  |gap=>rw[hg]at hok;exact hok.elim
 |vec e s n cs=>
  cases hg:G.μ[id] with
  |blk b=>rw[hg]at hok;exact hok.elim
  |own v s n=>rw[hg]at hok;obtain⟨_,_,⟨xs,_,h2⟩,_⟩:=hok;have:=All2.all_of (λv a (h:ARel w G v a)=>h.sc) h2;rw[h.len]at this;exact this
  |gap=>rw[hg]at hok;exact hok.elim
 |bld t cs=>
  cases hg:G.μ[id] with
  |blk b=>rw[hg]at hok;obtain⟨_,_,vs,_,h2⟩:=hok;have:=All2.all_of (λv a (h:ARel w G v a)=>h.sc) h2;rw[h.len]at this;exact this
  |own v s n=>rw[hg]at hok;exact hok.elim
  |gap=>rw[hg]at hok;exact hok.elim
 |map kvs=>
  cases hg:G.μ[id] with
  |blk b=>rw[hg]at hok;obtain⟨_,_,es,clk,_,h2⟩:=hok;have:=All2.all_ents (p:=AV.scV G.μ.length) (λv a (h:ERel w G v a)=>h.sc) h2;rw[h.len]at this;exact this
  |own v s n=>rw[hg]at hok;exact hok.elim
  |gap=>rw[hg]at hok;exact hok.elim
 |mapP kvs=>
  cases hg:G.μ[id] with
  |blk b=>rw[hg]at hok;obtain⟨_,_,es,clk,_,h2⟩:=hok;have:=All2.all_entsP (p:=AV.scV G.μ.length) (λv a (h:ERelP w G v a)=>h.sc) h2;rw[h.len]at this;exact this
  |own v s n=>rw[hg]at hok;exact hok.elim
  |gap=>rw[hg]at hok;exact hok.elim
 |perm e s n=>rfl
 |gap=>rfl
 |dead=>rfl
 |nodr=>rfl
 |fact φ=>rfl
 |frz e s n=>rfl

def Gh.cut(G:Gh)(w:World)(n:Nat):Gh:=
 ⟨λb=>if (G.μ.drop n).any (λgi=>gi.block == some b)=true then (match w.heap[b]? with|some (.cells c _ _)=>c.size|_=>0) else G.L b,G.μ.take n⟩

theorem zfe{n id:Nat}(h:id<n):(G.cut w n).μ[id]?=G.μ[id]?:=by simp[Gh.cut,h]
theorem zh5{n id:Nat}{gi:GI}(h:(G.cut w n).μ[id]?=some gi):id<n∧G.μ[id]?=some gi:=by
 simp only[Gh.cut,List.getElem?_take]at h;split at h
 ·rename_i hlt;exact⟨hlt,h⟩
 ·cases h
theorem cut_dropped{n b:Nat}:((G.μ.drop n).any (λgi=>gi.block == some b)=true)↔∃id gi,n≤id∧G.μ[id]?=some gi∧gi.block=some b:=by
 rw[List.any_eq_true];constructor
 ·rintro⟨gi,h1,h2⟩;obtain⟨k,hk⟩:=aJ.1 h1;rw[List.getElem?_drop]at hk;exact⟨n+k,gi,by omega,hk,by simpa using h2⟩
 ·rintro⟨id,gi,h1,h2,h3⟩;refine⟨gi,aJ.2 ⟨id-n,?_⟩,by simp[h3]⟩;rw[List.getElem?_drop,show n+(id-n)=id by omega];exact h2

theorem zpw(h:HRel B w G H)(n b:Nat):G.L b≤(G.cut w n).L b:=by
 simp only[Gh.cut];split
 ·rename_i hd;obtain⟨id,gi,_,hid,hb0⟩:=cut_dropped.1 hd;have hlt:id<H.length:=by rw[←h.len];exact lt_of_μ hid
  have hok:=h.ok id _ _ (List.getElem?_eq_getElem hlt) hid;cases gi with
  |gap=>cases hb0
  |blk x=>
   simp[GI.block]at hb0;subst hb0;cases hb:H[id] with
   |cells cs=>rw[hb]at hok;rw[hok.2.1];exact bz _
   |perm e s n=>rw[hb]at hok;exact hok.elim
   |map kvs=>rw[hb]at hok;rw[hok.2.1];exact bz _
   |mapP kvs=>rw[hb]at hok;rw[hok.2.1];exact bz _
   |bld t cs=>rw[hb]at hok;rw[hok.2.1];exact bz _
   |vec e s n cs=>rw[hb]at hok;exact hok.elim
   |gap=>rw[hb]at hok;exact hok.elim
   |dead=>rw[hb]at hok;obtain⟨vs,e,fr,h1,h2⟩:=hok;rw[h1];exact h2
   |frz e s n=>rw[hb]at hok;exact hok.elim
   |nodr=>rw[hb]at hok;exact hok.elim
   |fact φ=>rw[hb]at hok;exact hok.elim
  |own v s n=>
   simp only[GI.block]at hb0;have big:∀{e m:Nat} {xs:List Value},w.ownsRow B e s v m xs→m*s≤(match w.heap[b]? with|some (.cells c _ _)=>c.size|_=>0):=by
    rintro e m xs ⟨hl,h1|⟨g,cap,cur,rfl,h1,h2,h3,h4,h5,h6⟩⟩
    ·rw[h1.1]at hb0;cases hb0
    ·simp[Value.ownBlock]at hb0;subst hb0;rw[h2];simp only[h5];exact aq _ h3
   cases hb:H[id] with
   |perm e s' n'=>rw[hb]at hok;obtain⟨rfl,rfl,⟨xs,hx⟩,hL⟩:=hok;rw[hL b hb0];exact big hx
   |vec e s' n' cs=>rw[hb]at hok;obtain⟨rfl,rfl,_,hL⟩:=hok;rw[hL b hb0];exact bz _
   |cells cs=>rw[hb]at hok;exact hok.elim
   |map kvs=>rw[hb]at hok;exact hok.elim
   |mapP kvs=>rw[hb]at hok;exact hok.elim
   |bld t cs=>rw[hb]at hok;exact hok.elim
   |gap=>rw[hb]at hok;exact hok.elim
   |frz e s' n'=>rw[hb]at hok;obtain⟨g,cap,vs,fr,rfl,rfl,rfl,h1,h2,h3,h4,h5,h6⟩:=hok;simp[Value.ownBlock]at hb0;subst hb0;rw[h1,h3];simp only[h6];exact aq _ h4
   |nodr=>rw[hb]at hok;rw[hok]at hb0;cases hb0
   |fact φ=>rw[hb]at hok;exact hok.elim
   |dead=>rw[hb]at hok;obtain⟨vs,e,fr,h1,h2⟩:=hok b hb0;rw[h1];exact h2
 ·exact aa _


theorem zeH(h:HRel B w G H){n id:Nat}{gi:GI}{b:Nat}(hn:id<n)(hid:G.μ[id]?=some gi)(hb:gi.block=some b):(G.cut w n).L b=G.L b:=by
 simp only[Gh.cut];split
 ·rename_i hd;obtain⟨id',gi',h1,h2,h3⟩:=cut_dropped.1 hd;have:=h.dist id id' gi _ b hid h2 hb h3;omega
 ·rfl

theorem zpv(h:HRel B w G H){w0:World}{G0:Gh}{n:Nat}(hE:Ext B w0 G0 w G)(hn:G0.μ.length≤n):Ext B w0 G0 w (G.cut w n):=
 ⟨⟨hE.dr.le,λhn=>hE.dr.nn (by obtain⟨s,m,hn⟩:=hn;exact⟨s,m,(zh5 hn).2⟩)⟩,hE.below,λb=>aC (hE.lev b) (zpw h n b),hE.cell,λid gi hg=>by
  obtain⟨g',h1,h2⟩:=hE.ids id gi hg;exact⟨g',by rw[zfe (a7 (lt_of_μ hg) hn)];exact h1,h2⟩⟩

theorem zh4(h:HRel B w G H){n:Nat}{v:Value}{a:AV}(hd:DRel w G.L v a):DRel w (G.cut w n).L v a:=hd.mono (λb=>zpw h n b) (λ_ _ _=>rfl)
theorem zwH(h:HRel B w G H){n:Nat}{v:Value}{a:AV}(hr:BRel w G v a)(hs:a.scB n=true):BRel w (G.cut w n) v a:=by
 cases a with
 |ptr id off=>obtain⟨b,h1,h2⟩:=hr;simp[AV.scB]at hs;exact⟨b,by rw[zfe hs];exact h1,h2⟩
 |ms id off len cap=>obtain⟨b,h1,h2⟩:=hr;simp[AV.scB]at hs;exact⟨b,by rw[zfe hs];exact h1,h2⟩
 |map id=>obtain⟨b,h1,h2⟩:=hr;simp[AV.scB]at hs;exact⟨b,by rw[zfe hs];exact h1,h2⟩
 |ov id m=>obtain⟨h0,v',s,m',h1,h2⟩:=hr;simp[AV.scB]at hs;exact⟨h0,v',s,m',by rw[zfe hs];exact h1,h2⟩
 |vp id m off=>obtain⟨h0,v',s,m',h1,h2⟩:=hr;simp[AV.scB]at hs;exact⟨h0,v',s,m',by rw[zfe hs];exact h1,h2⟩
 |os id m l e=>obtain⟨h0,v',s,m',h1,h2⟩:=hr;simp[AV.scB]at hs;exact⟨h0,v',s,m',by rw[zfe hs];exact h1,h2⟩
 |view cs=>obtain⟨b,off,h1,h2⟩:=hr;exact⟨b,off,h1,h2.mono (λb=>zpw h n b) (λ_ _ _=>rfl)⟩
 |sl es tok=>
  cases tok with
  |none=>exact zh4 h hr
  |full=>exact⟨zh4 h hr.1,hr.2⟩
  |own id=>obtain⟨h1,v',s,m,h2,h3⟩:=hr;simp[AV.scB]at hs;exact⟨zh4 h h1,v',s,m,by rw[zfe hs];exact h2,h3⟩
 |_=>exact hr
theorem zeG{R R':Value→AV→Prop}{p:AV→Bool}(hp:∀ v a,R v a→p a=true→R' v a):∀ {vs:List Value} {asx:List AV},All2 R vs asx→asx.all p=true→All2 R' vs asx
 |[],[],_,_=>trivial
 |_::_,_::_,h,hs=>by simp only[List.all_cons,ac]at hs;exact⟨hp _ _ h.1 hs.1,zeG hp h.2 hs.2⟩
theorem zh3(h:HRel B w G H){n:Nat}{v:Value}{a:AV}(hr:ARel w G v a)(hs:a.scA n=true):ARel w (G.cut w n) v a:=by
 cases a with
 |fn f caps=>obtain⟨vs,h1,h2⟩:=hr;exact⟨vs,h1,zeG (p:=AV.scB n) (λ_ _=>zwH h) h2 hs⟩
 |_=>exact ARel.of_b (zwH h hr hs)
theorem zjL(h:HRel B w G H){n:Nat}{v:Value}{a:AV}(hr:VRel w G v a)(hs:a.scV n=true):VRel w (G.cut w n) v a:=by
 cases a with
 |agg cs=>obtain⟨vs,h1,h2⟩:=hr;exact⟨vs,h1,zeG (p:=AV.scA n) (λ_ _=>zh3 h) h2 hs⟩
 |_=>exact VRel.of_a (zh3 h hr hs)
theorem zwK(h:HRel B w G H){n:Nat}{v:Value}{a:AV}(hr:TRel w G v a)(hs:a.sc n=true):TRel w (G.cut w n) v a:=by
 cases a with
 |tup cs=>obtain⟨vs,h1,h2⟩:=hr;exact⟨vs,h1,zeG (p:=AV.scV n) (λ_ _=>zjL h) h2 hs⟩
 |_=>exact TRel.of_v (zjL h hr hs)

theorem zwI{G':Gh}{p:AV→Bool}(hp:∀ v a,VRel w G v a→p a=true→VRel w G' v a):∀ {es:List MapEntry} {kvs:List (List UInt8 × AV)},All2 (ERel w G) es kvs→(kvs.all λa=>p a.2)=true→All2 (ERel w G') es kvs
 |[],[],_,_=>trivial
 |_::_,_::_,h,hs=>by simp only[List.all_cons,ac]at hs;exact⟨⟨h.1.1,hp _ _ h.1.2 hs.1⟩,zwI hp h.2 hs.2⟩
theorem zwJ{G':Gh}{p:AV→Bool}(hp:∀ v a,VRel w G v a→p a=true→VRel w G' v a):∀ {es:List MapEntry} {kvs:List ((Int × Int) × AV)},All2 (ERelP w G) es kvs→(kvs.all λa=>p a.2)=true→All2 (ERelP w G') es kvs
 |[],[],_,_=>trivial
 |_::_,_::_,h,hs=>by simp only[List.all_cons,ac]at hs;exact⟨⟨h.1.1,hp _ _ h.1.2 hs.1⟩,zwJ hp h.2 hs.2⟩
theorem HRel.cut{J:zaa}(h:HRel B w G (H++J))(hs:HSc H):HRel B w (G.cut w H.length) H:=by
 refine⟨?_,?_,?_,?_,?_,h.base⟩
 ·have:=h.len;simp[Gh.cut]at this ⊢;omega
 ·intro id ab gi h1 h2;obtain⟨hlt,h2⟩:=zh5 h2;have hok:=h.ok id ab gi (by rw[List.getElem?_append_left hlt];exact h1) h2;have hsc:=hs ab (aJ.2 ⟨id,h1⟩);cases ab with
  |cells cs=>
   cases gi with
   |blk b=>obtain⟨k1,k2,vs,e,k3,k4⟩:=hok;exact⟨k1,by rw[zeH h hlt h2 rfl];exact k2,vs,e,k3,zeG (p:=AV.scA H.length) (λ_ _=>zh3 h) k4 hsc⟩
   |own v s n=>exact hok.elim
   |gap=>exact hok.elim
  |perm e s n=>
   cases gi with
   |blk b=>exact hok.elim
   |gap=>exact hok.elim
   |own v s' n'=>obtain⟨k1,k2,k3,k4⟩:=hok;exact⟨k1,k2,k3,λb hb=>by rw[zeH h hlt h2 (by simpa[GI.block]using hb)];exact k4 b hb⟩
  |vec e s n cs=>
   cases gi with
   |blk b=>exact hok.elim
   |gap=>exact hok.elim
   |own v s' n'=>obtain⟨k1,k2,⟨xs,k3,k5⟩,k4⟩:=hok;exact⟨k1,k2,⟨xs,k3,zeG (p:=AV.scA H.length) (λ_ _=>zh3 h) k5 hsc⟩,λb hb=>by rw[zeH h hlt h2 (by simpa[GI.block]using hb)];exact k4 b hb⟩
  |map kvs=>
   cases gi with
   |blk b=>obtain⟨k1,k2,es,clk,k3,k4⟩:=hok;exact⟨k1,by rw[zeH h hlt h2 rfl];exact k2,es,clk,k3,zwI (λ_ _ h1 h2=>zjL h h1 h2) k4 hsc⟩
   |own v s n=>exact hok.elim
   |gap=>exact hok.elim
  |mapP kvs=>
   cases gi with
   |blk b=>obtain⟨k1,k2,es,clk,k3,k4⟩:=hok;exact⟨k1,by rw[zeH h hlt h2 rfl];exact k2,es,clk,k3,zwJ (λ_ _ h1 h2=>zjL h h1 h2) k4 hsc⟩
   |own v s n=>exact hok.elim
   |gap=>exact hok.elim
  |gap=>
   cases gi with
   |blk b=>exact hok.elim
   |own v s n=>exact hok.elim
   |gap=>trivial
  |frz e s n=>
   cases gi with
   |blk b=>exact hok.elim
   |own v s' n'=>obtain⟨g,cap,vs,fr,rfl,rfl,rfl,k1,k2,k3,k4⟩:=hok;exact⟨g,cap,vs,fr,rfl,rfl,rfl,k1,k2,by rw[zeH h hlt h2 rfl];exact k3,k4⟩
   |gap=>exact hok.elim
  |nodr=>
   cases gi with
   |blk b=>exact hok.elim
   |own v s n=>exact hok
   |gap=>exact hok.elim
  |fact φ=>
   cases gi with
   |blk b=>exact hok.elim
   |own v s n=>exact hok.elim
   |gap=>exact hok
  |dead=>
   cases gi with
   |blk b=>obtain⟨vs,e,fr,k1,k2⟩:=hok;exact⟨vs,e,fr,k1,by rw[zeH h hlt h2 rfl];exact k2⟩
   |own v s n=>exactλb hb=>by rw[zeH h hlt h2 (by simpa[GI.block]using hb)];exact hok b hb
   |gap=>exact hok.elim
  |bld t cs=>
   cases gi with
   |blk b=>obtain⟨k1,k2,vs,k3,k4⟩:=hok;exact⟨k1,by rw[zeH h hlt h2 rfl];exact k2,vs,k3,zeG (p:=AV.scA H.length) (λ_ _=>zh3 h) k4 hsc⟩
   |own v s n=>exact hok.elim
   |gap=>exact hok.elim
 ·intro id id' gi gi' b h1 h2;exact h.dist id id' gi gi' b (zh5 h1).2 (zh5 h2).2
 ·intro b hb;simp only[Gh.cut];split
  ·rename_i hd;obtain⟨id,gi,_,hid,hgb⟩:=cut_dropped.1 hd;have:=h.lt id _ b hid hgb;omega
  ·exact h.fresh b hb
 ·intro id gi b h1 h2;exact h.lt id gi b (zh5 h1).2 h2

inductive WkA:AV→AV→Prop
 |refl (a:AV):WkA a a
 |sl (es:List (List AV)) (t:Tok):WkA (.sl es t) (.sl es .none)
 |snil:WkA .snil (.sl [] .none)
inductive WkV:AV→AV→Prop
 |unk (a:AV):WkV a .unk
 |atom {a b:AV} (h:WkA a b):WkV a b
 |agg {cs ds:List AV} (h:All2 WkA cs ds):WkV (.agg cs) (.agg ds)
theorem WkA.arel{v:Value}{a b:AV}(h:WkA a b)(hr:ARel w G v a):ARel w G v b:=by
 cases h with
 |refl=>exact hr
 | sl es t=>cases t with
  |none=>exact hr
  |full=>exact hr.1
  |own id=>exact hr.1
 |snil=>cases hr;exact .slE _ _
theorem All2.wk{asx bs:List AV}(h:All2 WkA asx bs):∀{vs:List Value},All2 (ARel w G) vs asx→All2 (ARel w G) vs bs:=by
 induction asx generalizing bs with
 |nil=>
  intro vs hr;cases bs with
  |nil=>exact hr
  |cons b bs=>exact h.elim
 |cons a asx ih=>
  intro vs hr;cases bs with
  |nil=>exact h.elim
  |cons b bs=>
   cases vs with
   |nil=>exact hr.elim
   |cons v vs=>exact⟨h.1.arel hr.1,ih h.2 hr.2⟩
theorem WkV.trel{v:Value}{a b:AV}(h:WkV a b)(hr:TRel w G v a):TRel w G v b:=by
 cases h with
 |unk=>trivial
 |atom h=>
  cases h with
  |refl=>exact hr
  |sl es t=>exact TRel.of_v (VRel.of_a (WkA.arel (.sl es t) hr))
  |snil=>exact TRel.of_v (VRel.of_a (WkA.arel .snil hr))
 |agg h=>obtain⟨vs,h1,h2⟩:=hr;exact⟨vs,h1,h.wk h2⟩
theorem zAf{asx bs:List AV}(h:All2 WkV asx bs):∀{vs:List Value},All2 (TRel w G) vs asx→All2 (TRel w G) vs bs:=by
 induction asx generalizing bs with
 |nil=>
  intro vs hr;cases bs with
  |nil=>exact hr
  |cons b bs=>exact h.elim
 |cons a asx ih=>
  intro vs hr;cases bs with
  |nil=>exact h.elim
  |cons b bs=>
   cases vs with
   |nil=>exact hr.elim
   |cons v vs=>exact⟨h.1.trel hr.1,ih h.2 hr.2⟩

theorem ACalls.mono{f:FuncId}{args:List AV}{K K':AV→zaa→Prop}(h:ACalls P f args H K)(hk:∀r H',K r H'→K' r H'):ACalls P f args H K':=
 λB w G vs hH hv=>(h B w G vs hH hv).mono λ_ _ ⟨v,r,H',G',h1,h2,h3,h4,h5⟩=>⟨v,r,H',G',h1,h2,h3,h4,hk _ _ h5⟩
theorem ACalls.wk{f:FuncId}{args args':List AV}{K:AV→zaa→Prop}(h:ACalls P f args' H K)(ha:All2 WkV args args'):ACalls P f args H K:=
 λB w G vs hH hv=>h B w G vs hH (zAf ha hv)

def Back(n0:Nat)(Inv:List AV→zaa→Prop)(F:List AV)(H:zaa):Prop:=
 ∃F2 H2 J,H=H2++J∧n0≤H2.length∧HSc H2∧All2 WkV F F2∧F2.all (AV.sc H2.length)=true∧Inv F2 H2

theorem TRel.sc{v:Value}{a:AV}(h:TRel w G v a):a.sc G.μ.length=true:=by
 have ha:∀{x:AV},VRel w G v x→x.scV G.μ.length=true:=λh=>h.sc;cases a with
 |tup vs=>obtain⟨us,_,h2⟩:=h;exact All2.all_of (λv a (h:VRel w G v a)=>h.sc) h2
 |agg cs=>exact ha (x:=.agg cs) h
 |fn f caps=>exact ha (x:=.fn f caps) h
 |unk=>rfl
 |bool b=>rfl
 |int k n=>rfl
 |str s=>rfl
 |nilp=>rfl
 |ptr i o=>exact ha (x:=.ptr i o) h
 |view cs=>rfl
 |snil=>rfl
 |sl es t=>exact ha (x:=.sl es t) h
 |ms i o l c=>exact ha (x:=.ms i o l c) h
 |ov i n=>exact ha (x:=.ov i n) h
 |vp i n o=>exact ha (x:=.vp i n o) h
 |os i n l e=>exact ha (x:=.os i n l e) h
 |map i=>exact ha (x:=.map i) h
 |nilfn=>rfl
 |nili=>rfl
 |ifc=>rfl
theorem FRel.sc{tm:Array Value}{F:List AV}(hH:HRel B w G H)(h:FRel w G tm F):F.all (AV.sc H.length)=true:=by rw[←hH.len];exact All2.all_of (λv a (h:TRel w G v a)=>h.sc) h

theorem zpd{M:Nat→List Bool}{c:Code}{Q:AExit→List AV→zaa→Prop}{F:List AV}(m:List Bool)(Inv:Nat→List AV→zaa→Prop)(n:Nat)(h0:HSc H→F.all (AV.sc H.length)=true→Inv n F H)(round:∀n F H',Inv n F H'→HSc H'→H.length≤H'.length→F.all (AV.sc H'.length)=true→awp P M c (zbp m (λF'' H''=>∃n',n'<n∧Back H.length (Inv n') F'' H'') Q) F H'):ALoop P c Q F H:=by
 intro B w G a hH hF hd b k cs;have key:∀ n (a':Act) (w':World) (G':Gh) (F':List AV) (H':zaa),Ext B w G w' G'→HRel B w' G' H'→FRel w' G' a'.tmps F'→a'.defers=[]→H.length≤H'.length→Inv n F' H' →
   ∃e a'' w'',Post B w G Q e a'' w''∧Arrives P (lone (b.at a' (.code c::.inLoop c::k)) cs w') b k cs e a'' w'':=by
  intro n;induction n using Nat.strongRecOn with
  |_ n ih=>
   intro a' w' G' F' H' hE hH' hF' hd' hlen hI;obtain⟨e,a₁,w₁,hq,harr⟩:=zgQ c _ F' H' (round n F' H' hI hH'.sc hlen (FRel.sc hH' hF')) B w' G' a' hH' hF' hd' b (.inLoop c::k) cs;obtain⟨F1,H1,G1,e1,rfl,k1,k2,k3,k4,k5⟩:=hq;cases e1 with
   |normal=>obtain⟨n',hlt,F2,H2,J,hJ,hn0,hsc,hwk,hsF,hI2⟩:=k5;subst hJ;have hE2:Ext B w G w₁ (G1.cut w₁ H2.length):=zpv k2 (hE.trans k1) (by rw[hH.len];exact hn0);have hF2:FRel w₁ (G1.cut w₁ H2.length) a₁.tmps F2:=zeG (p:=AV.sc H2.length) (λ_ _=>zwK k2) (zAf hwk (zik m k3)) hsF;obtain⟨e₂,a₂,w₂,hq₂,harr₂⟩:=ih n' hlt a₁ w₁ _ F2 H2 hE2 (k2.cut hsc) hF2 k4 hn0 hI2;exact⟨e₂,a₂,w₂,hq₂,.of_steps (Steps.trans harr (.one step_inLoop)) harr₂⟩
   |exit id=>exact⟨_,a₁,w₁,⟨F1,H1,G1,.exit id,rfl,hE.trans k1,k2,k3,k4,k5⟩,.pass (x:=.inLoop c) rfl (λ_ _=>.inl (by simp[AExit.toExit])) harr⟩
   |ret=>exact⟨_,a₁,w₁,⟨F1,H1,G1,.ret,rfl,hE.trans k1,k2,k3,k4,k5⟩,.pass (x:=.inLoop c) rfl (λ_ _=>.inl (by simp[AExit.toExit])) harr⟩
 obtain⟨e,a',w',hq,harr⟩:=key n a w G F H (Ext.refl _ _ _) hH hF hd (aa _) (h0 hH.sc (FRel.sc hH hF));exact⟨e,a',w',hq,.of_steps (.one step_loop) harr⟩

theorem zAg:∀ F:List AV,All2 WkV F F
 |[]=>trivial
 |a::F=>⟨.atom (.refl a),zAg F⟩
theorem Back.same{n0:Nat}{Inv:List AV→zaa→Prop}{F:List AV}{J:zaa}(hn:n0≤H.length)(hsc:HSc H)(hs:F.all (AV.sc H.length)=true)(h:Inv F H):Back n0 Inv F (H++J):=
 ⟨F,H,J,rfl,hn,hsc,zAg F,hs,h⟩

def AV.isV:AV→Bool
 |.tup _=>false
 |_=>true
def zfS(P:Program):List ResultVar→List AV→zaa→(List AV→Prop)→Prop
 |[],_,_,K=>K []
 |.tmp t::rs,F,H,K=>zfS P rs F H λvs=>K (F.getD t .unk::vs)
 | .cell a t::rs,F,H,K=>(match zeo P t,zaQ P t with
  |some g,some n=>zae g n (F.getD a .unk) H λv=>zfS P rs F H λvs=>K (v::vs)
  |_,_=>False)
def zaX(vs:List AV)(K:AV→Prop):Prop:=
 match vs with
 |[v]=>K v
 |vs=>vs.all AV.isV=true∧K (.tup vs)
def zaA(P:Program)(rs:List ResultVar)(K:AV→zaa→Prop)(e:AExit)(F:List AV)(H:zaa):Prop:=
 match e with
 |.exit _=>False
 |_=>zfS P rs F H λvs=>zaX vs (K · H)

theorem zxA{v:Value}{a:AV}(h:TRel w G v a)(hv:a.isV=true):VRel w G v a:=by cases a <;> first|exact h|(simp[AV.isV]at hv;done)

def zk4(tm:Array Value):ResultVar→Sem Value
 |.tmp t=>pure (tm.getD t undef)
 |.cell a t=>do loadVar t (←asAddr (tm.getD a undef))
theorem zIL(fn:Func)(tm:Array Value):results fn tm=(do
  let vs ←fn.results.mapM (zk4 tm)
  pure (if h:vs.size=1 then vs[0] else .tuple vs)):=by
 unfold results;congr 1

theorem zrq{tm:Array Value}{F:List AV}(hH:HRel B w G H)(hF:FRel w G tm F):∀ (rs:List ResultVar) (K:List AV→Prop),zfS P rs F H K →
  ∃vs asx,(rs.mapM (m:=Sem) (zk4 tm)).run P w=.ok vs w∧All2 (TRel w G) vs asx∧K asx
 |[],K,h=>⟨[],[],by simp,trivial,h⟩
 |.tmp t::rs,K,h=>by obtain⟨vs,asx,h1,h2,h3⟩:=zrq hH hF rs _ h;have ht:=zaJ (a:=⟨tm,[]⟩) hF (.tmp t);exact⟨tm.getD t undef::vs,F.getD t .unk::asx,by simp only[List.mapM_cons,Sem.run_bind,zk4,Sem.run_pure,Result.andThen_ok,h1],⟨ht,h2⟩,h3⟩
 |.cell a t::rs,K,h=>by
  unfold zfS at h;split at h
  ·rename_i g n hg hn;have ht:=zaJ (a:=⟨tm,[]⟩) hF (.tmp a);have ht:TRel w G (tm.getD a undef) (F.getD a .unk):=ht;obtain⟨u,h1,av,h2,h3⟩:=zzm (K:=λv _=>zfS P rs F H λvs=>K (v::vs)) hH ht hg hn h;obtain⟨vs,asx,k1,k2,k3⟩:=zrq hH hF rs _ h3;refine⟨u::vs,av::asx,?_,⟨h2,k2⟩,k3⟩;have hld:(zk4 tm (.cell a t)).run P w=.ok u w:=by
    have hsa:∃x,tm.getD a undef=.pointer (some x):=by
     rw[zgJ]at h;split at h
     ·rename_i hx;rw[hx]at ht;obtain⟨b,_,hb⟩:=ht;exact⟨_,hb⟩
     ·rename_i hx;rw[hx]at ht;obtain⟨b,off,hb,_⟩:=ht;exact⟨_,hb⟩
     ·rename_i hx;rw[hx]at ht;obtain⟨⟨b,off,hb⟩,_⟩:=ht;exact⟨_,hb⟩
     ·exact h.elim
    obtain⟨x,hx⟩:=hsa;show ((do loadVar t (←asAddr (tm.getD a undef))):Sem Value).run P w=.ok u w;rw[hx]at h1 ⊢;simpa[Instr.loadAt,Instr.sureAddr,asAddr]using h1
   simp only[List.mapM_cons,Sem.run_bind,hld,Result.andThen_ok,k1,Sem.run_pure]
  ·exact h.elim

theorem zap{M:Nat→List Bool}{f:FuncId}{fn:Func}{c:Code}{args:List AV}{K:AV→zaa→Prop}(hf:P.funcs[f]?=some fn)(hb:fn.body=some c)(h:HSc H→awp P M c (zaA P fn.results.toList K) (args++List.replicate (fn.ntmps-args.length) .unk) H):ACalls P f args H K:=by
 intro B w G vs hH hv;refine calls_of_wp hf hb ?_;have hF:FRel w G (vs++Array.replicate (fn.ntmps-vs.size) undef) (args++List.replicate (fn.ntmps-args.length) .unk):=by
  unfold FRel;have hl:vs.size=args.length:=by simpa using hv.length
  rw[hl];simpa using hv.append (All2.replicate (R:=TRel w G) (a:=undef) (b:=.unk) trivial (fn.ntmps-args.length))
 refine wp_mono (zgQ c _ _ H (h hH.sc) B w G ⟨_,[]⟩ hH hF rfl) λe a' w' hp=>?_;obtain⟨F',H',G',e',rfl,h1,h2,h3,h4,h5⟩:=hp;have fin:(zfS P fn.results.toList F' H' λvs=>zaX vs (K · H'))→∃v,(results fn a'.tmps).run P w'=.ok v w'∧∃v' r H'' G'',Ending.returned v=.returned v'∧Ext B w G w' G''∧HRel B w' G'' H''∧TRel w' G'' v' r∧K r H'':=by
  intro h5;obtain⟨us,asx,k1,k2,k3⟩:=zrq h2 h3 fn.results.toList _ h5;have hres:(results fn a'.tmps).run P w'=.ok (if hh:us.toArray.size=1 then us.toArray[0] else .tuple us.toArray) w':=by rw[zIL,Sem.run_bind,Array.mapM_eq_mapM_toList,Sem.run_map,k1];rfl
  refine⟨_,hres,(if hh:us.toArray.size=1 then us.toArray[0] else .tuple us.toArray),?_⟩;have hl:=k2.length;unfold zaX at k3;split at k3
  ·rename_i r
   match us,hl,k2,hres with
   |[u],_,k2,_=>exact⟨r,H',G',rfl,h1,h2,by simpa using k2.1,k3⟩
  ·rename_i hne;refine⟨.tup asx,H',G',rfl,h1,h2,?_,k3.2⟩;have hsz:¬us.toArray.size=1:=by
    intro hs;have:asx.length=1:=by rw[←hl];simpa using hs
    match asx,this with
    |[x],_=>exact hne x rfl
   rw[dy hsz];exact⟨us.toArray,rfl,zeG (p:=AV.isV) (λ_ _=>zxA) k2 k3.1⟩
 cases e' with
 |normal=>exact⟨h4,fin h5⟩
 |ret=>exact⟨h4,fin h5⟩
 |exit id=>exact h5.elim

end
end Go.Proofs.YtaifokkaaahdoaaGreatDoor
