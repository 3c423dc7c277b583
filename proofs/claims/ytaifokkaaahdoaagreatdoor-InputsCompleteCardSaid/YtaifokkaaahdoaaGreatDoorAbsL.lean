import Derived.Test.YtaifokkaaahdoaaGreatDoorAbsK
import Derived.Scope
set_option linter.unusedSimpArgs false
set_option linter.unusedVariables false
set_option linter.unusedSectionVars false
set_option maxRecDepth 8000
namespace Go.Abs
open Go Go.RowKit
variable {P:Program} {B:Nat} {w:World} {G:Gh} {H:zaa}
theorem ztL{α:Type}{p:α→Prop}:∀ {l:List α},znL l p→∀ i∈l,p i
 |[],_,i,hi=>by cases hi
 |[j],h,i,hi=>by simp at hi;subst hi;exact h
 |j::k::l,h,i,hi=>by
  rcases List.mem_cons.1 hi with rfl|hi
  ·exact h.1
  ·exact ztL h.2 i hi
theorem zqm{ops:Array Oper}{Q:Exit→Act→World→Prop}{i:Nat}{o:Oper}{a:Act}{K:Act→World→Prop}(ho:ops[i]?=some o)(hg:o.guard=none):wpOp P ops Q i K a w=(o.wp P a w K Q∨(o.asks P a w∧LetsOut Q)):=by unfold wpOp;simp only[ho];rw[if_pos (by simp[Region.wanted,hg])]
theorem zEY{ops:Array Oper}{K:List AV→zaa→Prop}{Q:Exit→Act→World→Prop}{w0:World}{G0:Gh}(hQ:∀ a w G F H,Ext B w0 G0 w G→HRel B w G H→FRel w G a.tmps F→a.defers=[]→K F H→Q .normal a w):
  ∀(n:Nat) (listed:Array Bool) (a:Act) (w:World) (G:Gh) (F:List AV) (H:zaa),Ext B w0 G0 w G→HRel B w G H→FRel w G a.tmps F→a.defers=[]→zgN P ops K n listed F H→wpAny P .any ops Q n listed a w:=by
 intro n;induction n with
 |zero=>
  intro listed a w G F H hE hH hF hd h;unfold zgN at h;split at h
  ·rename_i hr;exact⟨hr,hQ a w G F H hE hH hF hd h⟩
  ·exact h.elim
 |succ n ih=>
  intro listed a w G F H hE hH hF hd h;unfold zgN at h;split at h
  ·rename_i hr;exact⟨λ_=>hQ a w G F H hE hH hF hd h,λi hi=>by rw[hr]at hi;cases hi⟩
  ·rename_i i is hr;refine⟨λh0=>(by rw[hr]at h0;cases h0),λj hj=>?_⟩;rw[hr]at hj;have h1:=ztL h j hj;split at h1
   ·rename_i o ho;split at h1
    ·rename_i hg;rw[zqm ho hg];refine .inl (zid hF (zfQ hH hF h1) λv av w' G' H' k1 k2 k3 k4=>?_);have hput:(a.put o.dst v).defers=[]:=by cases hdst:o.dst <;> simpa[Act.put]using hd
     exact ih _ _ w' G' _ H' (hE.trans k1) k2 ((hF.ext k1).put k3) hput k4
    ·exact h1.elim
   ·exact h1.elim
def zkL(T:Act→World→Prop)(Q:Exit→Act→World→Prop):Exit→Act→World→Prop
 |.normal,a,w=>T a w
 |e,a,w=>Q e a w
theorem zva{T:Act→World→Prop}{Q:Exit→Act→World→Prop}(h:LetsOut (zkL T Q)):LetsOut Q:=h
theorem zEF{o:Oper}{a:Act}{T:Act→World→Prop}{Q:Exit→Act→World→Prop}{K K':Act→World→Prop}(hk:∀a w,K a w→K' a w)(h:o.wp P a w K (zkL T Q)):o.wp P a w K' Q:=by
 have h:=Oper.wp_mono hk h;unfold Oper.wp at *;generalize (execOp a.eval o).run P w=r at *;cases r with
 |ok n w'=>
  cases n <;> simp only[Oper.upon]at h ⊢ <;>
   first
    |exact h
    |exact Calls.mono h (λe w'' he=>by cases e <;> first|exact he|exact zva he)
 |halt x w'=>cases x <;> simp only[Oper.upon]at h ⊢ <;> exact h
theorem zGU{ops pre:Array Oper}{m t:Nat}{Q:Exit→Act→World→Prop}(hm:m+t=ops.size)(hpre:pre=zdK ops m)(hdep:zp3 ops m=true)(hedge:∀ (i:Nat) o,pre[i]?=some o→∀ e∈o.after,Region.binds .any e=true→e.on<i):
  ∀ (n:Nat) (listed:Array Bool) (a:Act) (w:World),listed.size=m→listed.toList.count false=n →
   (∀(j:Nat) oj,pre[j]?=some oj→listed.getD j false=true→∀e∈oj.after,Region.binds .any e=true→listed.getD e.on false=true) →
   wpAny P .any pre (zkL (wpAny P .any ops Q t (zgT m t)) Q) n listed a w →
   wpAny P .any ops Q (n+t) (listed++(List.replicate t false).toArray) a w:=by
 have hps:pre.size=m:=by rw[hpre];simp[zdK];omega
 have same:∀i,i<m→pre[i]?=ops[i]?:=λi hi=>by rw[hpre];simp[zdK,hi]
 have hanc:∀j i,Nat.testBit ((zgl (ops.toList.take m) []).getD j 0) i=true→Anc pre j i:=by
  intro j i hb;have e1:ops.toList.take m=pre.toList:=by rw[hpre];simp[zdK]
  rw[e1]at hb;refine znK pre.toList [] rfl (λj i hb=>by simp at hb) ?_ j i hb;intro j ⟨o,ho⟩ e he hb;rw[ho]at he;exact hedge j o ho e (by simpa using he) hb
 obtain⟨hd1,hd2⟩:(∀o∈ops.toList.drop m,∀i,i<m→zd1 o i=true∨∃k,k<m∧zd1 o k=true∧Anc pre k i)∧∀o∈ops.toList,o.guard=none:=by
  unfold zp3 at hdep;rw[Bool.and_eq_true,List.all_eq_true,List.all_eq_true]at hdep;refine⟨λo ho i hi=>?_,λo ho=>by simpa using hdep.2 o ho⟩;have:=hdep.1 o ho;rw[List.all_eq_true]at this;have:=this i (List.mem_range.2 hi);rw[Bool.or_eq_true,List.any_eq_true]at this;rcases this with h|⟨k,hk,h⟩
  ·exact .inl h
  ·rw[Bool.and_eq_true]at h;exact .inr ⟨k,List.mem_range.1 hk,h.1,hanc k i h.2⟩
 have bare:∀(i:Nat) (o:Oper),ops[i]?=some o→o.guard=none:=λi o ho=>hd2 o (List.mem_iff_getElem?.2 ⟨i,by simpa using ho⟩);intro n;induction n with
 |zero=>
  intro listed a w hsz hc _ h;have hall:listed=(List.replicate m true).toArray:=by
   have h1:∀b∈listed.toList,b=true:=λb hb=>by
    cases b with
    |true=>rfl
    |false=>have:=List.count_pos_iff.2 hb;omega
   have h2:listed.toList=List.replicate m true:=by rw[←hsz,←Array.length_toList];exact List.eq_replicate_of_mem h1
   rw[←Array.toArray_toList (xs:=listed),h2]
  obtain⟨_,h2⟩:=h;have:listed++(List.replicate t false).toArray=zgT m t:=by rw[hall];simp[zgT]
  rw[this,Nat.zero_add];exact h2
 |succ n ih=>
  intro listed a w hsz hc hcl h;have gl:∀(i:Nat) (d:Bool),i<m→(listed++(List.replicate t false).toArray).getD i d=listed.getD i d:=λi d hi=>by simp[Array.getElem?_append,hsz,hi]
  -- some operation of the first part is open
  obtain⟨k,hk,hkf⟩:∃k,k<m∧listed.getD k true=false:=by
   have:false∈listed.toList:=List.count_pos_iff.1 (by omega);obtain⟨k,hk⟩:=List.mem_iff_getElem?.1 this;have hlt:k<listed.size:=by have:=(List.getElem?_eq_some_iff.1 hk).1;simpa using this
   refine⟨k,by omega,?_⟩;have hk':listed[k]?=some false:=by simpa using hk
   simp[hk']
  have ready:∀i,i∈Region.ready .any ops (listed++(List.replicate t false).toArray)→i<m∧i∈Region.ready .any pre listed:=λi hi=>by
   obtain⟨h1,o,ho,he⟩:=mem_ready.1 hi;by_cases him:i<m
   ·rw[gl i true him]at h1;refine⟨him,mem_ready.2 ⟨h1,o,by rw[same i him];exact ho,λe hem hb=>?_⟩⟩;have hlt:=hedge i o (by rw[same i him];exact ho) e hem hb;have:=he e hem hb;rwa [gl e.on false (by omega)]at this
   ·have hmem:o∈ops.toList.drop m:=List.mem_iff_getElem?.2 ⟨i-m,by rw[List.getElem?_drop,show m+(i-m)=i by omega];simpa using ho⟩;have hkf2:listed.getD k false=false:=by
     have hlt:k<listed.size:=by omega
     simp[hlt]at hkf ⊢;exact hkf
    rcases hd1 o hmem k hk with hh|⟨k',hk',hh,hA⟩
    ·obtain⟨e,hem,hb,hon⟩:=zjC hh;have:=he e hem hb;rw[hon,gl k false hk,hkf2]at this;cases this
    ·obtain⟨e,hem,hb,hon⟩:=zjC hh;have:=he e hem hb;rw[hon,gl k' false hk']at this;have:=Anc.closed (S:=λj=>listed.getD j false) hcl hA this;rw[hkf2]at this;cases this
  have some_ready:Region.ready .any ops (listed++(List.replicate t false).toArray)≠[]:=by
   intro hr;have all:∀i,i<m→listed.getD i false=true:=by
    intro i;induction i using Nat.strongRecOn with
    |_ i ihi=>
     intro hi;cases hS:listed.getD i false with
     |true=>rfl
     |false=>
      have hio:i<ops.size:=by omega
      have ho:ops[i]?=some ops[i]:=by simp[hio]
      have:i∈Region.ready .any ops (listed++(List.replicate t false).toArray):=by
       rw[mem_ready];refine⟨?_,ops[i],ho,λe he hb=>?_⟩
       ·rw[gl i true hi];have hlt:i<listed.size:=by omega
        simp[hlt]at hS ⊢;exact hS
       ·have hlt:=hedge i ops[i] (by rw[same i hi];exact ho) e he hb;rw[gl e.on false (by omega)];exact ihi e.on hlt (by omega)
      rw[hr]at this;cases this
   have h1:=all k hk;have hlt:k<listed.size:=by omega
   simp[hlt]at hkf h1;rw[h1]at hkf;cases hkf
  rw[show n+1+t=(n+t)+1 by omega];refine⟨λh0=>absurd h0 some_ready,λi hi=>?_⟩;obtain⟨him,hir⟩:=ready i hi;have h1:=h.2 i hir;obtain⟨hf1,o,ho,_⟩:=mem_ready.1 hir;have ho':ops[i]?=some o:=by rw[←same i him];exact ho
  have hg:=bare i o ho';rw[zqm ho hg]at h1;rw[zqm ho' hg];have hset:(listed++(List.replicate t false).toArray).setIfInBounds i true=listed.setIfInBounds i true++(List.replicate t false).toArray:=by rw[Array.setIfInBounds_append_left (by omega)]
  have hcount:(listed.setIfInBounds i true).toList.count false=n:=by
   have hil:i<listed.size:=by omega
   have hf:listed.toList[i]'(by simpa using hil)=false:=by simp[hil]at hf1;simpa using hf1
   rw[Array.toList_setIfInBounds,List.count_set (by simpa using hil),hf];simp only[beq_self_eq_true,if_true,Bool.true_eq_false,beq_iff_eq,if_false];omega
  rcases h1 with h1|⟨h1,h2⟩
  ·refine .inl (zEF (λa w hk=>?_) h1);rw[hset];refine ih _ a w (by simpa using hsz) hcount (λj oj hj hS e he hb=>?_) hk;obtain⟨_,o2,ho2,he2⟩:=mem_ready.1 hir;have gs:∀x,listed.getD x false=true→(listed.setIfInBounds i true).getD x false=true:=λx hx=>by
    by_cases hxi:x=i
    ·subst hxi;have hlt:x<listed.size:=by omega
     simp[hlt]
    ·simp only[Array.getD_eq_getD_getElem?]at hx ⊢;rw[Array.getElem?_setIfInBounds_ne (λh=>hxi h.symm)];exact hx
   by_cases hji:j=i
   ·subst hji;rw[ho2]at hj;cases hj;exact gs _ (he2 e he hb)
   ·refine gs _ (hcl j oj hj ?_ e he hb);simp only[Array.getD_eq_getD_getElem?]at hS ⊢;rw[Array.getElem?_setIfInBounds_ne (λh=>hji h.symm)]at hS;exact hS
  ·exact .inr ⟨h1,zva h2⟩
end Go.Abs
namespace Go.Abs
open Go Go.RowKit

variable {fl:Bool} {wc:WM} {P:Program} {B:Nat} {w:World} {G:Gh} {H:zaa}

def inS(listed:Array Bool)(i:Nat):Bool:=listed.getD i false

theorem zfG{listed:Array Bool}{i:Nat}(hi:i<listed.size)(k:Nat):inS (listed.setIfInBounds i true) k=if k=i then true else inS listed k:=by
 unfold inS;by_cases hk:k=i
 ·subst hk;simp[hi]
 ·simp[hk,Array.getElem?_setIfInBounds_ne (λh=>hk h.symm)]

theorem ze4(n i:Nat):inS (Array.replicate n false) i=false:=by unfold inS;rw[Array.getD_eq_getD_getElem?,Array.getElem?_replicate];split <;> rfl

theorem zic{op:Op}(h:opW wc op=true):opF op=false:=by
 cases op <;> simp only[opW,Bool.false_eq_true]at h <;> simp only[opF]
 rename_i c;cases hc:c.callee with
 |builtin b=>cases b <;> simp[hc]at h ⊢
 |value f=>rfl
 |invoke r m=>simp[hc]at h
theorem zc5{op:Op}(h:opW wc op=true):opL op=false∧opC wc op=false:=by
 cases op <;> simp only[opW,Bool.false_eq_true]at h <;> first|exact⟨rfl,rfl⟩|skip
 rename_i c;refine⟨rfl,?_⟩;cases hc:c.callee with
 |builtin b=>cases b <;> simp[hc]at h <;> simp[opC,hc]
 |value f=>simpa[opC,hc]using h
 |invoke r m=>simp[hc]at h
theorem zgI{op:Op}(h:opV op=true):opW wc op=true∧opL op=false∧opC wc op=false∧opA wc op=false∧opF op=false:=by cases op <;> simp only[opV,Bool.false_eq_true]at h <;> exact⟨rfl,rfl,rfl,rfl,rfl⟩
theorem zvS{op:Op}(h:opV op=true):opN op=true:=by cases op <;> simp only[opV,Bool.false_eq_true]at h <;> rfl
theorem zvR{op:Op}(h:opL op=true):opW wc op=false∧opF op=false∧opA wc op=false∧opC wc op=false∧opV op=false:=by cases op <;> simp only[opL,Bool.false_eq_true]at h <;> exact⟨rfl,rfl,rfl,rfl,rfl⟩
theorem zvO{op:Op}(h:opC wc op=true):opW wc op=false∧opF op=false∧opL op=false∧opV op=false:=by
 cases op <;> simp only[opC,Bool.false_eq_true]at h
 rename_i c;cases hc:c.callee with
 |value f=>exact⟨by simpa[opW,hc]using h,by simp[opF,hc],rfl,rfl⟩
 |builtin b=>simp[hc]at h
 |invoke r m=>simp[hc]at h
theorem zFH{t:TypeId}{z:Value}{id:Nat}{K:AV→zaa→Prop}(hH:HRel B w G H)(hz:zbn P t=some z)(hid:H[id]?=some .gap)(h:K (.ptr id 0) (H.set id (.cells (zbs z)))):
  OpOK P B w G K (((do pure (.value (←Instr.alloc t true (.tuple #[])))):Sem Next).run P w):=by
 obtain⟨he,hH'⟩:=hH.fill hid z.cells t (zbs z) (zdM z);have hrun:((do pure (.value (←Instr.alloc t true (.tuple #[])))):Sem Next).run P w=.ok (.value (.pointer (some ⟨w.heap.size,0,none⟩))) (w.alloc (.cells z.cells t)):=by simp[Instr.alloc,zea hz,newVar,newRow,World.alloc_eq]
 rw[hrun];refine⟨.ptr id 0,_,_,he,hH',⟨w.heap.size,?_,rfl⟩,h⟩;exact List.getElem?_set_self (by rw[hH.len];exact(List.getElem?_eq_some_iff.1 hid).1)

def zBs(wc:WM)(ops:Array Oper)(S:Nat→Bool)(p:Nat):Prop:=∀(i:Nat) o,ops[i]?=some o→opW wc o.op=true→(S i=true↔i<p)
def zdQ(fl:Bool)(wc:WM)(P:Program)(ops:Array Oper)(F0 rs:List AV)(hs:List zaa)(H:zaa):Prop:=
 ∀ (i:Nat) o,ops.toList[i]?=some o→∃ r,rs[i]?=some r∧TrOK fl P ops (hpk hs H i) (frk ops.toList rs F0 i) o r (hpk hs H (i+1))∧frk ops.toList rs F0 (i+1)=zbB (frk ops.toList rs F0 i) o.dst r ∧
  (opW wc o.op=false→hpk hs H (i+1)=hpk hs H i)∧(opC wc o.op=true→∀J,TrOK fl P ops (hpk hs H i++J) (frk ops.toList rs F0 i) o r (hpk hs H i++J))∧(opG wc o.op=true→GrowA (hpk hs H i) (hpk hs H (i+1)))∧(opK wc o.op=true→o.guard=none→zdR (zhG ops (frk ops.toList rs F0 i)) (hpk hs H i) (hpk hs H (i+1)))

theorem zc1{ops:Array Oper}{hs:List zaa}{F0 rs:List AV}(hat:zdQ fl wc P ops F0 rs hs H){p:Nat}:∀ (q:Nat),p≤q→q≤ops.size→(∀ (i:Nat) o,ops[i]?=some o→opW wc o.op=true→p≤i→i<q→False)→hpk hs H q=hpk hs H p
 |0,hp,_,_=>by rw[Nat.le_zero.1 hp]
 |q+1,hp,hq,hn=>by
  by_cases he:p=q+1
  ·rw[he]
  ·have ho:ops[q]?=some ops[q]:=by simp[show q<ops.size by omega]
   obtain⟨r,_,_,_,h4,_⟩:=hat q ops[q] (by simp);have hw:opW wc (ops[q]).op=false:=by
    cases hw:opW wc (ops[q]).op with
    |false=>rfl
    |true=>exact(hn q _ ho hw (by omega) (by omega)).elim
   rw[h4 hw];exact zc1 hat q (by omega) (by omega) (λi o h1 h2 h3 h4=>hn i o h1 h2 h3 (by omega))
theorem zEx{op:Op}(h:opA wc op=true):opA .n op=true∨opG wc op=true:=by
 cases op <;> simp only[opA,Bool.false_eq_true]at h
 rename_i c;cases hc:c.callee with
 |value f=>right;simpa[opG,hc]using h
 |builtin b=>left;cases b <;> simp[opA,hc]at h ⊢
 |invoke r m=>simp[hc]at h
theorem TrOK.growW{ops:Array Oper}{F:List AV}{o:Oper}{r:AV}{H H':zaa}(ht:TrOK fl P ops H F o r H')(hg:opG wc o.op=true→GrowA H H')(ho:opA wc o.op=true):GrowA H H':=by
 rcases zEx ho with h|h
 ·exact ht.growA h
 ·exact hg h
theorem zuQ{ops:Array Oper}{hs:List zaa}{F0 rs:List AV}(hat:zdQ fl wc P ops F0 rs hs H){i:Nat}:∀ (q:Nat),i≤q→q≤ops.size→(∀ (k:Nat) o,ops[k]?=some o→opW wc o.op=true→i≤k→k<q→opA wc o.op=true∨opN o.op=true) →
  ∀(id:Nat) (cs:List AV),(hpk hs H i)[id]?=some (AB.cells cs)→(hpk hs H q)[id]?=some (AB.cells cs)
 |0,h1,_,_,id,cs,hc=>by rw[Nat.le_zero.1 h1]at hc;exact hc
 |q+1,h1,h2,hn,id,cs,hc=>by
  by_cases he:i=q+1
  ·rw[←he];exact hc
  ·have hq:ops[q]?=some ops[q]:=by simp[show q<ops.size by omega]
   obtain⟨rq,_,htq,_,hnq,_,hgq,_⟩:=hat q ops[q] (by simp);have h3:=zuQ hat q (by omega) (by omega) (λk o a b c d=>hn k o a b c (by omega)) id cs hc;cases hwq:opW wc (ops[q]).op with
   |false=>rw[hnq hwq];exact h3
   |true=>
    rcases hn q _ hq hwq (by omega) (by omega) with ha|ha
    ·exact(htq.growW hgq ha).grow.cells h3
    ·exact(htq.growN ha).cells h3
theorem zuR{ops:Array Oper}{hs:List zaa}{F0 rs:List AV}(hat:zdQ fl wc P ops F0 rs hs H){i id:Nat}:∀ (q:Nat),i≤q→q≤ops.size→(∀ (k:Nat) o,ops[k]?=some o→opW wc o.op=true→i≤k→k<q→(opA wc o.op=true∨opN o.op=true)∨∀ cs:List AV,(hpk hs H k)[id]?=some (AB.cells cs)→(hpk hs H (k+1))[id]?=some (AB.cells cs)) →
  ∀(cs:List AV),(hpk hs H i)[id]?=some (AB.cells cs)→(hpk hs H q)[id]?=some (AB.cells cs)
 |0,h1,_,_,cs,hc=>by rw[Nat.le_zero.1 h1]at hc;exact hc
 |q+1,h1,h2,hn,cs,hc=>by
  by_cases he:i=q+1
  ·rw[←he];exact hc
  ·have hq:ops[q]?=some ops[q]:=by simp[show q<ops.size by omega]
   obtain⟨rq,_,htq,_,hnq,_,hgq,_⟩:=hat q ops[q] (by simp);have h3:=zuR hat q (by omega) (by omega) (λk o a b c d=>hn k o a b c (by omega)) cs hc;cases hwq:opW wc (ops[q]).op with
   |false=>rw[hnq hwq];exact h3
   |true=>
    rcases hn q _ hq hwq (by omega) (by omega) with (ha|ha)|ha
    ·exact(htq.growW hgq ha).grow.cells h3
    ·exact(htq.growN ha).cells h3
    ·exact ha cs h3
theorem zuE{ops:Array Oper}{hs:List zaa}{F0 rs:List AV}(hat:zdQ fl wc P ops F0 rs hs H){i s:Nat}:∀ (k:Nat),i≤k→k≤ops.size→(∀ (j:Nat) o,ops[j]?=some o→i≤j→j<k→o.dst≠some s)→(frk ops.toList rs F0 k).getD s .unk=(frk ops.toList rs F0 i).getD s .unk
 |0,h1,_,_=>by rw[Nat.le_zero.1 h1]
 |k+1,h1,h2,hn=>by
  by_cases he:i=k+1
  ·rw[he]
  ·have hk:ops[k]?=some ops[k]:=by simp[show k<ops.size by omega]
   obtain⟨rk,_,_,hput,_⟩:=hat k ops[k] (by simp);have h3:=zuE hat (s:=s) k (by omega) (by omega) λj o a b c=>hn j o a b (by omega);rw[hput,←h3];have hd:=hn k _ hk (by omega) (by omega);unfold zbB;cases e:(ops[k]).dst with
   |none=>rfl
   |some d=>have:d≠s:=λh=>hd (by rw[e,h]);simp only;rw[List.getD_eq_getElem?_getD,List.getD_eq_getElem?_getD,List.getElem?_set_ne this]
theorem zDL{ops:Array Oper}(h:zew ops=true){i j:Nat}{oi oj:Oper}(hi:ops[i]?=some oi)(hj:ops[j]?=some oj)(hl:opL oi.op=true)(hij:i≤j){s:Nat}(hs:s∈zcR ops oi):oj.dst≠some s:=by
 unfold zew at h;simp only[Bool.and_eq_true,List.all_eq_true]at h;have mem:∀{i:Nat} {o:Oper},ops[i]?=some o→(o,i)∈ops.toList.zipIdx:=λ{i o} ho=>by rw[List.mem_zipIdx_iff_getElem?];simpa using ho
 have h1:=h.1 _ (mem hi);simp only[hl,Bool.not_true,Bool.false_or,List.all_eq_true]at h1;have h2:=h1 _ (mem hj);intro e;simp only[e,Bool.or_eq_true,decide_eq_true_eq]at h2;rcases h2 with h2|h2
 ·omega
 ·have:(zcR ops oi).contains s=true:=by simpa using hs
  rw[this]at h2;cases h2
theorem zu9{ops:Array Oper}(h:zew ops=true){i:Nat}{o:Oper}(hi:ops[i]?=some o):opN o.op=false∧o.guard=none:=by unfold zew at h;simp only[Bool.and_eq_true,List.all_eq_true]at h;have:=h.2 o (List.mem_of_getElem? (by rw[Array.getElem?_toList];exact hi));simpa using this
theorem zuP{ops:Array Oper}{hs:List zaa}{F0 rs:List AV}(hat:zdQ fl wc P ops F0 rs hs H){p:Nat}:∀ (q:Nat),p≤q→q≤ops.size→(∀ (k:Nat) o,ops[k]?=some o→opW wc o.op=true→p≤k→k<q→opA wc o.op=true) →
  ∀(id:Nat) (cs:List AV),(hpk hs H q)[id]?=some (AB.cells cs)→(hpk hs H p)[id]?=some (AB.cells cs)
 |0,h1,_,_,id,cs,hc=>by rw[Nat.le_zero.1 h1];exact hc
 |q+1,h1,h2,hn,id,cs,hc=>by
  by_cases he:p=q+1
  ·rw[he];exact hc
  ·have hq:ops[q]?=some ops[q]:=by simp[show q<ops.size by omega]
   obtain⟨rq,_,htq,_,hnq,_,hgq,_⟩:=hat q ops[q] (by simp);refine zuP hat q (by omega) (by omega) (λk o a b c d=>hn k o a b c (by omega)) id cs ?_;cases hwq:opW wc (ops[q]).op with
   |false=>rw[hnq hwq]at hc;exact hc
   |true=>exact(htq.growW hgq (hn q _ hq hwq (by omega) (by omega))).cells hc

structure VB (ops:Array Oper) (a b:Nat):Prop where
 le:a≤b
 fit:b≤ops.size
 iff:∀(i:Nat) o,ops[i]?=some o→(opV o.op=true↔a≤i∧i<b)
 bare:∀(i:Nat) o,ops[i]?=some o→opV o.op=true→o.guard=none
theorem zvT{ops:Array Oper}(h:zd8 ops=true):∃a b,VB ops a b:=by
 unfold zd8 at h;have mem:∀(i:Nat) o,ops[i]?=some o→(o,i)∈ops.toList.zipIdx:=λi o ho=>by rw[List.mem_zipIdx_iff_getElem?];simpa using ho
 split at h
 ·rename_i hn;rw[List.any_eq_false]at hn;have no:∀(i:Nat) o,ops[i]?=some o→opV o.op=true→False:=λi o ho hv=>hn o (List.mem_iff_getElem?.2 ⟨i,by simpa using ho⟩) hv;exact⟨0,0,Nat.le_refl _,Nat.zero_le _,λi o ho=>⟨λhv=>(no i o ho hv).elim,λhc=>by omega⟩,λi o ho hv=>(no i o ho hv).elim⟩
 ·rename_i hn;generalize ops.toList.findIdx (λo=>opV o.op)=a at h;generalize ops.toList.countP (λo=>opV o.op)=k at h;have key:∀ (i:Nat) o,ops[i]?=some o→(opV o.op=true↔a≤i∧i<a+k)∧(opV o.op=true→o.guard=none):=λi o ho=>by have:=List.all_eq_true.1 h _ (mem i o ho);simp only[Bool.and_eq_true,beq_iff_eq,Bool.or_eq_true,Bool.not_eq_true',Option.isNone_iff_eq_none]at this;refine⟨?_,λhv=>(this.2.resolve_left (by simp[hv]))⟩;rw[this.1];simp
  by_cases hfit:a+k≤ops.size
  ·exact⟨a,a+k,by omega,hfit,λi o ho=>(key i o ho).1,λi o ho=>(key i o ho).2⟩
  ·by_cases ha:a≤ops.size
   ·refine⟨a,ops.size,ha,Nat.le_refl _,λi o ho=>?_,λi o ho=>(key i o ho).2⟩;have hi:i<ops.size:=(Array.getElem?_eq_some_iff.1 ho).1;rw[(key i o ho).1];constructor <;> rintro⟨_,_⟩ <;> constructor <;> omega
   ·refine⟨0,0,Nat.le_refl _,Nat.zero_le _,λi o ho=>?_,λi o ho=>(key i o ho).2⟩;have hi:i<ops.size:=(Array.getElem?_eq_some_iff.1 ho).1;rw[(key i o ho).1];constructor <;> rintro⟨_,_⟩ <;> omega

def zOf(hs:List zaa)(H:zaa)(j:Nat):List AV:=match (hpk hs H (j+1))[(hpk hs H j).length]? with|some (.cells cs)=>cs|_=>[]
theorem zvE{ops:Array Oper}{hs:List zaa}{F0 rs:List AV}{a b:Nat}(hat:zdQ fl wc P ops F0 rs hs H)(hV:VB ops a b){j:Nat}(h1:a≤j)(h2:j<b):
  ∃o t z,ops[j]?=some o∧o.op=.alloc t∧zbn P t=some z∧zOf hs H j=zbs z∧hpk hs H (j+1)=hpk hs H j++[.cells (zOf hs H j)]∧rs[j]?=some (.ptr (hpk hs H j).length 0):=by
 have hj:j<ops.size:=by have:=hV.fit;omega
 have ho:ops[j]?=some ops[j]:=by simp[hj]
 have hv:=(hV.iff j _ ho).2 ⟨h1,h2⟩;obtain⟨r,hr,htr,_⟩:=hat j ops[j] (by simp);unfold TrOK at htr;rw[hV.bare j _ ho hv]at htr;simp only[]at htr;have hop:∃t,(ops[j]).op=.alloc t:=by
  revert hv
  cases (ops[j]).op <;> simp[opV]
 obtain⟨t,hop⟩:=hop;simp only[zbi,aop,zdi,hop,isM]at htr;split at htr
 ·rename_i z hz;obtain⟨e1,e2⟩:=htr;have hzo:zOf hs H j=zbs z:=by unfold zOf;rw[←e2];simp
  exact⟨ops[j],t,z,ho,hop,hz,hzo,by rw[hzo];exact e2.symm,by rw[hr,←e1]⟩
 ·exact htr.elim
def zcp(hs:List zaa)(H:zaa)(a b:Nat)(S:Nat→Bool):zaa:=(List.range (b-a)).map λq=>if S (a+q)=true then AB.cells (zOf hs H (a+q)) else .gap
theorem zol{ops:Array Oper}{hs:List zaa}{F0 rs:List AV}{a b:Nat}(hat:zdQ fl wc P ops F0 rs hs H)(hV:VB ops a b):∀ m,a+m≤b→hpk hs H (a+m)=hpk hs H a++(List.range m).map λq=>AB.cells (zOf hs H (a+q))
 |0,_=>by simp
 |m+1,hm=>by obtain⟨o,t,z,_,_,_,_,h1,_⟩:=zvE hat hV (j:=a+m) (by omega) (by omega);rw[show a+(m+1)=a+m+1 by omega,h1,zol hat hV m (by omega),List.range_succ,List.map_append,List.append_assoc];rfl
theorem zuF{ops:Array Oper}{hs:List zaa}{F0 rs:List AV}{a b:Nat}(hat:zdQ fl wc P ops F0 rs hs H)(hV:VB ops a b){S:Nat→Bool}(h:∀j,a≤j→j<b→S j=true):hpk hs H a++zcp hs H a b S=hpk hs H b:=by have:=zol hat hV (b-a) (by have:=hV.le;omega);rw[show a+(b-a)=b by have:=hV.le;omega]at this;rw[this];congr 1;apply List.map_congr_left;intro q hq;rw[if_pos (h (a+q) (by omega) (by have:=List.mem_range.1 hq;omega))]
theorem zDe{hs:List zaa}{a b:Nat}{S:Nat→Bool}(h:∀j,a≤j→j<b→S j=false):zcp hs H a b S=List.replicate (b-a) .gap:=by
 apply List.ext_getElem?;intro q;unfold zcp;rw[List.getElem?_map];by_cases hq:q<b-a
 ·rw[List.getElem?_range hq,List.getElem?_replicate,if_pos hq];simp[h (a+q) (by omega) (by omega)]
 ·rw[List.getElem?_eq_none (by simp;omega),List.getElem?_eq_none (by simp;omega)];rfl
theorem zDf{hs:List zaa}{a b i:Nat}{S:Nat→Bool}(h1:a≤i)(h2:i<b):(zcp hs H a b S).set (i-a) (.cells (zOf hs H i))=zcp hs H a b (λk=>if k=i then true else S k):=by
 apply List.ext_getElem?;intro q;by_cases hq:q=i-a
 ·subst hq;rw[List.getElem?_set_self (by simp[zcp];omega)];unfold zcp;rw[List.getElem?_map,List.getElem?_range (by omega)];simp[show a+(i-a)=i by omega]
 ·rw[List.getElem?_set_ne (λh=>hq h.symm)];unfold zcp;rw[List.getElem?_map,List.getElem?_map];by_cases hq2:q<b-a
  ·rw[List.getElem?_range hq2];simp[show a+q≠i by omega]
  ·rw[List.getElem?_eq_none (by simp;omega)];rfl
theorem zDd{hs:List zaa}{a b i:Nat}{S:Nat→Bool}(h1:a≤i)(h2:i<b)(h:S i=false):(zcp hs H a b S)[i-a]?=some .gap:=by unfold zcp;rw[List.getElem?_map,List.getElem?_range (by omega)];simp[show a+(i-a)=i by omega,h]

def StOK(wc:WM)(ops:Array Oper)(hs:List zaa)(H:zaa)(a b:Nat)(S:Nat→Bool)(Hc:zaa):Prop:=
 (∃p,p≤ops.size∧zBs wc ops S p∧Hc=hpk hs H p∧((∀j,a≤j→j<b→S j=false)∨(∀j,a≤j→j<b→S j=true))) ∨
 ((∀ (k:Nat) o,ops[k]?=some o→opW wc o.op=true→k<a→S k=true)∧(∀ (k:Nat) o,ops[k]?=some o→opW wc o.op=true→b≤k→S k=false) ∧
   (∃j,a≤j∧j<b∧S j=true)∧(∃j,a≤j∧j<b∧S j=false)∧Hc=hpk hs H a++zcp hs H a b S)

theorem StOK.congr{ops:Array Oper}{hs:List zaa}{a b:Nat}{S S':Nat→Bool}{Hc:zaa}(hV:VB ops a b)(h:StOK wc ops hs H a b S Hc)(he:∀i,i<ops.size→S i=S' i):StOK wc ops hs H a b S' Hc:=by
 have hfit:=hV.fit;rcases h with ⟨p,h1,h2,h3,h4⟩|⟨h1,h2,⟨j,hj1,hj2,hj3⟩,⟨k,hk1,hk2,hk3⟩,h5⟩
 ·refine .inl ⟨p,h1,λi o ho hw=>by rw[←he i (Array.getElem?_eq_some_iff.1 ho).1];exact h2 i o ho hw,h3,?_⟩;rcases h4 with h4 | h4
  ·exact .inl λj a b=>by rw[←he j (by omega)];exact h4 j a b
  ·exact .inr λj a b=>by rw[←he j (by omega)];exact h4 j a b
 ·refine .inr ⟨λk o ho hw hk=>by rw[←he k (Array.getElem?_eq_some_iff.1 ho).1];exact h1 k o ho hw hk,λk o ho hw hk=>by rw[←he k (Array.getElem?_eq_some_iff.1 ho).1];exact h2 k o ho hw hk,
   ⟨j,hj1,hj2,by rw[←he j (by omega)];exact hj3⟩,⟨k,hk1,hk2,by rw[←he k (by omega)];exact hk3⟩,?_⟩
  rw[h5];congr 1;apply List.map_congr_left;intro q hq;rw[he (a+q) (by have:=List.mem_range.1 hq;omega)]

section
variable {ops:Array Oper} {F0 rs F:List AV} {hs:List zaa} {S:Nat→Bool} {i:Nat} {o:Oper} {r:AV} {a b:Nat} {Hc:zaa}
theorem StOK.step(hLS:wc=.l→zew ops=true)(hfl:fl=true→∀ (k:Nat) ok,ops[k]?=some ok→opA wc ok.op=false∧opN ok.op=false∧opK wc ok.op=false)(hO:Ord ops)(hW:zdq wc ops=true)(hV:VB ops a b)(hat:zdQ fl wc P ops F0 rs hs H)(hst:StOK wc ops hs H a b S Hc)(hcl:∀ (j:Nat) oj,ops[j]?=some oj→S j=true→∀ e∈oj.after,Region.binds .any e=true→S e.on=true)(ho:ops[i]?=some o)(hSi:S i=false)(hedge:∀ e∈o.after,Region.binds .any e=true→S e.on=true)(hr:rs[i]?=some r)(hreads:∀ s∈zcR ops o,(frk ops.toList rs F0 i).getD s .unk=F.getD s .unk)(hnv:opV o.op=false):
  ∃Hc',StOK wc ops hs H a b (λk=>if k=i then true else S k) Hc'∧TrOK fl P ops Hc F o r Hc':=by
 have hin:i<ops.size:=(Array.getElem?_eq_some_iff.1 ho).1;have hfit:=hV.fit;have hle:=hV.le;obtain⟨r',hr',htr,_,hnw,hxx,_⟩:=hat i o (by simpa using ho);rw[hr]at hr';cases hr';have htr':TrOK fl P ops (hpk hs H i) F o r (hpk hs H (i+1)):=htr.congr hreads;have hx:opC wc o.op=true→∀J,TrOK fl P ops (hpk hs H i++J) F o r (hpk hs H i++J):=λhc J=>(hxx hc J).congr hreads;have hni:¬(a≤i∧i<b):=λh=>by have:=(hV.iff i o ho).2 h;rw[hnv]at this;cases this
 have isNew:∀{k:Nat},a≤k→k<b→∃ok,ops[k]?=some ok∧opV ok.op=true:=λ{k} h1 h2=>by
  have hk:ops[k]?=some ops[k]:=by simp[show k<ops.size by omega]
  exact⟨_,hk,(hV.iff k _ hk).2 ⟨h1,h2⟩⟩
 have notV:∀{k:Nat} {ok:Oper},ops[k]?=some ok→¬(a≤k∧k<b)→opV ok.op=false:=λ{k ok} hk hn=>by
  cases hv:opV ok.op with
  |false=>rfl
  |true=>exact(hn ((hV.iff k ok hk).1 hv)).elim
 have uf:∀{q p:Op},opL q=false→opL p=false→(opC wc q=false∨opV p=false)→(opV q=false∨opV p=false)→okU wc q p=false:=λh1 h2 h3 h4=>by unfold okU;rw[h1,h2];rcases h3 with h3|h3 <;> rcases h4 with h4|h4 <;> simp[h3,h4]
 -- what writes before it is done, what writes behind it is not
 have before:opF o.op=false→∀(k:Nat) ok,ops[k]?=some ok→opW wc ok.op=true→k<i→okU wc ok.op o.op=false→S k=true:=λhf k ok hk hw hlt hu=>
  (zkp hO hW ho hk hlt (.inr hw) hf (zic hw) hu).ready hcl ho hedge
 have behind:opF o.op=false→∀(k:Nat) ok,ops[k]?=some ok→opW wc ok.op=true→i<k→okU wc o.op ok.op=false→S k=false:=λhf k ok hk hw hlt hu=>by
  cases hS:S k with
  |false=>rfl
  |true=>have:=(zkp hO hW hk ho hlt (.inl hw) (zic hw) hf hu).closed hcl hS;rw[hSi]at this;cases this
 have keepS:∀Hc0,opW wc o.op=false→StOK wc ops hs H a b S Hc0→StOK wc ops hs H a b (λk=>if k=i then true else S k) Hc0:=by
  intro Hc0 hw h;have other:∀(k:Nat) ok,ops[k]?=some ok→opW wc ok.op=true→k≠i:=λk ok hk hwk hki=>by subst hki;rw[ho]at hk;cases hk;rw[hw]at hwk;cases hwk
  have otherV:∀j,a≤j→j<b→j≠i:=λj h1 h2 hji=>by subst hji;exact hni ⟨h1,h2⟩
  rcases h with ⟨p,h1,h2,h3,h4⟩|⟨h1,h2,⟨j,hj1,hj2,hj3⟩,⟨k,hk1,hk2,hk3⟩,h5⟩
  ·refine .inl ⟨p,h1,λk ok hk hwk=>by simp only[other k ok hk hwk,if_false];exact h2 k ok hk hwk,h3,?_⟩;rcases h4 with h4 | h4
   ·exact .inl λj x y=>by simp only[otherV j x y,if_false];exact h4 j x y
   ·exact .inr λj x y=>by simp only[otherV j x y,if_false];exact h4 j x y
  ·refine .inr ⟨λk ok hk hwk hka=>by simp only[other k ok hk hwk,if_false];exact h1 k ok hk hwk hka,λk ok hk hwk hka=>by simp only[other k ok hk hwk,if_false];exact h2 k ok hk hwk hka,
    ⟨j,hj1,hj2,by simp only[otherV j hj1 hj2,if_false];exact hj3⟩,⟨k,hk1,hk2,by simp only[otherV k hk1 hk2,if_false];exact hk3⟩,?_⟩
   rw[h5];congr 1;apply List.map_congr_left;intro q hq;have:=List.mem_range.1 hq;simp only[otherV (a+q) (by omega) (by omega),if_false]
 cases hf:opF o.op with
 |true=>
  have hw:opW wc o.op=false:=by
   cases hw:opW wc o.op with
   |false=>rfl
   |true=>rw[zic hw]at hf;cases hf
  rw[hnw hw]at htr';exact⟨Hc,keepS Hc hw hst,htr'.free hf⟩
 |false=>
 rcases hst with ⟨p,hp,hpo,rfl,hph⟩|hII
 ·-- the heap of the text
  have stay:StOK wc ops hs H a b S (hpk hs H p):=.inl ⟨p,hp,hpo,rfl,hph⟩;cases hl:opL o.op with
  |true=>
   obtain⟨hw,_,hoa,hoc,_⟩:=zvR hl;rw[hnw hw]at htr';have dn:∀(k:Nat) ok,ops[k]?=some ok→opW wc ok.op=true→p≤k→k<i→opA wc ok.op=true:=λk ok hk hwk hle hlt=>by
    cases hu:okU wc ok.op o.op with
    |true=>obtain⟨h1,h2⟩:=zc5 hwk;simp only[okU,h1,h2,hnv,hl,Bool.false_and,Bool.false_or,Bool.and_false,Bool.or_false,Bool.and_true]at hu;exact hu
    |false=>have:=(hpo k ok hk hwk).1 (before hf k ok hk hwk hlt hu);omega
   have up:∀(k:Nat) ok,ops[k]?=some ok→opW wc ok.op=true→i≤k→k<p→(opA wc ok.op=true∨opN ok.op=true)∨opK wc ok.op=true:=λk ok hk hwk hle hlt=>by
    have hSk:=(hpo k ok hk hwk).2 hlt;have hki:k≠i:=by rintro rfl;rw[hSi]at hSk;cases hSk
    cases hu:okU wc o.op ok.op with
    |true=>obtain⟨h1,h2⟩:=zc5 hwk;simp only[okU,hl,h1,hoa,hoc,hnv,Bool.false_and,Bool.false_or,Bool.and_false,Bool.or_false,Bool.true_and,Bool.or_eq_true]at hu;exact hu
    |false=>have:=behind hf k ok hk hwk (by omega) hu;rw[this]at hSk;cases hSk
   refine⟨hpk hs H p,keepS _ hw stay,htr'.load' hl (λhfe=>?_) ?_⟩
   ·by_cases hpi:p≤i
    ·exact(zc1 hat i hpi (by omega) λk ok h1 h2 h3 h4=>by have:=dn k ok h1 h2 h3 h4;rw[(hfl hfe k ok h1).1]at this;cases this).symm
    ·exact zc1 hat p (by omega) hp λk ok h1 h2 h3 h4=>by have:=up k ok h1 h2 h3 h4;rw[(hfl hfe k ok h1).1,(hfl hfe k ok h1).2.1,(hfl hfe k ok h1).2.2]at this;rcases this with (h|h)|h <;> cases h
   intro av id off cs _ ⟨ty,y,hoy,hay⟩ hptr hcs;by_cases hpi:p≤i
   ·exact zuP hat i hpi (by omega) dn id cs hcs
   ·refine zuR hat p (by omega) hp (λk ok hk hwk hle hlt=>?_) cs hcs;rcases up k ok hk hwk hle hlt with h | h
    ·exact .inl h
    ·refine .inr λcs' hcs'=>?_;have hls:=hLS (zkn h).1;obtain⟨rk,_,_,_,_,_,_,hkk⟩:=hat k ok (by simpa using hk);refine hkk h (zu9 hls hk).2 (ev (frk ops.toList rs F0 k) y) ?_ id off ?_ cs' hcs'
     ·unfold zhG;refine List.mem_filterMap.2 ⟨o,List.mem_of_getElem? (by rw[Array.getElem?_toList];exact ho),?_⟩;rw[hoy]
     ·rw[←hptr,hay];cases y with
      |tmp s=>
       have hsr:s∈zcR ops o:=by simp[zcR,hoy,Op.operands]
       show (frk ops.toList rs F0 k).getD s .unk=F.getD s .unk;rw[zuE hat k hle (by omega) λj oj hj hij _=>zDL hls ho hj hl hij hsr];exact hreads s hsr
      |_=>rfl
  |false=>
   cases hc:opC wc o.op with
   |true=>
    obtain⟨hw,_,_,_⟩:=zvO hc;have below:∀(k:Nat) ok,ops[k]?=some ok→opW wc ok.op=true→k<i→k<p:=λk ok hk hwk hlt=>
     (hpo k ok hk hwk).1 (before hf k ok hk hwk hlt (uf (zc5 hwk).1 hl (.inl (zc5 hwk).2) (.inr hnv)))
    have above:∀(k:Nat) ok,ops[k]?=some ok→opW wc ok.op=true→i<k→¬(a≤k∧k<b)→¬k<p:=λk ok hk hwk hlt hn hkp=>by have:=behind hf k ok hk hwk hlt (uf hl (zc5 hwk).1 (.inr (notV hk hn)) (.inl hnv));rw[(hpo k ok hk hwk).2 hkp]at this;cases this
    refine⟨hpk hs H p,keepS _ hw stay,?_⟩;have same:(∀(k:Nat) ok,ops[k]?=some ok→opW wc ok.op=true→i≤k→k<p→False)→TrOK fl P ops (hpk hs H p) F o r (hpk hs H p):=λhno=>by
     have e:hpk hs H p=hpk hs H i:=by
      by_cases hpi:p≤i
      ·exact(zc1 hat i hpi (by omega) (λk ok hk hwk h1 h2=>by have:=below k ok hk hwk h2;omega)).symm
      ·exact zc1 hat p (by omega) hp hno
     rw[hnw hw]at htr';rw[e];exact htr'
    have selfW:∀(k:Nat) ok,ops[k]?=some ok→opW wc ok.op=true→k≠i:=λk ok hk hwk hki=>by subst hki;rw[ho]at hk;cases hk;rw[hw]at hwk;cases hwk
    rcases hph with hno|hall
    ·refine same λk ok hk hwk h1 h2=>?_;have hki:=selfW k ok hk hwk;by_cases hkn:a≤k∧k<b
     ·have:=hno k hkn.1 hkn.2;rw[(hpo k ok hk hwk).2 h2]at this;cases this
     ·exact above k ok hk hwk (by omega) hkn h2
    ·by_cases hia:i<a
     ·by_cases hab:a=b
      ·refine same λk ok hk hwk h1 h2=>?_;exact above k ok hk hwk (by have:=selfW k ok hk hwk;omega) (by omega) h2
      ·-- all new variables are there
       obtain⟨on,hon,hvn⟩:=isNew (k:=b-1) (by omega) (by omega);have hbp:b≤p:=by have:=(hpo (b-1) on hon (zgI hvn).1).1 (hall (b-1) (by omega) (by omega));omega
       have e1:hpk hs H a=hpk hs H i:=zc1 hat a (by omega) (by omega) (λk ok hk hwk h1 h2=>by
        have hki:=selfW k ok hk hwk;exact above k ok hk hwk (by omega) (by omega) (by omega))
       have e2:hpk hs H p=hpk hs H b:=zc1 hat p hbp hp (λk ok hk hwk h1 h2=>above k ok hk hwk (by omega) (by omega) h2);rw[e2,←zuF hat hV hall,e1];exact hx hc _
     ·refine same λk ok hk hwk h1 h2=>?_;exact above k ok hk hwk (by have:=selfW k ok hk hwk;omega) (by omega) h2
   |false=>
    have below:∀(k:Nat) ok,ops[k]?=some ok→opW wc ok.op=true→k<i→k<p:=λk ok hk hwk hlt=>
     (hpo k ok hk hwk).1 (before hf k ok hk hwk hlt (uf (zc5 hwk).1 hl (.inl (zc5 hwk).2) (.inr hnv)))
    have above:∀(k:Nat) ok,ops[k]?=some ok→opW wc ok.op=true→i≤k→¬k<p:=λk ok hk hwk hle hkp=>by
     have hSk:=(hpo k ok hk hwk).2 hkp;by_cases hki:k=i
     ·subst hki;rw[hSi]at hSk;cases hSk
     ·have:=behind hf k ok hk hwk (by omega) (uf hl (zc5 hwk).1 (.inl hc) (.inl hnv));rw[hSk]at this;cases this
    have e:hpk hs H p=hpk hs H i:=by
     by_cases hpi:p≤i
     ·exact(zc1 hat i hpi (by omega) (λk ok hk hwk h1 h2=>by have:=below k ok hk hwk h2;omega)).symm
     ·exact zc1 hat p (by omega) hp (λk ok hk hwk h1 h2=>above k ok hk hwk h1 h2)
    cases hw:opW wc o.op with
    |false=>rw[hnw hw]at htr';exact⟨hpk hs H p,keepS _ hw stay,by rw[e];exact htr'⟩
    |true=>
     refine⟨hpk hs H (i+1),.inl ⟨i+1,by omega,λk ok hk hwk=>?_,rfl,?_⟩,by rw[e];exact htr'⟩
     ·by_cases hki:k=i
      ·subst hki;simp
      ·simp only[hki,if_false];rw[hpo k ok hk hwk];constructor
       ·intro hkp;by_cases hik:i≤k
        ·exact(above k ok hk hwk hik hkp).elim
        ·omega
       ·intro hki2;exact below k ok hk hwk (by omega)
     ·rcases hph with hno | hall
      ·exact .inl λj x y=>by have:j≠i:=λh=>hni ⟨by omega,by omega⟩;simp only[this,if_false];exact hno j x y
      ·exact .inr λj x y=>by have:j≠i:=λh=>hni ⟨by omega,by omega⟩;simp only[this,if_false];exact hall j x y
 ·-- some of the new variables are there
  obtain⟨h1,h2,⟨j0,hj1,hj2,hj3⟩,⟨j1,hk1,hk2,hk3⟩,h5⟩:=hII;obtain⟨o0,ho0,hv0⟩:=isNew hj1 hj2;obtain⟨o1,ho1,hv1⟩:=isNew hk1 hk2;have hia:i<a:=by
   by_cases hia:i<a
   ·exact hia
   ·have:=before hf j1 o1 ho1 (zgI hv1).1 (by omega) (by
     obtain⟨_,x1,x2,x3,_⟩:=zgI (wc:=wc) hv1;unfold okU;simp[x1,x2,x3,hnv])
    rw[hk3]at this;cases this
  have early:okU wc o.op o0.op=true:=by
   cases hu:okU wc o.op o0.op with
   |true=>rfl
   |false=>have:=behind hf j0 o0 ho0 (zgI hv0).1 (by omega) hu;rw[hj3]at this;cases this
  have stay:StOK wc ops hs H a b S Hc:=.inr ⟨h1,h2,⟨j0,hj1,hj2,hj3⟩,⟨j1,hk1,hk2,hk3⟩,h5⟩;subst h5;cases hl:opL o.op with
  |true=>
   obtain⟨hw,_,hoa,hoc,_⟩:=zvR hl;rw[hnw hw]at htr';refine⟨_,keepS _ hw stay,htr'.load hl (λhfe=>by have:=(hfl hfe j0 o0 ho0).2.1;rw[zvS hv0]at this;cases this) λid cs hcs=>?_⟩;have:=zuQ hat a (by omega) (by omega) (λk ok hk hwk hle hlt=>by
    have hSk:=h1 k ok hk hwk hlt;have hki:k≠i:=by rintro rfl;rw[hSi]at hSk;cases hSk
    cases hu:okU wc o.op ok.op with
    |true=>
     obtain⟨x1,x2⟩:=zc5 hwk;simp only[okU,hl,x1,hoa,hoc,hnv,Bool.false_and,Bool.false_or,Bool.and_false,Bool.or_false,Bool.true_and,Bool.or_eq_true]at hu;rcases hu with hu|hu
     ·exact hu
     ·have:=(zu9 (hLS (zkn hu).1) ho0).1;rw[zvS hv0]at this;cases this
    |false=>
     have:=behind hf k ok hk hwk (by omega) hu;rw[this]at hSk;cases hSk) id cs hcs
   rw[List.getElem?_append_left (List.getElem?_eq_some_iff.1 this).1];exact this
  |false=>
   have hc:opC wc o.op=true:=by unfold okU at early;simp only[hl,hnv,(zgI (wc:=wc) hv0).2.1,Bool.false_and,Bool.and_false,Bool.false_or,Bool.or_false,Bool.and_eq_true]at early;exact early.1
   obtain⟨hw,_,_,_⟩:=zvO hc;have e1:hpk hs H a=hpk hs H i:=zc1 hat a (by omega) (by omega) (λk ok hk hwk hle hlt=>by
    have hSk:=h1 k ok hk hwk hlt;have hki:k≠i:=by rintro rfl;rw[hSi]at hSk;cases hSk
    have:=behind hf k ok hk hwk (by omega) (uf hl (zc5 hwk).1 (.inr (notV hk (by omega))) (.inl hnv));rw[this]at hSk;cases hSk)
   refine⟨_,keepS _ hw stay,?_⟩;rw[e1];exact hx hc _
end

theorem zul{ops:Array Oper}{F0 rs Fn:List AV}{hs:List zaa}{Hn:zaa}{K:List AV→zaa→Prop}{Q:Exit→Act→World→Prop}{w0:World}{G0:Gh}{va vb:Nat}(hLS:wc=.l→zew ops=true)(hfl:fl=true→∀ (k:Nat) ok,ops[k]?=some ok→opA wc ok.op=false∧opN ok.op=false∧opK wc ok.op=false)(hO:Ord ops)(hW:zdq wc ops=true)(hV:VB ops va vb)(ht:TrL fl wc P ops ops.toList F0 H rs hs Fn Hn)(hK:K Fn Hn)(hQ:∀ a w G F H,Ext B w0 G0 w G→HRel B w G H→FRel w G a.tmps F→a.defers=[]→K F H→Q .normal a w):
  ∀ (fuel:Nat) (listed:Array Bool) (a:Act) (w:World) (G:Gh) (F:List AV) (Hc:zaa),StOK wc ops hs H va vb (inS listed) Hc→listed.size=ops.size→listed.toList.count false≤fuel →
   (∀(j:Nat) oj,ops[j]?=some oj→inS listed j=true→∀e∈oj.after,Region.binds .any e=true→inS listed e.on=true) →
   Ext B w0 G0 w G→HRel B w G Hc→FlRel ops F0 rs (inS listed) F→FRel w G a.tmps F→a.defers=[]→wpAny P .any ops Q fuel listed a w:=by
 obtain⟨hlen,hfn,hhn,hat0⟩:=ht.at;have hat:zdQ fl wc P ops F0 rs hs H:=hat0;have hlen':rs.length=ops.size:=by simpa using hlen
 have hfit:=hV.fit
 -- nothing is ready only at the end
 have fin:∀ (listed:Array Bool) (a:Act) (w:World) (G:Gh) (F:List AV) (Hc:zaa),StOK wc ops hs H va vb (inS listed) Hc→listed.size=ops.size→Ext B w0 G0 w G→HRel B w G Hc→FlRel ops F0 rs (inS listed) F→FRel w G a.tmps F→a.defers=[] →
   Region.ready .any ops listed=[]→Q .normal a w:=by
  intro listed a w G F Hc hst hsz hE hH hFl hF hd hr;have all:∀i,i<ops.size→inS listed i=true:=by
   intro i;induction i using Nat.strongRecOn with
   |_ i ih=>
    intro hi;cases hS:inS listed i with
    |true=>rfl
    |false=>
     have:i∈Region.ready .any ops listed:=by
      rw[mem_ready];refine⟨?_,ops[i],by simp[hi],λe he hb=>?_⟩
      ·have hi':i<listed.size:=by omega
       simpa[inS,hi']using hS
      ·have hlt:=hO.edge i ops[i] (by simp[hi]) e he hb;exact ih e.on hlt (by omega)
     rw[hr]at this;cases this
  have h1:FlRel ops F0 rs (λk=>decide (k<ops.size)) F:=hFl.congr λi hi=>by rw[all i hi];simp[hi]
  have h2:=zoe hO ht ops.size (Nat.le_refl _);have:F=Fn:=by rw[FlRel.same hlen' h1 h2,←hfn];simp
  rw[this]at hF;have hHn:Hc=Hn:=by
   rcases hst with ⟨p,hp,hpo,rfl,_⟩|⟨_,_,_,⟨j,hj1,hj2,hj3⟩,_⟩
   ·rw[←hhn,Array.length_toList];exact(zc1 hat ops.size hp (Nat.le_refl _) (λi o h1 h2 h3 h4=>by
     have:=(hpo i o h1 h2).1 (all i h4);omega)).symm
   ·rw[all j (by omega)]at hj3;cases hj3
  rw[hHn]at hH;exact hQ a w G Fn Hn hE hH hF hd hK
 intro fuel;induction fuel with
 |zero=>
  intro listed a w G F Hc hst hsz hc hcl hE hH hFl hF hd;have hr:Region.ready .any ops listed=[]:=by
   cases hr:Region.ready .any ops listed with
   |nil=>rfl
   |cons i is=>
    have hi:i∈Region.ready .any ops listed:=by rw[hr];simp
    obtain⟨h1,o,ho,_⟩:=mem_ready.1 hi;have hi':i<listed.size:=by rw[hsz];exact(Array.getElem?_eq_some_iff.1 ho).1
    have hf:listed[i]=false:=by simpa[hi']using h1
    have:false∈listed.toList:=by rw[←hf];simp
    have:=List.count_pos_iff.2 this;omega
  exact⟨hr,fin listed a w G F Hc hst hsz hE hH hFl hF hd hr⟩
 |succ fuel ih=>
  intro listed a w G F Hc hst hsz hc hcl hE hH hFl hF hd;refine⟨fin listed a w G F Hc hst hsz hE hH hFl hF hd,λi hi=>?_⟩;obtain⟨h1,o,ho,hedge⟩:=mem_ready.1 hi;have hin:i<ops.size:=(Array.getElem?_eq_some_iff.1 ho).1;have hi':i<listed.size:=by omega
  have hSi:inS listed i=false:=by
   have:listed[i]=false:=by simpa[hi']using h1
   simp[inS,hi',this]
  obtain⟨r,hr,_⟩:=hat i o (by simpa using ho);have hreads:=zEW hO hlen' hFl (zoe hO ht i (by omega)) ho hSi hedge hcl
  -- what comes behind it
  have next:∀(a':Act) (w':World) (G':Gh) (Hc':zaa),StOK wc ops hs H va vb (λk=>if k=i then true else inS listed k) Hc'→Ext B w0 G0 w' G'→HRel B w' G' Hc'→FRel w' G' a'.tmps (zbB F o.dst r)→a'.defers=[]→wpAny P .any ops Q fuel (listed.setIfInBounds i true) a' w':=by
   intro a' w' G' Hc' hst' hE' hH' hF' hd';refine ih _ a' w' G' (zbB F o.dst r) Hc' (hst'.congr hV λk _=>(zfG hi' k).symm) (by simpa using hsz) ?_ ?_ hE' hH' ?_ hF' hd'
   ·have hf:listed.toList[i]'(by simpa using hi')=false:=by
     have:listed[i]=false:=by simpa[hi']using h1
     simpa using this
    rw[Array.toList_setIfInBounds,List.count_set (by simpa using hi')];rw[hf];simp only[beq_self_eq_true,if_true,Bool.true_eq_false,beq_iff_eq,if_false];omega
   ·intro j oj hj hSj e he hb;rw[zfG hi']at hSj ⊢;by_cases hji:j=i
    ·subst hji;rw[ho]at hj;cases hj;have:=hedge e he hb;by_cases hei:e.on=j
     ·simp[hei]
     ·simp only[hei,if_false];exact this
    ·simp only[hji,if_false]at hSj;have:=hcl j oj hj hSj e he hb;by_cases hei:e.on=i
     ·simp[hei]
     ·simp only[hei,if_false];exact this
   ·exact(FlRel.step hO hFl ho hr).congr λk _=>(zfG hi' k).symm
  unfold wpOp;simp only[ho];have hput:∀v,(a.put o.dst v).defers=[]:=λv=>by cases hdst:o.dst <;> simpa[Act.put]using hd
  cases hv:opV o.op with
  |true=>
   -- a new variable
   have hab:=(hV.iff i o ho).1 hv;obtain⟨hw,hnl,hnc,hna,hnf⟩:=zgI (wc:=wc) hv;have hg:=hV.bare i o ho hv;rw[if_pos (by simp[Region.wanted,hg])];refine .inl ?_;obtain⟨o',t,z,ho',hop,hz,hzo,hnext,hr'⟩:=zvE hat hV hab.1 hab.2;rw[ho]at ho';cases ho';rw[hr]at hr';cases hr';have hlen_i:(hpk hs H i).length=(hpk hs H va).length+(i-va):=by have:=zol hat hV (i-va) (by omega);rw[show va+(i-va)=i by omega]at this;rw[this];simp
   -- the writing ones before the new variables are done, those behind are not
   have early:∀(k:Nat) ok,ops[k]?=some ok→opW wc ok.op=true→k<va→inS listed k=true:=λk ok hk hwk hlt=>by
    have hnvk:opV ok.op=false:=by
     cases hvk:opV ok.op with
     |false=>rfl
     |true=>have:=(hV.iff k ok hk).1 hvk;omega
    exact(zkp hO hW ho hk (by omega) (.inr hwk) hnf (zic hwk) (by unfold okU;simp[(zc5 hwk).1,(zc5 hwk).2,hnvk,hnl])).ready hcl ho hedge
   have late:∀(k:Nat) ok,ops[k]?=some ok→opW wc ok.op=true→vb≤k→inS listed k=false:=λk ok hk hwk hle=>by
    have hnvk:opV ok.op=false:=by
     cases hvk:opV ok.op with
     |false=>rfl
     |true=>have:=(hV.iff k ok hk).1 hvk;omega
    cases hS:inS listed k with
    |false=>rfl
    |true=>have:=(zkp hO hW hk ho (by omega) (.inl hwk) (zic hwk) hnf (by unfold okU;simp[(zc5 hwk).1,hnl,hnc,hna,hnvk])).closed hcl hS;rw[hSi]at this;cases this
   -- the heap with places for the new variables
   have hplaces:∃G1,Ext B w G w G1∧HRel B w G1 (hpk hs H va++zcp hs H va vb (inS listed)):=by
    rcases hst with ⟨p,hp,hpo,rfl,hph⟩|⟨_,_,_,_,rfl⟩
    ·have hno:∀j,va≤j→j<vb→inS listed j=false:=by
      rcases hph with h|h
      ·exact h
      ·have:=h i hab.1 hab.2;rw[hSi]at this;cases this
     have e:hpk hs H p=hpk hs H va:=by
      by_cases hpa:p≤va
      ·exact(zc1 hat va hpa (by omega) (λk ok hk hwk h1 h2=>by
        have:=(hpo k ok hk hwk).1 (early k ok hk hwk h2);omega)).symm
      ·refine zc1 hat p (by omega) hp (λk ok hk hwk h1 h2=>?_);have hSk:=(hpo k ok hk hwk).2 h2;by_cases hkb:k<vb
       ·rw[hno k h1 hkb]at hSk;cases hSk
       ·rw[late k ok hk hwk (by omega)]at hSk;cases hSk
     rw[e]at hH;rw[zDe hno];obtain⟨h1,h2⟩:=hH.keepGaps (vb-va);exact⟨_,h1,h2⟩
    ·exact⟨G,Ext.refl _ _ _,hH⟩
   obtain⟨G1,hE1,hH1⟩:=hplaces;have hgap:(hpk hs H va++zcp hs H va vb (inS listed))[(hpk hs H va).length+(i-va)]?=some .gap:=by rw[List.getElem?_append_right (by omega),Nat.add_sub_cancel_left];exact zDd hab.1 hab.2 hSi
   have hset:(hpk hs H va++zcp hs H va vb (inS listed)).set ((hpk hs H va).length+(i-va)) (.cells (zbs z))=hpk hs H va++zcp hs H va vb (λk=>if k=i then true else inS listed k):=by rw[List.set_append_right _ _ (by omega),Nat.add_sub_cancel_left,←hzo,zDf hab.1 hab.2]
   have hst':StOK wc ops hs H va vb (λk=>if k=i then true else inS listed k) (hpk hs H va++zcp hs H va vb (λk=>if k=i then true else inS listed k)):=by
    by_cases hall:∀j,va≤j→j<vb→(if j=i then true else inS listed j)=true
    ·refine .inl ⟨vb,by omega,λk ok hk hwk=>?_,zuF hat hV hall,.inr hall⟩;by_cases hki:k=i
     ·subst hki;simp[hab.2]
     ·simp only[hki,if_false];by_cases hkv:k<vb
      ·simp only[hkv,iff_true];by_cases hka:va≤k
       ·have:=hall k hka hkv;simpa[hki]using this
       ·exact early k ok hk hwk (by omega)
      ·simp only[hkv,iff_false];rw[late k ok hk hwk (by omega)];simp
    ·have hsome:∃j,va≤j∧j<vb∧(if j=i then true else inS listed j)=false:=by
      apply Classical.byContradiction;intro hno;apply hall;intro j h1 h2;cases hS:(if j=i then true else inS listed j) with
      |true=>rfl
      |false=>exact(hno ⟨j,h1,h2,hS⟩).elim
     refine .inr ⟨λk ok hk hwk hka=>?_,λk ok hk hwk hkb=>?_,⟨i,hab.1,hab.2,by simp⟩,hsome,rfl⟩
     ·have hki:k≠i:=by omega
      simp only[hki,if_false];exact early k ok hk hwk hka
     ·have hki:k≠i:=by omega
      simp only[hki,if_false];exact late k ok hk hwk hkb
   have hrun:(execOp a.eval o).run P w=(((do pure (.value (←Instr.alloc t true (.tuple #[])))):Sem Next)).run P w:=by obtain⟨dst,op,type,pos,after,guard⟩:=o;simp only at hop;subst hop;rfl
   refine zid (hF.ext hE1) (K:=λv H'=>v=.ptr (hpk hs H i).length 0∧H'=hpk hs H va++zcp hs H va vb (λk=>if k=i then true else inS listed k)) (by
    rw[hrun];exact zFH hH1 hz hgap ⟨by rw[hlen_i],hset⟩) λv av w' G' H' k1 k2 k3 k4=>?_
   obtain⟨rfl,rfl⟩:=k4;exact next _ w' G' _ hst' ((hE.trans hE1).trans k1) k2 (((hF.ext hE1).ext k1).put k3) (hput v)
  |false=>
   obtain⟨Hc',hst',htr'⟩:=StOK.step (F:=F) hLS hfl hO hW hV hat hst hcl ho hSi hedge hr (λs hs=>(hreads s hs).symm) hv;have run:(zbi fl P o F Hc λv H'=>v=r∧H'=Hc')→o.wp P a w (wpAny P .any ops Q fuel (listed.setIfInBounds i true)) Q:=λhop=>
    zid hF (zfQ hH hF (zB3 hop)) λv av w' G' H' k1 k2 k3 k4=>by obtain⟨rfl,rfl⟩:=k4;exact next _ w' G' _ hst' (hE.trans k1) k2 ((hF.ext k1).put k3) (hput v)
   have skip:r=.tup []→Hc'=Hc→wpAny P .any ops Q fuel (listed.setIfInBounds i true) (a.put o.dst undef) w:=λhr0 he=>by subst hr0;subst he;exact next _ w G _ hst' hE hH (hF.put zqd) (hput _)
   unfold TrOK at htr';split at htr'
   ·rename_i hg;rw[if_pos (by simp[Region.wanted,hg])];exact .inl (run htr')
   ·rename_i j want hg;obtain⟨d,hdd,hcase⟩:=htr';rcases hcase with ⟨b,hb,hw,hop⟩ | ⟨b,hb,hw,hr0,he⟩ | ⟨hb,hr0,he⟩
    ·rw[zqj hF hg hdd hb,if_pos hw];exact .inl (run hop)
    ·rw[zqj hF hg hdd hb,if_neg (by simp[hw])];exact skip hr0 he
    ·rw[zxn hF hg hdd hb,if_neg (by simp)];exact skip hr0 he

theorem Post.of{w0:World}{G0:Gh}{Q:AExit→List AV→zaa→Prop}{a:Act}{F:List AV}{e:AExit}(hE:Ext B w0 G0 w G)(hH:HRel B w G H)(hF:FRel w G a.tmps F)(hd:a.defers=[])(h:Q e F H):Post B w0 G0 Q e.toExit a w:=
 ⟨F,H,G,e,rfl,hE,hH,hF,hd,h⟩

theorem zhN:∀ (m:List Bool) {tm:List Value} {F:List AV},All2 (TRel w G) tm F→All2 (TRel w G) tm (zfM m F)
 |[],tm,F,h=>by unfold zfM;exact h
 |b::m,[],[],h=>by cases b <;> trivial
 |true::m,v::tm,a::F,h=>⟨h.1,zhN m h.2⟩
 |false::m,v::tm,a::F,h=>⟨trivial,zhN m h.2⟩

theorem zEu(m:List Bool){y:Code}{Q:AExit→List AV→zaa→Prop}{now:List AV→zaa→Prop}{F:List AV}{H:zaa}(h:nxt m P y Q now F H)(hn:now F H→AWp P y Q F H):AWp P y Q F H:=by
 cases m with
 |nil=>exact hn h
 |cons b ms=>exactλB w G a hH hF hd=>h B w G a hH (zhN _ hF) hd
theorem zgn{M:Nat→List Bool}:∀(c:Code) (Q:AExit→List AV→zaa→Prop) (F:List AV) (H:zaa),awp P M c Q F H→AWp P c Q F H:=by
 intro c;induction c with
 |skip=>intro Q F H h B w G a hH hF hd;exact wp_skip (Post.of (e:=.normal) (Ext.refl _ _ _) hH hF hd h)
 |label l=>intro Q F H h B w G a hH hF hd;exact wp_label (Post.of (e:=.normal) (Ext.refl _ _ _) hH hF hd h)
 |region id ops draw=>
  intro Q F H h B w G a hH hF hd;cases draw with
  |false=>
   refine wp_region_list ?_;have h:(match M (300000+id) with
    |[]=>zfc P ops ops.toList (Q .normal) F H
    |_::_=>zig P ops.toList (Q .normal) F H):=h
   split at h
   ·exact zpI (K:=Q .normal) (λa w G F H h1 h2 h3 h4 h5=>Post.of (e:=.normal) h1 h2 h3 h4 h5) ops.toList F H a w G (Ext.refl _ _ _) hH hF hd h
   ·exact zwn (K:=Q .normal) (λa w G F H h1 h2 h3 h4 h5=>Post.of (e:=.normal) h1 h2 h3 h4 h5) ops.toList F H a w G (Ext.refl _ _ _) hH hF hd h
  |true=>
   have main:∀ (fl:Bool) (wc:WM),(wc=.l→zew ops=true)→(fl=true→∀ (k:Nat) ok,ops[k]?=some ok→opA wc ok.op=false∧opN ok.op=false∧opK wc ok.op=false)→(match zd7 ops && zdq wc ops && zd8 ops && P.follows .mixedOrders with
     |true=>zcC fl wc P ops ops.toList (Q .normal) F H
     |false=>False)→(Code.region id ops true).wp P (Post B w G Q) a w:=by
    intro fl wc hLS hfl h;split at h
    ·rename_i hb;simp only[Bool.and_eq_true]at hb;obtain⟨⟨⟨hord,hwr⟩,hvr⟩,hm⟩:=hb;obtain⟨rs,hs,Fn,Hn,ht,hK⟩:=zcT ops.toList F H h;obtain⟨va,vb,hV⟩:=zvT hvr;refine wp_region_any hm ?_;refine zul hLS hfl (zpu hord) hwr hV ht (K:=Q .normal) hK (w0:=w) (G0:=G) (λa w G F H h1 h2 h3 h4 h5=>Post.of (e:=.normal) h1 h2 h3 h4 h5) ops.size _ a _ G F H (.inl ⟨0,Nat.zero_le _,λk ok _ _=>by rw[ze4];simp,by cases hs <;> rfl,.inl λj _ _=>ze4 _ _⟩) (by simp) (by simp) ?_ (Ext.drew B w G _ (Nat.le_succ _)) (hH.drew _ (Nat.le_succ _)) ?_ ?_ hd
     ·intro j oj _ hj;rw[ze4]at hj;cases hj
     ·refine⟨rfl,λi o s r _ _ hS=>?_,λs _=>rfl⟩;rw[ze4]at hS;cases hS
     ·exact hF.ext (Ext.drew B w G _ (Nat.le_succ _))
    ·exact h.elim
   simp only[awp]at h;split at h
   ·cases hn:noG ops with
    |false=>simp[hn]at h
    |true=>
     rw[hn,Bool.and_true]at h;refine main true .n (λe=>by cases e) (λ_ k ok hk=>?_) h;have:=List.all_eq_true.1 hn ok (List.mem_of_getElem? (by rw[Array.getElem?_toList];exact hk));have hk0:opK .n ok.op=false:=by
      cases hb:opK .n ok.op with
      |false=>rfl
      |true=>have:=(zkn hb).1;cases this
     rw[hk0];simpa using this
   have no:∀wc:WM,false=true→∀(k:Nat) ok,ops[k]?=some ok→opA wc ok.op=false∧opN ok.op=false∧opK wc ok.op=false:=λwc h=>by cases h
   split at h
   ·cases hl:zew ops with
    |false=>simp[hl]at h
    |true=>rw[hl,Bool.and_true]at h;exact main false .l (λ_=>hl) (no _) h
   split at h
   ·exact main false .n (λe=>by cases e) (no _) h
   ·exact main false .w (λe=>by cases e) (no _) h
   ·exact main false .g (λe=>by cases e) (no _) h
   ·exact main false .c (λe=>by cases e) (no _) h
   ·rename_i l _;split at h
    ·rename_i hb;simp only[Bool.and_eq_true,decide_eq_true_eq]at hb;obtain⟨⟨⟨⟨⟨hord,hwr⟩,hvr⟩,hm⟩,hdep⟩,hle⟩:=hb;have hsz:ops.size-l.length+l.length=ops.size:=by omega
     generalize hpre:zdK ops (ops.size-l.length)=pre at *;have hps:pre.size=ops.size-l.length:=by rw[←hpre];simp[zdK]
     obtain⟨rs,hs,Fn,Hn,ht,hK⟩:=zcT pre.toList F H h;obtain⟨va,vb,hV⟩:=zvT hvr;refine wp_region_any hm ?_;have key:=zul (fl:=false) (λh=>by cases h) (λh=>by cases h) (zpu hord) hwr hV ht (K:=zgN P ops (Q .normal) l.length (zgT (ops.size-l.length) l.length)) hK (Q:=zkL (wpAny P .any ops (Post B w G Q) l.length (zgT (ops.size-l.length) l.length)) (Post B w G Q)) (w0:=w) (G0:=G)
      (λa w G F H h1 h2 h3 h4 h5=>zEY (λa w G F H h1 h2 h3 h4 h5=>Post.of (e:=.normal) h1 h2 h3 h4 h5) _ _ a w G F H h1 h2 h3 h4 h5)
      pre.size (Array.replicate pre.size false) a { w with drawn:=w.drawn+1 } G F H (.inl ⟨0,Nat.zero_le _,λk ok _ _=>by rw[ze4];simp,by cases hs <;> rfl,.inl λj _ _=>ze4 _ _⟩) (by simp) (by simp) (λj oj _ hj=>by rw[ze4]at hj;cases hj) (Ext.drew B w G _ (Nat.le_succ _)) (hH.drew _ (Nat.le_succ _))
      ⟨rfl,λi o s r _ _ hS=>(by rw[ze4]at hS;cases hS),λs _=>rfl⟩ (hF.ext (Ext.drew B w G _ (Nat.le_succ _))) hd
     have:=zGU hsz hpre.symm hdep (zpu hord).edge pre.size (Array.replicate pre.size false) a _ (by simp[hps]) (by simp) (λj oj _ hS=>by by_cases hlt:j<pre.size <;> simp[hlt]at hS) key;have e:Array.replicate pre.size false++(List.replicate l.length false).toArray=Array.replicate ops.size false:=by apply Array.toList_inj.1;simp[hps,List.replicate_append_replicate,hsz]
     rw[e,hps,hsz]at this;exact this
    ·exact h.elim
 |seq x y ihx ihy=>
  intro Q F H h B w G a hH hF hd;refine wp_seq (wp_mono (ihx _ F H h B w G a hH hF hd) λe a' w' hp=>?_);obtain⟨F',H',G',e',rfl,h1,h2,h3,h4,h5⟩:=hp;cases e' with
  |normal=>
   have h6:AWp P y Q F' H':=by exact zEu _ h5 (ihy Q F' H')
   refine wp_mono (h6 B w' G' a' h2 h3 h4) λe a'' w'' hp=>?_;obtain⟨F'',H'',G'',e'',rfl,k1,k2,k3,k4,k5⟩:=hp;exact⟨F'',H'',G'',e'',rfl,h1.trans k1,k2,k3,k4,k5⟩
  |exit id=>exact Post.of (e:=.exit id) h1 h2 h3 h4 h5
  |ret=>exact Post.of (e:=.ret) h1 h2 h3 h4 h5
 |scope c ih=>
  intro Q F H h B w G a hH hF hd;refine wp_scope_straight (wp_mono (ih Q F H h B w G a hH hF hd) λe a' w' hp=>?_);obtain⟨F',H',G',e',rfl,h1,h2,h3,h4,h5⟩:=hp;cases e' with
  |normal=>exact Post.of (e:=.normal) h1 h2 h3 h4 h5
  |exit id=>exact Post.of (e:=.exit id) h1 h2 h3 h4 h5
  |ret=>exact Post.of (e:=.ret) h1 h2 h3 h4 h5
 |cond c x y ihx ihy=>
  intro Q F H h B w G a hH hF hd;simp only[awp,zag]at h;split at h
  ·rename_i t ht;have hc:=zaF hF c;rw[ht]at hc;have hc:a.eval c=.bool t:=hc;unfold aIf at h;refine wp_cond hc ?_;cases t with
   |true=>exact ihx Q F H (by simpa using h) B w G a hH hF hd
   |false=>exact ihy Q F H (by simpa using h) B w G a hH hF hd
  ·exact h.elim
 |block id c ih=>
  intro Q F H h B w G a hH hF hd;refine wp_block (wp_mono (ih _ F H h B w G a hH hF hd) λe a' w' hp=>?_);obtain⟨F',H',G',e',rfl,h1,h2,h3,h4,h5⟩:=hp;cases e' with
  |normal=>exact Post.of (e:=.normal) h1 h2 h3 h4 h5
  |ret=>exact Post.of (e:=.ret) h1 h2 h3 h4 h5
  |exit id'=>
   simp only[AExit.toExit,Exit.inBlock];simp only[znQ]at h5;split at h5
   ·rename_i hid;rw[if_pos (by simpa using hid)];exact Post.of (e:=.normal) h1 h2 h3 h4 h5
   ·rename_i hid;rw[if_neg (by simpa using hid)];exact Post.of (e:=.exit id') h1 h2 h3 h4 h5
 |loop c ih=>intro Q F H h B w G a hH hF hd;exact h B w G a hH (zhN _ hF) hd
 |ret=>intro Q F H h B w G a hH hF hd;exact wp_ret (Post.of (e:=.ret) (Ext.refl _ _ _) hH hF hd h)
 |exit id=>intro Q F H h B w G a hH hF hd;exact wp_exit (Post.of (e:=.exit id) (Ext.refl _ _ _) hH hF hd h)
 |_=>intro Q F H h;exact h.elim

end Go.Abs
