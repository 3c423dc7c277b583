import Derived.Test.YtdmamdnkcefmmaaGreatDoorAbsJ
set_option linter.unusedSimpArgs false
set_option linter.unusedVariables false
set_option maxRecDepth 8000
namespace Go.Proofs.YtdmamdnkcefmmaaGreatDoor
section
open Go.RowKit

variable {wc:WM} {P:Program} {B:Nat} {w:World} {G:Gh} {H:zaa}

structure Ord (d6:Array Oper):Prop where
 edge:∀(i:Nat) o,d6[i]?=some o→∀e∈o.after,Region.binds .any e=true→e.on<i
 dst:∀(i j:Nat) oi oj d,d6[i]?=some oi→d6[j]?=some oj→i≠j→oj.dst=some d→oi.dst≠some d
 before:∀(i j:Nat) oi oj d,d6[i]?=some oi→d6[j]?=some oj→j<i→oj.dst=some d→d∈zeu d6 oi→∃e∈oi.after,Region.binds .any e=true∧e.on=j
 behind:∀(i j:Nat) oi oj d,d6[i]?=some oi→d6[j]?=some oj→i<j→oj.dst=some d→d∈zeu d6 oi→∃e∈oj.after,Region.binds .any e=true∧e.on=i

theorem zjc{o:Oper}{j:Nat}(h:zd2 o j=true):∃e∈o.after,Region.binds .any e=true∧e.on=j:=by unfold zd2 at h;rw[Array.any_eq_true']at h;obtain⟨e,he,hb⟩:=h;simp only[ai,a6]at hb;exact⟨e,he,hb⟩

theorem zqn{d6:Array Oper}(h:zev d6=true):Ord d6:=by
 unfold zev at h;rw[ak]at h;have mem:∀(i:Nat) o,d6[i]?=some o→(o,i)∈d6.toList.zipIdx:=λi o ho=>by rw[cn];simpa using ho
 have all:∀(i j:Nat) oi oj,d6[i]?=some oi→d6[j]?=some oj→zqm d6 i j oi oj=true:=λi j oi oj hi hj=>by have h1:=h _ (mem i oi hi);simp only[ai]at h1;exact ak.1 h1.2 _ (mem j oj hj)
 have pair:∀(i j:Nat) oi oj d,d6[i]?=some oi→d6[j]?=some oj→i≠j→oj.dst=some d→oi.dst≠some d∧(d∈zeu d6 oi→(if j<i then zd2 oi j else zd2 oj i)=true):=by intro i j oi oj d hi hj en hd;have h1:=all i j oi oj hi hj;unfold zqm at h1;simp only[hd,bZ,a6,en,false_or,ai,bne_iff_ne,cw,List.contains_eq_mem,bC]at h1;exact⟨h1.1,λhm=>h1.2.resolve_left (λh=>h hm)⟩
 refine⟨λi o ho e he hb=>?_,λi j oi oj d hi hj en hd=>(pair i j oi oj d hi hj en hd).1,λi j oi oj d hi hj d7 hd hm=>?_,λi j oi oj d hi hj d7 hd hm=>?_⟩
 ·have h1:=h _ (mem i o ho);simp only[ai]at h1;have h2:=Array.all_eq_true'.1 h1.1 e he;simpa[hb]using h2
 ·have:=(pair i j oi oj d hi hj (by omega) hd).2 hm;rw[aA d7]at this;exact zjc this
 ·have:=(pair i j oi oj d hi hj (by omega) hd).2 hm;rw[ap (by omega)]at this;exact zjc this

structure FlRel (d6:Array Oper) (F0 rs:List AV) (S:Nat→Bool) (F:List AV):Prop where
 len:F.length=F0.length
 done:∀(i:Nat) o s r,d6[i]?=some o→o.dst=some s→S i=true→rs[i]?=some r→s<F0.length→F[s]?=some r
 rest:∀s:Nat,(∀(i:Nat) o,d6[i]?=some o→o.dst=some s→S i=false)→F[s]?=F0[s]?

theorem FlRel.step{d6:Array Oper}{F0 rs F:List AV}{S:Nat→Bool}{i:Nat}{o:Oper}{r:AV}(hO:Ord d6)(h:FlRel d6 F0 rs S F)(ho:d6[i]?=some o)(hr:rs[i]?=some r):
  FlRel d6 F0 rs (λk=>if k=i then true else S k) (zbQ F o.dst r):=by
 refine⟨by cases hd:o.dst <;> simp[zbQ,h.len],λk ok s x hk hs hS hx d7=>?_,λs hs=>?_⟩
 ·by_cases eY:k=i
  ·subst eY;rw[ho]at hk;cases hk;rw[hr]at hx;cases hx;simp only[zbQ,hs];exact List.getElem?_set_self (by rw[h.len];exact d7)
  ·simp only[eY,aH]at hS;have h1:=h.done k ok s x hk hs hS hx d7;cases hd:o.dst with
   |none=>exact h1
   |some d=>have en:d≠s:=λhe=>hO.dst i k o ok s ho hk (λh=>eY h.symm) hs (by rw[hd,he]);simp only[zbQ];rw[List.getElem?_set_ne en];exact h1
 ·have hi:=hs i o ho;have og:o.dst≠some s:=λhd=>by have:=hi hd;simp at this
  have h1:=h.rest s (λk ok hk fP=>by
   have:=hs k ok hk fP;by_cases eY:k=i
   ·subst eY;simp at this
   ·simpa[eY]using this)
  cases hd:o.dst with
  |none=>exact h1
  |some d=>have en:d≠s:=λhe=>og (by rw[hd,he]);simp only[zbQ];rw[List.getElem?_set_ne en];exact h1

theorem FlRel.same{d6:Array Oper}{F0 rs F F':List AV}{S:Nat→Bool}(hr:rs.length=d6.size)(h:FlRel d6 F0 rs S F)(h':FlRel d6 F0 rs S F'):F=F':=by
 apply aJ;intro s;by_cases hw:∃(i:Nat) (o:Oper),d6[i]?=some o∧o.dst=some s∧S i=true
 ·obtain⟨i,o,h1,h2,h3⟩:=hw;by_cases d7:s<F0.length
  ·have hi:i<rs.length:=by rw[hr];exact (Array.getElem?_eq_some_iff.1 h1).1
   rw[h.done i o s rs[i] h1 h2 h3 (by simp[hi]) d7,h'.done i o s rs[i] h1 h2 h3 (by simp[hi]) d7]
  ·rw[List.getElem?_eq_none (by rw[h.len];omega),List.getElem?_eq_none (by rw[h'.len];omega)]
 ·have hn:∀(i:Nat) o,d6[i]?=some o→o.dst=some s→S i=false:=λi o h1 h2=>by
   cases hS:S i with
   |false=>rfl
   |true=>exact absurd ⟨i,o,h1,h2,hS⟩ hw
  rw[h.rest s hn,h'.rest s hn]

theorem FlRel.congr{d6:Array Oper}{F0 rs F:List AV}{S S':Nat→Bool}(h:FlRel d6 F0 rs S F)(hS:∀i,i<d6.size→S i=S' i):FlRel d6 F0 rs S' F:=
 ⟨h.len,λi o s r ho hs jE=>h.done i o s r ho hs (by rw[hS i (Array.getElem?_eq_some_iff.1 ho).1];exact jE),
  λs hs=>h.rest s λi o ho hd=>by rw[hS i (Array.getElem?_eq_some_iff.1 ho).1];exact hs i o ho hd⟩

theorem zoX{fl:Bool}{d6:Array Oper}{F0 rs Fn:List AV}{Hn:zaa}{hs:List zaa}(hO:Ord d6)(ht:TrL fl wc P d6 d6.toList F0 H rs hs Fn Hn):∀ i,i≤d6.size→FlRel d6 F0 rs (λk=>decide (k<i)) (frk d6.toList rs F0 i)
 |0,_=>by
  have:frk d6.toList rs F0 0=F0:=by unfold frk;cases d6.toList <;> rfl
  rw[this];exact⟨rfl,λi o s r _ _ hS=>by simp at hS,λs _=>rfl⟩
 |i+1,hi=>by
  obtain⟨hl,_,_,eR⟩:=ht.at;have ho:d6.toList[i]?=some d6[i]:=by simp[show i<d6.size by omega]
  obtain⟨r,h1,_,h3,_,_⟩:=eR i _ ho;rw[h3];refine(FlRel.step hO (zoX hO ht i (by omega)) (i:=i) (o:=d6[i]) (by simp[show i<d6.size by omega]) h1).congr λk _=>?_;by_cases hk:k=i
  ·subst hk;simp
  ·simp[hk];omega

theorem zHu{d6:Array Oper}{F0 rs F F':List AV}{S:Nat→Bool}{i:Nat}{o:Oper}(hO:Ord d6)(hr:rs.length=d6.size)(h:FlRel d6 F0 rs S F)(h':FlRel d6 F0 rs (λk=>decide (k<i)) F')(ho:d6[i]?=some o)(hi:S i=false)(hready:∀e∈o.after,Region.binds .any e=true→S e.on=true)(hclosed:∀(j:Nat) oj,d6[j]?=some oj→S j=true→∀e∈oj.after,Region.binds .any e=true→S e.on=true):∀s∈zeu d6 o,F.getD s .unk=F'.getD s .unk:=by
 intro s hs;have key:F[s]?=F'[s]?:=by
  by_cases hw:∃(j:Nat) (oj:Oper),d6[j]?=some oj∧oj.dst=some s∧j≠i
  ·obtain⟨j,oj,hj,hd,en⟩:=hw;have uniq:∀(k:Nat) ok,d6[k]?=some ok→ok.dst=some s→k=j:=λk ok hk fP=>by
    by_cases hkj:k=j
    ·exact hkj
    ·exact absurd fP (hO.dst k j ok oj s hk hj hkj hd)
   by_cases d7:j<i
   ·obtain⟨e,he,hb,lv⟩:=hO.before i j o oj s ho hj d7 hd hs;have jU:=hready e he hb;rw[lv]at jU;by_cases ia:s<F0.length
    ·have eN:j<rs.length:=by rw[hr];exact (Array.getElem?_eq_some_iff.1 hj).1
     rw[h.done j oj s rs[j] hj hd jU (by simp[eN]) ia,h'.done j oj s rs[j] hj hd (by simpa using d7) (by simp[eN]) ia]
    ·rw[List.getElem?_eq_none (by rw[h.len];omega),List.getElem?_eq_none (by rw[h'.len];omega)]
   ·obtain⟨e,he,hb,lv⟩:=hO.behind i j o oj s ho hj (by omega) hd hs;have jU:S j=false:=by
     cases jU:S j with
     |false=>rfl
     |true=>have:=hclosed j oj hj jU e he hb;rw[lv,hi]at this;cases this
    rw[h.rest s (λk ok hk fP=>by rw[uniq k ok hk fP];exact jU),h'.rest s (λk ok hk fP=>by rw[uniq k ok hk fP];simpa using d7)]
  ·have gN:∀(k:Nat) ok,d6[k]?=some ok→ok.dst=some s→k=i:=λk ok hk fP=>by
    by_cases eY:k=i
    ·exact eY
    ·exact absurd ⟨k,ok,hk,fP,eY⟩ hw
   rw[h.rest s (λk ok hk fP=>by rw[gN k ok hk fP];exact hi),h'.rest s (λk ok hk fP=>by rw[gN k ok hk fP];simp)]
 rw[List.getD_eq_getElem?_getD,List.getD_eq_getElem?_getD,key]

inductive Anc (d6:Array Oper):Nat→Nat→Prop
 |one {j i:Nat} {o:Oper} {e:Edge} (ho:d6[j]?=some o) (he:e∈o.after) (hb:Region.binds .any e=true) (hi:e.on=i):Anc d6 j i
 |more {j k i:Nat} {o:Oper} {e:Edge} (ho:d6[j]?=some o) (he:e∈o.after) (hb:Region.binds .any e=true) (hk:e.on=k) (h:Anc d6 k i):Anc d6 j i

theorem Anc.closed{d6:Array Oper}{S:Nat→Bool}(hc:∀(j:Nat) oj,d6[j]?=some oj→S j=true→∀e∈oj.after,Region.binds .any e=true→S e.on=true){j i:Nat}(h:Anc d6 j i):S j=true→S i=true:=by
 induction h with
 |one ho he hb hi=>intro hj;rw[←hi];exact hc _ _ ho hj _ he hb
 |more ho he hb hk h ih=>intro hj;exact ih (by rw[←hk];exact hc _ _ ho hj _ he hb)
theorem Anc.ready{d6:Array Oper}{S:Nat→Bool}(hc:∀(j:Nat) oj,d6[j]?=some oj→S j=true→∀e∈oj.after,Region.binds .any e=true→S e.on=true){j i:Nat}{o:Oper}(ho:d6[j]?=some o)(hr:∀e∈o.after,Region.binds .any e=true→S e.on=true)(h:Anc d6 j i):S i=true:=by
 cases h with
 |one fZ he hb hi=>rw[ho]at fZ;cases fZ;rw[←hi];exact hr _ he hb
 |more fZ he hb hk h=>rw[ho]at fZ;cases fZ;exact h.closed hc (by rw[←hk];exact hr _ he hb)

theorem zvD(ms:List Nat):∀ (es:List Edge) (m i:Nat),Nat.testBit (zg9 ms es m) i=true→Nat.testBit m i=true∨∃ e∈es,Region.binds .any e=true∧(e.on=i∨Nat.testBit (ms.getD e.on 0) i=true)
 |[],m,i,h=>.inl h
 |e::es,m,i,h=>by
  unfold zg9 at h;rcases zvD ms es _ i h with h1|⟨e',oV,hb,hc⟩
  ·cases hb:Region.binds .any e with
   |false=>rw[hb]at h1;exact .inl h1
   |true=>
    rw[hb]at h1;simp only[Nat.testBit_or,bZ,Nat.one_shiftLeft,Nat.testBit_two_pow,aR]at h1;rcases h1 with (h1|h1)|h1
    ·exact .inl h1
    ·exact .inr ⟨e,by simp,hb,.inl h1⟩
    ·exact .inr ⟨e,by simp,hb,.inr h1⟩
  ·exact .inr ⟨e',by simp[oV],hb,hc⟩
theorem zoz{d6:Array Oper}:∀ (l:List Oper) (ms:List Nat),d6.toList.drop ms.length=l→(∀ j i,Nat.testBit (ms.getD j 0) i=true→Anc d6 j i) →
  (∀(j:Nat),(∃o,d6[j]?=some o)→∀e∈(d6[j]?.map (·.after)).getD #[],Region.binds .any e=true→e.on<j)→∀j i,Nat.testBit ((zf6 l ms).getD j 0) i=true→Anc d6 j i
 |[],ms,_,h,_,j,i=>h j i
 |o::l,ms,hd,h,he,j,i=>by
  have ho:d6[ms.length]?=some o:=by have:=congrArg (λx=>x[0]?) hd;simpa using this
  unfold zf6;refine zoz l (ms++[zg9 ms o.after.toList 0]) ?_ ?_ he j i
  ·rw[az,List.length_singleton,←cS,hd];rfl
  ·intro j i hb;by_cases hj:j<ms.length
   ·rw[List.getD_eq_getElem?_getD,List.getElem?_append_left hj,←List.getD_eq_getElem?_getD]at hb;exact h j i hb
   ·by_cases jD:j=ms.length
    ·subst jD;rw[List.getD_eq_getElem?_getD,List.getElem?_append_right (aa _)]at hb;simp only[cT,List.getElem?_cons_zero,Option.getD_some]at hb;rcases zvD ms _ _ _ hb with h1 | ⟨e,hee,oh,hc⟩
     ·simp at h1
     ·have hee':e∈o.after:=by simpa using hee
      rcases hc with hc|hc
      ·exact .one ho hee' oh hc
      ·exact .more ho hee' oh rfl (h _ _ hc)
    ·rw[List.getD_eq_getElem?_getD,List.getElem?_eq_none (by simp;omega)]at hb;simp at hb
theorem zka{d6:Array Oper}(hO:Ord d6)(h:zdL wc d6=true){i j:Nat}{oi oj:Oper}(hi:d6[i]?=some oi)(hj:d6[j]?=some oj)(d7:j<i)(hw:opW wc oi.op=true∨opW wc oj.op=true)(fi:opF oi.op=false)(fj:opF oj.op=false)(hu:okU wc oj.op oi.op=false):Anc d6 i j:=by
 unfold zdL at h;have mem:∀(i:Nat) o,d6[i]?=some o→(o,i)∈d6.toList.zipIdx:=λi o ho=>by rw[cn];simpa using ho
 split at h
 ·rename_i hn;rw[List.any_eq_false]at hn;have hmi:oi∈d6.toList:=aM.2 ⟨i,by simpa using hi⟩;have hmj:oj∈d6.toList:=aM.2 ⟨j,by simpa using hj⟩;rcases hw with hw | hw
  ·exact absurd hw (hn _ hmi)
  ·exact absurd hw (hn _ hmj)
 ·have h1:=ak.1 (ak.1 h _ (mem i oi hi)) _ (mem j oj hj);have hw':(opW wc oi.op || opW wc oj.op)=true:=by rcases hw with hw | hw <;> simp[hw]
  simp only[hw',fi,fj,hu,d7,cQ,Bool.not_true,bt]at h1;refine zoz d6.toList [] rfl (λj i hb=>by simp at hb) ?_ i j h1;intro j ⟨o,ho⟩ e he hb;rw[ho]at he;exact hO.edge j o ho e (by simpa using he) hb

end
section
open Go.RowKit
variable {P:Program} {B:Nat} {w:World} {G:Gh} {H:zaa}
theorem zvE{α:Type}{p:α→Prop}:∀ {l:List α},zoA l p→∀ i∈l,p i
 |[],_,i,hi=>by cases hi
 |[j],h,i,hi=>by simp at hi;subst hi;exact h
 |j::k::l,h,i,hi=>by
  rcases aS.1 hi with rfl|hi
  ·exact h.1
  ·exact zvE h.2 i hi
theorem zrk{d6:Array Oper}{Q:Exit→Act→World→Prop}{i:Nat}{o:Oper}{a:Act}{K:Act→World→Prop}(ho:d6[i]?=some o)(hg:o.guard=none):wpOp P d6 Q i K a w=(o.wp P a w K Q∨(o.asks P a w∧LetsOut Q)):=by unfold wpOp;simp only[ho];rw[aA (by simp[Region.wanted,hg])]
theorem zHJ{d6:Array Oper}{K:List AV→zaa→Prop}{Q:Exit→Act→World→Prop}{w0:World}{G0:Gh}(hQ:∀ a w G F H,Ext B w0 G0 w G→HRel B w G H→FRel w G a.tmps F→a.defers=[]→K F H→Q .normal a w):
  ∀(n:Nat) (dW:Array Bool) (a:Act) (w:World) (G:Gh) (F:List AV) (H:zaa),Ext B w0 G0 w G→HRel B w G H→FRel w G a.tmps F→a.defers=[]→zgC P d6 K n dW F H→wpAny P .any d6 Q n dW a w:=by
 intro n;induction n with
 |zero=>
  intro dW a w G F H hE hH hF hd h;unfold zgC at h;split at h
  ·rename_i hr;exact⟨hr,hQ a w G F H hE hH hF hd h⟩
  ·exact h.elim
 |succ n ih=>
  intro dW a w G F H hE hH hF hd h;unfold zgC at h;split at h
  ·rename_i hr;exact⟨λ_=>hQ a w G F H hE hH hF hd h,λi hi=>by rw[hr]at hi;cases hi⟩
  ·rename_i i is hr;refine⟨λh0=>(by rw[hr]at h0;cases h0),λj hj=>?_⟩;rw[hr]at hj;have h1:=zvE h j hj;split at h1
   ·rename_i o ho;split at h1
    ·rename_i hg;rw[zrk ho hg];refine .inl (zh9 hF (zfA hH hF h1) λv av w' G' H' k1 k2 k3 k4=>?_);have i4:(a.put o.dst v).defers=[]:=by cases gJ:o.dst <;> simpa[Act.put]using hd
     exact ih _ _ w' G' _ H' (hE.trans k1) k2 ((hF.ext k1).put k3) i4 k4
    ·exact h1.elim
   ·exact h1.elim
def zkz(T:Act→World→Prop)(Q:Exit→Act→World→Prop):Exit→Act→World→Prop
 |.normal,a,w=>T a w
 |e,a,w=>Q e a w
theorem zwR{T:Act→World→Prop}{Q:Exit→Act→World→Prop}(h:LetsOut (zkz T Q)):LetsOut Q:=h
theorem zGY{o:Oper}{a:Act}{T:Act→World→Prop}{Q:Exit→Act→World→Prop}{K K':Act→World→Prop}(hk:∀a w,K a w→K' a w)(h:o.wp P a w K (zkz T Q)):o.wp P a w K' Q:=by
 have h:=Oper.wp_mono hk h;unfold Oper.wp at *;generalize (execOp a.eval o).run P w=r at *;cases r with
 |ok n w'=>
  cases n <;> simp only[Oper.upon]at h ⊢ <;>
   first
    |exact h
    |exact Calls.mono h (λe w'' he=>by cases e <;> first|exact he|exact zwR he)
 |halt x w'=>cases x <;> simp only[Oper.upon]at h ⊢ <;> exact h
theorem zJF{d6 pre:Array Oper}{m t:Nat}{Q:Exit→Act→World→Prop}(hm:m+t=d6.size)(iu:pre=zdN d6 m)(jF:zq1 d6 m=true)(fw:∀ (i:Nat) o,pre[i]?=some o→∀ e∈o.after,Region.binds .any e=true→e.on<i):
  ∀ (n:Nat) (dW:Array Bool) (a:Act) (w:World),dW.size=m→dW.toList.count false=n →
   (∀(j:Nat) oj,pre[j]?=some oj→dW.getD j false=true→∀e∈oj.after,Region.binds .any e=true→dW.getD e.on false=true) →
   wpAny P .any pre (zkz (wpAny P .any d6 Q t (zgH m t)) Q) n dW a w →
   wpAny P .any d6 Q (n+t) (dW++(List.replicate t false).toArray) a w:=by
 have iI:pre.size=m:=by rw[iu];simp[zdN];omega
 have same:∀i,i<m→pre[i]?=d6[i]?:=λi hi=>by rw[iu];simp[zdN,hi]
 have hanc:∀j i,Nat.testBit ((zf6 (d6.toList.take m) []).getD j 0) i=true→Anc pre j i:=by
  intro j i hb;have e1:d6.toList.take m=pre.toList:=by rw[iu];simp[zdN]
  rw[e1]at hb;refine zoz pre.toList [] rfl (λj i hb=>by simp at hb) ?_ j i hb;intro j ⟨o,ho⟩ e he hb;rw[ho]at he;exact fw j o ho e (by simpa using he) hb
 obtain⟨lw,hd2⟩:(∀o∈d6.toList.drop m,∀i,i<m→zd2 o i=true∨∃k,k<m∧zd2 o k=true∧Anc pre k i)∧∀o∈d6.toList,o.guard=none:=by
  unfold zq1 at jF;rw[ai,ak,ak]at jF;refine⟨λo ho i hi=>?_,λo ho=>by simpa using jF.2 o ho⟩;have:=jF.1 o ho;rw[ak]at this;have:=this i (bh.2 hi);rw[bZ,List.any_eq_true]at this;rcases this with h|⟨k,hk,h⟩
  ·exact .inl h
  ·rw[ai]at h;exact .inr ⟨k,bh.1 hk,h.1,hanc k i h.2⟩
 have bare:∀(i:Nat) (o:Oper),d6[i]?=some o→o.guard=none:=λi o ho=>hd2 o (aM.2 ⟨i,by simpa using ho⟩);intro n;induction n with
 |zero=>
  intro dW a w ep hc _ h;have eB:dW=(List.replicate m true).toArray:=by
   have h1:∀b∈dW.toList,b=true:=λb hb=>by
    cases b with
    |true=>rfl
    |false=>have:=dm.2 hb;omega
   have h2:dW.toList=List.replicate m true:=by rw[←ep,←Array.length_toList];exact List.eq_replicate_of_mem h1
   rw[←Array.toArray_toList (xs:=dW),h2]
  obtain⟨_,h2⟩:=h;have:dW++(List.replicate t false).toArray=zgH m t:=by rw[eB];simp[zgH]
  rw[this,aG];exact h2
 |succ n ih=>
  intro dW a w ep hc fd h;have gl:∀(i:Nat) (d:Bool),i<m→(dW++(List.replicate t false).toArray).getD i d=dW.getD i d:=λi d hi=>by simp[Array.getElem?_append,ep,hi]
  -- some operation of the first part is open
  obtain⟨k,hk,nG⟩:∃k,k<m∧dW.getD k true=false:=by
   have:false∈dW.toList:=dm.1 (by omega);obtain⟨k,hk⟩:=aM.1 this;have d7:k<dW.size:=by have:=(List.getElem?_eq_some_iff.1 hk).1;simpa using this
   refine⟨k,by omega,?_⟩;have o4:dW[k]?=some false:=by simpa using hk
   simp[o4]
  have ready:∀i,i∈Region.ready .any d6 (dW++(List.replicate t false).toArray)→i<m∧i∈Region.ready .any pre dW:=λi hi=>by
   obtain⟨h1,o,ho,he⟩:=mem_ready.1 hi;by_cases l6:i<m
   ·rw[gl i true l6]at h1;refine⟨l6,mem_ready.2 ⟨h1,o,by rw[same i l6];exact ho,λe nt hb=>?_⟩⟩;have d7:=fw i o (by rw[same i l6];exact ho) e nt hb;have:=he e nt hb;rwa [gl e.on false (by omega)]at this
   ·have e7:o∈d6.toList.drop m:=aM.2 ⟨i-m,by rw[List.getElem?_drop,show m+(i-m)=i by omega];simpa using ho⟩;have hkf2:dW.getD k false=false:=by
     have d7:k<dW.size:=by omega
     simp[d7]at nG ⊢;exact nG
    rcases lw o e7 k hk with hh|⟨k',o4,hh,hA⟩
    ·obtain⟨e,nt,hb,lv⟩:=zjc hh;have:=he e nt hb;rw[lv,gl k false hk,hkf2]at this;cases this
    ·obtain⟨e,nt,hb,lv⟩:=zjc hh;have:=he e nt hb;rw[lv,gl k' false o4]at this;have:=Anc.closed (S:=λj=>dW.getD j false) fd hA this;rw[hkf2]at this;cases this
  have some_ready:Region.ready .any d6 (dW++(List.replicate t false).toArray)≠[]:=by
   intro hr;have all:∀i,i<m→dW.getD i false=true:=by
    intro i;induction i using Nat.strongRecOn with
    |_ i ihi=>
     intro hi;cases hS:dW.getD i false with
     |true=>rfl
     |false=>
      have hio:i<d6.size:=by omega
      have ho:d6[i]?=some d6[i]:=by simp[hio]
      have:i∈Region.ready .any d6 (dW++(List.replicate t false).toArray):=by
       rw[mem_ready];refine⟨?_,d6[i],ho,λe he hb=>?_⟩
       ·rw[gl i true hi];have d7:i<dW.size:=by omega
        simp[d7]at hS ⊢;exact hS
       ·have d7:=fw i d6[i] (by rw[same i hi];exact ho) e he hb;rw[gl e.on false (by omega)];exact ihi e.on d7 (by omega)
      rw[hr]at this;cases this
   have h1:=all k hk;have d7:k<dW.size:=by omega
   simp[d7]at nG h1;rw[h1]at nG;cases nG
  rw[show n+1+t=(n+t)+1 by omega];refine⟨λh0=>absurd h0 some_ready,λi hi=>?_⟩;obtain⟨l6,o5⟩:=ready i hi;have h1:=h.2 i o5;obtain⟨hf1,o,ho,_⟩:=mem_ready.1 o5;have fZ:d6[i]?=some o:=by rw[←same i l6];exact ho
  have hg:=bare i o fZ;rw[zrk ho hg]at h1;rw[zrk fZ hg];have eI:(dW++(List.replicate t false).toArray).setIfInBounds i true=dW.setIfInBounds i true++(List.replicate t false).toArray:=by rw[Array.setIfInBounds_append_left (by omega)]
  have hcount:(dW.setIfInBounds i true).toList.count false=n:=by
   have fe:i<dW.size:=by omega
   have hf:dW.toList[i]'(by simpa using fe)=false:=by simp[fe]at hf1;simpa using hf1
   rw[bT,List.count_set (by simpa using fe),hf];simp only[dI,aV,Bool.true_eq_false,a6,aH];omega
  rcases h1 with h1|⟨h1,h2⟩
  ·refine .inl (zGY (λa w hk=>?_) h1);rw[eI];refine ih _ a w (by simpa using ep) hcount (λj oj hj hS e he hb=>?_) hk;obtain⟨_,o2,ho2,he2⟩:=mem_ready.1 o5;have gs:∀x,dW.getD x false=true→(dW.setIfInBounds i true).getD x false=true:=λx hx=>by
    by_cases hxi:x=i
    ·subst hxi;have d7:x<dW.size:=by omega
     simp[d7]
    ·simp only[bS]at hx ⊢;rw[Array.getElem?_setIfInBounds_ne (λh=>hxi h.symm)];exact hx
   by_cases gD:j=i
   ·subst gD;rw[ho2]at hj;cases hj;exact gs _ (he2 e he hb)
   ·refine gs _ (fd j oj hj ?_ e he hb);simp only[bS]at hS ⊢;rw[Array.getElem?_setIfInBounds_ne (λh=>gD h.symm)]at hS;exact hS
  ·exact .inr ⟨h1,zwR h2⟩
end
end Go.Proofs.YtdmamdnkcefmmaaGreatDoor
