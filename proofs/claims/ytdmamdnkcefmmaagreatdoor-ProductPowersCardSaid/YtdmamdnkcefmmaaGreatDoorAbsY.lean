import Derived.Test.YtdmamdnkcefmmaaGreatDoorAbsJ
set_option linter.unusedSimpArgs false
set_option linter.unusedVariables false
set_option maxRecDepth 8000
namespace Go.Proofs.YtdmamdnkcefmmaaGreatDoor
section
open Go.RowKit

variable {wc:WM} {P:Program} {B:Nat} {w:World} {G:Gh} {H:zaa}

structure Ord (eh:Array Oper):Prop where
 edge:∀(i:Nat) o,eh[i]?=some o→∀e∈o.after,Region.binds .any e=true→e.on<i
 dst:∀(i j:Nat) oi oj d,eh[i]?=some oi→eh[j]?=some oj→i≠j→oj.dst=some d→oi.dst≠some d
 before:∀(i j:Nat) oi oj d,eh[i]?=some oi→eh[j]?=some oj→j<i→oj.dst=some d→d∈zeL eh oi→∃e∈oi.after,Region.binds .any e=true∧e.on=j
 behind:∀(i j:Nat) oi oj d,eh[i]?=some oi→eh[j]?=some oj→i<j→oj.dst=some d→d∈zeL eh oi→∃e∈oj.after,Region.binds .any e=true∧e.on=i

theorem zjQ{o:Oper}{j:Nat}(h:zef o j=true):∃e∈o.after,Region.binds .any e=true∧e.on=j:=by unfold zef at h;rw[Array.any_eq_true']at h;obtain⟨e,he,hb⟩:=h;simp only[aj,ba]at hb;exact⟨e,he,hb⟩

theorem zr8{eh:Array Oper}(h:zeM eh=true):Ord eh:=by
 unfold zeM at h;rw[am]at h;have mem:∀(i:Nat) o,eh[i]?=some o→(o,i)∈eh.toList.zipIdx:=λi o ho=>by rw[cq];simpa using ho
 have all:∀(i j:Nat) oi oj,eh[i]?=some oi→eh[j]?=some oj→zr7 eh i j oi oj=true:=λi j oi oj hi hj=>by have h1:=h _ (mem i oi hi);simp only[aj]at h1;exact am.1 h1.2 _ (mem j oj hj)
 have pair:∀(i j:Nat) oi oj d,eh[i]?=some oi→eh[j]?=some oj→i≠j→oj.dst=some d→oi.dst≠some d∧(d∈zeL eh oi→(if j<i then zef oi j else zef oj i)=true):=by intro i j oi oj d hi hj ey hd;have h1:=all i j oi oj hi hj;unfold zr7 at h1;simp only[hd,cx,ba,ey,false_or,aj,bne_iff_ne,cz,List.contains_eq_mem,bF]at h1;exact⟨h1.1,λhm=>h1.2.resolve_left (λh=>h hm)⟩
 refine⟨λi o ho e he hb=>?_,λi j oi oj d hi hj ey hd=>(pair i j oi oj d hi hj ey hd).1,λi j oi oj d hi hj ei hd hm=>?_,λi j oi oj d hi hj ei hd hm=>?_⟩
 ·have h1:=h _ (mem i o ho);simp only[aj]at h1;have h2:=Array.all_eq_true'.1 h1.1 e he;simpa[hb]using h2
 ·have:=(pair i j oi oj d hi hj (by omega) hd).2 hm;rw[az ei]at this;exact zjQ this
 ·have:=(pair i j oi oj d hi hj (by omega) hd).2 hm;rw[au (by omega)]at this;exact zjQ this

structure FlRel (eh:Array Oper) (F0 rs:List AV) (S:Nat→Bool) (F:List AV):Prop where
 len:F.length=F0.length
 done:∀(i:Nat) o s r,eh[i]?=some o→o.dst=some s→S i=true→rs[i]?=some r→s<F0.length→F[s]?=some r
 rest:∀s:Nat,(∀(i:Nat) o,eh[i]?=some o→o.dst=some s→S i=false)→F[s]?=F0[s]?

theorem FlRel.step{eh:Array Oper}{F0 rs F:List AV}{S:Nat→Bool}{i:Nat}{o:Oper}{r:AV}(hO:Ord eh)(h:FlRel eh F0 rs S F)(ho:eh[i]?=some o)(hr:rs[i]?=some r):
  FlRel eh F0 rs (λk=>if k=i then true else S k) (zbZ F o.dst r):=by
 refine⟨by cases hd:o.dst <;> simp[zbZ,h.len],λk ok s x hk hs hS hx ei=>?_,λs hs=>?_⟩
 ·by_cases fm:k=i
  ·subst fm;rw[ho]at hk;cases hk;rw[hr]at hx;cases hx;simp only[zbZ,hs];exact List.getElem?_set_self (by rw[h.len];exact ei)
  ·simp only[fm,aN]at hS;have h1:=h.done k ok s x hk hs hS hx ei;cases hd:o.dst with
   |none=>exact h1
   |some d=>have ey:d≠s:=λhe=>hO.dst i k o ok s ho hk (λh=>fm h.symm) hs (by rw[hd,he]);simp only[zbZ];rw[List.getElem?_set_ne ey];exact h1
 ·have hi:=hs i o ho;have py:o.dst≠some s:=λhd=>by have:=hi hd;simp at this
  have h1:=h.rest s (λk ok hk gh=>by
   have:=hs k ok hk gh;by_cases fm:k=i
   ·subst fm;simp at this
   ·simpa[fm]using this)
  cases hd:o.dst with
  |none=>exact h1
  |some d=>have ey:d≠s:=λhe=>py (by rw[hd,he]);simp only[zbZ];rw[List.getElem?_set_ne ey];exact h1

theorem FlRel.same{eh:Array Oper}{F0 rs F F':List AV}{S:Nat→Bool}(hr:rs.length=eh.size)(h:FlRel eh F0 rs S F)(h':FlRel eh F0 rs S F'):F=F':=by
 apply aL;intro s;by_cases hw:∃(i:Nat) (o:Oper),eh[i]?=some o∧o.dst=some s∧S i=true
 ·obtain⟨i,o,h1,h2,h3⟩:=hw;by_cases ei:s<F0.length
  ·have hi:i<rs.length:=by rw[hr];exact (Array.getElem?_eq_some_iff.1 h1).1
   rw[h.done i o s rs[i] h1 h2 h3 (by simp[hi]) ei,h'.done i o s rs[i] h1 h2 h3 (by simp[hi]) ei]
  ·rw[List.getElem?_eq_none (by rw[h.len];omega),List.getElem?_eq_none (by rw[h'.len];omega)]
 ·have hn:∀(i:Nat) o,eh[i]?=some o→o.dst=some s→S i=false:=λi o h1 h2=>by
   cases hS:S i with
   |false=>rfl
   |true=>exact absurd ⟨i,o,h1,h2,hS⟩ hw
  rw[h.rest s hn,h'.rest s hn]

theorem FlRel.congr{eh:Array Oper}{F0 rs F:List AV}{S S':Nat→Bool}(h:FlRel eh F0 rs S F)(hS:∀i,i<eh.size→S i=S' i):FlRel eh F0 rs S' F:=
 ⟨h.len,λi o s r ho hs ky=>h.done i o s r ho hs (by rw[hS i (Array.getElem?_eq_some_iff.1 ho).1];exact ky),
  λs hs=>h.rest s λi o ho hd=>by rw[hS i (Array.getElem?_eq_some_iff.1 ho).1];exact hs i o ho hd⟩

theorem zqD{fl:Bool}{eh:Array Oper}{F0 rs Fn:List AV}{Hn:zaa}{hs:List zaa}(hO:Ord eh)(ht:TrL fl wc P eh eh.toList F0 H rs hs Fn Hn):∀ i,i≤eh.size→FlRel eh F0 rs (λk=>decide (k<i)) (frk eh.toList rs F0 i)
 |0,_=>by
  have:frk eh.toList rs F0 0=F0:=by unfold frk;cases eh.toList <;> rfl
  rw[this];exact⟨rfl,λi o s r _ _ hS=>by simp at hS,λs _=>rfl⟩
 |i+1,hi=>by
  obtain⟨hl,_,_,e8⟩:=ht.at;have ho:eh.toList[i]?=some eh[i]:=by simp[show i<eh.size by omega]
  obtain⟨r,h1,_,h3,_,_⟩:=e8 i _ ho;rw[h3];refine(FlRel.step hO (zqD hO ht i (by omega)) (i:=i) (o:=eh[i]) (by simp[show i<eh.size by omega]) h1).congr λk _=>?_;by_cases hk:k=i
  ·subst hk;simp
  ·simp[hk];omega

theorem zJ7{eh:Array Oper}{F0 rs F F':List AV}{S:Nat→Bool}{i:Nat}{o:Oper}(hO:Ord eh)(hr:rs.length=eh.size)(h:FlRel eh F0 rs S F)(h':FlRel eh F0 rs (λk=>decide (k<i)) F')(ho:eh[i]?=some o)(hi:S i=false)(hready:∀e∈o.after,Region.binds .any e=true→S e.on=true)(hclosed:∀(j:Nat) oj,eh[j]?=some oj→S j=true→∀e∈oj.after,Region.binds .any e=true→S e.on=true):∀s∈zeL eh o,F.getD s .unk=F'.getD s .unk:=by
 intro s hs;have key:F[s]?=F'[s]?:=by
  by_cases hw:∃(j:Nat) (oj:Oper),eh[j]?=some oj∧oj.dst=some s∧j≠i
  ·obtain⟨j,oj,hj,hd,ey⟩:=hw;have uniq:∀(k:Nat) ok,eh[k]?=some ok→ok.dst=some s→k=j:=λk ok hk gh=>by
    by_cases hkj:k=j
    ·exact hkj
    ·exact absurd gh (hO.dst k j ok oj s hk hj hkj hd)
   by_cases ei:j<i
   ·obtain⟨e,he,hb,mu⟩:=hO.before i j o oj s ho hj ei hd hs;have kN:=hready e he hb;rw[mu]at kN;by_cases gN:s<F0.length
    ·have eI:j<rs.length:=by rw[hr];exact (Array.getElem?_eq_some_iff.1 hj).1
     rw[h.done j oj s rs[j] hj hd kN (by simp[eI]) gN,h'.done j oj s rs[j] hj hd (by simpa using ei) (by simp[eI]) gN]
    ·rw[List.getElem?_eq_none (by rw[h.len];omega),List.getElem?_eq_none (by rw[h'.len];omega)]
   ·obtain⟨e,he,hb,mu⟩:=hO.behind i j o oj s ho hj (by omega) hd hs;have kN:S j=false:=by
     cases kN:S j with
     |false=>rfl
     |true=>have:=hclosed j oj hj kN e he hb;rw[mu,hi]at this;cases this
    rw[h.rest s (λk ok hk gh=>by rw[uniq k ok hk gh];exact kN),h'.rest s (λk ok hk gh=>by rw[uniq k ok hk gh];simpa using ei)]
  ·have iy:∀(k:Nat) ok,eh[k]?=some ok→ok.dst=some s→k=i:=λk ok hk gh=>by
    by_cases fm:k=i
    ·exact fm
    ·exact absurd ⟨k,ok,hk,gh,fm⟩ hw
   rw[h.rest s (λk ok hk gh=>by rw[iy k ok hk gh];exact hi),h'.rest s (λk ok hk gh=>by rw[iy k ok hk gh];simp)]
 rw[List.getD_eq_getElem?_getD,List.getD_eq_getElem?_getD,key]

inductive Anc (eh:Array Oper):Nat→Nat→Prop
 |one {j i:Nat} {o:Oper} {e:Edge} (ho:eh[j]?=some o) (he:e∈o.after) (hb:Region.binds .any e=true) (hi:e.on=i):Anc eh j i
 |more {j k i:Nat} {o:Oper} {e:Edge} (ho:eh[j]?=some o) (he:e∈o.after) (hb:Region.binds .any e=true) (hk:e.on=k) (h:Anc eh k i):Anc eh j i

theorem Anc.closed{eh:Array Oper}{S:Nat→Bool}(hc:∀(j:Nat) oj,eh[j]?=some oj→S j=true→∀e∈oj.after,Region.binds .any e=true→S e.on=true){j i:Nat}(h:Anc eh j i):S j=true→S i=true:=by
 induction h with
 |one ho he hb hi=>intro hj;rw[←hi];exact hc _ _ ho hj _ he hb
 |more ho he hb hk h ih=>intro hj;exact ih (by rw[←hk];exact hc _ _ ho hj _ he hb)
theorem Anc.ready{eh:Array Oper}{S:Nat→Bool}(hc:∀(j:Nat) oj,eh[j]?=some oj→S j=true→∀e∈oj.after,Region.binds .any e=true→S e.on=true){j i:Nat}{o:Oper}(ho:eh[j]?=some o)(hr:∀e∈o.after,Region.binds .any e=true→S e.on=true)(h:Anc eh j i):S i=true:=by
 cases h with
 |one gv he hb hi=>rw[ho]at gv;cases gv;rw[←hi];exact hr _ he hb
 |more gv he hb hk h=>rw[ho]at gv;cases gv;exact h.closed hc (by rw[←hk];exact hr _ he hb)

theorem zxZ(ms:List Nat):∀ (es:List Edge) (m i:Nat),Nat.testBit (zhB ms es m) i=true→Nat.testBit m i=true∨∃ e∈es,Region.binds .any e=true∧(e.on=i∨Nat.testBit (ms.getD e.on 0) i=true)
 |[],m,i,h=>.inl h
 |e::es,m,i,h=>by
  unfold zhB at h;rcases zxZ ms es _ i h with h1|⟨e',oJ,hb,hc⟩
  ·cases hb:Region.binds .any e with
   |false=>rw[hb]at h1;exact .inl h1
   |true=>
    rw[hb]at h1;simp only[Nat.testBit_or,cx,Nat.one_shiftLeft,Nat.testBit_two_pow,aS]at h1;rcases h1 with (h1|h1)|h1
    ·exact .inl h1
    ·exact .inr ⟨e,by simp,hb,.inl h1⟩
    ·exact .inr ⟨e,by simp,hb,.inr h1⟩
  ·exact .inr ⟨e',by simp[oJ],hb,hc⟩
theorem zqb{eh:Array Oper}:∀ (l:List Oper) (ms:List Nat),eh.toList.drop ms.length=l→(∀ j i,Nat.testBit (ms.getD j 0) i=true→Anc eh j i) →
  (∀(j:Nat),(∃o,eh[j]?=some o)→∀e∈(eh[j]?.map (·.after)).getD #[],Region.binds .any e=true→e.on<j)→∀j i,Nat.testBit ((zgA l ms).getD j 0) i=true→Anc eh j i
 |[],ms,_,h,_,j,i=>h j i
 |o::l,ms,hd,h,he,j,i=>by
  have ho:eh[ms.length]?=some o:=by have:=congrArg (λx=>x[0]?) hd;simpa using this
  unfold zgA;refine zqb l (ms++[zhB ms o.after.toList 0]) ?_ ?_ he j i
  ·rw[aw,List.length_singleton,←c5,hd];rfl
  ·intro j i hb;by_cases hj:j<ms.length
   ·rw[List.getD_eq_getElem?_getD,List.getElem?_append_left hj,←List.getD_eq_getElem?_getD]at hb;exact h j i hb
   ·by_cases kM:j=ms.length
    ·subst kM;rw[List.getD_eq_getElem?_getD,List.getElem?_append_right (ac _)]at hb;simp only[c7,List.getElem?_cons_zero,Option.getD_some]at hb;rcases zxZ ms _ _ _ hb with h1 | ⟨e,hee,l7,hc⟩
     ·simp at h1
     ·have hee':e∈o.after:=by simpa using hee
      rcases hc with hc|hc
      ·exact .one ho hee' l7 hc
      ·exact .more ho hee' l7 rfl (h _ _ hc)
    ·rw[List.getD_eq_getElem?_getD,List.getElem?_eq_none (by simp;omega)]at hb;simp at hb
theorem zkY{eh:Array Oper}(hO:Ord eh)(h:zd1 wc eh=true){i j:Nat}{oi oj:Oper}(hi:eh[i]?=some oi)(hj:eh[j]?=some oj)(ei:j<i)(hw:opW wc oi.op=true∨opW wc oj.op=true)(fi:opF oi.op=false)(fj:opF oj.op=false)(hu:okU wc oj.op oi.op=false):Anc eh i j:=by
 unfold zd1 at h;have mem:∀(i:Nat) o,eh[i]?=some o→(o,i)∈eh.toList.zipIdx:=λi o ho=>by rw[cq];simpa using ho
 split at h
 ·rename_i hn;rw[List.any_eq_false]at hn;have hmi:oi∈eh.toList:=aQ.2 ⟨i,by simpa using hi⟩;have hmj:oj∈eh.toList:=aQ.2 ⟨j,by simpa using hj⟩;rcases hw with hw | hw
  ·exact absurd hw (hn _ hmi)
  ·exact absurd hw (hn _ hmj)
 ·have h1:=am.1 (am.1 h _ (mem i oi hi)) _ (mem j oj hj);have qf:(opW wc oi.op || opW wc oj.op)=true:=by rcases hw with hw | hw <;> simp[hw]
  simp only[qf,fi,fj,hu,ei,cZ,Bool.not_true,bt]at h1;refine zqb eh.toList [] rfl (λj i hb=>by simp at hb) ?_ i j h1;intro j ⟨o,ho⟩ e he hb;rw[ho]at he;exact hO.edge j o ho e (by simpa using he) hb

end
section
open Go.RowKit
variable {P:Program} {B:Nat} {w:World} {G:Gh} {H:zaa}
theorem zx0{α:Type}{p:α→Prop}:∀ {l:List α},zqc l p→∀ i∈l,p i
 |[],_,i,hi=>by cases hi
 |[j],h,i,hi=>by simp at hi;subst hi;exact h
 |j::k::l,h,i,hi=>by
  rcases aP.1 hi with rfl|hi
  ·exact h.1
  ·exact zx0 h.2 i hi
theorem zsX{eh:Array Oper}{Q:Exit→Act→World→Prop}{i:Nat}{o:Oper}{a:Act}{K:Act→World→Prop}(ho:eh[i]?=some o)(hg:o.guard=none):wpOp P eh Q i K a w=(o.wp P a w K Q∨(o.asks P a w∧LetsOut Q)):=by unfold wpOp;simp only[ho];rw[az (by simp[Region.wanted,hg])]
theorem zKi{eh:Array Oper}{K:List AV→zaa→Prop}{Q:Exit→Act→World→Prop}{w0:World}{G0:Gh}(hQ:∀ a w G F H,Ext B w0 G0 w G→HRel B w G H→FRel w G a.tmps F→a.defers=[]→K F H→Q .normal a w):
  ∀(n:Nat) (d9:Array Bool) (a:Act) (w:World) (G:Gh) (F:List AV) (H:zaa),Ext B w0 G0 w G→HRel B w G H→FRel w G a.tmps F→a.defers=[]→zg5 P eh K n d9 F H→wpAny P .any eh Q n d9 a w:=by
 intro n;induction n with
 |zero=>
  intro d9 a w G F H hE hH hF hd h;unfold zg5 at h;split at h
  ·rename_i hr;exact⟨hr,hQ a w G F H hE hH hF hd h⟩
  ·exact h.elim
 |succ n ih=>
  intro d9 a w G F H hE hH hF hd h;unfold zg5 at h;split at h
  ·rename_i hr;exact⟨λ_=>hQ a w G F H hE hH hF hd h,λi hi=>by rw[hr]at hi;cases hi⟩
  ·rename_i i is hr;refine⟨λh0=>(by rw[hr]at h0;cases h0),λj hj=>?_⟩;rw[hr]at hj;have h1:=zx0 h j hj;split at h1
   ·rename_i o ho;split at h1
    ·rename_i hg;rw[zsX ho hg];refine .inl (ziA hF (zfT hH hF h1) λv av w' G' H' k1 k2 k3 k4=>?_);have jw:(a.put o.dst v).defers=[]:=by cases ip:o.dst <;> simpa[Act.put]using hd
     exact ih _ _ w' G' _ H' (hE.trans k1) k2 ((hF.ext k1).put k3) jw k4
    ·exact h1.elim
   ·exact h1.elim
def zln(T:Act→World→Prop)(Q:Exit→Act→World→Prop):Exit→Act→World→Prop
 |.normal,a,w=>T a w
 |e,a,w=>Q e a w
theorem zy9{T:Act→World→Prop}{Q:Exit→Act→World→Prop}(h:LetsOut (zln T Q)):LetsOut Q:=h
theorem zJC{o:Oper}{a:Act}{T:Act→World→Prop}{Q:Exit→Act→World→Prop}{K K':Act→World→Prop}(hk:∀a w,K a w→K' a w)(h:o.wp P a w K (zln T Q)):o.wp P a w K' Q:=by
 have h:=Oper.wp_mono hk h;unfold Oper.wp at *;generalize (execOp a.eval o).run P w=r at *;cases r with
 |ok n w'=>
  cases n <;> simp only[Oper.upon]at h ⊢ <;>
   first
    |exact h
    |exact Calls.mono h (λe w'' he=>by cases e <;> first|exact he|exact zy9 he)
 |halt x w'=>cases x <;> simp only[Oper.upon]at h ⊢ <;> exact h
theorem zL4{eh pre:Array Oper}{m t:Nat}{Q:Exit→Act→World→Prop}(hm:m+t=eh.size)(fw:pre=zd2 eh m)(kz:zsF eh m=true)(fQ:∀ (i:Nat) o,pre[i]?=some o→∀ e∈o.after,Region.binds .any e=true→e.on<i):
  ∀ (n:Nat) (d9:Array Bool) (a:Act) (w:World),d9.size=m→d9.toList.count false=n →
   (∀(j:Nat) oj,pre[j]?=some oj→d9.getD j false=true→∀e∈oj.after,Region.binds .any e=true→d9.getD e.on false=true) →
   wpAny P .any pre (zln (wpAny P .any eh Q t (zhc m t)) Q) n d9 a w →
   wpAny P .any eh Q (n+t) (d9++(List.replicate t false).toArray) a w:=by
 have gJ:pre.size=m:=by rw[fw];simp[zd2];omega
 have same:∀i,i<m→pre[i]?=eh[i]?:=λi hi=>by rw[fw];simp[zd2,hi]
 have hanc:∀j i,Nat.testBit ((zgA (eh.toList.take m) []).getD j 0) i=true→Anc pre j i:=by
  intro j i hb;have e1:eh.toList.take m=pre.toList:=by rw[fw];simp[zd2]
  rw[e1]at hb;refine zqb pre.toList [] rfl (λj i hb=>by simp at hb) ?_ j i hb;intro j ⟨o,ho⟩ e he hb;rw[ho]at he;exact fQ j o ho e (by simpa using he) hb
 obtain⟨mv,hd2⟩:(∀o∈eh.toList.drop m,∀i,i<m→zef o i=true∨∃k,k<m∧zef o k=true∧Anc pre k i)∧∀o∈eh.toList,o.guard=none:=by
  unfold zsF at kz;rw[aj,am,am]at kz;refine⟨λo ho i hi=>?_,λo ho=>by simpa using kz.2 o ho⟩;have:=kz.1 o ho;rw[am]at this;have:=this i (bz.2 hi);rw[cx,List.any_eq_true]at this;rcases this with h|⟨k,hk,h⟩
  ·exact .inl h
  ·rw[aj]at h;exact .inr ⟨k,bz.1 hk,h.1,hanc k i h.2⟩
 have bare:∀(i:Nat) (o:Oper),eh[i]?=some o→o.guard=none:=λi o ho=>hd2 o (aQ.2 ⟨i,by simpa using ho⟩);intro n;induction n with
 |zero=>
  intro d9 a w eB hc _ h;have eO:d9=(List.replicate m true).toArray:=by
   have h1:∀b∈d9.toList,b=true:=λb hb=>by
    cases b with
    |true=>rfl
    |false=>have:=dw.2 hb;omega
   have h2:d9.toList=List.replicate m true:=by rw[←eB,←Array.length_toList];exact List.eq_replicate_of_mem h1
   rw[←Array.toArray_toList (xs:=d9),h2]
  obtain⟨_,h2⟩:=h;have:d9++(List.replicate t false).toArray=zhc m t:=by rw[eO];simp[zhc]
  rw[this,aC];exact h2
 |succ n ih=>
  intro d9 a w eB hc fV h;have gl:∀(i:Nat) (d:Bool),i<m→(d9++(List.replicate t false).toArray).getD i d=d9.getD i d:=λi d hi=>by simp[Array.getElem?_append,eB,hi]
  -- some operation of the first part is open
  obtain⟨k,hk,oN⟩:∃k,k<m∧d9.getD k true=false:=by
   have:false∈d9.toList:=dw.1 (by omega);obtain⟨k,hk⟩:=aQ.1 this;have ei:k<d9.size:=by have:=(List.getElem?_eq_some_iff.1 hk).1;simpa using this
   refine⟨k,by omega,?_⟩;have qg:d9[k]?=some false:=by simpa using hk
   simp[qg]
  have ready:∀i,i∈Region.ready .any eh (d9++(List.replicate t false).toArray)→i<m∧i∈Region.ready .any pre d9:=λi hi=>by
   obtain⟨h1,o,ho,he⟩:=mem_ready.1 hi;by_cases mY:i<m
   ·rw[gl i true mY]at h1;refine⟨mY,mem_ready.2 ⟨h1,o,by rw[same i mY];exact ho,λe oA hb=>?_⟩⟩;have ei:=fQ i o (by rw[same i mY];exact ho) e oA hb;have:=he e oA hb;rwa [gl e.on false (by omega)]at this
   ·have fa:o∈eh.toList.drop m:=aQ.2 ⟨i-m,by rw[List.getElem?_drop,show m+(i-m)=i by omega];simpa using ho⟩;have hkf2:d9.getD k false=false:=by
     have ei:k<d9.size:=by omega
     simp[ei]at oN ⊢;exact oN
    rcases mv o fa k hk with hh|⟨k',qg,hh,hA⟩
    ·obtain⟨e,oA,hb,mu⟩:=zjQ hh;have:=he e oA hb;rw[mu,gl k false hk,hkf2]at this;cases this
    ·obtain⟨e,oA,hb,mu⟩:=zjQ hh;have:=he e oA hb;rw[mu,gl k' false qg]at this;have:=Anc.closed (S:=λj=>d9.getD j false) fV hA this;rw[hkf2]at this;cases this
  have some_ready:Region.ready .any eh (d9++(List.replicate t false).toArray)≠[]:=by
   intro hr;have all:∀i,i<m→d9.getD i false=true:=by
    intro i;induction i using Nat.strongRecOn with
    |_ i ihi=>
     intro hi;cases hS:d9.getD i false with
     |true=>rfl
     |false=>
      have hio:i<eh.size:=by omega
      have ho:eh[i]?=some eh[i]:=by simp[hio]
      have:i∈Region.ready .any eh (d9++(List.replicate t false).toArray):=by
       rw[mem_ready];refine⟨?_,eh[i],ho,λe he hb=>?_⟩
       ·rw[gl i true hi];have ei:i<d9.size:=by omega
        simp[ei]at hS ⊢;exact hS
       ·have ei:=fQ i eh[i] (by rw[same i hi];exact ho) e he hb;rw[gl e.on false (by omega)];exact ihi e.on ei (by omega)
      rw[hr]at this;cases this
   have h1:=all k hk;have ei:k<d9.size:=by omega
   simp[ei]at oN h1;rw[h1]at oN;cases oN
  rw[show n+1+t=(n+t)+1 by omega];refine⟨λh0=>absurd h0 some_ready,λi hi=>?_⟩;obtain⟨mY,qh⟩:=ready i hi;have h1:=h.2 i qh;obtain⟨hf1,o,ho,_⟩:=mem_ready.1 qh;have gv:eh[i]?=some o:=by rw[←same i mY];exact ho
  have hg:=bare i o gv;rw[zsX ho hg]at h1;rw[zsX gv hg];have eQ:(d9++(List.replicate t false).toArray).setIfInBounds i true=d9.setIfInBounds i true++(List.replicate t false).toArray:=by rw[Array.setIfInBounds_append_left (by omega)]
  have hcount:(d9.setIfInBounds i true).toList.count false=n:=by
   have fg:i<d9.size:=by omega
   have hf:d9.toList[i]'(by simpa using fg)=false:=by simp[fg]at hf1;simpa using hf1
   rw[bV,List.count_set (by simpa using fg),hf];simp only[dK,a6,Bool.true_eq_false,ba,aN];omega
  rcases h1 with h1|⟨h1,h2⟩
  ·refine .inl (zJC (λa w hk=>?_) h1);rw[eQ];refine ih _ a w (by simpa using eB) hcount (λj oj hj hS e he hb=>?_) hk;obtain⟨_,o2,ho2,he2⟩:=mem_ready.1 qh;have gs:∀x,d9.getD x false=true→(d9.setIfInBounds i true).getD x false=true:=λx hx=>by
    by_cases hxi:x=i
    ·subst hxi;have ei:x<d9.size:=by omega
     simp[ei]
    ·simp only[bS]at hx ⊢;rw[Array.getElem?_setIfInBounds_ne (λh=>hxi h.symm)];exact hx
   by_cases g8:j=i
   ·subst g8;rw[ho2]at hj;cases hj;exact gs _ (he2 e he hb)
   ·refine gs _ (fV j oj hj ?_ e he hb);simp only[bS]at hS ⊢;rw[Array.getElem?_setIfInBounds_ne (λh=>g8 h.symm)]at hS;exact hS
  ·exact .inr ⟨h1,zy9 h2⟩
end
end Go.Proofs.YtdmamdnkcefmmaaGreatDoor
