import Derived.Test.YtdmamdnkcefmmaaGreatDoorAbsJ
import Derived.Scope
set_option linter.unusedSimpArgs false
set_option linter.unusedVariables false
set_option linter.unusedSectionVars false
set_option maxRecDepth 8000
namespace Go.Proofs.YtdmamdnkcefmmaaGreatDoor
section
open Go.RowKit

variable {wc:WM} {P:Program} {B:Nat} {w:World} {G:Gh} {H:or}

structure Ord (fx:Array Oper):Prop where
 edge:∀(i:Nat) o,fx[i]?=some o→∀e∈o.after,Region.binds .any e=true→e.on<i
 dst:∀(i j:Nat) oi oj d,fx[i]?=some oi→fx[j]?=some oj→i≠j→oj.dst=some d→oi.dst≠some d
 before:∀(i j:Nat) oi oj d,fx[i]?=some oi→fx[j]?=some oj→j<i→oj.dst=some d→d∈x4 fx oi→∃e∈oi.after,Region.binds .any e=true∧e.on=j
 behind:∀(i j:Nat) oi oj d,fx[i]?=some oi→fx[j]?=some oj→i<j→oj.dst=some d→d∈x4 fx oi→∃e∈oj.after,Region.binds .any e=true∧e.on=i

theorem Gp{o:Oper}{j:Nat}(h:za o j=true):∃e∈o.after,Region.binds .any e=true∧e.on=j:=by unfold za at h;rw[Array.any_eq_true']at h;obtain⟨e,he,hb⟩:=h;simp only[ap,bt]at hb;exact⟨e,he,hb⟩

theorem NV{fx:Array Oper}(h:zb fx=true):Ord fx:=by
 unfold zb at h;rw[aA]at h;have mem:∀(i:Nat) o,fx[i]?=some o→(o,i)∈fx.toList.zipIdx:=λi o ho=>by rw[cH];simpa using ho
 have all:∀(i j:Nat) oi oj,fx[i]?=some oi→fx[j]?=some oj→NH fx i j oi oj=true:=λi j oi oj hi hj=>by have h1:=h _ (mem i oi hi);simp only[ap]at h1;exact aA.1 h1.2 _ (mem j oj hj)
 have pair:∀(i j:Nat) oi oj d,fx[i]?=some oi→fx[j]?=some oj→i≠j→oj.dst=some d→oi.dst≠some d∧(d∈x4 fx oi→(if j<i then za oi j else za oj i)=true):=by intro i j oi oj d hi hj fI hd;have h1:=all i j oi oj hi hj;unfold NH at h1;simp only[hd,cZ,bt,fI,false_or,ap,bne_iff_ne,dq,List.contains_eq_mem,bZ]at h1;exact⟨h1.1,λhm=>h1.2.resolve_left (λh=>h hm)⟩
 refine⟨λi o ho e he hb=>?_,λi j oi oj d hi hj fI hd=>(pair i j oi oj d hi hj fI hd).1,λi j oi oj d hi hj fy hd hm=>?_,λi j oi oj d hi hj fy hd hm=>?_⟩
 ·have h1:=h _ (mem i o ho);simp only[ap]at h1;have h2:=Array.all_eq_true'.1 h1.1 e he;simpa[hb]using h2
 ·have:=(pair i j oi oj d hi hj (by omega) hd).2 hm;rw[aN fy]at this;exact Gp this
 ·have:=(pair i j oi oj d hi hj (by omega) hd).2 hm;rw[aG (by omega)]at this;exact Gp this

structure FlRel (fx:Array Oper) (F0 rs:List AV) (S:Nat→Bool) (F:List AV):Prop where
 len:F.length=F0.length
 done:∀(i:Nat) o s r,fx[i]?=some o→o.dst=some s→S i=true→rs[i]?=some r→s<F0.length→F[s]?=some r
 rest:∀s:Nat,(∀(i:Nat) o,fx[i]?=some o→o.dst=some s→S i=false)→F[s]?=F0[s]?

theorem FlRel.step{fx:Array Oper}{F0 rs F:List AV}{S:Nat→Bool}{i:Nat}{o:Oper}{r:AV}(hO:Ord fx)(h:FlRel fx F0 rs S F)(ho:fx[i]?=some o)(hr:rs[i]?=some r):
  FlRel fx F0 rs (λk=>if k=i then true else S k) (wm F o.dst r):=by
 refine⟨by cases hd:o.dst <;> simp[wm,h.len],λk ok s x hk hs hS hx fy=>?_,λs hs=>?_⟩
 ·by_cases gB:k=i
  ·subst gB;rw[ho]at hk;cases hk;rw[hr]at hx;cases hx;simp only[wm,hs];exact ak (by rw[h.len];exact fy)
  ·simp only[gB,ba]at hS;have h1:=h.done k ok s x hk hs hS hx fy;cases hd:o.dst with
   |none=>exact h1
   |some d=>have fI:d≠s:=λhe=>hO.dst i k o ok s ho hk (λh=>gB h.symm) hs (by rw[hd,he]);simp only[wm];rw[aj fI];exact h1
 ·have hi:=hs i o ho;have rN:o.dst≠some s:=λhd=>by have:=hi hd;simp at this
  have h1:=h.rest s (λk ok hk iK=>by
   have:=hs k ok hk iK;by_cases gB:k=i
   ·subst gB;simp at this
   ·simpa[gB]using this)
  cases hd:o.dst with
  |none=>exact h1
  |some d=>have fI:d≠s:=λhe=>rN (by rw[hd,he]);simp only[wm];rw[aj fI];exact h1

theorem FlRel.same{fx:Array Oper}{F0 rs F F':List AV}{S:Nat→Bool}(hr:rs.length=fx.size)(h:FlRel fx F0 rs S F)(h':FlRel fx F0 rs S F'):F=F':=by
 apply aU;intro s;by_cases hw:∃(i:Nat) (o:Oper),fx[i]?=some o∧o.dst=some s∧S i=true
 ·obtain⟨i,o,h1,h2,h3⟩:=hw;by_cases fy:s<F0.length
  ·have hi:i<rs.length:=by rw[hr];exact (aQ.1 h1).1
   rw[h.done i o s rs[i] h1 h2 h3 (by simp[hi]) fy,h'.done i o s rs[i] h1 h2 h3 (by simp[hi]) fy]
  ·rw[aW (by rw[h.len];omega),aW (by rw[h'.len];omega)]
 ·have hn:∀(i:Nat) o,fx[i]?=some o→o.dst=some s→S i=false:=λi o h1 h2=>by
   cases hS:S i with
   |false=>rfl
   |true=>exact absurd ⟨i,o,h1,h2,hS⟩ hw
  rw[h.rest s hn,h'.rest s hn]

theorem FlRel.congr{fx:Array Oper}{F0 rs F:List AV}{S S':Nat→Bool}(h:FlRel fx F0 rs S F)(hS:∀i,i<fx.size→S i=S' i):FlRel fx F0 rs S' F:=
 ⟨h.len,λi o s r ho hs ju=>h.done i o s r ho hs (by rw[hS i (aQ.1 ho).1];exact ju),
  λs hs=>h.rest s λi o ho hd=>by rw[hS i (aQ.1 ho).1];exact hs i o ho hd⟩

theorem NW{fl:Bool}{fx:Array Oper}{F0 rs Fn:List AV}{Hn:or}{hs:List or}(hO:Ord fx)(ht:TrL fl wc P fx fx.toList F0 H rs hs Fn Hn):∀ i,i≤fx.size→FlRel fx F0 rs (λk=>decide (k<i)) (frk fx.toList rs F0 i)
 |0,_=>by
  have:frk fx.toList rs F0 0=F0:=by unfold frk;cases fx.toList <;> rfl
  rw[this];exact⟨rfl,λi o s r _ _ hS=>by simp at hS,λs _=>rfl⟩
 |i+1,hi=>by
  obtain⟨hl,_,_,ga⟩:=ht.at;have ho:fx.toList[i]?=some fx[i]:=by simp[show i<fx.size by omega]
  obtain⟨r,h1,_,h3,_,_⟩:=ga i _ ho;rw[h3];refine(FlRel.step hO (NW hO ht i (by omega)) (i:=i) (o:=fx[i]) (by simp[show i<fx.size by omega]) h1).congr λk _=>?_;by_cases hk:k=i
  ·subst hk;simp
  ·simp[hk];omega

theorem zNH{fx:Array Oper}{F0 rs F F':List AV}{S:Nat→Bool}{i:Nat}{o:Oper}(hO:Ord fx)(hr:rs.length=fx.size)(h:FlRel fx F0 rs S F)(h':FlRel fx F0 rs (λk=>decide (k<i)) F')(ho:fx[i]?=some o)(hi:S i=false)(hready:∀e∈o.after,Region.binds .any e=true→S e.on=true)(hclosed:∀(j:Nat) oj,fx[j]?=some oj→S j=true→∀e∈oj.after,Region.binds .any e=true→S e.on=true):∀s∈x4 fx o,F.getD s .unk=F'.getD s .unk:=by
 intro s hs;have key:F[s]?=F'[s]?:=by
  by_cases hw:∃(j:Nat) (oj:Oper),fx[j]?=some oj∧oj.dst=some s∧j≠i
  ·obtain⟨j,oj,hj,hd,fI⟩:=hw;have uniq:∀(k:Nat) ok,fx[k]?=some ok→ok.dst=some s→k=j:=λk ok hk iK=>by
    by_cases hkj:k=j
    ·exact hkj
    ·exact absurd iK (hO.dst k j ok oj s hk hj hkj hd)
   by_cases fy:j<i
   ·obtain⟨e,he,hb,n9⟩:=hO.before i j o oj s ho hj fy hd hs;have mz:=hready e he hb;rw[n9]at mz;by_cases jG:s<F0.length
    ·have fU:j<rs.length:=by rw[hr];exact (aQ.1 hj).1
     rw[h.done j oj s rs[j] hj hd mz (by simp[fU]) jG,h'.done j oj s rs[j] hj hd (by simpa using fy) (by simp[fU]) jG]
    ·rw[aW (by rw[h.len];omega),aW (by rw[h'.len];omega)]
   ·obtain⟨e,he,hb,n9⟩:=hO.behind i j o oj s ho hj (by omega) hd hs;have mz:S j=false:=by
     cases mz:S j with
     |false=>rfl
     |true=>have:=hclosed j oj hj mz e he hb;rw[n9,hi]at this;cases this
    rw[h.rest s (λk ok hk iK=>by rw[uniq k ok hk iK];exact mz),h'.rest s (λk ok hk iK=>by rw[uniq k ok hk iK];simpa using fy)]
  ·have iH:∀(k:Nat) ok,fx[k]?=some ok→ok.dst=some s→k=i:=λk ok hk iK=>by
    by_cases gB:k=i
    ·exact gB
    ·exact absurd ⟨k,ok,hk,iK,gB⟩ hw
   rw[h.rest s (λk ok hk iK=>by rw[iH k ok hk iK];exact hi),h'.rest s (λk ok hk iK=>by rw[iH k ok hk iK];simp)]
 rw[aq,aq,key]

inductive Anc (fx:Array Oper):Nat→Nat→Prop
 |one {j i:Nat} {o:Oper} {e:Edge} (ho:fx[j]?=some o) (he:e∈o.after) (hb:Region.binds .any e=true) (hi:e.on=i):Anc fx j i
 |more {j k i:Nat} {o:Oper} {e:Edge} (ho:fx[j]?=some o) (he:e∈o.after) (hb:Region.binds .any e=true) (hk:e.on=k) (h:Anc fx k i):Anc fx j i

theorem Anc.closed{fx:Array Oper}{S:Nat→Bool}(hc:∀(j:Nat) oj,fx[j]?=some oj→S j=true→∀e∈oj.after,Region.binds .any e=true→S e.on=true){j i:Nat}(h:Anc fx j i):S j=true→S i=true:=by
 induction h with
 |one ho he hb hi=>intro hj;rw[←hi];exact hc _ _ ho hj _ he hb
 |more ho he hb hk h ih=>intro hj;exact ih (by rw[←hk];exact hc _ _ ho hj _ he hb)
theorem Anc.ready{fx:Array Oper}{S:Nat→Bool}(hc:∀(j:Nat) oj,fx[j]?=some oj→S j=true→∀e∈oj.after,Region.binds .any e=true→S e.on=true){j i:Nat}{o:Oper}(ho:fx[j]?=some o)(hr:∀e∈o.after,Region.binds .any e=true→S e.on=true)(h:Anc fx j i):S i=true:=by
 cases h with
 |one iS he hb hi=>rw[ho]at iS;cases iS;rw[←hi];exact hr _ he hb
 |more iS he hb hk h=>rw[ho]at iS;cases iS;exact h.closed hc (by rw[←hk];exact hr _ he hb)

theorem Vi(ms:List Nat):∀ (es:List Edge) (m i:Nat),Nat.testBit (DX ms es m) i=true→Nat.testBit m i=true∨∃ e∈es,Region.binds .any e=true∧(e.on=i∨Nat.testBit (ms.getD e.on 0) i=true)
 |[],m,i,h=>.inl h
 |e::es,m,i,h=>by
  unfold DX at h;rcases Vi ms es _ i h with h1|⟨e',qI,hb,hc⟩
  ·cases hb:Region.binds .any e with
   |false=>rw[hb]at h1;exact .inl h1
   |true=>
    rw[hb]at h1;simp only[Nat.testBit_or,cZ,Nat.one_shiftLeft,Nat.testBit_two_pow,bc]at h1;rcases h1 with (h1|h1)|h1
    ·exact .inl h1
    ·exact .inr ⟨e,by simp,hb,.inl h1⟩
    ·exact .inr ⟨e,by simp,hb,.inr h1⟩
  ·exact .inr ⟨e',by simp[qI],hb,hc⟩
theorem NY{fx:Array Oper}:∀ (l:List Oper) (ms:List Nat),fx.toList.drop ms.length=l→(∀ j i,Nat.testBit (ms.getD j 0) i=true→Anc fx j i) →
  (∀(j:Nat),(∃o,fx[j]?=some o)→∀e∈(fx[j]?.map (·.after)).getD #[],Region.binds .any e=true→e.on<j)→∀j i,Nat.testBit ((Cp l ms).getD j 0) i=true→Anc fx j i
 |[],ms,_,h,_,j,i=>h j i
 |o::l,ms,hd,h,he,j,i=>by
  have ho:fx[ms.length]?=some o:=by have:=congrArg (λx=>x[0]?) hd;simpa using this
  unfold Cp;refine NY l (ms++[DX ms o.after.toList 0]) ?_ ?_ he j i
  ·rw[aH,List.length_singleton,←ck,hd];rfl
  ·intro j i hb;by_cases hj:j<ms.length
   ·rw[aq,ah hj,←aq]at hb;exact h j i hb
   ·by_cases lP:j=ms.length
    ·subst lP;rw[aq,aM (af _)]at hb;simp only[dG,List.getElem?_cons_zero,Option.getD_some]at hb;rcases Vi ms _ _ _ hb with h1 | ⟨e,hee,nL,hc⟩
     ·simp at h1
     ·have hee':e∈o.after:=by simpa using hee
      rcases hc with hc|hc
      ·exact .one ho hee' nL hc
      ·exact .more ho hee' nL rfl (h _ _ hc)
    ·rw[aq,aW (by simp;omega)]at hb;simp at hb
theorem Gq{fx:Array Oper}(hO:Ord fx)(h:vN wc fx=true){i j:Nat}{oi oj:Oper}(hi:fx[i]?=some oi)(hj:fx[j]?=some oj)(fy:j<i)(hw:opW wc oi.op=true∨opW wc oj.op=true)(fi:opF oi.op=false)(fj:opF oj.op=false)(hu:okU wc oj.op oi.op=false):Anc fx i j:=by
 unfold vN at h;have mem:∀(i:Nat) o,fx[i]?=some o→(o,i)∈fx.toList.zipIdx:=λi o ho=>by rw[cH];simpa using ho
 split at h
 ·rename_i hn;rw[List.any_eq_false]at hn;have hmi:oi∈fx.toList:=a8.2 ⟨i,by simpa using hi⟩;have hmj:oj∈fx.toList:=a8.2 ⟨j,by simpa using hj⟩;rcases hw with hw | hw
  ·exact absurd hw (hn _ hmi)
  ·exact absurd hw (hn _ hmj)
 ·have h1:=aA.1 (aA.1 h _ (mem i oi hi)) _ (mem j oj hj);have pn:(opW wc oi.op || opW wc oj.op)=true:=by rcases hw with hw | hw <;> simp[hw]
  simp only[pn,fi,fj,hu,fy,dT,fd,bJ]at h1;refine NY fx.toList [] rfl (λj i hb=>by simp at hb) ?_ i j h1;intro j ⟨o,ho⟩ e he hb;rw[ho]at he;exact hO.edge j o ho e (by simpa using he) hb

end
section
open Go.RowKit
variable {P:Program} {B:Nat} {w:World} {G:Gh} {H:or}
theorem Vj{α:Type}{p:α→Prop}:∀ {l:List α},NG l p→∀ i∈l,p i
 |[],_,i,hi=>by cases hi
 |[j],h,i,hi=>by simp at hi;subst hi;exact h
 |j::k::l,h,i,hi=>by
  rcases aT.1 hi with rfl|hi
  ·exact h.1
  ·exact Vj h.2 i hi
theorem NZ{fx:Array Oper}{Q:Exit→Act→World→Prop}{i:Nat}{o:Oper}{a:Act}{K:Act→World→Prop}(ho:fx[i]?=some o)(hg:o.guard=none):wpOp P fx Q i K a w=(o.wp P a w K Q∨(o.asks P a w∧LetsOut Q)):=by unfold wpOp;simp only[ho];rw[aN (by simp[Region.wanted,hg])]
theorem zNV{fx:Array Oper}{K:List AV→or→Prop}{Q:Exit→Act→World→Prop}{w0:World}{G0:Gh}(hQ:∀ a w G F H,Ext B w0 G0 w G→tU B w G H→FRel w G a.tmps F→a.defers=[]→K F H→Q .normal a w):
  ∀(n:Nat) (fp:Array Bool) (a:Act) (w:World) (G:Gh) (F:List AV) (H:or),Ext B w0 G0 w G→tU B w G H→FRel w G a.tmps F→a.defers=[]→Co P fx K n fp F H→wpAny P .any fx Q n fp a w:=by
 intro n;induction n with
 |zero=>
  intro fp a w G F H hE hH hF hd h;unfold Co at h;split at h
  ·rename_i hr;exact⟨hr,hQ a w G F H hE hH hF hd h⟩
  ·exact h.elim
 |succ n ih=>
  intro fp a w G F H hE hH hF hd h;unfold Co at h;split at h
  ·rename_i hr;exact⟨λ_=>hQ a w G F H hE hH hF hd h,λi hi=>by rw[hr]at hi;cases hi⟩
  ·rename_i i is hr;refine⟨λh0=>(by rw[hr]at h0;cases h0),λj hj=>?_⟩;rw[hr]at hj;have h1:=Vj h j hj;split at h1
   ·rename_i o ho;split at h1
    ·rename_i hg;rw[NZ ho hg];refine .inl (D5 hF (Aq hH hF h1) λv av w' G' H' k1 k2 k3 k4=>?_);have jI:(a.put o.dst v).defers=[]:=by cases jH:o.dst <;> simpa[Act.put]using hd
     exact ih _ _ w' G' _ H' (hE.trans k1) k2 ((hF.ext k1).put k3) jI k4
    ·exact h1.elim
   ·exact h1.elim
def Gr(T:Act→World→Prop)(Q:Exit→Act→World→Prop):Exit→Act→World→Prop
 |.normal,a,w=>T a w
 |e,a,w=>Q e a w
theorem Vk{T:Act→World→Prop}{Q:Exit→Act→World→Prop}(h:LetsOut (Gr T Q)):LetsOut Q:=h
theorem zM0{o:Oper}{a:Act}{T:Act→World→Prop}{Q:Exit→Act→World→Prop}{K K':Act→World→Prop}(hk:∀a w,K a w→K' a w)(h:o.wp P a w K (Gr T Q)):o.wp P a w K' Q:=by
 have h:=Oper.wp_mono hk h;unfold Oper.wp at *;generalize (execOp a.eval o).run P w=r at *;cases r with
 |ok n w'=>
  cases n <;> simp only[Oper.upon]at h ⊢ <;>
   first
    |exact h
    |exact Calls.mono h (λe w'' he=>by cases e <;> first|exact he|exact Vk he)
 |halt x w'=>cases x <;> simp only[Oper.upon]at h ⊢ <;> exact h
theorem zP0{fx pre:Array Oper}{m t:Nat}{Q:Exit→Act→World→Prop}(hm:m+t=fx.size)(je:pre=yT fx m)(mf:NI fx m=true)(g7:∀ (i:Nat) o,pre[i]?=some o→∀ e∈o.after,Region.binds .any e=true→e.on<i):
  ∀ (n:Nat) (fp:Array Bool) (a:Act) (w:World),fp.size=m→fp.toList.count false=n →
   (∀(j:Nat) oj,pre[j]?=some oj→fp.getD j false=true→∀e∈oj.after,Region.binds .any e=true→fp.getD e.on false=true) →
   wpAny P .any pre (Gr (wpAny P .any fx Q t (Cq m t)) Q) n fp a w →
   wpAny P .any fx Q (n+t) (fp++(List.replicate t false).toArray) a w:=by
 have ke:pre.size=m:=by rw[je];simp[yT];omega
 have same:∀i,i<m→pre[i]?=fx[i]?:=λi hi=>by rw[je];simp[yT,hi]
 have hanc:∀j i,Nat.testBit ((Cp (fx.toList.take m) []).getD j 0) i=true→Anc pre j i:=by
  intro j i hb;have e1:fx.toList.take m=pre.toList:=by rw[je];simp[yT]
  rw[e1]at hb;refine NY pre.toList [] rfl (λj i hb=>by simp at hb) ?_ j i hb;intro j ⟨o,ho⟩ e he hb;rw[ho]at he;exact g7 j o ho e (by simpa using he) hb
 obtain⟨kS,sF⟩:(∀o∈fx.toList.drop m,∀i,i<m→za o i=true∨∃k,k<m∧za o k=true∧Anc pre k i)∧∀o∈fx.toList,o.guard=none:=by
  unfold NI at mf;rw[ap,aA,aA]at mf;refine⟨λo ho i hi=>?_,λo ho=>by simpa using mf.2 o ho⟩;have:=mf.1 o ho;rw[aA]at this;have:=this i (bP.2 hi);rw[cZ,d9]at this;rcases this with h|⟨k,hk,h⟩
  ·exact .inl h
  ·rw[ap]at h;exact .inr ⟨k,bP.1 hk,h.1,hanc k i h.2⟩
 have bare:∀(i:Nat) (o:Oper),fx[i]?=some o→o.guard=none:=λi o ho=>sF o (a8.2 ⟨i,by simpa using ho⟩);intro n;induction n with
 |zero=>
  intro fp a w fP hc _ h;have fX:fp=(List.replicate m true).toArray:=by
   have h1:∀b∈fp.toList,b=true:=λb hb=>by
    cases b with
    |true=>rfl
    |false=>have:=ex.2 hb;omega
   have h2:fp.toList=List.replicate m true:=by rw[←fP,←Array.length_toList];exact List.eq_replicate_of_mem h1
   rw[←Array.toArray_toList (xs:=fp),h2]
  obtain⟨_,h2⟩:=h;have:fp++(List.replicate t false).toArray=Cq m t:=by rw[fX];simp[Cq]
  rw[this,aX];exact h2
 |succ n ih=>
  intro fp a w fP hc gN h;have gl:∀(i:Nat) (d:Bool),i<m→(fp++(List.replicate t false).toArray).getD i d=fp.getD i d:=λi d hi=>by simp[Array.getElem?_append,fP,hi]
  -- some operation of the first part is open
  obtain⟨k,hk,qL⟩:∃k,k<m∧fp.getD k true=false:=by
   have:false∈fp.toList:=ex.1 (by omega);obtain⟨k,hk⟩:=a8.1 this;have fy:k<fp.size:=by have:=(ac.1 hk).1;simpa using this
   refine⟨k,by omega,?_⟩;have sG:fp[k]?=some false:=by simpa using hk
   simp[sG]
  have ready:∀i,i∈Region.ready .any fx (fp++(List.replicate t false).toArray)→i<m∧i∈Region.ready .any pre fp:=λi hi=>by
   obtain⟨h1,o,ho,he⟩:=mem_ready.1 hi;by_cases oN:i<m
   ·rw[gl i true oN]at h1;refine⟨oN,mem_ready.2 ⟨h1,o,by rw[same i oN];exact ho,λe qp hb=>?_⟩⟩;have fy:=g7 i o (by rw[same i oN];exact ho) e qp hb;have:=he e qp hb;rwa [gl e.on false (by omega)]at this
   ·have gu:o∈fx.toList.drop m:=a8.2 ⟨i-m,by rw[cD,show m+(i-m)=i by omega];simpa using ho⟩;have hkf2:fp.getD k false=false:=by
     have fy:k<fp.size:=by omega
     simp[fy]at qL ⊢;exact qL
    rcases kS o gu k hk with hh|⟨k',sG,hh,hA⟩
    ·obtain⟨e,qp,hb,n9⟩:=Gp hh;have:=he e qp hb;rw[n9,gl k false hk,hkf2]at this;cases this
    ·obtain⟨e,qp,hb,n9⟩:=Gp hh;have:=he e qp hb;rw[n9,gl k' false sG]at this;have:=Anc.closed (S:=λj=>fp.getD j false) gN hA this;rw[hkf2]at this;cases this
  have some_ready:Region.ready .any fx (fp++(List.replicate t false).toArray)≠[]:=by
   intro hr;have all:∀i,i<m→fp.getD i false=true:=by
    intro i;induction i using Nat.strongRecOn with
    |_ i ihi=>
     intro hi;cases hS:fp.getD i false with
     |true=>rfl
     |false=>
      have hio:i<fx.size:=by omega
      have ho:fx[i]?=some fx[i]:=by simp[hio]
      have:i∈Region.ready .any fx (fp++(List.replicate t false).toArray):=by
       rw[mem_ready];refine⟨?_,fx[i],ho,λe he hb=>?_⟩
       ·rw[gl i true hi];have fy:i<fp.size:=by omega
        simp[fy]at hS ⊢;exact hS
       ·have fy:=g7 i fx[i] (by rw[same i hi];exact ho) e he hb;rw[gl e.on false (by omega)];exact ihi e.on fy (by omega)
      rw[hr]at this;cases this
   have h1:=all k hk;have fy:k<fp.size:=by omega
   simp[fy]at qL h1;rw[h1]at qL;cases qL
  rw[show n+1+t=(n+t)+1 by omega];refine⟨λh0=>absurd h0 some_ready,λi hi=>?_⟩;obtain⟨oN,sH⟩:=ready i hi;have h1:=h.2 i sH;obtain⟨hf1,o,ho,_⟩:=mem_ready.1 sH;have iS:fx[i]?=some o:=by rw[←same i oN];exact ho
  have hg:=bare i o iS;rw[NZ ho hg]at h1;rw[NZ iS hg];have fW:(fp++(List.replicate t false).toArray).setIfInBounds i true=fp.setIfInBounds i true++(List.replicate t false).toArray:=by rw[Array.setIfInBounds_append_left (by omega)]
  have hcount:(fp.setIfInBounds i true).toList.count false=n:=by
   have gq:i<fp.size:=by omega
   have hf:fp.toList[i]'(by simpa using gq)=false:=by simp[gq]at hf1;simpa using hf1
   rw[cQ,List.count_set (by simpa using gq),hf];simp only[eL,br,Bool.true_eq_false,bt,ba];omega
  rcases h1 with h1|⟨h1,h2⟩
  ·refine .inl (zM0 (λa w hk=>?_) h1);rw[fW];refine ih _ a w (by simpa using fP) hcount (λj oj hj hS e he hb=>?_) hk;obtain⟨_,o2,ho2,he2⟩:=mem_ready.1 sH;have gs:∀x,fp.getD x false=true→(fp.setIfInBounds i true).getD x false=true:=λx hx=>by
    by_cases hxi:x=i
    ·subst hxi;have fy:x<fp.size:=by omega
     simp[fy]
    ·simp only[cN]at hx ⊢;rw[cY (λh=>hxi h.symm)];exact hx
   by_cases jt:j=i
   ·subst jt;rw[ho2]at hj;cases hj;exact gs _ (he2 e he hb)
   ·refine gs _ (gN j oj hj ?_ e he hb);simp only[cN]at hS ⊢;rw[cY (λh=>jt h.symm)]at hS;exact hS
  ·exact .inr ⟨h1,Vk h2⟩
end
section
open Go.RowKit

variable {fl:Bool} {wc:WM} {P:Program} {B:Nat} {w:World} {G:Gh} {H:or}

def inS(fp:Array Bool)(i:Nat):Bool:=fp.getD i false

theorem N0{fp:Array Bool}{i:Nat}(hi:i<fp.size)(k:Nat):inS (fp.setIfInBounds i true) k=if k=i then true else inS fp k:=by
 unfold inS;by_cases hk:k=i
 ·subst hk;simp[hi]
 ·simp[hk,cY (λh=>hk h.symm)]

theorem Ar(n i:Nat):inS (Array.replicate n false) i=false:=by unfold inS;rw[cN,Array.getElem?_replicate];split <;> rfl

theorem D6{op:Op}(h:opW wc op=true):opF op=false:=by
 cases op <;> simp only[opW,aK]at h <;> simp only[opF]
 rename_i c;cases hc:c.callee with
 |builtin b=>cases b <;> simp[hc]at h ⊢
 |value f=>rfl
 |invoke r m=>simp[hc]at h
theorem yn{op:Op}(h:opW wc op=true):opL op=false∧opC wc op=false:=by
 cases op <;> simp only[opW,aK]at h <;> first|exact⟨rfl,rfl⟩|skip
 rename_i c;refine⟨rfl,?_⟩;cases hc:c.callee with
 |builtin b=>cases b <;> simp[hc]at h <;> simp[opC,hc]
 |value f=>simpa[opC,hc]using h
 |invoke r m=>simp[hc]at h
theorem Cy{op:Op}(h:opV op=true):opW wc op=true∧opL op=false∧opC wc op=false∧opA wc op=false∧opF op=false:=by cases op <;> simp only[opV,aK]at h <;> exact⟨rfl,rfl,rfl,rfl,rfl⟩
theorem Vl{op:Op}(h:opV op=true):opN op=true:=by cases op <;> simp only[opV,aK]at h <;> rfl
theorem Vm{op:Op}(h:opL op=true):opW wc op=false∧opF op=false∧opA wc op=false∧opC wc op=false∧opV op=false:=by cases op <;> simp only[opL,aK]at h <;> exact⟨rfl,rfl,rfl,rfl,rfl⟩
theorem Vn{op:Op}(h:opC wc op=true):opW wc op=false∧opF op=false∧opL op=false∧opV op=false:=by
 cases op <;> simp only[opC,aK]at h
 rename_i c;cases hc:c.callee with
 |value f=>exact⟨by simpa[opW,hc]using h,by simp[opF,hc],rfl,rfl⟩
 |builtin b=>simp[hc]at h
 |invoke r m=>simp[hc]at h
theorem zOX{t:TypeId}{z:Value}{id:Nat}{K:AV→or→Prop}(hH:tU B w G H)(hz:vW P t=some z)(fA:H[id]?=some .gap)(h:K (.ptr id 0) (H.set id (.cells (v7 z)))):
  OpOK P B w G K (((do pure (.value (←Instr.alloc t true (.tuple #[])))):Sem Next).run P w):=by
 obtain⟨he,f7⟩:=hH.fill fA z.cells t (v7 z) (zL z);have fE:((do pure (.value (←Instr.alloc t true (.tuple #[])))):Sem Next).run P w=.ok (.value (.pointer (some ⟨w.heap.size,0,none⟩))) (w.alloc (.cells z.cells t)):=by simp[Instr.alloc,Cs hz,newVar,newRow,World.alloc_eq]
 rw[fE];refine⟨.ptr id 0,_,_,he,f7,⟨w.heap.size,?_,rfl⟩,h⟩;exact ak (by rw[hH.len];exact(ac.1 fA).1)

def zJZ(wc:WM)(fx:Array Oper)(S:Nat→Bool)(p:Nat):Prop:=∀(i:Nat) o,fx[i]?=some o→opW wc o.op=true→(S i=true↔i<p)
def zg(fl:Bool)(wc:WM)(P:Program)(fx:Array Oper)(F0 rs:List AV)(hs:List or)(H:or):Prop:=
 ∀ (i:Nat) o,fx.toList[i]?=some o→∃ r,rs[i]?=some r∧TrOK fl P fx (hpk hs H i) (frk fx.toList rs F0 i) o r (hpk hs H (i+1))∧frk fx.toList rs F0 (i+1)=wm (frk fx.toList rs F0 i) o.dst r ∧
  (opW wc o.op=false→hpk hs H (i+1)=hpk hs H i)∧(opC wc o.op=true→∀J,TrOK fl P fx (hpk hs H i++J) (frk fx.toList rs F0 i) o r (hpk hs H i++J))∧(opG wc o.op=true→GrowA (hpk hs H i) (hpk hs H (i+1)))∧(opK wc o.op=true→o.guard=none→DV (DU fx (frk fx.toList rs F0 i)) (hpk hs H i) (hpk hs H (i+1)))

theorem yp{fx:Array Oper}{hs:List or}{F0 rs:List AV}(ga:zg fl wc P fx F0 rs hs H){p:Nat}:∀ (q:Nat),p≤q→q≤fx.size→(∀ (i:Nat) o,fx[i]?=some o→opW wc o.op=true→p≤i→i<q→False)→hpk hs H q=hpk hs H p
 |0,hp,_,_=>by rw[eH.1 hp]
 |q+1,hp,hq,hn=>by
  by_cases he:p=q+1
  ·rw[he]
  ·have ho:fx[q]?=some fx[q]:=by simp[show q<fx.size by omega]
   obtain⟨r,_,_,_,h4,_⟩:=ga q fx[q] (by simp);have hw:opW wc (fx[q]).op=false:=by
    cases hw:opW wc (fx[q]).op with
    |false=>rfl
    |true=>exact(hn q _ ho hw (by omega) (by omega)).elim
   rw[h4 hw];exact yp ga q (by omega) (by omega) (λi o h1 h2 h3 h4=>hn i o h1 h2 h3 (by omega))
theorem zMS{op:Op}(h:opA wc op=true):opA .n op=true∨opG wc op=true:=by
 cases op <;> simp only[opA,aK]at h
 rename_i c;cases hc:c.callee with
 |value f=>right;simpa[opG,hc]using h
 |builtin b=>left;cases b <;> simp[opA,hc]at h ⊢
 |invoke r m=>simp[hc]at h
theorem TrOK.growW{fx:Array Oper}{F:List AV}{o:Oper}{r:AV}{H H':or}(ht:TrOK fl P fx H F o r H')(hg:opG wc o.op=true→GrowA H H')(ho:opA wc o.op=true):GrowA H H':=by
 rcases zMS ho with h|h
 ·exact ht.growA h
 ·exact hg h
theorem Vo{fx:Array Oper}{hs:List or}{F0 rs:List AV}(ga:zg fl wc P fx F0 rs hs H){i:Nat}:∀ (q:Nat),i≤q→q≤fx.size→(∀ (k:Nat) o,fx[k]?=some o→opW wc o.op=true→i≤k→k<q→opA wc o.op=true∨opN o.op=true) →
  ∀(id:Nat) (cs:List AV),(hpk hs H i)[id]?=some (AB.cells cs)→(hpk hs H q)[id]?=some (AB.cells cs)
 |0,h1,_,_,id,cs,hc=>by rw[eH.1 h1]at hc;exact hc
 |q+1,h1,h2,hn,id,cs,hc=>by
  by_cases he:i=q+1
  ·rw[←he];exact hc
  ·have hq:fx[q]?=some fx[q]:=by simp[show q<fx.size by omega]
   obtain⟨rq,_,po,_,qM,_,jJ,_⟩:=ga q fx[q] (by simp);have h3:=Vo ga q (by omega) (by omega) (λk o a b c d=>hn k o a b c (by omega)) id cs hc;cases oO:opW wc (fx[q]).op with
   |false=>rw[qM oO];exact h3
   |true=>
    rcases hn q _ hq oO (by omega) (by omega) with ha|ha
    ·exact(po.growW jJ ha).grow.cells h3
    ·exact(po.growN ha).cells h3
theorem Vp{fx:Array Oper}{hs:List or}{F0 rs:List AV}(ga:zg fl wc P fx F0 rs hs H){i id:Nat}:∀ (q:Nat),i≤q→q≤fx.size→(∀ (k:Nat) o,fx[k]?=some o→opW wc o.op=true→i≤k→k<q→(opA wc o.op=true∨opN o.op=true)∨∀ cs:List AV,(hpk hs H k)[id]?=some (AB.cells cs)→(hpk hs H (k+1))[id]?=some (AB.cells cs)) →
  ∀(cs:List AV),(hpk hs H i)[id]?=some (AB.cells cs)→(hpk hs H q)[id]?=some (AB.cells cs)
 |0,h1,_,_,cs,hc=>by rw[eH.1 h1]at hc;exact hc
 |q+1,h1,h2,hn,cs,hc=>by
  by_cases he:i=q+1
  ·rw[←he];exact hc
  ·have hq:fx[q]?=some fx[q]:=by simp[show q<fx.size by omega]
   obtain⟨rq,_,po,_,qM,_,jJ,_⟩:=ga q fx[q] (by simp);have h3:=Vp ga q (by omega) (by omega) (λk o a b c d=>hn k o a b c (by omega)) cs hc;cases oO:opW wc (fx[q]).op with
   |false=>rw[qM oO];exact h3
   |true=>
    rcases hn q _ hq oO (by omega) (by omega) with (ha|ha)|ha
    ·exact(po.growW jJ ha).grow.cells h3
    ·exact(po.growN ha).cells h3
    ·exact ha cs h3
theorem Vq{fx:Array Oper}{hs:List or}{F0 rs:List AV}(ga:zg fl wc P fx F0 rs hs H){i s:Nat}:∀ (k:Nat),i≤k→k≤fx.size→(∀ (j:Nat) o,fx[j]?=some o→i≤j→j<k→o.dst≠some s)→(frk fx.toList rs F0 k).getD s .unk=(frk fx.toList rs F0 i).getD s .unk
 |0,h1,_,_=>by rw[eH.1 h1]
 |k+1,h1,h2,hn=>by
  by_cases he:i=k+1
  ·rw[he]
  ·have hk:fx[k]?=some fx[k]:=by simp[show k<fx.size by omega]
   obtain⟨rk,_,_,jI,_⟩:=ga k fx[k] (by simp);have h3:=Vq ga (s:=s) k (by omega) (by omega) λj o a b c=>hn j o a b (by omega);rw[jI,←h3];have hd:=hn k _ hk (by omega) (by omega);unfold wm;cases e:(fx[k]).dst with
   |none=>rfl
   |some d=>have:d≠s:=λh=>hd (by rw[e,h]);simp only;rw[aq,aq,aj this]
theorem zMm{fx:Array Oper}(h:zJ fx=true){i j:Nat}{oi oj:Oper}(hi:fx[i]?=some oi)(hj:fx[j]?=some oj)(hl:opL oi.op=true)(qq:i≤j){s:Nat}(hs:s∈x4 fx oi):oj.dst≠some s:=by
 unfold zJ at h;simp only[ap,aA]at h;have mem:∀{i:Nat} {o:Oper},fx[i]?=some o→(o,i)∈fx.toList.zipIdx:=λ{i o} ho=>by rw[cH];simpa using ho
 have h1:=h.1 _ (mem hi);simp only[hl,fd,bJ,aA]at h1;have h2:=h1 _ (mem hj);intro e;simp only[e,cZ,bc]at h2;rcases h2 with h2|h2
 ·omega
 ·have:(x4 fx oi).contains s=true:=by simpa using hs
  rw[this]at h2;cases h2
theorem Vr{fx:Array Oper}(h:zJ fx=true){i:Nat}{o:Oper}(hi:fx[i]?=some o):opN o.op=false∧o.guard=none:=by unfold zJ at h;simp only[ap,aA]at h;have:=h.2 o (dt (by rw[cp];exact hi));simpa using this
theorem Vs{fx:Array Oper}{hs:List or}{F0 rs:List AV}(ga:zg fl wc P fx F0 rs hs H){p:Nat}:∀ (q:Nat),p≤q→q≤fx.size→(∀ (k:Nat) o,fx[k]?=some o→opW wc o.op=true→p≤k→k<q→opA wc o.op=true) →
  ∀(id:Nat) (cs:List AV),(hpk hs H q)[id]?=some (AB.cells cs)→(hpk hs H p)[id]?=some (AB.cells cs)
 |0,h1,_,_,id,cs,hc=>by rw[eH.1 h1];exact hc
 |q+1,h1,h2,hn,id,cs,hc=>by
  by_cases he:p=q+1
  ·rw[he];exact hc
  ·have hq:fx[q]?=some fx[q]:=by simp[show q<fx.size by omega]
   obtain⟨rq,_,po,_,qM,_,jJ,_⟩:=ga q fx[q] (by simp);refine Vs ga q (by omega) (by omega) (λk o a b c d=>hn k o a b c (by omega)) id cs ?_;cases oO:opW wc (fx[q]).op with
   |false=>rw[qM oO]at hc;exact hc
   |true=>exact(po.growW jJ (hn q _ hq oO (by omega) (by omega))).cells hc

structure VB (fx:Array Oper) (a b:Nat):Prop where
 le:a≤b
 fit:b≤fx.size
 iff:∀(i:Nat) o,fx[i]?=some o→(opV o.op=true↔a≤i∧i<b)
 bare:∀(i:Nat) o,fx[i]?=some o→opV o.op=true→o.guard=none
theorem Vt{fx:Array Oper}(h:zd fx=true):∃a b,VB fx a b:=by
 unfold zd at h;have mem:∀(i:Nat) o,fx[i]?=some o→(o,i)∈fx.toList.zipIdx:=λi o ho=>by rw[cH];simpa using ho
 split at h
 ·rename_i hn;rw[List.any_eq_false]at hn;have no:∀(i:Nat) o,fx[i]?=some o→opV o.op=true→False:=λi o ho hv=>hn o (a8.2 ⟨i,by simpa using ho⟩) hv;exact⟨0,0,af _,bM _,λi o ho=>⟨λhv=>(no i o ho hv).elim,λhc=>by omega⟩,λi o ho hv=>(no i o ho hv).elim⟩
 ·rename_i hn;generalize fx.toList.findIdx (λo=>opV o.op)=a at h;generalize fx.toList.countP (λo=>opV o.op)=k at h;have key:∀ (i:Nat) o,fx[i]?=some o→(opV o.op=true↔a≤i∧i<a+k)∧(opV o.op=true→o.guard=none):=λi o ho=>by have:=aA.1 h _ (mem i o ho);simp only[ap,bt,cZ,dq,Option.isNone_iff_eq_none]at this;refine⟨?_,λhv=>(this.2.resolve_left (by simp[hv]))⟩;rw[this.1];simp
  by_cases gC:a+k≤fx.size
  ·exact⟨a,a+k,by omega,gC,λi o ho=>(key i o ho).1,λi o ho=>(key i o ho).2⟩
  ·by_cases ha:a≤fx.size
   ·refine⟨a,fx.size,ha,af _,λi o ho=>?_,λi o ho=>(key i o ho).2⟩;have hi:i<fx.size:=(aQ.1 ho).1;rw[(key i o ho).1];constructor <;> rintro⟨_,_⟩ <;> constructor <;> omega
   ·refine⟨0,0,af _,bM _,λi o ho=>?_,λi o ho=>(key i o ho).2⟩;have hi:i<fx.size:=(aQ.1 ho).1;rw[(key i o ho).1];constructor <;> rintro⟨_,_⟩ <;> omega

def A9(hs:List or)(H:or)(j:Nat):List AV:=match (hpk hs H (j+1))[(hpk hs H j).length]? with|some (.cells cs)=>cs|_=>[]
theorem Vu{fx:Array Oper}{hs:List or}{F0 rs:List AV}{a b:Nat}(ga:zg fl wc P fx F0 rs hs H)(hV:VB fx a b){j:Nat}(h1:a≤j)(h2:j<b):
  ∃o t z,fx[j]?=some o∧o.op=.alloc t∧vW P t=some z∧A9 hs H j=v7 z∧hpk hs H (j+1)=hpk hs H j++[.cells (A9 hs H j)]∧rs[j]?=some (.ptr (hpk hs H j).length 0):=by
 have hj:j<fx.size:=by have:=hV.fit;omega
 have ho:fx[j]?=some fx[j]:=by simp[hj]
 have hv:=(hV.iff j _ ho).2 ⟨h1,h2⟩;obtain⟨r,hr,oa,_⟩:=ga j fx[j] (by simp);unfold TrOK at oa;rw[hV.bare j _ ho hv]at oa;simp only[]at oa;have gZ:∃t,(fx[j]).op=.alloc t:=by
  revert hv
  cases (fx[j]).op <;> simp[opV]
 obtain⟨t,gZ⟩:=gZ;simp only[vv,aop,yD,gZ,isM]at oa;split at oa
 ·rename_i z hz;obtain⟨e1,e2⟩:=oa;have rO:A9 hs H j=v7 z:=by unfold A9;rw[←e2];simp
  exact⟨fx[j],t,z,ho,gZ,hz,rO,by rw[rO];exact e2.symm,by rw[hr,←e1]⟩
 ·exact oa.elim
def xl(hs:List or)(H:or)(a b:Nat)(S:Nat→Bool):or:=(List.range (b-a)).map λq=>if S (a+q)=true then AB.cells (A9 hs H (a+q)) else .gap
theorem N1{fx:Array Oper}{hs:List or}{F0 rs:List AV}{a b:Nat}(ga:zg fl wc P fx F0 rs hs H)(hV:VB fx a b):∀ m,a+m≤b→hpk hs H (a+m)=hpk hs H a++(List.range m).map λq=>AB.cells (A9 hs H (a+q))
 |0,_=>by simp
 |m+1,hm=>by obtain⟨o,t,z,_,_,_,_,h1,_⟩:=Vu ga hV (j:=a+m) (by omega) (by omega);rw[show a+(m+1)=a+m+1 by omega,h1,N1 ga hV m (by omega),c5,a6,aB];rfl
theorem Vv{fx:Array Oper}{hs:List or}{F0 rs:List AV}{a b:Nat}(ga:zg fl wc P fx F0 rs hs H)(hV:VB fx a b){S:Nat→Bool}(h:∀j,a≤j→j<b→S j=true):hpk hs H a++xl hs H a b S=hpk hs H b:=by have:=N1 ga hV (b-a) (by have:=hV.le;omega);rw[show a+(b-a)=b by have:=hV.le;omega]at this;rw[this];congr 1;apply bN;intro q hq;rw[aN (h (a+q) (by omega) (by have:=bP.1 hq;omega))]
theorem zLU{hs:List or}{a b:Nat}{S:Nat→Bool}(h:∀j,a≤j→j<b→S j=false):xl hs H a b S=List.replicate (b-a) .gap:=by
 apply aU;intro q;unfold xl;rw[bn];by_cases hq:q<b-a
 ·rw[bW hq,List.getElem?_replicate,aN hq];simp[h (a+q) (by omega) (by omega)]
 ·rw[aW (by simp;omega),aW (by simp;omega)];rfl
theorem zLV{hs:List or}{a b i:Nat}{S:Nat→Bool}(h1:a≤i)(h2:i<b):(xl hs H a b S).set (i-a) (.cells (A9 hs H i))=xl hs H a b (λk=>if k=i then true else S k):=by
 apply aU;intro q;by_cases hq:q=i-a
 ·subst hq;rw[ak (by simp[xl];omega)];unfold xl;rw[bn,bW (by omega)];simp[show a+(i-a)=i by omega]
 ·rw[aj (λh=>hq h.symm)];unfold xl;rw[bn,bn];by_cases sI:q<b-a
  ·rw[bW sI];simp[show a+q≠i by omega]
  ·rw[aW (by simp;omega)];rfl
theorem zLT{hs:List or}{a b i:Nat}{S:Nat→Bool}(h1:a≤i)(h2:i<b)(h:S i=false):(xl hs H a b S)[i-a]?=some .gap:=by unfold xl;rw[bn,bW (by omega)];simp[show a+(i-a)=i by omega,h]

def StOK(wc:WM)(fx:Array Oper)(hs:List or)(H:or)(a b:Nat)(S:Nat→Bool)(Hc:or):Prop:=
 (∃p,p≤fx.size∧zJZ wc fx S p∧Hc=hpk hs H p∧((∀j,a≤j→j<b→S j=false)∨(∀j,a≤j→j<b→S j=true))) ∨
 ((∀ (k:Nat) o,fx[k]?=some o→opW wc o.op=true→k<a→S k=true)∧(∀ (k:Nat) o,fx[k]?=some o→opW wc o.op=true→b≤k→S k=false) ∧
   (∃j,a≤j∧j<b∧S j=true)∧(∃j,a≤j∧j<b∧S j=false)∧Hc=hpk hs H a++xl hs H a b S)

theorem StOK.congr{fx:Array Oper}{hs:List or}{a b:Nat}{S S':Nat→Bool}{Hc:or}(hV:VB fx a b)(h:StOK wc fx hs H a b S Hc)(he:∀i,i<fx.size→S i=S' i):StOK wc fx hs H a b S' Hc:=by
 have gC:=hV.fit;rcases h with ⟨p,h1,h2,h3,h4⟩|⟨h1,h2,⟨j,nM,lP,ob⟩,⟨k,nN,nO,oP⟩,h5⟩
 ·refine .inl ⟨p,h1,λi o ho hw=>by rw[←he i (aQ.1 ho).1];exact h2 i o ho hw,h3,?_⟩;rcases h4 with h4 | h4
  ·exact .inl λj a b=>by rw[←he j (by omega)];exact h4 j a b
  ·exact .inr λj a b=>by rw[←he j (by omega)];exact h4 j a b
 ·refine .inr ⟨λk o ho hw hk=>by rw[←he k (aQ.1 ho).1];exact h1 k o ho hw hk,λk o ho hw hk=>by rw[←he k (aQ.1 ho).1];exact h2 k o ho hw hk,
   ⟨j,nM,lP,by rw[←he j (by omega)];exact ob⟩,⟨k,nN,nO,by rw[←he k (by omega)];exact oP⟩,?_⟩
  rw[h5];congr 1;apply bN;intro q hq;rw[he (a+q) (by have:=bP.1 hq;omega)]

section
variable {fx:Array Oper} {F0 rs F:List AV} {hs:List or} {S:Nat→Bool} {i:Nat} {o:Oper} {r:AV} {a b:Nat} {Hc:or}
theorem StOK.step(qr:wc=.l→zJ fx=true)(gI:fl=true→∀ (k:Nat) ok,fx[k]?=some ok→opA wc ok.op=false∧opN ok.op=false∧opK wc ok.op=false)(hO:Ord fx)(hW:vN wc fx=true)(hV:VB fx a b)(ga:zg fl wc P fx F0 rs hs H)(fN:StOK wc fx hs H a b S Hc)(gN:∀ (j:Nat) oj,fx[j]?=some oj→S j=true→∀ e∈oj.after,Region.binds .any e=true→S e.on=true)(ho:fx[i]?=some o)(ju:S i=false)(g7:∀ e∈o.after,Region.binds .any e=true→S e.on=true)(hr:rs[i]?=some r)(jf:∀ s∈x4 fx o,(frk fx.toList rs F0 i).getD s .unk=F.getD s .unk)(mO:opV o.op=false):
  ∃Hc',StOK wc fx hs H a b (λk=>if k=i then true else S k) Hc'∧TrOK fl P fx Hc F o r Hc':=by
 have oQ:i<fx.size:=(aQ.1 ho).1;have gC:=hV.fit;have fS:=hV.le;obtain⟨r',jr,oa,_,qN,hxx,_⟩:=ga i o (by simpa using ho);rw[hr]at jr;cases jr;have gS:TrOK fl P fx (hpk hs H i) F o r (hpk hs H (i+1)):=oa.congr jf;have hx:opC wc o.op=true→∀J,TrOK fl P fx (hpk hs H i++J) F o r (hpk hs H i++J):=λhc J=>(hxx hc J).congr jf;have qO:¬(a≤i∧i<b):=λh=>by have:=(hV.iff i o ho).2 h;rw[mO]at this;cases this
 have isNew:∀{k:Nat},a≤k→k<b→∃ok,fx[k]?=some ok∧opV ok.op=true:=λ{k} h1 h2=>by
  have hk:fx[k]?=some fx[k]:=by simp[show k<fx.size by omega]
  exact⟨_,hk,(hV.iff k _ hk).2 ⟨h1,h2⟩⟩
 have notV:∀{k:Nat} {ok:Oper},fx[k]?=some ok→¬(a≤k∧k<b)→opV ok.op=false:=λ{k ok} hk hn=>by
  cases hv:opV ok.op with
  |false=>rfl
  |true=>exact(hn ((hV.iff k ok hk).1 hv)).elim
 have uf:∀{q p:Op},opL q=false→opL p=false→(opC wc q=false∨opV p=false)→(opV q=false∨opV p=false)→okU wc q p=false:=λh1 h2 h3 h4=>by unfold okU;rw[h1,h2];rcases h3 with h3|h3 <;> rcases h4 with h4|h4 <;> simp[h3,h4]
 -- what writes before it is done, what writes behind it is not
 have before:opF o.op=false→∀(k:Nat) ok,fx[k]?=some ok→opW wc ok.op=true→k<i→okU wc ok.op o.op=false→S k=true:=λhf k ok hk hw fy hu=>
  (Gq hO hW ho hk fy (.inr hw) hf (D6 hw) hu).ready gN ho g7
 have behind:opF o.op=false→∀(k:Nat) ok,fx[k]?=some ok→opW wc ok.op=true→i<k→okU wc o.op ok.op=false→S k=false:=λhf k ok hk hw fy hu=>by
  cases hS:S k with
  |false=>rfl
  |true=>have:=(Gq hO hW hk ho fy (.inl hw) (D6 hw) hf hu).closed gN hS;rw[ju]at this;cases this
 have keepS:∀Hc0,opW wc o.op=false→StOK wc fx hs H a b S Hc0→StOK wc fx hs H a b (λk=>if k=i then true else S k) Hc0:=by
  intro Hc0 hw h;have other:∀(k:Nat) ok,fx[k]?=some ok→opW wc ok.op=true→k≠i:=λk ok hk fQ gB=>by subst gB;rw[ho]at hk;cases hk;rw[hw]at fQ;cases fQ
  have otherV:∀j,a≤j→j<b→j≠i:=λj h1 h2 jt=>by subst jt;exact qO ⟨h1,h2⟩
  rcases h with ⟨p,h1,h2,h3,h4⟩|⟨h1,h2,⟨j,nM,lP,ob⟩,⟨k,nN,nO,oP⟩,h5⟩
  ·refine .inl ⟨p,h1,λk ok hk fQ=>by simp only[other k ok hk fQ,ba];exact h2 k ok hk fQ,h3,?_⟩;rcases h4 with h4 | h4
   ·exact .inl λj x y=>by simp only[otherV j x y,ba];exact h4 j x y
   ·exact .inr λj x y=>by simp only[otherV j x y,ba];exact h4 j x y
  ·refine .inr ⟨λk ok hk fQ pp=>by simp only[other k ok hk fQ,ba];exact h1 k ok hk fQ pp,λk ok hk fQ pp=>by simp only[other k ok hk fQ,ba];exact h2 k ok hk fQ pp,
    ⟨j,nM,lP,by simp only[otherV j nM lP,ba];exact ob⟩,⟨k,nN,nO,by simp only[otherV k nN nO,ba];exact oP⟩,?_⟩
   rw[h5];congr 1;apply bN;intro q hq;have:=bP.1 hq;simp only[otherV (a+q) (by omega) (by omega),ba]
 cases hf:opF o.op with
 |true=>
  have hw:opW wc o.op=false:=by
   cases hw:opW wc o.op with
   |false=>rfl
   |true=>rw[D6 hw]at hf;cases hf
  rw[qN hw]at gS;exact⟨Hc,keepS Hc hw fN,gS.free hf⟩
 |false=>
 rcases fN with ⟨p,hp,lh,rfl,qP⟩|hII
 ·-- the heap of the text
  have stay:StOK wc fx hs H a b S (hpk hs H p):=.inl ⟨p,hp,lh,rfl,qP⟩;cases hl:opL o.op with
  |true=>
   obtain⟨hw,_,sJ,nP,_⟩:=Vm hl;rw[qN hw]at gS;have dn:∀(k:Nat) ok,fx[k]?=some ok→opW wc ok.op=true→p≤k→k<i→opA wc ok.op=true:=λk ok hk fQ fS fy=>by
    cases hu:okU wc ok.op o.op with
    |true=>obtain⟨h1,h2⟩:=yn fQ;simp only[okU,h1,h2,mO,hl,bm,bJ,bR,dm,cV]at hu;exact hu
    |false=>have:=(lh k ok hk fQ).1 (before hf k ok hk fQ fy hu);omega
   have up:∀(k:Nat) ok,fx[k]?=some ok→opW wc ok.op=true→i≤k→k<p→(opA wc ok.op=true∨opN ok.op=true)∨opK wc ok.op=true:=λk ok hk fQ fS fy=>by
    have jg:=(lh k ok hk fQ).2 fy;have gB:k≠i:=by rintro rfl;rw[ju]at jg;cases jg
    cases hu:okU wc o.op ok.op with
    |true=>obtain⟨h1,h2⟩:=yn fQ;simp only[okU,hl,h1,sJ,nP,mO,bm,bJ,bR,dm,bE,cZ]at hu;exact hu
    |false=>have:=behind hf k ok hk fQ (by omega) hu;rw[this]at jg;cases jg
   refine⟨hpk hs H p,keepS _ hw stay,gS.load' hl (λjT=>?_) ?_⟩
   ·by_cases oc:p≤i
    ·exact(yp ga i oc (by omega) λk ok h1 h2 h3 h4=>by have:=dn k ok h1 h2 h3 h4;rw[(gI jT k ok h1).1]at this;cases this).symm
    ·exact yp ga p (by omega) hp λk ok h1 h2 h3 h4=>by have:=up k ok h1 h2 h3 h4;rw[(gI jT k ok h1).1,(gI jT k ok h1).2.1,(gI jT k ok h1).2.2]at this;rcases this with (h|h)|h <;> cases h
   intro av id off cs _ ⟨ty,y,hoy,sK⟩ hptr f5;by_cases oc:p≤i
   ·exact Vs ga i oc (by omega) dn id cs f5
   ·refine Vp ga p (by omega) hp (λk ok hk fQ fS fy=>?_) cs f5;rcases up k ok hk fQ fS fy with h | h
    ·exact .inl h
    ·refine .inr λcs' hcs'=>?_;have oR:=qr (Gn h).1;obtain⟨rk,_,_,_,_,_,_,sL⟩:=ga k ok (by simpa using hk);refine sL h (Vr oR hk).2 (ev (frk fx.toList rs F0 k) y) ?_ id off ?_ cs' hcs'
     ·unfold DU;refine List.mem_filterMap.2 ⟨o,dt (by rw[cp];exact ho),?_⟩;rw[hoy]
     ·rw[←hptr,sK];cases y with
      |tmp s=>
       have hsr:s∈x4 fx o:=by simp[x4,hoy,Op.operands]
       show (frk fx.toList rs F0 k).getD s .unk=F.getD s .unk;rw[Vq ga k fS (by omega) λj oj hj qq _=>zMm oR ho hj hl qq hsr];exact jf s hsr
      |_=>rfl
  |false=>
   cases hc:opC wc o.op with
   |true=>
    obtain⟨hw,_,_,_⟩:=Vn hc;have below:∀(k:Nat) ok,fx[k]?=some ok→opW wc ok.op=true→k<i→k<p:=λk ok hk fQ fy=>
     (lh k ok hk fQ).1 (before hf k ok hk fQ fy (uf (yn fQ).1 hl (.inl (yn fQ).2) (.inr mO)))
    have above:∀(k:Nat) ok,fx[k]?=some ok→opW wc ok.op=true→i<k→¬(a≤k∧k<b)→¬k<p:=λk ok hk fQ fy hn qQ=>by have:=behind hf k ok hk fQ fy (uf hl (yn fQ).1 (.inr (notV hk hn)) (.inl mO));rw[(lh k ok hk fQ).2 qQ]at this;cases this
    refine⟨hpk hs H p,keepS _ hw stay,?_⟩;have same:(∀(k:Nat) ok,fx[k]?=some ok→opW wc ok.op=true→i≤k→k<p→False)→TrOK fl P fx (hpk hs H p) F o r (hpk hs H p):=λiH=>by
     have e:hpk hs H p=hpk hs H i:=by
      by_cases oc:p≤i
      ·exact(yp ga i oc (by omega) (λk ok hk fQ h1 h2=>by have:=below k ok hk fQ h2;omega)).symm
      ·exact yp ga p (by omega) hp iH
     rw[qN hw]at gS;rw[e];exact gS
    have selfW:∀(k:Nat) ok,fx[k]?=some ok→opW wc ok.op=true→k≠i:=λk ok hk fQ gB=>by subst gB;rw[ho]at hk;cases hk;rw[hw]at fQ;cases fQ
    rcases qP with iH|fX
    ·refine same λk ok hk fQ h1 h2=>?_;have gB:=selfW k ok hk fQ;by_cases jF:a≤k∧k<b
     ·have:=iH k jF.1 jF.2;rw[(lh k ok hk fQ).2 h2]at this;cases this
     ·exact above k ok hk fQ (by omega) jF h2
    ·by_cases sM:i<a
     ·by_cases gc:a=b
      ·refine same λk ok hk fQ h1 h2=>?_;exact above k ok hk fQ (by have:=selfW k ok hk fQ;omega) (by omega) h2
      ·-- all new variables are there
       obtain⟨on,n9,hvn⟩:=isNew (k:=b-1) (by omega) (by omega);have hbp:b≤p:=by have:=(lh (b-1) on n9 (Cy hvn).1).1 (fX (b-1) (by omega) (by omega));omega
       have e1:hpk hs H a=hpk hs H i:=yp ga a (by omega) (by omega) (λk ok hk fQ h1 h2=>by
        have gB:=selfW k ok hk fQ;exact above k ok hk fQ (by omega) (by omega) (by omega))
       have e2:hpk hs H p=hpk hs H b:=yp ga p hbp hp (λk ok hk fQ h1 h2=>above k ok hk fQ (by omega) (by omega) h2);rw[e2,←Vv ga hV fX,e1];exact hx hc _
     ·refine same λk ok hk fQ h1 h2=>?_;exact above k ok hk fQ (by have:=selfW k ok hk fQ;omega) (by omega) h2
   |false=>
    have below:∀(k:Nat) ok,fx[k]?=some ok→opW wc ok.op=true→k<i→k<p:=λk ok hk fQ fy=>
     (lh k ok hk fQ).1 (before hf k ok hk fQ fy (uf (yn fQ).1 hl (.inl (yn fQ).2) (.inr mO)))
    have above:∀(k:Nat) ok,fx[k]?=some ok→opW wc ok.op=true→i≤k→¬k<p:=λk ok hk fQ fS qQ=>by
     have jg:=(lh k ok hk fQ).2 qQ;by_cases gB:k=i
     ·subst gB;rw[ju]at jg;cases jg
     ·have:=behind hf k ok hk fQ (by omega) (uf hl (yn fQ).1 (.inl hc) (.inl mO));rw[jg]at this;cases this
    have e:hpk hs H p=hpk hs H i:=by
     by_cases oc:p≤i
     ·exact(yp ga i oc (by omega) (λk ok hk fQ h1 h2=>by have:=below k ok hk fQ h2;omega)).symm
     ·exact yp ga p (by omega) hp (λk ok hk fQ h1 h2=>above k ok hk fQ h1 h2)
    cases hw:opW wc o.op with
    |false=>rw[qN hw]at gS;exact⟨hpk hs H p,keepS _ hw stay,by rw[e];exact gS⟩
    |true=>
     refine⟨hpk hs H (i+1),.inl ⟨i+1,by omega,λk ok hk fQ=>?_,rfl,?_⟩,by rw[e];exact gS⟩
     ·by_cases gB:k=i
      ·subst gB;simp
      ·simp only[gB,ba];rw[lh k ok hk fQ];constructor
       ·intro qQ;by_cases lU:i≤k
        ·exact(above k ok hk fQ lU qQ).elim
        ·omega
       ·intro hki2;exact below k ok hk fQ (by omega)
     ·rcases qP with iH | fX
      ·exact .inl λj x y=>by have:j≠i:=λh=>qO ⟨by omega,by omega⟩;simp only[this,ba];exact iH j x y
      ·exact .inr λj x y=>by have:j≠i:=λh=>qO ⟨by omega,by omega⟩;simp only[this,ba];exact fX j x y
 ·-- some of the new variables are there
  obtain⟨h1,h2,⟨j0,nM,lP,ob⟩,⟨j1,nN,nO,oP⟩,h5⟩:=hII;obtain⟨o0,sO,jW⟩:=isNew nM lP;obtain⟨o1,ho1,iW⟩:=isNew nN nO;have sM:i<a:=by
   by_cases sM:i<a
   ·exact sM
   ·have:=before hf j1 o1 ho1 (Cy iW).1 (by omega) (by
     obtain⟨_,x1,x2,x3,_⟩:=Cy (wc:=wc) iW;unfold okU;simp[x1,x2,x3,mO])
    rw[oP]at this;cases this
  have early:okU wc o.op o0.op=true:=by
   cases hu:okU wc o.op o0.op with
   |true=>rfl
   |false=>have:=behind hf j0 o0 sO (Cy jW).1 (by omega) hu;rw[ob]at this;cases this
  have stay:StOK wc fx hs H a b S Hc:=.inr ⟨h1,h2,⟨j0,nM,lP,ob⟩,⟨j1,nN,nO,oP⟩,h5⟩;subst h5;cases hl:opL o.op with
  |true=>
   obtain⟨hw,_,sJ,nP,_⟩:=Vm hl;rw[qN hw]at gS;refine⟨_,keepS _ hw stay,gS.load hl (λjT=>by have:=(gI jT j0 o0 sO).2.1;rw[Vl jW]at this;cases this) λid cs f5=>?_⟩;have:=Vo ga a (by omega) (by omega) (λk ok hk fQ fS fy=>by
    have jg:=h1 k ok hk fQ fy;have gB:k≠i:=by rintro rfl;rw[ju]at jg;cases jg
    cases hu:okU wc o.op ok.op with
    |true=>
     obtain⟨x1,x2⟩:=yn fQ;simp only[okU,hl,x1,sJ,nP,mO,bm,bJ,bR,dm,bE,cZ]at hu;rcases hu with hu|hu
     ·exact hu
     ·have:=(Vr (qr (Gn hu).1) sO).1;rw[Vl jW]at this;cases this
    |false=>
     have:=behind hf k ok hk fQ (by omega) hu;rw[this]at jg;cases jg) id cs f5
   rw[ah (ac.1 this).1];exact this
  |false=>
   have hc:opC wc o.op=true:=by unfold okU at early;simp only[hl,mO,(Cy (wc:=wc) jW).2.1,bm,bR,bJ,dm,ap]at early;exact early.1
   obtain⟨hw,_,_,_⟩:=Vn hc;have e1:hpk hs H a=hpk hs H i:=yp ga a (by omega) (by omega) (λk ok hk fQ fS fy=>by
    have jg:=h1 k ok hk fQ fy;have gB:k≠i:=by rintro rfl;rw[ju]at jg;cases jg
    have:=behind hf k ok hk fQ (by omega) (uf hl (yn fQ).1 (.inr (notV hk (by omega))) (.inl mO));rw[this]at jg;cases jg)
   refine⟨_,keepS _ hw stay,?_⟩;rw[e1];exact hx hc _
end

theorem Vw{fx:Array Oper}{F0 rs Fn:List AV}{hs:List or}{Hn:or}{K:List AV→or→Prop}{Q:Exit→Act→World→Prop}{w0:World}{G0:Gh}{va vb:Nat}(qr:wc=.l→zJ fx=true)(gI:fl=true→∀ (k:Nat) ok,fx[k]?=some ok→opA wc ok.op=false∧opN ok.op=false∧opK wc ok.op=false)(hO:Ord fx)(hW:vN wc fx=true)(hV:VB fx va vb)(ht:TrL fl wc P fx fx.toList F0 H rs hs Fn Hn)(hK:K Fn Hn)(hQ:∀ a w G F H,Ext B w0 G0 w G→tU B w G H→FRel w G a.tmps F→a.defers=[]→K F H→Q .normal a w):
  ∀ (fuel:Nat) (fp:Array Bool) (a:Act) (w:World) (G:Gh) (F:List AV) (Hc:or),StOK wc fx hs H va vb (inS fp) Hc→fp.size=fx.size→fp.toList.count false≤fuel →
   (∀(j:Nat) oj,fx[j]?=some oj→inS fp j=true→∀e∈oj.after,Region.binds .any e=true→inS fp e.on=true) →
   Ext B w0 G0 w G→tU B w G Hc→FlRel fx F0 rs (inS fp) F→FRel w G a.tmps F→a.defers=[]→wpAny P .any fx Q fuel fp a w:=by
 obtain⟨fz,sP,sC,hat0⟩:=ht.at;have ga:zg fl wc P fx F0 rs hs H:=hat0;have iF:rs.length=fx.size:=by simpa using fz
 have gC:=hV.fit
 -- nothing is ready only at the end
 have fin:∀ (fp:Array Bool) (a:Act) (w:World) (G:Gh) (F:List AV) (Hc:or),StOK wc fx hs H va vb (inS fp) Hc→fp.size=fx.size→Ext B w0 G0 w G→tU B w G Hc→FlRel fx F0 rs (inS fp) F→FRel w G a.tmps F→a.defers=[] →
   Region.ready .any fx fp=[]→Q .normal a w:=by
  intro fp a w G F Hc fN fP hE hH od hF hd hr;have all:∀i,i<fx.size→inS fp i=true:=by
   intro i;induction i using Nat.strongRecOn with
   |_ i ih=>
    intro hi;cases hS:inS fp i with
    |true=>rfl
    |false=>
     have:i∈Region.ready .any fx fp:=by
      rw[mem_ready];refine⟨?_,fx[i],by simp[hi],λe he hb=>?_⟩
      ·have jB:i<fp.size:=by omega
       simpa[inS,jB]using hS
      ·have fy:=hO.edge i fx[i] (by simp[hi]) e he hb;exact ih e.on fy (by omega)
     rw[hr]at this;cases this
  have h1:FlRel fx F0 rs (λk=>decide (k<fx.size)) F:=od.congr λi hi=>by rw[all i hi];simp[hi]
  have h2:=NW hO ht fx.size (af _);have:F=Fn:=by rw[FlRel.same iF h1 h2,←sP];simp
  rw[this]at hF;have hHn:Hc=Hn:=by
   rcases fN with ⟨p,hp,lh,rfl,_⟩|⟨_,_,_,⟨j,nM,lP,ob⟩,_⟩
   ·rw[←sC,Array.length_toList];exact(yp ga fx.size hp (af _) (λi o h1 h2 h3 h4=>by
     have:=(lh i o h1 h2).1 (all i h4);omega)).symm
   ·rw[all j (by omega)]at ob;cases ob
  rw[hHn]at hH;exact hQ a w G Fn Hn hE hH hF hd hK
 intro fuel;induction fuel with
 |zero=>
  intro fp a w G F Hc fN fP hc gN hE hH od hF hd;have hr:Region.ready .any fx fp=[]:=by
   cases hr:Region.ready .any fx fp with
   |nil=>rfl
   |cons i is=>
    have hi:i∈Region.ready .any fx fp:=by rw[hr];simp
    obtain⟨h1,o,ho,_⟩:=mem_ready.1 hi;have jB:i<fp.size:=by rw[fP];exact(aQ.1 ho).1
    have hf:fp[i]=false:=by simpa[jB]using h1
    have:false∈fp.toList:=by rw[←hf];simp
    have:=ex.2 this;omega
  exact⟨hr,fin fp a w G F Hc fN fP hE hH od hF hd hr⟩
 |succ fuel ih=>
  intro fp a w G F Hc fN fP hc gN hE hH od hF hd;refine⟨fin fp a w G F Hc fN fP hE hH od hF hd,λi hi=>?_⟩;obtain⟨h1,o,ho,g7⟩:=mem_ready.1 hi;have oQ:i<fx.size:=(aQ.1 ho).1;have jB:i<fp.size:=by omega
  have ju:inS fp i=false:=by
   have:fp[i]=false:=by simpa[jB]using h1
   simp[inS,jB,this]
  obtain⟨r,hr,_⟩:=ga i o (by simpa using ho);have jf:=zNH hO iF od (NW hO ht i (by omega)) ho ju g7 gN
  -- what comes behind it
  have next:∀(a':Act) (w':World) (G':Gh) (Hc':or),StOK wc fx hs H va vb (λk=>if k=i then true else inS fp k) Hc'→Ext B w0 G0 w' G'→tU B w' G' Hc'→FRel w' G' a'.tmps (wm F o.dst r)→a'.defers=[]→wpAny P .any fx Q fuel (fp.setIfInBounds i true) a' w':=by
   intro a' w' G' Hc' jh me f7 oS my;refine ih _ a' w' G' (wm F o.dst r) Hc' (jh.congr hV λk _=>(N0 jB k).symm) (by simpa using fP) ?_ ?_ me f7 ?_ oS my
   ·have hf:fp.toList[i]'(by simpa using jB)=false:=by
     have:fp[i]=false:=by simpa[jB]using h1
     simpa using this
    rw[cQ,List.count_set (by simpa using jB)];rw[hf];simp only[eL,br,Bool.true_eq_false,bt,ba];omega
   ·intro j oj hj mz e he hb;rw[N0 jB]at mz ⊢;by_cases jt:j=i
    ·subst jt;rw[ho]at hj;cases hj;have:=g7 e he hb;by_cases qR:e.on=j
     ·simp[qR]
     ·simp only[qR,ba];exact this
    ·simp only[jt,ba]at mz;have:=gN j oj hj mz e he hb;by_cases qR:e.on=i
     ·simp[qR]
     ·simp only[qR,ba];exact this
   ·exact(FlRel.step hO od ho hr).congr λk _=>(N0 jB k).symm
  unfold wpOp;simp only[ho];have jI:∀v,(a.put o.dst v).defers=[]:=λv=>by cases jH:o.dst <;> simpa[Act.put]using hd
  cases hv:opV o.op with
  |true=>
   -- a new variable
   have gc:=(hV.iff i o ho).1 hv;obtain⟨hw,iM,oJ,hna,hnf⟩:=Cy (wc:=wc) hv;have hg:=hV.bare i o ho hv;rw[aN (by simp[Region.wanted,hg])];refine .inl ?_;obtain⟨o',t,z,iS,gZ,hz,rO,gb,jr⟩:=Vu ga hV gc.1 gc.2;rw[ho]at iS;cases iS;rw[hr]at jr;cases jr;have hlen_i:(hpk hs H i).length=(hpk hs H va).length+(i-va):=by have:=N1 ga hV (i-va) (by omega);rw[show va+(i-va)=i by omega]at this;rw[this];simp
   -- the writing ones before the new variables are done, those behind are not
   have early:∀(k:Nat) ok,fx[k]?=some ok→opW wc ok.op=true→k<va→inS fp k=true:=λk ok hk fQ fy=>by
    have pq:opV ok.op=false:=by
     cases oe:opV ok.op with
     |false=>rfl
     |true=>have:=(hV.iff k ok hk).1 oe;omega
    exact(Gq hO hW ho hk (by omega) (.inr fQ) hnf (D6 fQ) (by unfold okU;simp[(yn fQ).1,(yn fQ).2,pq,iM])).ready gN ho g7
   have late:∀(k:Nat) ok,fx[k]?=some ok→opW wc ok.op=true→vb≤k→inS fp k=false:=λk ok hk fQ fS=>by
    have pq:opV ok.op=false:=by
     cases oe:opV ok.op with
     |false=>rfl
     |true=>have:=(hV.iff k ok hk).1 oe;omega
    cases hS:inS fp k with
    |false=>rfl
    |true=>have:=(Gq hO hW hk ho (by omega) (.inl fQ) (D6 fQ) hnf (by unfold okU;simp[(yn fQ).1,iM,oJ,hna,pq])).closed gN hS;rw[ju]at this;cases this
   -- the heap with places for the new variables
   have hplaces:∃G1,Ext B w G w G1∧tU B w G1 (hpk hs H va++xl hs H va vb (inS fp)):=by
    rcases fN with ⟨p,hp,lh,rfl,qP⟩|⟨_,_,_,_,rfl⟩
    ·have iH:∀j,va≤j→j<vb→inS fp j=false:=by
      rcases qP with h|h
      ·exact h
      ·have:=h i gc.1 gc.2;rw[ju]at this;cases this
     have e:hpk hs H p=hpk hs H va:=by
      by_cases kG:p≤va
      ·exact(yp ga va kG (by omega) (λk ok hk fQ h1 h2=>by
        have:=(lh k ok hk fQ).1 (early k ok hk fQ h2);omega)).symm
      ·refine yp ga p (by omega) hp (λk ok hk fQ h1 h2=>?_);have jg:=(lh k ok hk fQ).2 h2;by_cases lk:k<vb
       ·rw[iH k h1 lk]at jg;cases jg
       ·rw[late k ok hk fQ (by omega)]at jg;cases jg
     rw[e]at hH;rw[zLU iH];obtain⟨h1,h2⟩:=hH.keepGaps (vb-va);exact⟨_,h1,h2⟩
    ·exact⟨G,Ext.refl _ _ _,hH⟩
   obtain⟨G1,mP,jK⟩:=hplaces;have pe:(hpk hs H va++xl hs H va vb (inS fp))[(hpk hs H va).length+(i-va)]?=some .gap:=by rw[aM (by omega),eF];exact zLT gc.1 gc.2 ju
   have fW:(hpk hs H va++xl hs H va vb (inS fp)).set ((hpk hs H va).length+(i-va)) (.cells (v7 z))=hpk hs H va++xl hs H va vb (λk=>if k=i then true else inS fp k):=by rw[au _ _ (by omega),eF,←rO,zLV gc.1 gc.2]
   have jh:StOK wc fx hs H va vb (λk=>if k=i then true else inS fp k) (hpk hs H va++xl hs H va vb (λk=>if k=i then true else inS fp k)):=by
    by_cases fX:∀j,va≤j→j<vb→(if j=i then true else inS fp j)=true
    ·refine .inl ⟨vb,by omega,λk ok hk fQ=>?_,Vv ga hV fX,.inr fX⟩;by_cases gB:k=i
     ·subst gB;simp[gc.2]
     ·simp only[gB,ba];by_cases qs:k<vb
      ·simp only[qs,iff_true];by_cases pp:va≤k
       ·have:=fX k pp qs;simpa[gB]using this
       ·exact early k ok hk fQ (by omega)
      ·simp only[qs,iff_false];rw[late k ok hk fQ (by omega)];simp
    ·have hsome:∃j,va≤j∧j<vb∧(if j=i then true else inS fp j)=false:=by
      apply eB;intro iH;apply fX;intro j h1 h2;cases hS:(if j=i then true else inS fp j) with
      |true=>rfl
      |false=>exact(iH ⟨j,h1,h2,hS⟩).elim
     refine .inr ⟨λk ok hk fQ pp=>?_,λk ok hk fQ lk=>?_,⟨i,gc.1,gc.2,by simp⟩,hsome,rfl⟩
     ·have gB:k≠i:=by omega
      simp only[gB,ba];exact early k ok hk fQ pp
     ·have gB:k≠i:=by omega
      simp only[gB,ba];exact late k ok hk fQ lk
   have fE:(execOp a.eval o).run P w=(((do pure (.value (←Instr.alloc t true (.tuple #[])))):Sem Next)).run P w:=by obtain⟨dst,op,type,pos,after,guard⟩:=o;simp only at gZ;subst gZ;rfl
   refine D5 (hF.ext mP) (K:=λv H'=>v=.ptr (hpk hs H i).length 0∧H'=hpk hs H va++xl hs H va vb (λk=>if k=i then true else inS fp k)) (by
    rw[fE];exact zOX jK hz pe ⟨by rw[hlen_i],fW⟩) λv av w' G' H' k1 k2 k3 k4=>?_
   obtain⟨rfl,rfl⟩:=k4;exact next _ w' G' _ jh ((hE.trans mP).trans k1) k2 (((hF.ext mP).ext k1).put k3) (jI v)
  |false=>
   obtain⟨Hc',jh,gS⟩:=StOK.step (F:=F) qr gI hO hW hV ga fN gN ho ju g7 hr (λs hs=>(jf s hs).symm) hv;have run:(vv fl P o F Hc λv H'=>v=r∧H'=Hc')→o.wp P a w (wpAny P .any fx Q fuel (fp.setIfInBounds i true)) Q:=λgZ=>
    D5 hF (Aq hH hF (zKF gZ)) λv av w' G' H' k1 k2 k3 k4=>by obtain⟨rfl,rfl⟩:=k4;exact next _ w' G' _ jh (hE.trans k1) k2 ((hF.ext k1).put k3) (jI v)
   have skip:r=.tup []→Hc'=Hc→wpAny P .any fx Q fuel (fp.setIfInBounds i true) (a.put o.dst undef) w:=λmQ he=>by subst mQ;subst he;exact next _ w G _ jh hE hH (hF.put NT) (jI _)
   unfold TrOK at gS;split at gS
   ·rename_i hg;rw[aN (by simp[Region.wanted,hg])];exact .inl (run gS)
   ·rename_i j want hg;obtain⟨d,jA,fL⟩:=gS;rcases fL with ⟨b,hb,hw,gZ⟩ | ⟨b,hb,hw,mQ,he⟩ | ⟨hb,mQ,he⟩
    ·rw[NS hF hg jA hb,aN hw];exact .inl (run gZ)
    ·rw[NS hF hg jA hb,aG (by simp[hw])];exact skip mQ he
    ·rw[U6 hF hg jA hb,aG (by simp)];exact skip mQ he

theorem Post.of{w0:World}{G0:Gh}{Q:AExit→List AV→or→Prop}{a:Act}{F:List AV}{e:AExit}(hE:Ext B w0 G0 w G)(hH:tU B w G H)(hF:FRel w G a.tmps F)(hd:a.defers=[])(h:Q e F H):Post B w0 G0 Q e.toExit a w:=
 ⟨F,H,G,e,rfl,hE,hH,hF,hd,h⟩

theorem D7:∀ (m:List Bool) {tm:List Value} {F:List AV},All2 (TRel w G) tm F→All2 (TRel w G) tm (A8 m F)
 |[],tm,F,h=>by unfold A8;exact h
 |b::m,[],[],h=>by cases b <;> trivial
 |true::m,v::tm,a::F,h=>⟨h.1,D7 m h.2⟩
 |false::m,v::tm,a::F,h=>⟨trivial,D7 m h.2⟩

theorem zMM(m:List Bool){y:Code}{Q:AExit→List AV→or→Prop}{now:List AV→or→Prop}{F:List AV}{H:or}(h:nxt m P y Q now F H)(hn:now F H→AWp P y Q F H):AWp P y Q F H:=by
 cases m with
 |nil=>exact hn h
 |cons b ms=>exactλB w G a hH hF hd=>h B w G a hH (D7 _ hF) hd
theorem Cz{M:Nat→List Bool}:∀(c:Code) (Q:AExit→List AV→or→Prop) (F:List AV) (H:or),awp P M c Q F H→AWp P c Q F H:=by
 intro c;induction c with
 |skip=>intro Q F H h B w G a hH hF hd;exact wp_skip (Post.of (e:=.normal) (Ext.refl _ _ _) hH hF hd h)
 |label l=>intro Q F H h B w G a hH hF hd;exact wp_label (Post.of (e:=.normal) (Ext.refl _ _ _) hH hF hd h)
 |region id fx draw=>
  intro Q F H h B w G a hH hF hd;cases draw with
  |false=>
   refine wp_region_list ?_;have h:(match M (300000+id) with
    |[]=>An P fx fx.toList (Q .normal) F H
    |_::_=>DT P fx.toList (Q .normal) F H):=h
   split at h
   ·exact NU (K:=Q .normal) (λa w G F H h1 h2 h3 h4 h5=>Post.of (e:=.normal) h1 h2 h3 h4 h5) fx.toList F H a w G (Ext.refl _ _ _) hH hF hd h
   ·exact U8 (K:=Q .normal) (λa w G F H h1 h2 h3 h4 h5=>Post.of (e:=.normal) h1 h2 h3 h4 h5) fx.toList F H a w G (Ext.refl _ _ _) hH hF hd h
  |true=>
   have main:∀ (fl:Bool) (wc:WM),(wc=.l→zJ fx=true)→(fl=true→∀ (k:Nat) ok,fx[k]?=some ok→opA wc ok.op=false∧opN ok.op=false∧opK wc ok.op=false)→(match zb fx && vN wc fx && zd fx && P.follows .mixedOrders with
     |true=>xy fl wc P fx fx.toList (Q .normal) F H
     |false=>False)→(Code.region id fx true).wp P (Post B w G Q) a w:=by
    intro fl wc qr gI h;split at h
    ·rename_i hb;simp only[ap]at hb;obtain⟨⟨⟨og,sQ⟩,n7⟩,hm⟩:=hb;obtain⟨rs,hs,Fn,Hn,ht,hK⟩:=x5 fx.toList F H h;obtain⟨va,vb,hV⟩:=Vt n7;refine wp_region_any hm ?_;refine Vw qr gI (NV og) sQ hV ht (K:=Q .normal) hK (w0:=w) (G0:=G) (λa w G F H h1 h2 h3 h4 h5=>Post.of (e:=.normal) h1 h2 h3 h4 h5) fx.size _ a _ G F H (.inl ⟨0,bM _,λk ok _ _=>by rw[Ar];simp,by cases hs <;> rfl,.inl λj _ _=>Ar _ _⟩) (by simp) (by simp) ?_ (Ext.drew B w G _ (cF _)) (hH.drew _ (cF _)) ?_ ?_ hd
     ·intro j oj _ hj;rw[Ar]at hj;cases hj
     ·refine⟨rfl,λi o s r _ _ hS=>?_,λs _=>rfl⟩;rw[Ar]at hS;cases hS
     ·exact hF.ext (Ext.drew B w G _ (cF _))
    ·exact h.elim
   simp only[awp]at h;split at h
   ·cases hn:noG fx with
    |false=>simp[hn]at h
    |true=>
     rw[hn,cV]at h;refine main true .n (λe=>by cases e) (λ_ k ok hk=>?_) h;have:=aA.1 hn ok (dt (by rw[cp];exact hk));have jU:opK .n ok.op=false:=by
      cases hb:opK .n ok.op with
      |false=>rfl
      |true=>have:=(Gn hb).1;cases this
     rw[jU];simpa using this
   have no:∀wc:WM,false=true→∀(k:Nat) ok,fx[k]?=some ok→opA wc ok.op=false∧opN ok.op=false∧opK wc ok.op=false:=λwc h=>by cases h
   split at h
   ·cases hl:zJ fx with
    |false=>simp[hl]at h
    |true=>rw[hl,cV]at h;exact main false .l (λ_=>hl) (no _) h
   split at h
   ·exact main false .n (λe=>by cases e) (no _) h
   ·exact main false .w (λe=>by cases e) (no _) h
   ·exact main false .g (λe=>by cases e) (no _) h
   ·exact main false .c (λe=>by cases e) (no _) h
   ·rename_i l _;split at h
    ·rename_i hb;simp only[ap,bc]at hb;obtain⟨⟨⟨⟨⟨og,sQ⟩,n7⟩,hm⟩,mf⟩,fS⟩:=hb;have fP:fx.size-l.length+l.length=fx.size:=by omega
     generalize je:yT fx (fx.size-l.length)=pre at *;have ke:pre.size=fx.size-l.length:=by rw[←je];simp[yT]
     obtain⟨rs,hs,Fn,Hn,ht,hK⟩:=x5 pre.toList F H h;obtain⟨va,vb,hV⟩:=Vt n7;refine wp_region_any hm ?_;have key:=Vw (fl:=false) (λh=>by cases h) (λh=>by cases h) (NV og) sQ hV ht (K:=Co P fx (Q .normal) l.length (Cq (fx.size-l.length) l.length)) hK (Q:=Gr (wpAny P .any fx (Post B w G Q) l.length (Cq (fx.size-l.length) l.length)) (Post B w G Q)) (w0:=w) (G0:=G)
      (λa w G F H h1 h2 h3 h4 h5=>zNV (λa w G F H h1 h2 h3 h4 h5=>Post.of (e:=.normal) h1 h2 h3 h4 h5) _ _ a w G F H h1 h2 h3 h4 h5)
      pre.size (Array.replicate pre.size false) a { w with drawn:=w.drawn+1 } G F H (.inl ⟨0,bM _,λk ok _ _=>by rw[Ar];simp,by cases hs <;> rfl,.inl λj _ _=>Ar _ _⟩) (by simp) (by simp) (λj oj _ hj=>by rw[Ar]at hj;cases hj) (Ext.drew B w G _ (cF _)) (hH.drew _ (cF _))
      ⟨rfl,λi o s r _ _ hS=>(by rw[Ar]at hS;cases hS),λs _=>rfl⟩ (hF.ext (Ext.drew B w G _ (cF _))) hd
     have:=zP0 fP je.symm mf (NV og).edge pre.size (Array.replicate pre.size false) a _ (by simp[ke]) (by simp) (λj oj _ hS=>by by_cases fy:j<pre.size <;> simp[fy]at hS) key;have e:Array.replicate pre.size false++(List.replicate l.length false).toArray=Array.replicate fx.size false:=by apply Array.toList_inj.1;simp[ke,List.replicate_append_replicate,fP]
     rw[e,ke,fP]at this;exact this
    ·exact h.elim
 |seq x y ihx ihy=>
  intro Q F H h B w G a hH hF hd;refine wp_seq (wp_mono (ihx _ F H h B w G a hH hF hd) λe a' w' hp=>?_);obtain⟨F',H',G',e',rfl,h1,h2,h3,h4,h5⟩:=hp;cases e' with
  |normal=>
   have h6:AWp P y Q F' H':=by exact zMM _ h5 (ihy Q F' H')
   refine wp_mono (h6 B w' G' a' h2 h3 h4) λe a'' w'' hp=>?_;obtain⟨F'',H'',G'',e'',rfl,k1,k2,k3,k4,k5⟩:=hp;exact⟨F'',H'',G'',e'',rfl,h1.trans k1,k2,k3,k4,k5⟩
  |exit id=>exact Post.of (e:=.exit id) h1 h2 h3 h4 h5
  |ret=>exact Post.of (e:=.ret) h1 h2 h3 h4 h5
 |scope c ih=>
  intro Q F H h B w G a hH hF hd;refine wp_scope_straight (wp_mono (ih Q F H h B w G a hH hF hd) λe a' w' hp=>?_);obtain⟨F',H',G',e',rfl,h1,h2,h3,h4,h5⟩:=hp;cases e' with
  |normal=>exact Post.of (e:=.normal) h1 h2 h3 h4 h5
  |exit id=>exact Post.of (e:=.exit id) h1 h2 h3 h4 h5
  |ret=>exact Post.of (e:=.ret) h1 h2 h3 h4 h5
 |cond c x y ihx ihy=>
  intro Q F H h B w G a hH hF hd;simp only[awp,tO]at h;split at h
  ·rename_i t ht;have hc:=uG hF c;rw[ht]at hc;have hc:a.eval c=.bool t:=hc;unfold aIf at h;refine wp_cond hc ?_;cases t with
   |true=>exact ihx Q F H (by simpa using h) B w G a hH hF hd
   |false=>exact ihy Q F H (by simpa using h) B w G a hH hF hd
  ·exact h.elim
 |block id c ih=>
  intro Q F H h B w G a hH hF hd;refine wp_block (wp_mono (ih _ F H h B w G a hH hF hd) λe a' w' hp=>?_);obtain⟨F',H',G',e',rfl,h1,h2,h3,h4,h5⟩:=hp;cases e' with
  |normal=>exact Post.of (e:=.normal) h1 h2 h3 h4 h5
  |ret=>exact Post.of (e:=.ret) h1 h2 h3 h4 h5
  |exit id'=>
   simp only[AExit.toExit,Exit.inBlock];simp only[NJ]at h5;split at h5
   ·rename_i fA;rw[aN (by simpa using fA)];exact Post.of (e:=.normal) h1 h2 h3 h4 h5
   ·rename_i fA;rw[aG (by simpa using fA)];exact Post.of (e:=.exit id') h1 h2 h3 h4 h5
 |loop c ih=>intro Q F H h B w G a hH hF hd;exact h B w G a hH (D7 _ hF) hd
 |ret=>intro Q F H h B w G a hH hF hd;exact wp_ret (Post.of (e:=.ret) (Ext.refl _ _ _) hH hF hd h)
 |exit id=>intro Q F H h B w G a hH hF hd;exact wp_exit (Post.of (e:=.exit id) (Ext.refl _ _ _) hH hF hd h)
 |_=>intro Q F H h;exact h.elim

end
end Go.Proofs.YtdmamdnkcefmmaaGreatDoor
