import Derived.Test.YtdmamdnkcefmmaaGreatDoorKN13
import Derived.Test.YtdmamdnkcefmmaaGreatDoorKNum
import Derived.Test.YtdmamdnkcefmmaaGreatDoorProg
import Derived.KernelRfl
import Derived.Test.YtdmamdnkcefmmaaGreatDoorAbsQ1
import Derived.Test.YtdmamdnkcefmmaaGreatDoorKP11
import Derived.Test.YtdmamdnkcefmmaaGreatDoorKI2
import Derived.Test.YtdmamdnkcefmmaaGreatDoorVO
import Derived.WalkKit
import Derived.BigCall
import Derived.Laws.Externs
import Derived.Laws.Entries
import Derived.Lib.Builder
import Derived.Lib.AppendStr
import Derived.Lib.UnsafeStr
import Derived.RegionTactic
import Derived.Shelf.Spec.SlicesGrow
set_option linter.unusedSimpArgs false
set_option linter.unusedVariables false
set_option maxRecDepth 8000
namespace Go.Proofs.YtdmamdnkcefmmaaGreatDoor
open Go Go.Abs
def zoC (aa:List Dat) (f:Nat):Prop:=∀ (t:VT) (i j:IT) (v:VT),i.nodes+j.nodes≤f→zaI aa v t=true→0≤rdV aa i t→0≤rdV aa j t→zaG (λx=>atV aa x t v) (zbz aa f t i j)=atV aa i t v*atV aa j t v
def ziV (aa:List Dat) (f:Nat):Prop:=∀ (ts:List VT) (l m:List IT) (vs:List VT),IT.nodesL l+IT.nodesL m+1≤f→l.length=ts.length→m.length=ts.length→vs.length=ts.length →
 (∀ (j:Nat) (h1:j<vs.length) (h2:j<ts.length),zaI aa vs[j] ts[j]=true)→(∀ (j:Nat) (h1:j<l.length) (h2:j<ts.length),0≤rdV aa l[j] ts[j])→(∀ (j:Nat) (h1:j<m.length) (h2:j<ts.length),0≤rdV aa m[j] ts[j]) →
 zbg (λr=>atL aa r ts vs) (zch aa f ts l m)=atL aa l ts vs*atL aa m ts vs
def ziW (aa:List Dat) (f:Nat):Prop:=∀ (tn:Int) (tks:List VT) (l m:List IT) (ns:List VT),IT.nodesL l+IT.nodesL m+1≤f→(∀ x∈ns,zaI aa x (.mk 5 tn tks)=true)→0≤rdE aa l (.mk 5 tn tks) 0→0≤rdE aa m (.mk 5 tn tks) 0 →
 zaG (λx=>zaD (wtL aa (zaz x) (.mk 5 tn tks)) ns) (zaO aa f (.mk 5 tn tks) l m)=zaD (wtL aa l (.mk 5 tn tks)) ns*zaD (wtL aa m (.mk 5 tn tks)) ns
theorem zdO {l:List IT} {i:Nat} (h:i<l.length):l[i].nodes≤IT.nodesL l:=by have:=IT.kid_lt (n:=0) h;simp only[IT.nodes]at this;omega
theorem zJF {aa:List Dat} {f:Nat} (hP:zoC aa f):ziV aa (f+1):=by
 intro ts l m vs hf hl hm hv hh hr gF;rw[zhA];have h:=zHW (aa:=aa) (f:=f) hl hm hv (λj hj=>hP ts[j] _ _ _ (by
  have:=zdO (l:=l) (i:=j) (by omega);have:=zdO (l:=m) (i:=j) (by omega);omega) (hh j (by omega) hj) (hr j (by omega) hj) (gF j (by omega) hj)) ts.length (Nat.le_refl _)
 rw[List.take_length,List.take_of_length_le (by omega),List.take_of_length_le (l:=l) (by omega),List.take_of_length_le (l:=m) (by omega)]at h;exact h
theorem zJE {aa:List Dat} {f:Nat} (hQ:ziV aa f) (hR:ziW aa f):zoC aa (f+1):=by
 intro t i j v hf hh hi hj;obtain⟨k,tn,tks⟩:=t;obtain⟨n,l⟩:=i;obtain⟨n',m⟩:=j;obtain⟨vk,vn,vks⟩:=v;simp only[IT.nodes]at hf;rw[rdV]at hi hj;rw[zbz];by_cases h6:k=6
 ·subst h6;simp only[VT.kind,VT.kids,if_true]at hi hj ⊢;by_cases hn:n=0
  ·by_cases hl:tks.length=l.length
   ·by_cases bB:n'=0
    ·by_cases bZ:tks.length=m.length
     ·simp[hn,hl]at hi;simp[bB,bZ]at hj;simp[zaI]at hh;have gJ:=zhn hh.2;have h1:=(zdA (aa:=aa) l tks 0 (by omega) hl.symm hi).1;have h2:=(zdA (aa:=aa) m tks 0 (by omega) bZ.symm hj).1;have e:=hQ tks l m vks (by omega) hl.symm bZ.symm gJ (λj a b=>zhm hh.2 j a b) h1 h2;rw[zbY,zcG,Nat.zero_add,zgB];have e1:∀ x:List IT,atV aa (.mk 0 x) (.mk 6 tn tks) (.mk vk vn vks)=atL aa x tks vks:=λx=>by simp[atV,VT.kind,VT.kids]
      subst hn bB;rw[e1,e1,←e];simp only[e1,zaz];rfl
     ·simp[bB,bZ]at hj
    ·simp[bB]at hj
   ·simp[hn,hl]at hi
  ·simp[hn]at hi
 ·by_cases h7:k=7
  ·subst h7;simp only[VT.kind,h6,if_false,if_true]at hi hj ⊢;by_cases hc:0≤n∧n≤6∧l.length=0
   ·by_cases fG:0≤n'∧n'≤6∧m.length=0
    ·obtain⟨a1,a2,a3⟩:=hc;obtain⟨b1,b2,b3⟩:=fG;have e1:∀ (x:Int) (y:List IT),atV aa (.mk x y) (.mk 7 tn tks) (.mk vk vn vks)=chs vks.length x.toNat:=λx y=>by simp[atV,VT.kind,VT.kids]
     simp only[zaJ];rw[e1,e1];exact zFy vks.length n.toNat n'.toNat _ (λk=>by rw[e1];simp) (by omega) (by omega)
    ·rw[if_neg fG]at hj;omega
   ·rw[if_neg hc]at hi;omega
  ·by_cases h5:k=5
   ·subst h5;simp only[VT.kind,h6,h7,if_false,if_true]at hi hj ⊢;by_cases hc:n=0∧l.length≤6
    ·by_cases fG:n'=0∧m.length≤6
     ·rw[if_pos hc]at hi;rw[if_pos fG]at hj;obtain⟨_,htn0,_⟩:=zgg hh;obtain⟨d,rfl⟩:∃ d:Nat,tn=d:=⟨tn.toNat,by omega⟩;have eD:=zyt (aa:=aa) (n:=d) (al:=tks) _ (.mk vk vn vks) (Nat.le_refl _) hh;have e:=hR d tks l m (zbU (zbK aa d) (.mk vk vn vks)) (by omega) eD hi hj;have e1:∀ x:IT,atV aa x (.mk 5 d tks) (.mk vk vn vks)=zaD (wtL aa (zaz x) (.mk 5 d tks)) (zbU (zbK aa d) (.mk vk vn vks)):=λx=>by obtain⟨a,b⟩:=x;simp[atV,VT.kind,VT.num,zaz]
      rw[zbY,zcG,Nat.zero_add];simp only[e1,zaz];exact e
     ·rw[if_neg fG]at hj;omega
    ·rw[if_neg hc]at hi;omega
   ·simp[VT.kind,h6,h7,h5,atV]
theorem zrf (f:IT→Nat) (h:IT→IT) (c:Nat):∀ l:List (IT × Nat),zaG f (l.map λw=>(h w.1,c*w.2))=c*zaG f (l.map λw=>(h w.1,w.2))
 | []=>by simp
 | w::l=>by rw[List.map_cons,List.map_cons,zco,zco,zrf f h c l,Nat.mul_add,Nat.mul_assoc]
theorem zJG {aa:List Dat} (h8:∀ D∈aa,D.cons.length≤8) (hk:zbb aa) {f:Nat} (hQ:ziV aa f) (hR:ziW aa f):ziW aa (f+1):=by
 intro tn tks l m ns hf eX hl hm;cases l with
 | nil=>simp[zaO,wtL,zaD,zaz]
 | cons a l=>
  cases m with
  | nil=>simp[zaO,wtL,zaD,zaz]
  | cons b m=>
   obtain⟨T,hT⟩:∃ T,T=VT.mk 5 tn tks:=⟨_,rfl⟩;have ha:=a.nodes_pos;have hb:=b.nodes_pos;simp only[IT.nodesL]at hf;have dT:0≤rdE aa l T 0:=by
    subst hT;have e:[[a],l].flatten=a::l:=by simp
    rw[←e]at hl;exact (zfD h8 _ _ 0 (by omega) (by omega) hl).1 l (by simp)
   have iQ:0≤rdE aa m T 0:=by
    subst hT;have e:[[b],m].flatten=b::m:=by simp
    rw[←e]at hm;exact (zfD h8 _ _ 0 (by omega) (by omega) hm).1 m (by simp)
   have hA:∀ ns,(∀ x∈ns,zaI aa x T=true)→zaG (λx=>zaD (wtL aa (zaz x) T) ns) (zaO aa f T l (b::m))=zaD (wtL aa l T) ns*zaD (wtL aa (b::m) T) ns:=λns eX=>by subst hT;exact hR tn tks l (b::m) ns (by simp only[IT.nodesL];omega) eX dT hm
   have hB:∀ ns,(∀ x∈ns,zaI aa x T=true)→zaG (λx=>zaD (wtL aa (zaz x) T) ns) (zaO aa f T (a::l) m)=zaD (wtL aa (a::l) T) ns*zaD (wtL aa m T) ns:=λns eX=>by subst hT;exact hR tn tks (a::l) m ns (by simp only[IT.nodesL];omega) eX hl iQ
   have hC:∀ ns,(∀ x∈ns,zaI aa x T=true)→zaG (λx=>zaD (wtL aa (zaz x) T) ns) (zaO aa f T l m)=zaD (wtL aa l T) ns*zaD (wtL aa m T) ns:=λns eX=>by subst hT;exact hR tn tks l m ns (by omega) eX dT iQ
   -- what an element ahead counts
   have jD:∀ (e x:IT) (n:VT) (ns:List VT),zaD (wtL aa (zaz (bef e x)) T) (n::ns)=wtE aa e T n*zaD (wtL aa (zaz x) T) ns+zaD (wtL aa (zaz (bef e x)) T) ns:=λe x n ns=>by simp only[bef,zaz,wtL,zaD]
   have gy:∀ (e x:IT),zaD (wtL aa (zaz (bef e x)) T) []=0:=λe x=>by simp only[bef,zaz,wtL,zaD]
   -- both elements at once
   have bt:zaJ a=zaJ b→∀ n,zaI aa n T=true→zbg (λr=>wtE aa (.mk (zaJ a) r) T n) (zch aa f ((za7 aa T (zaJ a)).getD []) (zaz a) (zaz b))=wtE aa a T n*wtE aa b T n:=by
    intro a8 n hn;obtain⟨c,pa⟩:=a;obtain⟨c',pb⟩:=b;simp only[zaJ]at a8;subst a8;subst hT;obtain⟨ps,dI,gg,mH,_⟩:=zkp h8 hl (j:=0) (by simp) (c:=c) (eks:=pa) (by simp);obtain⟨ps',hq1,lh,hq3,_⟩:=zkp h8 hm (j:=0) (by simp) (c:=c) (eks:=pb) (by simp);rw[dI]at hq1;cases hq1;obtain⟨nk,nc,nks⟩:=n;obtain⟨rfl,_⟩:=zgg hn;simp only[zaJ,zaz,wtE,VT.num,VT.kids,dI,Option.getD_some];by_cases hc:nc=c
    ·subst hc;simp only[if_true];obtain⟨lf,gz⟩:∃ lf,za6 aa (.mk 5 tn tks) nc=some lf:=by
      cases gz:za6 aa (.mk 5 tn tks) nc with
      | none=>simp[za7,gz]at dI
      | some lf=>exact⟨lf,rfl⟩
     obtain⟨bs,ie,bn,gM,bt,cg,_,_,_,_,dW,_⟩:=zkg hk gz;rw[dI]at bt;obtain rfl:ps=pick lf bs:=Option.some.inj bt;obtain⟨bS,mF⟩:=zx4 hn gz bn;rw[ie];have bW:(pick nks bs).length=(pick lf bs).length:=by have e1:=ze1 (l:=nks) (bs:=bs) (by omega) tz nks.length (Nat.le_refl _);have e2:=ze1 (l:=lf) (bs:=bs) bn tz lf.length (Nat.le_refl _);rw[List.take_length,bS,bn,List.take_length]at e1;rw[List.take_length,bn,List.take_length]at e2;rw[e1,e2];simp
     have h1:=(zdA (aa:=aa) pa (pick lf bs) 0 (by omega) gg.symm mH).1;have h2:=(zdA (aa:=aa) pb (pick lf bs) 0 (by omega) lh.symm hq3).1;exact hQ (pick lf bs) pa pb (pick nks bs) (by simp only[IT.nodes]at hf;omega) gg.symm lh.symm bW (λj h1 h2=>mF j h1 h2) h1 h2
    ·simp only[hc,if_false,Nat.mul_zero];have:∀ s:List (List IT × Nat),zbg (λ_=>0) s=0:=λs=>by
      induction s with
      | nil=>rfl
      | cons x s ih=>simp[ih]
     exact this _
   have da:zaJ a≠zaJ b→∀ n,wtE aa a T n*wtE aa b T n=0:=by
    intro a8 n;obtain⟨c,pa⟩:=a;obtain⟨c',pb⟩:=b;simp only[zaJ]at a8;simp only[wtE];by_cases h1:n.num=c
    ·by_cases h2:n.num=c'
     ·exact absurd (h1.symm.trans h2) a8
     ·simp[h2]
    ·simp[h1]
   rw[←hT]at eX ⊢
   -- the three sums
   obtain⟨F1,lG⟩:∃ F1:List VT→Nat,F1=λns=>zaG (λx=>zaD (wtL aa (zaz x) T) ns) ((zaO aa f T l (b::m)).map λw=>(bef a w.1,w.2)):=⟨_,rfl⟩;obtain⟨F2,jT⟩:∃ F2:List VT→Nat,F2=λns=>zaG (λx=>zaD (wtL aa (zaz x) T) ns) ((zaO aa f T (a::l) m).map λw=>(bef b w.1,w.2)):=⟨_,rfl⟩;have f1n:∀ n ns,F1 (n::ns)=wtE aa a T n*zaG (λx=>zaD (wtL aa (zaz x) T) ns) (zaO aa f T l (b::m))+F1 ns:=λn ns=>by rw[lG];simp only;rw[zkC _ (λx=>zaD (wtL aa (zaz x) T) ns) (λx=>zaD (wtL aa (zaz (bef a x)) T) ns) (bef a) (wtE aa a T n) (λx=>jD a x n ns)];congr 1;rw[zd5 _ (λx=>zaD (wtL aa (zaz (bef a x)) T) ns) (bef a) 1 (λx=>by rw[Nat.one_mul]),Nat.one_mul]
   have f2n:∀ n ns,F2 (n::ns)=wtE aa b T n*zaG (λx=>zaD (wtL aa (zaz x) T) ns) (zaO aa f T (a::l) m)+F2 ns:=λn ns=>by rw[jT];simp only;rw[zkC _ (λx=>zaD (wtL aa (zaz x) T) ns) (λx=>zaD (wtL aa (zaz (bef b x)) T) ns) (bef b) (wtE aa b T n) (λx=>jD b x n ns)];congr 1;rw[zd5 _ (λx=>zaD (wtL aa (zaz (bef b x)) T) ns) (bef b) 1 (λx=>by rw[Nat.one_mul]),Nat.one_mul]
   have f1z:F1 []=0:=by rw[lG];simp only;rw[zd5 _ (λ_=>0) (bef a) 0 (λx=>by rw[gy])];simp
   have f2z:F2 []=0:=by rw[jT];simp only;rw[zd5 _ (λ_=>0) (bef b) 0 (λx=>by rw[gy])];simp
   rw[zaO];by_cases a8:zaJ a=zaJ b
   ·rw[if_neg (by simpa using a8)];obtain⟨R,mI⟩:∃ R,R=zch aa f ((za7 aa T (zaJ a)).getD []) (zaz a) (zaz b):=⟨_,rfl⟩;rw[←mI]at bt ⊢;obtain⟨F3,lH⟩:∃ F3:List (List IT × Nat)→List VT→Nat,F3=λR ns=>zaG (λx=>zaD (wtL aa (zaz x) T) ns) (R.flatMap λr=>(zaO aa f T l m).map λw=>(bef (.mk (zaJ a) r.1) w.1,r.2*w.2)):=⟨_,rfl⟩;have f3c:∀ r R ns,F3 (r::R) ns=r.2*zaG (λx=>zaD (wtL aa (zaz x) T) ns) ((zaO aa f T l m).map λw=>(bef (.mk (zaJ a) r.1) w.1,w.2))+F3 R ns:=λr R ns=>by rw[lH];simp only[List.flatMap_cons];rw[zgA,zrf]
    have f3n:∀ n ns R,F3 R (n::ns)=zbg (λr=>wtE aa (.mk (zaJ a) r) T n) R*zaG (λx=>zaD (wtL aa (zaz x) T) ns) (zaO aa f T l m)+F3 R ns:=by
     intro n ns R;induction R with
     | nil=>rw[lH];simp
     | cons r R ih=>
      rw[f3c,f3c,ih,zgC,zkC _ (λx=>zaD (wtL aa (zaz x) T) ns) (λx=>zaD (wtL aa (zaz (bef (.mk (zaJ a) r.1) x)) T) ns) (bef (.mk (zaJ a) r.1)) (wtE aa (.mk (zaJ a) r.1) T n) (λx=>jD _ x n ns),
       zd5 _ (λx=>zaD (wtL aa (zaz (bef (.mk (zaJ a) r.1) x)) T) ns) (bef (.mk (zaJ a) r.1)) 1 (λx=>by rw[Nat.one_mul])]
      grind
    have f3z:∀ R,F3 R []=0:=by
     intro R;induction R with
     | nil=>rw[lH];simp
     | cons r R ih=>rw[f3c,ih,zd5 _ (λ_=>0) (bef (.mk (zaJ a) r.1)) 0 (λx=>by rw[gy])];simp
    have key:∀ ns,(∀ x∈ns,zaI aa x T=true)→F1 ns+F2 ns+F3 R ns=zaD (wtL aa (a::l) T) ns*zaD (wtL aa (b::m) T) ns:=by
     intro ns;induction ns with
     | nil=>intro _;rw[f1z,f2z,f3z];simp[wtL,zaD]
     | cons n ns ih=>intro h;have h':∀ x∈ns,zaI aa x T=true:=λx hx=>h x (by simp[hx]);have ih:=ih h';rw[f1n,f2n,f3n,hA ns h',hB ns h',hC ns h',bt a8 n (h n (by simp))];simp only[wtL,zaD]at ih ⊢;grind
    rw[zbY,zbY,zbY,zcG,Nat.zero_add];have:=key ns eX;rw[lG,jT,lH]at this;exact this
   ·rw[if_pos (by simpa using a8)];have key:∀ ns,(∀ x∈ns,zaI aa x T=true)→F1 ns+F2 ns=zaD (wtL aa (a::l) T) ns*zaD (wtL aa (b::m) T) ns:=by
     intro ns;induction ns with
     | nil=>intro _;rw[f1z,f2z];simp[wtL,zaD]
     | cons n ns ih=>
      intro h;have h':∀ x∈ns,zaI aa x T=true:=λx hx=>h x (by simp[hx]);have ih:=ih h';have h0:=da a8 n;rw[f1n,f2n,hA ns h',hB ns h'];simp only[wtL,zaD]at ih ⊢;have fK:wtE aa a T n*zaD (wtL aa l T) ns*(wtE aa b T n*zaD (wtL aa m T) ns)=0:=by rw[show wtE aa a T n*zaD (wtL aa l T) ns*(wtE aa b T n*zaD (wtL aa m T) ns)=(wtE aa a T n*wtE aa b T n)*(zaD (wtL aa l T) ns*zaD (wtL aa m T) ns) by grind,h0,Nat.zero_mul]
      grind
    rw[zbY,zbY,zcG,Nat.zero_add];have:=key ns eX;rw[lG,jT]at this;exact this
theorem zzS {aa:List Dat} (h8:∀ D∈aa,D.cons.length≤8) (hk:zbb aa):∀ f,zoC aa f∧ziV aa f∧ziW aa f
 | 0=>⟨λt i j v h=>by have:=i.nodes_pos;omega,λts l m vs h=>by omega,λtn tks l m ns h=>by omega⟩
 | f+1=>by obtain⟨h1,h2,h3⟩:=zzS h8 hk f;exact⟨zJE h2 h3,zJF h1,zJG h8 hk h2 h3⟩
theorem zoL {s:List (IT × Nat)} {i:IT} {c:Nat}:∀ p∈zdq s i c,(∃ q∈s,q.1=p.1∧q.2≤p.2)∨(0<c∧p.1=i∧c≤p.2):=by
 intro p hp;unfold zdq at hp;split at hp
 ·exact .inl ⟨p,hp,rfl,Nat.le_refl _⟩
 ·rename_i hc;rcases zFq p hp with (h | h) | ⟨q,hq,h⟩
  ·exact .inl ⟨p,h,rfl,Nat.le_refl _⟩
  ·exact .inr ⟨by omega,by rw[h],by rw[h];exact Nat.le_refl _⟩
  ·exact .inl ⟨q,hq,by rw[h],by rw[h];simp⟩
theorem zfi:∀ (l s:List (IT × Nat)),(∀ q∈s,0<q.2)→∀ p∈zck s l,0<p.2∧((∃ q∈s,q.1=p.1)∨∃ q∈l,0<q.2∧q.1=p.1)
 | [],s,hs,p,hp=>⟨hs p hp,.inl ⟨p,hp,rfl⟩⟩
 | x::l,s,hs,p,hp=>by
  have hp:p∈zck (zdq s x.1 x.2) l:=hp;have h1:∀ q∈zdq s x.1 x.2,0<q.2:=λq hq=>by
   rcases zoL q hq with ⟨r,hr,_,h⟩ | ⟨h,_,h2⟩
   ·have:=hs r hr;omega
   ·omega
  obtain⟨h2,h3⟩:=zfi l _ h1 p hp;refine⟨h2,?_⟩;rcases h3 with ⟨q,hq,he⟩ | ⟨q,hq,h4,he⟩
  ·rcases zoL q hq with ⟨r,hr,h5,_⟩ | ⟨h5,h6,_⟩
   ·exact .inl ⟨r,hr,by rw[h5,he]⟩
   ·exact .inr ⟨x,by simp,h5,by rw[←he,h6]⟩
  ·exact .inr ⟨q,by simp[hq],h4,he⟩
theorem zpA {s:List (IT × Nat)} {p:IT × Nat} (h:p∈s):p.2≤zaG (λ_=>1) s:=by
 induction s with
 | nil=>simp at h
 | cons q s ih=>
  rw[zco];rcases List.mem_cons.1 h with rfl | h
  ·omega
  ·have:=ih h;omega
theorem zxt {s:List (IT × Nat)} (h:∀ p∈s,0<p.2):s.length≤zaG (λ_=>1) s:=by
 induction s with
 | nil=>simp
 | cons q s ih=>have h1:=ih λp hp=>h p (by simp[hp]);have h2:=h q (by simp);rw[zco,List.length_cons];omega
theorem zJh (f:IT→Nat) (l:List (IT × Nat)) (k:Nat):zaG f (l.take k)≤zaG f l:=by have h:=zgA f (l.take k) (l.drop k);rw[List.take_append_drop]at h;omega
theorem zgt {aa:List Dat} (x:IT) (t:VT):∀ (a:List IT) (ts:List VT) (s:Int),a.length=ts.length→0≤s→0≤rdA aa a ts s→rdA aa (a++[x]) (ts++[t]) s=if rdV aa x t<0∨rdA aa a ts s+rdV aa x t>6 then -1 else rdA aa a ts s+rdV aa x t
 | [],[],s,_,hs,_=>by
  have e:rdA aa [] [] s=s:=by simp only[rdA]
  rw[e,List.nil_append,List.nil_append];simp only[rdA]
 | [],_::_,_,h,_,_=>by simp at h
 | _::_,[],_,h,_,_=>by simp at h
 | v::a,t'::ts,s,h,hs,hr=>by
  simp only[rdA]at hr;by_cases hc:rdV aa v t'<0∨s+rdV aa v t'>6
  ·rw[if_pos hc]at hr;omega
  ·rw[if_neg hc]at hr;have:=zgt x t a ts (s+rdV aa v t') (by simpa using h) (by omega) hr;simp only[List.cons_append,rdA,if_neg hc];exact this
theorem zdg {aa:List Dat}:∀ (a:List IT) (ts:List VT) (s:Int) (k:Nat),a.length=ts.length→0≤s→0≤rdA aa a ts s→0≤rdA aa (a.take k) (ts.take k) s∧rdA aa (a.take k) (ts.take k) s≤rdA aa a ts s
 | a,ts,s,0,_,hs,hr=>by have:=zqO a ts s hs hr;simp only[List.take_zero,rdA];omega
 | [],[],s,k+1,_,hs,hr=>by simp only[List.take_nil,rdA];omega
 | [],_::_,_,_+1,h,_,_=>by simp at h
 | _::_,[],_,_+1,h,_,_=>by simp at h
 | v::a,t::ts,s,k+1,h,hs,hr=>by
  simp only[rdA]at hr;by_cases hc:rdV aa v t<0∨s+rdV aa v t>6
  ·rw[if_pos hc]at hr;omega
  ·rw[if_neg hc]at hr;have:=zdg a ts (s+rdV aa v t) k (by simpa using h) (by omega) hr;simp only[List.take_succ_cons,rdA,if_neg hc];exact this
theorem zkr {aa:List Dat} (h8:∀ D∈aa,D.cons.length≤8) (t:VT) (a:IT) (l:List IT) (h:0≤rdE aa (a::l) t 0):0≤rdE aa [a] t 0∧0≤rdE aa l t 0∧rdE aa (a::l) t 0=rdE aa [a] t 0+rdE aa l t 0:=by
 have e:[[a],l].flatten=a::l:=by simp
 rw[←e]at h;obtain⟨h1,h2⟩:=zfD h8 _ _ 0 (by omega) (by omega) h;rw[e]at h2;refine⟨h1 [a] (by simp),h1 l (by simp),?_⟩;rw[h2];simp
theorem zqQ {aa:List Dat} (h8:∀ D∈aa,D.cons.length≤8) (t:VT) (a:IT) (l:List IT) (h1:0≤rdE aa [a] t 0) (h2:0≤rdE aa l t 0) (h3:rdE aa [a] t 0+rdE aa l t 0≤6):rdE aa (a::l) t 0=rdE aa [a] t 0+rdE aa l t 0:=by have e:a::l=[a]++l:=rfl;rw[e,zqP h8 _ _ _ _ (by omega) (by omega),if_neg (by omega),zko l t _ h1 (by omega),zfh h2 h3]
theorem zHO {aa:List Dat} {c:Int} {ks:List IT} {t:VT} {ps:List VT} (h0:0≤c) (h8:c<8) (hp:za7 aa t c=some ps) (hl:ps.length=ks.length) (hr:0≤rdA aa ks ps 0) (h6:1+rdA aa ks ps 0≤6):rdE aa [.mk c ks] t 0=1+rdA aa ks ps 0:=by rw[zev,if_neg (by omega),hp];simp only;rw[if_pos hl,if_neg (by omega)];simp only[rdE];omega
theorem zh4 {aa:List Dat} {c:Int} {ks:List IT} {t:VT} (h:0≤rdE aa [.mk c ks] t 0):0≤c∧c<8∧∃ ps,za7 aa t c=some ps∧ps.length=ks.length∧0≤rdA aa ks ps 0∧rdE aa [.mk c ks] t 0=1+rdA aa ks ps 0:=by
 rw[zev]at h ⊢;split at h
 ·omega
 ·rename_i hc;cases hp:za7 aa t c with
  | none=>rw[hp]at h;simp at h
  | some ps=>
   rw[hp]at h;simp only at h;by_cases hl:ps.length=ks.length
   ·rw[if_pos hl]at h;by_cases hx:rdA aa ks ps 0<0∨0+1+rdA aa ks ps 0>6
    ·rw[if_pos hx]at h;omega
    ·refine⟨by omega,by omega,ps,rfl,hl,by omega,?_⟩;rw[if_neg hc];simp only;rw[if_pos hl,if_neg hx];simp only[rdE];omega
   ·rw[if_neg hl]at h;omega
theorem p3 {a b:Int} (h0:0≤a) (h:a≤b):3 ^ a.toNat≤3 ^ b.toNat:=Nat.pow_le_pow_right (by omega) (by omega)
theorem zqG {a b:Int} (h0:0≤a) (h:0≤b):3 ^ (a+b).toNat=3 ^ a.toNat*3 ^ b.toNat:=by rw[show (a+b).toNat=a.toNat+b.toNat by omega,Nat.pow_add]
def zox (aa:List Dat) (f:Nat):Prop:=∀ (t:VT) (i j:IT),i.nodes+j.nodes≤f→0≤rdV aa i t→0≤rdV aa j t→rdV aa i t+rdV aa j t≤6 →
 (∀ p∈zbz aa f t i j,0<p.2∧0≤rdV aa p.1 t∧rdV aa p.1 t≤rdV aa i t+rdV aa j t∧rdV aa i t≤rdV aa p.1 t∧rdV aa j t≤rdV aa p.1 t∧p.1.nodes≤i.nodes+j.nodes)∧zaG (λ_=>1) (zbz aa f t i j)≤3 ^ (rdV aa i t+rdV aa j t).toNat
def ziP (aa:List Dat) (f:Nat):Prop:=∀ (ts:List VT) (l m:List IT),IT.nodesL l+IT.nodesL m+1≤f→l.length=ts.length→m.length=ts.length→0≤rdA aa l ts 0→0≤rdA aa m ts 0→rdA aa l ts 0+rdA aa m ts 0≤6 →
 (∀ r∈zch aa f ts l m,0<r.2∧r.1.length=ts.length∧0≤rdA aa r.1 ts 0∧rdA aa r.1 ts 0≤rdA aa l ts 0+rdA aa m ts 0∧rdA aa l ts 0≤rdA aa r.1 ts 0∧rdA aa m ts 0≤rdA aa r.1 ts 0∧IT.nodesL r.1≤IT.nodesL l+IT.nodesL m) ∧
  zbg (λ_=>1) (zch aa f ts l m)≤3 ^ (rdA aa l ts 0+rdA aa m ts 0).toNat
def ziQ (aa:List Dat) (f:Nat):Prop:=∀ (t:VT) (l m:List IT),IT.nodesL l+IT.nodesL m+1≤f→0≤rdE aa l t 0→0≤rdE aa m t 0→rdE aa l t 0+rdE aa m t 0≤6 →
 (∀ p∈zaO aa f t l m,0<p.2∧zaJ p.1=0∧0≤rdE aa (zaz p.1) t 0∧rdE aa (zaz p.1) t 0≤rdE aa l t 0+rdE aa m t 0∧rdE aa l t 0≤rdE aa (zaz p.1) t 0∧rdE aa m t 0≤rdE aa (zaz p.1) t 0∧IT.nodesL (zaz p.1)≤IT.nodesL l+IT.nodesL m) ∧
  zaG (λ_=>1) (zaO aa f t l m)≤3 ^ (rdE aa l t 0+rdE aa m t 0).toNat
theorem zHY (out:List (List IT × Nat)) (ws:List (IT × Nat)):zbg (λ_=>1) (zdB out ws)=zbg (λ_=>1) out*zaG (λ_=>1) ws:=zyH _ (λ_=>1) (λ_=>1) ws out (λr _ w _=>by simp)
theorem zGa {aa:List Dat} {f:Nat} (hP:zox aa f):ziP aa (f+1):=by
 intro ts l m hf hl hm hA hB h6;rw[zhA];have key:∀ k,k≤ts.length→(∀ r∈zcm aa f ts l m k,0<r.2∧0≤rdA aa r.1 (ts.take k) 0∧rdA aa r.1 (ts.take k) 0≤rdA aa (l.take k) (ts.take k) 0+rdA aa (m.take k) (ts.take k) 0∧rdA aa (l.take k) (ts.take k) 0≤rdA aa r.1 (ts.take k) 0∧rdA aa (m.take k) (ts.take k) 0≤rdA aa r.1 (ts.take k) 0 ∧
   IT.nodesL r.1≤IT.nodesL (l.take k)+IT.nodesL (m.take k))∧zbg (λ_=>1) (zcm aa f ts l m k)≤3 ^ (rdA aa (l.take k) (ts.take k) 0+rdA aa (m.take k) (ts.take k) 0).toNat:=by
  intro k;induction k with
  | zero=>intro _;refine⟨λr hr=>?_,by simp[zku,rdA]⟩;simp[zku]at hr;subst hr;simp[rdA,IT.nodesL]
  | succ k ih=>
   intro hk;obtain⟨ih1,ih2⟩:=ih (by omega);have h1:k<ts.length:=by omega
   have h3:k<l.length:=by omega
   have h4:k<m.length:=by omega
   have eg:zbz aa f (ts.getD k tz) (l.getD k d0) (m.getD k d0)=zbz aa f ts[k] l[k] m[k]:=by simp[List.getD_eq_getElem?_getD,h1,h3,h4]
   have a1:=zdg l ts 0 k hl (by omega) hA;have a2:=zdg l ts 0 (k+1) hl (by omega) hA;have b1:=zdg m ts 0 k hm (by omega) hB;have b2:=zdg m ts 0 (k+1) hm (by omega) hB;have ea:ts.take (k+1)=ts.take k++[ts[k]]:=List.take_succ_eq_append_getElem h1;have el:l.take (k+1)=l.take k++[l[k]]:=List.take_succ_eq_append_getElem h3;have em:m.take (k+1)=m.take k++[m[k]]:=List.take_succ_eq_append_getElem h4;have sl:=zgt (aa:=aa) l[k] ts[k] (l.take k) (ts.take k) 0 (by simp;omega) (by omega) a1.1;have sm:=zgt (aa:=aa) m[k] ts[k] (m.take k) (ts.take k) 0 (by simp;omega) (by omega) b1.1;rw[←el,←ea]at sl;rw[←em,←ea]at sm;by_cases cl:rdV aa l[k] ts[k]<0∨rdA aa (l.take k) (ts.take k) 0+rdV aa l[k] ts[k]>6
   ·rw[if_pos cl]at sl;omega
   ·rw[if_neg cl]at sl;by_cases cm:rdV aa m[k] ts[k]<0∨rdA aa (m.take k) (ts.take k) 0+rdV aa m[k] ts[k]>6
    ·rw[if_pos cm]at sm;omega
    ·rw[if_neg cm]at sm;have n1:=zdO h3;have n2:=zdO h4;obtain⟨dI,gg⟩:=hP ts[k] l[k] m[k] (by omega) (by omega) (by omega) (by omega);have nl:=IT.nodesL_take h3;have nm:=IT.nodesL_take h4;rw[zgv,eg];constructor
     ·intro r hr;obtain⟨q,hq,w,hw,rfl⟩:=zyG hr;obtain⟨q1,q2,q3,q4,q5,q6⟩:=ih1 q hq;obtain⟨w1,w2,w3,w4,w5,w6⟩:=dI w hw;have iT:=zqT k q hq;have sr:=zgt (aa:=aa) w.1 ts[k] q.1 (ts.take k) 0 (by simp;omega) (by omega) q2;rw[←ea,if_neg (by omega)]at sr;simp only;rw[sr,IT.nodesL_app];simp only[IT.nodesL];exact⟨Nat.mul_pos q1 w1,by omega,by omega,by omega,by omega,by omega⟩
     ·rw[zHY,sl,sm];rw[show rdA aa (l.take k) (ts.take k) 0+rdV aa l[k] ts[k]+(rdA aa (m.take k) (ts.take k) 0+rdV aa m[k] ts[k])=(rdA aa (l.take k) (ts.take k) 0+rdA aa (m.take k) (ts.take k) 0)+(rdV aa l[k] ts[k]+rdV aa m[k] ts[k]) by omega,zqG (by omega) (by omega)];exact Nat.mul_le_mul ih2 gg
 obtain⟨k1,k2⟩:=key ts.length (Nat.le_refl _);rw[List.take_length,List.take_of_length_le (l:=l) (by omega),List.take_of_length_le (l:=m) (by omega)]at k1 k2;exact⟨λr hr=>by
  obtain⟨q1,q2,q3,q4,q5,q6⟩:=k1 r hr;exact⟨q1,zqT _ r hr,q2,q3,q4,q5,q6⟩,k2⟩
theorem zGb {aa:List Dat} (h8:∀ D∈aa,D.cons.length≤8) {f:Nat} (hQ:ziP aa f) (hR:ziQ aa f):ziQ aa (f+1):=by
 intro t l m hf hl hm h6;cases l with
 | nil=>
  have e0:rdE aa [] t 0=0:=by simp only[rdE]
  have hN:=p3 (a:=0) (b:=rdE aa m t 0) (by omega) (by omega);refine⟨λp hp=>?_,by simp[zaO,e0];simpa using hN⟩;simp[zaO]at hp;subst hp;simp only[zaJ,zaz,e0,IT.nodesL];exact⟨by omega,trivial,hm,by omega,by omega,by omega,by omega⟩
 | cons a l=>
  cases m with
  | nil=>
   have e0:rdE aa [] t 0=0:=by simp only[rdE]
   have hN:=p3 (a:=0) (b:=rdE aa (a::l) t 0) (by omega) (by omega);refine⟨λp hp=>?_,by simp[zaO,e0];simpa using hN⟩;simp[zaO]at hp;subst hp;simp only[zaJ,zaz,e0,IT.nodesL];exact⟨by omega,trivial,hl,by omega,by omega,by omega,by omega⟩
  | cons b m=>
   have hna:=a.nodes_pos;have ga:=b.nodes_pos;obtain⟨la,ll,el⟩:=zkr h8 t a l hl;obtain⟨mb,mm,em⟩:=zkr h8 t b m hm;simp only[IT.nodesL]at hf;obtain⟨ca,pa⟩:=a;obtain⟨cb,pb⟩:=b;obtain⟨ca0,ca8,psa,fu,jZ,lI,ea⟩:=zh4 la;obtain⟨cb0,cb8,psb,kN,bn,lJ,eb⟩:=zh4 mb;obtain⟨A1,A2⟩:=hR t l (.mk cb pb::m) (by simp only[IT.nodesL];omega) ll hm (by omega);obtain⟨B1,B2⟩:=hR t (.mk ca pa::l) m (by simp only[IT.nodesL];omega) hl mm (by omega);obtain⟨C1,C2⟩:=hR t l m (by omega) ll mm (by omega);obtain⟨s,hs⟩:∃ s,s=rdE aa (.mk ca pa::l) t 0+rdE aa (.mk cb pb::m) t 0:=⟨_,rfl⟩;have n1:zaG (λ_=>1) (zck [] ((zaO aa f t l (.mk cb pb::m)).map λw=>(bef (.mk ca pa) w.1,w.2)))≤3 ^ (s-1).toNat:=by rw[zbY,zcG,Nat.zero_add,zd5 _ (λ_=>1) (bef (.mk ca pa)) 1 (λx=>by simp),Nat.one_mul];exact Nat.le_trans A2 (p3 (by omega) (by omega))
   have n2:zaG (λ_=>1) ((zaO aa f t (.mk ca pa::l) m).map λw=>(bef (.mk cb pb) w.1,w.2))≤3 ^ (s-1).toNat:=by rw[zd5 _ (λ_=>1) (bef (.mk cb pb)) 1 (λx=>by simp),Nat.one_mul];exact Nat.le_trans B2 (p3 (by omega) (by omega))
   have h3s:3 ^ s.toNat=3*3 ^ (s-1).toNat:=by rw[show s.toNat=(s-1).toNat+1 by omega,Nat.pow_succ,Nat.mul_comm]
   -- the terms of the three af
   have t1:∀ w∈zaO aa f t l (.mk cb pb::m),0<w.2→zaJ (bef (.mk ca pa) w.1)=0∧0≤rdE aa (zaz (bef (.mk ca pa) w.1)) t 0∧rdE aa (zaz (bef (.mk ca pa) w.1)) t 0≤s∧rdE aa (.mk ca pa::l) t 0≤rdE aa (zaz (bef (.mk ca pa) w.1)) t 0∧rdE aa (.mk cb pb::m) t 0≤rdE aa (zaz (bef (.mk ca pa) w.1)) t 0∧IT.nodesL (zaz (bef (.mk ca pa) w.1))≤IT.nodesL (.mk ca pa::l)+IT.nodesL (.mk cb pb::m):=by intro w hw _;obtain⟨_,_,w2,w3,w4,w5,w6⟩:=A1 w hw;have ej:=zqQ h8 t (.mk ca pa) (zaz w.1) la w2 (by omega);have eb:zaz (bef (.mk ca pa) w.1)=.mk ca pa::zaz w.1:=rfl;rw[eb];simp only[IT.nodesL]at w6 ⊢;exact⟨rfl,by omega,by omega,by omega,by omega,by omega⟩
   have t2:∀ w∈zaO aa f t (.mk ca pa::l) m,0<w.2→zaJ (bef (.mk cb pb) w.1)=0∧0≤rdE aa (zaz (bef (.mk cb pb) w.1)) t 0∧rdE aa (zaz (bef (.mk cb pb) w.1)) t 0≤s∧rdE aa (.mk ca pa::l) t 0≤rdE aa (zaz (bef (.mk cb pb) w.1)) t 0∧rdE aa (.mk cb pb::m) t 0≤rdE aa (zaz (bef (.mk cb pb) w.1)) t 0∧IT.nodesL (zaz (bef (.mk cb pb) w.1))≤IT.nodesL (.mk ca pa::l)+IT.nodesL (.mk cb pb::m):=by intro w hw _;obtain⟨_,_,w2,w3,w4,w5,w6⟩:=B1 w hw;have ej:=zqQ h8 t (.mk cb pb) (zaz w.1) mb w2 (by omega);have eb:zaz (bef (.mk cb pb) w.1)=.mk cb pb::zaz w.1:=rfl;rw[eb];simp only[IT.nodesL]at w6 ⊢;exact⟨rfl,by omega,by omega,by omega,by omega,by omega⟩
   rw[←hs];have emp:∀ q∈([]:List (IT × Nat)),0<q.2:=λq hq=>by simp at hq
   have g1:=zfi ((zaO aa f t l (.mk cb pb::m)).map λw=>(bef (.mk ca pa) w.1,w.2)) [] emp;have g2:=zfi ((zaO aa f t (.mk ca pa::l) m).map λw=>(bef (.mk cb pb) w.1,w.2)) (zck [] ((zaO aa f t l (.mk cb pb::m)).map λw=>(bef (.mk ca pa) w.1,w.2))) (λq hq=>(g1 q hq).1);have two:∀ p∈zck (zck [] ((zaO aa f t l (.mk cb pb::m)).map λw=>(bef (.mk ca pa) w.1,w.2))) ((zaO aa f t (.mk ca pa::l) m).map λw=>(bef (.mk cb pb) w.1,w.2)),0<p.2∧zaJ p.1=0∧0≤rdE aa (zaz p.1) t 0∧rdE aa (zaz p.1) t 0≤s∧rdE aa (.mk ca pa::l) t 0≤rdE aa (zaz p.1) t 0∧rdE aa (.mk cb pb::m) t 0≤rdE aa (zaz p.1) t 0∧IT.nodesL (zaz p.1)≤IT.nodesL (.mk ca pa::l)+IT.nodesL (.mk cb pb::m):=by
    intro p hp;obtain⟨h0,h | h⟩:=g2 p hp
    ·obtain⟨q,hq,he⟩:=h;obtain⟨_,h | h⟩:=g1 q hq
     ·obtain⟨x,hx,_⟩:=h;simp at hx
     ·obtain⟨x,hx,ef,eq⟩:=h;obtain⟨w,hw,rfl⟩:=List.mem_map.1 hx;simp only at eq ef;rw[←he,←eq];exact⟨h0,t1 w hw ef⟩
    ·obtain⟨x,hx,ef,eq⟩:=h;obtain⟨w,hw,rfl⟩:=List.mem_map.1 hx;simp only at eq ef;rw[←eq];exact⟨h0,t2 w hw ef⟩
   rw[zaO];by_cases a8:zaJ (.mk ca pa)=zaJ (.mk cb pb)
   ·rw[if_neg (by simpa using a8)];simp only[zaJ]at a8;subst a8;rw[fu]at kN;cases kN;obtain⟨Q1,Q2⟩:=hQ psa pa pb (by simp only[IT.nodes]at hf;omega) jZ.symm bn.symm lI lJ (by omega);have t3:∀ r∈zch aa f psa pa pb,∀ w∈zaO aa f t l m,zaJ (bef (.mk ca r.1) w.1)=0∧0≤rdE aa (zaz (bef (.mk ca r.1) w.1)) t 0∧rdE aa (zaz (bef (.mk ca r.1) w.1)) t 0≤s∧rdE aa (.mk ca pa::l) t 0≤rdE aa (zaz (bef (.mk ca r.1) w.1)) t 0∧rdE aa (.mk ca pb::m) t 0≤rdE aa (zaz (bef (.mk ca r.1) w.1)) t 0∧IT.nodesL (zaz (bef (.mk ca r.1) w.1))≤IT.nodesL (.mk ca pa::l)+IT.nodesL (.mk ca pb::m):=by intro r hr w hw;obtain⟨_,r1,r2,r3,r4,r5,r6⟩:=Q1 r hr;obtain⟨_,_,w2,w3,w4,w5,w6⟩:=C1 w hw;have eo:=zHO ca0 ca8 fu r1.symm r2 (by omega);have ej:=zqQ h8 t (.mk ca r.1) (zaz w.1) (by omega) w2 (by omega);have eb:zaz (bef (.mk ca r.1) w.1)=.mk ca r.1::zaz w.1:=rfl;rw[eb];simp only[IT.nodesL,IT.nodes]at w6 ⊢;exact⟨rfl,by omega,by omega,by omega,by omega,by omega⟩
    simp only[zaJ,zaz,fu,Option.getD_some];have g3:=zfi ((zch aa f psa pa pb).flatMap λr=>(zaO aa f t l m).map λw=>(bef (.mk ca r.1) w.1,r.2*w.2)) _ (λq hq=>(g2 q hq).1);constructor
    ·intro p hp;obtain⟨h0,h | h⟩:=g3 p hp
     ·obtain⟨q,hq,he⟩:=h;have:=(two q hq).2;rw[he]at this;exact⟨h0,this⟩
     ·obtain⟨x,hx,_,eq⟩:=h;obtain⟨r,hr,hx⟩:=List.mem_flatMap.1 hx;obtain⟨w,hw,rfl⟩:=List.mem_map.1 hx;simp only at eq;rw[←eq];exact⟨h0,t3 r hr w hw⟩
    ·rw[zbY,zbY];have n3:zaG (λ_=>1) ((zch aa f psa pa pb).flatMap λr=>(zaO aa f t l m).map λw=>(bef (.mk ca r.1) w.1,r.2*w.2))=zbg (λ_=>1) (zch aa f psa pa pb)*zaG (λ_=>1) (zaO aa f t l m):=by
      generalize zch aa f psa pa pb=R;induction R with
      | nil=>simp
      | cons r R ih=>rw[List.flatMap_cons,zgA,ih,zrf,zd5 _ (λ_=>1) (bef (.mk ca r.1)) 1 (λx=>by simp),zgC,Nat.add_mul];simp
     have n4:zbg (λ_=>1) (zch aa f psa pa pb)*zaG (λ_=>1) (zaO aa f t l m)≤3 ^ (s-1).toNat:=by refine Nat.le_trans (Nat.mul_le_mul Q2 C2) ?_;rw[←zqG (by omega) (by omega)];exact p3 (by omega) (by omega)
     rw[n3,h3s];omega
   ·rw[if_pos (by simpa using a8)];refine⟨two,?_⟩;rw[zbY,h3s];omega
theorem zwe:∀ a,a<7→∀ b,b<7→a+b≤6→zb4 (a+b+1) (λk=>pcf a b k)≤3 ^ (a+b):=by decide +kernel
theorem zHD:∀ a,a<7→∀ b,b<7→∀ k,k<13→0<pcf a b k→a≤k∧b≤k:=by
 intro a _ b _ k _ h;unfold pcf at h;split at h
 ·omega
 ·omega
theorem zF9 {aa:List Dat} (h8:∀ D∈aa,D.cons.length≤8) {f:Nat} (hQ:ziP aa f) (hR:ziQ aa f):zox aa (f+1):=by
 intro t i j hf hi hj h6;obtain⟨k,tn,tks⟩:=t;obtain⟨n,l⟩:=i;obtain⟨n',m⟩:=j;simp only[IT.nodes]at hf;have emp:∀ q∈([]:List (IT × Nat)),0<q.2:=λq hq=>by simp at hq
 rw[zbz];by_cases k6:k=6
 ·subst k6;have ev:∀ (n:Int) (l:List IT),0≤rdV aa (.mk n l) (.mk 6 tn tks)→n=0∧l.length=tks.length∧rdV aa (.mk n l) (.mk 6 tn tks)=rdA aa l tks 0:=λn l h=>by
   rw[rdV]at h ⊢;simp only[VT.kind,VT.kids,if_true]at h ⊢;by_cases hn:n=0
   ·by_cases hl:tks.length=l.length
    ·simp[hn,hl]
    ·simp[hn,hl]at h
   ·simp[hn]at h
  have ev2:∀ l:List IT,l.length=tks.length→rdV aa (.mk 0 l) (.mk 6 tn tks)=rdA aa l tks 0:=λl h=>by rw[rdV];simp[VT.kind,VT.kids,h]
  obtain⟨i1,i2,i3⟩:=ev n l hi;obtain⟨j1,j2,j3⟩:=ev n' m hj;rw[i3]at hi h6 ⊢;rw[j3]at hj h6 ⊢;obtain⟨Q1,Q2⟩:=hQ tks l m (by omega) i2 j2 hi hj h6;simp only[VT.kind,VT.kids,if_true,zaz,IT.nodes];constructor
  ·intro p hp;obtain⟨h0,h | h⟩:=zfi _ _ emp p hp
   ·obtain⟨x,hx,_⟩:=h;simp at hx
   ·obtain⟨x,hx,_,eq⟩:=h;obtain⟨r,hr,rfl⟩:=List.mem_map.1 hx;simp only at eq;obtain⟨_,r1,r2,r3,r4,r5,r6⟩:=Q1 r hr;rw[←eq,ev2 r.1 r1];simp only[IT.nodes];exact⟨h0,r2,r3,r4,r5,by omega⟩
  ·rw[zbY,zcG,Nat.zero_add,zgB];exact Q2
 ·by_cases k7:k=7
  ·subst k7;have ev:∀ (n:Int) (l:List IT),0≤rdV aa (.mk n l) (.mk 7 tn tks)→0≤n∧n≤6∧rdV aa (.mk n l) (.mk 7 tn tks)=n:=λn l h=>by
    rw[rdV]at h ⊢;simp only[VT.kind,k6,if_false,if_true]at h ⊢;by_cases hc:0≤n∧n≤6∧l.length=0
    ·rw[if_pos hc];exact⟨hc.1,hc.2.1,rfl⟩
    ·rw[if_neg hc]at h;omega
   obtain⟨i1,i2,i3⟩:=ev n l hi;obtain⟨j1,j2,j3⟩:=ev n' m hj;rw[i3]at hi h6 ⊢;rw[j3]at hj h6 ⊢;obtain⟨a,rfl⟩:∃ a:Nat,n=a:=⟨n.toNat,by omega⟩;obtain⟨b,rfl⟩:∃ b:Nat,n'=b:=⟨n'.toNat,by omega⟩;simp only[VT.kind,k6,if_false,if_true,zaJ,IT.nodes,Int.toNat_natCast];constructor
   ·intro p hp;obtain⟨h0,h | h⟩:=zfi _ _ emp p hp
    ·obtain⟨x,hx,_⟩:=h;simp at hx
    ·obtain⟨x,hx,ef,eq⟩:=h;obtain⟨q,hq,rfl⟩:=List.mem_map.1 hx;rw[List.mem_range]at hq;simp only at ef eq;obtain⟨q1,q2⟩:=zHD a (by omega) b (by omega) q (by omega) ef;have e:rdV aa (.mk (q:Int) []) (.mk 7 tn tks)=q:=by rw[rdV];simp only[VT.kind,k6,if_false,if_true];rw[if_pos ⟨by omega,by omega,rfl⟩]
     rw[←eq,e];simp only[IT.nodes,IT.nodesL];exact⟨h0,by omega,by omega,by omega,by omega,by omega⟩
   ·rw[zbY,zcG,Nat.zero_add,zbG,zgB];have:=zwe a (by omega) b (by omega) (by omega);unfold zb4 at this;rw[show ((a:Int)+(b:Int)).toNat=a+b by omega];simpa using this
  ·by_cases k5:k=5
   ·subst k5;have ev:∀ (n:Int) (l:List IT),0≤rdV aa (.mk n l) (.mk 5 tn tks)→n=0∧l.length≤6∧rdV aa (.mk n l) (.mk 5 tn tks)=rdE aa l (.mk 5 tn tks) 0:=λn l h=>by
     rw[zks]at h ⊢;by_cases hc:n=0∧l.length≤6
     ·rw[if_pos hc];exact⟨hc.1,hc.2,rfl⟩
     ·rw[if_neg hc]at h;omega
    obtain⟨i1,i2,i3⟩:=ev n l hi;obtain⟨j1,j2,j3⟩:=ev n' m hj;rw[i3]at hi h6 ⊢;rw[j3]at hj h6 ⊢;obtain⟨R1,R2⟩:=hR (.mk 5 tn tks) l m (by omega) hi hj h6;simp only[VT.kind,k6,k7,if_false,if_true,zaz,IT.nodes];constructor
    ·intro p hp;obtain⟨h0,h | h⟩:=zfi _ _ emp p hp
     ·obtain⟨x,hx,_⟩:=h;simp at hx
     ·obtain⟨x,hx,ef,eq⟩:=h;obtain⟨_,r1,r2,r3,r4,r5,r6⟩:=R1 x hx;rw[←eq];obtain⟨⟨xn,xk⟩,xc⟩:=x;simp only[zaJ,zaz]at r1 r2 r3 r4 r5 r6 ⊢;subst r1;have cG:=zkq (aa:=aa) xk (.mk 5 tn tks) 0 (by omega);have e:rdV aa (.mk 0 xk) (.mk 5 tn tks)=rdE aa xk (.mk 5 tn tks) 0:=by rw[zks,if_pos ⟨rfl,by omega⟩]
      rw[e];simp only[IT.nodes];exact⟨h0,r2,r3,r4,r5,by omega⟩
    ·rw[zbY,zcG,Nat.zero_add];exact R2
   ·have ev:∀ (n:Int) (l:List IT),0≤rdV aa (.mk n l) (.mk k tn tks)→rdV aa (.mk n l) (.mk k tn tks)=0:=λn l h=>by
     rw[rdV]at h ⊢;simp only[VT.kind,k6,k7,k5,if_false]at h ⊢;by_cases hc:n=0∧l.length=0
     ·rw[if_pos hc]
     ·rw[if_neg hc]at h;omega
    rw[ev n l hi,ev n' m hj];simp only[VT.kind,k6,k7,k5,if_false];refine⟨λp hp=>?_,by simp⟩;simp at hp;subst hp;have e:rdV aa (.mk 0 []) (.mk k tn tks)=0:=by rw[rdV];simp[VT.kind,k6,k7,k5]
    rw[e];simp only[IT.nodes,IT.nodesL];exact⟨by omega,by omega,by omega,by omega,by omega,by omega⟩
theorem zem {aa:List Dat} (h8:∀ D∈aa,D.cons.length≤8):∀ f,zox aa f∧ziP aa f∧ziQ aa f
 | 0=>⟨λt i j h=>by have:=i.nodes_pos;omega,λts l m h=>by omega,λt l m h=>by omega⟩
 | f+1=>by obtain⟨h1,h2,h3⟩:=zem h8 f;exact⟨zF9 h8 h2 h3,zGa h1,zGb h8 h2 h3⟩
def zbX (out:List (List IT × Nat)) (ws:List (IT × Nat)):List (List IT × Nat):=out.flatMap λr=>ws.map λw=>(r.1++[w.1],r.2*w.2)
mutual
def zbo (aa:List Dat):Nat→VT→IT→IT→List (IT × Nat)
 | 0,_,_,_=>[]
 | f+1,t,i,j=>if t.kind=6 then (zct aa f t.kids (zaz i) (zaz j)).map λr=>(.mk 0 r.1,r.2)
  else if t.kind=7 then (zbG (zaJ i).toNat (zaJ j).toNat).filter λp=>p.2 != 0
  else if t.kind=5 then (za4 aa f t (zaz i) (zaz j)).map λr=>(.mk 0 r.1,r.2) else [(.mk 0 [],1)]
def zct (aa:List Dat):Nat→List VT→List IT→List IT→List (List IT × Nat)
 | 0,_,_,_=>[]
 | f+1,ts,l,m=>(List.range ts.length).foldl (λout k=>zbX out (zbo aa f (ts.getD k tz) (l.getD k d0) (m.getD k d0))) [([],1)]
def za4 (aa:List Dat):Nat→VT→List IT→List IT→List (List IT × Nat)
 | 0,_,_,_=>[]
 | f+1,t,[],m=>[(m,1)]
 | f+1,t,a::l,[]=>[(a::l,1)]
 | f+1,t,a::l,b::m=>
  (za4 aa f t l (b::m)).map (λr=>(a::r.1,r.2))++(za4 aa f t (a::l) m).map (λr=>(b::r.1,r.2)) ++
   if zaJ a=zaJ b then (zct aa f ((za7 aa t (zaJ a)).getD []) (zaz a) (zaz b)).flatMap λr=>(za4 aa f t l m).map λx=>(.mk (zaJ a) r.1::x.1,r.2*x.2) else []
end
def zaF {α:Type} (g:α→Nat) (s:List (α × Nat)):Nat:=(s.map λp=>p.2*g p.1).foldr (·+·) 0
theorem zdi (g:IT→Nat) (s:List (IT × Nat)):zaG g s=zaF g s:=rfl
theorem zfI (g:List IT→Nat) (s:List (List IT × Nat)):zbg g s=zaF g s:=rfl
section
variable {α β γ:Type}
@[simp] theorem zrh (g:α→Nat):zaF g []=0:=rfl
@[simp] theorem zbf (g:α→Nat) (p:α × Nat) (s:List (α × Nat)):zaF g (p::s)=p.2*g p.1+zaF g s:=rfl
theorem zzk (g:α→Nat):∀ a b:List (α × Nat),zaF g (a++b)=zaF g a+zaF g b
 | [],b=>by simp
 | p::a,b=>by rw[List.cons_append,zbf,zbf,zzk g a b];omega
theorem zfJ (g:β→Nat) (h:α→β):∀ s:List (α × Nat),zaF g (s.map λp=>(h p.1,p.2))=zaF (λx=>g (h x)) s
 | []=>rfl
 | p::s=>by rw[List.map_cons,zbf,zbf,zfJ g h s]
theorem zzm (g:β→Nat) (h:α→β) (c:Nat):∀ s:List (α × Nat),zaF g (s.map λp=>(h p.1,c*p.2))=c*zaF (λx=>g (h x)) s
 | []=>rfl
 | p::s=>by rw[List.map_cons,zbf,zbf,zzm g h c s,Nat.mul_add,Nat.mul_assoc]
theorem zia (g:γ→Nat) (h:α→β→γ) (ws:List (β × Nat)):∀ s:List (α × Nat),zaF g (s.flatMap λr=>ws.map λw=>(h r.1 w.1,r.2*w.2))=zaF (λa=>zaF (λb=>g (h a b)) ws) s
 | []=>rfl
 | p::s=>by rw[List.flatMap_cons,zzk,zbf,zia g h ws s,zzm g (h p.1)]
theorem zzj (g1 g2:α→Nat):∀ s:List (α × Nat),zaF (λx=>g1 x+g2 x) s=zaF g1 s+zaF g2 s
 | []=>rfl
 | p::s=>by rw[zbf,zbf,zbf,zzj g1 g2 s,Nat.mul_add];omega
theorem zzl (c:Nat) (g:α→Nat):∀ s:List (α × Nat),zaF (λx=>c*g x) s=c*zaF g s
 | []=>by simp
 | p::s=>by rw[zbf,zbf,zzl c g s,Nat.mul_add,Nat.mul_left_comm]
theorem zzo:∀ s:List (α × Nat),zaF (λ_=>0) s=0
 | []=>rfl
 | p::s=>by rw[zbf,zzo s];rfl
theorem zzn (h:α→β→Nat) (ws:List (β × Nat)):∀ s:List (α × Nat),zaF (λa=>zaF (λb=>h a b) ws) s=zaF (λb=>zaF (λa=>h a b) s) ws
 | []=>by simp[zzo]
 | p::s=>by
  rw[zbf,zzn h ws s];have:(λb=>zaF (λa=>h a b) (p::s))=λb=>p.2*h p.1 b+zaF (λa=>h a b) s:=by funext b;rw[zbf]
  rw[this,zzj,zzl]
theorem zrg (g:α→Nat):∀ s:List (α × Nat),zaF g (s.filter λp=>p.2 != 0)=zaF g s
 | []=>rfl
 | p::s=>by
  rw[List.filter_cons];by_cases h:p.2=0
  ·simp[h,zrg g s]
  ·simp[h,zrg g s]
end
def zvN (aa:List Dat) (f:Nat):Prop:=∀ (t:VT) (i j:IT) (g:IT→Nat),zaG g (zbo aa f t i j)=zaG g (zbz aa f t i j)
def zE7 (aa:List Dat) (f:Nat):Prop:=∀ (ts:List VT) (l m:List IT) (g:List IT→Nat),zbg g (zct aa f ts l m)=zbg g (zch aa f ts l m)
def zE6 (aa:List Dat) (f:Nat):Prop:=∀ (t:VT) (l m:List IT) (g:IT→Nat),zbg (λx=>g (.mk 0 x)) (za4 aa f t l m)=zaG g (zaO aa f t l m)
theorem zqY (g:List IT→Nat) (out:List (List IT × Nat)) (ws:List (IT × Nat)):zbg g (zdB out ws)=zaF (λx=>zaF (λl=>g (l++[x])) out) ws:=by
 have h:zdB out ws=ws.flatMap λw=>out.map λr=>(r.1++[w.1],w.2*r.2):=by unfold zdB;congr 1;funext w;congr 1;funext r;rw[Nat.mul_comm]
 rw[h,zfI];exact zia g (λx l=>l++[x]) out ws
theorem zI9 (g:List IT→Nat) (out:List (List IT × Nat)) (ws:List (IT × Nat)):zbg g (zbX out ws)=zbg g (zdB out ws):=by rw[zqY,zfI];unfold zbX;rw[zia g (λl x=>l++[x]) ws out,zzn]
def zcu (aa:List Dat) (f:Nat) (ts:List VT) (l m:List IT) (k:Nat):List (List IT × Nat):=(List.range k).foldl (λout k=>zbX out (zbo aa f (ts.getD k tz) (l.getD k d0) (m.getD k d0))) [([],1)]
theorem zqW (aa:List Dat) (f:Nat) (ts:List VT) (l m:List IT):zcu aa f ts l m 0=[([],1)]:=rfl
theorem zkv (aa:List Dat) (f:Nat) (ts:List VT) (l m:List IT) (k:Nat):zcu aa f ts l m (k+1)=zbX (zcu aa f ts l m k) (zbo aa f (ts.getD k tz) (l.getD k d0) (m.getD k d0)):=by rw[zcu,List.range_succ,List.foldl_append];rfl
theorem zkw (aa:List Dat) (f:Nat) (ts:List VT) (l m:List IT):zct aa (f+1) ts l m=zcu aa f ts l m ts.length:=by rw[zct];rfl
theorem zqV {aa:List Dat} {f:Nat} (hP:zvN aa f) (ts:List VT) (l m:List IT):∀ (k:Nat) (g:List IT→Nat),zbg g (zcu aa f ts l m k)=zbg g (zcm aa f ts l m k)
 | 0,g=>rfl
 | k+1,g=>by rw[zkv,zgv,zI9,zqY,zqY];have h1:∀ x,zaF (λl=>g (l++[x])) (zcu aa f ts l m k)=zaF (λl=>g (l++[x])) (zcm aa f ts l m k):=λx=>zqV hP ts l m k λl=>g (l++[x]);simp only[h1];exact hP (ts.getD k tz) (l.getD k d0) (m.getD k d0) λx=>zaF (λl=>g (l++[x])) (zcm aa f ts l m k)
theorem zgD (aa:List Dat):∀ f,zvN aa f∧zE7 aa f∧zE6 aa f
 | 0=>⟨λt i j g=>by rw[zbo,zbz],λts l m g=>by rw[zct,zch],λt l m g=>by rw[za4,zaO];rfl⟩
 | f+1=>by
  obtain⟨hP,hQ,hM⟩:=zgD aa f;refine⟨λt i j g=>?_,λts l m g=>?_,λt l m g=>?_⟩
  ·rw[zbo,zbz];by_cases k6:t.kind=6
   ·simp only[k6,if_true];rw[zbY,zcG,Nat.zero_add,zdi,zdi,zfJ g (λl=>IT.mk 0 l),zfJ g (λl=>IT.mk 0 l)];exact hQ t.kids (zaz i) (zaz j) λl=>g (.mk 0 l)
   ·by_cases k7:t.kind=7
    ·simp only[k7,if_true,if_neg (show ¬ (7:Int)=6 by omega)];rw[zbY,zcG,Nat.zero_add,zdi,zdi,zrg]
    ·by_cases k5:t.kind=5
     ·simp only[k5,if_true,if_neg (show ¬ (5:Int)=6 by omega),if_neg (show ¬ (5:Int)=7 by omega)];rw[zbY,zcG,Nat.zero_add,zdi,zfJ g (λl=>IT.mk 0 l)];exact hM _ _ _ _
     ·simp only[k6,k7,k5,if_false]
  ·rw[zkw,zhA];exact zqV hP ts l m _ g
  ·cases l with
   | nil=>rw[za4,zaO];rfl
   | cons a l=>
    cases m with
    | nil=>rw[za4,zaO];rfl
    | cons b m=>
     have e1:=hM t l (b::m) λi=>g (bef a i);have e2:=hM t (a::l) m λi=>g (bef b i);rw[za4,zaO];have h1:∀ (c:IT) (s:List (List IT × Nat)),zbg (λx=>g (.mk 0 x)) (s.map λr=>(c::r.1,r.2))=zbg (λx=>g (bef c (.mk 0 x))) s:=λc s=>zfJ (λx=>g (.mk 0 x)) (λx=>c::x) s;have h2:∀ (c:IT) (s:List (IT × Nat)),zaG g (s.map λw=>(bef c w.1,w.2))=zaG (λi=>g (bef c i)) s:=λc s=>zfJ g (bef c) s;by_cases a8:zaJ a=zaJ b
     ·rw[if_pos a8,if_neg (by simpa using a8),zib,zib,zbY,zbY,zbY,zcG,h1,h1,h2,h2,e1,e2];have h3:=zia (λx=>g (.mk 0 x)) (λ(r x:List IT)=>IT.mk (zaJ a) r::x) (za4 aa f t l m) (zct aa f ((za7 aa t (zaJ a)).getD []) (zaz a) (zaz b));have h4:=zia g (λ(r:List IT) (x:IT)=>bef (.mk (zaJ a) r) x) (zaO aa f t l m) (zch aa f ((za7 aa t (zaJ a)).getD []) (zaz a) (zaz b));rw[zfI,zdi _ (List.flatMap _ _),h3,h4];have h5:∀ r,zaF (λx=>g (.mk 0 (IT.mk (zaJ a) r::x))) (za4 aa f t l m)=zaF (λx=>g (bef (.mk (zaJ a) r) x)) (zaO aa f t l m):=λr=>hM t l m λi=>g (bef (.mk (zaJ a) r) i);simp only[h5];have h6:=hQ ((za7 aa t (zaJ a)).getD []) (zaz a) (zaz b) λr=>zaF (λx=>g (bef (.mk (zaJ a) r) x)) (zaO aa f t l m);rw[zfI,zfI]at h6;rw[h6,zdi,zdi];omega
     ·rw[if_neg a8,if_pos (by simpa using a8),List.append_nil,zib,zbY,zbY,zcG,h1,h1,h2,h2,e1,e2];omega
def Asc (s:List (IT × Nat)):Prop:=s.Pairwise λp q=>IT.cmp p.1 q.1<0
theorem zwE {a b c:IT} (h1:IT.cmp a b<0) (h2:IT.cmp b c≤0):IT.cmp a c<0:=by
 obtain⟨h3,h4⟩:=IT.cmp_tri a b c (by omega) h2;by_cases h:IT.cmp a c=0
 ·have:=h4 h;omega
 ·omega
theorem zgb (a:IT):IT.cmp a a=0:=by have:=IT.cmp_anti a a;omega
theorem zv2 {i:IT} {c:Nat}:∀ {s:List (IT × Nat)},Asc s→Asc (zc8 s i c)∧∀ p∈zc8 s i c,p.1=i∨∃ q∈s,q.1=p.1
 | [],_=>⟨by simp[zc8,Asc],λp hp=>by simp[zc8]at hp;exact .inl (by rw[hp])⟩
 | x::s,h=>by
  have h1:=List.pairwise_cons.1 h;unfold zc8;by_cases ha:IT.cmp x.1 i<0
  ·obtain⟨k1,k2⟩:=zv2 (i:=i) (c:=c) h1.2;rw[if_pos ha];refine⟨List.pairwise_cons.2 ⟨λp hp=>?_,k1⟩,λp hp=>?_⟩
   ·rcases k2 p hp with e | ⟨q,hq,e⟩
    ·rw[e];exact ha
    ·rw[←e];exact h1.1 q hq
   ·rcases List.mem_cons.1 hp with e | hp
    ·exact .inr ⟨x,List.mem_cons_self,by rw[e]⟩
    ·rcases k2 p hp with e | ⟨q,hq,e⟩
     ·exact .inl e
     ·exact .inr ⟨q,List.mem_cons_of_mem _ hq,e⟩
  ·rw[if_neg ha];by_cases h0:IT.cmp x.1 i=0
   ·rw[if_pos h0];refine⟨List.pairwise_cons.2 ⟨h1.1,h1.2⟩,λp hp=>?_⟩;rcases List.mem_cons.1 hp with e | hp
    ·exact .inr ⟨x,List.mem_cons_self,by rw[e]⟩
    ·exact .inr ⟨p,List.mem_cons_of_mem _ hp,rfl⟩
   ·rw[if_neg h0];have hix:IT.cmp i x.1<0:=by have:=IT.cmp_anti i x.1;omega
    refine⟨List.pairwise_cons.2 ⟨λp hp=>?_,h⟩,λp hp=>?_⟩
    ·rcases List.mem_cons.1 hp with e | hp
     ·rw[e];exact hix
     ·exact zwE hix (by have:=h1.1 p hp;omega)
    ·rcases List.mem_cons.1 hp with e | hp
     ·exact .inl (by rw[e])
     ·exact .inr ⟨p,hp,rfl⟩
theorem zFr {i:IT} {c:Nat} {s:List (IT × Nat)} (h:Asc s):Asc (zdq s i c):=by
 unfold zdq;split
 ·exact h
 ·exact (zv2 h).1
theorem ziZ:∀ (l s:List (IT × Nat)),Asc s→Asc (zck s l)
 | [],s,h=>h
 | p::l,s,h=>ziZ l _ (zFr h)
open Classical in
noncomputable def one {α:Type} (x:α):α→Nat:=λy=>if y=x then 1 else 0
theorem zx8 {α:Type} (x:α):one x x=1:=by simp[one]
theorem zx9 {α:Type} {x y:α} (h:y≠x):one x y=0:=by simp[one,h]
theorem zzt {α:Type} {g:α→Nat}:∀ {s:List (α × Nat)},0<zaF g s→∃ q∈s,0<q.2∧0<g q.1
 | [],h=>by simp at h
 | p::s,h=>by
  rw[zbf]at h;by_cases h0:0<p.2*g p.1
  ·exact⟨p,List.mem_cons_self,Nat.pos_of_mul_pos_right h0,Nat.pos_of_mul_pos_left h0⟩
  ·obtain⟨q,hq,h1⟩:=zzt (s:=s) (g:=g) (by omega);exact⟨q,List.mem_cons_of_mem _ hq,h1⟩
theorem zfu {α:Type} (g:α→Nat):∀ {s:List (α × Nat)} {p:α × Nat},p∈s→p.2*g p.1≤zaF g s
 | x::s,p,h=>by
  rw[zbf];rcases List.mem_cons.1 h with rfl | h
  ·omega
  ·have:=zfu g h;omega
theorem zep {α:Type} {s s':List (α × Nat)} (h:∀ g:α→Nat,zaF g s=zaF g s') {p:α × Nat} (hp:p∈s) (h0:0<p.2):∃ q∈s',q.1=p.1:=by
 have h1:=zfu (one p.1) hp;rw[zx8,h]at h1;obtain⟨q,hq,_,h2⟩:=zzt (s:=s') (g:=one p.1) (by omega);refine⟨q,hq,?_⟩;by_cases he:q.1=p.1
 ·exact he
 ·rw[zx9 he]at h2;omega
theorem zrk {x:IT}:∀ {s:List (IT × Nat)},(∀ p∈s,p.1≠x)→zaF (one x) s=0
 | [],_=>rfl
 | p::s,h=>by rw[zbf,zx9 (h p List.mem_cons_self),zrk λq hq=>h q (List.mem_cons_of_mem _ hq)];rfl
theorem zwg:∀ {s s':List (IT × Nat)},Asc s→Asc s'→(∀ p∈s,0<p.2)→(∀ p∈s',0<p.2)→(∀ g:IT→Nat,zaF g s=zaF g s')→s=s'
 | [],[],_,_,_,_,_=>rfl
 | [],q::s',_,_,_,h2,h=>by obtain⟨x,hx,_⟩:=zep (λg=>(h g).symm) (List.mem_cons_self (a:=q)) (h2 q List.mem_cons_self);simp at hx
 | p::s,[],_,_,h1,_,h=>by obtain⟨x,hx,_⟩:=zep h (List.mem_cons_self (a:=p)) (h1 p List.mem_cons_self);simp at hx
 | p::s,q::s',a1,a2,h1,h2,h=>by
  have b1:=List.pairwise_cons.1 a1;have b2:=List.pairwise_cons.1 a2;have c1:IT.cmp q.1 p.1≤0:=by
   obtain⟨x,hx,he⟩:=zep h (List.mem_cons_self (a:=p)) (h1 p List.mem_cons_self);rcases List.mem_cons.1 hx with rfl | hx
   ·rw[he,zgb];omega
   ·have:=b2.1 x hx;rw[he]at this;omega
  have c2:IT.cmp p.1 q.1≤0:=by
   obtain⟨x,hx,he⟩:=zep (λg=>(h g).symm) (List.mem_cons_self (a:=q)) (h2 q List.mem_cons_self);rcases List.mem_cons.1 hx with rfl | hx
   ·rw[he,zgb];omega
   ·have:=b1.1 x hx;rw[he]at this;omega
  have he:p.1=q.1:=zo1 (by have:=IT.cmp_anti p.1 q.1;omega);have n1:zaF (one p.1) s=0:=zrk λx hx e=>by have:=b1.1 x hx;rw[e,zgb]at this;omega
  have n2:zaF (one p.1) s'=0:=zrk λx hx e=>by have:=b2.1 x hx;rw[e,he,zgb]at this;omega
  have hc:=h (one p.1);rw[zbf,zbf,n1,n2,←he,zx8]at hc;have hpq:p=q:=Prod.ext he (by omega);subst hpq;have:=zwg b1.2 b2.2 (λx hx=>h1 x (List.mem_cons_of_mem _ hx)) (λx hx=>h2 x (List.mem_cons_of_mem _ hx)) λg=>by have:=h g;rw[zbf,zbf]at this;omega
  rw[this]
theorem zkD {α:Type} (g:α→Nat) (c:α→Bool):∀ s:List (α × Nat),zaF g (s.filter λp=>c p.1)=zaF (λx=>if c x then g x else 0) s
 | []=>rfl
 | p::s=>by
  rw[List.filter_cons,zbf];by_cases h:c p.1=true
  ·simp only[h,if_true];rw[zbf,zkD g c s]
  ·simp only[h,Bool.false_eq_true,if_false];rw[zkD g c s];simp
theorem zJi {α:Type} (g:α→Nat) {s s':List (α × Nat)} (h:s.Perm s'):zaF g s=zaF g s':=by
 induction h with
 | nil=>rfl
 | cons x _ ih=>rw[zbf,zbf,ih]
 | swap x y l=>simp only[zbf];omega
 | trans _ _ h1 h2=>rw[h1,h2]
end Go.Proofs.YtdmamdnkcefmmaaGreatDoor
namespace Go.Proofs.YtdmamdnkcefmmaaGreatDoor
open Go Go.Abs
set_option maxRecDepth 100000
section


end
end Go.Proofs.YtdmamdnkcefmmaaGreatDoor
namespace Go.Proofs.YtdmamdnkcefmmaaGreatDoor
open Go Go.Abs
def tmC (p:IT × Nat):List AV:=p.1.cs++zai (p.2:Int)
def tms (s:List (IT × Nat)):List AV:=(s.map tmC).flatten
@[simp] theorem zJq (p:IT × Nat):(tmC p).length=5:=by simp[tmC,zai]
@[simp] theorem ybD (s:List (IT × Nat)):(tms s).length=s.length*5:=by
 induction s with
 | nil=>rfl
 | cons p s ih=>simp only[tms,List.map_cons,List.flatten_cons,List.length_append,zJq,List.length_cons]at ih ⊢;omega
theorem zkJ (a b:List (IT × Nat)):tms (a++b)=tms a++tms b:=by simp[tms]
theorem zic (p:IT × Nat) (s:List (IT × Nat)):tms (p::s)=tmC p++tms s:=by simp[tms]
theorem zrt {s:List (IT × Nat)} {k:Nat} (h:k<s.length):tms s=tms (s.take k)++(tmC s[k]++tms (s.drop (k+1))):=by rw[←zic,←zkJ,←List.drop_eq_getElem_cons h,List.take_append_drop]
theorem zru {s:List (IT × Nat)} {k:Nat} (h:k≤s.length):(tms (s.take k)).length=k*5:=by simp[Nat.min_eq_left h]
theorem zJr {s:List (IT × Nat)} {k:Nat} (h:k<s.length):((tms s).drop (k*5+2)).take 3=zai (s[k].2:Int):=by
 have e:tms s=(tms (s.take k)++s[k].1.cs)++(zai (s[k].2:Int)++tms (s.drop (k+1))):=by rw[zrt h,tmC];simp
 have hl:(tms (s.take k)++s[k].1.cs).length=k*5+2:=by rw[List.length_append,zru (by omega)];simp
 rw[e,List.drop_left' hl,List.take_left' (by simp[zai])]
theorem zJu {s:List (IT × Nat)} {k:Nat} (h:k<s.length) (x:Nat):(tms s).take (k*5+2)++zai (x:Int)++(tms s).drop (k*5+2+3)=tms (s.set k (s[k].1,x)):=by
 have e:tms s=(tms (s.take k)++s[k].1.cs)++(zai (s[k].2:Int)++tms (s.drop (k+1))):=by rw[zrt h,tmC];simp
 have hl:(tms (s.take k)++s[k].1.cs).length=k*5+2:=by rw[List.length_append,zru (by omega)];simp
 have e1:(tms s).take (k*5+2)=tms (s.take k)++s[k].1.cs:=by rw[e,List.take_left' hl]
 have e2:(tms s).drop (k*5+2+3)=tms (s.drop (k+1)):=by rw[←List.drop_drop,e,List.drop_left' hl,List.drop_left' (by simp[zai])]
 rw[e1,e2,List.set_eq_take_append_cons_drop,if_pos h,zkJ,zic,tmC];simp
theorem zrs (s:List (IT × Nat)) (n:Nat):(tms s).all (AV.scA n)=true:=by
 induction s with
 | nil=>rfl
 | cons p s ih=>rw[zic,List.all_append,ih,tmC,List.all_append,IT.cs_scA,zkn];rfl
theorem zJt (s:List (IT × Nat)):(tms s).all AV.known=true:=by
 induction s with
 | nil=>rfl
 | cons p s ih=>rw[zic,List.all_append,ih,tmC,List.all_append,IT.cs_known];simp[zai,AV.known]
end Go.Proofs.YtdmamdnkcefmmaaGreatDoor
namespace Go.Proofs.YtdmamdnkcefmmaaGreatDoor
open Go Go.Abs
set_option maxRecDepth 100000
section


end
end Go.Proofs.YtdmamdnkcefmmaaGreatDoor
namespace Go.Proofs.YtdmamdnkcefmmaaGreatDoor
open Go Go.Abs
def zaV (s:List (IT × Nat)):List (List AV):=s.map tmC
@[simp] theorem ybC (s:List (IT × Nat)):(zaV s).length=s.length:=by simp[zaV]
theorem zzv (s:List (IT × Nat)):(zaV s).flatten=tms s:=rfl
@[simp] theorem ybB {s:List (IT × Nat)} {i:Nat} (h:i<(zaV s).length):(zaV s)[i]=tmC (s[i]'(by simpa using h)):=by simp[zaV]
theorem zh2:∀ {a b c d:List AV},plain a=some c→plain b=some d→plain (a++b)=some (c++d)
 | [],b,c,d,h,h'=>by simp[plain]at h;subst h;simpa using h'
 | x::a,b,c,d,h,h'=>by
  simp only[plain]at h;split at h
  ·rename_i p q hp hq;cases h;simp only[List.cons_append,plain];rw[hp,zh2 hq h']
  ·cases h
theorem zkj (v:IT):plain v.cs=some v.cs:=by obtain⟨n,ks⟩:=v;simp[IT.cs,plain,AV.pd]
theorem zdf (z:Int):plain (zai z)=some (zai z):=rfl
theorem zqK (p:IT × Nat):plain (tmC p)=some (tmC p):=zh2 (zkj p.1) (zdf _)
theorem zqL:∀ s:List (IT × Nat),plain (tms s)=some (tms s)
 | []=>rfl
 | p::s=>by rw[zic];exact zh2 (zqK p) (zqL s)
theorem zHt {H J:zaa} {K:Kt} (s:List (IT × Nat)) (id:Nat) (aQ:H.length≤id) (ar:(H++J)[id]?=some (.vec zaH 5 s.length (tms s))) (hs:HSc H) (hK:K (.sl (zaV s) .none) H):Out H.length K (.ov id s.length) (H++J):=
 ⟨.sl (zaV s) .none,H,J,rfl,Nat.le_refl _,hs,.one (.vfz id zaH 5 s.length (tms s) (zaV s) aQ ar (by rw[zzv];exact zqL s) (by simp) (λc hc=>by
  obtain⟨p,_,rfl⟩:=List.mem_map.1 hc;simp)),hK⟩
def zaQ (out:List (List IT × Nat)):List (List AV):=out.map λr=>.sl (IT.css r.1) .none::zai (r.2:Int)
@[simp] theorem ybj (s:List (List IT × Nat)):(zaQ s).length=s.length:=by simp[zaQ]
@[simp] theorem ybi {s:List (List IT × Nat)} {i:Nat} (h:i<(zaQ s).length):(zaQ s)[i]=.sl (IT.css (s[i]'(by simpa using h)).1) .none::zai ((s[i]'(by simpa using h)).2:Int):=by simp[zaQ]
theorem zqX (a b:List (List IT × Nat)):zaQ (a++b)=zaQ a++zaQ b:=by simp[zaQ]
theorem zyD {aa:List Dat} {f:Nat} {ts:List VT} {l m:List IT} {k:Nat}:∀ j,j≤k→zcm aa f (ts.take k) (l.take k) (m.take k) j=zcm aa f ts l m j:=by
 intro j;induction j with
 | zero=>intro _;rfl
 | succ j ih=>intro h;rw[zgv,zgv,ih (by omega)];simp[List.getD_eq_getElem?_getD,List.getElem?_take,show j<k by omega]
theorem zGU {s:List (List IT × Nat)} {p:List IT × Nat} (h:p∈s):p.2≤zbg (λ_=>1) s:=by
 induction s with
 | nil=>simp at h
 | cons q s ih=>
  rw[zgC];rcases List.mem_cons.1 h with rfl | h
  ·omega
  ·have:=ih h;omega
theorem zGO {s:List (List IT × Nat)} (h:∀ p∈s,0<p.2):s.length≤zbg (λ_=>1) s:=by
 induction s with
 | nil=>simp
 | cons q s ih=>have h1:=ih λp hp=>h p (by simp[hp]);have h2:=h q (by simp);rw[zgC,List.length_cons];omega
theorem ze2 {a:Int} (h:a≤6):3 ^ a.toNat≤729:=Nat.le_trans (Nat.pow_le_pow_right (by omega) (show a.toNat≤6 by omega)) (by decide)
theorem zHV {aa:List Dat} (h8:∀ D∈aa,D.cons.length≤8) {f:Nat} {ts:List VT} {l m:List IT} (hf:IT.nodesL l+IT.nodesL m≤f) (hl:l.length=ts.length) (hm:m.length=ts.length) (hA:0≤rdA aa l ts 0) (hB:0≤rdA aa m ts 0) (h6:rdA aa l ts 0+rdA aa m ts 0≤6) (k:Nat) (hk:k≤ts.length) :
  (∀ r∈zcm aa f ts l m k,0<r.2∧r.2≤729∧IT.nodesL r.1≤IT.nodesL l+IT.nodesL m)∧(zcm aa f ts l m k).length≤729:=by
 have a1:=zdg l ts 0 k hl (by omega) hA;have b1:=zdg m ts 0 k hm (by omega) hB;have n1:=IT.nodesL_take_le l k;have n2:=IT.nodesL_take_le m k;obtain⟨h1,h2⟩:=(zem h8 (f+1)).2.1 (ts.take k) (l.take k) (m.take k) (by omega) (by simp;omega) (by simp;omega) a1.1 b1.1 (by omega);have e:zch aa (f+1) (ts.take k) (l.take k) (m.take k)=zcm aa f ts l m k:=by rw[zhA,List.length_take,Nat.min_eq_left hk,zyD k (Nat.le_refl _)]
 rw[e]at h1 h2;have hN:zbg (λ_=>1) (zcm aa f ts l m k)≤729:=Nat.le_trans h2 (ze2 (by omega));refine⟨λr hr=>?_,Nat.le_trans (zGO λp hp=>(h1 p hp).1) hN⟩;obtain⟨q1,_,_,_,_,_,q6⟩:=h1 r hr;have:=zGU hr;exact⟨q1,by omega,by omega⟩
theorem zJa {out:List (List IT × Nat)} {ws:List (IT × Nat)} (h1:∀ r∈out,0<r.2) (h2:∀ w∈ws,0<w.2):∀ r∈zbX out ws,0<r.2:=by intro r hr;obtain⟨x,hx,hr⟩:=List.mem_flatMap.1 hr;obtain⟨w,hw,rfl⟩:=List.mem_map.1 hr;exact Nat.mul_pos (h1 x hx) (h2 w hw)
theorem zqU {aa:List Dat} {f:Nat} (hP:∀ (t:VT) (i j:IT),∀ p∈zbo aa f t i j,0<p.2) (ts:List VT) (l m:List IT):∀ k,∀ r∈zcu aa f ts l m k,0<r.2
 | 0,r,hr=>by rw[zqW]at hr;simp at hr;rw[hr];omega
 | k+1,r,hr=>by rw[zkv]at hr;exact zJa (zqU hP ts l m k) (hP _ _ _) r hr
theorem zgs (aa:List Dat):∀ f,(∀ (t:VT) (i j:IT),∀ p∈zbo aa f t i j,0<p.2)∧(∀ (ts:List VT) (l m:List IT),∀ r∈zct aa f ts l m,0<r.2)∧(∀ (t:VT) (l m:List IT),∀ r∈za4 aa f t l m,0<r.2)
 | 0=>⟨λt i j p hp=>by rw[zbo]at hp;simp at hp,λts l m r hr=>by rw[zct]at hr;simp at hr,λt l m r hr=>by rw[za4]at hr;simp at hr⟩
 | f+1=>by
  obtain⟨hP,hQ,hM⟩:=zgs aa f;refine⟨λt i j p hp=>?_,λts l m r hr=>?_,λt l m r hr=>?_⟩
  ·rw[zbo]at hp;split at hp
   ·obtain⟨r,hr,rfl⟩:=List.mem_map.1 hp;exact hQ _ _ _ r hr
   ·split at hp
    ·have:=(List.mem_filter.1 hp).2;simp at this;omega
    ·split at hp
     ·obtain⟨r,hr,rfl⟩:=List.mem_map.1 hp;exact hM _ _ _ r hr
     ·simp at hp;rw[hp];omega
  ·rw[zkw]at hr;exact zqU hP ts l m _ r hr
  ·cases l with
   | nil=>rw[za4]at hr;simp at hr;rw[hr];omega
   | cons a l=>
    cases m with
    | nil=>rw[za4]at hr;simp at hr;rw[hr];omega
    | cons b m=>
     rw[za4]at hr;rcases List.mem_append.1 hr with hr | hr
     ·rcases List.mem_append.1 hr with hr | hr
      ·obtain⟨x,hx,rfl⟩:=List.mem_map.1 hr;exact hM _ _ _ x hx
      ·obtain⟨x,hx,rfl⟩:=List.mem_map.1 hr;exact hM _ _ _ x hx
     ·split at hr
      ·obtain⟨x,hx,hr⟩:=List.mem_flatMap.1 hr;obtain⟨w,hw,rfl⟩:=List.mem_map.1 hr;exact Nat.mul_pos (hQ _ _ _ x hx) (hM _ _ _ w hw)
      ·simp at hr
theorem zfr {α:Type}:∀ {s:List (α × Nat)},(∀ p∈s,0<p.2)→s.length≤zaF (λ_=>1) s
 | [],_=>by simp
 | p::s,h=>by rw[List.length_cons,zbf];have:=h p List.mem_cons_self;have:=zfr λq hq=>h q (List.mem_cons_of_mem p hq);omega
theorem zwo {aa:List Dat} (h8:∀ D∈aa,D.cons.length≤8) {f:Nat} {t:VT} {i j:IT} (hf:i.nodes+j.nodes≤f) (hi:0≤rdV aa i t) (hj:0≤rdV aa j t) (h6:rdV aa i t+rdV aa j t≤6) :
  (∀ p∈zbo aa f t i j,0<p.2∧p.2≤729∧0≤rdV aa p.1 t∧rdV aa p.1 t≤rdV aa i t+rdV aa j t∧rdV aa i t≤rdV aa p.1 t∧rdV aa j t≤rdV aa p.1 t∧p.1.nodes≤i.nodes+j.nodes)∧zaF (λ_=>1) (zbo aa f t i j)≤3 ^ (rdV aa i t+rdV aa j t).toNat∧zaF (λ_=>1) (zbo aa f t i j)≤729∧(zbo aa f t i j).length≤729:=by
 obtain⟨d1,d2⟩:=(zem h8 f).1 t i j hf hi hj h6;have hs:=(zgD aa f).1 t i j;have dx:=(zgs aa f).1 t i j;have h1:zaF (λ_=>1) (zbo aa f t i j)≤3 ^ (rdV aa i t+rdV aa j t).toNat:=by rw[←zdi,hs];exact d2
 have h2:=Nat.le_trans h1 (ze2 h6);refine⟨λp hp=>?_,h1,h2,Nat.le_trans (zfr dx) h2⟩;obtain⟨q,hq,he⟩:=zep (s:=zbo aa f t i j) (s':=zbz aa f t i j) hs hp (dx p hp);have:=d1 q hq;rw[he]at this;have hm:=zfu (λ_=>1) hp;rw[Nat.mul_one]at hm;exact⟨dx p hp,by omega,this.2⟩
theorem zwp {aa:List Dat} (h8:∀ D∈aa,D.cons.length≤8) {f:Nat} {ts:List VT} {l m:List IT} (hf:IT.nodesL l+IT.nodesL m+1≤f) (hl:l.length=ts.length) (hm:m.length=ts.length) (hi:0≤rdA aa l ts 0) (hj:0≤rdA aa m ts 0) (h6:rdA aa l ts 0+rdA aa m ts 0≤6) :
  (∀ r∈zct aa f ts l m,0<r.2∧r.2≤729∧r.1.length=ts.length∧0≤rdA aa r.1 ts 0∧rdA aa r.1 ts 0≤rdA aa l ts 0+rdA aa m ts 0∧IT.nodesL r.1≤IT.nodesL l+IT.nodesL m)∧zaF (λ_=>1) (zct aa f ts l m)≤3 ^ (rdA aa l ts 0+rdA aa m ts 0).toNat∧zaF (λ_=>1) (zct aa f ts l m)≤729∧(zct aa f ts l m).length≤729:=by
 obtain⟨d1,d2⟩:=(zem h8 f).2.1 ts l m hf hl hm hi hj h6;have hs:=(zgD aa f).2.1 ts l m;have dx:=(zgs aa f).2.1 ts l m;have h1:zaF (λ_=>1) (zct aa f ts l m)≤3 ^ (rdA aa l ts 0+rdA aa m ts 0).toNat:=by rw[←zfI,hs];exact d2
 have h2:=Nat.le_trans h1 (ze2 h6);refine⟨λp hp=>?_,h1,h2,Nat.le_trans (zfr dx) h2⟩;obtain⟨q,hq,he⟩:=zep (s:=zct aa f ts l m) (s':=zch aa f ts l m) hs hp (dx p hp);obtain⟨_,e1,e2,e3,_,_,e6⟩:=d1 q hq;rw[he]at e1 e2 e3 e6;have hm:=zfu (λ_=>1) hp;rw[Nat.mul_one]at hm;exact⟨dx p hp,by omega,e1,e2,e3,e6⟩
theorem zi4 {aa:List Dat} (h8:∀ D∈aa,D.cons.length≤8) {f:Nat} {t:VT} {l m:List IT} (hf:IT.nodesL l+IT.nodesL m+1≤f) (hi:0≤rdE aa l t 0) (hj:0≤rdE aa m t 0) (h6:rdE aa l t 0+rdE aa m t 0≤6) :
  (∀ r∈za4 aa f t l m,0<r.2∧r.2≤729∧0≤rdE aa r.1 t 0∧rdE aa r.1 t 0≤rdE aa l t 0+rdE aa m t 0∧IT.nodesL r.1≤IT.nodesL l+IT.nodesL m)∧zaF (λ_=>1) (za4 aa f t l m)≤3 ^ (rdE aa l t 0+rdE aa m t 0).toNat∧zaF (λ_=>1) (za4 aa f t l m)≤729∧(za4 aa f t l m).length≤729:=by
 obtain⟨d1,d2⟩:=(zem h8 f).2.2 t l m hf hi hj h6;have hs:=(zgD aa f).2.2 t l m;have dx:=(zgs aa f).2.2 t l m;have h1:zaF (λ_=>1) (za4 aa f t l m)≤3 ^ (rdE aa l t 0+rdE aa m t 0).toNat:=by have:=hs λ_=>1;rw[zfI]at this;rw[this];exact d2
 have h2:=Nat.le_trans h1 (ze2 h6);refine⟨λp hp=>?_,h1,h2,Nat.le_trans (zfr dx) h2⟩;have fP:∀ g:IT→Nat,zaF g ((za4 aa f t l m).map λr=>(IT.mk 0 r.1,r.2))=zaF g (zaO aa f t l m):=λg=>by rw[zfJ g (λx=>IT.mk 0 x)];exact hs g
 obtain⟨q,hq,he⟩:=zep fP (p:=(IT.mk 0 p.1,p.2)) (List.mem_map.2 ⟨p,hp,rfl⟩) (dx p hp);obtain⟨_,_,e2,e3,_,_,e6⟩:=d1 q hq;simp only at he;rw[he]at e2 e3 e6;have hm:=zfu (λ_=>1) hp;rw[Nat.mul_one]at hm;exact⟨dx p hp,by omega,e2,e3,e6⟩
def Gd (s:List (IT × Nat)):Prop:=∀ p∈s,p.1.nodes≤1000∧0<p.2
theorem Gd.add {s:List (IT × Nat)} (h:Gd s) {i:IT} (hi:i.nodes≤1000) (c:Nat):Gd (zdq s i c):=by
 intro p hp;rcases zoL p hp with ⟨q,hq,he,aQ⟩ | ⟨h0,he,aQ⟩
 ·have:=h q hq;rw[←he];omega
 ·rw[he];omega
theorem Gd.nil:Gd []:=λp hp=>by simp at hp
theorem ze7 (p:IT × Nat):List.take 5 (tmC p)=tmC p:=List.take_of_length_le (by simp)
theorem zdF (p:IT × Nat):List.take 2 (tmC p)=p.1.cs:=by rw[tmC,List.take_left' (by simp)]
theorem zdT (p:IT × Nat):List.take 3 (List.drop 2 (tmC p))=zai (p.2:Int):=by rw[tmC,List.drop_left' (by simp),List.take_of_length_le (by simp[zai])]
theorem zeB (p:IT × Nat):∀ x∈tmC p,x.known=true:=List.all_eq_true.1 (by rw[tmC,List.all_append,IT.cs_known,zh3];rfl)
def hpM (H:zaa) (tn:Int) (tks:List VT) (s:List (IT × Nat)):zaa:=H++[.cells [.int .i64 5,.int .i64 tn,.sl (VT.css tks) .none],.vec zaH 5 s.length (tms s)]
@[simp] theorem zGy {H:zaa} {tn:Int} {tks:List VT} {s:List (IT × Nat)}:(hpM H tn tks s).length=H.length+2:=by simp[hpM]
@[simp] theorem yaX {H:zaa} {tn:Int} {tks:List VT} {s:List (IT × Nat)} {c:AB} {J:zaa}:(hpM H tn tks s++c::J)[H.length+2]?=some c:=by rw[←zGy (H:=H) (tn:=tn) (tks:=tks) (s:=s)];simp
@[simp] theorem yaV {H:zaa} {tn:Int} {tks:List VT} {s:List (IT × Nat)} {J:zaa}:(hpM H tn tks s++J)[H.length]?=some (.cells [.int .i64 5,.int .i64 tn,.sl (VT.css tks) .none]):=by simp[hpM,List.getElem?_append]
@[simp] theorem yaW {H:zaa} {tn:Int} {tks:List VT} {s:List (IT × Nat)}:(hpM H tn tks s)[H.length]?=some (.cells [.int .i64 5,.int .i64 tn,.sl (VT.css tks) .none]):=by simp[hpM,List.getElem?_append]
@[simp] theorem yaY {H:zaa} {tn:Int} {tks:List VT} {s:List (IT × Nat)} (h:H.length<(hpM H tn tks s).length):(hpM H tn tks s)[H.length]=.cells [.int .i64 5,.int .i64 tn,.sl (VT.css tks) .none]:=by simp[hpM,List.getElem_append]
def zcr (l:List Nat):List (List AV):=l.map λ(z:Nat)=>zai (z:Int)
@[simp] theorem zHI (l:List Nat):(zcr l).length=l.length:=by simp[zcr]
@[simp] theorem ybb {l:List Nat} {i:Nat} (h:i<(zcr l).length):(zcr l)[i]=zai ((l[i]'(by simpa using h):Nat):Int):=by simp[zcr]
def zc1 (a b n:Nat):List Nat:=(List.range n).map (pcf a b)
def hpL (H:zaa) (t:VT) (i j:IT) (s:List (IT × Nat)):zaa:=H++[.cells t.cs,.cells i.cs,.cells j.cs,.vec zaH 5 s.length (tms s)]
@[simp] theorem zGx {H:zaa} {t:VT} {i j:IT} {s:List (IT × Nat)}:(hpL H t i j s).length=H.length+4:=by simp[hpL]
@[simp] theorem yaU {H:zaa} {t:VT} {i j:IT} {s:List (IT × Nat)} {c:AB} {J:zaa}:(hpL H t i j s++c::J)[H.length+4]?=some c:=by rw[←zGx (H:=H) (t:=t) (i:=i) (j:=j) (s:=s)];simp
def ofD (aa:List Dat) (t:VT) (s:List (IT × Nat)) (d:Nat):List (IT × Nat):=s.filter λp=>rdV aa p.1 t == (d:Int)
def zcc (aa:List Dat) (t:VT) (s:List (IT × Nat)) (d:Nat):List (IT × Nat):=(List.range d).flatMap (ofD aa t s)
theorem zye (aa:List Dat) (t:VT) (s:List (IT × Nat)) (d:Nat):zcc aa t s (d+1)=zcc aa t s d++ofD aa t s d:=by simp[zcc,List.range_succ]
theorem zx7 (aa:List Dat) (t:VT) (f:IT→Nat):∀ (s:List (IT × Nat)),(∀ p∈s,0≤rdV aa p.1 t∧rdV aa p.1 t≤6)→∀ d:Nat,zaG f (zcc aa t s d)=zaG f (s.filter λp=>decide (rdV aa p.1 t<(d:Int)))
 | s,h,0=>by
  have:(s.filter λp=>decide (rdV aa p.1 t<((0:Nat):Int)))=[]:=by rw[List.filter_eq_nil_iff];intro p hp;have:=h p hp;simp;omega
  rw[this];rfl
 | s,h,d+1=>by
  rw[zye,zgA,zx7 aa t f s h d];unfold ofD;clear h;induction s with
  | nil=>rfl
  | cons p s ih=>
   simp only[List.filter_cons];by_cases h1:rdV aa p.1 t<(d:Int)
   ·have h2:(rdV aa p.1 t == (d:Int))=false:=by simp;omega
    have h3:rdV aa p.1 t<((d+1:Nat):Int):=by omega
    simp only[h1,h2,h3,decide_true,if_true,Bool.false_eq_true,if_false,zco];omega
   ·by_cases h2:rdV aa p.1 t=(d:Int)
    ·have h3:rdV aa p.1 t<((d+1:Nat):Int):=by omega
     have h4:(rdV aa p.1 t == (d:Int))=true:=by simpa using h2
     simp only[h1,h4,h3,decide_true,decide_false,if_true,Bool.false_eq_true,if_false,zco];omega
    ·have h3:¬ rdV aa p.1 t<((d+1:Nat):Int):=by omega
     have h4:(rdV aa p.1 t == (d:Int))=false:=by simpa using h2
     simp only[h1,h4,h3,decide_false,if_false,Bool.false_eq_true];omega
theorem zyf {aa:List Dat} {t:VT} {s:List (IT × Nat)} (h:∀ p∈s,0≤rdV aa p.1 t∧rdV aa p.1 t≤6) (f:IT→Nat):zaG f (zcc aa t s 7)=zaG f s:=by rw[zx7 aa t f s h 7];congr 1;rw[List.filter_eq_self];intro p hp;have:=h p hp;simp;omega
theorem zHp {aa:List Dat} {t:VT} {s:List (IT × Nat)} {d:Nat}:∀ p∈zcc aa t s d,p∈s:=by intro p hp;obtain⟨k,_,h⟩:=List.mem_flatMap.1 hp;exact (List.mem_filter.1 h).1
theorem zHc {aa:List Dat} {t:VT} {s:List (IT × Nat)} {d j:Nat} (hj:j<s.length):ofD aa t (s.take (j+1)) d=ofD aa t (s.take j) d++if rdV aa s[j].1 t=(d:Int) then [s[j]] else []:=by
 rw[List.take_succ_eq_append_getElem hj];simp only[ofD,List.filter_append,List.filter_cons,List.filter_nil];by_cases h:rdV aa s[j].1 t=(d:Int)
 ·simp[h]
 ·have h4:(rdV aa s[j].1 t == (d:Int))=false:=by simpa using h
  simp[h,h4]
theorem zqC {aa:List Dat} {t:VT} {s:List (IT × Nat)} {d:Nat}:(ofD aa t s d).length≤s.length:=List.length_filter_le _ _
theorem zqD {aa:List Dat} {t:VT} {s:List (IT × Nat)}:∀ d:Nat,(zcc aa t s d).length≤d*s.length
 | 0=>by simp[zcc]
 | d+1=>by rw[zye,List.length_append,Nat.succ_mul];have:=zqD (aa:=aa) (t:=t) (s:=s) d;have:=zqC (aa:=aa) (t:=t) (s:=s) (d:=d);omega
def zbc:List (IT × Nat)→IT→Nat→List (IT × Nat)
 | [],i,c=>[(i,c)]
 | p::s,i,c=>if IT.same p.1 i then (p.1,p.2+c)::s else p::zbc s i c
theorem zyP (i:IT):IT.same i i=true:=(IT.cmp_zero i i).1 (zgb i)
theorem zoM (g:IT→Nat) (i:IT) (c:Nat):∀ s:List (IT × Nat),zaF g (zbc s i c)=zaF g s+c*g i
 | []=>by simp[zbc]
 | p::s=>by
  unfold zbc;split
  ·rename_i h;rw[zbf,zbf,same_eq _ _ h,Nat.add_mul];omega
  ·rw[zbf,zbf,zoM g i c s];omega
theorem zg3 {i:IT} {c:Nat}:∀ {s:List (IT × Nat)} {p:IT × Nat},p∈zbc s i c→p.1=i∧c≤p.2∨p∈s
 | [],p,h=>by simp[zbc]at h;rw[h];exact .inl ⟨rfl,Nat.le_refl _⟩
 | x::s,p,h=>by
  unfold zbc at h;split at h
  ·rename_i he;rcases List.mem_cons.1 h with rfl | h
   ·exact .inl ⟨same_eq _ _ he,by simp⟩
   ·exact .inr (List.mem_cons_of_mem _ h)
  ·rcases List.mem_cons.1 h with rfl | h
   ·exact .inr List.mem_cons_self
   ·rcases zg3 h with h | h
    ·exact .inl h
    ·exact .inr (List.mem_cons_of_mem _ h)
theorem zv5 {i:IT} {c:Nat}:∀ {s:List (IT × Nat)},(s.map Prod.fst).Nodup→((zbc s i c).map Prod.fst).Nodup
 | [],_=>by simp[zbc]
 | x::s,h=>by
  rw[List.map_cons,List.nodup_cons]at h;unfold zbc;split
  ·rw[List.map_cons,List.nodup_cons];exact h
  ·rename_i he;rw[List.map_cons,List.nodup_cons];refine⟨λhx=>?_,zv5 h.2⟩;obtain⟨p,hp,hpe⟩:=List.mem_map.1 hx;rcases zg3 hp with ⟨h1,_⟩ | h1
   ·exact he (by rw[←hpe,h1,zyP])
   ·exact h.1 (List.mem_map.2 ⟨p,h1,hpe⟩)
theorem zv3 {i:IT} {c:Nat}:∀ {s:List (IT × Nat)} {k:Nat} (hk:k<s.length),s[k].1=i→(s.map Prod.fst).Nodup→zbc s i c=s.set k (s[k].1,s[k].2+c)
 | x::s,0,_,he,_=>by simp only[List.getElem_cons_zero]at he;unfold zbc;rw[if_pos (by rw[he];exact zyP i)];rfl
 | x::s,k+1,hk,he,hn=>by
  rw[List.map_cons,List.nodup_cons]at hn;simp only[List.getElem_cons_succ]at he;have bY:k<s.length:=by simpa using hk
  unfold zbc;rw[if_neg λh=>hn.1 (by rw[same_eq _ _ h,←he];exact List.mem_map.2 ⟨s[k],List.getElem_mem bY,rfl⟩),zv3 bY he hn.2];rfl
theorem zv6 {i:IT} {c:Nat}:∀ {s:List (IT × Nat)},(∀ p∈s,p.1≠i)→zbc s i c=s++[(i,c)]
 | [],_=>rfl
 | x::s,h=>by unfold zbc;rw[if_neg λhe=>h x List.mem_cons_self (same_eq _ _ he),zv6 λp hp=>h p (List.mem_cons_of_mem _ hp)];rfl
def zbv (s l:List (IT × Nat)):List (IT × Nat):=l.foldl (λs p=>zbc s p.1 p.2) s
theorem zFY (s:List (IT × Nat)):zbv s []=s:=rfl
theorem zFZ (s l:List (IT × Nat)) (p:IT × Nat):zbv s (l++[p])=zbc (zbv s l) p.1 p.2:=by simp[zbv]
theorem zo4 (g:IT→Nat):∀ (l s:List (IT × Nat)),zaF g (zbv s l)=zaF g s+zaF g l
 | [],s=>by simp[zbv]
 | p::l,s=>by have:=zo4 g l (zbc s p.1 p.2);rw[zoM]at this;show zaF g (zbv (zbc s p.1 p.2) l)=_;rw[this,zbf];omega
theorem zo3:∀ (l s:List (IT × Nat)),(s.map Prod.fst).Nodup→((zbv s l).map Prod.fst).Nodup
 | [],s,h=>h
 | p::l,s,h=>zo3 l _ (zv5 h)
theorem zwH:∀ (l s:List (IT × Nat)),(∀ q∈s,0<q.2)→(∀ q∈l,0<q.2)→∀ p∈zbv s l,0<p.2∧((∃ q∈s,q.1=p.1)∨∃ q∈l,q.1=p.1)
 | [],s,hs,_,p,hp=>⟨hs p hp,.inl ⟨p,hp,rfl⟩⟩
 | x::l,s,hs,hl,p,hp=>by
  have hx:=hl x List.mem_cons_self;obtain⟨h1,h2⟩:=zwH l (zbc s x.1 x.2) (λq hq=>(zg3 hq).elim (λh=>Nat.lt_of_lt_of_le hx h.2) (hs q)) (λq hq=>hl q (List.mem_cons_of_mem _ hq)) p hp;refine⟨h1,?_⟩;rcases h2 with ⟨q,hq,he⟩ | ⟨q,hq,he⟩
  ·rcases zg3 hq with ⟨h,_⟩ | h
   ·exact .inr ⟨x,List.mem_cons_self,by rw[←he,h]⟩
   ·exact .inl ⟨q,h,he⟩
  ·exact .inr ⟨q,List.mem_cons_of_mem _ hq,he⟩
theorem zFz {aa:List Dat} {t:VT} {d:Nat} {s r L:List (IT × Nat)} (hr:r.Perm (ofD aa t s d)) (hso:r.Pairwise λp q=>¬ IT.cmp q.1 p.1<0) (hn:(s.map Prod.fst).Nodup) (hs:∀ p∈s,0<p.2) (hL:Asc L) (eQ:∀ p∈L,0<p.2) (d8:∀ g:IT→Nat,zaF g s=zaF g L):r=ofD aa t L d:=by
 have mJ:(r.map Prod.fst).Nodup:=((hr.map Prod.fst).nodup_iff).2 (hn.sublist ((List.filter_sublist).map _));have hasc:Asc r:=by
  unfold List.Nodup at mJ;rw[List.pairwise_map]at mJ;refine (hso.and mJ).imp λ{p q} h=>?_;have h0:=IT.cmp_anti p.1 q.1;by_cases h1:IT.cmp p.1 q.1=0
  ·exact absurd (zo1 h1) h.2
  ·omega
 refine zwg hasc (hL.sublist List.filter_sublist) (λp hp=>hs p (List.mem_filter.1 (hr.subset hp)).1) (λp hp=>eQ p (List.mem_filter.1 hp).1) λg=>?_;rw[zJi g hr];have h1:=zkD g (λx=>rdV aa x t == (d:Int)) s;have h2:=zkD g (λx=>rdV aa x t == (d:Int)) L;unfold ofD;rw[h1,h2,d8]
theorem zGX (aa:List Dat) (f:Nat) (t:VT) (i j:IT):Asc (zbz aa f t i j):=by
 have h0:Asc ([]:List (IT × Nat)):=List.Pairwise.nil;cases f with
 | zero=>rw[zbz];exact h0
 | succ f=>
  rw[zbz];split
  ·exact ziZ _ _ h0
  ·split
   ·exact ziZ _ _ h0
   ·split
    ·exact ziZ _ _ h0
    ·exact List.pairwise_singleton _ _
mutual
def wrI:IT→List UInt8
 | .mk n ks=>UInt8.ofNat (48+n.toNat)::(if ks.length=0 then [] else 40::(zbk ks++[41]))
def zbk:List IT→List UInt8
 | []=>[]
 | k::ks=>wrI k++44::zbk ks
end
mutual
def Dig:IT→Prop
 | .mk n ks=>0≤n∧n≤9∧zcJ ks
def zcJ:List IT→Prop
 | []=>True
 | k::ks=>Dig k∧zcJ ks
end
theorem zvC:∀ {ks:List IT},zcJ ks→∀ k∈ks,Dig k
 | k::ks,h,x,hx=>by
  rw[zcJ]at h;rcases List.mem_cons.1 hx with rfl | hx
  ·exact h.1
  ·exact zvC h.2 x hx
theorem zoy:∀ {ks:List IT},(∀ k∈ks,Dig k)→zcJ ks
 | [],_=>by rw[zcJ];trivial
 | k::ks,h=>by rw[zcJ];exact⟨h k List.mem_cons_self,zoy λx hx=>h x (List.mem_cons_of_mem _ hx)⟩
theorem zGd {a b:Int} (ha:0≤a) (ha9:a≤9) (hb:0≤b) (hb9:b≤9) (h:UInt8.ofNat (48+a.toNat)=UInt8.ofNat (48+b.toNat)):a=b:=by have:=congrArg UInt8.toNat h;rw[UInt8.toNat_ofNat_of_lt' (by show _<256;omega),UInt8.toNat_ofNat_of_lt' (by show _<256;omega)]at this;omega
theorem zwT {a:Int} (ha:0≤a) (ha9:a≤9):UInt8.ofNat (48+a.toNat)≠41:=by intro h;have:=congrArg UInt8.toNat h;rw[UInt8.toNat_ofNat_of_lt' (by show _<256;omega)]at this;simp at this;omega
theorem zrJ (k:IT) (s:List UInt8):∃ r,wrI k++s=UInt8.ofNat (48+(zaJ k).toNat)::r:=by obtain⟨n,ks⟩:=k;rw[wrI];exact⟨_,rfl⟩
theorem zvD {k:IT} (h:Dig k):0≤zaJ k∧zaJ k≤9:=by obtain⟨n,ks⟩:=k;rw[Dig]at h;exact⟨h.1,h.2.1⟩
mutual
theorem zz1:∀ (i j:IT) (s s':List UInt8),Dig i→Dig j→s.head?≠some 40→s'.head?≠some 40→wrI i++s=wrI j++s'→i=j∧s=s'
 | .mk n ks,.mk m ls,s,s',hi,hj,h1,h2,h=>by
  rw[Dig]at hi hj;rw[wrI,wrI,List.cons_append,List.cons_append,List.cons.injEq]at h;obtain rfl:=zGd hi.1 hi.2.1 hj.1 hj.2.1 h.1;have h':=h.2;by_cases hk:ks.length=0
  ·obtain rfl:=List.eq_nil_of_length_eq_zero hk;by_cases hl:ls.length=0
   ·obtain rfl:=List.eq_nil_of_length_eq_zero hl;simp at h';exact⟨rfl,h'⟩
   ·rw[if_pos (show ([]:List IT).length=0 from rfl),if_neg hl]at h';rw[List.nil_append]at h';rw[h']at h1;simp at h1
  ·by_cases hl:ls.length=0
   ·obtain rfl:=List.eq_nil_of_length_eq_zero hl;rw[if_neg hk,if_pos (show ([]:List IT).length=0 from rfl),List.nil_append]at h';rw[←h']at h2;simp at h2
   ·rw[if_neg hk,if_neg hl,List.cons_append,List.cons_append,List.cons.injEq]at h';have h3:=h'.2;simp only[List.append_assoc,List.cons_append,List.nil_append]at h3;obtain⟨e1,e2⟩:=zzZ ks ls s s' hi.2.2 hj.2.2 h3;exact⟨by rw[e1],e2⟩
theorem zzZ:∀ (ks ls:List IT) (s s':List UInt8),zcJ ks→zcJ ls→zbk ks++41::s=zbk ls++41::s'→ks=ls∧s=s'
 | [],[],s,s',_,_,h=>by rw[zbk,List.nil_append,List.nil_append]at h;simp at h;exact⟨rfl,h⟩
 | [],l::ls,s,s',_,hl,h=>by rw[zcJ]at hl;rw[zbk,zbk,List.append_assoc,List.nil_append,List.cons_append]at h;obtain⟨r,hr⟩:=zrJ l (44::(zbk ls++41::s'));rw[hr]at h;have h0:=(List.cons.inj h).1;have:=zvD hl.1;exact absurd h0.symm (zwT this.1 this.2)
 | k::ks,[],s,s',hk,_,h=>by rw[zcJ]at hk;rw[zbk,zbk,List.append_assoc,List.nil_append,List.cons_append]at h;obtain⟨r,hr⟩:=zrJ k (44::(zbk ks++41::s));rw[hr]at h;have h0:=(List.cons.inj h).1;have:=zvD hk.1;exact absurd h0 (zwT this.1 this.2)
 | k::ks,l::ls,s,s',hk,hl,h=>by rw[zcJ]at hk hl;rw[zbk,zbk,List.append_assoc,List.append_assoc,List.cons_append,List.cons_append]at h;obtain⟨e1,e2⟩:=zz1 k l (44::(zbk ks++41::s)) (44::(zbk ls++41::s')) hk.1 hl.1 (by simp) (by simp) h;rw[List.cons.injEq]at e2;obtain⟨e3,e4⟩:=zzZ ks ls s s' hk.2 hl.2 e2.2;exact⟨by rw[e1,e3],e4⟩
end
theorem zz2 {i j:IT} (hi:Dig i) (hj:Dig j) (h:wrI i=wrI j):i=j:=
 (zz1 i j [] [] hi hj (by simp) (by simp) (by rw[h])).1
theorem zGc {aa:List Dat} (h8:∀ D∈aa,D.cons.length≤8):∀ (m:Nat) (i:IT),i.nodes≤m→∀ t:VT,0≤rdV aa i t→Dig i:=by
 intro m;induction m with
 | zero=>intro i h;have:=i.nodes_pos;omega
 | succ m ih=>
  have hA:∀ (l:List IT) (ts:List VT),IT.nodesL l≤m→l.length=ts.length→0≤rdA aa l ts 0→zcJ l:=by intro l ts hm hl h;refine zoy λk hk=>?_;obtain⟨j,hj,rfl⟩:=List.getElem_of_mem hk;have:=(zdA (aa:=aa) l ts 0 (by omega) hl h).1 j hj (by omega);exact ih l[j] (by have:=zdO hj;omega) ts[j] this
  intro i hm t h;obtain⟨n,ks⟩:=i;obtain⟨k,tn,tks⟩:=t;simp only[IT.nodes]at hm;rw[Dig];by_cases k6:k=6
  ·subst k6;rw[rdV]at h;simp only[VT.kind,VT.kids,if_true]at h;by_cases hn:n=0
   ·by_cases hl:tks.length=ks.length
    ·simp[hn,hl]at h;exact⟨by omega,by omega,hA ks tks (by omega) hl.symm h⟩
    ·simp[hn,hl]at h
   ·simp[hn]at h
  ·by_cases k7:k=7
   ·subst k7;rw[rdV]at h;simp only[VT.kind,k6,if_false,if_true]at h;by_cases hc:0≤n∧n≤6∧ks.length=0
    ·obtain rfl:=List.eq_nil_of_length_eq_zero hc.2.2;exact⟨hc.1,by omega,by rw[zcJ];trivial⟩
    ·rw[if_neg hc]at h;omega
   ·by_cases k5:k=5
    ·subst k5;rw[zks]at h;by_cases hc:n=0∧ks.length≤6
     ·rw[if_pos hc]at h;refine⟨by omega,by omega,zoy λx hx=>?_⟩;obtain⟨j,hj,rfl⟩:=List.getElem_of_mem hx;have hn:=zdO hj;obtain⟨c,eks,he⟩:∃ c eks,ks[j]=.mk c eks:=⟨zaJ ks[j],zaz ks[j],by cases ks[j];rfl⟩;obtain⟨ps,e1,e2,e3⟩:=zkp h8 h hj he;have hrE:0≤rdE aa [ks[j]] (.mk 5 tn tks) 0:=by have h0:=h;rw[zrc ks]at h0;exact (zfD h8 (.mk 5 tn tks) (ks.map λx=>[x]) 0 (by omega) (by omega) h0).1 [ks[j]] (List.mem_map.2 ⟨ks[j],List.getElem_mem hj,rfl⟩)
      rw[he]at hrE;obtain⟨c0,c8,_⟩:=zh4 hrE;rw[he,Dig];rw[he]at hn;simp only[IT.nodes]at hn;exact⟨c0,by omega,hA eks ps (by omega) e2.symm e3.1⟩
     ·rw[if_neg hc]at h;omega
    ·rw[rdV]at h;simp only[VT.kind,k6,k7,k5,if_false]at h;by_cases hc:n=0∧ks.length=0
     ·obtain rfl:=List.eq_nil_of_length_eq_zero hc.2;exact⟨by omega,by omega,by rw[zcJ];trivial⟩
     ·rw[if_neg hc]at h;omega
def kvS:List (IT × Nat)→Nat→List (List UInt8 × AV)
 | [],_=>[]
 | p::s,k=>(wrI p.1,.int .i64 k)::kvS s (k+1)
theorem zxq {i:IT} (hi:Dig i):∀ (s:List (IT × Nat)) (k:Nat),(∀ p∈s,Dig p.1)→(∀ p∈s,p.1≠i)→zbM (kvS s k) (wrI i)=none∧∀ c,zcF (kvS s k) (wrI i) (.int .i64 (k+s.length:Nat))=kvS (s++[(i,c)]) k
 | [],k,_,_=>by simp[kvS,zbM,zcF]
 | p::s,k,h,hn=>by
  have hb:(wrI p.1 == wrI i)=false:=by simp only[beq_eq_false_iff_ne,ne_eq];intro he;exact hn p (by simp) (zz2 (h p (by simp)) hi he)
  obtain⟨h1,h2⟩:=zxq hi s (k+1) (λq hq=>h q (by simp[hq])) (λq hq=>hn q (by simp[hq]));refine⟨by simp[kvS,zbM,hb,h1],λc=>?_⟩;have:=h2 c;rw[show k+1+s.length=k+(p::s).length by simp;omega]at this;simp[kvS,zcF,hb]at this ⊢;exact this
theorem zxs {i:IT} (hi:Dig i):∀ (s:List (IT × Nat)) (k j:Nat) (hj:j<s.length),(∀ p∈s,Dig p.1)→(s.map Prod.fst).Nodup→s[j].1=i→zbM (kvS s k) (wrI i)=some (.int .i64 (k+j:Nat))
 | p::s,k,0,hj,h,hn,he=>by simp at he;simp[kvS,zbM,he]
 | p::s,k,j+1,hj,h,hn,he=>by
  simp only[List.getElem_cons_succ]at he;simp only[List.map_cons,List.nodup_cons]at hn;have hb:(wrI p.1 == wrI i)=false:=by simp only[beq_eq_false_iff_ne,ne_eq];intro hh;have:=zz2 (h p (by simp)) hi hh;exact hn.1 (by rw[this,←he];exact List.mem_map.2 ⟨_,List.getElem_mem (by simpa using hj),rfl⟩)
  have:=zxs hi s (k+1) j (by simpa using hj) (λq hq=>h q (by simp[hq])) hn.2 he;rw[show k+1+j=k+(j+1) by omega]at this;simp[kvS,zbM,hb,this]
theorem zxp:∀ (s s':List (IT × Nat)) (k:Nat),s.map Prod.fst=s'.map Prod.fst→kvS s k=kvS s' k
 | [],[],_,_=>rfl
 | [],_::_,_,h=>by simp at h
 | _::_,[],_,h=>by simp at h
 | p::s,q::s',k,h=>by simp only[List.map_cons,List.cons.injEq]at h;rw[kvS,kvS,h.1,zxp s s' (k+1) h.2]
theorem zGJ (s:List (IT × Nat)) {j:Nat} (hj:j<s.length) (c k:Nat):kvS (s.set j (s[j].1,c)) k=kvS s k:=by
 refine zxp _ _ _ ?_;rw[List.map_set];refine List.ext_getElem (by simp) λn h1 h2=>?_;rw[List.getElem_set];split
 ·rename_i h;subst h;simp
 ·rfl
theorem zxr {n:Nat}:∀ (s:List (IT × Nat)) (k:Nat),((kvS s k).all λp=>p.2.scV n)=true
 | [],_=>rfl
 | p::s,k=>by rw[kvS,List.all_cons,zxr s (k+1),Bool.and_true];simp[AV.scV,AV.scA,AV.scB]
mutual
theorem zrK:∀ i:IT,(wrI i).length+1≤4*i.nodes
 | .mk n ks=>by
  have:=zkR ks;rw[wrI];simp only[IT.nodes];split
  ·simp;omega
  ·rename_i h;have hl:=IT.len_le ks;simp;omega
theorem zkR:∀ ks:List IT,(zbk ks).length≤4*IT.nodesL ks
 | []=>by simp[zbk]
 | k::ks=>by have:=zrK k;have:=zkR ks;rw[zbk];simp only[IT.nodesL,List.length_append,List.length_cons];omega
end
end Go.Proofs.YtdmamdnkcefmmaaGreatDoor
namespace Go.Proofs.YtdmamdnkcefmmaaGreatDoor
open Go Go.RowKit
set_option maxHeartbeats 1000000 in
set_option maxRecDepth 100000 in
theorem zF6 (b:Nat) (w:World) (h0:w.cell? ⟨b,0,none⟩=some (.pointer (some ⟨b,0,none⟩))) :
  Calls tP zhG #[.pointer (some ⟨b,0,none⟩)] w λe w'=>e=.returned (.tuple #[])∧w'=w:=by
 obtain⟨j,hj⟩:∃ j,tP.info? 112=some j:=Option.isSome_iff_exists.1 (by kernel_rfl)
 go_enter Tryz.func169,Tryz.ntmps169
 go_wp2
 rw[Lib.run_neq_ptr_same w _ Tryz.underlying109 hj]
 go_wp2
 go_end0
 exact⟨rfl,rfl⟩
set_option maxHeartbeats 1000000 in
set_option maxRecDepth 100000 in
theorem zF5 (b:Nat) (w:World) (h0:w.cell? ⟨b,0,none⟩=some (.pointer none)) (aV:w.shape? b=some (112,2)) (hfz:w.frozen? ⟨b,0,none⟩=false) :
  Calls tP zhG #[.pointer (some ⟨b,0,none⟩)] w λe w'=>e=.returned (.tuple #[])∧w'=w.setCell ⟨b,0,none⟩ (.pointer (some ⟨b,0,none⟩)):=by
 obtain⟨j,hj⟩:∃ j,tP.info? 112=some j:=Option.isSome_iff_exists.1 (by kernel_rfl);have hjs:j.size=2:=by
  have:(tP.info? 112).map (·.size)=some 2:=by kernel_rfl
  rw[hj]at this;simpa using this
 go_enter Tryz.func169,Tryz.ntmps169
 go_wp2
 rw[Lib.run_to_unsafe w ⟨b,0,none⟩ Tryz.underlying109 Tryz.underlying256 hj (by rw[hjs];decide) aV (Nat.zero_lt_succ 1)];simp only[Result.andThen];rw[Oper.upon_value]
 go_wp2
 rw[run_callFunc_extern Tryz.func214 (by kernel_rfl) (by kernel_rfl) (by kernel_rfl) (e:=Extern.AbiNoEscape.same) (by kernel_rfl)];rw[Lib.run_noEscape];simp only[Result.andThen];rw[Oper.upon_value]
 go_wp2
 rw[Lib.run_from_unsafe w ⟨b,0,none⟩ Tryz.underlying256 Tryz.underlying109 hj aV (by kernel_rfl)];simp only[Result.andThen];rw[Oper.upon_value]
 go_wp2
 go_end0
 exact⟨rfl,rfl⟩
end Go.Proofs.YtdmamdnkcefmmaaGreatDoor
namespace Go.Proofs.YtdmamdnkcefmmaaGreatDoor
open Go Go.RowKit
set_option maxHeartbeats 2000000 in
set_option maxRecDepth 100000 in
theorem zJT (b:Nat) (s:ByteArray) (v v':Value) (w w1 w2:World)
  (bR:Calls tP zhG #[.pointer (some ⟨b,0,none⟩)] w λe w'=>e=.returned (.tuple #[])∧w'=w1)
  (bG:w1.heap[b]?=some (.cells #[.pointer (some ⟨b,0,none⟩),v] 112 (0,0)))
  (hr:∀ ty,(Builtin.append_ #[110,9] ty #[v,.string s]).run tP w1=.ok v' w2)
  (bz:w2.heap[b]?=some (.cells #[.pointer (some ⟨b,0,none⟩),v] 112 (0,0))) (bN:∃ ao n cap,v'=.slice ao n cap) :
  Calls tP zjl #[.pointer (some ⟨b,0,none⟩),.string s] w λe w'=>e=.returned (.tuple #[.int .i64 s.size,.nilIface])∧w'=w2.setCell ⟨b,1,none⟩ v':=by
 obtain⟨ao,n',cap,rfl⟩:=bN;have c1:w1.cell? ⟨b,1,none⟩=some v:=by rw[Lib.cell_of_heap bG];rfl
 have d1:w2.cell? ⟨b,1,none⟩=some v:=by rw[Lib.cell_of_heap bz];rfl
 have f1:w2.frozen? ⟨b,1,none⟩=false:=Lib.frozen_of_heap bz 1
 go_enter Tryz.func126,Tryz.ntmps126
 go_wp2_with (go_at_call 169;refine bR.mono ?_)
 rintro e w1' ⟨rfl,rfl⟩
 go_wp2_with (at_builtin;refine Go.Abs.wpList_append_str rfl _ _ 110 9 rfl rfl rfl hr ?_)
 go_wp2
 go_ret2
 exact⟨rfl,rfl⟩
end Go.Proofs.YtdmamdnkcefmmaaGreatDoor
namespace Go.Proofs.YtdmamdnkcefmmaaGreatDoor
open Go Go.RowKit Go.Abs
theorem zwu:∃ i,tP.info? 5=some i∧i.zero=some (.int .u8 0)∧i.size=1∧i.bytes=1:=by
 obtain⟨i,hi⟩:∃ i,tP.info? 5=some i:=Option.isSome_iff_exists.1 (by kernel_rfl);have h1:(tP.info? 5).map (·.size)=some 1:=by kernel_rfl
 have h2:(tP.info? 5).map (·.bytes)=some 1:=by kernel_rfl
 have h3:(tP.info? 5).bind (·.zero)=some (.int .u8 0):=by kernel_rfl
 rw[hi]at h1 h2 h3;exact⟨i,hi,by simpa using h3,by simpa using h1,by simpa using h2⟩
theorem zwI {B:Nat} {w:World} {G:Gh} {H:zaa} (hH:HRel B w G H) {id b:Nat} {p c:AV} (hp:p=.nilp∨p=.ptr id 0) (h1:H[id]?=some (.bld 112 [p,c])) (hμ:G.μ[id]?=some (.blk b)) :
  ∃ w1 v,Calls tP zhG #[.pointer (some ⟨b,0,none⟩)] w (λe w'=>e=.returned (.tuple #[])∧w'=w1)∧Ext B w G w1 G∧HRel B w1 G (H.set id (.bld 112 [.ptr id 0,c])) ∧
   w1.heap[b]?=some (.cells #[.pointer (some ⟨b,0,none⟩),v] 112 (0,0))∧ARel w1 G v c:=by
 obtain⟨hB,hL,⟨vs⟩,hw,hc⟩:=hH.ok id _ _ h1 hμ
 match vs,hc with
 | [vp,v],⟨jP,hv,_⟩=>
  have hvp':vp=.pointer none∨vp=.pointer (some ⟨b,0,none⟩):=by
   rcases hp with rfl | rfl
   ·exact .inl jP
   ·obtain⟨b',k1,k2⟩:=jP;rw[hμ]at k1;cases k1;exact .inr k2
  have aP:=hH.storeB (cs':=[.ptr id 0,c]) (vs':=#[.pointer (some ⟨b,0,none⟩),v]) h1 hμ hw ⟨⟨b,hμ,rfl⟩,hv,trivial⟩;rcases hvp' with rfl | rfl
  ·refine⟨_,v,?_,aP.1,aP.2,setRow_heap w b _ _ _ _ hw,aP.1.arel hv⟩;refine (zF5 b w (by rw[Lib.cell_of_heap hw];rfl) (by simp[World.shape?,hw]) (Lib.frozen_of_heap hw 0)).mono ?_;rintro e w' ⟨rfl,rfl⟩;refine⟨rfl,?_⟩;rw[setCell_eq_setRow w b 0 _ _ _ _ hw];rfl
  ·refine⟨w,v,zF6 b w (by rw[Lib.cell_of_heap hw];rfl),Ext.refl _ _ _,?_,hw,hv⟩;refine hH.reCellB h1 λus hus=>?_
   match us,hus with
   | [u1,u2],⟨k1,k2⟩=>
    refine⟨?_,k2⟩;rcases hp with rfl | rfl
    ·cases jP
    ·exact k1
theorem zE9 {H:zaa} {id id2:Nat} {l s:List UInt8} {p:AV} (hp:p=.nilp∨p=.ptr id 0) (h1:H[id]?=some (.bld 112 [p,.sl (bcs l) (.own id2)])) (h2:H[id2]?=some (.perm 5 1 l.length))
  (hn:l.length+s.length≤140737488355328) {K:AV→zaa→Prop}
  (hK:K (.tup [.int .i64 s.length,.nili]) ((H.set id2 (.perm 5 1 (l.length+s.length))).set id (.bld 112 [.ptr id 0,.sl (bcs (l++s)) (.own id2)]))) :
  ACalls tP zjl [.ptr id 0,.str s] H K:=by
 intro B w G ⟨vs⟩ hH hv
 match vs,hv with
 | [v0,v1],⟨⟨b,hμ,dE⟩,fJ,_⟩=>
  have fJ:v1=.string ⟨s.toArray⟩:=fJ;subst dE fJ;obtain⟨w1,v,bR,fX,dF,kb,lK⟩:=zwI hH hp h1 hμ;obtain⟨hd,v',size,n',hμ2,aQ,heq⟩:=lK;have aD:id≠id2:=by rintro rfl;rw[h1]at h2;cases h2
  have jE:(H.set id (.bld 112 [.ptr id 0,.sl (bcs l) (.own id2)]))[id2]?=some (.perm 5 1 l.length):=by rw[List.getElem?_set_ne aD];exact h2
  have aA:=dF.ok id2 _ _ jE hμ2;obtain⟨be,eW,⟨xs,au⟩,hL2⟩:=aA;subst be eW;obtain⟨rfl,aN⟩:=heq (zeh l);have jF:v.ownBlock≠some b:=λh=>aD (dF.dist id id2 _ _ b hμ hμ2 rfl h);have gA:b<w1.heap.size:=dF.lt id _ b hμ rfl;obtain⟨i,hi,hz,aF,bu⟩:=zwu;have iw:maxLen=9223372036854775807:=rfl;have key:∃ v' w2 G2,(∀ ty,(Builtin.append_ #[110,9] ty #[v,.string ⟨s.toArray⟩]).run tP w1=.ok v' w2)∧Ext B w1 G w2 G2 ∧
    HRel B w2 G2 ((H.set id (.bld 112 [.ptr id 0,.sl (bcs l) (.own id2)])).set id2 (.perm 5 1 (l.length+s.length)))∧ARel w2 G2 v' (.sl (bcs (l++s)) (.own id2))∧w2.heap[b]?=w1.heap[b]?:=by
   by_cases hs:s=[]
   ·subst hs;refine⟨v,w1,G,λty=>zHw Tryz.underlying110 Tryz.underlying9 hi aF au _ rfl,Ext.refl _ _ _,?_,?_,rfl⟩
    ·have:(H.set id (.bld 112 [.ptr id 0,.sl (bcs l) (.own id2)])).set id2 (.perm 5 1 (l.length+([]:List UInt8).length))=H.set id (.bld 112 [.ptr id 0,.sl (bcs l) (.own id2)]):=by
      apply List.ext_getElem?;intro k;by_cases hk:k=id2
      ·subst hk;rw[List.getElem?_set_self (List.getElem?_eq_some_iff.1 jE).1,jE];rfl
      ·rw[List.getElem?_set_ne (λh=>hk h.symm)]
     rw[this];exact dF
    ·rw[List.append_nil];exact⟨hd,v,1,_,hμ2,aQ,heq⟩
   ·have bX:0<s.length:=List.length_pos_iff.2 hs;obtain⟨v',w2,az,aU,aG⟩:=zHv (P:=tP) (ty:=110) (B:=B) Tryz.underlying110 Tryz.underlying9 hi hz aF bu au ⟨s.toArray⟩ (by simpa[ByteArray.size]using bX) (by simp[ByteArray.size];omega) (by simpa[ByteArray.size]using hn) dF.base;have l5:(⟨s.toArray⟩:ByteArray).size=s.length:=rfl;rw[l5]at aU;have hx:All2 (DRel w1 G.L) xs (bcs l).flatten:=zrL au hd (zeh l) (zfj l);obtain⟨G2,fw,cL,hT⟩:=zkd dF jE hμ2 au aU aG (zeh s) bX (zeh l) (zfj l) (zfj s) hx (zFD s);refine⟨v',w2,G2,λty=>az,fw,cL,by rw[←zwm];exact hT,?_⟩;rcases aG with ⟨g,k1,_,k3⟩ | ⟨_,k3⟩
    ·exact k3.block b gA (λh=>jF (by rw[k1,h]))
    ·exact k3.block b gA (by simp)
  obtain⟨v',w2,G2,az,fw,cL,gB,bz⟩:=key;have fL:=bz.trans kb;have hμ':=(fw.blk hμ);obtain⟨kO,iz⟩:=cL.storeB (id:=id) (cs':=[.ptr id 0,.sl (bcs (l++s)) (.own id2)]) (vs':=#[.pointer (some ⟨b,0,none⟩),v']) (by rw[List.getElem?_set_ne (λh=>aD h.symm)];exact List.getElem?_set_self (List.getElem?_eq_some_iff.1 h1).1) hμ' fL ⟨⟨b,hμ',rfl⟩,gB,trivial⟩;refine (zJT b ⟨s.toArray⟩ v v' w w1 w2 bR kb az fL ?_).mono ?_
  ·obtain⟨ek,_⟩:=gB;generalize bcs (l++s)=cs at ek;cases ek with
   | slE a c=>exact⟨_,_,_,rfl⟩
   | sl=>exact⟨_,_,_,rfl⟩
  ·rintro e w' ⟨rfl,rfl⟩;have aX:w2.setCell ⟨b,1,none⟩ v'=w2.setRow b #[.pointer (some ⟨b,0,none⟩),v']:=by rw[setCell_eq_setRow w2 b 1 _ _ _ _ fL];rfl
   rw[aX];refine⟨_,_,_,G2,rfl,(fX.trans fw).trans kO,?_,?_,hK⟩
   ·rw[List.set_comm _ _ aD,List.set_set]at iz;exact iz
   ·exact⟨#[.int .i64 s.length,.nilIface],rfl,rfl,rfl,trivial⟩
end Go.Proofs.YtdmamdnkcefmmaaGreatDoor
namespace Go.Proofs.YtdmamdnkcefmmaaGreatDoor
open Go Go.RowKit
theorem zFM:tP.cellsOf 5=1:=by kernel_rfl
set_option maxHeartbeats 2000000 in
set_option maxRecDepth 100000 in
theorem zJe {fr:Nat × Nat} (b g cap n:Nat) (p:Value) (cur:Array Value) (l:List UInt8) (w:World) (h0:l≠[]) (jG:w.heap[b]?=some (.cells #[p,.slice (some ⟨g,0,none⟩) l.length cap] 112 (0,0)))
  (hg:w.heap[g]?=some (.cells cur 5 fr)) (bL:l.length≤cap) (dz:cap≤maxLen) (aR:cur.size=cap)
  (aH:∀ j x,l[j]?=some x→w.cell? ((⟨g,0,none⟩:Addr).add j)=some (.int .u8 x.toNat)) :
  Calls tP zhT #[.pointer (some ⟨b,0,none⟩)] w λe w'=>e=.returned (.string ⟨l.toArray⟩)∧w'=w.drew.freeze ⟨g,0,none⟩ l.length:=by
 have cM:l.length≠0:=by simpa using h0
 have c1:w.drew.cell? ⟨b,1,none⟩=some (.slice (some ⟨g,0,none⟩) l.length cap):=by have:w.drew.heap[b]?=some (.cells #[p,.slice (some ⟨g,0,none⟩) l.length cap] 112 (0,0)):=jG;rw[Lib.cell_of_heap this];rfl
 have hSD:(Builtin.unsafeSliceData_ #[110] 174 #[.slice (some ⟨g,0,none⟩) l.length cap]).run tP w.drew=.ok (.pointer (some ⟨g,0,none⟩)) w.drew:=
  Lib.run_unsafeSliceData_row _ _ _ _ _ _ (by omega)
 have hUS:(Builtin.unsafeString_ #[174,3] 9 #[.pointer (some ⟨g,0,none⟩),.int .i64 l.length]).run tP w.drew=.ok (.string ⟨l.toArray⟩) (w.drew.freeze ⟨g,0,none⟩ l.length):=by refine Lib.run_unsafeString_row w.drew 174 3 9 5 Tryz.underlying174 zFM g cur.size (by have fh:w.drew.heap[g]?=some (.cells cur 5 fr):=hg;simp[World.shape?,fh]) l h0 (by omega) (by unfold maxLen at dz;omega) ?_;intro j x hx;exact aH j x hx
 go_enter Tryz.func76,Tryz.ntmps76
 go_wp2
 go_region
 all_goals (go_wp2;go_ret;exact⟨rfl,rfl⟩)
end Go.Proofs.YtdmamdnkcefmmaaGreatDoor
namespace Go.Proofs.YtdmamdnkcefmmaaGreatDoor
open Go Go.RowKit Go.Abs
theorem zwn {w:World} {L:Nat→Nat}:∀ {l:List UInt8} {xs:List Value},All2 (DRel w L) xs (bcs l).flatten→xs=l.map λb=>Value.int .u8 b.toNat
 | [],[],_=>rfl
 | [],_::_,h=>h.elim
 | _::_,[],h=>h.elim
 | c::l,x::xs,⟨bH,bh⟩=>by cases bH;rw[List.map_cons,zwn (l:=l) bh]
end Go.Proofs.YtdmamdnkcefmmaaGreatDoor
namespace Go.Proofs.YtdmamdnkcefmmaaGreatDoor
open Go Go.Abs
set_option maxRecDepth 100000
section
variable (t0:AV) (H:zaa) (K:Kt)
def zSs (_:Nat):List Bool:=[]
noncomputable def zSt:Code:=Tryz.f240.body.getD .skip
def zt4:Prop:=zac .lss false t0 (.int .i64 10) λt4=>zag t4 (zac .add false t0 (.int .i64 1) λt7=>zaR 0 0 (.str [48,49,50,51,52,53,54,55,56,57,97,98,99,100,101,102,103,104,105,106,107,108,109,110,111,112,113,114,115,116,117,118,119,120,121,122]) (some t0) (some t7) λt8=>K t8 H) (zac .mul false t0 (.int .i64 2) λt10=>zac .mul false t0 (.int .i64 2) λt12=>zac .add false t12 (.int .i64 2) λt13=>zaR 0 0 (.str [48,48,48,49,48,50,48,51,48,52,48,53,48,54,48,55,48,56,48,57,49,48,49,49,49,50,49,51,49,52,49,53,49,54,49,55,49,56,49,57,50,48,50,49,50,50,50,51,50,52,50,53,50,54,50,55,50,56,50,57,51,48,51,49,51,50,51,51,51,52,51,53,51,54,51,55,51,56,51,57,52,48,52,49,52,50,52,51,52,52,52,53,52,54,52,55,52,56,52,57,53,48,53,49,53,50,53,51,53,52,53,53,53,54,53,55,53,56,53,57,54,48,54,49,54,50,54,51,54,52,54,53,54,54,54,55,54,56,54,57,55,48,55,49,55,50,55,51,55,52,55,53,55,54,55,55,55,56,55,57,56,48,56,49,56,50,56,51,56,52,56,53,56,54,56,55,56,56,56,57,57,48,57,49,57,50,57,51,57,52,57,53,57,54,57,55,57,56,57,57]) (some t10) (some t13) λt14=>K t14 H)
def zLE (_:Nat):List Bool:=[]
noncomputable def zLF:Code:=Tryz.f127.body.getD .skip
def zLD:Prop:=ACalls tP zxR [t0] H λt4 H=>K t4 H
def zPk (_:Nat):List Bool:=[]
noncomputable def zPl:Code:=Tryz.f170.body.getD .skip
def zPj:Prop:=ACalls tP zqd [t0,(.int .i64 10)] H λt4 H=>K t4 H
variable {t0} {H} {K}
theorem zSu (h:HSc H→zt4 t0 H K):ACalls tP zqk [t0] H K:=
 acb zSs Tryz.func240 zSt (by kernel_rfl) (by kernel_rfl) h
theorem zLG (h:HSc H→zLD t0 H K):ACalls tP zpJ [t0] H K:=
 acb zLE Tryz.func127 zLF (by kernel_rfl) (by kernel_rfl) h
theorem zPm (h:HSc H→zPj t0 H K):ACalls tP zxR [t0] H K:=
 acb zPk Tryz.func170 zPl (by kernel_rfl) (by kernel_rfl) h
end
end Go.Proofs.YtdmamdnkcefmmaaGreatDoor
namespace Go.Proofs.YtdmamdnkcefmmaaGreatDoor
open Go Go.RowKit Go.Abs
def small (n:Nat):List UInt8:=if n<10 then [48+UInt8.ofNat n] else [48+UInt8.ofNat (n / 10),48+UInt8.ofNat (n % 10)]
def digs:List UInt8:=[48,49,50,51,52,53,54,55,56,57,97,98,99,100,101,102,103,104,105,106,107,108,109,110,111,112,113,114,115,116,117,118,119,120,121,122]
def pairs:List UInt8:=(List.range 100).flatMap λn=>[48+UInt8.ofNat (n / 10),48+UInt8.ofNat (n % 10)]
theorem zGe:∀ n,n<10→(digs.take (n+1)).drop n=small n:=by decide
theorem zHy:∀ n,n<100→10≤n→(pairs.take (2*n+2)).drop (2*n)=small n:=by decide
theorem zIx (n:Nat) (hn:n<100) (H:zaa) (K:Kt) (hK:K (.str (small n)) H):ACalls tP zqk [.int .i64 n] H K:=by
 refine zSu λhs=>?_;by_cases e7:n<10
 ·have:(n:Int)<10:=by omega
  have e1:IntKind.i64.wrap ((n:Int)+1)=((n+1:Nat):Int):=by rw[zat (by omega) (by omega)];omega
  simp[zt4,this];rw[e1];refine⟨by omega,⟨by omega,by omega⟩,?_⟩;have cQ:K (.str ((digs.take (n+1)).drop n)) H:=by rw[zGe n e7];exact hK
  rw[Int.toNat_natCast];exact cQ
 ·have:¬ (n:Int)<10:=by omega
  have e1:IntKind.i64.wrap ((n:Int)*2)=((2*n:Nat):Int):=by rw[zat (by omega) (by omega)];omega
  have e2:IntKind.i64.wrap (((2*n:Nat):Int)+2)=((2*n+2:Nat):Int):=by rw[zat (by omega) (by omega)];omega
  simp[zt4,this];rw[e1,e2];refine⟨by omega,by omega,⟨by omega,by omega⟩,?_⟩;have cQ:K (.str ((pairs.take (2*n+2)).drop (2*n))) H:=by rw[zHy n hn (by omega)];exact hK
  have hp:pairs=[48,48,48,49,48,50,48,51,48,52,48,53,48,54,48,55,48,56,48,57,49,48,49,49,49,50,49,51,49,52,49,53,49,54,49,55,49,56,49,57,50,48,50,49,50,50,50,51,50,52,50,53,50,54,50,55,50,56,50,57,51,48,51,49,51,50,51,51,51,52,51,53,51,54,51,55,51,56,51,57,52,48,52,49,52,50,52,51,52,52,52,53,52,54,52,55,52,56,52,57,53,48,53,49,53,50,53,51,53,52,53,53,53,54,53,55,53,56,53,57,54,48,54,49,54,50,54,51,54,52,54,53,54,54,54,55,54,56,54,57,55,48,55,49,55,50,55,51,55,52,55,53,55,54,55,55,55,56,55,57,56,48,56,49,56,50,56,51,56,52,56,53,56,54,56,55,56,56,56,57,57,48,57,49,57,50,57,51,57,52,57,53,57,54,57,55,57,56,57,57]:=by decide
  rw[hp]at cQ;rw[Int.toNat_natCast,Int.toNat_natCast];exact cQ
theorem zGD (n:Nat) (hn:n<100) (w:World) (R:World→Prop) (s:ByteArray)
  (hs:Calls tP zqk #[.int .i64 n] w λe w'=>e=.returned (.string s)∧R w') :
  Calls tP zqd #[.int .i64 n,.int .i64 10] w λe w'=>e=.returned (.string s)∧R w':=by
 have a1:((0:Int)≤(n:Int)):=by omega
 have a2:((n:Int)<100):=by omega
 go_enter Tryz.func215,Tryz.ntmps215
 go_wp2_with (go_at_call 240;refine hs.mono ?_)
 rintro e w1 ⟨rfl,hR⟩
 go_wp2
 go_ret
 exact⟨rfl,hR⟩
theorem zGE (n:Nat) (hn:n<100) (H:zaa) (K:Kt) (hK:K (.str (small n)) H):ACalls tP zqd [.int .i64 n,.int .i64 10] H K:=by
 intro B w G ⟨vs⟩ hH hv
 match vs,hv with
 | [v0,v1],⟨h0,h1,_⟩=>
  have h0:v0=.int .i64 n:=h0;have h1:v1=.int .i64 10:=h1;subst h0 h1;have hs:=zIx n hn H (λr H'=>r=.str (small n)∧H'=H) ⟨rfl,rfl⟩ B w G #[.int .i64 n] hH ⟨rfl,trivial⟩;refine (zGD n hn w (λw'=>∃ G',Ext B w G w' G'∧HRel B w' G' H) ⟨(small n).toArray⟩ (hs.mono ?_)).mono ?_
  ·rintro e w1 ⟨v,r,H',G',rfl,hE,aW,hT,rfl,rfl⟩;have hT:v=.string ⟨(small n).toArray⟩:=hT;exact⟨by rw[hT],G',hE,aW⟩
  ·rintro e w1 ⟨rfl,G',hE,aW⟩;exact⟨_,.str (small n),_,G',rfl,hE,aW,rfl,hK⟩
theorem zEZ (n:Nat) (hn:n<100) (H:zaa) (K:Kt) (hK:K (.str (small n)) H):ACalls tP zpJ [.int .i64 n] H K:=
 zLG λhs=>zPm λhs=>zGE n hn _ _ hK
end Go.Proofs.YtdmamdnkcefmmaaGreatDoor
namespace Go.Proofs.YtdmamdnkcefmmaaGreatDoor
open Go Go.Abs
@[congr] theorem zYp {m:WM} {g:Bool} {H:zaa} {p:(AV→zaa→Prop)→Prop} {k:AV→zaa→Prop}:zdJ m g H p k=zdJ m g H p k:=rfl
def wb (H:zaa) (id id2:Nat) (l:List UInt8):zaa:=(H.set id2 (.perm 5 1 l.length)).set id (.bld 112 [.ptr id 0,.sl (bcs l) (.own id2)])
structure Wb (H:zaa) (id id2:Nat) (l:List UInt8):Prop where
 ne:id≠id2
 h1:∃ p,(p=.nilp∨p=.ptr id 0)∧H[id]?=some (.bld 112 [p,.sl (bcs l) (.own id2)])
 h2:H[id2]?=some (.perm 5 1 l.length)
section
variable {H J:zaa} {id id2:Nat} {l l' s:List UInt8}
theorem Wb.lt1 (h:Wb H id id2 l):id<H.length:=by obtain⟨p,_,h⟩:=h.h1;exact (List.getElem?_eq_some_iff.1 h).1
theorem Wb.lt2 (h:Wb H id id2 l):id2<H.length:=(List.getElem?_eq_some_iff.1 h.h2).1
@[simp] theorem ybK:(wb H id id2 l).length=H.length:=by simp[wb]
theorem zkQ (aD:id≠id2):wb (wb H id id2 l) id id2 l'=wb H id id2 l':=by unfold wb;rw[List.set_comm _ _ aD,List.set_set,List.set_set]
theorem Wb.app (h:Wb H id id2 l):Wb (H++J) id id2 l:=by obtain⟨p,hp,h1⟩:=h.h1;exact⟨h.ne,⟨p,hp,by rw[List.getElem?_append_left h.lt1];exact h1⟩,by rw[List.getElem?_append_left h.lt2];exact h.h2⟩
theorem Wb.wb_app (h:Wb H id id2 l):wb (H++J) id id2 l'=wb H id id2 l'++J:=by unfold wb;rw[List.set_append_left _ _ h.lt2,List.set_append_left _ _ (by simpa using h.lt1)]
theorem Wb.next (h:Wb H id id2 l):Wb (wb H id id2 l') id id2 l':=by
 refine⟨h.ne,⟨_,.inr rfl,?_⟩,?_⟩
 ·unfold wb;rw[List.getElem?_set_self (by simpa using h.lt1)]
 ·unfold wb;rw[List.getElem?_set_ne h.ne,List.getElem?_set_self h.lt2]
theorem Wb.hsc (h:Wb H id id2 l) (hs:HSc H):HSc (wb H id id2 l'):=by refine HSc.set (HSc.set hs rfl) ?_;have:=h.lt1;have:=h.lt2;simp[AB.sc,AV.scA,AV.scB];try omega
theorem Ws (h:Wb H id id2 l) (hn:l.length+s.length≤140737488355328) {K:AV→zaa→Prop} (hK:K (.tup [.int .i64 s.length,.nili]) (wb H id id2 (l++s))) :
  ACalls tP zjl [.ptr id 0,.str s] H K:=by
 obtain⟨p,hp,h1⟩:=h.h1;refine zE9 hp h1 h.h2 hn ?_;unfold wb at hK;rwa [List.length_append]at hK
end
end Go.Proofs.YtdmamdnkcefmmaaGreatDoor
namespace Go.Abs
open Go Go.RowKit
variable {P:Program} {B:Nat} {w:World} {G:Gh} {H:zaa}
theorem HRel.toFrz (h:HRel B w G H) {id e n:Nat} (hn:0<n) (hH:H[id]?=some (.perm e 1 n)):HRel B w G (H.set id (.frz e 1 n)):=by
 refine⟨by simp[h.len],?_,h.dist,h.fresh,h.lt,h.base⟩;intro i ab gi h1 h2;by_cases hi:i=id
 ·subst hi;rw[List.getElem?_set_self (List.getElem?_eq_some_iff.1 hH).1]at h1;cases h1;have aA:=h.ok i _ _ hH h2;cases gi with
  | blk b=>exact aA.elim
  | gap=>exact aA.elim
  | own v s n'=>
   obtain⟨rfl,rfl,⟨xs,cj,hx⟩,hL⟩:=aA;rcases hx with ⟨_,h0⟩ | ⟨g,cap,cur,rfl,fe,hg,bL,dz,ec,eR⟩
   ·omega
   ·exact⟨g,cap,cur,_,rfl,rfl,rfl,hg,fe,hL g rfl,bL,dz,ec⟩
 ·rw[List.getElem?_set_ne (λh=>hi h.symm)]at h1;exact h.ok i ab gi h1 h2
theorem ACalls.toFrz {f:FuncId} {args:List AV} {K:Kt} (h:ACalls P f args H λr H'=>∃ id e n,0<n∧H'[id]?=some (.perm e 1 n)∧K r (H'.set id (.frz e 1 n))):ACalls P f args H K:=by intro B w G vs hH hv;refine (h B w G vs hH hv).mono λex w' ⟨v,r,H',G',h1,h2,h3,h4,h5⟩=>?_;obtain⟨id,e,n,hn,ar,hk⟩:=h5;exact⟨v,r,_,G',h1,h2,h3.toFrz hn ar,h4,hk⟩
end Go.Abs
namespace Go.Proofs.YtdmamdnkcefmmaaGreatDoor
open Go Go.RowKit Go.Abs
theorem zE5 {H:zaa} {id id2:Nat} {l:List UInt8} {p:AV} (h0:l≠[]) (h1:H[id]?=some (.bld 112 [p,.sl (bcs l) (.own id2)])) (h2:H[id2]?=some (.frz 5 1 l.length)) {K:AV→zaa→Prop}
  (hK:K (.str l) H):ACalls tP zhT [.ptr id 0] H K:=by
 intro B w G ⟨vs⟩ hH hv
 match vs,hv with
 | [v0],⟨⟨b,hμ,dE⟩,_⟩=>
  subst dE;obtain⟨hB,hL,⟨us⟩,hw,hc⟩:=hH.ok id _ _ h1 hμ
  match us,hc with
  | [vp,v],⟨jP,⟨hd,v',size,n',hμ2,aQ,heq⟩,_⟩=>
   obtain⟨g,cap,cur,fr,be,eW,bN,k2,k3,k4,k5,k6,k7⟩:=hH.ok id2 _ _ h2 hμ2;subst be eW;obtain⟨rfl,aN⟩:=heq (zeh l);have bK:=Ext.drew B w G (w.drawn+1) (Nat.le_succ _);have hHd:=hH.drew (w.drawn+1) (Nat.le_succ _);have aD:bcs l≠[]:=λh=>h0 (by simpa[bcs]using h);obtain⟨b',off,cap',zs,gW,gH,lY,jM,_⟩:=hd.flat aD (zfj l);rw[bN]at gW;simp only[Value.slice.injEq,Option.some.injEq,Addr.mk.injEq]at gW;obtain⟨⟨rfl,rfl,_⟩,_,rfl⟩:=gW;have fM:zs=l.map λb=>Value.int .u8 b.toNat:=zwn lY;subst bN;refine (zJe b g cap l.length vp cur l w h0 hw k2 k5 k6 (by omega) ?_).mono ?_
   ·intro j x hj;have:=jM j (.int .u8 x.toNat) (by rw[fM,List.getElem?_map,hj];rfl);by_cases h0j:j=0
    ·subst h0j;simpa[Addr.add]using this
    ·simpa[Addr.add,h0j]using this
   ·rintro e w' ⟨rfl,rfl⟩;obtain⟨fX,dF⟩:=hHd.freezeG h2 hμ2 l.length;exact⟨_,(.str l),_,G,rfl,bK.trans fX,dF,rfl,hK⟩
end Go.Proofs.YtdmamdnkcefmmaaGreatDoor
namespace Go.Abs
open Go Go.RowKit
theorem wpList_append_any {P:Program} {w:World} {am:Array Oper} {rest:List Oper} {o:Oper} {a:Act} {Q:Exit→Act→World→Prop} (jt:o.guard=none) (sl x:Operand) (t u:TypeId)
  (ho:o.op=.call { callee:=.builtin .append,args:=#[sl,x],argTypes:=#[t,u] }) {v v' xv:Value} {w':World} (hs:a.eval sl=v) (hx:a.eval x=xv)
  (hr:∀ ty,(Builtin.append_ #[t,u] ty #[v,xv]).run P w=.ok v' w') (h:wpList P am Q rest (a.put o.dst v') w'):wpList P am Q (o::rest) a w:=by
 refine wpList_plain jt λK hK=>?_;unfold Oper.wp execOp;simp only[ho,resolve,invoke,builtin,Sem.run_bind,Sem.run_pure,Result.andThen_ok,List.map_toArray,List.map_cons,List.map_nil,hs,hx,hr];exact hK _ _ h
end Go.Abs
namespace Go.Proofs.YtdmamdnkcefmmaaGreatDoor
open Go Go.RowKit Go.Abs
set_option maxHeartbeats 2000000 in
set_option maxRecDepth 100000 in
theorem zJS (b:Nat) (c:UInt8) (v v':Value) (w w1 w2:World)
  (bR:Calls tP zhG #[.pointer (some ⟨b,0,none⟩)] w λe w'=>e=.returned (.tuple #[])∧w'=w1)
  (bG:w1.heap[b]?=some (.cells #[.pointer (some ⟨b,0,none⟩),v] 112 (0,0)))
  (hr:∀ ty,(Builtin.append_ #[110,110] ty #[v,.slice (some ⟨w1.heap.size,0,none⟩) 1 1]).run tP (w1.alloc (.cells #[.int .u8 c.toNat] 5))=.ok v' w2)
  (bz:w2.heap[b]?=some (.cells #[.pointer (some ⟨b,0,none⟩),v] 112 (0,0))) (bN:∃ ao n cap,v'=.slice ao n cap) :
  Calls tP zgk #[.pointer (some ⟨b,0,none⟩),.int .u8 c.toNat] w λe w'=>e=.returned .nilIface∧w'=w2.setCell ⟨b,1,none⟩ v':=by
 obtain⟨ao,n',cap,rfl⟩:=bN;have c1:w1.cell? ⟨b,1,none⟩=some v:=by rw[Lib.cell_of_heap bG];rfl
 have d1:w2.cell? ⟨b,1,none⟩=some v:=by rw[Lib.cell_of_heap bz];rfl
 have f1:w2.frozen? ⟨b,1,none⟩=false:=Lib.frozen_of_heap bz 1
 go_enter Tryz.func128,Tryz.ntmps128
 go_wp2_with (go_at_call 169;refine bR.mono ?_)
 rintro e w1' ⟨rfl,rfl⟩
 go_wp2_with (at_builtin;refine Go.Abs.wpList_append_any rfl _ _ 110 110 rfl rfl rfl hr ?_)
 go_wp2
 go_ret
 exact⟨rfl,rfl⟩
theorem zE8 {H:zaa} {id id2:Nat} {l:List UInt8} {c:UInt8} {p:AV} (hp:p=.nilp∨p=.ptr id 0) (h1:H[id]?=some (.bld 112 [p,.sl (bcs l) (.own id2)])) (h2:H[id2]?=some (.perm 5 1 l.length))
  (hn:l.length+1≤140737488355328) {K:AV→zaa→Prop}
  (hK:K .nili ((H.set id2 (.perm 5 1 (l.length+1))).set id (.bld 112 [.ptr id 0,.sl (bcs (l++[c])) (.own id2)]))) :
  ACalls tP zgk [.ptr id 0,.int .u8 c.toNat] H K:=by
 intro B w G ⟨vs⟩ hH hv
 match vs,hv with
 | [v0,v1],⟨⟨b,hμ,dE⟩,fJ,_⟩=>
  have fJ:v1=.int .u8 c.toNat:=fJ;subst dE fJ;obtain⟨w1,v,bR,fX,dF,kb,hva0⟩:=zwI hH hp h1 hμ;obtain⟨mK,kP⟩:=dF.other (.cells #[.int .u8 c.toNat] 5);have lK:=mK.arel hva0;obtain⟨W,hW⟩:∃ W,W=w1.alloc (.cells #[.int .u8 c.toNat] 5):=⟨_,rfl⟩;rw[←hW]at mK kP lK;obtain⟨hd,v',size,n',hμ2,aQ,heq⟩:=lK;have aD:id≠id2:=by rintro rfl;rw[h1]at h2;cases h2
  have jE:(H.set id (.bld 112 [.ptr id 0,.sl (bcs l) (.own id2)]))[id2]?=some (.perm 5 1 l.length):=by rw[List.getElem?_set_ne aD];exact h2
  have aA:=kP.ok id2 _ _ jE hμ2;obtain⟨be,eW,⟨xs,au⟩,hL2⟩:=aA;subst be eW;obtain⟨rfl,aN⟩:=heq (zeh l);have jF:v.ownBlock≠some b:=λh=>aD (dF.dist id id2 _ _ b hμ hμ2 rfl h);have gA:b<W.heap.size:=kP.lt id _ b hμ rfl;have dQ:W.heap[b]?=w1.heap[b]?:=by rw[hW];exact zcK (dF.lt id _ b hμ rfl)
  obtain⟨i,hi,hz,aF,bu⟩:=zwu;have iw:maxLen=9223372036854775807:=rfl;have key:∃ v' w2 G2,(∀ ty,(Builtin.append_ #[110,110] ty #[v,.slice (some ⟨w1.heap.size,0,none⟩) 1 1]).run tP W=.ok v' w2)∧Ext B W G w2 G2 ∧
    HRel B w2 G2 ((H.set id (.bld 112 [.ptr id 0,.sl (bcs l) (.own id2)])).set id2 (.perm 5 1 (l.length+1)))∧ARel w2 G2 v' (.sl (bcs (l++[c])) (.own id2))∧w2.heap[b]?=W.heap[b]?:=by
   have hown0:W.ownsRow B 5 i.size v l.length xs:=by rw[aF];exact au
   obtain⟨v',w2,az,aU,aG⟩:=zkc (P:=tP) (ty:=110) (t:=110) (B:=B) Tryz.underlying110 hi hz (by rw[aF];rfl) hown0 ⟨w1.heap.size,0,none⟩ 1 1 [.int .u8 c.toNat] (by rw[aF];rfl) (λj u hu=>by
    have hj:j=0:=by have:=(List.getElem?_eq_some_iff.1 hu).1;simp at this;omega
    subst hj;simp at hu;subst hu;rw[hW];show (match (w1.alloc (.cells #[.int .u8 c.toNat] 5)).heap[w1.heap.size]? with | some (.cells c _ _)=>c[0]? | _=>none)=_;rw[zdr];rfl) (λu hu=>by simp at hu;subst hu;rfl) (by omega) (by omega) (by rw[bu];omega) kP.base
   rw[aF]at aU;have hx:All2 (DRel W G.L) xs (bcs l).flatten:=zrL au hd (zeh l) (zfj l);obtain⟨G2,fw,cL,hT⟩:=zkd kP jE hμ2 au aU aG (ys:=bcs [c]) (zeh [c]) (by omega) (zeh l) (zfj l) (zfj [c]) hx ⟨.int _ _,trivial⟩;refine⟨v',w2,G2,λty=>az,fw,cL,by rw[←zwm];exact hT,?_⟩;rcases aG with ⟨g,k1,_,k3⟩ | ⟨_,k3⟩
   ·exact k3.block b gA (λh=>jF (by rw[k1,h]))
   ·exact k3.block b gA (by simp)
  obtain⟨v',w2,G2,az,fw,cL,gB,bz⟩:=key;have fL:=bz.trans (dQ.trans kb);have hμ':=(fw.blk hμ);obtain⟨kO,iz⟩:=cL.storeB (id:=id) (cs':=[.ptr id 0,.sl (bcs (l++[c])) (.own id2)]) (vs':=#[.pointer (some ⟨b,0,none⟩),v']) (by rw[List.getElem?_set_ne (λh=>aD h.symm)];exact List.getElem?_set_self (List.getElem?_eq_some_iff.1 h1).1) hμ' fL ⟨⟨b,hμ',rfl⟩,gB,trivial⟩;rw[hW]at az;refine (zJS b c v v' w w1 w2 bR kb az fL ?_).mono ?_
  ·obtain⟨ek,_⟩:=gB;generalize bcs (l++[c])=cs at ek;cases ek with
   | slE a c=>exact⟨_,_,_,rfl⟩
   | sl=>exact⟨_,_,_,rfl⟩
  ·rintro e w' ⟨rfl,rfl⟩;have aX:w2.setCell ⟨b,1,none⟩ v'=w2.setRow b #[.pointer (some ⟨b,0,none⟩),v']:=by rw[setCell_eq_setRow w2 b 1 _ _ _ _ fL];rfl
   rw[aX];refine⟨_,_,_,G2,rfl,((fX.trans mK).trans fw).trans kO,?_,?_,hK⟩
   ·rw[List.set_comm _ _ aD,List.set_set]at iz;exact iz
   ·rfl
theorem Wy {H:zaa} {id id2:Nat} {l:List UInt8} {c:UInt8} (h:Wb H id id2 l) (hn:l.length+1≤1000000000) {K:AV→zaa→Prop} (hK:K .nili (wb H id id2 (l++[c]))) :
  ACalls tP zgk [.ptr id 0,.int .u8 c.toNat] H K:=by
 obtain⟨p,hp,h1⟩:=h.h1;refine zE8 hp h1 h.h2 (by omega) ?_;unfold wb at hK;rwa [List.length_append]at hK
end Go.Proofs.YtdmamdnkcefmmaaGreatDoor
namespace Go.Proofs.YtdmamdnkcefmmaaGreatDoor
open Go Go.Shelf Go.Abs
def zJY:Go.Shelf.Ren:=⟨λ| 4=>176 | n=>n,λ| 22=>26 | 25=>28 | n=>n,λ| n=>n⟩
theorem zJX:Go.Proofs.Lays8.n4 tP zJY:={
 mixed:=by kernel_rfl
 f4:=⟨Tryz.f176.name,by decide,Tryz.func176.trans (congrArg some (by kernel_rfl))⟩
 t0:=Tryz.underlying0
 a0:=Tryz.isAgg0
 z0:=Tryz.sizeOf0
 v0:=Tryz.zeroValue0
 t3:=Tryz.underlying3
 a3:=Tryz.isAgg3
 z3:=Tryz.sizeOf3
 v3:=Tryz.zeroValue3
 t4:=Tryz.underlying4
 a4:=Tryz.isAgg4
 z4:=Tryz.sizeOf4
 v4:=Tryz.zeroValue4
 t9:=Tryz.underlying9
 a9:=Tryz.isAgg9
 z9:=Tryz.sizeOf9
 v9:=Tryz.zeroValue9
 t20:=Tryz.underlying20
 a20:=Tryz.isAgg20
 z20:=Tryz.sizeOf20
 v20:=Tryz.zeroValue20
 t22:=Tryz.underlying26
 a22:=Tryz.isAgg26
 z22:=Tryz.sizeOf26
 v22:=Tryz.zeroValue26 }
def zJ2:Go.Shelf.Ren:=⟨λ| 4=>141 | n=>n,λ| 22=>31 | 25=>55 | n=>n,λ| n=>n⟩
theorem zJ1:Go.Proofs.Lays8.n4 tP zJ2:={
 mixed:=by kernel_rfl
 f4:=⟨Tryz.f141.name,by decide,Tryz.func141.trans (congrArg some (by kernel_rfl))⟩
 t0:=Tryz.underlying0
 a0:=Tryz.isAgg0
 z0:=Tryz.sizeOf0
 v0:=Tryz.zeroValue0
 t3:=Tryz.underlying3
 a3:=Tryz.isAgg3
 z3:=Tryz.sizeOf3
 v3:=Tryz.zeroValue3
 t4:=Tryz.underlying4
 a4:=Tryz.isAgg4
 z4:=Tryz.sizeOf4
 v4:=Tryz.zeroValue4
 t9:=Tryz.underlying9
 a9:=Tryz.isAgg9
 z9:=Tryz.sizeOf9
 v9:=Tryz.zeroValue9
 t20:=Tryz.underlying20
 a20:=Tryz.isAgg20
 z20:=Tryz.sizeOf20
 v20:=Tryz.zeroValue20
 t22:=Tryz.underlying31
 a22:=Tryz.isAgg31
 z22:=Tryz.sizeOf31
 v22:=Tryz.zeroValue31 }
end Go.Proofs.YtdmamdnkcefmmaaGreatDoor
namespace Go.Proofs.YtdmamdnkcefmmaaGreatDoor
open Go Go.Abs
set_option maxRecDepth 100000
section
variable (t0 t3 t6 t9 t10 t11 t25 t26 t27:AV) (H:zaa) (K:Kt) (Kb3 Kb11:Lt)
def zfM:Nat→List Bool | 3=>rl false [0,1,2,1,5,3,24] | 11=>rl false [6,1,18,3,8] | _=>[]
noncomputable def zim:Code:=Tryz.f134.body.getD .skip
noncomputable def zAP:List ResultVar:=Tryz.f134.results.toList
def zlu:List AV:=t0::ux 2 (t3::ux 5 (t9::t10::t11::ux 24 []))
def zMa:List Bool:=zfM 3
noncomputable def zL6:Code:=zar [1,1,0,1,0,0] zim
def zL4:AExit→List AV→zaa→Prop:=zas tP zfM [1,1,0,1,0] zim (zay tP zAP K)
def zAO:Prop:=ALoop tP zL6 (zL4 K) (zlu t0 t3 t9 t10 t11) H
def zAM (t0 t3 t9 t10 t11:AV) (H:zaa) (K:Kt) (Kb3:Lt):Prop:=zac .add false t11 (.int .i64 1) λt22=>Kb3 (zlu t0 t3 t9 t10 t22) H
def zAL:Prop:=zAM t0 t3 t9 t10 t11 H K Kb3
def zlt:List AV:=ux 6 (t6::ux 18 (t25::t26::t27::ux 8 []))
def zL9:List Bool:=zfM 11
noncomputable def zL5:Code:=zar [1,1,1,1,0,1,0,0] zim
def zL3:AExit→List AV→zaa→Prop:=zas tP zfM [1,1,1,1,0,1,0] zim (zay tP zAP K)
def zAN:Prop:=ALoop tP zL5 (zL3 K) (zlt t6 t25 t26 t27) H
def zsj:Prop:=zac .lss false t27 t26 λt28=>zag t28 (zaj 1 t25 t27 λt29=>zae false 1 t29 H λt30=>zax zbQ 2 32 t6 t30 H λt33 H=>zac .add false t27 (.int .i64 1) λt34=>Kb11 (zlt t33 t25 t26 t34) H) (K t6 H)
def zsk:Prop:=zac .lss false t11 t10 λt12=>zag t12 (zaj 1 t9 t11 λt13=>zae false 1 t13 H λt14=>zah 1 t14 λt17=>zac .add false t3 t17 λt18=>zac .lss false t18 (.int .i64 0) λt20=>zag t20 (False) (zAL t0 t18 t9 t10 t11 H K Kb3)) (ACalls tP zxT [.snil,t3] H λt24 H=>zah 1 t0 λt26=>zAN t24 t0 t26 (.int .i64 0) H K)
def zAK:Prop:=zah 1 t0 λt10=>zAO t0 (.int .i64 0) t0 t10 (.int .i64 0) H K
def zf3:Nat→List Bool | 3=>rl false [0,1,2,1,5,3,24] | 11=>rl false [6,1,18,3,8] | _=>[]
noncomputable def ziM:Code:=Tryz.f87.body.getD .skip
noncomputable def zEz:List ResultVar:=Tryz.f87.results.toList
def zoh:List AV:=t0::ux 2 (t3::ux 5 (t9::t10::t11::ux 24 []))
def zWK:List Bool:=zf3 3
noncomputable def zWG:Code:=zar [1,1,0,1,0,0] ziM
def zWE:AExit→List AV→zaa→Prop:=zas tP zf3 [1,1,0,1,0] ziM (zay tP zEz K)
def zEy:Prop:=ALoop tP zWG (zWE K) (zoh t0 t3 t9 t10 t11) H
def zEw (t0 t3 t9 t10 t11:AV) (H:zaa) (K:Kt) (Kb3:Lt):Prop:=zac .add false t11 (.int .i64 1) λt22=>Kb3 (zoh t0 t3 t9 t10 t22) H
def zEv:Prop:=zEw t0 t3 t9 t10 t11 H K Kb3
def zog:List AV:=ux 6 (t6::ux 18 (t25::t26::t27::ux 8 []))
def zWJ:List Bool:=zf3 11
noncomputable def zWF:Code:=zar [1,1,1,1,0,1,0,0] ziM
def zWD:AExit→List AV→zaa→Prop:=zas tP zf3 [1,1,1,1,0,1,0] ziM (zay tP zEz K)
def zEx:Prop:=ALoop tP zWF (zWD K) (zog t6 t25 t26 t27) H
def zvg:Prop:=zac .lss false t27 t26 λt28=>zag t28 (zaj 1 t25 t27 λt29=>zae false 1 t29 H λt30=>zax zaH 5 88 t6 t30 H λt33 H=>zac .add false t27 (.int .i64 1) λt34=>Kb11 (zog t33 t25 t26 t34) H) (K t6 H)
def zvh:Prop:=zac .lss false t11 t10 λt12=>zag t12 (zaj 1 t9 t11 λt13=>zae false 1 t13 H λt14=>zah 1 t14 λt17=>zac .add false t3 t17 λt18=>zac .lss false t18 (.int .i64 0) λt20=>zag t20 (False) (zEv t0 t18 t9 t10 t11 H K Kb3)) (ACalls tP zxQ [.snil,t3] H λt24 H=>zah 1 t0 λt26=>zEx t24 t0 t26 (.int .i64 0) H K)
def zEu:Prop:=zah 1 t0 λt10=>zEy t0 (.int .i64 0) t0 t10 (.int .i64 0) H K
variable {t0 t3 t6 t9 t10 t11 t25 t26 t27} {H} {K} {Kb3 Kb11}
theorem zL7 (Inv:Nat→AV→AV→zaa→Prop) (n:Nat) (h0:HSc H→Inv n t6 t27 H)
  (ac:Rd2 (λt6=>λt27=>zlt t6 t25 t26 t27) (λt6=>λt27=>λH Kb11=>zsj t6 t25 t26 t27 H K Kb11) H Inv):zAN t6 t25 t26 t27 H K:=
 lp2 (M:=zfM) zL9 t6 t27 (by kernel_rfl) Inv n h0 ac
theorem zL8 (Inv:Nat→AV→AV→zaa→Prop) (n:Nat) (h0:HSc H→Inv n t3 t11 H)
  (ac:Rd2 (λt3=>λt11=>zlu t0 t3 t9 t10 t11) (λt3=>λt11=>λH Kb3=>zsk t0 t3 t9 t10 t11 H K Kb3) H Inv):zAO t0 t3 t9 t10 t11 H K:=
 lp2 (M:=zfM) zMa t3 t11 (by kernel_rfl) Inv n h0 ac
theorem zMb (h:HSc H→zAK t0 H K):ACalls tP zpO [t0] H K:=
 acb zfM Tryz.func134 zim (by kernel_rfl) (by kernel_rfl) h
theorem zWH (Inv:Nat→AV→AV→zaa→Prop) (n:Nat) (h0:HSc H→Inv n t6 t27 H)
  (ac:Rd2 (λt6=>λt27=>zog t6 t25 t26 t27) (λt6=>λt27=>λH Kb11=>zvg t6 t25 t26 t27 H K Kb11) H Inv):zEx t6 t25 t26 t27 H K:=
 lp2 (M:=zf3) zWJ t6 t27 (by kernel_rfl) Inv n h0 ac
theorem zWI (Inv:Nat→AV→AV→zaa→Prop) (n:Nat) (h0:HSc H→Inv n t3 t11 H)
  (ac:Rd2 (λt3=>λt11=>zoh t0 t3 t9 t10 t11) (λt3=>λt11=>λH Kb3=>zvh t0 t3 t9 t10 t11 H K Kb3) H Inv):zEy t0 t3 t9 t10 t11 H K:=
 lp2 (M:=zf3) zWK t3 t11 (by kernel_rfl) Inv n h0 ac
theorem zWL (h:HSc H→zEu t0 H K):ACalls tP zqz [t0] H K:=
 acb zf3 Tryz.func87 ziM (by kernel_rfl) (by kernel_rfl) h
end
section
variable (t0 t1 t2 t3 t4 t5 t6 t7 t8 t9 t10 t11 t12 t15 t16 t17 t18 t19 t20 t23 t24 t25 t57 t58 t59:AV) (H:zaa) (K:Kt) (Kb1 Kb3 Kb4 Kb5 Kb14:Lt)
def zTE (_:Nat):List Bool:=[]
noncomputable def zTF:Code:=Tryz.f41.body.getD .skip
def zDo:Prop:=zaq t1 H λt3 H=>zae true 3 t3 H λt6=>zdY H λt7 H=>zau [.snil,(.int .i64 0),(.int .i64 0),.snil,.unk,.snil] [(0,1),(1,3),(4,1),(5,1)] [(0,t0),(1,t6),(2,t7)] λt8=>zaq t8 H λt9 H=>K t9 H
def znk:Nat→List Bool | 1=>rl false [0,1,8,3,55] | 400007=>rl false [0,1] | _=>[]
noncomputable def zul:Code:=Tryz.f42.body.getD .skip
noncomputable def zTN:List ResultVar:=Tryz.f42.results.toList
def ziB:List AV:=t0::ux 8 (t9::t10::t11::ux 55 [])
def zTL:List Bool:=znk 1
noncomputable def zTJ:Code:=zar [1,0,0] zul
def zTI:AExit→List AV→zaa→Prop:=zas tP znk [1,0] zul (zay tP zTN K)
def zDq:Prop:=ALoop tP zTJ (zTI K) (ziB t0 t9 t10 t11) H
def zum (t0 t9 t10 t11:AV) (H:zaa) (K:Kt) (Kb1:Lt):Prop:=zac .add false t11 (.int .i64 1) λt66=>Kb1 (ziB t0 t9 t10 t66) H
def znl:Prop:=zum t0 t9 t10 t11 H K Kb1
def zuk:Prop:=zac .lss false t11 t10 λt12=>zag t12 (zaj 5 t9 t11 λt13=>zae true 5 t13 H λt14=>zav [(.int .i64 0),.snil,(.bool false),.snil,.snil] H λt5 H=>zan 5 t5 t14 H λH=>zoI 112 [.nilp,.snil] H λt6 H=>zaf 0 t5 λt15=>zae true 2 t15 H λt16=>ACalls tP zjZ [t6,t16] H λt17 H=>zab H (λK'=>K' t0 H) λt19=>zab H (λK'=>zaX t19 (K' · H)) λt20=>zab H (λK'=>zaf 4 t20 (K' · H)) λt21=>zab H (λK'=>zal false 1 t21 H (K' · H)) λt22=>zaC H (λH K'=>ACalls tP zhT [t6] H K') λt23=>zab H (λK'=>zdK (.int .i64 0) true t22 t23 H (K' · H)) λt24=>zab H (λK'=>K' t24 H) λt18=>zab H (λK'=>zaA t18 0 (K' · H)) λt25=>zab H (λK'=>zaA t18 1 (K' · H)) λt26=>zab H (λK'=>K' t25 H) λt7=>zab H (λK'=>K' t26 H) λt8=>zag t8 (zab H (λK'=>K' t0 H) λt28=>zab H (λK'=>zaX t28 (K' · H)) λt29=>zab H (λK'=>zaf 5 t29 (K' · H)) λt30=>zab H (λK'=>zae false 1 t30 H (K' · H)) λt31=>zab H (λK'=>K' t7 H) λt32=>zab H (λK'=>K' t0 H) λt33=>zab H (λK'=>zaX t33 (K' · H)) λt34=>zab H (λK'=>zaf 5 t34 (K' · H)) λt35=>zab H (λK'=>zae false 1 t35 H (K' · H)) λt36=>zab H (λK'=>K' t7 H) λt37=>zab H (λK'=>zaj 5 t36 t37 (K' · H)) λt38=>zab H (λK'=>zaf 2 t38 (K' · H)) λt39=>zab H (λK'=>zae true 3 t39 H (K' · H)) λt40=>zab H (λK'=>zaf 2 t5 (K' · H)) λt41=>zab H (λK'=>zae true 3 t41 H (K' · H)) λt42=>zaC H (λH K'=>ACalls tP zqv [t40,t42] H K') λt43=>zab H (λK'=>zaj 5 t31 t32 (K' · H)) λt44=>zab H (λK'=>zaf 2 t44 (K' · H)) λt45=>zan 3 t45 t43 H λH=>znl t0 t9 t10 t11 H K Kb1) (zab H (λK'=>K' t0 H) λt46=>zab H (λK'=>zaX t46 (K' · H)) λt47=>zab H (λK'=>zaf 4 t47 (K' · H)) λt48=>zab H (λK'=>zal false 1 t48 H (K' · H)) λt49=>zaC H (λH K'=>ACalls tP zhT [t6] H K') λt50=>zab H (λK'=>K' t0 H) λt51=>zab H (λK'=>zaX t51 (K' · H)) λt52=>zab H (λK'=>zaf 5 t52 (K' · H)) λt53=>zab H (λK'=>zal false 1 t53 H (K' · H)) λt54=>zab H (λK'=>zah 1 t54 (K' · H)) λt55=>zcU t49 t50 t55 H λH=>zab H (λK'=>K' t0 H) λt56=>zab H (λK'=>K' t0 H) λt57=>zab H (λK'=>zaX t57 (K' · H)) λt58=>zab H (λK'=>zaf 5 t58 (K' · H)) λt59=>zab H (λK'=>zal false 1 t59 H (K' · H)) λt60=>zab H (λK'=>zal true 5 t5 H (K' · H)) λt61=>zab H (λK'=>zaw 5 [(.int .i64 0),.snil,(.bool false),.snil,.snil] 1 [(0,t61)] (K' · H)) λt62=>zax zaH 5 88 t60 t62 H λt63 H=>zab H (λK'=>zaX t56 (K' · H)) λt64=>zab H (λK'=>zaf 5 t64 (K' · H)) λt65=>zan 1 t65 t63 H λH=>znl t0 t9 t10 t11 H K Kb1)) (zaE [] (K · H))
def zDp:Prop:=zah 1 t1 λt10=>zDq t0 t1 t10 (.int .i64 0) H K
def zfZ:Nat→List Bool | 4=>rl false [0,1,3,2,9,3,50] | 14=>rl false [4,1,52,3,8] | _=>[]
noncomputable def ziE:Code:=Tryz.f44.body.getD .skip
noncomputable def zDu:List ResultVar:=Tryz.f44.results.toList
def znv:List AV:=t0::ux 3 (t4::t5::ux 9 (t15::t16::t17::ux 50 []))
def zT8:List Bool:=zfZ 4
noncomputable def zT4:Code:=zar [1,1,1,0,1,0,0] ziE
def zT2:AExit→List AV→zaa→Prop:=zas tP zfZ [1,1,1,0,1,0] ziE (zay tP zDu K)
def znw:Prop:=ALoop tP zT4 (zT2 K) (znv t0 t4 t5 t15 t16 t17) H
def zDs (t0 t4 t5 t15 t16 t17:AV) (H:zaa) (K:Kt) (Kb4:Lt):Prop:=zac .add false t17 (.int .i64 1) λt54=>Kb4 (znv t0 t4 t5 t15 t16 t54) H
def zut:Prop:=zDs t0 t4 t5 t15 t16 t17 H K Kb4
def znu:List AV:=ux 4 (t4::ux 52 (t57::t58::t59::ux 8 []))
def zT7:List Bool:=zfZ 14
noncomputable def zT3:Code:=zar [1,1,1,1,1,0,1,0,0] ziE
def zT1:AExit→List AV→zaa→Prop:=zas tP zfZ [1,1,1,1,1,0,1,0] ziE (zay tP zDu K)
def zDt:Prop:=ALoop tP zT3 (zT1 K) (znu t4 t57 t58 t59) H
def zus:Prop:=zac .lss false t59 t58 λt60=>zag t60 (zaj 1 t57 t59 λt61=>zae false 1 t61 H λt62=>ACalls tP zxW [t62,(.fn zj3 [])] H λt64 H=>zac .add false t59 (.int .i64 1) λt65=>Kb14 (znu t4 t57 t58 t65) H) (ACalls tP zqz [t4] H λt67 H=>zaE [t67,(.int .i64 0)] (K · H))
def znt:Prop:=zac .lss false t17 t16 λt18=>zag t18 (zaj 5 t15 t17 λt19=>zae true 5 t19 H λt20=>zav [(.int .i64 0),.snil,(.bool false),.snil,.snil] H λt7 H=>zan 5 t7 t20 H λH=>zaf 2 t7 λt21=>zae true 3 t21 H λt22=>ACalls tP zj1 [t22] H λt23 H=>zac .neq false t23 (.int .i64 0) λt24=>zag t24 (zab H (λK'=>K' t0 H) λt25=>zab H (λK'=>zaX t25 (K' · H)) λt26=>zab H (λK'=>zaf 0 t26 (K' · H)) λt27=>zab H (λK'=>zal false 1 t27 H (K' · H)) λt28=>zab H (λK'=>K' t0 H) λt29=>zab H (λK'=>zaX t29 (K' · H)) λt30=>zab H (λK'=>zaf 1 t30 (K' · H)) λt31=>zab H (λK'=>zal true 3 t31 H (K' · H)) λt32=>zab H (λK'=>zaf 0 t7 (K' · H)) λt33=>zab H (λK'=>zal true 2 t33 H (K' · H)) λt34=>zaC H (λH K'=>ACalls tP zhN [t28,t32,t34] H K') λt35=>zab H (λK'=>K' t35 H) λt8=>zab H (λK'=>K' t4 H) λt36=>zab H (λK'=>K' t8 H) λt37=>zab H (λK'=>K' t4 H) λt38=>zab H (λK'=>K' t8 H) λt39=>zab H (λK'=>zaj 1 t38 t39 (K' · H)) λt40=>zab H (λK'=>zal false 1 t40 H (K' · H)) λt41=>zab H (λK'=>zaf 0 t7 (K' · H)) λt42=>zab H (λK'=>zal true 2 t42 H (K' · H)) λt43=>zaC H (λH K'=>ACalls tP zj2 [t43] H K') λt44=>zab H (λK'=>zaf 2 t7 (K' · H)) λt45=>zab H (λK'=>zal true 3 t45 H (K' · H)) λt46=>zaC H (λH K'=>ACalls tP zqy [t46] H K') λt47=>zab H (λK'=>zau [(.int .i64 0),.snil,(.bool false),.snil,.snil] [(0,2),(2,3)] [(0,t44),(1,t47)] (K' · H)) λt48=>zab H (λK'=>zaw 5 [(.int .i64 0),.snil,(.bool false),.snil,.snil] 1 [(0,t48)] (K' · H)) λt49=>zax zaH 5 88 t41 t49 H λt50 H=>zab H (λK'=>zaj 1 t36 t37 (K' · H)) λt51=>zan 1 t51 t50 H λH=>zac .add false t5 (.int .i64 1) λt53=>zut t0 t4 t53 t15 t16 t17 H K Kb4) (zut t0 t4 t5 t15 t16 t17 H K Kb4)) (zac .gtr false t5 (.int .i64 1000) λt56=>zag t56 (zaE [.snil,(.int .i64 9)] (K · H)) (zah 1 t4 λt58=>zDt t4 t4 t58 (.int .i64 0) H K))
def zDr:Prop:=zba 24 [.snil] (.int .i64 7) (.int .i64 7) H λt11 H=>zaX t0 λt13=>zaf 5 t13 λt14=>zae false 1 t14 H λt15=>zah 1 t15 λt16=>znw t0 t11 (.int .i64 0) t15 t16 (.int .i64 0) H K
def zn5:Nat→List Bool | 5=>rl false [0,1,17,3,11] | _=>[]
noncomputable def zu5:Code:=Tryz.f75.body.getD .skip
noncomputable def zVV:List ResultVar:=Tryz.f75.results.toList
def zn6:List AV:=t0::ux 17 (t18::t19::t20::ux 11 [])
def zVT:List Bool:=zn5 5
noncomputable def zVR:Code:=zar [1,1,1,0,1,0,1,0,0] zu5
def zVQ:AExit→List AV→zaa→Prop:=zas tP zn5 [1,1,1,0,1,0,1,0] zu5 (zay tP zVV K)
def zEd:Prop:=ALoop tP zVR (zVQ K) (zn6 t0 t18 t19 t20) H
def zu4:Prop:=zac .lss false t20 t19 λt21=>zag t21 (zaj 2 t18 t20 λt22=>zae true 2 t22 H λt23=>zav [(.int .i64 0),.snil] H λt5 H=>zan 2 t5 t23 H λH=>zae true 2 t5 H λt25=>ACalls tP zjZ [t0,t25] H λt26 H=>ACalls tP zgk [t0,(.int .u8 44)] H λt28 H=>zac .add false t20 (.int .i64 1) λt29=>Kb5 (zn6 t0 t18 t19 t29) H) (ACalls tP zgk [t0,(.int .u8 41)] H λt31 H=>zaE [] (K · H))
def zEc:Prop:=zaq t1 H λt3 H=>zaf 0 t3 λt7=>zae false 1 t7 H λt8=>ACalls tP zpJ [t8] H λt9 H=>ACalls tP zjl [t0,t9] H λt10 H=>zaf 1 t3 λt11=>zae false 1 t11 H λt12=>zah 1 t12 λt13=>zac .gtr false t13 (.int .i64 0) λt14=>zag t14 (ACalls tP zgk [t0,(.int .u8 40)] H λt16 H=>zaf 1 t3 λt17=>zae false 1 t17 H λt18=>zah 1 t18 λt19=>zEd t0 t18 t19 (.int .i64 0) H K) (zaE [] (K · H))
def zod:Nat→List Bool | 3=>rl false [2,2,6,3,12] | _=>[]
noncomputable def zvf:Code:=Tryz.f82.body.getD .skip
noncomputable def zWr:List ResultVar:=Tryz.f82.results.toList
def zoe:List AV:=ux 2 (t2::t3::ux 6 (t10::t11::t12::ux 12 []))
def zWp:List Bool:=zod 3
noncomputable def zWn:Code:=zar [1,1,0,1,0,0] zvf
def zWm:AExit→List AV→zaa→Prop:=zas tP zod [1,1,0,1,0] zvf (zay tP zWr K)
def zof:Prop:=ALoop tP zWn (zWm K) (zoe t2 t3 t10 t11 t12) H
def zve:Prop:=zac .lss false t12 t11 λt13=>zag t13 (zaj 2 t10 t12 λt14=>zae true 2 t14 H λt15=>zav [(.int .i64 0),.snil] H λt5 H=>zan 2 t5 t15 H λH=>zab H (λK'=>zaf 1 t3 (K' · H)) λt16=>zab H (λK'=>zal false 1 t16 H (K' · H)) λt17=>zab H (λK'=>zal true 2 t5 H (K' · H)) λt18=>zaC H (λH K'=>ACalls tP zj2 [t18] H K') λt19=>zab H (λK'=>zaw 2 [(.int .i64 0),.snil] 1 [(0,t19)] (K' · H)) λt20=>zax zbQ 2 32 t17 t20 H λt21 H=>zab H (λK'=>zaf 1 t3 (K' · H)) λt22=>zan 1 t22 t21 H λH=>zac .add false t12 (.int .i64 1) λt23=>Kb3 (zoe t2 t3 t10 t11 t23) H) (zae true 2 t3 H λt24=>zan 2 t2 t24 H λH=>zae true 2 t2 H λr0=>K r0 H)
def zEq:Prop:=zaq t0 H λt1 H=>zav [(.int .i64 0),.snil] H λt2 H=>zaf 0 t1 λt6=>zae false 1 t6 H λt7=>zau [(.int .i64 0),.snil] [(0,1),(1,1)] [(0,t7)] λt8=>zav [(.int .i64 0),.snil] H λt3 H=>zan 2 t3 t8 H λH=>zaf 1 t1 λt9=>zae false 1 t9 H λt10=>zah 1 t10 λt11=>zof t2 t3 t10 t11 (.int .i64 0) H K
def zWt (_:Nat):List Bool:=[]
noncomputable def zWu:Code:=Tryz.f83.body.getD .skip
def zEr:Prop:=zaq t0 H λt1 H=>zav [(.bool false),.snil,.snil] H λt2 H=>zae true 3 t1 H λt3=>ACalls tP zeq [t3] H λt4 H=>ACalls tP zeW [t4] H λt5 H=>zan 3 t2 t5 H λH=>zae true 3 t2 H λr0=>K r0 H
def zWx (_:Nat):List Bool:=[]
noncomputable def zWy:Code:=Tryz.f85.body.getD .skip
def zEs:Prop:=zaq t0 H λt2 H=>zaq t1 H λt3 H=>zaf 0 t2 λt5=>zae true 2 t5 H λt6=>zaf 0 t3 λt7=>zae true 2 t7 H λt8=>ACalls tP zgp [t6,t8] H λt9 H=>K t9 H
def zV9 (_:Nat):List Bool:=[]
noncomputable def zWa:Code:=Tryz.f79.body.getD .skip
def zEm:Prop:=zac .lss false t0 (.int .i64 0) λt7=>zad t7 false H (λK'=>K' t0 H) λt9 H=>zad t7 false H (λK'=>zac .gtr false t9 (.int .i64 16) (K' · H)) λt10 H=>zam t7 (.bool true) t10 λt11=>zad t11 false H (λK'=>K' t1 H) λt13 H=>zad t11 false H (λK'=>zac .lss false t13 (.int .i64 0) (K' · H)) λt14 H=>zam t11 (.bool true) t14 λt15=>zad t15 false H (λK'=>K' t1 H) λt17 H=>zad t15 false H (λK'=>zac .gtr false t17 (.int .i64 16) (K' · H)) λt18 H=>zam t15 (.bool true) t18 λt19=>zag t19 (zaE [.snil,(.bool false)] (K · H)) (ACalls tP zpM [t0,t1] H λt22 H=>zaE [t22,(.bool true)] (K · H))
def zlp:Nat→List Bool | 3=>rl false [0,2,3,2,28] | _=>[]
noncomputable def zsf:Code:=Tryz.f131.body.getD .skip
noncomputable def zLS:List ResultVar:=Tryz.f131.results.toList
def zlq:List AV:=t0::t1::ux 3 (t5::t6::ux 28 [])
def zLQ:List Bool:=zlp 3
noncomputable def zLO:Code:=zar [1,1,0,1,0,0] zsf
def zLN:AExit→List AV→zaa→Prop:=zas tP zlp [1,1,0,1,0] zsf (zay tP zLS K)
def zAG:Prop:=ALoop tP zLO (zLN K) (zlq t0 t1 t5 t6) H
def zse:Prop:=zac .add false t0 t1 λt18=>zac .leq false t6 t18 λt19=>zag t19 (ACalls tP zjz [t6,t0] H λt26 H=>zac .sub false t6 t1 λt30=>ACalls tP zjz [t0,t30] H λt31 H=>ACalls tP zfB [t26,t31] H λt32 H=>zaj 3 t5 t6 λt33=>zan 3 t33 t32 H λH=>zac .add false t6 (.int .i64 1) λt21=>Kb3 (zlq t0 t1 t5 t21) H) (K t5 H)
def zAF:Prop:=zac .add false t0 t1 λt9=>zac .add false t9 (.int .i64 1) λt10=>ACalls tP zp5 [t10] H λt11 H=>zf7 t0 t1 λt14=>zAG t0 t1 t11 t14 H K
def zmx:Nat→List Bool | 3=>rl false [3,1,4,2,8] | _=>[]
noncomputable def ztm:Code:=Tryz.f174.body.getD .skip
noncomputable def zPI:List ResultVar:=Tryz.f174.results.toList
def zmy:List AV:=ux 3 (t3::ux 4 (t8::t9::ux 8 []))
def zPG:List Bool:=zmx 3
noncomputable def zPE:Code:=zar [1,1,0,1,0,0] ztm
def zPD:AExit→List AV→zaa→Prop:=zas tP zmx [1,1,0,1,0] ztm (zay tP zPI K)
def zB8:Prop:=ALoop tP zPE (zPD K) (zmy t3 t8 t9) H
def ztl:Prop:=zac .lss false t9 t8 λt10=>zag t10 (ACalls tP zdx [(.int .i64 0)] H λt14 H=>zaj 3 t3 t9 λt15=>zan 3 t15 t14 H λH=>zac .add false t9 (.int .i64 1) λt16=>Kb3 (zmy t3 t8 t16) H) (K t3 H)
def zB7:Prop:=zba 56 [(.bool false),.snil,.snil] t0 t0 H λt6 H=>zah 1 t6 λt8=>zB8 t6 t8 (.int .i64 0) H K
def zlv:Nat→List Bool | 4=>rl false [7,1,1,1,13,3,15] | _=>[]
noncomputable def zsl:Code:=Tryz.f135.body.getD .skip
noncomputable def zMh:List ResultVar:=Tryz.f135.results.toList
def zlx:List AV:=ux 7 (t7::ux 1 (t9::ux 13 (t23::t24::t25::ux 15 [])))
def zMf:List Bool:=zlv 4
noncomputable def zMd:Code:=zar [1,1,1,0,1,0,0] zsl
def zMc:AExit→List AV→zaa→Prop:=zas tP zlv [1,1,1,0,1,0] zsl (zay tP zMh K)
def zlz:Prop:=ALoop tP zMd (zMc K) (zlx t7 t9 t23 t24 t25) H
def zAR (t7 t9 t23 t24 t25:AV) (H:zaa) (K:Kt) (Kb4:Lt):Prop:=zac .add false t25 (.int .i64 1) λt39=>Kb4 (zlx t7 t9 t23 t24 t39) H
def zly:Prop:=zAR t7 t9 t23 t24 t25 H K Kb4
def zlw:Prop:=zac .lss false t25 t24 λt26=>zag t26 (zaj 1 t23 t25 λt28=>zae false 1 t28 H λt29=>aUn .not t29 λt31=>zag t31 (zaj 3 t7 t25 λt35=>zae true 3 t35 H λt36=>zaw 3 [(.int .i64 0),(.int .i64 0),.snil] 1 [(0,t36)] λt37=>zax za1 3 40 t9 t37 H λt38 H=>zly t7 t38 t23 t24 t25 H K Kb4) (zly t7 t9 t23 t24 t25 H K Kb4)) (K t9 H)
def zAQ:Prop:=zaq t1 H λt4 H=>zae true 3 t4 H λt14=>ACalls tP zjw [t0,t14,t2] H λt16 H=>zaA t16 0 λt17=>zaA t16 1 λt18=>zaf 1 t4 λt20=>zae false 1 t20 H λt21=>ACalls tP zfw [t0,t21,t2] H λt23 H=>zah 1 t23 λt24=>zlz t17 .snil t23 t24 (.int .i64 0) H K
variable {t0 t1 t2 t3 t4 t5 t6 t7 t8 t9 t10 t11 t12 t15 t16 t17 t18 t19 t20 t23 t24 t25 t57 t58 t59} {H} {K} {Kb1 Kb3 Kb4 Kb5 Kb14}
theorem zTG (h:HSc H→zDo t0 t1 H K):ACalls tP zqr [t0,t1] H K:=
 acb zTE Tryz.func41 zTF (by kernel_rfl) (by kernel_rfl) h
theorem zTK (Inv:Nat→AV→zaa→Prop) (n:Nat) (h0:HSc H→Inv n t11 H)
  (ac:Rd1 (λt11=>ziB t0 t9 t10 t11) (λt11=>λH Kb1=>zuk t0 t9 t10 t11 H K Kb1) H Inv):zDq t0 t9 t10 t11 H K:=
 lp1 (M:=znk) zTL t11 (by kernel_rfl) Inv n h0 ac
theorem zTM (h:HSc H→zDp t0 t1 H K):ACalls tP zqs [t0,t1] H K:=
 acb znk Tryz.func42 zul (by kernel_rfl) (by kernel_rfl) h
theorem zT5 (Inv:Nat→AV→zaa→Prop) (n:Nat) (h0:HSc H→Inv n t59 H)
  (ac:Rd1 (λt59=>znu t4 t57 t58 t59) (λt59=>λH Kb14=>zus t4 t57 t58 t59 H K Kb14) H Inv):zDt t4 t57 t58 t59 H K:=
 lp1 (M:=zfZ) zT7 t59 (by kernel_rfl) Inv n h0 ac
theorem zT6 (Inv:Nat→AV→AV→zaa→Prop) (n:Nat) (h0:HSc H→Inv n t5 t17 H)
  (ac:Rd2 (λt5=>λt17=>znv t0 t4 t5 t15 t16 t17) (λt5=>λt17=>λH Kb4=>znt t0 t4 t5 t15 t16 t17 H K Kb4) H Inv):znw t0 t4 t5 t15 t16 t17 H K:=
 lp2 (M:=zfZ) zT8 t5 t17 (by kernel_rfl) Inv n h0 ac
theorem zT9 (h:HSc H→zDr t0 H K):ACalls tP zqt [t0] H K:=
 acb zfZ Tryz.func44 ziE (by kernel_rfl) (by kernel_rfl) h
theorem zVS (Inv:Nat→AV→zaa→Prop) (n:Nat) (h0:HSc H→Inv n t20 H)
  (ac:Rd1 (λt20=>zn6 t0 t18 t19 t20) (λt20=>λH Kb5=>zu4 t0 t18 t19 t20 H K Kb5) H Inv):zEd t0 t18 t19 t20 H K:=
 lp1 (M:=zn5) zVT t20 (by kernel_rfl) Inv n h0 ac
theorem zVU (h:HSc H→zEc t0 t1 H K):ACalls tP zjZ [t0,t1] H K:=
 acb zn5 Tryz.func75 zu5 (by kernel_rfl) (by kernel_rfl) h
theorem zWo (Inv:Nat→AV→zaa→Prop) (n:Nat) (h0:HSc H→Inv n t12 H)
  (ac:Rd1 (λt12=>zoe t2 t3 t10 t11 t12) (λt12=>λH Kb3=>zve t2 t3 t10 t11 t12 H K Kb3) H Inv):zof t2 t3 t10 t11 t12 H K:=
 lp1 (M:=zod) zWp t12 (by kernel_rfl) Inv n h0 ac
theorem zWq (h:HSc H→zEq t0 H K):ACalls tP zj2 [t0] H K:=
 acb zod Tryz.func82 zvf (by kernel_rfl) (by kernel_rfl) h
theorem zWv (h:HSc H→zEr t0 H K):ACalls tP zqy [t0] H K:=
 acb zWt Tryz.func83 zWu (by kernel_rfl) (by kernel_rfl) h
theorem zWz (h:HSc H→zEs t0 t1 H K):ACalls tP zj3 [t0,t1] H K:=
 acb zWx Tryz.func85 zWy (by kernel_rfl) (by kernel_rfl) h
theorem zWb (h:HSc H→zEm t0 t1 H K):ACalls tP zqw [t0,t1] H K:=
 acb zV9 Tryz.func79 zWa (by kernel_rfl) (by kernel_rfl) h
theorem zLP (Inv:Nat→AV→zaa→Prop) (n:Nat) (h0:HSc H→Inv n t6 H)
  (ac:Rd1 (λt6=>zlq t0 t1 t5 t6) (λt6=>λH Kb3=>zse t0 t1 t5 t6 H K Kb3) H Inv):zAG t0 t1 t5 t6 H K:=
 lp1 (M:=zlp) zLQ t6 (by kernel_rfl) Inv n h0 ac
theorem zLR (h:HSc H→zAF t0 t1 H K):ACalls tP zpM [t0,t1] H K:=
 acb zlp Tryz.func131 zsf (by kernel_rfl) (by kernel_rfl) h
theorem zPF (Inv:Nat→AV→zaa→Prop) (n:Nat) (h0:HSc H→Inv n t9 H)
  (ac:Rd1 (λt9=>zmy t3 t8 t9) (λt9=>λH Kb3=>ztl t3 t8 t9 H K Kb3) H Inv):zB8 t3 t8 t9 H K:=
 lp1 (M:=zmx) zPG t9 (by kernel_rfl) Inv n h0 ac
theorem zPH (h:HSc H→zB7 t0 H K):ACalls tP zp5 [t0] H K:=
 acb zmx Tryz.func174 ztm (by kernel_rfl) (by kernel_rfl) h
theorem zMe (Inv:Nat→AV→AV→zaa→Prop) (n:Nat) (h0:HSc H→Inv n t9 t25 H)
  (ac:Rd2 (λt9=>λt25=>zlx t7 t9 t23 t24 t25) (λt9=>λt25=>λH Kb4=>zlw t7 t9 t23 t24 t25 H K Kb4) H Inv):zlz t7 t9 t23 t24 t25 H K:=
 lp2 (M:=zlv) zMf t9 t25 (by kernel_rfl) Inv n h0 ac
theorem zMg (h:HSc H→zAQ t0 t1 t2 H K):ACalls tP zpP [t0,t1,t2] H K:=
 acb zlv Tryz.func135 zsl (by kernel_rfl) (by kernel_rfl) h
end
section
variable (t0 t1 t3 t4 t5 t6 t7 t8 t9 t10 t11 t12 t13 t21 t22 t25 t26 t30 t31:AV) (H:zaa) (K:Kt) (Kb1 Kb2 Kb3 Kb4 Kb5 Kb6:Lt)
def zVo (_:Nat):List Bool:=[]
noncomputable def zVp:Code:=Tryz.f61.body.getD .skip
def zD3:Prop:=zav [(.bool false),.snil,.snil] H λt2 H=>zac .lss false t0 (.int .i64 0) λt4=>ACalls tP zhD [t0] H λt6 H=>zaw 1 [(.int .u32 0)] 1 [(0,(.int .u32 1))] λt7=>zau [(.bool false),.snil,.snil] [(0,1),(1,1),(2,1)] [(0,t4),(1,t6),(2,t7)] λt8=>ACalls tP zeW [t8] H λt9 H=>zan 3 t2 t9 H λH=>zae true 3 t2 H λr0=>K r0 H
def zVr (_:Nat):List Bool:=[]
noncomputable def zVs:Code:=Tryz.f70.body.getD .skip
def zuX:Prop:=zaq t0 H λt2 H=>zaq t1 H λt3 H=>zav [(.bool false),.snil,.snil] H λt4 H=>zab H (λK'=>zal true 3 t2 H (K' · H)) λt7=>zaC H (λH K'=>ACalls tP zeq [t7] H K') λt8=>zab H (λK'=>zal true 3 t3 H (K' · H)) λt9=>zaC H (λH K'=>ACalls tP zeq [t9] H K') λt10=>zav [(.bool false),.snil,.snil] H λt5 H=>zav [(.bool false),.snil,.snil] H λt6 H=>zan 3 t5 t8 H λH=>zan 3 t6 t10 H λH=>zab H (λK'=>zaf 0 t5 (K' · H)) λt11=>zab H (λK'=>zal false 1 t11 H (K' · H)) λt12=>zab H (λK'=>zaf 0 t6 (K' · H)) λt13=>zab H (λK'=>zal false 1 t13 H (K' · H)) λt14=>zab H (λK'=>zac .neq true t12 t14 (K' · H)) λt15=>zab H (λK'=>zaf 1 t5 (K' · H)) λt16=>zab H (λK'=>zal false 1 t16 H (K' · H)) λt17=>zab H (λK'=>zaf 1 t6 (K' · H)) λt18=>zab H (λK'=>zal false 1 t18 H (K' · H)) λt19=>zaC H (λH K'=>ACalls tP zdN [t17,t19] H K') λt20=>zab H (λK'=>zaf 2 t5 (K' · H)) λt21=>zab H (λK'=>zal false 1 t21 H (K' · H)) λt22=>zab H (λK'=>zaf 2 t6 (K' · H)) λt23=>zab H (λK'=>zal false 1 t23 H (K' · H)) λt24=>zaC H (λH K'=>ACalls tP zdN [t22,t24] H K') λt25=>zab H (λK'=>zau [(.bool false),.snil,.snil] [(0,1),(1,1),(2,1)] [(0,t15),(1,t20),(2,t25)] (K' · H)) λt26=>zaC H (λH K'=>ACalls tP zeW [t26] H K') λt27=>zan 3 t4 t27 H λH=>zae true 3 t4 H λr0=>K r0 H
def zVX (_:Nat):List Bool:=[]
noncomputable def zVY:Code:=Tryz.f77.body.getD .skip
def zEe:Prop:=zaq t0 H λt2 H=>zaq t1 H λt3 H=>zav [(.bool false),.snil,.snil] H λt4 H=>zab H (λK'=>zal true 3 t2 H (K' · H)) λt5=>zaC H (λH K'=>ACalls tP zeq [t5] H K') λt6=>zab H (λK'=>zal true 3 t3 H (K' · H)) λt7=>zaC H (λH K'=>ACalls tP zeq [t7] H K') λt8=>zaC H (λH K'=>ACalls tP zpK [t6,t8] H K') λt9=>zaC H (λH K'=>ACalls tP zeW [t9] H K') λt10=>zan 3 t4 t10 H λH=>zae true 3 t4 H λr0=>K r0 H
def zK5 (_:Nat):List Bool:=[]
noncomputable def zK6:Code:=Tryz.f113.body.getD .skip
def zAq:Prop:=zac .lss false t0 (.int .i64 0) λt4=>zag t4 (za0 .u64 t0 λt6=>aUn .neg t6 λt7=>ACalls tP zgl [t7] H λt8 H=>K t8 H) (za0 .u64 t0 λt10=>ACalls tP zgl [t10] H λt11 H=>K t11 H)
def zK8 (_:Nat):List Bool:=[]
noncomputable def zK9:Code:=Tryz.f114.body.getD .skip
def zr2:Prop:=zaq t0 H λt1 H=>zav [(.bool false),.snil,.snil] H λt2 H=>zae true 3 t1 H λt4=>ACalls tP zjt [t4] H λt5 H=>zav [(.bool false),.snil,.snil] H λt3 H=>zan 3 t3 t5 H λH=>zaf 0 t3 λt6=>zae false 1 t6 H λt7=>zaf 1 t3 λt8=>zae false 1 t8 H λt9=>zaf 2 t3 λt10=>zae false 1 t10 H λt11=>zau [(.bool false),.snil,.snil] [(0,1),(1,1),(2,1)] [(0,t7),(1,t9),(2,t11)] λt12=>zan 3 t2 t12 H λH=>zae true 3 t2 H λr0=>K r0 H
def zLa (_:Nat):List Bool:=[]
noncomputable def zLb:Code:=Tryz.f120.body.getD .skip
def zr3:Prop:=zaq t0 H λt1 H=>zav [(.bool false),.snil,.snil] H λt2 H=>zab H (λK'=>zaf 1 t1 (K' · H)) λt5=>zab H (λK'=>zal false 1 t5 H (K' · H)) λt6=>zaC H (λH K'=>ACalls tP zju [t6] H K') λt7=>zab H (λK'=>zaf 2 t1 (K' · H)) λt8=>zab H (λK'=>zal false 1 t8 H (K' · H)) λt9=>zaC H (λH K'=>ACalls tP zju [t9] H K') λt10=>zab H (λK'=>K' t7 H) λt3=>zab H (λK'=>K' t10 H) λt4=>zah 1 t3 λt12=>zac .eql false t12 (.int .i64 0) λt13=>zad t13 false H (λK'=>K' t4 H) λt15 H=>zad t13 false H (λK'=>zah 1 t15 (K' · H)) λt16 H=>zad t13 false H (λK'=>zac .eql false t16 (.int .i64 0) (K' · H)) λt17 H=>zam t13 (.bool true) t17 λt18=>zag t18 (zaw 1 [(.int .u32 0)] 1 [(0,(.int .u32 1))] λt19=>zau [(.bool false),.snil,.snil] [(0,1),(1,1),(2,1)] [(2,t19)] λt20=>zan 3 t2 t20 H λH=>zae true 3 t2 H λr0=>K r0 H) (zaf 0 t1 λt21=>zae false 1 t21 H λt22=>zau [(.bool false),.snil,.snil] [(0,1),(1,1),(2,1)] [(0,t22),(1,t3),(2,t4)] λt25=>zan 3 t2 t25 H λH=>zae true 3 t2 H λr0=>K r0 H)
def zfL:Nat→List Bool | 5=>rl false [0,2,3,1,19,2,50] | 9=>rl false [0,2,3,3,17,2,3,2,45] | _=>[]
noncomputable def zr6:Code:=Tryz.f121.body.getD .skip
noncomputable def zLi:List ResultVar:=Tryz.f121.results.toList
def zli:List AV:=t0::t1::ux 3 (t5::ux 19 (t25::t26::ux 50 []))
def zAw:List Bool:=zfL 5
noncomputable def zr7:Code:=zar [1,1,1,0,1,0,0] zr6
def zAt:AExit→List AV→zaa→Prop:=zas tP zfL [1,1,1,0,1,0] zr6 (zay tP zLi K)
def zAu:Prop:=ALoop tP zr7 (zAt K) (zli t0 t1 t5 t25 t26) H
def zil:List AV:=t0::t1::ux 3 (t5::t6::t7::ux 17 (t25::t26::ux 3 (t30::t31::ux 45 [])))
def zLg:List Bool:=zfL 9
noncomputable def zLd:Code:=zar [1,1,0,0,1,1,0,1,0,0] zr7
def zLc:AExit→List AV→zaa→Prop:=zas tP zfL [1,1,0,0,1,1,0,1,0] zr7 (zbV zAw Kb5 (zAt K))
def zAv:Prop:=ALoop tP zLd (zLc K Kb5) (zil t0 t1 t5 t6 t7 t25 t26 t30 t31) H
def zr5 (t0 t1 t5 t6 t7 t25 t26 t30 t31:AV) (H:zaa) (K:Kt) (Kb5:Lt) (Kb9:Lt):Prop:=zac .lss false t31 t30 λt32=>zag t32 (zab H (λK'=>K' t0 H) λt34=>zab H (λK'=>K' t6 H) λt35=>zab H (λK'=>zaj 1 t34 t35 (K' · H)) λt36=>zab H (λK'=>zal false 1 t36 H (K' · H)) λt37=>zab H (λK'=>za0 .u64 t37 (K' · H)) λt38=>zab H (λK'=>K' t1 H) λt39=>zab H (λK'=>K' t31 H) λt40=>zab H (λK'=>zaj 1 t39 t40 (K' · H)) λt41=>zab H (λK'=>zal false 1 t41 H (K' · H)) λt42=>zab H (λK'=>za0 .u64 t42 (K' · H)) λt43=>zab H (λK'=>zac .mul false t38 t43 (K' · H)) λt44=>zab H (λK'=>K' t5 H) λt45=>zab H (λK'=>K' t6 H) λt46=>zab H (λK'=>K' t31 H) λt47=>zab H (λK'=>zac .add false t46 t47 (K' · H)) λt48=>zab H (λK'=>zaj 1 t45 t48 (K' · H)) λt49=>zab H (λK'=>zal false 1 t49 H (K' · H)) λt50=>zab H (λK'=>za0 .u64 t50 (K' · H)) λt51=>zab H (λK'=>zac .add false t44 t51 (K' · H)) λt52=>zab H (λK'=>K' t7 H) λt53=>zab H (λK'=>zac .add false t52 t53 (K' · H)) λt54=>zab H (λK'=>K' t54 H) λt9=>zac .add false t6 t31 λt58=>zac .rem false t9 (.int .u64 1000000000) λt60=>za0 .u32 t60 λt61=>zaj 1 t5 t58 λt62=>zan 1 t62 t61 H λH=>zac .quo false t9 (.int .u64 1000000000) λt64=>zac .add false t31 (.int .i64 1) λt65=>Kb9 (zil t0 t1 t5 t6 t64 t25 t26 t30 t65) H) (zah 1 t1 λt69=>zac .add false t6 t69 λt70=>za0 .u32 t7 λt72=>zaj 1 t5 t70 λt73=>zan 1 t73 t72 H λH=>zac .add false t26 (.int .i64 1) λt74=>Kb5 (zli t0 t1 t5 t25 t74) H)
def zr4:Prop:=zac .lss false t26 t25 λt27=>zag t27 (zah 1 t1 λt30=>zAv t0 t1 t5 t26 (.int .u64 0) t25 t26 t30 (.int .i64 0) H K Kb5) (ACalls tP zfv [t5] H λt76 H=>K t76 H)
def zlh:Prop:=zah 1 t0 λt11=>zac .eql false t11 (.int .i64 0) λt12=>zad t12 false H (λK'=>K' t1 H) λt14 H=>zad t12 false H (λK'=>zah 1 t14 (K' · H)) λt15 H=>zad t12 false H (λK'=>zac .eql false t15 (.int .i64 0) (K' · H)) λt16 H=>zam t12 (.bool true) t16 λt17=>zag t17 (K .snil H) (zah 1 t0 λt19=>zah 1 t1 λt21=>zac .add false t19 t21 λt22=>zba 4 [(.int .u32 0)] t22 t22 H λt23 H=>zah 1 t0 λt25=>zAu t0 t1 t23 t25 (.int .i64 0) H K)
def zLH (_:Nat):List Bool:=[]
noncomputable def zLI:Code:=Tryz.f129.body.getD .skip
def zAE:Prop:=zaq t0 H λt2 H=>zaq t1 H λt3 H=>zav [(.bool false),.snil,.snil] H λt4 H=>zab H (λK'=>zaf 1 t2 (K' · H)) λt8=>zab H (λK'=>zal false 1 t8 H (K' · H)) λt9=>zab H (λK'=>zaf 2 t3 (K' · H)) λt10=>zab H (λK'=>zal false 1 t10 H (K' · H)) λt11=>zaC H (λH K'=>ACalls tP zdN [t9,t11] H K') λt12=>zab H (λK'=>zaf 1 t3 (K' · H)) λt13=>zab H (λK'=>zal false 1 t13 H (K' · H)) λt14=>zab H (λK'=>zaf 2 t2 (K' · H)) λt15=>zab H (λK'=>zal false 1 t15 H (K' · H)) λt16=>zaC H (λH K'=>ACalls tP zdN [t14,t16] H K') λt17=>zab H (λK'=>K' t12 H) λt5=>zab H (λK'=>K' t17 H) λt6=>zaf 2 t2 λt18=>zae false 1 t18 H λt19=>zaf 2 t3 λt20=>zae false 1 t20 H λt21=>ACalls tP zdN [t19,t21] H λt22 H=>zaf 0 t2 λt23=>zae false 1 t23 H λt24=>zaf 0 t3 λt25=>zae false 1 t25 H λt26=>zac .eql true t24 t26 λt27=>zag t27 (zab H (λK'=>zaf 0 t2 (K' · H)) λt28=>zab H (λK'=>zal false 1 t28 H (K' · H)) λt29=>zab H (λK'=>K' t5 H) λt30=>zab H (λK'=>K' t6 H) λt31=>zaC H (λH K'=>ACalls tP zp4 [t30,t31] H K') λt32=>zab H (λK'=>K' t22 H) λt33=>zab H (λK'=>zau [(.bool false),.snil,.snil] [(0,1),(1,1),(2,1)] [(0,t29),(1,t32),(2,t33)] (K' · H)) λt34=>zan 3 t4 t34 H λH=>zae true 3 t4 H λr0=>K r0 H) (ACalls tP zjy [t5,t6] H λt37 H=>zac .geq false t37 (.int .i64 0) λt38=>zag t38 (zab H (λK'=>zaf 0 t2 (K' · H)) λt39=>zab H (λK'=>zal false 1 t39 H (K' · H)) λt40=>zab H (λK'=>K' t5 H) λt41=>zab H (λK'=>K' t6 H) λt42=>zaC H (λH K'=>ACalls tP zxS [t41,t42] H K') λt43=>zab H (λK'=>K' t22 H) λt44=>zab H (λK'=>zau [(.bool false),.snil,.snil] [(0,1),(1,1),(2,1)] [(0,t40),(1,t43),(2,t44)] (K' · H)) λt45=>zan 3 t4 t45 H λH=>zae true 3 t4 H λr0=>K r0 H) (zab H (λK'=>zaf 0 t3 (K' · H)) λt46=>zab H (λK'=>zal false 1 t46 H (K' · H)) λt47=>zab H (λK'=>K' t6 H) λt48=>zab H (λK'=>K' t5 H) λt49=>zaC H (λH K'=>ACalls tP zxS [t48,t49] H K') λt50=>zab H (λK'=>K' t22 H) λt51=>zab H (λK'=>zau [(.bool false),.snil,.snil] [(0,1),(1,1),(2,1)] [(0,t47),(1,t50),(2,t51)] (K' · H)) λt52=>zan 3 t4 t52 H λH=>zae true 3 t4 H λr0=>K r0 H))
def zLU (_:Nat):List Bool:=[]
noncomputable def zLV:Code:=Tryz.f132.body.getD .skip
def zsg:Prop:=zaq t0 H λt1 H=>zaf 1 t1 λt4=>zae false 1 t4 H λt5=>zah 1 t5 λt6=>zac .eql false t6 (.int .i64 0) λt7=>zag t7 (K (.int .i64 0) H) (zaf 0 t1 λt9=>zae false 1 t9 H λt10=>zag t10 (K (.int .i64 (-1)) H) (K (.int .i64 1) H))
def zmv:Nat→List Bool | 6=>rl false [0,2,3,1,37] | _=>[]
noncomputable def ztk:Code:=Tryz.f172.body.getD .skip
noncomputable def zPC:List ResultVar:=Tryz.f172.results.toList
def zmw:List AV:=t0::t1::ux 3 (t5::ux 37 [])
def zPA:List Bool:=zmv 6
noncomputable def zPy:Code:=zar [1,1,0,1,0,0] ztk
def zPx:AExit→List AV→zaa→Prop:=zas tP zmv [1,1,0,1,0] ztk (zay tP zPC K)
def zB6:Prop:=ALoop tP zPy (zPx K) (zmw t0 t1 t5) H
def ziv:Prop:=zac .geq false t5 (.int .i64 0) λt20=>zag t20 (zab H (λK'=>K' t0 H) λt24=>zab H (λK'=>K' t5 H) λt25=>zab H (λK'=>zaj 1 t24 t25 (K' · H)) λt26=>zab H (λK'=>zal false 1 t26 H (K' · H)) λt27=>zab H (λK'=>K' t1 H) λt28=>zab H (λK'=>K' t5 H) λt29=>zab H (λK'=>zaj 1 t28 t29 (K' · H)) λt30=>zab H (λK'=>zal false 1 t30 H (K' · H)) λt31=>zab H (λK'=>zac .lss false t27 t31 (K' · H)) λt32=>zab H (λK'=>K' t32 H) λt23=>zag t23 (K (.int .i64 (-1)) H) (zab H (λK'=>K' t0 H) λt34=>zab H (λK'=>K' t5 H) λt35=>zab H (λK'=>zaj 1 t34 t35 (K' · H)) λt36=>zab H (λK'=>zal false 1 t36 H (K' · H)) λt37=>zab H (λK'=>K' t1 H) λt38=>zab H (λK'=>K' t5 H) λt39=>zab H (λK'=>zaj 1 t38 t39 (K' · H)) λt40=>zab H (λK'=>zal false 1 t40 H (K' · H)) λt41=>zab H (λK'=>zac .gtr false t37 t41 (K' · H)) λt42=>zab H (λK'=>K' t42 H) λt33=>zag t33 (K (.int .i64 1) H) (zac .sub false t5 (.int .i64 1) λt22=>Kb6 (zmw t0 t1 t22) H))) (K (.int .i64 0) H)
def zmu:Prop:=zah 1 t0 λt7=>zah 1 t1 λt9=>zac .neq false t7 t9 λt10=>zag t10 (zah 1 t0 λt12=>zah 1 t1 λt14=>zac .lss false t12 t14 λt15=>zag t15 (K (.int .i64 (-1)) H) (K (.int .i64 1) H)) (zah 1 t0 λt17=>zac .sub false t17 (.int .i64 1) λt18=>zB6 t0 t1 t18 H K)
def zlZ:Nat→List Bool | 2=>rl false [0,1,2,1,11] | _=>[]
noncomputable def zsJ:Code:=Tryz.f152.body.getD .skip
noncomputable def zNB:List ResultVar:=Tryz.f152.results.toList
def zl0:List AV:=t0::ux 2 (t3::ux 11 [])
def zNz:List Bool:=zlZ 2
noncomputable def zNx:Code:=zar [1,1,0,0,0] zsJ
def zNw:AExit→List AV→zaa→Prop:=zas tP zlZ [1,1,0,0] zsJ (zay tP zNB K)
def zl1:Prop:=ALoop tP zNx (zNw K) (zl0 t0 t3) H
def zsI:Prop:=zac .gtr false t0 (.int .u64 0) λt5=>zag t5 (zac .rem false t0 (.int .u64 1000000000) λt10=>za0 .u32 t10 λt11=>zaw 1 [(.int .u32 0)] 1 [(0,t11)] λt12=>zax za8 1 4 t3 t12 H λt13 H=>zac .quo false t0 (.int .u64 1000000000) λt7=>Kb2 (zl0 t7 t13) H) (K t3 H)
def zBa:Prop:=zl1 t0 .snil H K
def zNC (_:Nat):List Bool:=[]
noncomputable def zND:Code:=Tryz.f153.body.getD .skip
def zl2:Prop:=zaq t0 H λt1 H=>zav [(.bool false),.snil,.snil] H λt2 H=>zaf 1 t1 λt8=>zae false 1 t8 H λt9=>zah 1 t9 λt10=>zac .eql false t10 (.int .i64 0) λt11=>zag t11 (zaw 1 [(.int .u32 0)] 1 [(0,(.int .u32 1))] λt12=>zau [(.bool false),.snil,.snil] [(0,1),(1,1),(2,1)] [(2,t12)] λt13=>zan 3 t2 t13 H λH=>zae true 3 t2 H λr0=>K r0 H) (zaf 2 t1 λt14=>zae false 1 t14 H λt15=>ACalls tP zjF [t15] H λt16 H=>zag t16 (zae true 3 t1 H λt17=>zan 3 t2 t17 H λH=>zae true 3 t2 H λr0=>K r0 H) (zaf 1 t1 λt18=>zae false 1 t18 H λt19=>zaf 2 t1 λt20=>zae false 1 t20 H λt21=>ACalls tP zp9 [t19,t21] H λt22 H=>ACalls tP zjF [t22] H λt24 H=>zag t24 (zae true 3 t1 H λt25=>zan 3 t2 t25 H λH=>zae true 3 t2 H λr0=>K r0 H) (zaf 1 t1 λt27=>zae false 1 t27 H λt28=>ACalls tP zhI [t28,t22] H λt30 H=>zaA t30 0 λt31=>zaA t30 1 λt32=>zaf 2 t1 λt34=>zae false 1 t34 H λt35=>ACalls tP zhI [t35,t22] H λt37 H=>zaA t37 0 λt38=>zaA t37 1 λt39=>zaf 0 t1 λt40=>zae false 1 t40 H λt41=>zau [(.bool false),.snil,.snil] [(0,1),(1,1),(2,1)] [(0,t41),(1,t31),(2,t38)] λt44=>zan 3 t2 t44 H λH=>zae true 3 t2 H λr0=>K r0 H)))
def zl3:Nat→List Bool | 300000=>rl false [0,1] | 300001=>rl false [0,1] | 300002=>rl false [0,1] | 300003=>rl false [0,1] | 4=>rl false [0,1,2,2,7,2,27] | _=>[]
noncomputable def zsK:Code:=Tryz.f157.body.getD .skip
noncomputable def zNJ:List ResultVar:=Tryz.f157.results.toList
def zl5:List AV:=t0::ux 2 (t3::t4::ux 7 (t12::t13::ux 27 []))
def zNH:List Bool:=zl3 4
noncomputable def zNF:Code:=zar [1,1,1,0,1,0,0] zsK
def zNE:AExit→List AV→zaa→Prop:=zas tP zl3 [1,1,1,0,1,0] zsK (zay tP zNJ K)
def zBd:Prop:=ALoop tP zNF (zNE K) (zl5 t0 t3 t4 t12 t13) H
def zl6:Prop:=ACalls tP zfv [t3] H λt40 H=>K t40 H
def zl4:Prop:=zac .lss false t13 t12 λt14=>zag t14 (zaj 1 t0 t13 λt18=>zae false 1 t18 H λt19=>za0 .u64 t19 λt20=>zac .add false t20 t4 λt22=>zac .rem false t22 (.int .u64 1000000000) λt25=>za0 .u32 t25 λt26=>zaw 1 [(.int .u32 0)] 1 [(0,t26)] λt27=>zax za8 1 4 t3 t27 H λt28 H=>zac .quo false t22 (.int .u64 1000000000) λt30=>zac .add false t13 (.int .i64 1) λt31=>Kb4 (zl5 t0 t28 t30 t12 t31) H) (zac .gtr false t4 (.int .u64 0) λt33=>zag t33 (za0 .u32 t4 λt36=>zaw 1 [(.int .u32 0)] 1 [(0,t36)] λt37=>zax za8 1 4 t3 t37 H λt38 H=>zl6 t38 H K) (zl6 t3 H K))
def zBc:Prop:=zah 1 t0 λt8=>zac .add false t8 (.int .i64 1) λt9=>zeJ za8 1 4 t9 H λt10 H=>zah 1 t0 λt12=>zBd t0 t10 (.int .u64 0) t12 (.int .i64 0) H K
def zl7:Nat→List Bool | 2=>rl false [0,1,2,1,17] | _=>[]
noncomputable def zsM:Code:=Tryz.f158.body.getD .skip
noncomputable def zNP:List ResultVar:=Tryz.f158.results.toList
def zl9:List AV:=t0::ux 2 (t3::ux 17 [])
def zNN:List Bool:=zl7 2
noncomputable def zNL:Code:=zar [1,1,0,0,0] zsM
def zNK:AExit→List AV→zaa→Prop:=zas tP zl7 [1,1,0,0] zsM (zay tP zNP K)
def zBf:Prop:=ALoop tP zNL (zNK K) (zl9 t0 t3) H
def zl8:Prop:=zac .gtr false t3 (.int .i64 0) λt7=>zad t7 true H (λK'=>K' t0 H) λt9 H=>zad t7 true H (λK'=>K' t3 H) λt10 H=>zad t7 true H (λK'=>zac .sub false t10 (.int .i64 1) (K' · H)) λt11 H=>zad t7 true H (λK'=>zaj 1 t9 t11 (K' · H)) λt12 H=>zad t7 true H (λK'=>zae false 1 t12 H (K' · H)) λt13 H=>zad t7 true H (λK'=>zac .eql false t13 (.int .u32 0) (K' · H)) λt14 H=>zam t7 t14 (.bool false) λt15=>zag t15 (zac .sub false t3 (.int .i64 1) λt17=>Kb2 (zl9 t0 t17) H) (zaR 1 1 t0 none (some t3) λt20=>K t20 H)
def zBe:Prop:=zah 1 t0 λt5=>zBf t0 t5 H K
def zmp:Nat→List Bool | 300000=>rl false [0,1] | 300001=>rl false [0,1] | 300002=>rl false [0,1] | 300003=>rl false [0,1] | 300004=>rl false [0,1] | 6=>rl false [0,2,3,2,14,2,33] | _=>[]
noncomputable def zti:Code:=Tryz.f171.body.getD .skip
noncomputable def zPs:List ResultVar:=Tryz.f171.results.toList
def zmq:List AV:=t0::t1::ux 3 (t5::t6::ux 14 (t21::t22::ux 33 []))
def zPq:List Bool:=zmp 6
noncomputable def zPo:Code:=zar [1,1,1,1,0,1,0,0] zti
def zPn:AExit→List AV→zaa→Prop:=zas tP zmp [1,1,1,1,0,1,0] zti (zay tP zPs K)
def zB4:Prop:=ALoop tP zPo (zPn K) (zmq t0 t1 t5 t6 t21 t22) H
def zms (t0 t1 t5 t8 t21 t22:AV) (H:zaa) (K:Kt) (Kb6:Lt):Prop:=zac .quo false t8 (.int .u32 1000000000) λt42=>zac .rem false t8 (.int .u32 1000000000) λt45=>zaw 1 [(.int .u32 0)] 1 [(0,t45)] λt46=>zax za8 1 4 t5 t46 H λt47 H=>zac .add false t22 (.int .i64 1) λt48=>Kb6 (zmq t0 t1 t47 t42 t21 t48) H
def zmt:Prop:=K t5 H
def ziu:Prop:=zac .lss false t22 t21 λt23=>zag t23 (zaj 1 t0 t22 λt27=>zae false 1 t27 H λt28=>zac .add false t28 t6 λt30=>zah 1 t1 λt33=>zac .lss false t22 t33 λt34=>zag t34 (zaj 1 t1 t22 λt38=>zae false 1 t38 H λt39=>zac .add false t30 t39 λt40=>zms t0 t1 t5 t40 t21 t22 H K Kb6) (zms t0 t1 t5 t30 t21 t22 H K Kb6)) (zac .gtr false t6 (.int .u32 0) λt50=>zag t50 (zaw 1 [(.int .u32 0)] 1 [(0,t6)] λt53=>zax za8 1 4 t5 t53 H λt54 H=>zmt t54 H K) (zmt t5 H K))
def zmr:Prop:=zah 1 t0 λt17=>zac .add false t17 (.int .i64 1) λt18=>zeJ za8 1 4 t18 H λt19 H=>zah 1 t0 λt21=>zB4 t0 t1 t19 (.int .u32 0) t21 (.int .i64 0) H K
def zth:Prop:=zah 1 t0 λt10=>zah 1 t1 λt12=>zac .lss false t10 t12 λt13=>zag t13 (zmr t1 t0 H K) (zmr t0 t1 H K)
def zQM (_:Nat):List Bool:=[]
noncomputable def zQN:Code:=Tryz.f197.body.getD .skip
def zmR:Prop:=zah 1 t0 λt4=>zac .eql false t4 (.int .i64 1) λt5=>zad t5 true H (λK'=>K' t0 H) λt7 H=>zad t5 true H (λK'=>zaj 1 t7 (.int .i64 0) (K' · H)) λt8 H=>zad t5 true H (λK'=>zae false 1 t8 H (K' · H)) λt9 H=>zad t5 true H (λK'=>zac .eql false t9 (.int .u32 1) (K' · H)) λt10 H=>zam t5 t10 (.bool false) λt11=>K t11 H
def zfU:Nat→List Bool | 1=>rl false [0,2,47] | 5=>rl false [5,1,1,1,41] | _=>[]
noncomputable def ztD:Code:=Tryz.f198.body.getD .skip
noncomputable def zQV:List ResultVar:=Tryz.f198.results.toList
def ztF:List AV:=t0::t1::ux 47 []
def zCw:List Bool:=zfU 1
noncomputable def ztE:Code:=zar [1,0,0,0] ztD
def zCt:AExit→List AV→zaa→Prop:=zas tP zfU [1,0,0] ztD (zay tP zQV K)
def zCu:Prop:=ALoop tP ztE (zCt K) (ztF t0 t1) H
def zmS:List AV:=ux 5 (t5::ux 1 (t7::ux 41 []))
def zQT:List Bool:=zfU 5
noncomputable def zQQ:Code:=zar [1,0,0,1,0,1,1,0,0,0] ztE
def zQP:AExit→List AV→zaa→Prop:=zas tP zfU [1,0,0,1,0,1,1,0,0] ztE (zbV zCw Kb1 (zCt K))
def zCv:Prop:=ALoop tP zQQ (zQP K Kb1) (zmS t5 t7) H
def ztC (t5 t7:AV) (H:zaa) (K:Kt) (Kb1:Lt) (Kb5:Lt):Prop:=zac .gtr false t7 (.int .u64 0) λt33=>zag t33 (zab H (λK'=>K' t7 H) λt34=>zab H (λK'=>K' t5 H) λt35=>zab H (λK'=>K' t7 H) λt36=>zab H (λK'=>zac .rem false t35 t36 (K' · H)) λt37=>zab H (λK'=>K' t34 H) λt5=>zab H (λK'=>K' t37 H) λt7=>Kb5 (zmS t5 t7) H) (ACalls tP zgl [t5] H λt39 H=>K t39 H)
def ztB:Prop:=zah 1 t1 λt12=>zac .gtr false t12 (.int .i64 0) λt13=>zag t13 (zah 1 t0 λt15=>zac .leq false t15 (.int .i64 2) λt16=>zad t16 true H (λK'=>K' t1 H) λt18 H=>zad t16 true H (λK'=>zah 1 t18 (K' · H)) λt19 H=>zad t16 true H (λK'=>zac .leq false t19 (.int .i64 2) (K' · H)) λt20 H=>zam t16 t20 (.bool false) λt21=>zag t21 (ACalls tP zjK [t0] H λt24 H=>zaA t24 0 λt25=>zaA t24 1 λt26=>ACalls tP zjK [t1] H λt29 H=>zaA t29 0 λt30=>zaA t29 1 λt31=>zCv t25 t30 H K Kb1) (ACalls tP zhI [t0,t1] H λt43 H=>zaA t43 0 λt44=>zaA t43 1 λt45=>Kb1 (ztF t1 t45) H)) (K t0 H)
def zCs:Prop:=zCu t0 t1 H K
def zCy:Nat→List Bool | 12=>rl false [8,6,77] | _=>[]
noncomputable def ztG:Code:=Tryz.f199.body.getD .skip
noncomputable def zQ1:List ResultVar:=Tryz.f199.results.toList
def zQY:List AV:=ux 8 (t8::t9::t10::t11::t12::t13::ux 77 [])
noncomputable def zQX:Code:=zar [1,1,1,1,1,1,1,1,0,1,0,0] ztG
def zQW:AExit→List AV→zaa→Prop:=zas tP zCy [1,1,1,1,1,1,1,1,0,1,0] ztG (zay tP zQ1 K)
def zQZ:Prop:=ALoop tP zQX (zQW K) (zQY t8 t9 t10 t11 t12 t13) H
def zCx:Prop:=ACalls tP zjy [t0,t1] H λt18 H=>zac .lss false t18 (.int .i64 0) λt19=>zag t19 (zax za8 1 4 .snil t0 H λt21 H=>zaE [.snil,t21] (K · H)) (zah 1 t1 λt23=>zac .eql false t23 (.int .i64 1) λt24=>zag t24 (zaj 1 t1 (.int .i64 0) λt28=>zae false 1 t28 H λt29=>za0 .u64 t29 λt30=>ACalls tP zqh [t0,t30] H λt31 H=>zaA t31 0 λt32=>zaA t31 1 λt33=>ACalls tP zgl [t33] H λt36 H=>zaE [t32,t36] (K · H)) (zah 1 t1 λt38=>zac .sub false t38 (.int .i64 1) λt41=>zaj 1 t1 t41 λt42=>zae false 1 t42 H λt43=>za0 .u64 t43 λt44=>zac .add false t44 (.int .u64 1) λt45=>zac .quo false (.int .u64 1000000000) t45 λt46=>ACalls tP zxV [t0,t46] H λt49 H=>ACalls tP zxV [t1,t46] H λt52 H=>zaR 1 1 t52 none (some t38) λt54=>zah 1 t0 λt56=>zac .sub false t56 t38 λt58=>zac .add false t58 (.int .i64 1) λt59=>zba 4 [(.int .u32 0)] t59 t59 H λt60 H=>zah 1 t0 λt62=>zac .sub false t62 t38 λt64=>zQZ t38 t46 t49 t54 t60 t64 H K))
def zRJ (_:Nat):List Bool:=[]
noncomputable def zRK:Code:=Tryz.f216.body.getD .skip
def zCK:Prop:=zav [(.bool false),.snil,.snil] H λt4 H=>zac .eql false t1 (.int .i64 0) λt6=>zag t6 (ACalls tP zdx [(.int .i64 0)] H λt7 H=>zan 3 t4 t7 H λH=>zae true 3 t4 H λr0=>K r0 H) (zac .lss false t0 (.int .i64 0) λt9=>zac .lss false t1 (.int .i64 0) λt11=>zac .neq true t9 t11 λt12=>ACalls tP zhD [t0] H λt14 H=>ACalls tP zhD [t1] H λt16 H=>zau [(.bool false),.snil,.snil] [(0,1),(1,1),(2,1)] [(0,t12),(1,t14),(2,t16)] λt17=>ACalls tP zeW [t17] H λt18 H=>zan 3 t4 t18 H λH=>zae true 3 t4 H λr0=>K r0 H)
def zm1:Nat→List Bool | 3=>rl false [0,1,3,1,3,2,22] | _=>[]
noncomputable def ztU:Code:=Tryz.f223.body.getD .skip
noncomputable def zR0:List ResultVar:=Tryz.f223.results.toList
def zm2:List AV:=t0::ux 3 (t4::ux 3 (t8::t9::ux 22 []))
def zRY:List Bool:=zm1 3
noncomputable def zRW:Code:=zar [1,1,0,1,0,0] ztU
def zRV:AExit→List AV→zaa→Prop:=zas tP zm1 [1,1,0,1,0] ztU (zay tP zR0 K)
def zCO:Prop:=ALoop tP zRW (zRV K) (zm2 t0 t4 t8 t9) H
def ztT:Prop:=zac .lss false t9 t8 λt10=>zag t10 (zah 1 t0 λt14=>zac .sub false t14 (.int .i64 1) λt15=>zac .sub false t15 t9 λt17=>zaj 1 t0 t17 λt18=>zae false 1 t18 H λt19=>za0 .u64 t19 λt20=>zac .sub false (.int .u64 18446744073709551615) t20 λt23=>zac .quo false t23 (.int .u64 1000000000) λt24=>zac .gtr false t4 t24 λt25=>zag t25 (zaE [(.int .u64 0),(.bool false)] (K · H)) (zac .mul false t4 (.int .u64 1000000000) λt27=>zac .add false t27 t20 λt29=>zac .add false t9 (.int .i64 1) λt30=>Kb3 (zm2 t0 t29 t8 t30) H)) (zaE [t4,(.bool true)] (K · H))
def zCN:Prop:=zah 1 t0 λt8=>zCO t0 (.int .u64 0) t8 (.int .i64 0) H K
def zm3:Nat→List Bool | 4=>rl false [0,2,4,3,32] | _=>[]
noncomputable def ztW:Code:=Tryz.f224.body.getD .skip
noncomputable def zR6:List ResultVar:=Tryz.f224.results.toList
def zm4:List AV:=t0::t1::ux 4 (t6::t7::t8::ux 32 [])
def zR4:List Bool:=zm3 4
noncomputable def zR2:Code:=zar [1,1,1,0,1,0,0] ztW
def zR1:AExit→List AV→zaa→Prop:=zas tP zm3 [1,1,1,0,1,0] ztW (zay tP zR6 K)
def zCQ:Prop:=ALoop tP zR2 (zR1 K) (zm4 t0 t1 t6 t7 t8) H
def ztV:Prop:=zac .geq false t8 (.int .i64 0) λt17=>zag t17 (zac .mul false t7 (.int .u64 1000000000) λt21=>zaj 1 t0 t8 λt24=>zae false 1 t24 H λt25=>za0 .u64 t25 λt26=>zac .add false t21 t26 λt27=>zac .quo false t27 t1 λt32=>za0 .u32 t32 λt33=>zaj 1 t6 t8 λt34=>zan 1 t34 t33 H λH=>zac .rem false t27 t1 λt37=>zac .sub false t8 (.int .i64 1) λt19=>Kb4 (zm4 t0 t1 t6 t37 t19) H) (ACalls tP zfv [t6] H λt39 H=>zaE [t39,t7] (K · H))
def zCP:Prop:=zah 1 t0 λt11=>zba 4 [(.int .u32 0)] t11 t11 H λt12 H=>zah 1 t0 λt14=>zac .sub false t14 (.int .i64 1) λt15=>zCQ t0 t1 t12 (.int .u64 0) t15 H K
def zWd (_:Nat):List Bool:=[]
noncomputable def zWe:Code:=Tryz.f80.body.getD .skip
def zEn:Prop:=zaq t0 H λt1 H=>zae true 3 t1 H λt3=>ACalls tP zeq [t3] H λt4 H=>ACalls tP zpN [t4] H λt5 H=>K t5 H
def zmz:Nat→List Bool | 3=>rl false [0,1,3,2,2,2,16] | _=>[]
noncomputable def ztn:Code:=Tryz.f175.body.getD .skip
noncomputable def zPO:List ResultVar:=Tryz.f175.results.toList
def zmB:List AV:=t0::ux 3 (t4::t5::ux 2 (t8::t9::ux 16 []))
def zPM:List Bool:=zmz 3
noncomputable def zPK:Code:=zar [1,1,0,1,0,0] ztn
def zPJ:AExit→List AV→zaa→Prop:=zas tP zmz [1,1,0,1,0] ztn (zay tP zPO K)
def zCa:Prop:=ALoop tP zPK (zPJ K) (zmB t0 t4 t5 t8 t9) H
def zmA:Prop:=zac .lss false t9 t8 λt10=>zag t10 (zac .eql false t0 t9 λt14=>zag t14 (ACalls tP zdx [(.int .i64 0)] H λt15 H=>zan 3 t4 t15 H λH=>zae true 3 t4 H λr0=>K r0 H) (zab H (λK'=>zal true 3 t5 H (K' · H)) λt16=>zab H (λK'=>K' t0 H) λt17=>zab H (λK'=>K' t9 H) λt18=>zab H (λK'=>zac .sub false t17 t18 (K' · H)) λt19=>zab H (λK'=>K' t9 H) λt20=>zab H (λK'=>zac .add false t20 (.int .i64 1) (K' · H)) λt21=>zaC H (λH K'=>ACalls tP zqe [t19,t21] H K') λt22=>zaC H (λH K'=>ACalls tP zfB [t16,t22] H K') λt23=>zan 3 t5 t23 H λH=>zac .add false t9 (.int .i64 1) λt24=>Kb3 (zmB t0 t4 t5 t8 t24) H)) (zae true 3 t5 H λt25=>zan 3 t4 t25 H λH=>zae true 3 t4 H λr0=>K r0 H)
def zB9:Prop:=zav [(.bool false),.snil,.snil] H λt4 H=>ACalls tP zdx [(.int .i64 1)] H λt7 H=>zav [(.bool false),.snil,.snil] H λt5 H=>zan 3 t5 t7 H λH=>zCa t0 t4 t5 t1 (.int .i64 0) H K
variable {t0 t1 t3 t4 t5 t6 t7 t8 t9 t10 t11 t12 t13 t21 t22 t25 t26 t30 t31} {H} {K} {Kb1 Kb2 Kb3 Kb4 Kb5 Kb6}
theorem zVq (h:HSc H→zD3 t0 H K):ACalls tP zdx [t0] H K:=
 acb zVo Tryz.func61 zVp (by kernel_rfl) (by kernel_rfl) h
theorem zD4 (h:HSc H→zuX t0 t1 H K):ACalls tP zfB [t0,t1] H K:=
 acb zVr Tryz.func70 zVs (by kernel_rfl) (by kernel_rfl) h
theorem zVZ (h:HSc H→zEe t0 t1 H K):ACalls tP zqv [t0,t1] H K:=
 acb zVX Tryz.func77 zVY (by kernel_rfl) (by kernel_rfl) h
theorem zK7 (h:HSc H→zAq t0 H K):ACalls tP zhD [t0] H K:=
 acb zK5 Tryz.func113 zK6 (by kernel_rfl) (by kernel_rfl) h
theorem zAr (h:HSc H→zr2 t0 H K):ACalls tP zeW [t0] H K:=
 acb zK8 Tryz.func114 zK9 (by kernel_rfl) (by kernel_rfl) h
theorem zAs (h:HSc H→zr3 t0 H K):ACalls tP zeq [t0] H K:=
 acb zLa Tryz.func120 zLb (by kernel_rfl) (by kernel_rfl) h
theorem zLf (Inv:Nat→AV→AV→zaa→Prop) (n:Nat) (h0:HSc H→Inv n t7 t31 H)
  (ac:Rd2 (λt7=>λt31=>zil t0 t1 t5 t6 t7 t25 t26 t30 t31) (λt7=>λt31=>λH Kb9=>zr5 t0 t1 t5 t6 t7 t25 t26 t30 t31 H K Kb5 Kb9) H Inv):zAv t0 t1 t5 t6 t7 t25 t26 t30 t31 H K Kb5:=
 lp2 (M:=zfL) zLg t7 t31 (by kernel_rfl) Inv n h0 ac
theorem zLe (Inv:Nat→AV→zaa→Prop) (n:Nat) (h0:HSc H→Inv n t26 H)
  (ac:Rd1 (λt26=>zli t0 t1 t5 t25 t26) (λt26=>λH Kb5=>zr4 t0 t1 t5 t25 t26 H K Kb5) H Inv):zAu t0 t1 t5 t25 t26 H K:=
 lp1 (M:=zfL) zAw t26 (by kernel_rfl) Inv n h0 ac
theorem zLh (h:HSc H→zlh t0 t1 H K):ACalls tP zdN [t0,t1] H K:=
 acb zfL Tryz.func121 zr6 (by kernel_rfl) (by kernel_rfl) h
theorem zLJ (h:HSc H→zAE t0 t1 H K):ACalls tP zpK [t0,t1] H K:=
 acb zLH Tryz.func129 zLI (by kernel_rfl) (by kernel_rfl) h
theorem zLW (h:HSc H→zsg t0 H K):ACalls tP zpN [t0] H K:=
 acb zLU Tryz.func132 zLV (by kernel_rfl) (by kernel_rfl) h
theorem zPz (Inv:Nat→AV→zaa→Prop) (n:Nat) (h0:HSc H→Inv n t5 H)
  (ac:Rd1 (λt5=>zmw t0 t1 t5) (λt5=>λH Kb6=>ziv t0 t1 t5 H K Kb6) H Inv):zB6 t0 t1 t5 H K:=
 lp1 (M:=zmv) zPA t5 (by kernel_rfl) Inv n h0 ac
theorem zPB (h:HSc H→zmu t0 t1 H K):ACalls tP zjy [t0,t1] H K:=
 acb zmv Tryz.func172 ztk (by kernel_rfl) (by kernel_rfl) h
theorem zNy (Inv:Nat→AV→AV→zaa→Prop) (n:Nat) (h0:HSc H→Inv n t0 t3 H)
  (ac:Rd2 (λt0=>λt3=>zl0 t0 t3) (λt0=>λt3=>λH Kb2=>zsI t0 t3 H K Kb2) H Inv):zl1 t0 t3 H K:=
 lp2 (M:=zlZ) zNz t0 t3 (by kernel_rfl) Inv n h0 ac
theorem zNA (h:HSc H→zBa t0 H K):ACalls tP zgl [t0] H K:=
 acb zlZ Tryz.func152 zsJ (by kernel_rfl) (by kernel_rfl) h
theorem zBb (h:HSc H→zl2 t0 H K):ACalls tP zjt [t0] H K:=
 acb zNC Tryz.func153 zND (by kernel_rfl) (by kernel_rfl) h
theorem zNG (Inv:Nat→AV→AV→AV→zaa→Prop) (n:Nat) (h0:HSc H→Inv n t3 t4 t13 H)
  (ac:Rd3 (λt3=>λt4=>λt13=>zl5 t0 t3 t4 t12 t13) (λt3=>λt4=>λt13=>λH Kb4=>zl4 t0 t3 t4 t12 t13 H K Kb4) H Inv):zBd t0 t3 t4 t12 t13 H K:=
 lp3 (M:=zl3) zNH t3 t4 t13 (by kernel_rfl) Inv n h0 ac
theorem zNI (h:HSc H→zBc t0 H K):ACalls tP zju [t0] H K:=
 acb zl3 Tryz.func157 zsK (by kernel_rfl) (by kernel_rfl) h
theorem zNM (Inv:Nat→AV→zaa→Prop) (n:Nat) (h0:HSc H→Inv n t3 H)
  (ac:Rd1 (λt3=>zl9 t0 t3) (λt3=>λH Kb2=>zl8 t0 t3 H K Kb2) H Inv):zBf t0 t3 H K:=
 lp1 (M:=zl7) zNN t3 (by kernel_rfl) Inv n h0 ac
theorem zNO (h:HSc H→zBe t0 H K):ACalls tP zfv [t0] H K:=
 acb zl7 Tryz.func158 zsM (by kernel_rfl) (by kernel_rfl) h
theorem zPp (Inv:Nat→AV→AV→AV→zaa→Prop) (n:Nat) (h0:HSc H→Inv n t5 t6 t22 H)
  (ac:Rd3 (λt5=>λt6=>λt22=>zmq t0 t1 t5 t6 t21 t22) (λt5=>λt6=>λt22=>λH Kb6=>ziu t0 t1 t5 t6 t21 t22 H K Kb6) H Inv):zB4 t0 t1 t5 t6 t21 t22 H K:=
 lp3 (M:=zmp) zPq t5 t6 t22 (by kernel_rfl) Inv n h0 ac
theorem zPr (h:HSc H→zth t0 t1 H K):ACalls tP zp4 [t0,t1] H K:=
 acb zmp Tryz.func171 zti (by kernel_rfl) (by kernel_rfl) h
theorem zQO (h:HSc H→zmR t0 H K):ACalls tP zjF [t0] H K:=
 acb zQM Tryz.func197 zQN (by kernel_rfl) (by kernel_rfl) h
theorem zQS (Inv:Nat→AV→AV→zaa→Prop) (n:Nat) (h0:HSc H→Inv n t5 t7 H)
  (ac:Rd2 (λt5=>λt7=>zmS t5 t7) (λt5=>λt7=>λH Kb5=>ztC t5 t7 H K Kb1 Kb5) H Inv):zCv t5 t7 H K Kb1:=
 lp2 (M:=zfU) zQT t5 t7 (by kernel_rfl) Inv n h0 ac
theorem zQR (Inv:Nat→AV→AV→zaa→Prop) (n:Nat) (h0:HSc H→Inv n t0 t1 H)
  (ac:Rd2 (λt0=>λt1=>ztF t0 t1) (λt0=>λt1=>λH Kb1=>ztB t0 t1 H K Kb1) H Inv):zCu t0 t1 H K:=
 lp2 (M:=zfU) zCw t0 t1 (by kernel_rfl) Inv n h0 ac
theorem zQU (h:HSc H→zCs t0 t1 H K):ACalls tP zp9 [t0,t1] H K:=
 acb zfU Tryz.func198 ztD (by kernel_rfl) (by kernel_rfl) h
theorem zQ0 (h:HSc H→zCx t0 t1 H K):ACalls tP zhI [t0,t1] H K:=
 acb zCy Tryz.func199 ztG (by kernel_rfl) (by kernel_rfl) h
theorem zRL (h:HSc H→zCK t0 t1 H K):ACalls tP zqe [t0,t1] H K:=
 acb zRJ Tryz.func216 zRK (by kernel_rfl) (by kernel_rfl) h
theorem zRX (Inv:Nat→AV→AV→zaa→Prop) (n:Nat) (h0:HSc H→Inv n t4 t9 H)
  (ac:Rd2 (λt4=>λt9=>zm2 t0 t4 t8 t9) (λt4=>λt9=>λH Kb3=>ztT t0 t4 t8 t9 H K Kb3) H Inv):zCO t0 t4 t8 t9 H K:=
 lp2 (M:=zm1) zRY t4 t9 (by kernel_rfl) Inv n h0 ac
theorem zRZ (h:HSc H→zCN t0 H K):ACalls tP zjK [t0] H K:=
 acb zm1 Tryz.func223 ztU (by kernel_rfl) (by kernel_rfl) h
theorem zR3 (Inv:Nat→AV→AV→zaa→Prop) (n:Nat) (h0:HSc H→Inv n t7 t8 H)
  (ac:Rd2 (λt7=>λt8=>zm4 t0 t1 t6 t7 t8) (λt7=>λt8=>λH Kb4=>ztV t0 t1 t6 t7 t8 H K Kb4) H Inv):zCQ t0 t1 t6 t7 t8 H K:=
 lp2 (M:=zm3) zR4 t7 t8 (by kernel_rfl) Inv n h0 ac
theorem zR5 (h:HSc H→zCP t0 t1 H K):ACalls tP zqh [t0,t1] H K:=
 acb zm3 Tryz.func224 ztW (by kernel_rfl) (by kernel_rfl) h
theorem zWf (h:HSc H→zEn t0 H K):ACalls tP zj1 [t0] H K:=
 acb zWd Tryz.func80 zWe (by kernel_rfl) (by kernel_rfl) h
theorem zPL (Inv:Nat→AV→zaa→Prop) (n:Nat) (h0:HSc H→Inv n t9 H)
  (ac:Rd1 (λt9=>zmB t0 t4 t5 t8 t9) (λt9=>λH Kb3=>zmA t0 t4 t5 t8 t9 H K Kb3) H Inv):zCa t0 t4 t5 t8 t9 H K:=
 lp1 (M:=zmz) zPM t9 (by kernel_rfl) Inv n h0 ac
theorem zPN (h:HSc H→zB9 t0 t1 H K):ACalls tP zjz [t0,t1] H K:=
 acb zmz Tryz.func175 ztn (by kernel_rfl) (by kernel_rfl) h
end
end Go.Proofs.YtdmamdnkcefmmaaGreatDoor
