import Derived.Test.YtdmamdnkcefmmaaGreatDoorAbsU
import Derived.Deep.Slices
import Derived.DataReads
set_option linter.unusedSimpArgs false
set_option linter.unusedVariables false
set_option maxRecDepth 8000
namespace Go.Proofs.YtdmamdnkcefmmaaGreatDoor
section
open Go.RowKit

def zbW(P:Program):Nat→TypeId→List AV→Prop
 |0,_,_=>False
 | n+1,t,asx=>match P.underlying t with
  |some .bool=>∃b,asx=[.bool b]
  |some (.int k)=>∃m,asx=[.int k m]∧(Lit.int k m).wf=true
  |some .string=>∃s,asx=[.str s]∧s.length≤maxLen
  |some (.slice e)=>∃es,asx=[.sl es .none]∧es.length≤maxLen∧∀c∈es,zbW P n e c
  |some (.struct fs)=>asx.length=P.cellsOf t∧∀f∈fs.toList,zbW P n f.type ((asx.drop f.offset).take (P.cellsOf f.type))
  |_=>False

def zfq(P:Program):List Field→Nat→Nat→Bool
 |[],at_,n=>at_ == n
 |f::fs,at_,n=>f.offset == at_ && zfq P fs (at_+P.cellsOf f.type) n
def ziC(P:Program)(S:List TypeId):Bool:=
 S.all λt=>match P.underlying t with
  |some .bool|some (.int _)|some .string=>P.cellsOf t == 1
  |some (.slice e)=>S.contains e && decide (0<P.cellsOf e) && P.cellsOf t == 1
  |some (.struct fs)=>fs.toList.all (λf=>S.contains f.type) && zfq P fs.toList 0 (P.cellsOf t)
  |_=>false

section
variable {Hh:Type} {enc:TypeId×Value→Hh} {P:Program} {w:World} {base:Nat} {spare:Nat→Bool} {l0:Bool}

theorem zBl{R:Value→AV→Prop}{cs:List Value}:∀ (fs:List Field) (at_ n:Nat) (T:Field→List AV→Prop),zfq P fs at_ n=true→cs.length=n →
  (∀f∈fs,∃asx,All2 R ((cs.drop f.offset).take (P.cellsOf f.type)) asx∧T f asx)→at_≤n →
  ∃asx,All2 R (cs.drop at_) asx∧∀f∈fs,T f ((asx.drop (f.offset-at_)).take (P.cellsOf f.type))∧at_≤f.offset
 |[],at_,n,T,ht,hl,hf,eP=>by simp[zfq]at ht;subst ht;refine⟨[],?_,by simp⟩;rw[bJ (by omega)];trivial
 |f::fs,at_,n,T,ht,hl,hf,eP=>by
  simp only[zfq,aj,ba]at ht;obtain⟨h1,h2⟩:=ht;have hbound:∀(fs:List Field) (k n:Nat),zfq P fs k n=true→k≤n:=by
   intro fs;induction fs with
   |nil=>intro k n h;simp[zfq]at h;omega
   |cons g gs ih=>intro k n h;simp only[zfq,aj]at h;have:=ih _ _ h.2;omega
  have hb:=hbound fs _ _ h2;obtain⟨as0,m5,hT0⟩:=hf f (by simp);obtain⟨as1,ha1,hT1⟩:=zBl fs (at_+P.cellsOf f.type) n T h2 hl (λg hg=>hf g (by simp[hg])) hb;have ik:as0.length=P.cellsOf f.type:=by have:=m5.length;rw[aT,de]at this;omega
  refine⟨as0++as1,?_,?_⟩
  ·have:cs.drop at_=(cs.drop f.offset).take (P.cellsOf f.type)++cs.drop (at_+P.cellsOf f.type):=by rw[h1,←c5,aJ]
   rw[this];exact m5.append ha1
  ·intro g hg;rcases aP.1 hg with rfl | hg
   ·rw[h1,c7,bq,←ik,cE];exact⟨hT0,ac _⟩
   ·obtain⟨k1,k2⟩:=hT1 g hg;refine⟨?_,by omega⟩;have:(as0++as1).drop (g.offset-at_)=as1.drop (g.offset-(at_+P.cellsOf f.type)):=by rw[da,bJ (by omega),List.nil_append];congr 1;omega
    rw[this];exact k1

theorem zjI{a:Addr}{n:Nat}{cs:List Value}(h:w.cells? base a n=some cs):cs.length=n∧∀j v,cs[j]?=some v→w.cell? (a.add j)=some v:=by
 unfold World.cells? at h;split at h
 ·have h1:=mapM_some_length h;refine⟨by simpa using h1,λj v hj=>?_⟩;have hjn:j<n:=by have:=(List.getElem?_eq_some_iff.1 hj).1;simp at h1;omega
  have:=mapM_some_get h j j (by simp[hjn]);rw[this];exact hj
 ·cases h

theorem zI1{b o:Nat}{v:Value}(h:w.cell? ⟨b,o,none⟩=some v):o<zcF w b:=by
 unfold World.cell? at h;unfold zcF;split at h
 ·rename_i c t fr hb;simp only[hb];simp at h;exact(Array.getElem?_eq_some_iff.1 h).1
 ·cases h

theorem zBu{S:List TypeId}(hS:ziC P S=true):∀ (n:Nat) (t:TypeId) (cs:List Value) (x:DataW Hh × List MemPlace),t∈S→DataW.trod enc P w base spare l0 n t cs=some x →
  ∃asx,All2 (DRel w (zcF w)) cs asx∧zbW P n t asx:=by
 intro n;induction n with
 |zero=>intro t cs x _ h;simp[DataW.trod]at h
 |succ n ih=>
  intro t cs x ht h;have hp:=am.1 hS t ht;unfold zbW;cases hu:P.underlying t with
  |none=>simp[hu]at hp
  |some d=>
   rw[hu]at hp;cases d <;> simp only[]at hp <;> try (cases hp;done)
   case bool=>obtain⟨b,rfl,_⟩:=DataW.trod_bool hu h;exact⟨[.bool b],⟨.bool b,trivial⟩,b,rfl⟩
   case int k=>obtain⟨m,rfl,_,hw⟩:=DataW.trod_int hu h;exact⟨[.int k m],⟨.int k m,trivial⟩,m,rfl,hw⟩
   case string=>
    obtain⟨s,rfl,_,hw⟩:=DataW.trod_string hu h;have hs:(⟨s.data.toList.toArray⟩:ByteArray)=s:=by simp
    refine⟨[.str s.data.toList],⟨?_,trivial⟩,s.data.toList,rfl,by rw[Array.length_toList];exact hw⟩;have:=DRel.str (w:=w) (L:=zcF w) s.data.toList;rwa [hs]at this
   case slice e=>
    simp only[aj,aS]at hp;obtain⟨⟨he,f7⟩,_⟩:=hp;have he:e∈S:=by simpa using he
    rcases DataW.trod_slice hu h with ⟨rfl,_⟩|⟨a,len,cap,elems,rest,n',hn,rfl,_,hb,hl,hm,ek,iG,_⟩
    ·exact⟨[.sl [] .none],⟨.slE _ _,trivial⟩,[],rfl,by simp,by simp⟩
    ·obtain rfl:n=n':=by omega
     have e8:∀i,i<len→∃cs asx,w.cells? base (a.add (i*P.cellsOf e)) (P.cellsOf e)=some cs∧All2 (DRel w (zcF w)) cs asx∧zbW P n e asx:=by
      intro i hi;have h1:=iG i hi;rw[List.getElem?_eq_getElem (by omega)]at h1;cases hc:w.cells? base (a.add (i*P.cellsOf e)) (P.cellsOf e) with
      |none=>rw[hc]at h1;cases h1
      |some cs=>rw[hc]at h1;obtain⟨asx,h2,h3⟩:=ih e cs _ he h1;exact⟨cs,asx,rfl,h2,h3⟩
     by_cases h0:len=0
     ·subst h0;exact⟨[.sl [] .none],⟨.slE _ _,trivial⟩,[],rfl,by simp,by simp⟩
     ·-- the address is a plain one
      have hspot:a.spot=none:=by obtain⟨cs,asx,h1,h2,_⟩:=e8 0 (by omega);obtain⟨h3,h4⟩:=zjI h1;have h5:=h4 0 cs[0] (by simp);have:=World.cell?_spot h5;simpa[Addr.add]using this
      obtain⟨b,off,sp⟩:=a;simp only at hspot;subst hspot;obtain⟨f,hf⟩:∃f:Nat→List Value×List AV,∀i,i<len→w.cells? base ((⟨b,off,none⟩:Addr).add (i*P.cellsOf e)) (P.cellsOf e)=some (f i).1∧All2 (DRel w (zcF w)) (f i).1 (f i).2∧zbW P n e (f i).2:=
       Deep.choose_lt (p:=λi (y:List Value × List AV)=>w.cells? base ((⟨b,off,none⟩:Addr).add (i*P.cellsOf e)) (P.cellsOf e)=some y.1∧All2 (DRel w (zcF w)) y.1 y.2∧zbW P n e y.2)
        (λi hi=>by obtain⟨cs,asx,h1,h2,h3⟩:=e8 i hi;exact⟨(cs,asx),h1,h2,h3⟩)
      have eG:∀i,i<len→∀j v,(f i).1[j]?=some v→w.cell? ⟨b,off+i*P.cellsOf e+j,none⟩=some v:=by intro i hi j v hj;have:=(zjI (hf i hi).1).2 j v hj;rw[add_lit,add_lit]at this;exact this
      have i8:∀i,i<len→(f i).2.length=P.cellsOf e:=λi hi=>by rw[←(hf i hi).2.1.length];exact(zjI (hf i hi).1).1
      refine⟨[.sl ((List.range len).map λi=>(f i).2) .none],⟨?_,trivial⟩,_,rfl,by simp;omega,?_⟩
      ·have:=DRel.sl (w:=w) (L:=zcF w) b off cap (P.cellsOf e) ((List.range len).map λi=>(f i).2) (λi j=>(f i).1.getD j undef) (by simp;exact h0) (by simpa using hl) ?_ ?_ ?_ ?_
       ·simpa using this
       ·-- the last cell is there
        have hi:len-1<len:=by omega
        have hj:P.cellsOf e-1<(f (len-1)).1.length:=by rw[(zjI (hf _ hi).1).1];omega
        have:=zI1 (eG (len-1) hi (P.cellsOf e-1) _ (List.getElem?_eq_getElem hj));have kp:(len-1)*P.cellsOf e+P.cellsOf e=len*P.cellsOf e:=by rw[←bI];congr 1;omega
        simp;omega
       ·intro i hi;simp at hi;simpa using i8 i hi
       ·intro i j hi hj;simp at hi hj;have eI:j<(f i).1.length:=by rw[(hf i hi).2.1.length];exact hj
        simp only[List.getD_eq_getElem?_getD,List.getElem?_eq_getElem eI,Option.getD_some];exact eG i hi j _ (List.getElem?_eq_getElem eI)
       ·intro i j hi hj;simp at hi hj;have eI:j<(f i).1.length:=by rw[(hf i hi).2.1.length];exact hj
        obtain⟨c,h1,h2⟩:=(hf i hi).2.1.get' (List.getElem?_eq_getElem eI);simp only[List.getD_eq_getElem?_getD,List.getElem?_eq_getElem eI,Option.getD_some,bX,cc];have:(f i).2[j]=c:=by rw[List.getElem?_eq_getElem hj]at h1;exact cT h1
        rw[this];exact h2
      ·intro c hc;obtain⟨i,hi,rfl⟩:=aA.1 hc;exact(hf i (by simpa using hi)).2.2
   case struct fs=>
    simp only[aj]at hp;obtain⟨kS,htile⟩:=hp;obtain⟨xs,n',hn,_,fV,gc,e8⟩:=DataW.trod_struct hu h;obtain rfl:n=n':=by omega
    obtain⟨asx,h1,h2⟩:=zBl (P:=P) (R:=DRel w (zcF w)) (cs:=cs) fs.toList 0 (P.cellsOf t) (λf asx=>zbW P n f.type asx) htile fV (λf hf=>by
     obtain⟨i,hi⟩:=aQ.1 hf;have ie:fs[i]?=some f:=by simpa using hi
     have h3:=e8 i f ie;have ei:i<xs.length:=by rw[gc];exact(Array.getElem?_eq_some_iff.1 ie).1
     rw[List.getElem?_eq_getElem ei]at h3;exact ih f.type _ _ (by simpa using List.all_eq_true.1 kS f hf) h3) (bv _)
    rw[bq]at h1;refine⟨asx,h1,by rw[←h1.length];exact fV,λf hf=>?_⟩;simpa using(h2 f hf).1
end

theorem zz5{Hh:Type}{enc:TypeId×Value→Hh}{P:Program}{w:World}{base:Nat}{spare:Nat→Bool}{l0:Bool}{S:List TypeId}(hS:ziC P S=true){t:TypeId}(ht:t∈S){cs:Array Value}{d:DataW Hh}{p:List MemPlace}(h:DataW.Trod enc P w base spare l0 t (.agg cs) d p):∃n asx,zbW P n t asx∧TRel w (G0 w) (.agg cs) (.agg asx):=by
 obtain⟨n,hn⟩:=h;obtain⟨asx,h1,h2⟩:=zBu hS n t _ _ ht hn;exact⟨n,asx,h2,cs,rfl,h1.mono λ_ _ hd=>ARel.of_b (DRel.toB (G:=G0 w) hd)⟩
theorem zz4{Hh:Type}{enc:TypeId×Value→Hh}{P:Program}{w:World}{base:Nat}{spare:Nat→Bool}{l0:Bool}{S:List TypeId}(hS:ziC P S=true){t:TypeId}(ht:t∈S){v:Value}{d:DataW Hh}{p:List MemPlace}(hv:v.cells=#[v])(h:DataW.Trod enc P w base spare l0 t v d p):∃n a,zbW P n t [a]∧TRel w (G0 w) v a:=by
 obtain⟨n,hn⟩:=h;obtain⟨asx,h1,h2⟩:=zBu hS n t _ _ ht hn;rw[hv]at h1
 match asx,h1,h2 with
 |[a],h1,h2=>exact⟨n,a,h2,TRel.of_v (VRel.of_a (ARel.of_b (DRel.toB (G:=G0 w) h1.1)))⟩
section
variable {P:Program} {n:Nat} {t:TypeId} {l:List AV}
theorem ziQ{k:IntKind}(hu:P.underlying t=some (.int k))(h:zbW P n t l):∃m,l=[.int k m]∧(Lit.int k m).wf=true:=by
 cases n with
 |zero=>exact h.elim
 |succ n=>unfold zbW at h;rw[hu]at h;exact h
theorem zBF(hu:P.underlying t=some .string)(h:zbW P n t l):∃s,l=[.str s]∧s.length≤maxLen:=by
 cases n with
 |zero=>exact h.elim
 |succ n=>unfold zbW at h;rw[hu]at h;exact h
theorem ziR{e:TypeId}(hu:P.underlying t=some (.slice e))(h:zbW P n t l):∃es n',n'<n∧l=[.sl es .none]∧es.length≤maxLen∧∀c∈es,zbW P n' e c:=by
 cases n with
 |zero=>exact h.elim
 |succ n=>unfold zbW at h;rw[hu]at h;obtain⟨es,h1,h2,h3⟩:=h;exact⟨es,n,by omega,h1,h2,h3⟩
theorem zls{fs:Array Field}(hu:P.underlying t=some (.struct fs))(h:zbW P n t l):∃n',n'<n∧l.length=P.cellsOf t∧∀f∈fs.toList,zbW P n' f.type ((l.drop f.offset).take (P.cellsOf f.type)):=by
 cases n with
 |zero=>exact h.elim
 |succ n=>unfold zbW at h;rw[hu]at h;exact⟨n,by omega,h⟩
theorem zgJ{α:Type}{cs:α→List AV}:∀ {es:List (List AV)},(∀ c∈es,∃ x,c=cs x)→∃ xs:List α,es=xs.map cs
 |[],_=>⟨[],rfl⟩
 |e::es,h=>by obtain⟨x,hx⟩:=h e (by simp);obtain⟨xs,kQ⟩:=zgJ (es:=es) (λc hc=>h c (by simp[hc]));exact⟨x::xs,by simp[hx,kQ]⟩
end
end
end Go.Proofs.YtdmamdnkcefmmaaGreatDoor
