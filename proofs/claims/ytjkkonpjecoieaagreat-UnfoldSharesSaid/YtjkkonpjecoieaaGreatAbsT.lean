import Derived.Test.YtjkkonpjecoieaaGreatKMN
import Derived.Test.YtjkkonpjecoieaaGreatVT
import Derived.Deep.Slices
import Derived.DataReads
set_option linter.unusedSimpArgs false
set_option linter.unusedVariables false
namespace Go.Proofs.YtjkkonpjecoieaaGreat
open Go Go.Abs
set_option maxRecDepth 8000
theorem zOl (a:Int) (ha:Sm a) (H:zaa) (K:Kt) (hK:K (.int .i64 0) H):ACalls tP zpB [.agg (zak a),.agg (zak a)] H K:=by
 refine ACalls.out (zOk fun hs=>?_)
 simp[zA6,zak,Nat.add_assoc]
 refine zCi a a ha ha _ _ ?_
 have h0:Sm (0:Int):=by unfold Sm;decide
 rw[Int.sub_self]
 refine znq 0 h0 _ _ ?_
 exact Out.int rfl (Nat.le_refl _) hs hK
theorem zCY (data:List Dat) (hlen:data.length≤9223372036854775807) (t:VT) (iv jv:IT) (v:VT) (H:zaa) (K:Kt) (hK:K (.bool true) H) :
  ACalls tP zpF [.sl (data.map Dat.cs) .none,.agg t.cs,.agg iv.cs,.agg jv.cs,.agg v.cs] H K:=by
 refine ACalls.out (zPh fun hs=>?_)
 have hO:∀ J,Out H.length K (.bool true) (H++J):=fun J=>Out.bool rfl (Nat.le_refl _) hs hK
 obtain⟨x,y,z,hvx,hx,hy,hz⟩:=zaO t
 obtain⟨x2,y2,hvx2,hx2,hy2⟩:=zb2 iv
 obtain⟨x4,y4,hvx4,hx4,hy4⟩:=zb2 jv
 obtain⟨x3,y3,z3,hvx3,hx3,hy3,hz3⟩:=zaO v
 simp[zq3,hvx,hvx2,hvx3,hvx4,hx,hy,hz,hx2,hy2,hx3,hy3,hz3,hx4,hy4,Nat.add_assoc]
 rw[←hvx]
 refine zFY data hlen t _ _ fun b1 hb1=>?_
 cases b1 with
 | false=>simp;exact hO _
 | true=>
  obtain⟨hk,ht⟩:=hb1 rfl
  simp[Nat.add_assoc]
  rw[←hvx2]
  refine zyY iv _ _ fun b2 hb2=>?_
  cases b2 with
  | false=>simp;exact hO _
  | true=>
   have hiv:=hb2 rfl
   simp[Nat.add_assoc]
   rw[←hvx4]
   refine zyY jv _ _ fun b4 hb4=>?_
   cases b4 with
   | false=>simp;exact hO _
   | true=>
    have hjv:=hb4 rfl
    simp[Nat.add_assoc]
    rw[←hvx3]
    refine zIE v _ _ fun b3 hb3=>?_
    cases b3 with
    | false=>simp;exact hO _
    | true=>
     have hv:=hb3 rfl
     simp[hvx,hvx2,hvx3,hvx4,Nat.add_assoc]
     rw[←hvx3]
     refine zJs v.nodes v (Nat.le_refl _) (by omega) _ _ ?_
     by_cases h60:60<v.nodes
     ·have hb60:decide ((60:Int)<(v.nodes:Int))=true:=by simp;omega
      simp[hb60];exact hO _
     ·have hb60:decide ((60:Int)<(v.nodes:Int))=false:=by simp;omega
      obtain⟨k,n,ks⟩:=t
      by_cases h5:k=5
      ·subst h5
       have hTc:[x,y,z]=[.int .i64 5,.int .i64 n,.sl (VT.css ks) .none]:=by rw[←hvx];rfl
       simp only[List.cons.injEq,and_true]at hTc
       obtain⟨rfl,rfl,rfl⟩:=hTc
       simp[hb60,hvx2,hvx3,hvx4,VT.cs,Nat.add_assoc]
       rw[←hvx3]
       refine zzf data hk v (.mk 5 n ks) (by omega) (by omega) _ _ ?_
       cases hh:zc9 data v (.mk 5 n ks) with
       | false=>simp;exact hO _
       | true=>
        simp[hvx2,hvx3,hvx4,Nat.add_assoc]
        rw[←hvx2,←hvx4]
        obtain⟨hD,htv,hvv⟩:=zoK hh
        refine zN9 hk (.mk 5 n ks) (by omega) iv jv (by omega) (by omega) _ _ (fun e he=>?_) (fun hf hri hrj hr6=>?_)
        ·have he':(e != 0)=true:=by simpa using he
         simp[he',Nat.add_assoc]
         refine zvf _ _ ?_
         exact hO _
        ·have h8:=zgd hf
         obtain⟨R,hR⟩:∃ R,R=zbv data (iv.nodes+jv.nodes) (.mk 5 n ks) iv jv:=⟨_,rfl⟩
         obtain⟨R1,R2⟩:=(zdu h8 (iv.nodes+jv.nodes)).1 (.mk 5 n ks) iv jv (by omega) hri hrj hr6
         have hval:=(zyp h8 hk (iv.nodes+jv.nodes)).1 (.mk 5 n ks) iv jv v (by omega) hvv hri hrj
         rw[←hR]at R1 R2 hval ⊢
         replace R2:=Nat.le_trans R2 (zdL hr6)
         have R3:∀ p∈R,0≤rdV data p.1 (.mk 5 n ks)∧rdV data p.1 (.mk 5 n ks)≤6:=fun p hp=>by have:=R1 p hp;omega
         rw[←zE3 R3]at hval R2
         obtain⟨L,hL⟩:∃ L,L=zcm data (.mk 5 n ks) R 7:=⟨_,rfl⟩
         rw[←hL]at hval R2 ⊢
         have L1:∀ p∈L,0<p.2∧0≤zaS data (.mk 5 n ks) p.1∧rdV data p.1 (.mk 5 n ks)≤6∧p.1.nodes≤80:=fun p hp=>by
          rw[hL]at hp
          have:=R1 p (zE2 p hp)
          refine⟨this.1,?_,by omega,by omega⟩
          unfold zaS;rw[if_pos hf];exact this.2.1
         have Ll:=zeJ fun p hp=>(L1 p hp).1
         have hat:∀ p:IT,0≤zaS data (.mk 5 n ks) p→p.nodes≤80→atV data p (.mk 5 n ks) v≤1000 ^ 6:=fun p h1 h2=>
          AtOk.le h8 ⟨by omega,htv,by unfold zaS at h1;rw[if_pos hf]at h1;omega,hvv,by omega,by omega⟩
         have di:0≤zaS data (.mk 5 n ks) iv:=by unfold zaS;rw[if_pos hf];exact hri
         have dj:0≤zaS data (.mk 5 n ks) jv:=by unfold zaS;rw[if_pos hf];exact hrj
         have ai:=hat iv di (by omega)
         have aj:=hat jv dj (by omega)
         have aij:=Nat.mul_le_mul ai aj
         obtain⟨f,hf'⟩:∃ f:IT→Nat,f=fun x=>atV data x (.mk 5 n ks) v:=⟨_,rfl⟩
         rw[←hf']at hval
         have fi:f iv=atV data iv (.mk 5 n ks) v:=by rw[hf']
         have fj:f jv=atV data jv (.mk 5 n ks) v:=by rw[hf']
         rw[←fi]at ai aij
         rw[←fj]at aj aij
         have hval':zaG f L=f iv*f jv:=by rw[hval,fi,fj]
         have hvc:v.cs=[x3,y3,z3]:=hvx3
         have hTc:(VT.mk 5 n ks).cs=[.int .i64 5,.int .i64 n,.sl (VT.css ks) .none]:=rfl
         simp[hvx2,hvx3,hvx4,Nat.add_assoc]
         refine zcr 0 (by omega) _ _ ?_
         simp[Nat.add_assoc,zbU]
         rw[←hTc,←hvx2,←hvx3,←hvx4]
         have hbase:∀ z2:Int,HSc (H++[.cells (VT.mk 5 n ks).cs,.cells iv.cs,.cells jv.cs,.cells v.cs,.cells (zak z2)]):=fun z2=>hs.append (by
          obtain⟨i1,i2⟩:=iv
          obtain⟨j1,j2⟩:=jv
          obtain⟨v1,v2,v3⟩:=v
          simp[AB.sc,zak,AV.scA,AV.scB,VT.cs,IT.cs])
         refine zPf (Inv:=fun q t72 H'=>∃ k:Nat,k≤L.length∧L.length-k=q∧t72=.int .i64 k ∧
          H'=H++[.cells (VT.mk 5 n ks).cs,.cells iv.cs,.cells jv.cs,.cells v.cs,.cells (zak ((zaG f (L.take k):Nat):Int))]) L.length ?_ ?_
         ·intro _;exact⟨0,by omega,rfl,rfl,rfl⟩
         ·rintro q t72 H' ⟨k,hkl,rfl,rfl,rfl⟩ hsc8 hlen8 hsF8 Kb8 hKb8
          have hsle:=zfD f L k
          by_cases hlt:k<L.length
          ·obtain⟨l1,l2,l3,l4⟩:=L1 _ (List.getElem_mem hlt)
           have hc:=zeN (List.getElem_mem hlt)
           have hfa:=hat _ l2 l4
           have hstep:zaG f (L.take (k+1))=zaG f (L.take k)+L[k].2*f L[k].1:=by
            rw[List.take_succ_eq_append_getElem hlt,zfB,zcq,zcQ,Nat.add_zero]
           have hsle2:=zfD f L (k+1)
           have fk:f L[k].1=atV data L[k].1 (.mk 5 n ks) v:=by rw[hf']
           rw[←fk]at hfa
           obtain⟨u1,u2,hvu,hu1,hu2⟩:=zb2 L[k].1
           simp[zs9,hlt,zfE,zgD,zgE,hvx3,VT.cs,Nat.add_assoc]
           refine⟨zgF _,?_⟩
           rw[←hvx3,←hTc]
           refine zsO hk n ks (by omega) v (by omega) hh L[k].1 (by omega) l2 _ _ ?_
           rw[←fk]
           simp[Nat.add_assoc,zbU,zgE]
           have hl2:(L[k].2:Nat)≤1000 ^ 6:=Nat.le_trans (show L[k].2≤729 by omega) (by decide)
           have sA:Sm ((zaG f (L.take k):Nat):Int):=zcx (k:=12) (by omega) (by omega)
           have hprod:L[k].2*f L[k].1≤1000 ^ 12:=by omega
           refine zaH (.agg (zak ((L[k].2*f L[k].1:Nat):Int))) (fun J=>zdR _ _ (zcx hl2 (by omega)) (zcx hfa (by omega)) _ _ ⟨by rw[Int.natCast_mul],rfl⟩) ?_
           refine zaH (.agg (zak ((zaG f (L.take (k+1)):Nat):Int))) (fun J=>zio _ _ sA (zcx hprod (by omega)) _ _ ⟨by rw[hstep,Int.natCast_add],rfl⟩) ?_
           simp[Nat.add_assoc,zbU,wi k (by omega)]
           exact hKb8 _ _ ⟨L.length-(k+1),by omega,Back.at (J:=[.cells (tmC L[k]),.cells (zak (f L[k].1:Int))]) (H2:=H++[.cells (VT.mk 5 n ks).cs,.cells iv.cs,.cells jv.cs,.cells v.cs,.cells (zak ((zaG f (L.take (k+1)):Nat):Int))]) (by simp) (by simp) (hbase _) (by simp[zms,ux,AV.sc,AV.scA,AV.scB,AV.scV]) ⟨_,rfl,k+1,by omega,rfl,rfl,rfl⟩⟩
          ·obtain rfl:k=L.length:=by omega
           rw[List.take_length,hval']at *
           simp[zs9,hvx2,hvx3,hvx4,VT.cs,Nat.add_assoc]
           rw[←hvx2,←hvx3,←hTc]
           refine zsO hk n ks (by omega) v (by omega) hh iv (by omega) di _ _ ?_
           rw[←fi]
           simp[hvx3,hvx4,Nat.add_assoc,zbU,VT.cs]
           rw[←hvx3,←hvx4,←hTc]
           refine zsO hk n ks (by omega) v (by omega) hh jv (by omega) dj _ _ ?_
           rw[←fj]
           simp[Nat.add_assoc,zbU]
           refine zaH (.agg (zak ((f iv:Int)*(f jv:Int)))) (fun J=>zdR _ _ (zcx ai (by omega)) (zcx aj (by omega)) _ _ ⟨rfl,rfl⟩) ?_
           have hsp:Sm ((f iv:Int)*(f jv:Int)):=by
            rw[←Int.natCast_mul];exact zcx (k:=12) (by omega) (by omega)
           refine zaH (.int .i64 0) (fun J=>zOl _ hsp _ _ ⟨rfl,rfl⟩) ?_
           simp
           refine zaH (.bool true) (fun J=>zvf _ _ ⟨rfl,rfl⟩) ?_
           exact hO _
      ·have hb:(AV.int IntKind.i64 k)=x:=by
        have:(VT.mk k n ks).cs=[.int .i64 k,.int .i64 n,.sl (VT.css ks) .none]:=rfl
        rw[this]at hvx
        simp only[List.cons.injEq]at hvx
        exact hvx.1
       subst hb
       have hk5:(k != 5)=true:=by simpa using h5
       simp[hb60,hk5,Nat.add_assoc]
       exact hO _
end Go.Proofs.YtjkkonpjecoieaaGreat
namespace Go.Abs
open Go Go.RowKit

def zbF (P:Program):Nat→TypeId→List AV→Prop
 | 0,_,_=>False
 | n+1,t,asx=>match P.underlying t with
  | some .bool=>∃ b,asx=[.bool b]
  | some (.int k)=>∃ m,asx=[.int k m]∧(Lit.int k m).wf=true
  | some .string=>∃ s,asx=[.str s]∧s.length≤maxLen
  | some (.slice e)=>∃ es,asx=[.sl es .none]∧es.length≤maxLen∧∀ c∈es,zbF P n e c
  | some (.struct fs)=>asx.length=P.cellsOf t∧∀ f∈fs.toList,zbF P n f.type ((asx.drop f.offset).take (P.cellsOf f.type))
  | _=>False

def zeZ (P:Program):List Field→Nat→Nat→Bool
 | [],at_,n=>at_ == n
 | f::fs,at_,n=>f.offset == at_ && zeZ P fs (at_+P.cellsOf f.type) n
def zhX (P:Program) (S:List TypeId):Bool:=
 S.all fun t=>match P.underlying t with
  | some .bool | some (.int _) | some .string=>P.cellsOf t == 1
  | some (.slice e)=>S.contains e && decide (0<P.cellsOf e) && P.cellsOf t == 1
  | some (.struct fs)=>fs.toList.all (fun f=>S.contains f.type) && zeZ P fs.toList 0 (P.cellsOf t)
  | _=>false

section
variable {Hh:Type} {enc:TypeId × Value→Hh} {P:Program} {w:World} {base:Nat} {spare:Nat→Bool} {held:Bool}

theorem zx3 {R:Value→AV→Prop} {cs:List Value}:∀ (fs:List Field) (at_ n:Nat) (T:Field→List AV→Prop),zeZ P fs at_ n=true→cs.length=n →
  (∀ f∈fs,∃ asx,All2 R ((cs.drop f.offset).take (P.cellsOf f.type)) asx∧T f asx)→at_≤n →
  ∃ asx,All2 R (cs.drop at_) asx∧∀ f∈fs,T f ((asx.drop (f.offset-at_)).take (P.cellsOf f.type))∧at_≤f.offset
 | [],at_,n,T,ht,hl,hf,hle=>by
  simp[zeZ]at ht
  subst ht
  refine⟨[],?_,by simp⟩
  rw[List.drop_eq_nil_of_le (by omega)]
  trivial
 | f::fs,at_,n,T,ht,hl,hf,hle=>by
  simp only[zeZ,Bool.and_eq_true,beq_iff_eq]at ht
  obtain⟨h1,h2⟩:=ht
  have hbound:∀ (fs:List Field) (k n:Nat),zeZ P fs k n=true→k≤n:=by
   intro fs
   induction fs with
   | nil=>intro k n h;simp[zeZ]at h;omega
   | cons g gs ih=>intro k n h;simp only[zeZ,Bool.and_eq_true]at h;have:=ih _ _ h.2;omega
  have hb:=hbound fs _ _ h2
  obtain⟨as0,ha0,hT0⟩:=hf f (by simp)
  obtain⟨as1,ha1,hT1⟩:=zx3 fs (at_+P.cellsOf f.type) n T h2 hl (fun g hg=>hf g (by simp[hg])) hb
  have hl0:as0.length=P.cellsOf f.type:=by
   have:=ha0.length
   rw[List.length_take,List.length_drop]at this
   omega
  refine⟨as0++as1,?_,?_⟩
  ·have:cs.drop at_=(cs.drop f.offset).take (P.cellsOf f.type)++cs.drop (at_+P.cellsOf f.type):=by
    rw[h1,←List.drop_drop,List.take_append_drop]
   rw[this]
   exact ha0.append ha1
  ·intro g hg
   rcases List.mem_cons.1 hg with rfl | hg
   ·rw[h1,Nat.sub_self,List.drop_zero,←hl0,List.take_left]
    exact⟨hT0,Nat.le_refl _⟩
   ·obtain⟨k1,k2⟩:=hT1 g hg
    refine⟨?_,by omega⟩
    have:(as0++as1).drop (g.offset-at_)=as1.drop (g.offset-(at_+P.cellsOf f.type)):=by
     rw[List.drop_append,List.drop_eq_nil_of_le (by omega),List.nil_append]
     congr 1
     omega
    rw[this]
    exact k1

theorem ziU {a:Addr} {n:Nat} {cs:List Value} (h:w.cells? base a n=some cs):cs.length=n∧∀ j v,cs[j]?=some v→w.cell? (a.add j)=some v:=by
 unfold World.cells? at h
 split at h
 ·have h1:=mapM_some_length h
  refine⟨by simpa using h1,fun j v hj=>?_⟩
  have hjn:j<n:=by
   have:=(List.getElem?_eq_some_iff.1 hj).1
   simp at h1
   omega
  have:=mapM_some_get h j j (by simp[hjn])
  rw[this]
  exact hj
 ·cases h

theorem zEv {b o:Nat} {v:Value} (h:w.cell? ⟨b,o,none⟩=some v):o<zci w b:=by
 unfold World.cell? at h
 unfold zci
 split at h
 ·rename_i c t fr hb
  simp only[hb]
  simp at h
  exact (Array.getElem?_eq_some_iff.1 h).1
 ·cases h

theorem zx9 {S:List TypeId} (hS:zhX P S=true):∀ (n:Nat) (t:TypeId) (cs:List Value) (x:DataW Hh × List MemPlace),t∈S→DataW.trod enc P w base spare held n t cs=some x →
  ∃ asx,All2 (DRel w (zci w)) cs asx∧zbF P n t asx:=by
 intro n
 induction n with
 | zero=>intro t cs x _ h;simp[DataW.trod]at h
 | succ n ih=>
  intro t cs x ht h
  have hp:=List.all_eq_true.1 hS t ht
  unfold zbF
  cases hu:P.underlying t with
  | none=>simp[hu]at hp
  | some d=>
   rw[hu]at hp
   cases d <;> simp only[]at hp <;> try (cases hp;done)
   case bool=>
    obtain⟨b,rfl,_⟩:=DataW.trod_bool hu h
    exact⟨[.bool b],⟨.bool b,trivial⟩,b,rfl⟩
   case int k=>
    obtain⟨m,rfl,_,hw⟩:=DataW.trod_int hu h
    exact⟨[.int k m],⟨.int k m,trivial⟩,m,rfl,hw⟩
   case string=>
    obtain⟨s,rfl,_,hw⟩:=DataW.trod_string hu h
    have hs:(⟨s.data.toList.toArray⟩:ByteArray)=s:=by simp
    refine⟨[.str s.data.toList],⟨?_,trivial⟩,s.data.toList,rfl,by rw[Array.length_toList];exact hw⟩
    have:=DRel.str (w:=w) (L:=zci w) s.data.toList
    rwa [hs]at this
   case slice e=>
    simp only[Bool.and_eq_true,decide_eq_true_eq]at hp
    obtain⟨⟨he,hpos⟩,_⟩:=hp
    have he:e∈S:=by simpa using he
    rcases DataW.trod_slice hu h with ⟨rfl,_⟩ | ⟨a,len,cap,elems,rest,n',hn,rfl,_,hb,hl,hm,hlen,hel,_⟩
    ·exact⟨[.sl [] .none],⟨.slE _ _,trivial⟩,[],rfl,by simp,by simp⟩
    ·obtain rfl:n=n':=by omega
     have hat:∀ i,i<len→∃ cs asx,w.cells? base (a.add (i*P.cellsOf e)) (P.cellsOf e)=some cs∧All2 (DRel w (zci w)) cs asx∧zbF P n e asx:=by
      intro i hi
      have h1:=hel i hi
      rw[List.getElem?_eq_getElem (by omega)]at h1
      cases hc:w.cells? base (a.add (i*P.cellsOf e)) (P.cellsOf e) with
      | none=>rw[hc]at h1;cases h1
      | some cs=>
       rw[hc]at h1
       obtain⟨asx,h2,h3⟩:=ih e cs _ he h1
       exact⟨cs,asx,rfl,h2,h3⟩
     by_cases h0:len=0
     ·subst h0
      exact⟨[.sl [] .none],⟨.slE _ _,trivial⟩,[],rfl,by simp,by simp⟩
     ·-- the address is a zaF one
      have hspot:a.spot=none:=by
       obtain⟨cs,asx,h1,h2,_⟩:=hat 0 (by omega)
       obtain⟨h3,h4⟩:=ziU h1
       have h5:=h4 0 cs[0] (by simp)
       have:=World.cell?_spot h5
       simpa[Addr.add]using this
      obtain⟨b,off,sp⟩:=a
      simp only at hspot
      subst hspot
      obtain⟨f,hf⟩:∃ f:Nat→List Value × List AV,∀ i,i<len→w.cells? base ((⟨b,off,none⟩:Addr).add (i*P.cellsOf e)) (P.cellsOf e)=some (f i).1∧All2 (DRel w (zci w)) (f i).1 (f i).2∧zbF P n e (f i).2:=
       Deep.choose_lt (p:=fun i (y:List Value × List AV)=>w.cells? base ((⟨b,off,none⟩:Addr).add (i*P.cellsOf e)) (P.cellsOf e)=some y.1∧All2 (DRel w (zci w)) y.1 y.2∧zbF P n e y.2)
        (fun i hi=>by obtain⟨cs,asx,h1,h2,h3⟩:=hat i hi;exact⟨(cs,asx),h1,h2,h3⟩)
      have hcell:∀ i,i<len→∀ j v,(f i).1[j]?=some v→w.cell? ⟨b,off+i*P.cellsOf e+j,none⟩=some v:=by
       intro i hi j v hj
       have:=(ziU (hf i hi).1).2 j v hj
       rw[add_lit,add_lit]at this
       exact this
      have hlen2:∀ i,i<len→(f i).2.length=P.cellsOf e:=fun i hi=>by
       rw[←(hf i hi).2.1.length];exact (ziU (hf i hi).1).1
      refine⟨[.sl ((List.range len).map fun i=>(f i).2) .none],⟨?_,trivial⟩,_,rfl,by simp;omega,?_⟩
      ·have:=DRel.sl (w:=w) (L:=zci w) b off cap (P.cellsOf e) ((List.range len).map fun i=>(f i).2) (fun i j=>(f i).1.getD j undef) (by simp;exact h0) (by simpa using hl) ?_ ?_ ?_ ?_
       ·simpa using this
       ·-- the last cell is there
        have hi:len-1<len:=by omega
        have hj:P.cellsOf e-1<(f (len-1)).1.length:=by rw[(ziU (hf _ hi).1).1];omega
        have:=zEv (hcell (len-1) hi (P.cellsOf e-1) _ (List.getElem?_eq_getElem hj))
        have hmul:(len-1)*P.cellsOf e+P.cellsOf e=len*P.cellsOf e:=by
         rw[←Nat.succ_mul];congr 1;omega
        simp
        omega
       ·intro i hi
        simp at hi
        simpa using hlen2 i hi
       ·intro i j hi hj
        simp at hi hj
        have hjl:j<(f i).1.length:=by rw[(hf i hi).2.1.length];exact hj
        simp only[List.getD_eq_getElem?_getD,List.getElem?_eq_getElem hjl,Option.getD_some]
        exact hcell i hi j _ (List.getElem?_eq_getElem hjl)
       ·intro i j hi hj
        simp at hi hj
        have hjl:j<(f i).1.length:=by rw[(hf i hi).2.1.length];exact hj
        obtain⟨c,h1,h2⟩:=(hf i hi).2.1.get' (List.getElem?_eq_getElem hjl)
        simp only[List.getD_eq_getElem?_getD,List.getElem?_eq_getElem hjl,Option.getD_some,List.getElem_map,List.getElem_range]
        have:(f i).2[j]=c:=by rw[List.getElem?_eq_getElem hj]at h1;exact Option.some.inj h1
        rw[this]
        exact h2
      ·intro c hc
       obtain⟨i,hi,rfl⟩:=List.mem_map.1 hc
       exact (hf i (by simpa using hi)).2.2
   case struct fs=>
    simp only[Bool.and_eq_true]at hp
    obtain⟨hfs,htile⟩:=hp
    obtain⟨xs,n',hn,_,hcl,hxl,hat⟩:=DataW.trod_struct hu h
    obtain rfl:n=n':=by omega
    obtain⟨asx,h1,h2⟩:=zx3 (P:=P) (R:=DRel w (zci w)) (cs:=cs) fs.toList 0 (P.cellsOf t) (fun f asx=>zbF P n f.type asx) htile hcl (fun f hf=>by
     obtain⟨i,hi⟩:=List.mem_iff_getElem?.1 hf
     have hi':fs[i]?=some f:=by simpa using hi
     have h3:=hat i f hi'
     have hlt:i<xs.length:=by rw[hxl];exact (Array.getElem?_eq_some_iff.1 hi').1
     rw[List.getElem?_eq_getElem hlt]at h3
     exact ih f.type _ _ (by simpa using List.all_eq_true.1 hfs f hf) h3) (Nat.zero_le _)
    rw[List.drop_zero]at h1
    refine⟨asx,h1,by rw[←h1.length];exact hcl,fun f hf=>?_⟩
    simpa using (h2 f hf).1
end

theorem zj1 {Hh:Type} {enc:TypeId × Value→Hh} {P:Program} {w:World} {base:Nat} {spare:Nat→Bool} {held:Bool} {S:List TypeId} (hS:zhX P S=true) {t:TypeId} (ht:t∈S) {cs:Array Value} {d:DataW Hh} {p:List MemPlace}
  (h:DataW.Trod enc P w base spare held t (.agg cs) d p):∃ n asx,zbF P n t asx∧TRel w (G0 w) (.agg cs) (.agg asx):=by
 obtain⟨n,hn⟩:=h
 obtain⟨asx,h1,h2⟩:=zx9 hS n t _ _ ht hn
 exact⟨n,asx,h2,cs,rfl,h1.mono fun _ _ hd=>ARel.of_b (DRel.toB (G:=G0 w) hd)⟩
theorem zE7 {Hh:Type} {enc:TypeId × Value→Hh} {P:Program} {w:World} {base:Nat} {spare:Nat→Bool} {held:Bool} {S:List TypeId} (hS:zhX P S=true) {t:TypeId} (ht:t∈S) {v:Value} {d:DataW Hh} {p:List MemPlace} (hv:v.cells=#[v])
  (h:DataW.Trod enc P w base spare held t v d p):∃ n a,zbF P n t [a]∧TRel w (G0 w) v a:=by
 obtain⟨n,hn⟩:=h
 obtain⟨asx,h1,h2⟩:=zx9 hS n t _ _ ht hn
 rw[hv]at h1
 match asx,h1,h2 with
 | [a],h1,h2=>exact⟨n,a,h2,TRel.of_v (VRel.of_a (ARel.of_b (DRel.toB (G:=G0 w) h1.1)))⟩
section
variable {P:Program} {n:Nat} {t:TypeId} {l:List AV}
theorem zgH {k:IntKind} (hu:P.underlying t=some (.int k)) (h:zbF P n t l):∃ m,l=[.int k m]∧(Lit.int k m).wf=true:=by
 cases n with
 | zero=>exact h.elim
 | succ n=>unfold zbF at h;rw[hu]at h;exact h
theorem zyj (hu:P.underlying t=some .string) (h:zbF P n t l):∃ s,l=[.str s]∧s.length≤maxLen:=by
 cases n with
 | zero=>exact h.elim
 | succ n=>unfold zbF at h;rw[hu]at h;exact h
theorem zgI {e:TypeId} (hu:P.underlying t=some (.slice e)) (h:zbF P n t l):∃ es n',n'<n∧l=[.sl es .none]∧es.length≤maxLen∧∀ c∈es,zbF P n' e c:=by
 cases n with
 | zero=>exact h.elim
 | succ n=>unfold zbF at h;rw[hu]at h;obtain⟨es,h1,h2,h3⟩:=h;exact⟨es,n,by omega,h1,h2,h3⟩
theorem zic {fs:Array Field} (hu:P.underlying t=some (.struct fs)) (h:zbF P n t l):∃ n',n'<n∧l.length=P.cellsOf t∧∀ f∈fs.toList,zbF P n' f.type ((l.drop f.offset).take (P.cellsOf f.type)):=by
 cases n with
 | zero=>exact h.elim
 | succ n=>unfold zbF at h;rw[hu]at h;exact⟨n,by omega,h⟩
theorem zfq {α:Type} {cs:α→List AV}:∀ {es:List (List AV)},(∀ c∈es,∃ x,c=cs x)→∃ xs:List α,es=xs.map cs
 | [],_=>⟨[],rfl⟩
 | e::es,h=>by
  obtain⟨x,hx⟩:=h e (by simp)
  obtain⟨xs,hxs⟩:=zfq (es:=es) (fun c hc=>h c (by simp[hc]))
  exact⟨x::xs,by simp[hx,hxs]⟩
end
end Go.Abs
