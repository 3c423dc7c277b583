import Derived.Test.YtaifokkaaahdoaaGreatDoorKGLA
import Derived.Test.YtaifokkaaahdoaaGreatDoorAbsU
import Derived.Deep.Slices
import Derived.DataReads
set_option linter.unusedSectionVars false
set_option linter.unusedSimpArgs false
set_option linter.unusedVariables false
set_option maxRecDepth 8000
namespace Go.Proofs.YtaifokkaaahdoaaGreatDoor
open Go Go.Abs
theorem zgy{n:Nat}(h:n<1000000000 ^ 30):Sm (n:Int):=by unfold Sm;rwa [Int.natAbs_natCast]
theorem zya(a b:Nat)(ha:a<1000000000 ^ 30)(hb:b<1000000000 ^ 30)(H:zaa)(K:Kt)(hK:K (.int .i64 ((a:Int)-b).sign) H):ACalls tP zji [.agg (zav a),.agg (zav b)] H K:=by refine ACalls.out (zI5 λhs=>?_);simp only[zx5,zcv];simp;rw[←zcv,←zcv];refine zMe a b (zgy ha) (zgy hb) _ _ ?_;refine zL4 _ (by unfold Sm;omega) _ _ ?_;exact Out.int rfl (Nat.le_refl _) hs hK
theorem zBZ(g:VT→Nat→Nat)(t u:VT)(n:Nat)(h0:g u 0=0):cL g [t,u] n=sm (n+1) λs=>g t s*g u (n-s):=by rw[cL];exact zb2 λs _=>by rw[znu _ _ _ h0]
theorem zEC{a b:Nat}(h:a≤b)(f:Nat→Nat):sm a f≤sm b f:=by
 induction b with
 |zero=>
  obtain rfl:a=0:=by omega
  exact Nat.le_refl _
 |succ b ih=>
  by_cases e:a=b+1
  ·subst e;exact Nat.le_refl _
  ·have:=ih (by omega);rw[sm];omega
theorem ztT{data:List Dat}(hT:∀D∈data,∀c∈D.cons,∀x∈c.args,za1 x)(hk:Kpt data):zcY data:=λD hD=>by obtain⟨h1,h2⟩:=hk D hD;exact⟨by omega,λc hc=>⟨by have:=h2 c hc;omega,hT D hD c hc⟩⟩
theorem zoV{data:List Dat}{t:VT}{n k:Int}(hf:zbW data t=true)(hn:0≤n)(hn2:n≤24)(hk:0≤k)(hk2:k≤8):zdb data t n k=0:=by unfold zdb;rw[if_neg (by rw[hf];decide),if_neg (by omega)]
theorem zA5(data:List Dat)(hl:data.length≤9223372036854775807)(hT:∀ D∈data,∀ c∈D.cons,∀ x∈c.args,za1 x)(t:VT)(ht:za1 t)(u:VT)(hu:za1 u)(n:Int)(xs:List Int)(H:zaa)(h0:H[0]?=some .nodr)(K:Kt)(hK:K (.bool true) H):
  ACalls tP zoC [.sl (data.map Dat.cs) .none,.agg t.cs,.agg u.cs,.int .i64 n,.sl (ints xs) .none] H K:=by
 refine ACalls.out (zL9 λhs=>?_);have hlt0:0<H.length:=(List.getElem?_eq_some_iff.1 h0).1;have hO:∀J,Out H.length K (.bool true) (H++J):=λJ=>Out.bool rfl (Nat.le_refl _) hs hK;obtain⟨x,y,z,hvx,hx,hy,hz⟩:=zaO t;obtain⟨x2,y2,z2,hvx2,hx2,hy2,hz2⟩:=zaO u;simp only[zq3];simp[hvx,hvx2];obtain⟨A,hA⟩:∃A,A=H++[AB.cells t.cs,AB.cells u.cs]:=⟨_,rfl⟩;have hAl:A.length=H.length+2:=by rw[hA];simp
 have hAs:HSc A:=by rw[hA];exact hs.append (by simp[AB.sc])
 have g0:∀J:zaa,(A++J)[0]?=some .nodr:=λJ=>by rw[hA,List.append_assoc,List.getElem?_append_left hlt0];exact h0
 have g0':A[0]?=some .nodr:=by have:=g0 [];rwa [List.append_nil]at this
 have gt:∀J:zaa,(A++J)[H.length]?=some (.cells t.cs):=λJ=>by rw[hA];simp
 have gu:∀J:zaa,(A++J)[H.length+1]?=some (.cells u.cs):=λJ=>by rw[hA];simp[List.getElem?_append]
 have gt':A[H.length]?=some (.cells t.cs):=by have:=gt [];rwa [List.append_nil]at this
 have gu':A[H.length+1]?=some (.cells u.cs):=by have:=gu [];rwa [List.append_nil]at this
 rw[←hvx,←hvx2,←hA];have hOA:∀J,Out H.length K (.bool true) (A++J):=λJ=>by rw[hA,List.append_assoc];exact hO _
 have hOA0:Out H.length K (.bool true) A:=by have:=hOA [];rwa [List.append_nil]at this
 have bS:∀k:AV→Prop,zar 3 [.int .i64 0,.int .i64 0,.snil] 2 [(0,.agg t.cs),(1,.agg u.cs)] k=k (.sl [t.cs,u.cs] .full):=λk=>by obtain⟨k1,n1,ks1⟩:=t;obtain⟨k2,n2,ks2⟩:=u;exact propext Iff.rfl
 refine zzU _ g0' _ ?_;simp[gt',gu'];rw[bS];refine ACalls.wk (args':=[.sl (data.map Dat.cs) .none,.sl (VT.css [t,u]) .none,.int .i64 n,.sl (ints xs) .none]) ?_ ⟨.atom (.refl _),.atom (.sl _ _),.atom (.refl _),.atom (.refl _),trivial⟩;refine zAp data hl [t,u] (by simp) (by simp[ht,hu]) n xs _ _ λb hb=>?_;cases b with
 |false=>simp;exact hOA0
 |true=>
  obtain⟨hd2,hn9,hx9,hk⟩:=hb rfl;have hF:=ztT hT hk;simp[gt',gu'];rw[bS];refine ACalls.wk (args':=[.sl (data.map Dat.cs) .none,.sl (VT.css [t,u]) .none,.int .i64 n,.sl (ints xs) .none]) ?_ ⟨.atom (.refl _),.atom (.sl _ _),.atom (.refl _),.atom (.refl _),trivial⟩;refine zyi hF (by omega) hk [t,u] (by simp) (by simp) (by simp[ht,hu]) xs (by omega) n (by omega) _ g0' _ (λhe=>?_) (λhe L hp _=>?_)
  ·have hb:(zbA data [t,u] n xs != 0)=true:=by simpa using he
   simp[hb];exact hOA0
  ·obtain⟨_,hff,hn0,_,hix,hcl⟩:=zn0 he;have hft:=hff t (by simp);have hfu:=hff u (by simp);obtain⟨N,rfl⟩:∃ N:Nat,n=N:=⟨n.toNat,by omega⟩;have htn:((N:Int)).toNat=N:=by omega
   rw[htn]at hp hcl;have hx8:=hix.1;obtain⟨kk,hkk⟩:∃kk,kk=xs.length:=⟨_,rfl⟩;rw[←hkk]at hx8 hcl;obtain⟨f,hf⟩:∃f:Nat→Nat,f=λs=>cV data kk t s*cV data kk u (N-s):=⟨_,rfl⟩;have htot:sm (N+1) f=cL (cV data kk) [t,u] N:=by rw[hf,zBZ _ _ _ _ (zbF data kk u)]
   have hLl:L.length=sm (N+1) f:=by rw[hp.length_eq,htot,hkk];exact zhl (zbF data xs.length) [t,u] N λt _ s _=>zdZ data xs s t
   have hpart:∀m,m≤N+1→sm m f≤2000:=λm hm=>by have:=zEC hm f;omega
   simp;refine zqO 0 (by omega) _ _ ?_;have e0:zav ((0:Nat):Int)=zal (some 0):=rfl;have rN:∀n:Nat,zav (n:Int)=zal (some n):=λn=>rfl;simp only[rN,zrO];have hset0:∀o o':Option Nat,(A++[AB.cells (zal o)]).set A.length (.cells (zal o'))=A++[.cells (zal o')]:=λo o'=>by rw[List.set_append_right _ _ (Nat.le_refl _)];simp
   simp;have hGs:∀o,HSc (A++[AB.cells (zal o)]):=λo=>hAs.snoc (by cases o <;> simp[AB.sc,zal,zav,AV.scA,AV.scB]);refine zL7 (Inv:=λq t14 H'=>∃m:Nat,m≤N+1∧N+1-m=q∧t14=.int .i64 m∧H'=A++[.cells (zal (some (sm m f)))]) (N+1) ?_ ?_
   ·intro _;exact⟨0,by omega,rfl,rfl,rfl⟩
   ·rintro q t14 H' ⟨m,hm,rfl,rfl,rfl⟩ hsc hlen hsF Kb hKb;have hp1:=hpart m hm;by_cases hle:m≤N
    ·have hle':(m:Int)≤N:=by omega
     have hw:IntKind.i64.wrap ((N:Int)-(m:Int))=((N-m:Nat):Int):=by rw[zaB (by omega) (by omega)];omega
     have ga:∀J:zaa,(A++(AB.cells (zal (some (sm m f)))::J))[A.length]?=some (.cells (zal (some (sm m f)))):=λJ=>by simp
     have nt:=zoV (k:=kk) hft (show (0:Int)≤m by omega) (by omega) (by omega) (by omega);have nu:=zoV (k:=kk) hfu (show (0:Int)≤((N-m:Nat):Int) by omega) (by omega) (by omega) (by omega);have rt:zcQ data t (m:Int) kk=zal (some (cV data kk t m)):=by unfold zcQ;rw[if_pos nt];rfl
     have ru:zcQ data u ((N-m:Nat):Int) kk=zal (some (cV data kk u (N-m))):=by unfold zcQ;rw[if_pos nu];rfl
     have hp2:=hpart (m+1) (by omega);have hfm:cV data kk t m*cV data kk u (N-m)=f m:=by rw[hf]
     rw[sm]at hp2;simp[zrl,hle',gt,gu,zdp];rw[←hkk];refine zqb hF (by omega) hk t ht m kk (by omega) _ (g0 _) _ ?_;rw[nt,rt];simp only[zrO];simp[gt,gu,hw];refine zqb hF (by omega) hk u hu ((N-m:Nat):Int) kk (by omega) _ (g0 _) _ ?_;rw[nu,ru];have ga1:∀(a b c:AB),(A++[a,b,c])[A.length]?=some a:=λa b c=>by simp
     have ga2:∀(a b c:AB),(A++[a,b,c])[A.length+1]?=some b:=λa b c=>by simp[List.getElem?_append]
     have ga3:∀(a b c:AB),(A++[a,b,c])[A.length+2]?=some c:=λa b c=>by simp[List.getElem?_append]
     have b1:cV data kk t m<1000000000 ^ 30:=zeG hk hx8 t (by omega);have b2:cV data kk u (N-m)<1000000000 ^ 30:=zeG hk hx8 u (by omega);have big:(1000000:Nat)<1000000000 ^ 30:=by decide
     simp[ga1,ga2,ga3,Nat.add_assoc];refine zaC _ (λJ=>zKb (cV data kk t m:Nat) (cV data kk u (N-m):Nat) (zgy b1) (zgy b2) _ _ ⟨rfl,rfl⟩) ?_;rw[←Int.natCast_mul,hfm];refine zaC _ (λJ=>zyq (sm m f:Nat) (f m:Nat) (zgy (by omega)) (zgy (by omega)) _ _ ⟨rfl,rfl⟩) ?_;rw[←Int.natCast_add,rN];simp[ga1];rw[wr (by omega)];refine hKb _ _ ⟨N+1-(m+1),by omega,Back.at (H2:=A++[AB.cells (zal (some (sm m f+f m)))]) (J:=[.cells (zal (some (cV data kk t m))),.cells (zal (some (cV data kk u (N-m))))]) (by simp) (by simp) (hGs _) ?_ ⟨_,rfl,m+1,by omega,rfl,rfl,rfl⟩⟩;simp[zlO,ux,AV.sc,AV.scA,AV.scB,AV.scV,hAl];omega
    ·have hle':¬ (m:Int)≤N:=by omega
     have hm1:m=N+1:=by omega
     have big:(1000000:Nat)<1000000000 ^ 30:=by decide
     simp only[zrl];simp[hle'];rw[hm1];refine zaC _ (λJ=>zqO L.length (by omega) _ _ ⟨rfl,rfl⟩) ?_;refine zaC _ (λJ=>zya (sm (N+1) f) L.length (by omega) (by omega) _ _ ⟨rfl,rfl⟩) ?_;rw[hLl];simp;exact hOA _
end Go.Proofs.YtaifokkaaahdoaaGreatDoor
namespace Go.Abs
open Go Go.RowKit

def zbv(P:Program):Nat→TypeId→List AV→Prop
 |0,_,_=>False
 | n+1,t,asx=>match P.underlying t with
  |some .bool=>∃b,asx=[.bool b]
  |some (.int k)=>∃m,asx=[.int k m]∧(Lit.int k m).wf=true
  |some .string=>∃s,asx=[.str s]∧s.length≤maxLen
  |some (.slice e)=>∃es,asx=[.sl es .none]∧es.length≤maxLen∧∀c∈es,zbv P n e c
  |some (.struct fs)=>asx.length=P.cellsOf t∧∀f∈fs.toList,zbv P n f.type ((asx.drop f.offset).take (P.cellsOf f.type))
  |_=>False

def ze6(P:Program):List Field→Nat→Nat→Bool
 |[],at_,n=>at_ == n
 |f::fs,at_,n=>f.offset == at_ && ze6 P fs (at_+P.cellsOf f.type) n
def zjY(P:Program)(S:List TypeId):Bool:=
 S.all λt=>match P.underlying t with
  |some .bool|some (.int _)|some .string=>P.cellsOf t == 1
  |some (.slice e)=>S.contains e && decide (0<P.cellsOf e) && P.cellsOf t == 1
  |some (.struct fs)=>fs.toList.all (λf=>S.contains f.type) && ze6 P fs.toList 0 (P.cellsOf t)
  |_=>false

section
variable {Hh:Type} {enc:TypeId×Value→Hh} {P:Program} {w:World} {base:Nat} {spare:Nat→Bool} {held:Bool}

theorem zws{R:Value→AV→Prop}{cs:List Value}:∀ (fs:List Field) (at_ n:Nat) (T:Field→List AV→Prop),ze6 P fs at_ n=true→cs.length=n →
  (∀f∈fs,∃asx,All2 R ((cs.drop f.offset).take (P.cellsOf f.type)) asx∧T f asx)→at_≤n →
  ∃asx,All2 R (cs.drop at_) asx∧∀f∈fs,T f ((asx.drop (f.offset-at_)).take (P.cellsOf f.type))∧at_≤f.offset
 |[],at_,n,T,ht,hl,hf,hle=>by simp[ze6]at ht;subst ht;refine⟨[],?_,by simp⟩;rw[List.drop_eq_nil_of_le (by omega)];trivial
 |f::fs,at_,n,T,ht,hl,hf,hle=>by
  simp only[ze6,Bool.and_eq_true,beq_iff_eq]at ht;obtain⟨h1,h2⟩:=ht;have hbound:∀(fs:List Field) (k n:Nat),ze6 P fs k n=true→k≤n:=by
   intro fs;induction fs with
   |nil=>intro k n h;simp[ze6]at h;omega
   |cons g gs ih=>intro k n h;simp only[ze6,Bool.and_eq_true]at h;have:=ih _ _ h.2;omega
  have hb:=hbound fs _ _ h2;obtain⟨as0,ha0,hT0⟩:=hf f (by simp);obtain⟨as1,ha1,hT1⟩:=zws fs (at_+P.cellsOf f.type) n T h2 hl (λg hg=>hf g (by simp[hg])) hb;have hl0:as0.length=P.cellsOf f.type:=by have:=ha0.length;rw[List.length_take,List.length_drop]at this;omega
  refine⟨as0++as1,?_,?_⟩
  ·have:cs.drop at_=(cs.drop f.offset).take (P.cellsOf f.type)++cs.drop (at_+P.cellsOf f.type):=by rw[h1,←List.drop_drop,List.take_append_drop]
   rw[this];exact ha0.append ha1
  ·intro g hg;rcases List.mem_cons.1 hg with rfl | hg
   ·rw[h1,Nat.sub_self,List.drop_zero,←hl0,List.take_left];exact⟨hT0,Nat.le_refl _⟩
   ·obtain⟨k1,k2⟩:=hT1 g hg;refine⟨?_,by omega⟩;have:(as0++as1).drop (g.offset-at_)=as1.drop (g.offset-(at_+P.cellsOf f.type)):=by rw[List.drop_append,List.drop_eq_nil_of_le (by omega),List.nil_append];congr 1;omega
    rw[this];exact k1

theorem ziK{a:Addr}{n:Nat}{cs:List Value}(h:w.cells? base a n=some cs):cs.length=n∧∀j v,cs[j]?=some v→w.cell? (a.add j)=some v:=by
 unfold World.cells? at h;split at h
 ·have h1:=mapM_some_length h;refine⟨by simpa using h1,λj v hj=>?_⟩;have hjn:j<n:=by have:=(List.getElem?_eq_some_iff.1 hj).1;simp at h1;omega
  have:=mapM_some_get h j j (by simp[hjn]);rw[this];exact hj
 ·cases h

theorem zC5{b o:Nat}{v:Value}(h:w.cell? ⟨b,o,none⟩=some v):o<zcm w b:=by
 unfold World.cell? at h;unfold zcm;split at h
 ·rename_i c t fr hb;simp only[hb];simp at h;exact(Array.getElem?_eq_some_iff.1 h).1
 ·cases h

theorem zww{S:List TypeId}(hS:zjY P S=true):∀ (n:Nat) (t:TypeId) (cs:List Value) (x:DataW Hh × List MemPlace),t∈S→DataW.trod enc P w base spare held n t cs=some x →
  ∃asx,All2 (DRel w (zcm w)) cs asx∧zbv P n t asx:=by
 intro n;induction n with
 |zero=>intro t cs x _ h;simp[DataW.trod]at h
 |succ n ih=>
  intro t cs x ht h;have hp:=List.all_eq_true.1 hS t ht;unfold zbv;cases hu:P.underlying t with
  |none=>simp[hu]at hp
  |some d=>
   rw[hu]at hp;cases d <;> simp only[]at hp <;> try (cases hp;done)
   case bool=>obtain⟨b,rfl,_⟩:=DataW.trod_bool hu h;exact⟨[.bool b],⟨.bool b,trivial⟩,b,rfl⟩
   case int k=>obtain⟨m,rfl,_,hw⟩:=DataW.trod_int hu h;exact⟨[.int k m],⟨.int k m,trivial⟩,m,rfl,hw⟩
   case string=>
    obtain⟨s,rfl,_,hw⟩:=DataW.trod_string hu h;have hs:(⟨s.data.toList.toArray⟩:ByteArray)=s:=by simp
    refine⟨[.str s.data.toList],⟨?_,trivial⟩,s.data.toList,rfl,by rw[Array.length_toList];exact hw⟩;have:=DRel.str (w:=w) (L:=zcm w) s.data.toList;rwa [hs]at this
   case slice e=>
    simp only[Bool.and_eq_true,decide_eq_true_eq]at hp;obtain⟨⟨he,hpos⟩,_⟩:=hp;have he:e∈S:=by simpa using he
    rcases DataW.trod_slice hu h with ⟨rfl,_⟩|⟨a,len,cap,elems,rest,n',hn,rfl,_,hb,hl,hm,hlen,hel,_⟩
    ·exact⟨[.sl [] .none],⟨.slE _ _,trivial⟩,[],rfl,by simp,by simp⟩
    ·obtain rfl:n=n':=by omega
     have hat:∀i,i<len→∃cs asx,w.cells? base (a.add (i*P.cellsOf e)) (P.cellsOf e)=some cs∧All2 (DRel w (zcm w)) cs asx∧zbv P n e asx:=by
      intro i hi;have h1:=hel i hi;rw[List.getElem?_eq_getElem (by omega)]at h1;cases hc:w.cells? base (a.add (i*P.cellsOf e)) (P.cellsOf e) with
      |none=>rw[hc]at h1;cases h1
      |some cs=>rw[hc]at h1;obtain⟨asx,h2,h3⟩:=ih e cs _ he h1;exact⟨cs,asx,rfl,h2,h3⟩
     by_cases h0:len=0
     ·subst h0;exact⟨[.sl [] .none],⟨.slE _ _,trivial⟩,[],rfl,by simp,by simp⟩
     ·-- the address is a plain one
      have hspot:a.spot=none:=by obtain⟨cs,asx,h1,h2,_⟩:=hat 0 (by omega);obtain⟨h3,h4⟩:=ziK h1;have h5:=h4 0 cs[0] (by simp);have:=World.cell?_spot h5;simpa[Addr.add]using this
      obtain⟨b,off,sp⟩:=a;simp only at hspot;subst hspot;obtain⟨f,hf⟩:∃f:Nat→List Value×List AV,∀i,i<len→w.cells? base ((⟨b,off,none⟩:Addr).add (i*P.cellsOf e)) (P.cellsOf e)=some (f i).1∧All2 (DRel w (zcm w)) (f i).1 (f i).2∧zbv P n e (f i).2:=
       Deep.choose_lt (p:=λi (y:List Value × List AV)=>w.cells? base ((⟨b,off,none⟩:Addr).add (i*P.cellsOf e)) (P.cellsOf e)=some y.1∧All2 (DRel w (zcm w)) y.1 y.2∧zbv P n e y.2)
        (λi hi=>by obtain⟨cs,asx,h1,h2,h3⟩:=hat i hi;exact⟨(cs,asx),h1,h2,h3⟩)
      have hcell:∀i,i<len→∀j v,(f i).1[j]?=some v→w.cell? ⟨b,off+i*P.cellsOf e+j,none⟩=some v:=by intro i hi j v hj;have:=(ziK (hf i hi).1).2 j v hj;rw[add_lit,add_lit]at this;exact this
      have hlen2:∀i,i<len→(f i).2.length=P.cellsOf e:=λi hi=>by rw[←(hf i hi).2.1.length];exact(ziK (hf i hi).1).1
      refine⟨[.sl ((List.range len).map λi=>(f i).2) .none],⟨?_,trivial⟩,_,rfl,by simp;omega,?_⟩
      ·have:=DRel.sl (w:=w) (L:=zcm w) b off cap (P.cellsOf e) ((List.range len).map λi=>(f i).2) (λi j=>(f i).1.getD j undef) (by simp;exact h0) (by simpa using hl) ?_ ?_ ?_ ?_
       ·simpa using this
       ·-- the last cell is there
        have hi:len-1<len:=by omega
        have hj:P.cellsOf e-1<(f (len-1)).1.length:=by rw[(ziK (hf _ hi).1).1];omega
        have:=zC5 (hcell (len-1) hi (P.cellsOf e-1) _ (List.getElem?_eq_getElem hj));have hmul:(len-1)*P.cellsOf e+P.cellsOf e=len*P.cellsOf e:=by rw[←Nat.succ_mul];congr 1;omega
        simp;omega
       ·intro i hi;simp at hi;simpa using hlen2 i hi
       ·intro i j hi hj;simp at hi hj;have hjl:j<(f i).1.length:=by rw[(hf i hi).2.1.length];exact hj
        simp only[List.getD_eq_getElem?_getD,List.getElem?_eq_getElem hjl,Option.getD_some];exact hcell i hi j _ (List.getElem?_eq_getElem hjl)
       ·intro i j hi hj;simp at hi hj;have hjl:j<(f i).1.length:=by rw[(hf i hi).2.1.length];exact hj
        obtain⟨c,h1,h2⟩:=(hf i hi).2.1.get' (List.getElem?_eq_getElem hjl);simp only[List.getD_eq_getElem?_getD,List.getElem?_eq_getElem hjl,Option.getD_some,List.getElem_map,List.getElem_range];have:(f i).2[j]=c:=by rw[List.getElem?_eq_getElem hj]at h1;exact Option.some.inj h1
        rw[this];exact h2
      ·intro c hc;obtain⟨i,hi,rfl⟩:=List.mem_map.1 hc;exact(hf i (by simpa using hi)).2.2
   case struct fs=>
    simp only[Bool.and_eq_true]at hp;obtain⟨hfs,htile⟩:=hp;obtain⟨xs,n',hn,_,hcl,hxl,hat⟩:=DataW.trod_struct hu h;obtain rfl:n=n':=by omega
    obtain⟨asx,h1,h2⟩:=zws (P:=P) (R:=DRel w (zcm w)) (cs:=cs) fs.toList 0 (P.cellsOf t) (λf asx=>zbv P n f.type asx) htile hcl (λf hf=>by
     obtain⟨i,hi⟩:=List.mem_iff_getElem?.1 hf;have hi':fs[i]?=some f:=by simpa using hi
     have h3:=hat i f hi';have hlt:i<xs.length:=by rw[hxl];exact(Array.getElem?_eq_some_iff.1 hi').1
     rw[List.getElem?_eq_getElem hlt]at h3;exact ih f.type _ _ (by simpa using List.all_eq_true.1 hfs f hf) h3) (Nat.zero_le _)
    rw[List.drop_zero]at h1;refine⟨asx,h1,by rw[←h1.length];exact hcl,λf hf=>?_⟩;simpa using(h2 f hf).1
end

theorem zo0{Hh:Type}{enc:TypeId×Value→Hh}{P:Program}{w:World}{base:Nat}{spare:Nat→Bool}{held:Bool}{S:List TypeId}(hS:zjY P S=true){t:TypeId}(ht:t∈S){cs:Array Value}{d:DataW Hh}{p:List MemPlace}(h:DataW.Trod enc P w base spare held t (.agg cs) d p):∃n asx,zbv P n t asx∧TRel w (G0 w) (.agg cs) (.agg asx):=by
 obtain⟨n,hn⟩:=h;obtain⟨asx,h1,h2⟩:=zww hS n t _ _ ht hn;exact⟨n,asx,h2,cs,rfl,h1.mono λ_ _ hd=>ARel.of_b (DRel.toB (G:=G0 w) hd)⟩
theorem zgq{Hh:Type}{enc:TypeId×Value→Hh}{P:Program}{w:World}{base:Nat}{spare:Nat→Bool}{held:Bool}{S:List TypeId}(hS:zjY P S=true){t:TypeId}(ht:t∈S){v:Value}{d:DataW Hh}{p:List MemPlace}(hv:v.cells=#[v])(h:DataW.Trod enc P w base spare held t v d p):∃n a,zbv P n t [a]∧TRel w (G0 w) v a:=by
 obtain⟨n,hn⟩:=h;obtain⟨asx,h1,h2⟩:=zww hS n t _ _ ht hn;rw[hv]at h1
 match asx,h1,h2 with
 |[a],h1,h2=>exact⟨n,a,h2,TRel.of_v (VRel.of_a (ARel.of_b (DRel.toB (G:=G0 w) h1.1)))⟩
section
variable {P:Program} {n:Nat} {t:TypeId} {l:List AV}
theorem zgC{k:IntKind}(hu:P.underlying t=some (.int k))(h:zbv P n t l):∃m,l=[.int k m]∧(Lit.int k m).wf=true:=by
 cases n with
 |zero=>exact h.elim
 |succ n=>unfold zbv at h;rw[hu]at h;exact h
theorem zwI(hu:P.underlying t=some .string)(h:zbv P n t l):∃s,l=[.str s]∧s.length≤maxLen:=by
 cases n with
 |zero=>exact h.elim
 |succ n=>unfold zbv at h;rw[hu]at h;exact h
theorem zhY{e:TypeId}(hu:P.underlying t=some (.slice e))(h:zbv P n t l):∃es n',n'<n∧l=[.sl es .none]∧es.length≤maxLen∧∀c∈es,zbv P n' e c:=by
 cases n with
 |zero=>exact h.elim
 |succ n=>unfold zbv at h;rw[hu]at h;obtain⟨es,h1,h2,h3⟩:=h;exact⟨es,n,by omega,h1,h2,h3⟩
theorem zpx{fs:Array Field}(hu:P.underlying t=some (.struct fs))(h:zbv P n t l):∃n',n'<n∧l.length=P.cellsOf t∧∀f∈fs.toList,zbv P n' f.type ((l.drop f.offset).take (P.cellsOf f.type)):=by
 cases n with
 |zero=>exact h.elim
 |succ n=>unfold zbv at h;rw[hu]at h;exact⟨n,by omega,h⟩
theorem zhk{α:Type}{cs:α→List AV}:∀ {es:List (List AV)},(∀ c∈es,∃ x,c=cs x)→∃ xs:List α,es=xs.map cs
 |[],_=>⟨[],rfl⟩
 |e::es,h=>by obtain⟨x,hx⟩:=h e (by simp);obtain⟨xs,hxs⟩:=zhk (es:=es) (λc hc=>h c (by simp[hc]));exact⟨x::xs,by simp[hx,hxs]⟩
end
end Go.Abs
