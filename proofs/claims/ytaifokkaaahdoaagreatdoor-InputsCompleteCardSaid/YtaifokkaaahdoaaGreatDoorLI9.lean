import Derived.Test.YtaifokkaaahdoaaGreatDoorKGLB
import Derived.Test.YtaifokkaaahdoaaGreatDoorLH3
import Derived.Test.YtaifokkaaahdoaaGreatDoorKGY2
import Derived.Test.YtaifokkaaahdoaaGreatDoorAbsQ1
import Derived.Test.YtaifokkaaahdoaaGreatDoorLE7
import Derived.Test.YtaifokkaaahdoaaGreatDoorKZ1
import Derived.Shelf.SlSortCmp.NoneTotal
import Derived.Test.YtaifokkaaahdoaaGreatDoorProg
import Derived.Test.YtaifokkaaahdoaaGreatDoorKNum
import Derived.KernelRfl
import Derived.Test.YtaifokkaaahdoaaGreatDoorKGT1
set_option linter.unusedSectionVars false
set_option linter.unusedSimpArgs false
set_option linter.unusedVariables false
set_option maxRecDepth 8000
namespace Go.Proofs.YtaifokkaaahdoaaGreatDoor
open Go Go.Abs
theorem zvx(a:Int)(H:zaa)(K:AV→zaa→Prop)(hK:K (.bool false) H):ACalls tP zke [.int .i64 a] H K:=by refine ACalls.out (zOp λhs=>?_);simp[zAu];exact zby hs rfl rfl hK
theorem zvy(a:Int)(H:zaa)(K:AV→zaa→Prop)(hK:K (.bool false) H):ACalls tP zkf [.int .i64 a] H K:=by refine ACalls.out (zOs λhs=>?_);simp[zAv];exact zby hs rfl rfl hK
theorem zt7(a b:Int)(H:zaa)(K:AV→zaa→Prop)(hK:K (.int .i64 (icmp a b)) H):ACalls tP zj6 [.int .i64 a,.int .i64 b] H K:=by
 refine ACalls.out (zMD λhs=>?_);unfold zzE;refine zvx _ _ _ (zvx _ _ _ ?_);have hO:=zby (K:=K) (H:=H) (r:=.int .i64 (icmp a b)) hs rfl rfl hK;by_cases h1:a<b
 ·simp[h1];simpa[icmp,h1]using hO
 ·by_cases h2:b<a
  ·simp[h1,h2];simpa[icmp,h1,h2]using hO
  ·simp[h1,h2];simpa[icmp,h1,h2]using hO
theorem zCx(a b:Int)(H:zaa)(K:AV→zaa→Prop)(hK:K (.int .i64 (icmp a b)) H):ACalls tP zpd [.int .i64 a,.int .i64 b] H K:=by
 refine ACalls.out (zMG λhs=>?_);unfold zzF;refine zvy _ _ _ (zvy _ _ _ ?_);have hO:=zby (K:=K) (H:=H) (r:=.int .i64 (icmp a b)) hs rfl rfl hK;by_cases h1:a<b
 ·simp[h1];simpa[icmp,h1]using hO
 ·by_cases h2:b<a
  ·simp[h1,h2];simpa[icmp,h1,h2]using hO
  ·simp[h1,h2];simpa[icmp,h1,h2]using hO
def orL:List Int→Int
 |[]=>0
 |a::l=>cor a (orL l)
theorem orI(l:List Int)(tok:Tok)(hl:l.length≤1000000)(H:zaa)(K:AV→zaa→Prop)(hK:K (.int .i64 (orL l)) H):ACalls tP zpc [.sl (l.map λx=>[.int .i64 x]) tok] H K:=by
 refine ACalls.out (zMz λhs=>?_);simp[zzC];refine zMx (Inv:=λq t8 H'=>∃i:Nat,i≤l.length∧q=l.length-i∧t8=.int .i64 i∧orL (l.drop i)=orL l∧H'=H) l.length ?_ ?_
 ·intro _;exact⟨0,by omega,by omega,rfl,by simp,rfl⟩
 ·rintro q t8 H' ⟨i,hi,rfl,rfl,ho,rfl⟩ hsc hlen hsF Kb hKb;by_cases hlt:i<l.length
  ·rw[List.drop_eq_getElem_cons hlt,orL]at ho;by_cases hz:l[i]=0
   ·rw[zud hz]at ho;simp[zmx,hlt,hz];rw[zav (by omega) (by omega)];refine hKb _ _ ⟨l.length-(i+1),by omega,Back.here (Nat.le_refl _) hs ?_ ⟨_,rfl,i+1,by omega,rfl,by simp,ho,rfl⟩⟩;simpa[zmy,AV.sc,AV.scV,AV.scA,AV.scB]using hsF
   ·rw[zuc hz]at ho;have hz:(l[i] != 0)=true:=by simpa using hz
    simp[zmx,hlt,hz];rw[←ho]at hK;exact zby hs rfl rfl hK
  ·simp[zmx,hlt];obtain rfl:i=l.length:=by omega
   rw[List.drop_length]at ho;rw[←ho]at hK;exact zby hs rfl rfl hK
theorem zt8(ks ks':List VT)(hb:ks.length≤1000000)(hc:∀(i:Nat) (h:i<ks.length) (h':i<ks'.length) (H:zaa) (K:AV→zaa→Prop),K (.int .i64 (VT.cmp ks[i] ks'[i])) H→ACalls tP zfN [.agg ks[i].cs,.agg ks'[i].cs] H K)(H:zaa)(K:AV→zaa→Prop)(hK:K (.int .i64 (VT.cmpL ks ks')) H):ACalls tP zj7 [.sl (VT.css ks) .none,.sl (VT.css ks') .none,.fn zfN []] H K:=by
 refine ACalls.out (zML λhs=>?_);simp[zzG];refine zMJ (Inv:=λq t13 H'=>∃i:Nat,i≤ks.length∧i≤ks'.length∧q=ks.length-i∧t13=.int .i64 i∧VT.cmpL (ks.drop i) (ks'.drop i)=VT.cmpL ks ks'∧H'=H) ks.length ?_ ?_
 ·intro _;exact⟨0,by omega,by omega,by omega,rfl,by simp,rfl⟩
 ·rintro q t8 H' ⟨i,hi,hi',rfl,rfl,ho,rfl⟩ hsc hlen hsF Kb hKb;by_cases hlt:i<ks.length
  ·obtain⟨x,y,z,hvx,hx,hy,hz⟩:=zaL ks[i];by_cases hlt':i<ks'.length
   ·have hle:¬ ks'.length≤i:=by omega
    obtain⟨x',y',z',hvx',hx',hy',hz'⟩:=zaL ks'[i];rw[VT.cmpL_drop hlt hlt']at ho;simp[ziP,hlt,hlt',hle,hvx,hvx',hx,hy,hz,hx',hy',hz'];rw[←hvx,←hvx'];refine hc i hlt hlt' _ _ ?_;by_cases hz:VT.cmp ks[i] ks'[i]=0
    ·rw[zud hz]at ho;simp[hz];rw[zav (by omega) (by omega)];refine hKb _ _ ⟨ks.length-(i+1),by omega,Back.same (Nat.le_refl _) hs ?_ ⟨_,rfl,i+1,by omega,by omega,rfl,by simp,ho,rfl⟩⟩;simp[zmA,AV.sc,AV.scV,AV.scA,AV.scB]
    ·rw[zuc hz]at ho;have hz:(VT.cmp ks[i] ks'[i] != 0)=true:=by simpa using hz
     simp[hz];rw[←ho]at hK;exact Out.same rfl hs rfl rfl hK
   ·obtain rfl:i=ks'.length:=by omega
    rw[List.drop_length,List.drop_eq_getElem_cons hlt,VT.cmpL]at ho;simp[ziP,hlt,hvx,hx,hy,hz];rw[←ho]at hK;exact Out.same rfl hs rfl rfl hK
  ·obtain rfl:i=ks.length:=by omega
   rw[List.drop_length]at ho;by_cases hnl:ks.length<ks'.length
   ·rw[List.drop_eq_getElem_cons hnl,VT.cmpL]at ho;simp[ziP,hnl];rw[←ho]at hK;exact zby hs rfl rfl hK
   ·have he:ks.length=ks'.length:=by omega
    rw[he,List.drop_length,VT.cmpL]at ho;simp[ziP,hnl];rw[←ho]at hK;exact zby hs rfl rfl hK
theorem zxO:∀(m:Nat) (v w:VT),v.nodes≤m→v.nodes≤1000000→∀(H:zaa) (K:AV→zaa→Prop),K (.int .i64 (VT.cmp v w)) H→ACalls tP zfN [.agg v.cs,.agg w.cs] H K:=by
 intro m;induction m with
 |zero=>intro v w h;have:=v.nodes_pos;omega
 |succ m ih=>
  intro v w hv hb H K hK;obtain⟨k,n,ks⟩:=v;obtain⟨k',n',ks'⟩:=w;have hnl:VT.nodesL ks+1≤1000000:=by simpa[VT.nodes]using hb
  have hll:=VT.len_le ks;refine ACalls.out (zIh λhs=>?_);simp[VT.cs,zxI];refine zaV _ (λJ=>zt7 _ _ _ _ ⟨rfl,rfl⟩) ?_;refine zaV _ (λJ=>zCx _ _ _ _ ⟨rfl,rfl⟩) ?_;refine zaV _ (λJ=>zt7 _ _ _ _ ⟨rfl,rfl⟩) ?_;simp[zas,zbh,plain,List.replicate];refine zaV _ (λJ=>orI [icmp k k',icmp n n',icmp ks.length ks'.length] _ (by simp) _ _ ⟨rfl,rfl⟩) ?_;by_cases hz:orL [icmp k k',icmp n n',icmp ks.length ks'.length]=0
  ·have hz':=hz;simp only[orL,znZ]at hz;simp[hz'];refine zt8 ks ks' (by omega) (λi h h' H K hK=>?_) _ _ ?_
   ·have:=VT.kid_lt (k:=k) (n:=n) h;exact ih _ _ (by omega) (by omega) H K hK
   ·refine Out.same rfl hs rfl rfl ?_;simpa[VT.cmp,hz,cor]using hK
  ·have hzb:(orL [icmp k k',icmp n n',icmp ks.length ks'.length] != 0)=true:=by simpa using hz
   simp[hzb];refine Out.same rfl hs rfl rfl ?_;have e:VT.cmp (.mk k n ks) (.mk k' n' ks')=orL [icmp k k',icmp n n',icmp ks.length ks'.length]:=by simp only[VT.cmp,orL,cor]at hz ⊢;split <;> (try split) <;> (try split) <;> simp_all
   rwa [e]at hK
theorem zNB(a b:List VT)(ha:a.length≤1000000)(hb:∀v∈a,v.nodes≤1000000)(H:zaa)(K:Kt)(hK:K (.int .i64 (VT.cmpL a b)) H):ACalls tP zpi [.sl (VT.css a) .none,.sl (VT.css b) .none] H K:=by refine ACalls.out (zNA λhs=>?_);unfold zz5;refine zt8 a b ha (λi h h' H K hK=>zxO _ _ _ (Nat.le_refl _) (hb _ (List.getElem_mem h)) H K hK) _ _ ?_;exact zby hs rfl rfl hK
theorem zv1:∀ {a b c d:List AV},plain a=some c→plain b=some d→plain (a++b)=some (c++d)
 |[],b,c,d,h,h'=>by simp[plain]at h;subst h;simpa using h'
 |x::a,b,c,d,h,h'=>by
  simp only[plain]at h;split at h
  ·rename_i p q hp hq;cases h;simp only[List.cons_append,plain];rw[hp,zv1 hq h']
  ·cases h
theorem zEQ(v:VT):plain v.cs=some v.cs:=by obtain⟨k,n,ks⟩:=v;simp[VT.cs,plain,AV.pd]
theorem zv3:∀ l:List VT,plain (VT.css l).flatten=some (VT.css l).flatten
 |[]=>rfl
 |v::l=>by rw[VT.css,List.flatten_cons];exact zv1 (zEQ v) (zv3 l)
theorem zCQ{l:List VT}:∀c∈VT.css l,c.length=3:=λc hc=>by rw[VT.css_map]at hc;obtain⟨v,_,rfl⟩:=List.mem_map.1 hc;simp
theorem zvK:∀ {l:List VT} {x:VT},x∈l→x.nodes≤VT.nodesL l
 |[],_,h=>by simp at h
 |v::l,x,h=>by
  rw[VT.nodesL];rcases List.mem_cons.1 h with rfl|h
  ·omega
  ·have:=zvK h;omega
theorem zCR(l:List VT)(v:VT):VT.css (l++[v])=VT.css l++[v.cs]:=by simp[VT.css_map]
theorem zNx:∀(m:Nat) (l:List VT),VT.nodesL l≤m→VT.nodesL l≤1000000→∀(H:zaa) (K:Kt),K (.sl (VT.css l) .none) H→ACalls tP zj8 [.sl (VT.css l) .none] H K:=by
 intro m;induction m with
 |zero=>
  intro l hm hb H K hK;cases l with
  |cons v l=>have:=v.nodes_pos;simp[VT.nodesL]at hm;omega
  |nil=>refine ACalls.out (zz4 λhs=>?_);simp[zso,VT.css];refine zz3 (Inv:=λq t3 t11 H'=>t11=.int .i64 0∧t3=.ov H.length 0∧H'=H++[.vec zaO 3 0 []]) 0 (λ_=>⟨rfl,rfl,rfl⟩) ?_;rintro q t3 t11 H' ⟨rfl,rfl,rfl⟩ hsc hlen hsF Kb hKb;simp[zmM];exact⟨.sl [] .none,H,[.vec zaO 3 0 []],rfl,Nat.le_refl _,hs,.one (.vfz H.length zaO 3 0 [] [] (Nat.le_refl _) (by simp) rfl rfl (by simp)),hK⟩
 |succ m ih=>
  intro l hm hb H K hK;have hll:=VT.len_le l;obtain⟨L,hL⟩:∃L,L=H.length:=⟨_,rfl⟩;refine ACalls.out (zz4 λhs=>?_);simp[zso];refine⟨by omega,?_⟩;rw[←hL];have hG:∀k,HSc (H++[.vec zaO 3 k (VT.css (l.take k)).flatten]):=λk=>hs.snoc (by
   simp only[AB.sc];rw[List.all_flatten,VT.css_map,List.all_map];simp[List.all_eq_true])
  refine zz3 (Inv:=λq t3 t11 H'=>∃i:Nat,i≤l.length∧l.length-i=q∧t11=.int .i64 i∧t3=.ov L i∧H'=H++[.vec zaO 3 i (VT.css (l.take i)).flatten]) l.length ?_ ?_
  ·intro _;exact⟨0,by omega,rfl,rfl,rfl,rfl⟩
  ·rintro q t3 t11 H' ⟨i,hi,rfl,rfl,rfl,rfl⟩ hsc hlen hsF Kb hKb;by_cases hlt:i<l.length
   ·obtain⟨C,hC⟩:∃C,C=(l[i]).cs:=⟨_,rfl⟩;have fin:∀J:zaa,zmO (.ov L i) (.ptr (L+1) 0) (.sl (VT.css l) .none) (.int .i64 l.length) (.int .i64 i) (H++(.vec zaO 3 i (VT.css (l.take i)).flatten::.cells C::J)) (Out L K) Kb:=by
     intro J;have hg:(H++(AB.vec zaO 3 i (VT.css (l.take i)).flatten::.cells C::J))[L+1]?=some (.cells C):=by rw[hL];simp[List.getElem?_append]
     have hg0:(H++(AB.vec zaO 3 i (VT.css (l.take i)).flatten::.cells C::J))[L]?=some (.vec zaO 3 i (VT.css (l.take i)).flatten):=by rw[hL];simp[List.getElem?_append]
     unfold zmO;simp only[zcW,hg,zfu,zfr,List.drop_zero];rw[hC,VT.cs_len,VT.cs_take];refine⟨by omega,?_⟩;rw[zcX];simp only[zax,zbc,za2];rw[hC]at hg0;simp only[hg0];refine⟨by simp,⟨⟨trivial,trivial,trivial⟩,by simp;omega,by simp;omega⟩,?_⟩;simp;rw[wr (by omega)];have hst:(VT.css (l.take i)).flatten++(l[i]).cs=(VT.css (l.take (i+1))).flatten:=by rw[List.take_succ_eq_append_getElem hlt,zCR,List.flatten_append];simp
     have hset:∀x:AB,(H++(AB.vec zaO 3 i (VT.css (l.take i)).flatten::.cells (l[i]).cs::J)).set L x=(H++[x])++(.cells (l[i]).cs::J):=λx=>by rw[hL,List.set_append_right _ _ (Nat.le_refl _)];simp
     rw[hst,hset];refine hKb _ _ ⟨l.length-(i+1),by omega,Back.at (J:=.cells (l[i]).cs::J) rfl (by simp) (hG _) ?_ ⟨_,_,rfl,i+1,by omega,rfl,rfl,rfl,rfl⟩⟩;simp[zmN,ux,AV.sc,AV.scA,AV.scB,AV.scV,hL]
    obtain⟨⟨k,n,ks⟩,hv⟩:∃u,u=l[i]:=⟨_,rfl⟩;have hCe:C=[.int .i64 k,.int .i64 n,.sl (VT.css ks) .none]:=by rw[hC,←hv];rfl
    have hcl:VT.cs (l[i])=[.int .i64 k,.int .i64 n,.sl (VT.css ks) .none]:=by rw[←hv];rfl
    have hnd:=VT.nodesL_take hlt;have hnd2:=VT.nodesL_take_le l (i+1);have hkn:VT.nodesL ks<(l[i]).nodes:=by rw[←hv];simp[VT.nodes]
    have hgc:(H++[AB.vec zaO 3 i (VT.css (l.take i)).flatten,.cells [.int .i64 k,.int .i64 n,.sl (VT.css ks) .none]])[L+1]?=some (.cells [.int .i64 k,.int .i64 n,.sl (VT.css ks) .none]):=by rw[hL];simp[List.getElem?_append]
    simp[zmM,hlt,hcl,AV.known];rw[←hL];by_cases hks:0<ks.length
    ·simp[hks];refine ih ks (by omega) (by omega) _ _ ?_;have hset:(H++[AB.vec zaO 3 i (VT.css (l.take i)).flatten,.cells [.int .i64 k,.int .i64 n,.sl (VT.css ks) .none]]).set (L+1) (.cells [.int .i64 k,.int .i64 n,.sl (VT.css ks) .none])=H++[AB.vec zaO 3 i (VT.css (l.take i)).flatten,.cells [.int .i64 k,.int .i64 n,.sl (VT.css ks) .none]]:=by rw[hL,List.set_append_right _ _ (by omega)];simp
     rw[hgc];simp;rw[hset];have:=fin [];rw[hCe]at this;exact this
    ·simp[hks];have:=fin [];rw[hCe]at this;exact this
   ·obtain rfl:i=l.length:=by omega
    simp[zmM];refine⟨.sl (VT.css l) .none,H,[.vec zaO 3 l.length (VT.css l).flatten],rfl,by omega,hs,.one (.vfz L zaO 3 l.length _ (VT.css l) (by omega) (by rw[hL];simp) (zv3 l) (by simp) zCQ),hK⟩
def zjb(xs:List Int)(i:Nat):Prop:=-1099511627776≤xs.getD i 0∧xs.getD i 0≤1099511627776∧(0<i→xs.getD (i-1) 0<xs.getD i 0)
def zge(xs:List Int):Prop:=xs.length≤8∧∀i,i<xs.length→zjb xs i
theorem zor{xs:List Int}{i:Nat}(h:i<xs.length):∀h':i<(ints xs).length,(ints xs)[i]'h'=[.int .i64 (xs.getD i 0)]:=λh'=>by simp[ints,List.getD_eq_getElem?_getD,h]
theorem zdn(xs:List Int):(ints xs).length=xs.length:=by simp[ints]
theorem zM8(xs:List Int)(hl:xs.length≤1000000)(H:zaa)(K:Kt)(hK:∀b:Bool,(b=true↔zge xs)→K (.bool b) H):ACalls tP zpg [.sl (ints xs) .none] H K:=by
 refine ACalls.out (zM6 λhs=>?_);simp only[zzN,zen,zdn];have bad:∀i,i<xs.length→¬zjb xs i→Out H.length K (.bool false) H:=λi hi h=>zby hs rfl rfl (hK false ⟨(λhh=>by cases hh),(λh2=>absurd (h2.2 i hi) h)⟩);refine zM4 (Inv:=λq t7 H'=>∃i:Nat,i≤xs.length∧xs.length-i=q∧t7=.int .i64 i∧(∀j,j<i→zjb xs j)∧H'=H) xs.length ?_ ?_
 ·intro _;exact⟨0,by omega,rfl,rfl,by omega,rfl⟩
 ·rintro q t7 H' ⟨i,hi,rfl,rfl,ha,rfl⟩ hsc hlen hsF Kb hKb;by_cases hlt:i<xs.length
  ·obtain⟨x,hx⟩:∃x,x=xs.getD i 0:=⟨_,rfl⟩;have g1:=zor hlt;rw[←hx]at g1;have next:zjb xs i→Kb (ziR (.sl (ints xs) .none) (.sl (ints xs) .none) (.int .i64 xs.length) (.int .i64 (i+1:Nat))) H':=λh=>by
    refine hKb _ _ ⟨xs.length-(i+1),by omega,Back.here (Nat.le_refl _) hs (by simp[ziR,AV.sc,AV.scA,AV.scB,AV.scV,ux]) ⟨_,rfl,i+1,by omega,rfl,rfl,λj hj=>?_,rfl⟩⟩;by_cases e:j=i
    ·rw[e];exact h
    ·exact ha j (by omega)
   simp[zsc,hlt,g1,zdn];by_cases c1:x < -1099511627776
   ·simp[c1];exact bad i hlt λh=>by have:=h.1;omega
   ·by_cases c2:1099511627776<x
    ·simp[c1,c2];exact bad i hlt λh=>by have:=h.2.1;omega
    ·by_cases c3:0<i
     ·have hi1:((i:Int)-1)=((i-1:Nat):Int):=by omega
      have hw:IntKind.i64.wrap ((i:Int)-1)=((i-1:Nat):Int):=by rw[zav (by omega) (by omega)];omega
      obtain⟨y,hy⟩:∃y,y=xs.getD (i-1) 0:=⟨_,rfl⟩;have hlt1:i-1<xs.length:=by omega
      have g2:=zor hlt1;rw[←hy]at g2;simp[c1,c2,c3,hw,g2,hlt1,zdn];by_cases c4:x≤y
      ·simp[c4];exact bad i hlt λh=>by have:=h.2.2 c3;omega
      ·simp[c4];rw[wr (by omega)];exact next ⟨by omega,by omega,λ_=>by omega⟩
     ·simp[c1,c2,c3];rw[wr (by omega)];exact next ⟨by omega,by omega,λh=>absurd h c3⟩
  ·obtain rfl:i=xs.length:=by omega
   simp[zsc,zdn];refine zby hs rfl rfl (hK _ ?_);simp only[decide_eq_true_eq];exact⟨λh=>⟨by omega,λj hj=>ha j hj⟩,λh=>by have:=h.1;omega⟩
end Go.Proofs.YtaifokkaaahdoaaGreatDoor
namespace Go.Abs
open Go Go.RowKit
open Go.Sort (grow putRow putCells mapBlock onCells ahead SWO PermIn SortedIn Holds)
open Go.Proofs (sortWorld ltOf CmpLays1)
variable {P:Program} {B:Nat} {w:World} {G:Gh} {H:zaa}
theorem zDj{W w':World}(hd:W.drawn≤w'.drawn)(hb:Below W.heap.size W w'):∃q os,w'=grow (W.drewN q) os:=by
 refine⟨w'.drawn-W.drawn,w'.heap.extract W.heap.size w'.heap.size,?_⟩;obtain⟨h1,h2,h3,h4,h5⟩:=hb;obtain⟨heap,tape,drawn,os,output⟩:=W;obtain⟨heap',tape',drawn',os',output'⟩:=w';simp only at *;subst h1 h2 h3;have e1:heap'=heap++heap'.extract heap.size heap'.size:=by
  refine Array.ext_getElem? λi=>?_;by_cases hi:i<heap.size
  ·rw[Array.getElem?_append_left hi,h5 i hi]
  ·rw[Array.getElem?_append_right (by omega),Array.getElem?_extract];by_cases h:i<heap'.size
   ·rw[if_pos (by omega),show heap.size+(i-heap.size)=i by omega]
   ·rw[if_neg (by omega),Array.getElem?_eq_none (by omega)]
 have e2:drawn'=drawn+(drawn'-drawn):=by omega
 simp only[grow,World.drewN];rw[←e1,←e2]
theorem HRel.alone(h:HRel B w G H)(o:Obj):Ext B w G (w.alloc o) G∧HRel B (w.alloc o) G H:=by have he:=Ext.alloc h o G.L (λ_ _=>rfl) [];simp only[List.append_nil]at he;refine⟨he,h.keep he rfl (λid gi b h1 h2=>⟨zdh (h.lt id gi b h1 h2),rfl⟩) (λb hb=>?_)⟩;rw[zcc]at hb;exact h.fresh b (by omega)
theorem HRel.grown:∀ (os:List Obj) {w:World},HRel B w G H→Ext B w G (grow w os.toArray) G∧HRel B (grow w os.toArray) G H
 |[],w,h=>by
  have:grow w #[]=w:=by simp[grow]
  rw[show ([]:List Obj).toArray=#[] from rfl,this];exact⟨Ext.refl _ _ _,h⟩
 |o::l,w,h=>by
  obtain⟨h1,h2⟩:=h.alone o;obtain⟨h3,h4⟩:=HRel.grown l h2;have:grow w (o::l).toArray=grow (w.alloc o) l.toArray:=by rw[Go.Sort.alloc_eq_grow,Go.Sort.grow_grow];simp
  rw[this];exact⟨h1.trans h3,h4⟩
theorem zET{α:Type}[Inhabited α](vals:α→Value)(d:Array α)(cur:Array Value)(h:d.size≤cur.size):(putCells vals 0 d cur).toList.take d.size=d.toList.map vals:=by refine List.ext_getElem (by simp[putCells];omega) λi h1 h2=>?_;simp at h2;simp[putCells,h2]
theorem HRel.sorted{α:Type}[Inhabited α](h:HRel B w G H){id e n g cap:Nat}{cs cs':List AV}(hH:H[id]?=some (.vec e 1 n cs))(hμ:G.μ[id]?=some (.own (.slice (some ⟨g,0,none⟩) n cap) 1 n))(vals:α→Value)(d:Array α)(hd:d.size=n)(hc:All2 (ARel w G) (d.toList.map vals) cs')(m:Nat)(os:Array Obj):
  Ext B w G (sortWorld vals w g 0 m d os) G∧HRel B (sortWorld vals w g 0 m d os) G (H.set id (.vec e 1 n cs')):=by
 obtain⟨_,_,⟨xs,⟨hxl,ho⟩,hxc⟩,hL0⟩:=h.ok id _ _ hH hμ;rcases ho with ⟨h1,_⟩|⟨g',cap',cur,h1,hB,hw,hcap,hcm,hsz,htk⟩
 ·cases h1
 cases h1;have h1:=h.storeV (cur':=putCells vals 0 d cur) (xs':=d.toList.map vals) hH hμ hw hB hcap hcm (by simp[putCells,hsz]) (by rw[Nat.mul_one,←hd];exact zET vals d cur (by omega)) (by simp[hd]) hc;obtain⟨hE1,hR1⟩:=h1;have hE2:=Ext.drew B (w.setRow g (putCells vals 0 d cur)) G ((w.setRow g (putCells vals 0 d cur)).drawn+m) (Nat.le_add_right _ _);have hR2:=hR1.drew ((w.setRow g (putCells vals 0 d cur)).drawn+m) (Nat.le_add_right _ _);obtain⟨hE3,hR3⟩:=HRel.grown os.toList hR2;have heq:sortWorld vals w g 0 m d os=grow { w.setRow g (putCells vals 0 d cur) with drawn:=(w.setRow g (putCells vals 0 d cur)).drawn+m } os.toList.toArray:=by
  have hh:w.heap.modify g (onCells (putCells vals 0 d))=(w.setRow g (putCells vals 0 d cur)).heap:=by
   unfold World.setRow;refine Array.ext_getElem? λi=>?_;simp only[Array.getElem?_modify];by_cases hi:g=i
   ·subst hi;simp[hw,onCells]
   ·simp[hi]
  have e:sortWorld vals w g 0 m d os=grow { w with heap:=w.heap.modify g (onCells (putCells vals 0 d)),drawn:=w.drawn+m } os:=rfl;rw[e,hh,Array.toArray_toList];rfl
 rw[heq];exact⟨(hE1.trans hE2).trans hE3,hR3⟩
def Lx(w:World)(G:Gh)(blk b:Nat):Nat:=if b=blk then 0 else max (G.L b) (zcA w b)
def Rd(H:zaa)(id0:Nat)(a:AV)(row:List (List AV)):Prop:=
 a=.sl row .none ∨
 (∃id off len cap size cs,a=.ms id off len cap∧H[id]?=some (.cells cs)∧off+len*size≤cs.length∧plain ((cs.drop off).take (len*size))=some row.flatten∧row.length=len∧(∀c∈row,c.length=size)∧len≤cap) ∨
 (∃id e size m cs,a=.ov id m∧id≠id0∧H[id]?=some (.vec e size m cs)∧plain cs=some row.flatten∧row.length=m∧∀c∈row,c.length=size)
theorem Rd.rel(h:HRel B w G H){id e n g cap:Nat}{cs:List AV}(hH:H[id]?=some (.vec e 1 n cs))(hμ:G.μ[id]?=some (.own (.slice (some ⟨g,0,none⟩) n cap) 1 n)){a:AV}{row:List (List AV)}(hr:Rd H id a row){v:Value}(hv:ARel w G v a):
  DRel w (Lx w G g) v (.sl row .none):=by
 obtain⟨_,_,_,hL0⟩:=h.ok id _ _ hH hμ;have hLg:G.L g=0:=hL0 g rfl;have hlev:∀b,G.L b≤Lx w G g b:=λb=>by
  unfold Lx;split
  ·rename_i hb;rw[hb,hLg];exact Nat.le_refl _
  ·exact Nat.le_max_left _ _
 have hmono:∀{v:Value} {a:AV},DRel w G.L v a→DRel w (Lx w G g) v a:=λh=>h.mono hlev λ_ _ _=>rfl;rcases hr with rfl|⟨i2,off,len,cap2,size,cs2,rfl,hH2,hfit,hp,hlen,hsz,hcap⟩|⟨i2,e2,size,m,cs2,rfl,hne,hH2,hp,hlen,hsz⟩
 ·exact hmono hv
 ·obtain⟨b,hb,rfl⟩:=hv;obtain⟨_,_,vs,_,hw,hcs⟩:=h.ok i2 _ _ hH2 hb;have hbg:b≠g:=λhbg=>by have:=h.dist i2 id _ _ b hb hμ rfl (by rw[hbg];rfl);subst this;rw[hH]at hH2;cases hH2
  subst hlen;by_cases hes:row=[]
  ·subst hes;exact .slE _ _
  ·have hl:=hcs.length;refine DRel.of_flat_at (zs:=(vs.toList.drop off).take (row.length*size)) hsz hes hcap ?_ ((zez ((hcs.drop off).take _) hp).mono λ_ _=>hmono) ?_
   ·unfold Lx;rw[if_neg hbg];refine Nat.le_trans ?_ (Nat.le_max_right _ _);simp[zcA,hw];simp at hl;omega
   ·intro j u hj;rw[List.getElem?_take]at hj;split at hj
    ·simp only[World.cell?,hw];simpa using hj
    ·cases hj
 ·obtain⟨⟨a,cap0,rfl,_⟩,v',s0,n',hμ2,_,heq⟩:=hv;obtain⟨rfl,rfl,⟨xs,hown,hcs⟩,_⟩:=h.ok i2 _ _ hH2 hμ2;obtain rfl:=heq rfl;subst hlen;by_cases hes:row=[]
  ·subst hes;exact .slE _ _
  ·have hown2:=hown;obtain⟨hl,hrow⟩:=hown2;rcases hrow with ⟨h1,h2⟩ | ⟨g2,cap2,cur,h1,h2,h3,h4,h5,h6,h7⟩
   ·cases row <;> simp_all
   ·simp at h1;obtain⟨rfl,rfl⟩:=h1;obtain⟨_,_,_,hcell⟩:=zdJ hown;have hbg:g2≠g:=λhbg=>hne (h.dist i2 id _ _ g2 hμ2 hμ rfl (by rw[hbg];rfl));refine DRel.of_flat_at (zs:=xs) hsz hes h4 ?_ ((zez hcs hp).mono λ_ _=>hmono) ?_
    ·unfold Lx;rw[if_neg hbg];refine Nat.le_trans ?_ (Nat.le_max_right _ _);simp only[zcA,h3,h6,Nat.zero_add];exact Nat.mul_le_mul_right _ h4
    ·intro j u hj;rw[Nat.zero_add,hcell j (by rw[←hl];exact(List.getElem?_eq_some_iff.1 hj).1)];exact hj
theorem zup{α:Type}(d:Array α){k:Nat}(h:d.size=k):d.extract 0 k=d:=by subst h;exact Array.extract_size
theorem zEv(n:Nat):((Array.ofFn λi:Fin n=>i).toList.map Fin.val)=List.range n:=
 List.ext_getElem (by simp) λi h1 h2=>by simp only[List.getElem_map,Array.getElem_toList,Array.getElem_ofFn,List.getElem_range]
theorem zFr{α:Type}[Inhabited α](vals:α→Value)(w:World)(g m:Nat)(d:Array α)(os:Array Obj):w.heap.size≤(sortWorld vals w g 0 m d os).heap.size:=by unfold sortWorld;simp[grow]
theorem zFq{α:Type}[Inhabited α](vals:α→Value)(w:World)(g m:Nat)(d:Array α)(os:Array Obj)(a:Addr)(h1:a.block≠g)(h2:a.block<w.heap.size):(sortWorld vals w g 0 m d os).cell? a=w.cell? a:=by unfold sortWorld;rw[Go.Sort.cell?_grow _ _ _ (by rw[Go.Sort.size_putRow];exact h2),Go.Sort.cell?_putRow_other vals _ g 0 d a (Or.inl h1)];rfl
theorem zFs(h:HRel B w G H){n g f:Nat}{vals:Fin n→Value}[Inhabited (Fin n)]{rows:Nat→List (List AV)}{cf:Nat→Nat→Int}(hd:∀i:Fin n,DRel w (Lx w G g) (vals i) (.sl (rows i) .none))(hcmp:∀i j,i<n→j<n→ACalls P f [.sl (rows i) .none,.sl (rows j) .none] [] λr _=>r=.int .i64 (cf i j)):CmpLays1 P f #[] vals (λi j=>cf i j) g 0 n w:=by
 intro m os dk hdk x y;have hL:∀b,(sortWorld vals w g 0 m dk os).heap.size≤b→Lx w G g b=0:=λb hb=>by
  have:=zFr vals w g m dk os;unfold Lx;split
  ·rfl
  ·rw[h.fresh b (by omega)];simp only[zcA];rw[Array.getElem?_eq_none (by omega)];rfl
 have hmono:∀{v:Value} {a:AV},DRel w (Lx w G g) v a→DRel (sortWorld vals w g 0 m dk os) (Lx w G g) v a:=λhx=>hx.mono (λ_=>Nat.le_refl _) λb off ho=>by
  refine zFq vals w g m dk os ⟨b,off,none⟩ ?_ ?_
  ·intro hb;have hb:b=g:=hb;simp[Lx,hb]at ho
  ·show b<w.heap.size;refine Nat.lt_of_not_le λhb=>?_;unfold Lx at ho;split at ho
   ·omega
   ·rw[h.fresh b (by omega)]at ho;simp only[zcA]at ho;rw[Array.getElem?_eq_none (by omega)]at ho;simp at ho
 refine (hcmp x y x.2 y.2 (sortWorld vals w g 0 m dk os).heap.size (sortWorld vals w g 0 m dk os) ⟨Lx w G g,[]⟩ #[vals x,vals y]
  ⟨rfl,λ_ _ _ h=>by simp at h,λ_ _ _ _ _ h=>by simp at h,hL,λ_ _ _ h=>by simp at h,Nat.le_refl _⟩ ⟨hmono (hd x),hmono (hd y),trivial⟩).mono ?_
 rintro e w' ⟨v,r,H',G',rfl,h2,_,h4,rfl⟩;have h4:v=.int .i64 (cf x y):=h4;subst h4;exact⟨rfl,zDj (h2.dr.le (by simp[zeR])) h2.below⟩
theorem ACalls.sortFunc{ρ:Go.Shelf.Ren}(L:Go.Proofs.SlLaysF.n6 P ρ){id e n f:Nat}{cs:List AV}(hH:H[id]?=some (.vec e 1 n cs))(hn:n<4611686018427387904)(rows:Nat→List (List AV))(cf:Nat→Nat→Int)(hrd:∀ i (h:i<cs.length),Rd H id cs[i] (rows i))(eg:∀ args w,(callFunc f args).run P w=.ok (.enter f args) w)(hcmp:∀ i j,i<n→j<n→ACalls P f [.sl (rows i) .none,.sl (rows j) .none] [] λr _=>r=.int .i64 (cf i j))(hO1:∀ i,i<n→¬ cf i i<0)(hO2:∀ i j k,i<n→j<n→k<n→cf i j<0→cf j k<0→cf i k<0)(hO3:∀ i j k,i<n→j<n→k<n→¬ cf i j<0→¬ cf j k<0→¬ cf i k<0){K:Kt}(hK:∀ p:List Nat,p.Perm (List.range n)→(∀ a b (ha:a<p.length) (hb:b<p.length),a<b→¬ cf p[b] p[a]<0)→K (.tup []) (H.set id (.vec e 1 n (p.map λi=>cs.getD i .unk)))):
  ACalls P (ρ.f 6) [.ov id n,.fn f []] H K:=by
 rintro B w G ⟨vs⟩ hR hv
 match vs,hv with
 |[v1,v2],⟨h1,h2,_⟩=>
 obtain⟨⟨a0,cap0,rfl,_⟩,v',s0,n',hμ,hle,heq⟩:=h1;obtain⟨ws,rfl,hws⟩:=h2;have hws:ws=#[]:=by
  cases hwl:ws.toList with
  |nil=>exact Array.toList_inj.1 hwl
  |cons x l=>rw[hwl]at hws;exact hws.elim
 subst hws;obtain⟨rfl,rfl,⟨xs,hown,hcs⟩,hL0⟩:=hR.ok id _ _ hH hμ;obtain rfl:=heq rfl;have hxl:=hown.1;have hcl:=hcs.length;rw[Nat.mul_one]at hxl
 match n,hxl,hH,hn,hcmp,hO1,hO2,hO3,hK,hμ,hown with
 |0,hxl,hH,hn,hcmp,hO1,hO2,hO3,hK,hμ,hown=>
  refine(Go.Proofs.AnyF.slices_SortFunc_none (P:=P) (ρ:=ρ) { L with } a0 cap0 _ w).mono ?_;rintro e' w' ⟨rfl,rfl⟩;have hc:cs=[]:=by
   cases cs with
   |nil=>rfl
   |cons x l=>simp at hcl;omega
  subst hc;have:=hK [] (by simp) (by simp);refine⟨_,.tup [],_,G,rfl,Ext.refl _ _ _,?_,⟨#[],rfl,trivial⟩,this⟩;have hs:H.set id (.vec e 1 0 [])=H:=by
   refine List.ext_getElem? λi=>?_;rw[List.getElem?_set];split
   ·rename_i hi;subst hi;rw[if_pos (List.getElem?_eq_some_iff.1 hH).1,hH]
   ·rfl
  simpa[hs]using hR
 |n+1,hxl,hH,hn,hcmp,hO1,hO2,hO3,hK,hμ,hown=>
  obtain⟨_,ho⟩:=hown;rcases ho with ⟨h1,h0⟩|⟨g,cap,cur,h1,hB,hw,hcap,hcm,hsz,htk⟩
  ·omega
  cases h1;have hwl:g<w.heap.size:=(Array.getElem?_eq_some_iff.1 hw).1;let vals:Fin (n+1)→Value:=λi=>xs[i.1]'(by rw[hxl];exact i.2);have hval:∀i:Fin (n+1),ARel w G (vals i) (cs[i.1]'(by rw[←hcl,hxl];exact i.2)):=λi=>by obtain⟨x,hx,hr⟩:=All2.get hcs (List.getElem?_eq_getElem (by rw[←hcl,hxl];exact i.2:i.1<cs.length));rw[List.getElem?_eq_getElem (by rw[hxl];exact i.2)]at hx;cases hx;exact hr
  have hdr:∀i:Fin (n+1),DRel w (Lx w G g) (vals i) (.sl (rows i) .none):=λi=>(hrd i.1 (by rw[←hcl,hxl];exact i.2)).rel hR hH hμ (hval i);have hone:Go.Proofs.OneCell vals:=λi=>by have:=hdr i;generalize vals i=v at *;generalize rows i.1=r at *;cases this <;> rfl
  have hlays:=zFs (P:=P) (f:=f) (n:=n+1) hR hdr hcmp;let d:Array (Fin (n+1)):=Array.ofFn λi=>i
  have hds:d.size=n+1:=by simp[d]
  have hholds:Holds vals w g 0 d:=by
   intro j hj;rw[hds]at hj;have hc:cur[j]?=some (vals ⟨j,hj⟩):=by have:xs[j]?=some (vals ⟨j,hj⟩):=List.getElem?_eq_getElem _;rw[←htk,Nat.mul_one,List.getElem?_take,if_pos hj]at this;simpa using this
   refine⟨?_,?_⟩
   ·rw[Nat.zero_add];have hdj:d[j]! = ⟨j,hj⟩:=by rw[getElem!_pos d j (by rw[hds];exact hj)];simp[d]
    rw[hdj];simp[World.cell?,hw,hc]
   ·simp[World.frozen?,hw]
  have hO:SWO (ltOf λi j:Fin (n+1)=>cf i j):=⟨λx=>by simp only[ltOf,decide_eq_false_iff_not];exact hO1 x x.2,
   λx y z h1 h2=>by simp only[ltOf,decide_eq_true_eq]at *;exact hO2 x y z x.2 y.2 z.2 h1 h2,
   λx y z h1 h2=>by simp only[ltOf,decide_eq_false_iff_not]at *;exact hO3 x y z x.2 y.2 z.2 h1 h2⟩
  have hmain:=Go.Proofs.Any.slices_SortFunc (P:=P) (ρ:=ρ) L vals hone (λi j=>cf i j) hO f #[] g 0 cap0 d w eg (by rw[hds];exact hlays) hholds hwl (by rw[hds];exact hn);rw[hds]at hmain;refine hmain.mono ?_;rintro e' w' ⟨rfl,d',m,os,hp,hsrt,rfl⟩;obtain⟨hp1,_,hp3⟩:=hp;have hds':d'.size=n+1:=hp1.trans hds;have hpm:(d'.toList.map Fin.val).Perm (List.range (n+1)):=by
   have h1:d'.toList.Perm d.toList:=by have e1:(d'.extract 0 (n+1))=d':=zup d' hds';have e2:(d.extract 0 (n+1))=d:=zup d hds;rwa [e1,e2]at hp3
   exact(h1.map Fin.val).trans (List.Perm.of_eq (zEv _))
  have hS:=hR.sorted hH hμ vals d' hds' (cs':=(d'.toList.map Fin.val).map λi=>cs.getD i .unk) (All2.of_get (by simp) λi x y hx hy=>by
   simp only[List.map_map,List.getElem?_map,Option.map_eq_some_iff]at hx hy;obtain⟨k,hk,rfl⟩:=hx;obtain⟨k',hk',rfl⟩:=hy;rw[hk]at hk';cases hk';have hlt:k.1<cs.length:=by rw[←hcl,hxl];exact k.2
   have:=hval k;simp only[Function.comp_def,List.getD_eq_getElem?_getD,List.getElem?_eq_getElem hlt,Option.getD_some];exact this) m os
  refine⟨_,.tup [],_,G,rfl,hS.1,hS.2,⟨#[],rfl,trivial⟩,hK _ hpm λa b ha hb hab=>?_⟩;simp only[List.length_map,Array.length_toList]at ha hb;have:=hsrt a b (Nat.zero_le _) hab (by omega);rw[getElem!_pos d' a ha,getElem!_pos d' b hb]at this;simp only[ltOf,decide_eq_false_iff_not]at this;simpa using this
end Go.Abs
namespace Go.Proofs.YtaifokkaaahdoaaGreatDoor
open Go Go.Shelf Go.Abs
def zGY:Go.Shelf.Ren:=⟨λ| 6=>49|15=>91|14=>90|28=>127|29=>128|20=>119|21=>120|22=>121|23=>122|24=>123|25=>124|26=>125|27=>126|46=>164|47=>165|48=>166|49=>167|50=>168|57=>187|n=>n,λ| 22=>47|24=>26|25=>86|3=>3|39=>133|0=>0|53=>90|55=>89|4=>4|46=>166|45=>165|50=>122|5=>5|9=>9|66=>197|70=>64|76=>232|77=>233|n=>n,λ| n=>n⟩
theorem zGX:Go.Proofs.SlLaysF.n6 tP zGY:={
 mixed:=by kernel_rfl
 f6:=⟨Tryz.f49.name,by decide,Tryz.func49.trans (congrArg some (by kernel_rfl))⟩
 f14:=⟨Tryz.f90.name,by decide,Tryz.func90.trans (congrArg some (by kernel_rfl))⟩
 f15:=Tryz.func91.trans (congrArg some (by kernel_rfl))
 f20:=⟨Tryz.f119.name,by decide,Tryz.func119.trans (congrArg some (by kernel_rfl))⟩
 f21:=⟨Tryz.f120.name,by decide,Tryz.func120.trans (congrArg some (by kernel_rfl))⟩
 f22:=⟨Tryz.f121.name,by decide,Tryz.func121.trans (congrArg some (by kernel_rfl))⟩
 f23:=⟨Tryz.f122.name,by decide,Tryz.func122.trans (congrArg some (by kernel_rfl))⟩
 f24:=⟨Tryz.f123.name,by decide,Tryz.func123.trans (congrArg some (by kernel_rfl))⟩
 f25:=⟨Tryz.f124.name,by decide,Tryz.func124.trans (congrArg some (by kernel_rfl))⟩
 f26:=⟨Tryz.f125.name,by decide,Tryz.func125.trans (congrArg some (by kernel_rfl))⟩
 f27:=⟨Tryz.f126.name,by decide,Tryz.func126.trans (congrArg some (by kernel_rfl))⟩
 f28:=Tryz.func127.trans (congrArg some (by kernel_rfl))
 f29:=Tryz.func128.trans (congrArg some (by kernel_rfl))
 f46:=⟨Tryz.f164.name,by decide,Tryz.func164.trans (congrArg some (by kernel_rfl))⟩
 f47:=Tryz.func165.trans (congrArg some (by kernel_rfl))
 f48:=Tryz.func166.trans (congrArg some (by kernel_rfl))
 f49:=⟨Tryz.f167.name,by decide,Tryz.func167.trans (congrArg some (by kernel_rfl))⟩
 f50:=⟨Tryz.f168.name,by decide,Tryz.func168.trans (congrArg some (by kernel_rfl))⟩
 f57:=⟨Tryz.f187.name,by decide,Tryz.func187.trans (congrArg some (by kernel_rfl))⟩
 t0:=Tryz.underlying0
 a0:=Tryz.isAgg0
 z0:=Tryz.sizeOf0
 v0:=Tryz.zeroValue0
 t3:=Tryz.underlying3
 a3:=Tryz.isAgg3
 z3:=Tryz.sizeOf3
 v3:=Tryz.zeroValue3
 t4:=Tryz.underlying4
 a4:=Tryz.isAgg4
 z4:=Tryz.sizeOf4
 v4:=Tryz.zeroValue4
 t5:=Tryz.underlying5
 a5:=Tryz.isAgg5
 z5:=Tryz.sizeOf5
 v5:=Tryz.zeroValue5
 t9:=Tryz.underlying9
 a9:=Tryz.isAgg9
 z9:=Tryz.sizeOf9
 v9:=Tryz.zeroValue9
 t22:=Tryz.underlying47
 a22:=Tryz.isAgg47
 z22:=Tryz.sizeOf47
 v22:=Tryz.zeroValue47
 a24:=Tryz.isAgg26
 z24:=Tryz.sizeOf26
 t25:=Tryz.underlying86
 a25:=Tryz.isAgg86
 z25:=Tryz.sizeOf86
 v25:=Tryz.zeroValue86
 t39:=Tryz.underlying133
 a39:=Tryz.isAgg133
 z39:=Tryz.sizeOf133
 v39:=Tryz.zeroValue133
 t45:=Tryz.underlying165
 a45:=Tryz.isAgg165
 z45:=Tryz.sizeOf165
 v45:=Tryz.zeroValue165
 t46:=Tryz.underlying166
 a46:=Tryz.isAgg166
 z46:=Tryz.sizeOf166
 v46:=Tryz.zeroValue166
 t50:=Tryz.underlying122
 a50:=Tryz.isAgg122
 z50:=Tryz.sizeOf122
 v50:=Tryz.zeroValue122
 t53:=Tryz.underlying90
 a53:=Tryz.isAgg90
 z53:=Tryz.sizeOf90
 v53:=Tryz.zeroValue90
 t55:=Tryz.underlying89
 a55:=Tryz.isAgg89
 z55:=Tryz.sizeOf89
 v55:=Tryz.zeroValue89
 t66:=Tryz.underlying197
 a66:=Tryz.isAgg197
 z66:=Tryz.sizeOf197
 v66:=Tryz.zeroValue197
 t70:=Tryz.underlying64
 a70:=Tryz.isAgg64
 z70:=Tryz.sizeOf64
 v70:=Tryz.zeroValue64
 t76:=Tryz.underlying232
 a76:=Tryz.isAgg232
 z76:=Tryz.sizeOf232
 v76:=Tryz.zeroValue232
 t77:=Tryz.underlying233
 a77:=Tryz.isAgg233
 z77:=Tryz.sizeOf233
 v77:=Tryz.zeroValue233 }
end Go.Proofs.YtaifokkaaahdoaaGreatDoor
namespace Go.Proofs.YtaifokkaaahdoaaGreatDoor
open Go Go.Abs
def cle(a b:List VT):Prop:=¬VT.cmpL b a<0
def llC(l:List (List VT)):List AV:=l.map λr=>.sl (VT.css r) .none
theorem zDT(l:List (List VT)):(llA l).flatten=llC l:=by
 unfold llA llC;induction l with
 |nil=>rfl
 |cons r l ih=>rw[List.map_cons,List.flatten_cons,ih];rfl
@[simp] theorem zT4(l:List (List VT)):(llC l).length=l.length:=by simp[llC]
theorem zDU(a b:List (List VT)):llC (a++b)=llC a++llC b:=by simp[llC]
theorem zv5:∀ l:List (List VT),plain (llC l)=some (llC l)
 |[]=>rfl
 |r::l=>by have ih:=zv5 l;unfold llC at ih ⊢;rw[List.map_cons,plain,ih];rfl
theorem zDV(m:Nat)(l:List (List VT)):(llC l).all (AV.scA m)=true:=by simp[llC,AV.scA,AV.scB]
theorem zDS{l:List (List VT)}:∀c∈llA l,c.length=1:=λc hc=>by obtain⟨r,_,rfl⟩:=List.mem_map.1 hc;rfl
theorem zDQ{l:List (List VT)}(hl:l.length≤1000000)(hr:∀ r∈l,VT.nodesL r≤1000000){H J:zaa}(hs:HSc H)(hJ:HSc (H++J)){K:Kt}(hK:∀ L,L.Perm l→L.Pairwise cle→K (.tup [.sl (llA L) .none,.int .i64 0]) H):
  zma .snil (.sl (llA l) .none) (.int .i64 l.length) (.int .i64 0) (H++J) (Out H.length K):=by
 refine ALoop.vec 16 zbj 1 rfl ?_;obtain⟨A,hA⟩:∃A,A=H++J:=⟨_,rfl⟩;have hAH:H.length≤A.length:=by rw[hA];simp
 rw[←hA]at hJ ⊢;obtain⟨N,hN⟩:∃N,N=A.length:=⟨_,rfl⟩;rw[←hN];show zma (.ov N 0) (.sl (llA l) .none) (.int .i64 l.length) (.int .i64 0) (A++[.vec zbj 1 0 []]) (Out H.length K);have hg:∀k cs J',(A++(AB.vec zbj 1 k cs::J'))[N]?=some (.vec zbj 1 k cs):=λk cs J'=>by rw[hN];simp
 have hset:∀k cs J' (x:AB),(A++(AB.vec zbj 1 k cs::J')).set N x=A++(x::J'):=λk cs J' x=>by rw[hN,List.set_append_right _ _ (Nat.le_refl _)];simp
 have hG:∀k,HSc (A++[.vec zbj 1 k (llC (l.take k))]):=λk=>hJ.snoc (by simp[AB.sc,zDV]);refine zKG (Inv:=λq t16 t83 H'=>∃i:Nat,i≤l.length∧l.length-i=q∧t83=.int .i64 i∧t16=.ov N i∧H'=A++[.vec zbj 1 i (llC (l.take i))]) l.length ?_ ?_
 ·intro _;exact⟨0,by omega,rfl,rfl,rfl,rfl⟩
 ·rintro q t16 t83 H' ⟨i,hi,rfl,rfl,rfl,rfl⟩ hsc hlen hsF Kb hKb;by_cases hlt:i<l.length
  ·have hgi:∀ h:i<(llA l).length,(llA l)[i]'h=[.sl (VT.css l[i]) .none]:=λh=>by simp[llA]
   simp[zrD,hlt,hgi];refine zNx _ _ (Nat.le_refl _) (hr _ (List.getElem_mem hlt)) _ _ ?_;rw[ztX];simp only[zax,zbc,za2,hg];refine⟨by simp,⟨⟨trivial,trivial,trivial⟩,by simp;omega,by simp;omega⟩,?_⟩;rw[hset];have hst:llC (l.take i)++[[AV.sl (VT.css l[i]) .none]].flatten=llC (l.take (i+1)):=by rw[List.take_succ_eq_append_getElem hlt,zDU];rfl
   rw[hst];simp;rw[wr (by omega)];refine hKb _ _ ⟨l.length-(i+1),by omega,Back.here (by simp) (hG _) ?_ ⟨_,_,rfl,i+1,by omega,rfl,rfl,rfl,rfl⟩⟩;simp[zl7,ux,AV.sc,AV.scA,AV.scB,AV.scV,hN]
  ·obtain rfl:i=l.length:=by omega
   simp[zrD];refine ACalls.sortFunc zGX (hg _ _ _) (by omega) (λi=>VT.css (l.getD i [])) (λi j=>VT.cmpL (l.getD i []) (l.getD j [])) (λi hi=>?_) (λargs w=>rfl) (λi j hi hj=>?_) (λi hi=>?_) (λi j k hi hj hk h1 h2=>?_) (λi j k hi hj hk h1 h2=>?_) (λp hp hsort=>?_)
   ·have hil:i<l.length:=by simpa using hi
    have:(llC l)[i]'(by simpa using hil)=.sl (VT.css (l.getD i [])) .none:=by simp[llC,List.getD_eq_getElem?_getD,hil]
    refine .inl ?_;rw[←this]
   ·have ei:l.getD i []=l[i]:=by simp[List.getD_eq_getElem?_getD,hi]
    have ej:l.getD j []=l[j]:=by simp[List.getD_eq_getElem?_getD,hj]
    rw[ei,ej];have m1:=hr _ (List.getElem_mem hi);have hll:=VT.len_le l[i];refine zNB _ _ (by omega) (λx hx=>?_) _ _ rfl;have:=zvK hx;omega
   ·have:=VT.cmpL_anti (l.getD i []) (l.getD i []);omega
   ·have:=VT.cmpL_tri (l.getD i []) (l.getD j []) (l.getD k []);unfold Tri at this;omega
   ·have:=VT.cmpL_tri (l.getD k []) (l.getD j []) (l.getD i []);have a1:=VT.cmpL_anti (l.getD i []) (l.getD j []);have a2:=VT.cmpL_anti (l.getD j []) (l.getD k []);have a3:=VT.cmpL_anti (l.getD i []) (l.getD k []);unfold Tri at this;omega
   ·have hplen:p.length=l.length:=by simpa using hp.length_eq
    have hpm:∀i∈p,i<l.length:=λi hi=>by simpa using hp.subset hi
    have hrs:(p.map λi=>l.getD i []).Perm l:=by
     have h1:=hp.map λi=>l.getD i [];have h2:(List.range l.length).map (λi=>l.getD i [])=l:=List.ext_getElem (by simp) λi h1 h2=>by simp[List.getD_eq_getElem?_getD,h2]
     rwa [h2]at h1
    have hpw:(p.map λi=>l.getD i []).Pairwise cle:=by rw[List.pairwise_iff_getElem];intro a b ha hb hab;simp only[List.getElem_map];exact hsort a b (by simpa using ha) (by simpa using hb) hab
    obtain⟨L,hL⟩:∃L,L=p.map λi=>l.getD i []:=⟨_,rfl⟩;rw[←hL]at hrs hpw;have hcs:(p.map λi=>(llC l).getD i .unk)=llC L:=by rw[hL];unfold llC;rw[List.map_map];refine List.map_congr_left λi hi=>?_;have:=hpm i hi;simp[List.getD_eq_getElem?_getD,this]
    rw[hcs,hset];have hLl:L.length=l.length:=by rw[hL];simp[hplen]
    refine⟨⟨rfl,rfl⟩,?_⟩;exact⟨.tup [.sl (llA L) .none,.int .i64 0],H,J++[.vec zbj 1 l.length (llC L)],by rw[hA];simp,Nat.le_refl _,hs,.tup ⟨.vfz N zbj 1 l.length (llC L) (llA L) (by omega) (by rw[hN];simp) (by rw[zDT,zv5]) (by simp[hLl]) zDS,.wk .rfl' rfl rfl,trivial⟩,hK L hrs hpw⟩
theorem joinL_iff{a:List VT}{b:List (List VT)}{r:List VT}:r∈zbe a b↔∃v∈a,∃s∈b,r=v::s:=by
 unfold zbe;simp only[List.mem_flatMap,List.mem_map];constructor
 ·rintro⟨v,hv,s,hs,rfl⟩;exact⟨v,hv,s,hs,rfl⟩
 ·rintro⟨v,hv,s,hs,rfl⟩;exact⟨v,hv,s,hs,rfl⟩
theorem lsL_cons{g:VT→Nat→List VT}{t:VT}{ts:List VT}{n:Nat}{r:List VT}:r∈lsL g (t::ts) n↔∃s,s<n∧∃v∈g t (s+1),∃q∈lsL g ts (n-(s+1)),r=v::q:=by
 rw[lsL,List.mem_flatMap];constructor
 ·rintro⟨s,hs,hr⟩;obtain⟨v,hv,q,hq,rfl⟩:=joinL_iff.1 hr;exact⟨s,List.mem_range.1 hs,v,hv,q,hq,rfl⟩
 ·rintro⟨s,hs,v,hv,q,hq,rfl⟩;exact⟨s,List.mem_range.2 hs,joinL_iff.2 ⟨v,hv,q,hq,rfl⟩⟩
theorem arL_iff{g:Nat→List VT}{n:Nat}{r:List VT}:r∈arL g (n+1)↔∃s,s<n+1∧∃v∈g (s+1),∃q∈arL g (n+1-(s+1)),r=v::q:=by
 rw[zjj,List.mem_flatMap];constructor
 ·rintro⟨s,hs,hr⟩;obtain⟨v,hv,q,hq,rfl⟩:=joinL_iff.1 hr;exact⟨s,List.mem_range.1 hs,v,hv,q,hq,rfl⟩
 ·rintro⟨s,hs,v,hv,q,hq,rfl⟩;exact⟨s,List.mem_range.2 hs,joinL_iff.2 ⟨v,hv,q,hq,rfl⟩⟩
theorem zoF{g:VT→Nat→List VT}{N:Nat}(hg:∀ t s,s≤N→∀ v∈g t s,v.nodes=s):∀ (ts:List VT) (n:Nat),n≤N→∀ r∈lsL g ts n,VT.nodesL r=n
 |[],n,_,r,hr=>by
  rw[lsL]at hr;split at hr
  ·simp at hr;subst hr;simp[VT.nodesL];omega
  ·simp at hr
 |t::ts,n,hn,r,hr=>by obtain⟨s,hs,v,hv,q,hq,rfl⟩:=lsL_cons.1 hr;rw[VT.nodesL,hg t (s+1) (by omega) v hv,zoF hg ts _ (by omega) q hq];omega
theorem zCa{g:Nat→List VT}{N:Nat}(hg:∀s,s≤N→∀v∈g s,v.nodes=s):∀(n:Nat),n≤N→∀r∈arL g n,VT.nodesL r=n:=by
 intro n;induction n using Nat.strongRecOn with
 |ind n ih=>
  intro hn r hr;cases n with
  |zero=>rw[znP]at hr;simp at hr;subst hr;rfl
  |succ n=>obtain⟨s,hs,v,hv,q,hq,rfl⟩:=arL_iff.1 hr;rw[VT.nodesL,hg (s+1) (by omega) v hv,ih _ (by omega) (by omega) q hq];omega
theorem zGC(data:List Dat)(xs:List Int):∀(n:Nat) (t:VT),∀v∈vV data xs t n,v.nodes=n:=by
 intro n;induction n using Nat.strongRecOn with
 |ind n ih=>
  intro t v hv;cases n with
  |zero=>rw[zqg]at hv;simp at hv
  |succ n=>
   rw[zgW]at hv;split at hv
   ·split at hv
    ·simp at hv;subst hv;simp[VT.nodes,VT.nodesL];omega
    ·simp at hv
   ·split at hv
    ·split at hv
     ·simp at hv;rcases hv with rfl|rfl <;> simp[VT.nodes,VT.nodesL] <;> omega
     ·simp at hv
    ·split at hv
     ·split at hv
      ·obtain⟨x,_,rfl⟩:=List.mem_map.1 hv;simp[VT.nodes,VT.nodesL];omega
      ·simp at hv
     ·split at hv
      ·obtain⟨r,hr,rfl⟩:=List.mem_map.1 hv;have:=zCa (N:=n) (λs hs v hv=>ih s (by omega) _ v hv) n (Nat.le_refl _) r hr;simp[VT.nodes,this]
      ·obtain⟨w,hw,hv⟩:=List.mem_flatMap.1 hv;obtain⟨r,hr,rfl⟩:=List.mem_map.1 hv;have:=zoF (N:=n) (λt s hs v hv=>ih s (by omega) t v hv) w.2 n (Nat.le_refl _) r hr;simp[VT.nodes,this]
theorem zoa{data:List Dat}{t:VT}(h:zce data t=true):zaD data=true∧zaA data 0 t=true:=by unfold zce at h;rw[Bool.and_eq_true]at h;exact zhw h.1
theorem zEo{data:List Dat}{kk:Int}{S:SS}{A J:zaa}{L M:Nat}(hL:L=A.length)(hM:L≤M):∃J',shS data kk (zc4 L M) S (A++J)=A++J'∧J'.length=J.length:=by
 refine⟨(shS data kk (zc4 L M) S (A++J)).drop A.length,?_,by simp⟩
 conv=>lhs;rw[←List.take_append_drop A.length (shS data kk (zc4 L M) S (A++J))]
 congr 1;apply List.ext_getElem?;intro x;rw[List.getElem?_take];split
 ·rename_i hx;rw[zcv,List.getElem?_append_left hx,List.getElem?_eq_getElem hx];have:za3 data kk (zc4 L M) S x=none:=by
   unfold za3 zc4;simp only
   repeat rw[if_neg (by omega)]
  rw[this];rfl
 ·rw[List.getElem?_eq_none (by omega)]
theorem zwB{f:Nat→Nat}{B:Nat}(h:∀ i,f i≤B):∀ k,sm k f≤k*B
 |0=>by simp[sm]
 |k+1=>by have:=zwB h k;have:=h k;rw[sm,Nat.succ_mul];omega
def zdp(xs:List Int)(L:Nat):zaa:=[.mapP [],.cells [.ptr (L+2) 0,.sl (ints xs) .none,.map (L+3)]]
theorem ztU{data:List Dat}{kk:Int}{L x:Nat}(h1:L≤x)(h:x=L+3∨x=L+4):za3 data kk (zc4 L (L+5)) S0 x=none:=by
 unfold za3 zc4;simp only
 repeat rw[if_neg (by omega)]
theorem zEp(data:List Dat)(xs:List Int)(A:zaa):ShB data xs.length xs ⟨zc4 A.length (A.length+5),A.length+4,A.length+3⟩ ⟨S0,[]⟩ (A++(zcu data xs.length A.length (A.length+5)++zdp xs A.length++zcI)):=by
 have gA:∀(k:Nat),(A++(zcu data xs.length A.length (A.length+5)++zdp xs A.length++zcI))[A.length+k]?=(zcu data xs.length A.length (A.length+5)++zdp xs A.length++zcI)[k]?:=λk=>by rw[List.getElem?_append_right (by omega)];congr 1;omega
 have g3:=gA 3;have g4:=gA 4;exact⟨zEq rfl (zdp xs A.length) (A.length+5) rfl,g4,g3,ztU (Nat.le_add_right _ _) (.inr rfl),ztU (Nat.le_add_right _ _) (.inl rfl),by simp⟩
theorem zFc{data:List Dat}{kk:Int}{B:BS}{A J:zaa}:∃J',shB data kk ⟨zc4 A.length (A.length+5),A.length+4,A.length+3⟩ B (A++J)=A++J'∧J'.length=J.length:=by obtain⟨J1,h1,h2⟩:=zEo (data:=data) (kk:=kk) (S:=B.s) (A:=A) (J:=J) (L:=A.length) (M:=A.length+5) rfl (by omega);refine⟨J1.set 3 (.mapP (zdI B.m)),?_,by simpa using h2⟩;unfold shB;rw[h1,List.set_append_right _ _ (by simp)];simp
section
variable {data:List Dat} (hD:zaD data=true) (hk:Kpt data) {xs:List Int} (hxs:xs.length≤8) {ts:List VT} (htv:∀t∈ts,zaA data 0 t=true) (htl:ts.length≤6) {n:Nat} (hn:n≤14)
include hD hk hxs htv htl hn
theorem zDR{H:zaa}(hs:HSc H)(h0:H[0]?=some .nodr){K:Kt}(hE:2000<cL (cV data xs.length) ts n→K (.tup [.sl [] .none,.int .i64 9]) H)(hK:cL (cV data xs.length) ts n≤2000→∀ L,L.Perm (lsL (vV data xs) ts n)→L.Pairwise cle→K (.tup [.sl (llA L) .none,.int .i64 0]) H):
  zl9 (.int .i64 n) (.ptr (H.length+4) 0) .snil (.sl (VT.css ts) .none) (.int .i64 ts.length) (.int .i64 0) (H++(newB data xs.length H.length++zdp xs H.length)) (Out H.length K):=by
 obtain⟨X,hXl,hR⟩:=zkv (data:=data) (n:=n) (λm _ t ht=>zEV hD hk m t ht) ts 0 htv;have hR:∀(p:Nat) (h:p<ts.length),Rch data X (n-p) ts[p]:=λp h=>by have:=hR p h;rwa [Nat.zero_add]at this
 have hX:X.length≤1000000000000:=by
  have h1:=zwB (f:=λp=>gB (n-(0+p))) (B:=gB 14) (λi=>zfE (by omega)) ts.length;have h2:gB 14≤1000000000:=by decide
  have h3:=Nat.mul_le_mul htl h2;omega
 have htX:∀t∈ts,zaA data 0 t=true∧t∈X:=λt ht=>⟨htv t ht,by
  obtain⟨p,hp,rfl⟩:=List.mem_iff_getElem.1 ht;exact(hR p hp).mem⟩
 have hlt0:0<H.length:=(List.getElem?_eq_some_iff.1 h0).1;refine zEE (L:=H.length) rfl (V:=zdp xs H.length) (M:=H.length+5) rfl ?_;obtain⟨Z,hZ⟩:∃Z:BI,Z=⟨zc4 H.length (H.length+5),H.length+4,H.length+3⟩:=⟨_,rfl⟩;obtain⟨A0,hA0⟩:∃A0,A0=H++(zcu data xs.length H.length (H.length+5)++zdp xs H.length++zcI):=⟨_,rfl⟩;have hA0l:A0.length=H.length+8:=by rw[hA0];simp[zcu,zdp,zcI]
 have hB0:ShB data xs.length xs Z ⟨S0,[]⟩ A0:=by rw[hZ,hA0];exact zEp data xs H
 have hA0s:HSc A0:=by rw[hA0];refine hs.append ?_;simp[zcu,zdp,zcI,AB.sc,AV.scA,AV.scB,zaJ,zbN]
 have h00:A0[0]?=some .nodr:=by rw[hA0,List.getElem?_append_left hlt0];exact h0
 have hsp:∀(B:BS),∃J',shB data xs.length Z B A0=H++J'∧J'.length=8:=λB=>by obtain⟨J',h1,h2⟩:=zFc (data:=data) (kk:=xs.length) (B:=B) (A:=H) (J:=zcu data xs.length H.length (H.length+5)++zdp xs H.length++zcI);exact⟨J',by rw[hZ,hA0];exact h1,by rw[h2];simp[zcu,zdp,zcI]⟩
 have hbp:Z.bp=H.length+4:=by rw[hZ]
 rw[←hA0,←hbp];refine ALoop.own 13 zcZ 1 rfl ?_;rw[hA0l];show zl9 (.int .i64 n) (.ptr Z.bp 0) (.sl (za6 (zaK data S0 (ts.take 0)).1) (.own (H.length+8))) (.sl (VT.css ts) .none) (.int .i64 ts.length) (.int .i64 0) (A0++[.perm zcZ 1 0]) (Out H.length K);have hok:=λj=>zhl hD (ts.take j) S0 (zBz data xs.length X) λt ht=>htX t (List.mem_of_mem_take ht);obtain⟨G,hG⟩:∃G:BS→Nat→zaa,G=λB' k=>shB data xs.length Z B' A0++[.perm zcZ 1 k]:=⟨_,rfl⟩;have hGl:∀B' k,(G B' k).length=H.length+9:=λB' k=>by rw[hG];simp[hA0l]
 have hGs:∀B' k,HSc (G B' k):=λB' k=>by rw[hG];exact(hB0.scs hA0s).snoc rfl
 have hGS:∀B' k,zaZ data xs.length X B'.s→ShB data xs.length xs Z B' (G B' k):=λB' k hB'=>by rw[hG];exact(hB0.next hB'.ml hB'.cl).app
 have hG0:∀B' k,(G B' k)[0]?=some .nodr:=λB' k=>by rw[hG];simp only;rw[List.getElem?_append_left (by simp[hA0l])];exact hB0.nodr h00
 have hGm:∀B' B'' k J,zaZ data xs.length X B'.s→shB data xs.length Z B'' (G B' k++J)=G B'' k++J:=λB' B'' k J hB'=>by rw[hG];simp only;rw[List.append_assoc,(hB0.next hB'.ml hB'.cl).shB_app,hB0.shB_shB,List.append_assoc]
 have hGn:∀B' S' k J,zaZ data xs.length X B'.s→shS data xs.length Z.i S' (G B' k++J)=G ⟨S',B'.m⟩ k++J:=λB' S' k J hB'=>by rw[((hGS B' k hB').app).shS_eq,hGm _ _ _ _ hB']
 have hGp:∀B' k J,(G B' k++J)[H.length+8]?=some (.perm zcZ 1 k):=λB' k J=>by rw[hG];simp[List.getElem?_append,hA0l]
 have hGset:∀B' k k' J,(G B' k++J).set (H.length+8) (.perm zcZ 1 k')=G B' k'++J:=λB' k k' J=>by rw[hG];simp only;rw[List.append_assoc,List.set_append_right _ _ (by simp[hA0l]),List.append_assoc];simp[hA0l]
 have hlk:=λj=>znH data (ts.take j) S0;refine zKF (Inv:=λq t13 t54 H'=>∃j:Nat,j≤ts.length∧ts.length-j=q∧t54=.int .i64 j∧t13=.sl (za6 (zaK data S0 (ts.take j)).1) (.own (H.length+8))∧H'=G ⟨(zaK data S0 (ts.take j)).2,[]⟩ j) ts.length ?_ ?_
 ·intro _;refine⟨0,by omega,rfl,rfl,rfl,?_⟩;rw[hG];simp only[List.take_zero,zaK];rw[hB0.self]
 ·rintro q t13 t54 H' ⟨j,hj,rfl,rfl,rfl,rfl⟩ hsc' hlen hsF Kb hKb;obtain⟨S,hSd⟩:∃ S,S=(zaK data S0 (ts.take j)).2:=⟨_,rfl⟩;have hokj:=hok j;have hIj:=hokj.1;rw[←hSd]at hIj;have hsl:(za6 (zaK data S0 (ts.take j)).1).length=j:=by rw[zuX,hlk,List.length_take];omega
  rw[←hSd];by_cases hlt:j<ts.length
  ·obtain⟨x1,x2,x3,hvx,hxa,hxb,hxc⟩:=zaL ts[j];have hv:=htX ts[j] (List.getElem_mem hlt);have hst:za6 (zaK data S0 (ts.take j)).1++[[AV.int .i64 (idN data S ts[j]:Nat)]]=za6 (zaK data S0 (ts.take (j+1))).1:=by rw[zjg hlt,←hSd];simp[za6]
   have hS1:(zaK data S0 (ts.take (j+1))).2=idS data S ts[j]:=by rw[zjg hlt,←hSd]
   have hgc:∀B' k C,(G B' k++[AB.cells C])[H.length+9]?=some (.cells C):=λB' k C=>by rw[List.getElem?_append_right (by rw[hGl];omega),hGl];simp
   have hbp':=((hGS ⟨S,[]⟩ j hIj).app (J:=[.cells (ts[j]).cs])).bpa;rw[hvx]at hbp';simp[zrC,hlt,hvx,hGl,hbp',hgc];refine⟨⟨hxa,hxb,hxc⟩,?_⟩;rw[←hvx];have hAp:ShS data xs.length Z.i S (G ⟨S,[]⟩ j++[.cells (ts[j]).cs]):=((hGS ⟨S,[]⟩ j hIj).sh).app;refine zcF (.int .i64 (idN data S ts[j]:Nat)) (G ⟨idS data S ts[j],[]⟩ j++[.cells (ts[j]).cs]) (zkD hD hAp (by rw[List.getElem?_append_left (by rw[hGl];omega)];exact hG0 _ _) ts[j] hv.1 (Nat.le_trans hIj.len hX) _ ⟨rfl,hGn _ _ _ _ hIj⟩) ?_;simp[zas,zbh,plain,AV.pd];refine zcF (.sl (za6 (zaK data S0 (ts.take (j+1))).1) (.own (H.length+8))) (G ⟨idS data S ts[j],[]⟩ (j+1)++[.cells (ts[j]).cs]) ?_ ?_
   ·simp only[zax,zbc,za2,hsl,hGp];refine⟨by simp,trivial,⟨by simp;omega,by simp;omega⟩,?_,?_⟩
    ·rw[hst]
    ·exact hGset _ _ _ _
   ·rw[wr (by omega)];refine hKb _ _ ⟨ts.length-(j+1),by omega,Back.at (J:=[.cells (ts[j]).cs]) (H2:=G ⟨idS data S ts[j],[]⟩ (j+1)) rfl (by rw[hGl];simp[hA0l]) (hGs _ _) (by rw[hGl];simp[zl6,ux,AV.sc,AV.scA,AV.scB,AV.scV,hbp]) ⟨_,_,rfl,j+1,by omega,rfl,rfl,rfl,by rw[hS1]⟩⟩
  ·obtain rfl:j=ts.length:=by omega
   rw[List.take_length]at hokj hSd hsl;have hix:=hokj.2.2;rw[←hSd]at hix;obtain⟨is,his⟩:∃is,is=(zaK data S0 ts).1:=⟨_,rfl⟩;rw[←his]at hix hsl;rw[List.take_length,←his];have hB1:=hGS ⟨S,[]⟩ ts.length hIj;simp[zrC,hB1.bpa];obtain⟨S2,o,hI2,he2,ho,hc⟩:=zpQ (I:=Z.i) hD hk hxs hX (show n≤14 from hn) (λm hm=>zn1 hD hk hxs hX m (by omega)) (show ts.length≤1000 by omega) hIj hix hR;refine ACalls.wk (args':=[.ptr Z.i.p 0,.sl (za6 is) .none,.int .i64 n]) ?_ ⟨.atom (.refl _),.atom (.sl _ _),.atom (.refl _),trivial⟩;refine hc _ hB1.sh (hG0 _ _) _ ?_;have hgn0:=hGn ⟨S,[]⟩ S2 ts.length [] hIj;simp only[List.append_nil]at hgn0;rw[hgn0];refine zfo 2000 (by omega) _ _ ?_;have hov:vO o<1000000000 ^ 30:=by rw[ho];exact znV hk hxs ts hn
   have h2000:zaY ((2000:Nat):Int)=zal (some 2000):=rfl;rw[h2000];refine zNa o (some 2000) hov (by decide) _ _ ?_;have hB2:=hGS ⟨S2,[]⟩ ts.length hI2;have hcm:(0<zbS (vO o) (vO (some 2000)))↔2000<cL (cV data xs.length) ts n:=by
    rw[←ho];simp only[vO,zbS,Option.getD_some]
    repeat' split
    all_goals omega
   by_cases hbig:2000<cL (cV data xs.length) ts n
   ·have h2:0<zbS (vO o) (vO (some 2000)):=hcm.2 hbig;simp[h2];obtain⟨J',hJ',_⟩:=hsp ⟨S2,[]⟩;have hGe:G ⟨S2,[]⟩ ts.length=H++(J'++[.perm zcZ 1 ts.length]):=by rw[hG];simp only;rw[hJ',List.append_assoc]
    rw[hGe];exact⟨⟨rfl,rfl⟩,@Out.tup H _ K [.snil,.int .i64 9] _ hs (hE hbig) ⟨⟨.atom .snil,rfl,rfl⟩,⟨.rfl',rfl,rfl⟩,trivial⟩⟩
   ·have h2:¬ 0<zbS (vO o) (vO (some 2000)):=λh=>hbig (hcm.1 h);simp[h2];obtain⟨B',hI3,he3,hc3⟩:=zvd hD hk hxs hX (Z:=Z) (N:=n) hn (λm hm=>zGI hD hk hxs hX m (by omega)) ts is (by omega) n ⟨S2,[]⟩ (Nat.le_refl _) ⟨hI2,by simp⟩ (hix.mono he2) hR (by omega);refine ACalls.wk (args':=[.ptr Z.bp 0,.sl (za6 is) .none,.int .i64 n]) ?_ ⟨.atom (.refl _),.atom (.sl _ _),.atom (.refl _),trivial⟩;refine hc3 _ hB2 (hG0 _ _) _ ?_;have hgm0:=hGm ⟨S2,[]⟩ B' ts.length [] hI2;simp only[List.append_nil]at hgm0;rw[hgm0];obtain⟨J',hJ',_⟩:=hsp B';have hGe:G B' ts.length=H++(J'++[.perm zcZ 1 ts.length]):=by rw[hG];simp only;rw[hJ',List.append_assoc]
    have hGsc:=hGs B' ts.length;rw[hGe]at hGsc ⊢;simp only[zen,zgv];have hll:=zhJ hD hk hxs hX ts n;refine zDQ (by rw[hll];omega) (λr hr=>?_) hs hGsc (hK (by omega));rw[zoF (N:=n) (λt s _=>zGC data xs s t) ts n (Nat.le_refl _) r hr];omega
end
end Go.Proofs.YtaifokkaaahdoaaGreatDoor
namespace Go.Proofs.YtaifokkaaahdoaaGreatDoor
open Go Go.Abs
open Classical in
noncomputable def zbH(data:List Dat)(ts:List VT)(n:Int)(xs:List Int):Int:=
 if 6<ts.length then 5 else if ∃t∈ts,zce data t=false then 6 else if n<0∨24<n∨¬zge xs then 8 else if 2000<cL (cV data xs.length) ts n.toNat then 9 else 0
theorem zjK{data:List Dat}{ts:List VT}{n:Int}{xs:List Int}(h:zbH data ts n xs=0):ts.length≤6∧(∀t∈ts,zce data t=true)∧0≤n∧n≤24∧zge xs∧cL (cV data xs.length) ts n.toNat≤2000:=by
 unfold zbH at h;split at h
 ·omega
 ·split at h
  ·omega
  ·rename_i h1 h2;split at h
   ·omega
   ·rename_i h3;split at h
    ·omega
    ·refine⟨by omega,λt ht=>?_,by omega,by omega,?_,by omega⟩
     ·cases hb:zce data t with
      |true=>rfl
      |false=>exact absurd ⟨t,ht,hb⟩ h2
     ·exact Classical.byContradiction λhc=>h3 (.inr (.inr hc))
theorem zKM{data:List Dat}(hF:zek data)(hl:data.length≤1000000)(hk:Kpt data)(ts:List VT)(hts:ts≠[])(htl:ts.length≤1000000)(ht:∀ t∈ts,zaW t)(xs:List Int)(hxl:xs.length≤1000000)(n:Int)(hn:n≤14∨24<n)(H:zaa)(h0:H[0]?=some .nodr)(K:Kt)(hE:zbH data ts n xs≠0→K (.tup [.sl [] .none,.int .i64 (zbH data ts n xs)]) H)(hK:zbH data ts n xs=0→∀ L,L.Perm (lsL (vV data xs) ts n.toNat)→L.Pairwise cle→K (.tup [.sl (llA L) .none,.int .i64 0]) H):
  ACalls tP zo2 [.sl (data.map Dat.cs) .none,.sl (VT.css ts) .none,.int .i64 n,.sl (ints xs) .none] H K:=by
 refine ACalls.out (zKL λhs=>?_);simp only[zyI,zen,VT.css_len];have hout:∀(e:Int) J,zbH data ts n xs=e→e≠0→Out H.length K (.tup [.snil,.int .i64 e]) (H++J):=λe J h he=>by subst h;exact @Out.tup H _ K [.snil,.int .i64 _] _ hs (hE he) ⟨⟨.atom .snil,rfl,rfl⟩,⟨.rfl',rfl,rfl⟩,trivial⟩
 have hout0:∀(e:Int),zbH data ts n xs=e→e≠0→Out H.length K (.tup [.snil,.int .i64 e]) H:=λe h he=>by have:=hout e [] h he;simpa using this
 by_cases h6:6<ts.length
 ·have h6':(6:Int)<ts.length:=by omega
  simp[h6'];exact⟨⟨rfl,rfl⟩,hout0 5 (by unfold zbH;rw[if_pos h6]) (by omega)⟩
 have h6':¬(6:Int)<ts.length:=by omega
 simp[h6'];refine zKH (Inv:=λq t24 H'=>∃i:Nat,i≤ts.length∧ts.length-i=q∧t24=.int .i64 i∧(∀t∈ts.take i,zce data t=true)∧H'=H) ts.length ?_ ?_
 ·intro _;exact⟨0,by omega,rfl,rfl,by simp,rfl⟩
 ·rintro q t24 H' ⟨i,hi,rfl,rfl,hf,rfl⟩ hsc hlen hsF Kb hKb;by_cases hlt:i<ts.length
  ·obtain⟨x,y,z,hvx,hx,hy,hz⟩:=zaL ts[i];simp[ziE,hlt,hvx,hx,hy,hz];rw[←hvx];refine zMQ hF hl ts[i] (ht _ (List.getElem_mem hlt)) _ _ ?_;cases hb:zce data ts[i] with
   |false=>simp;exact⟨⟨rfl,rfl⟩,hout 6 _ (by unfold zbH;rw[if_neg h6,if_pos ⟨ts[i],List.getElem_mem hlt,hb⟩]) (by omega)⟩
   |true=>
    simp;rw[wr (by omega)];refine hKb _ _ ⟨ts.length-(i+1),by omega,Back.at (J:=[.cells (ts[i]).cs]) (H2:=H') rfl (Nat.le_refl _) hs ?_ ⟨_,rfl,i+1,by omega,rfl,rfl,λt htm=>?_,rfl⟩⟩
    ·simp[zl8,ux,AV.sc,AV.scA,AV.scB,AV.scV]
    ·rw[List.take_succ_eq_append_getElem hlt]at htm;rcases List.mem_append.1 htm with h | h
     ·exact hf t h
     ·simp at h;rw[h];exact hb
  ·obtain rfl:i=ts.length:=by omega
   rw[List.take_length]at hf;have hne:¬ ∃t∈ts,zce data t=false:=λ⟨t,h1,h2⟩=>by rw[hf t h1]at h2;cases h2
   have bad8:(n<0∨24<n∨¬zge xs)→zbH data ts n xs=8:=λh=>by unfold zbH;rw[if_neg h6,if_neg hne,if_pos h]
   by_cases c1:n<0
   ·simp[ziE,c1];exact⟨⟨rfl,rfl⟩,hout0 8 (bad8 (.inl c1)) (by omega)⟩
   by_cases c2:24<n
   ·simp[ziE,c1,c2];exact⟨⟨rfl,rfl⟩,hout0 8 (bad8 (.inr (.inl c2))) (by omega)⟩
   have hn14:n≤14:=by omega
   obtain⟨N,rfl⟩:∃N:Nat,n=N:=⟨n.toNat,by omega⟩;simp only[ziE];simp[c1,c2];refine zM8 xs hxl _ _ λb hb=>?_;cases b with
   |false=>
    have hni:¬zge xs:=λh=>by have:=hb.2 h;cases this
    simp;exact⟨⟨rfl,rfl⟩,hout0 8 (bad8 (.inr (.inr hni))) (by omega)⟩
   |true=>
    have hix:=hb.1 rfl;simp[zdn];refine zEr data xs.length _ _ ?_;simp[zeq,zao,zaM,AV.known,newB];have hlE:zbH data ts N xs=if 2000<cL (cV data xs.length) ts N then 9 else 0:=by unfold zbH;rw[if_neg h6,if_neg hne,if_neg (λh=>h.elim c1 λh=>h.elim c2 λh=>h hix)];simp
    have hgo:∀t∈ts,zaA data 0 t=true:=λt h=>(zoa (hf t h)).2;have hD:zaD data=true:=by obtain⟨t,h⟩:=List.exists_mem_of_ne_nil ts hts;exact(zoa (hf t h)).1
    have:=zDR hD hk hix.1 hgo (by omega) (n:=N) (by omega) hs h0 (K:=K) (λh=>by
     have:=hE (by rw[hlE,if_pos h];omega);rwa [hlE,if_pos h]at this) (λh=>by
     have:=hK (by rw[hlE,if_neg (by omega)]);simpa using this)
    simpa[newB,zdp]using this
end Go.Proofs.YtaifokkaaahdoaaGreatDoor
namespace Go.Proofs.YtaifokkaaahdoaaGreatDoor
open Go Go.Abs
def vle(a b:VT):Prop:=¬VT.cmp b a<0
theorem zvj(g:VT→Nat→List VT)(t:VT)(h0:g t 0=[]):∀ n,lsL g [t] n=(g t n).map λv=>[v]
 |0=>by rw[h0];rfl
 |n+1=>by
  have h1:∀s,s<n→zbe (g t (s+1)) (lsL g [] (n+1-(s+1)))=[]:=λs hs=>by
   rw[lsL,if_neg (by omega)];unfold zbe;induction g t (s+1) with
   |nil=>rfl
   |cons a l ih=>rw[List.flatMap_cons,ih];rfl
  have h2:(List.range n).flatMap (λs=>zbe (g t (s+1)) (lsL g [] (n+1-(s+1))))=[]:=by
   rw[zfD (g:=λ_=>[]) λs hs=>h1 s (List.mem_range.1 hs)];induction List.range n with
   |nil=>rfl
   |cons a l ih=>rw[List.flatMap_cons,ih];rfl
  rw[lsL,List.range_succ,List.flatMap_append,h2,List.nil_append,List.flatMap_cons,List.flatMap_nil,List.append_nil,Nat.sub_self,lsL,if_pos rfl];unfold zbe;induction g t (n+1) with
  |nil=>rfl
  |cons a l ih=>rw[List.flatMap_cons,ih];rfl
def hd0(r:List VT):VT:=r.getD 0 (.mk 0 0 [])
theorem zDp{L:List (List VT)}{W:List VT}(hp:L.Perm (W.map λv=>[v]))(hs:L.Pairwise cle):(∀r∈L,r=[hd0 r])∧(L.map hd0).Perm W∧(L.map hd0).Pairwise vle:=by
 have h1:∀r∈L,r=[hd0 r]:=λr hr=>by obtain⟨v,_,rfl⟩:=List.mem_map.1 (hp.subset hr);rfl
 refine⟨h1,?_,?_⟩
 ·have:=hp.map hd0;rw[List.map_map]at this;have e:(hd0 ∘ λv=>[v])=id:=rfl;rw[e,List.map_id]at this;exact this
 ·rw[List.pairwise_map];refine hs.imp_of_mem λ{a b} ha hb h=>?_;rw[h1 a ha,h1 b hb]at h;unfold cle at h;rw[VT.cmpL,VT.cmpL]at h;have:cor (VT.cmp (hd0 b) (hd0 a)) 0=VT.cmp (hd0 b) (hd0 a):=by unfold cor;split <;> omega
  rw[this]at h;exact h
theorem zHX{data:List Dat}(hF:zek data)(hl:data.length≤1000000)(hk:Kpt data)(t:VT)(ht:zaW t)(xs:List Int)(hxl:xs.length≤1000000)(n:Int)(hn:n≤14∨24<n)(H:zaa)(h0:H[0]?=some .nodr)(K:Kt)(hE:zbH data [t] n xs≠0→K (.tup [.sl [] .none,.int .i64 (zbH data [t] n xs)]) H)(hK:zbH data [t] n xs=0→∀ V,V.Perm (vV data xs t n.toNat)→V.Pairwise vle→K (.tup [.sl (VT.css V) .none,.int .i64 0]) H):
  ACalls tP ze7 [.sl (data.map Dat.cs) .none,.agg t.cs,.int .i64 n,.sl (ints xs) .none] H K:=by
 refine ACalls.out (zHV λhs=>?_);have hlt0:0<H.length:=(List.getElem?_eq_some_iff.1 h0).1;obtain⟨x,y,z,hvx,hx,hy,hz⟩:=zaL t;have hc3:=VT.cs_take t;have hcl:=VT.cs_len t;obtain⟨C,hC⟩:∃C,C=t.cs:=⟨_,rfl⟩;rw[←hC]at hc3 hcl;simp only[zxw];rw[←hC];simp[hcl,hc3];rw[hC,zcX];refine ACalls.wk (args':=[.sl (data.map Dat.cs) .none,.sl (VT.css [t]) .none,.int .i64 n,.sl (ints xs) .none]) ?_ ⟨.atom (.refl _),.atom (.sl _ _),.atom (.refl _),.atom (.refl _),trivial⟩;refine zKM hF hl hk [t] (by simp) (by simp) (by simpa using ht) xs hxl n hn _ (by rw[List.getElem?_append_left hlt0];exact h0) _ (λhe=>?_) (λhe L hp hsrt=>?_)
 ·have hb:(zbH data [t] n xs != 0)=true:=by simpa using he
  simp[hb];exact⟨⟨rfl,rfl⟩,@Out.tup H _ K [.snil,.int .i64 _] _ hs (hE he) ⟨⟨.atom .snil,rfl,rfl⟩,⟨.rfl',rfl,rfl⟩,trivial⟩⟩
 ·rw[zvj _ _ (zqg data xs t)]at hp;obtain⟨q1,q2,q3⟩:=zDp hp hsrt;simp;obtain⟨hok1,_,_,_,_,hok6⟩:=zjK he;have hLl:L.length≤2000:=by have h1:=hp.length_eq;rw[List.length_map,zeL]at h1;have h2:=zjL (g:=vV data xs) (zb2 data xs.length) [t] n.toNat λt _ s _=>zeL data xs s t;rw[zvj _ _ (zqg data xs t),List.length_map,zeL]at h2;omega
  have hgi:∀(i:Nat) (hi:i<L.length),∀h:i<(llA L).length,(llA L)[i]'h=[.sl (VT.css [hd0 L[i]]) .none]:=λi hi h=>by have:=q1 _ (List.getElem_mem hi);rw[←this];simp[llA]
  refine ALoop.own 12 zaO 3 rfl ?_;obtain⟨A,hA⟩:∃A,A=H++[AB.cells t.cs]:=⟨_,rfl⟩;have hAl:A.length=H.length+1:=by rw[hA];simp
  have hAs:HSc A:=by rw[hA];exact hs.snoc (by simp[AB.sc])
  rw[←hA];show zqF (.sl [] (.own A.length)) (.sl (llA L) .none) (.int .i64 L.length) (.int .i64 0) (A++[.perm zaO 3 0]) _;refine zHT (Inv:=λq t12 t29 H'=>∃i:Nat,i≤L.length∧L.length-i=q∧t29=.int .i64 i∧t12=.sl (VT.css ((L.map hd0).take i)) (.own A.length)∧H'=A++[.perm zaO 3 i]) L.length ?_ ?_
  ·intro _;exact⟨0,by omega,rfl,rfl,rfl,rfl⟩
  ·rintro q t12 t29 H' ⟨i,hi,rfl,rfl,rfl,rfl⟩ hsc hlen hsF Kb hKb;by_cases hlt:i<L.length
   ·obtain⟨x1,y1,z1,hvx1,hx1,hy1,hz1⟩:=zaL (hd0 L[i]);have hcs1:VT.css [hd0 L[i]]=[[x1,y1,z1]]:=by rw[VT.css,VT.css,hvx1]
    simp[zqD,hlt,hgi i hlt,hcs1];rw[←hvx1,zcX];refine zji (k:=i) (by rw[List.length_take,List.length_map];omega) (by simp) (by omega) ?_;have hst:(L.map hd0).take i++[hd0 L[i]]=(L.map hd0).take (i+1):=by rw[List.take_succ_eq_append_getElem (by simpa using hlt)];simp
    rw[hst,wr (by omega)];have hset:(A++[AB.perm zaO 3 i]).set A.length (.perm zaO 3 (i+1))=A++[.perm zaO 3 (i+1)]:=by rw[List.set_append_right _ _ (Nat.le_refl _)];simp
    rw[hset];refine hKb _ _ ⟨L.length-(i+1),by omega,Back.here (by simp) (hAs.snoc rfl) ?_ ⟨_,_,rfl,i+1,by omega,rfl,rfl,rfl,rfl⟩⟩;simp[zlm,ux,AV.sc,AV.scA,AV.scB,AV.scV]
   ·obtain rfl:i=L.length:=by omega
    simp[zqD];rw[List.take_of_length_le (by simp),hA,List.append_assoc];exact⟨⟨rfl,rfl⟩,@Out.tup H _ K [.sl (VT.css (L.map hd0)) _,.int .i64 0] _ hs (hK he _ q2 q3) ⟨⟨.atom (.sl _ _),rfl,rfl⟩,⟨.rfl',rfl,rfl⟩,trivial⟩⟩
end Go.Proofs.YtaifokkaaahdoaaGreatDoor
