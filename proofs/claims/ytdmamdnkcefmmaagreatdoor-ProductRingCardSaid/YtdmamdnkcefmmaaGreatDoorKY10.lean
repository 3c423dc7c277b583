import Derived.Test.YtdmamdnkcefmmaaGreatDoorKY4
set_option linter.unusedSimpArgs false
set_option linter.unusedVariables false
set_option maxRecDepth 8000
namespace Go.Proofs.YtdmamdnkcefmmaaGreatDoor
theorem zWo(dU:List Dat)(lZ:dU.length≤1000000)(vars:Int):∀(m:Nat) (v:VT),v.nodes≤m→v.nodes≤1000000000→∀(H:zaa) (K:AV→zaa→Prop),K (.bool (za7 dU vars v)) H→ACalls tP zj4 [.sl (dU.map Dat.cs) .none,.agg v.cs,.int .i64 vars] H K:=by
 intro m;induction m with
 |zero=>intro v h;have:=v.nodes_pos;omega
 |succ m ih=>
  intro v hv hb H K hK;obtain⟨k,n,ks⟩:=v;have fT:VT.nodesL ks+1≤1000000000:=by simpa[VT.nodes]using hb
  have fc:=VT.len_le ks;refine ACalls.out (zWm λhs=>?_);have hO:∀J,Out H.length K (.bool (zbl dU vars k n ks.length && zbi dU vars ks)) (H++J):=λJ=>Out.bool rfl (aa _) hs (by simpa[za7]using hK);have hF:zbl dU vars k n ks.length=false→∀J,Out H.length K (.bool false) (H++J):=λh J=>by have:=hO J;rwa [h,aY]at this
  have loop:zbl dU vars k n ks.length=true→zuV (.sl (dU.map Dat.cs) .none) (.int .i64 vars) (.ptr H.length 0) (.int .i64 ks.length) (.int .i64 0) (H++[.cells [.int .i64 k,.int .i64 n,.sl (VT.css ks) .none]]) (Out H.length K):=by
   intro eG;rw[eG]at hO;simp only[bi]at hO;refine zWk (Inv:=λq t8 H'=>∃i:Nat,i≤ks.length∧q=ks.length-i∧t8=.int .i64 i∧zbi dU vars (ks.drop i)=zbi dU vars ks∧H'=H++[.cells [.int .i64 k,.int .i64 n,.sl (VT.css ks) .none]]) ks.length ?_ ?_
   ·intro _;exact⟨0,by omega,by omega,rfl,by simp,rfl⟩
   ·rintro q t8 H' ⟨i,hi,rfl,rfl,ho,rfl⟩ hsc d8 eC Kb ee;by_cases d7:i<ks.length
    ·have eY:=VT.kid_lt (k:=k) (n:=n) d7;rw[ag d7,zbi]at ho;simp[zuT,d7];refine ih ks[i] (by omega) (by omega) _ _ ?_;cases hb:za7 dU vars ks[i] with
     |false=>rw[hb,aY]at ho;rw[←ho]at hO;simp;exact hO _
     |true=>rw[hb,bi]at ho;simp;rw[zav (by omega) (by omega)];refine ee _ _ ⟨ks.length-(i+1),by omega,Back.here (by simp) hsc ?_ ⟨_,rfl,i+1,by omega,rfl,by simp,ho,rfl⟩⟩;simp[zob,AV.sc,AV.scV,AV.scA,AV.scB]
    ·obtain rfl:i=ks.length:=by omega
     rw[aI,zbi]at ho;rw[←ho]at hO;simp[zuT];exact hO _
  have prim:(k=1∨k=2∨k=3)→Out H.length K (.bool (n == 0 && ks.length == 0)) (H++[.cells [.int .i64 k,.int .i64 n,.sl (VT.css ks) .none]]):=by
   intro h;have eG:zbl dU vars k n ks.length=(n == 0 && ks.length == 0):=by rcases h with rfl|rfl|rfl <;> rfl
   have:=hO [.cells [.int .i64 k,.int .i64 n,.sl (VT.css ks) .none]];rw[eG]at this;cases ks with
   |nil=>simpa[zbi]using this
   |cons x l=>simpa using this
  by_cases jH:k=1∨k=2∨k=3
  ·have:=prim jH;cases hn:(n == 0) with
   |false=>rw[hn,aY]at this;rcases jH with rfl|rfl|rfl <;> simp[zcG,VT.cs,zbY,hn] <;> exact this
   |true=>
    rw[hn,bi]at this;have e:((ks.length:Int) == 0)=(ks.length == 0):=by rw[cr];simp
    rw[←e]at this;rcases jH with rfl|rfl|rfl <;> simp only[zcG,VT.cs] <;> simp[zbY,hn] <;> simpa using this
  by_cases h4:k=4
  ·subst h4;have eG:zbl dU vars 4 n ks.length=(decide (0≤n) && decide (n<vars) && ks.length == 0):=rfl;have oo:∀J,Out H.length K (.bool (decide (0≤n) && decide (n<vars) && ks.length == 0)) (H++J):=λJ=>by
    have:=hO J;rw[eG]at this;cases ks with
    |nil=>simpa[zbi]using this
    |cons x l=>simpa using this
   have e:((ks.length:Int) == 0)=(ks.length == 0):=by rw[cr];simp
   rw[←e]at oo;by_cases g1:0≤n
   ·by_cases g2:n<vars
    ·simp only[zcG,VT.cs];simp[zbY,g1,g2];simpa[g1,g2]using oo _
    ·simp only[zcG,VT.cs];simp[zbY,g1,g2];simpa[g1,g2]using oo _
   ·simp only[zcG,VT.cs];simp[zbY,g1];simpa[g1]using oo _
  by_cases h5:k=5
  ·subst h5;have eG:zbl dU vars 5 n ks.length=(decide (0≤n) && (match dU[n.toNat]? with | some d=>(ks.length:Int) == d.vars | none=>false)):=rfl;by_cases g1:0≤n
   ·have g1':¬ n<0:=by omega
    by_cases g2:n<dU.length
    ·have fT:n.toNat<dU.length:=by omega
     have g2':¬(dU.length:Int)≤n:=by omega
     have eR:(dU.map Dat.cs)[n.toNat]?.getD []=[.str dU[n.toNat].name,.int .i64 dU[n.toNat].vars,.sl (dU[n.toNat].cons.map Con.cs) .none]:=by simp[fT,Dat.cs]
     rw[List.getElem?_eq_getElem fT]at eG;simp only[g1,cQ,bi]at eG;cases hv:((ks.length:Int) == dU[n.toNat].vars) with
     |false=>
      rw[hv]at eG;have fG:((ks.length:Int) != dU[n.toNat].vars)=true:=by simp[bne,hv]
      simp only[zcG,VT.cs];simp[zbY,g1',g2',g1,g2,fT,Dat.cs,fG];exact hF eG _
     |true=>
      rw[hv]at eG;have fG:((ks.length:Int) != dU[n.toNat].vars)=false:=by simp[bne,hv]
      simp only[zcG,VT.cs];simp[zbY,g1',g2',g1,g2,fT,Dat.cs,fG,zfe,ziP];exact loop eG
    ·have g2':(dU.length:Int)≤n:=by omega
     rw[List.getElem?_eq_none (by omega)]at eG;simp only[zcG,VT.cs];simp[zbY,g1',g2'];exact hF (by rw[eG];simp) _
   ·have g1':n<0:=by omega
    simp only[zcG,VT.cs];simp[zbY,g1'];exact hF (by rw[eG];simp[g1]) _
  by_cases h6:k=6
  ·subst h6;have eG:zbl dU vars 6 n ks.length=(n == 0 && decide (2≤ks.length) && decide (ks.length≤6)):=rfl;simp only[zcG,VT.cs];cases hn:(n == 0) with
   |false=>
    have:(n != 0)=true:=by simp[bne,hn]
    simp[zbY,this];exact hF (by rw[eG,hn];rfl) _
   |true=>
    have ff:(n != 0)=false:=by simp[bne,hn]
    by_cases g1:ks.length<2
    ·have:(ks.length:Int)<2:=by omega
     simp[zbY,ff,this];exact hF (by rw[eG];simp;omega) _
    ·have g1':¬ (ks.length:Int)<2:=by omega
     by_cases g2:6<ks.length
     ·have:(6:Int)<ks.length:=by omega
      simp[zbY,ff,g1',this];exact hF (by rw[eG];simp;omega) _
     ·have:¬ (6:Int)<ks.length:=by omega
      simp[zbY,ff,g1',this,zfe,ziP];exact loop (by rw[eG,hn];simp;omega)
  by_cases mD:k=7∨k=8
  ·have eG:zbl dU vars k n ks.length=(n == 0 && ks.length == 1):=by rcases mD with rfl | rfl <;> rfl
   cases hn:(n == 0) with
   |false=>
    have:(n != 0)=true:=by simp[bne,hn]
    have fin:=hF (by rw[eG,hn];rfl);simp only[zcG,VT.cs];rcases mD with rfl|rfl <;> simp[zbY,zei,this] <;> exact fin _
   |true=>
    have ff:(n != 0)=false:=by simp[bne,hn]
    by_cases g1:ks.length=1
    ·have g1':((ks.length:Int) != 1)=false:=by simp[g1]
     have fin:=loop (by rw[eG,hn,g1];rfl);simp only[zcG,VT.cs];rcases mD with rfl|rfl <;> simp[zbY,zei,ff,g1',zfe,ziP] <;> exact fin
    ·have g1':((ks.length:Int) != 1)=true:=by simp;omega
     have fin:=hF (by rw[eG];simp[g1]);simp only[zcG,VT.cs];rcases mD with rfl|rfl <;> simp[zbY,zei,ff,g1'] <;> exact fin _
  have b1:(k == 1)=false:=by simp;omega
  have b2:(k == 2)=false:=by simp;omega
  have b3:(k == 3)=false:=by simp;omega
  have b4:(k == 4)=false:=by simp;omega
  have b5:(k == 5)=false:=by simp;omega
  have b6:(k == 6)=false:=by simp;omega
  have b7:(k == 7)=false:=by simp;omega
  have b8:(k == 8)=false:=by simp;omega
  by_cases h9:k=9
  ·subst h9;have eG:zbl dU vars 9 n ks.length=(n == 0 && decide (1≤ks.length) && decide (ks.length≤7)):=rfl;simp only[zcG,VT.cs];cases hn:(n == 0) with
   |false=>
    have:(n != 0)=true:=by simp[bne,hn]
    simp[zbY,zei,this];exact hF (by rw[eG,hn];rfl) _
   |true=>
    have ff:(n != 0)=false:=by simp[bne,hn]
    by_cases g1:ks.length<1
    ·have:(ks.length:Int)<1:=by omega
     simp[zbY,zei,ff,this];exact hF (by rw[eG];simp;omega) _
    ·have g1':¬ (ks.length:Int)<1:=by omega
     by_cases g2:7<ks.length
     ·have:(7:Int)<ks.length:=by omega
      simp[zbY,zei,ff,g1',this];exact hF (by rw[eG];simp;omega) _
     ·have:¬ (7:Int)<ks.length:=by omega
      simp[zbY,zei,ff,g1',this,zfe,ziP];exact loop (by rw[eG,hn];simp;omega)
  ·have b9:(k == 9)=false:=by simp;omega
   simp only[zcG,VT.cs];simp[zbY,zei,b1,b2,b3,b4,b5,b6,b7,b8,b9];exact hF (by unfold zbl;simp[b1,b2,b3,b4,b5,b6,b7,b8,b9]) _
theorem zC1(dU:List Dat)(lZ:dU.length≤1000000)(vars:Int)(v:VT)(hb:v.nodes≤1000000000)(H:zaa)(K:AV→zaa→Prop)(hK:K (.bool (za3 dU vars v)) H):ACalls tP zjR [.sl (dU.map Dat.cs) .none,.agg v.cs,.int .i64 vars] H K:=by
 refine ACalls.out (zTB λhs=>?_);have hO:∀J,Out H.length K (.bool (za3 dU vars v)) (H++J):=λJ=>Out.bool rfl (aa _) hs hK;unfold za3 at hO;simp[zC0];refine zDX _ v (aa _) hb _ _ ?_;by_cases h:v.nodes≤200
 ·have h':(v.nodes:Int)≤200:=by omega
  simp[h'];refine zWo dU lZ vars _ v (aa _) hb _ _ ?_;simpa[h]using hO _
 ·have h':¬ (v.nodes:Int)≤200:=by omega
  simp[h'];simpa[h]using hO _
def zb2(es:List (List AV))(id:Nat):AV:=match es with|[]=>.snil|_=>.sl es (.own id)
def zcV(e s:Nat)(n:Nat):zaa:=match n with|0=>[]|n=>[.perm e s n]
theorem zEy(es:List (List AV))(id:Nat):WkA (zb2 es id) (.sl es .none):=by
 cases es with
 |nil=>exact .snil
 |cons e es=>exact .sl _ _
theorem zvs(es:List (List AV)){id n:Nat}(h:es=[]∨id<n):(zb2 es id).scA n=true:=by
 cases es with
 |nil=>rfl
 |cons e es=>
  rcases h with h|h
  ·cases h
  ·simpa[zb2,AV.scA,AV.scB]using h
theorem zEx(es:List (List AV))(id:Nat):(zb2 es id).known=true:=by cases es <;> rfl
theorem zEw(es:List (List AV))(id:Nat):(zb2 es id).cs?=some [zb2 es id]:=by cases es <;> rfl
theorem zEz{e s bytes:Nat}{es:List (List AV)}{y:List AV}{t:Tok}{H:zaa}{K:AV→zaa→Prop}(hy:y.length=s)(hb:(es.length+1)*bytes≤140737488355328)(hl:es.length+1≤9223372036854775807)(hk:K (zb2 (es++[y]) H.length) (H++zcV e s (es.length+1))):zax e s bytes (zb2 es H.length) (.sl [y] t) (H++zcV e s es.length) K:=by
 unfold zax zaO;refine⟨by simpa using hy,?_⟩;cases es with
 |nil=>unfold zaK;simp[zb2,zcV]at *;exact⟨by omega,hk⟩
 |cons x es=>unfold zaK;simp[zb2,zcV]at *;refine⟨⟨by omega,by omega⟩,hk⟩
theorem zvt{e s bytes id n:Nat}{es:List (List AV)}{y:List AV}{t:Tok}{H0 Hh:zaa}{K:AV→zaa→Prop}(hn:n=es.length)(he:Hh=H0++zcV e s n)(d9:id=H0.length)(hy:y.length=s)(hb:(es.length+1)*bytes≤140737488355328)(hl:es.length+1≤9223372036854775807)(hk:K (zb2 (es++[y]) id) (H0++zcV e s (n+1))):zax e s bytes (zb2 es id) (.sl [y] t) Hh K:=by
 subst he d9 hn;exact zEz hy hb hl hk
@[simp] theorem zZk(es:List (List AV))(id:Nat):(zb2 es id).cs?=some [zb2 es id]:=zEw es id
@[simp] theorem zZl(es:List (List AV))(id:Nat):(zb2 es id).known=true:=zEx es id
theorem zfk{v:VT}{k:AV→Prop}:zau 3 [.int .i64 0,.int .i64 0,.snil] 1 [(0,.agg v.cs)] k=k (.sl [v.cs] .full):=by cases v;exact propext aL
theorem zhj{l:List VT}{i:Nat}(h:i<l.length):VT.css (l.take (i+1))=VT.css (l.take i)++[(l[i]).cs]:=by rw[VT.css_map,VT.css_map,af h,aP];rfl
theorem zxH{H J:zaa}{K:AV→zaa→Prop}{k n:Int}{ks:List VT}{id:Nat}(hs:HSc H)(hK:K (.agg (VT.mk k n ks).cs) H):Out H.length K (.agg [.int .i64 k,.int .i64 n,zb2 (VT.css ks) id]) (H++J):=
 Out.at rfl (aa _) hs (WkV.agg (ds:=[.int .i64 k,.int .i64 n,.sl (VT.css ks) .none]) ⟨.refl _,.refl _,zEy _ _,trivial⟩) rfl (by simp[AV.scV,AV.scA,AV.scB]) (by simpa[VT.cs]using hK)
theorem zFr:∀(m:Nat) (v:VT),v.nodes≤m→v.nodes≤1000000→∀(H:zaa) (K:AV→zaa→Prop),K (.agg v.cs) H→ACalls tP zjD [.agg v.cs] H K:=by
 intro m;induction m with
 |zero=>intro v h;have:=v.nodes_pos;omega
 |succ m ih=>
  intro v hv hb H K hK;obtain⟨k,n,ks⟩:=v;have fT:VT.nodesL ks+1≤1000000:=by simpa[VT.nodes]using hb
  have fc:=VT.len_le ks;refine ACalls.out (zPS λhs=>?_);simp[VT.cs,zBJ,zar,zaL,ae];refine zPQ (Inv:=λq t4 H'=>∃i:Nat,i≤ks.length∧q=ks.length-i∧t4=.int .i64 i∧H'=H++[.cells [.int .i64 k,.int .i64 n,.sl (VT.css ks) .none],.cells [.int .i64 0,.int .i64 0,.snil],.cells [.int .i64 k,.int .i64 n,zb2 (VT.css (ks.take i)) (H.length+3)]]++zcV za2 3 i) ks.length ?_ ?_
  ·intro _;exact⟨0,by omega,by omega,rfl,by simp[zcV,zb2,VT.css]⟩
  ·rintro q t4 H' ⟨i,hi,rfl,rfl,rfl⟩ hsc d8 eC Kb ee;by_cases d7:i<ks.length
   ·have eY:=VT.kid_lt (k:=k) (n:=n) d7;simp[zs3,d7];refine zaH (.agg (ks[i]).cs) (λJ=>ih ks[i] (by omega) (by omega) _ _ ⟨rfl,rfl⟩) ?_;rw[zfk];refine zvt (H0:=H++[.cells [.int .i64 k,.int .i64 n,.sl (VT.css ks) .none],.cells [.int .i64 0,.int .i64 0,.snil],.cells [.int .i64 k,.int .i64 n,zb2 (VT.css (ks.take i)) (H.length+3)]]) (n:=i) (by simp;omega) (by simp) (by simp) (by simp) (by simp;omega) (by simp;omega) ?_;rw[←zhj d7];simp;rw[zav (by omega) (by omega)];refine ee _ _ ⟨ks.length-(i+1),by omega,Back.here (by simp[zcV]) ?_ ?_ ⟨_,rfl,i+1,by omega,rfl,by simp,by simp⟩⟩
    ·refine hs.append ?_;simp[AB.sc,zcV,AV.scA,AV.scB];exact zvs _ (.inr (by omega))
    ·simp[zmC,AV.sc,AV.scV,AV.scA,AV.scB]
   ·obtain rfl:i=ks.length:=by omega
    rw[aq]at *;simp[zs3];exact zxH hs hK
theorem zeC(args:List VT):∀ l:List VT,zaQ args l=l.map (subst args)
 |[]=>rfl
 |t::ts=>by rw[zaQ,zeC args ts];rfl
theorem zMQ(args:List VT)(ha:∀x∈args,x.nodes≤1000000)(i8:args.length≤1000000):∀(m:Nat) (v:VT),v.nodes≤m→v.nodes≤1000000→∀(H:zaa) (K:AV→zaa→Prop),K (.agg (subst args v).cs) H→ACalls tP zjt [.agg v.cs,.sl (VT.css args) .none] H K:=by
 intro m;induction m with
 |zero=>intro v h;have:=v.nodes_pos;omega
 |succ m ih=>
  intro v hv hb H K hK;obtain⟨k,n,ks⟩:=v;have fT:VT.nodesL ks+1≤1000000:=by simpa[VT.nodes]using hb
  have fc:=VT.len_le ks;refine ACalls.out (zMO λhs=>?_);by_cases gp:k=4∧0≤n∧n<args.length
  ·obtain⟨rfl,h0,h1⟩:=gp;have hn:n.toNat<args.length:=by omega
   have gk:K (.agg (args[n.toNat]).cs) H:=by rw[subst,aA ⟨rfl,h0,h1⟩,List.getElem?_eq_getElem hn]at hK;exact hK
   simp[VT.cs,zsb,h0,h1,hn];refine zFr _ _ (aa _) (ha _ (ah hn)) _ _ ?_;generalize args[n.toNat]=x at *;obtain⟨k',n',ks'⟩:=x;simp[VT.cs];exact Out.at rfl (aa _) hs .rfl' rfl rfl gk
  ·have gk:K (.agg (VT.mk k n (zaQ args ks)).cs) H:=by rw[subst,ap gp]at hK;exact hK
   have go:∀H1,H1=H++[.cells [.int .i64 k,.int .i64 n,.sl (VT.css ks) .none],.cells [.int .i64 0,.int .i64 0,.snil],.cells [.int .i64 k,.int .i64 n,.snil]]→zse (.sl (VT.css args) .none) (.ptr H.length 0) (.ptr (H.length+1) 0) (.ptr (H.length+2) 0) (.int .i64 0) H1 (Out H.length K):=by
    rintro _ rfl;refine zMM (Inv:=λq t6 H'=>∃i:Nat,i≤ks.length∧q=ks.length-i∧t6=.int .i64 i∧H'=H++[.cells [.int .i64 k,.int .i64 n,.sl (VT.css ks) .none],.cells [.int .i64 0,.int .i64 0,.snil],.cells [.int .i64 k,.int .i64 n,zb2 (VT.css ((zaQ args ks).take i)) (H.length+3)]]++zcV za2 3 i) ks.length ?_ ?_
    ·intro _;exact⟨0,by omega,by omega,rfl,by simp[zcV,zb2,VT.css]⟩
    ·rintro q t6 H' ⟨i,hi,rfl,rfl,rfl⟩ hsc d8 eC Kb ee;by_cases d7:i<ks.length
     ·have eY:=VT.kid_lt (k:=k) (n:=n) d7;have eE:i<(zaQ args ks).length:=by rw[zeC];simpa using d7
      have nN:(zaQ args ks)[i]=subst args ks[i]:=by simp[zeC]
      simp[zsc,d7];refine zaH (.agg (subst args ks[i]).cs) (λJ=>ih ks[i] (by omega) (by omega) _ _ ⟨rfl,rfl⟩) ?_;rw[zfk,←nN];refine zvt (H0:=H++[.cells [.int .i64 k,.int .i64 n,.sl (VT.css ks) .none],.cells [.int .i64 0,.int .i64 0,.snil],.cells [.int .i64 k,.int .i64 n,zb2 (VT.css ((zaQ args ks).take i)) (H.length+3)]]) (n:=i) (by simp;omega) (by simp) (by simp) (by simp) (by simp;omega) (by simp;omega) ?_;rw[←zhj eE];simp;rw[zav (by omega) (by omega)];refine ee _ _ ⟨ks.length-(i+1),by omega,Back.here (by simp[zcV]) ?_ ?_ ⟨_,rfl,i+1,by omega,rfl,by simp,by simp⟩⟩
      ·refine hs.append ?_;simp[AB.sc,zcV,AV.scA,AV.scB];exact zvs _ (.inr (by omega))
      ·simp[zlI,AV.sc,AV.scV,AV.scA,AV.scB]
     ·obtain rfl:i=ks.length:=by omega
      have e:(zaQ args ks).take ks.length=zaQ args ks:=am (by rw[zeC];simp);rw[e];simp[zsc];exact zxH hs gk
   simp only[VT.cs,zsb];by_cases h4:k=4
   ·subst h4;by_cases h0:0≤n
    ·have h1:¬n<args.length:=λh=>gp ⟨rfl,h0,h⟩;simp[h0,h1,zar,zaL,ae];exact go _ rfl
    ·simp[h0,zar,zaL,ae];exact go _ rfl
   ·have mE:(k == 4)=false:=by simpa using h4
    simp[mE,zar,zaL,ae];exact go _ rfl
mutual
theorem zyM{args:List VT}{M:Nat}(h1:1≤M)(ha:∀ x∈args,x.nodes≤M):∀ v:VT,(subst args v).nodes≤v.nodes*M
 |.mk k n ks=>by
  unfold subst;split
  ·rename_i h;have hn:n.toNat<args.length:=by omega
   rw[List.getElem?_eq_getElem hn];have:=ha _ (ah hn);have h2:M≤(VT.mk k n ks).nodes*M:=by have:=(VT.mk k n ks).nodes_pos;exact Nat.le_mul_of_pos_left M this
   simp only[Option.getD_some];omega
  ·have:=zyJ h1 ha ks;simp only[VT.nodes,cp];omega
theorem zyJ{args:List VT}{M:Nat}(h1:1≤M)(ha:∀ x∈args,x.nodes≤M):∀ l:List VT,VT.nodesL (zaQ args l)≤VT.nodesL l*M
 |[]=>by simp[zaQ,VT.nodesL]
 |t::ts=>by have h2:=zyM h1 ha t;have h3:=zyJ h1 ha ts;simp only[zaQ,VT.nodesL,aZ];omega
end
theorem zhw{k n:Int}{ks:List VT}:∀x∈ks,x.nodes≤(VT.mk k n ks).nodes:=by intro x hx;obtain⟨i,hi,rfl⟩:=c6.1 hx;exact bN (VT.kid_lt hi)
theorem zje{k n:Int}{ks:List VT}:∀x∈ks,x.nodes<(VT.mk k n ks).nodes:=by intro x hx;obtain⟨i,hi,rfl⟩:=c6.1 hx;exact VT.kid_lt hi
theorem zy7{H:zaa}{x y:AB}:H++[x,y]=(H++[x])++[y]:=by simp
theorem zdc(dU:List Dat)(k n:Int)(ks:List VT)(c:Int):zbr dU (.mk k n ks) c=(if k=5∧0≤n∧0≤c then
  match dU[n.toNat]? with
  | some d=>if (ks.length:Int)=d.vars then
    match d.cons[c.toNat]? with
    |some co=>if (co.args.map (subst ks)).all (λx=>decide (x.nodes≤200))=true then some (co.args.map (subst ks)) else none
    |none=>none
   else none
  |none=>none
 else none):=rfl
def zcC(o:Option (List VT)):AV:=match o with
 |some l=>.tup [.sl (VT.css l) .none,.bool true]
 |none=>.tup [.sl [] .none,.bool false]
theorem zw1{α:Type}{l:List α}{i:Nat}(h:i<l.length){p:α→Prop}(h1:∀x∈l.take i,p x)(h2:p l[i]):∀x∈l.take (i+1),p x:=by
 rw[af h];intro x hx;rcases aX.1 hx with hx|hx
 ·exact h1 x hx
 ·simp at hx;subst hx;exact h2
theorem zbh(v:VT):∃a b c,v.cs=[a,b,c]∧a.known=true∧b.known=true∧c.known=true:=by obtain⟨k,n,ks⟩:=v;exact⟨_,_,_,rfl,rfl,rfl,rfl⟩
theorem zu1(dU:List Dat)(lZ:dU.length≤1000000)(pg:∀ d∈dU,∀ c∈d.cons,c.args.length≤1000∧∀ x∈c.args,x.nodes≤1000)(hdc:∀ d∈dU,d.cons.length≤1000000)(t:VT)(ht:t.nodes≤1000)(c:Int)(H:zaa)(K:AV→zaa→Prop)(hK:K (zcC (zbr dU t c)) H):
  ACalls tP zh5 [.sl (dU.map Dat.cs) .none,.agg t.cs,.int .i64 c] H K:=by
 refine ACalls.out (zWz λhs=>?_);obtain⟨k,n,ks⟩:=t;have gC:VT.nodesL ks+1≤1000:=by simpa[VT.nodes]using ht
 have iM:=VT.len_le ks;have hF:zbr dU (.mk k n ks) c=none→∀J,Out H.length K (.tup [.snil,.bool false]) (H++J):=λh J=>by rw[h]at hK;exact Out.tup hs hK ⟨zdS,zaY rfl rfl,trivial⟩
 have hFF:∀J,zbr dU (.mk k n ks) c=none→Out H.length K (.tup [.snil,.bool false]) (H++J):=λJ h=>hF h J;simp only[VT.cs,zD0];by_cases h5:k=5;case neg=>
  have:(k != 5)=true:=by simpa using h5
  simp[this,AV.isV];exact hF (by rw[zdc,ap (λh=>h5 h.1)]) _
 subst h5;by_cases h0:n<0
 ·simp[h0,AV.isV];exact hF (by rw[zdc,ap (λh=>by have:=h.2.1;omega)]) _
 by_cases h1:(dU.length:Int)≤n
 ·simp[h0,h1,AV.isV];exact hF (by
   rw[zdc];split
   ·rw[List.getElem?_eq_none (by omega)]
   ·rfl) _
 have hn:n.toNat<dU.length:=by omega
 have f5:n<dU.length:=by omega
 have ku:0≤n:=by omega
 generalize gF:dU[n.toNat]=d at *;have hd:d∈dU:=by rw[←gF];exact ah hn
 have ek:dU[n.toNat]?=some d:=by rw[List.getElem?_eq_getElem hn,gF]
 cases hv:((ks.length:Int) == d.vars) with
 |false=>
  have fG:((ks.length:Int) != d.vars)=true:=by simp[bne,hv]
  simp[h0,h1,ku,f5,hn,gF,Dat.cs,fG,AV.isV,ek];exact hF (by
   rw[zdc];split
   ·rw[ek];simp only;rw[ap (by simpa using hv)]
   ·rfl) _
 |true=>
 have fG:((ks.length:Int) != d.vars)=false:=by simp[bne,hv]
 have ph:(ks.length:Int)=d.vars:=by simpa using hv
 by_cases iV:c<0
 ·simp[h0,h1,ku,f5,hn,gF,Dat.cs,fG,AV.isV,ek,iV];exact hF (by rw[zdc,ap (λh=>by have:=h.2.2;omega)]) _
 have iX:∀o,(match d.cons[c.toNat]? with|some k=>if (k.args.map (subst ks)).all (λx=>decide (x.nodes≤200))=true then some (k.args.map (subst ks)) else none|none=>none)=o→zbr dU (.mk 5 n ks) c=o:=λo h=>by rw[zdc,aA ⟨rfl,ku,by omega⟩,ek];simp only;rw[aA ph];exact h
 by_cases fE:(d.cons.length:Int)≤c
 ·simp[h0,h1,ku,f5,hn,gF,Dat.cs,fG,AV.isV,ek,iV,fE];exact hF (iX none (by rw[List.getElem?_eq_none (by omega)])) _
 have fY:c.toNat<d.cons.length:=by omega
 have fB:c<d.cons.length:=by omega
 have kv:0≤c:=by omega
 generalize fS:d.cons[c.toNat]=co at *;have g9:co∈d.cons:=by rw[←fS];exact ah fY
 have nw:d.cons[c.toNat]?=some co:=by rw[List.getElem?_eq_getElem fY,fS]
 obtain⟨i8,nO⟩:=pg d hd co g9;have gW:=λo=>iX o;rw[nw]at gW;simp only at gW;have iR:∀x∈co.args,(subst ks x).nodes≤1000000:=λx hx=>by have h2:=zyM (M:=1000) (by omega) (λy hy=>ar (zhw (k:=5) (n:=n) y hy) ht) x;have h3:=nO x hx;have:x.nodes*1000≤1000*1000:=au _ h3;omega
 simp[h0,h1,ku,f5,hn,gF,Dat.cs,fG,AV.isV,ek,iV,fE,kv,fB,fY,fS,Con.cs,nw];have et:∀m,HSc (H++[.cells [.int .i64 5,.int .i64 n,.sl (VT.css ks) .none],.perm za2 3 m]):=λm=>hs.append rfl;unfold zog;refine ALoop.own 8 za2 3 rfl ?_;have f7:(H++[AB.cells [.int .i64 5,.int .i64 n,.sl (VT.css ks) .none]]).length=H.length+1:=by simp
 rw[f7,aw];show zog (.ptr H.length 0) (.sl [] (.own (H.length+1))) (.sl (VT.css co.args) .none) (.int .i64 co.args.length) (.int .i64 0) (H++[.cells [.int .i64 5,.int .i64 n,.sl (VT.css ks) .none],.perm za2 3 0]) (Out H.length K);refine zWx (Inv:=λq t8 t65 H'=>∃i:Nat,i≤co.args.length∧q=co.args.length-i∧t65=.int .i64 i∧t8=.sl (VT.css ((co.args.map (subst ks)).take i)) (.own (H.length+1))∧(∀x∈co.args.take i,(subst ks x).nodes≤200)∧H'=H++[.cells [.int .i64 5,.int .i64 n,.sl (VT.css ks) .none],.perm za2 3 i]) co.args.length ?_ ?_
 ·intro _;exact⟨0,by omega,by omega,rfl,by simp[VT.css],by simp,rfl⟩
 ·rintro q t8 t65 H' ⟨i,hi,rfl,rfl,rfl,eB,rfl⟩ hsc d8 eC Kb ee;by_cases d7:i<co.args.length
  ·have e7:=ah d7;have fC:=iR _ e7;obtain⟨x,y,z,ei,hx,hy,hz⟩:=zbh co.args[i];simp[zuZ,d7,ei,hx,hy,hz];rw[←ei];refine zMQ ks (λy hy=>by have:=zhw (k:=5) (n:=n) y hy;omega) (by omega) _ co.args[i] (aa _) (by have:=nO _ e7;omega) _ _ ?_;obtain⟨x',y',z',hvx',jQ,ic,lG⟩:=zbh (subst ks co.args[i]);simp[hvx',jQ,ic,lG];rw[←hvx'];refine zDX _ _ (aa _) (by omega) _ _ ?_;by_cases gq:(subst ks co.args[i]).nodes≤200
   ·have kx:¬ (200:Int)<(subst ks co.args[i]).nodes:=by omega
    simp[kx];rw[zfk];simp[zax,zaO,zaK];refine⟨by omega,by omega,?_⟩;rw[zav (by omega) (by omega),show min i co.args.length=i by omega];refine ee _ _ ⟨co.args.length-(i+1),by omega,Back.at (H2:=H++[.cells [.int .i64 5,.int .i64 n,.sl (VT.css ks) .none],.perm za2 3 (i+1)]) (J:=[_,_]) (by simp;exact⟨rfl,rfl⟩) (by simp) (et _) ?_ ⟨_,_,rfl,i+1,by omega,rfl,by simp,?_,zw1 d7 eB gq,rfl⟩⟩
    ·simp[zof,AV.sc,AV.scV,AV.scA,AV.scB]
    ·rw[zhj (by simpa using d7)];simp
   ·have kx:(200:Int)<(subst ks co.args[i]).nodes:=by omega
    simp[kx,AV.isV];refine hF (gW none ?_) _;rw[ap];intro mF;have:=ak.1 mF (subst ks co.args[i]) (aC.2 ⟨_,e7,rfl⟩);exact gq (bY this)
  ·obtain rfl:i=co.args.length:=by omega
   rw[aq]at eB;rw[am (by simp)];simp[zuZ,AV.isV];have ke:=gW (some (co.args.map (subst ks))) (aA (ak.2 λy hy=>by
    obtain⟨x,hx,rfl⟩:=aC.1 hy;exact bq (eB x hx)))
   rw[ke]at hK;exact Out.tup hs hK ⟨slV,zaY rfl rfl,trivial⟩
theorem zQF:∀(m:Nat) (v:VT),v.nodes≤m→v.nodes≤1000000000→∀(H:zaa) (K:AV→zaa→Prop),K (.int .i64 v.nodes) H→ACalls tP zjH [.agg v.cs] H K:=by
 intro m;induction m with
 |zero=>intro v h;have:=v.nodes_pos;omega
 |succ m ih=>
  intro v hv hb H K hK;obtain⟨k,n,ks⟩:=v;have fT:VT.nodesL ks+1≤1000000000:=by simpa[VT.nodes]using hb
  have fc:=VT.len_le ks;refine ACalls.out (zQD λhs=>?_);simp[VT.cs,zB0];refine zQB (Inv:=λq t3 t4 H'=>∃i:Nat,i≤ks.length∧q=ks.length-i∧t4=.int .i64 i∧t3=.int .i64 (1+VT.nodesL (ks.take i):Nat)∧H'=H++[.cells [.int .i64 k,.int .i64 n,.sl (VT.css ks) .none]]) ks.length ?_ ?_
  ·intro _;exact⟨0,by omega,by omega,rfl,by simp[VT.nodesL],rfl⟩
  ·rintro q t3 t4 H' ⟨i,hi,rfl,rfl,rfl,rfl⟩ hsc d8 eC Kb ee;by_cases d7:i<ks.length
   ·have eY:=VT.kid_lt (k:=k) (n:=n) d7;have h1:=VT.nodesL_take d7;have h2:=VT.nodesL_take_le ks (i+1);obtain⟨x,y,z,ei,hx,hy,hz⟩:=zbh ks[i];simp[ztg,d7,ei,hx,hy,hz];rw[←ei];refine ih ks[i] (by omega) (by omega) _ _ ?_;simp;rw[zav (by omega) (by omega),zav (by omega) (by omega),zy7];refine ee _ _ ⟨ks.length-(i+1),by omega,Back.same (by simp) hsc ?_ ⟨_,_,rfl,i+1,by omega,rfl,by simp,?_,rfl⟩⟩
    ·simp[zmK,AV.sc,AV.scV,AV.scA,AV.scB]
    ·rw[h1];congr 1;omega
   ·obtain rfl:i=ks.length:=by omega
    simp[ztg];refine Out.int rfl (aa _) hs ?_;simpa[VT.nodes,Int.add_comm]using hK
def zcM(f:VT→VT→Bool):List VT→List VT→Bool
 |[],[]=>true
 |a::x,b::y=>f a b && zcM f x y
 |_,_=>false
theorem zoU{f:VT→VT→Bool}:∀ {x y:List VT},x.length≠y.length→zcM f x y=false
 |[],[],h=>(h rfl).elim
 |a::x,b::y,h=>by have:x.length≠y.length:=λe=>h (by simp[e]);simp[zcM,zoU this]
 |[],_::_,_=>rfl
 |_::_,[],_=>rfl
theorem zF6(x:List VT)(hl:x.length≤1000000000)(fv:AV)(H:zaa)(K:AV→zaa→Prop)(mt:fv.sc H.length=true)(Inv:Nat→zaa→Prop)(h0:Inv 0 H)(step:∀(i:Nat) (h:i<x.length) (H':zaa),H.length≤H'.length→Inv i H'→aCallV tP fv [.agg (x[i]).cs] H' λr H''=>(r=.bool false∧Inv (i+1) H'')∨(r=.bool true∧K (.int .i64 i) H''))(fin:∀H',Inv x.length H'→K (.int .i64 (-1)) H'):ACalls tP zpY [.sl (VT.css x) .none,fv] H K:=by
 refine zRs λhs=>?_;simp[zCd];refine zRq (Inv:=λq t8 H'=>∃i:Nat,i≤x.length∧q=x.length-i∧t8=.int .i64 i∧H.length≤H'.length∧Inv i H') x.length ?_ ?_
 ·intro _;exact⟨0,by omega,by omega,rfl,aa _,h0⟩
 ·rintro q t8 H' ⟨i,hi,rfl,rfl,eH,hI⟩ hsc d8 eC Kb ee;by_cases d7:i<x.length
  ·simp[ztA,d7];refine (step i d7 H' eH hI).mono' λr H'' eA hle' hr=>?_;rcases hr with ⟨rfl,hI'⟩ | ⟨rfl,hk⟩
   ·simp;rw[zav (by omega) (by omega)];refine ee _ _ ⟨x.length-(i+1),by omega,Back.here (by omega) eA ?_ ⟨_,rfl,i+1,by omega,rfl,by simp,by omega,hI'⟩⟩;simp[zmY,AV.sc,AV.scV,AV.scA,AV.scB];exact zcf (by omega) mt
   ·simpa using hk
  ·obtain rfl:i=x.length:=by omega
   simp[ztA];exact fin H' hI
theorem zoM(x:List VT)(hl:x.length≤1000000000)(fv:AV)(H:zaa)(K:AV→zaa→Prop)(mt:fv.sc H.length=true)(Inv:Nat→zaa→Prop)(h0:Inv 0 H)(step:∀(i:Nat) (h:i<x.length) (H':zaa),H.length≤H'.length→Inv i H'→aCallV tP fv [.agg (x[i]).cs] H' λr H''=>(r=.bool false∧Inv (i+1) H'')∨(r=.bool true∧K (.bool true) H''))(fin:∀H',Inv x.length H'→K (.bool false) H'):ACalls tP zfy [.sl (VT.css x) .none,fv] H K:=by
 refine zQv λhs=>?_;unfold zBY;refine zF6 x hl fv H _ mt Inv h0 (λi h H' eH hI=>(step i h H' eH hI).mono' λr H'' _ _ hr=>?_) (λH' hI=>?_)
 ·rcases hr with hr | ⟨h1,h2⟩
  ·exact .inl hr
  ·refine .inr ⟨h1,?_⟩;have:decide ((0:Int)≤i)=true:=by simp
   simpa using h2
 ·simpa using fin H' hI
theorem zE8:zd1 tP zjG=true:=by kernel_rfl
section
variable (dU:List Dat) (vars:Int)
theorem zJs:∀(l:List VT) (i:Nat) (h:i<l.length),zbi dU vars l=true→za7 dU vars l[i]=true:=by
 intro l;induction l with
 |nil=>intro i h;simp at h
 |cons a l ih=>
  intro i h hl;simp[zbi]at hl;cases i with
  |zero=>exact hl.1
  |succ i=>exact ih i (by simpa using h) hl.2
def zbT(left:Int):AB:=.cells [.sl (dU.map Dat.cs) .none,.int .i64 vars,.int .i64 left]
theorem zJC:∀ (m:Nat) (v:VT),v.nodes≤m→v.nodes≤1000000000→∀ (left:Int),left≤1000000→-1≤left→∀ (H:zaa) (id:Nat),H[id]?=some (zbT dU vars left)→∀ (K:AV→zaa→Prop),
  (za7 dU vars v=true→(v.nodes:Int)≤left→K (.bool true) (H.set id (zbT dU vars (left-v.nodes))))→(¬(za7 dU vars v=true∧(v.nodes:Int)≤left)→∀l',K (.bool false) (H.set id (zbT dU vars l'))) →
  ACalls tP zjw [.ptr id 0,.agg v.cs] H K:=by
 intro m;induction m with
 |zero=>intro v h;have:=v.nodes_pos;omega
 |succ m ih=>
  intro v hv hb left i7 iS H id d9 K hK hF;obtain⟨k,n,ks⟩:=v;have d7:=zbk d9;have ip:(VT.mk k n ks).nodes=VT.nodesL ks+1:=by simp[VT.nodes]
  have fc:=VT.len_le ks;refine ACalls.out (zOw λhs=>?_)
  -- the heap within: the receiver's copy and the type's
  generalize hJ:([.cells [.ptr id 0],.cells [.int .i64 k,.int .i64 n,.sl (VT.css ks) .none]]:zaa)=J;have l8:J[0]?=some (.cells [.ptr id 0]):=by subst hJ;rfl
  have jI:J[1]?=some (.cells [.int .i64 k,.int .i64 n,.sl (VT.css ks) .none]):=by subst hJ;rfl
  have ek:∀l',(H.set id (zbT dU vars l')++J)[id]?=some (zbT dU vars l'):=λl'=>zbj (zdB _ d9);have bad:(¬(za7 dU vars (.mk k n ks)=true∧((VT.mk k n ks).nodes:Int)≤left))→∀l',Out H.length K (.bool false) (H.set id (zbT dU vars l')++J):=λh l'=>
   Out.bool rfl (by simp) (hs.set rfl) (hF h l')
  have badS:zbl dU vars k n ks.length=false→∀l',Out H.length K (.bool false) (H.set id (zbT dU vars l')++J):=λh l'=>bad (λ⟨h1,_⟩=>by simp[za7,h]at h1) l'
  -- the arguments
  have args:zbl dU vars k n ks.length=true→1≤left→∀ KK:AV→zaa→Prop,(∀ H',Out H.length K (.bool true) H'→KK (.bool false) H')→(∀ H',Out H.length K (.bool false) H'→KK (.bool true) H') →
    ACalls tP zfy [.sl (VT.css ks) .none,.fn zjG [.ptr H.length 0]] (H.set id (zbT dU vars (left-1))++J) KK:=by
   intro eG h1 KK hKf hKt;subst hJ;refine zoM ks (by omega) _ _ _ (by simp[AV.sc,AV.scV,AV.scA,AV.scB]) (λi H'=>(VT.nodesL (ks.take i):Int)+1≤left∧zbi dU vars (ks.take i)=true∧H'=H.set id (zbT dU vars (left-1-VT.nodesL (ks.take i)))++[.cells [.ptr id 0],.cells [.int .i64 k,.int .i64 n,.sl (VT.css ks) .none]]) ⟨by simp[VT.nodesL];omega,by simp[zbi],by simp[VT.nodesL]⟩ ?_ ?_
   ·rintro i hi H' eH ⟨fR,fq,rfl⟩;have eY:=VT.kid_lt (k:=k) (n:=n) hi;have h1:=VT.nodesL_take hi;have h2:=VT.nodesL_take_le ks (i+1);have hokL:zbi dU vars (ks.take (i+1))=(zbi dU vars (ks.take i) && za7 dU vars ks[i]):=by
     rw[af hi];have:∀(l:List VT) (x:VT),zbi dU vars (l++[x])=(zbi dU vars l && za7 dU vars x):=by
      intro l x;induction l with
      |nil=>simp[zbi]
      |cons a l ih=>simp[zbi,ih,Bool.and_assoc]
     exact this _ _
    simp only[aCallV,zE8,List.singleton_append];refine ACalls.out (zQy λfx=>?_);have gK:∀l',HSc (H.set id (zbT dU vars l')++[.cells [.ptr id 0],.cells [.int .i64 k,.int .i64 n,.sl (VT.css ks) .none]]):=λl'=>(hs.set rfl).append (by simp[AB.sc,AV.scA,AV.scB];omega);obtain⟨x1,x2,x3,ei,fF,e8,fC⟩:=zbh ks[i];have hll2:(H.set id (zbT dU vars (left-1-VT.nodesL (ks.take i)))).length=H.length:=by simp
    have ky:(H.set id (zbT dU vars (left-1-VT.nodesL (ks.take i)))++[AB.cells [.ptr id 0],.cells [.int .i64 k,.int .i64 n,.sl (VT.css ks) .none],.cells [x1,x2,x3]])[H.length]?=some (.cells [.ptr id 0]):=by rw[List.getElem?_append_right (by simp)];simp
    have pi:(H.set id (zbT dU vars (left-1-VT.nodesL (ks.take i)))++[AB.cells [.ptr id 0],.cells [.int .i64 k,.int .i64 n,.sl (VT.css ks) .none],.cells [x1,x2,x3]])[H.length+2]?=some (.cells [x1,x2,x3]):=by rw[List.getElem?_append_right (by simp)];simp
    simp[zBZ,ei,ky,pi,hll2];rw[←ei];refine ih ks[i] (by omega) (by omega) (left-1-VT.nodesL (ks.take i)) (by omega) (by omega) _ id (zbj (zdB _ d9)) _ ?_ ?_
    ·intro ho hle2;rw[zek _ (zdB _ d9),bG,show left-1-(VT.nodesL (ks.take i):Int)-(ks[i]).nodes=left-1-VT.nodesL (ks.take (i+1)) by omega];simp;refine Out.bool (J:=[_]) (H2:=H.set id (zbT dU vars (left-1-VT.nodesL (ks.take (i+1))))++[.cells [.ptr id 0],.cells [.int .i64 k,.int .i64 n,.sl (VT.css ks) .none]]) (by simp;rfl) (by simp) (gK _) (.inl ⟨rfl,by omega,by rw[hokL,fq,ho];rfl,rfl⟩)
    ·intro ho l';rw[zek _ (zdB _ d9),bG];simp;have gN:¬(za7 dU vars (.mk k n ks)=true∧((VT.mk k n ks).nodes:Int)≤left):=by
      rintro⟨g1,g2⟩;have eB:zbi dU vars ks=true:=by simp[za7]at g1;exact g1.2
      exact ho ⟨zJs dU vars ks i hi eB,by omega⟩
     have pj:=bad gN l';exact Out.bool (J:=[_]) (H2:=H.set id (zbT dU vars l')++[.cells [.ptr id 0],.cells [.int .i64 k,.int .i64 n,.sl (VT.css ks) .none]]) (by simp;rfl) (by simp) (gK _) (.inr ⟨rfl,hKt _ pj⟩)
   ·rintro H' ⟨fR,fq,rfl⟩;rw[aq]at *;refine hKf _ ?_;refine Out.bool rfl (by simp) (hs.set rfl) ?_;have:=hK (by simp[za7,eG,fq]) (by omega);rw[ip]at this;rw[show left-1-(VT.nodesL ks:Int)=left-((VT.nodesL ks+1:Nat):Int) by omega];exact this
  -- behind the shape
  have fin:∀ lo hi:Int,(k≠4→k≠5→n≠0→zbl dU vars k n ks.length=false)→((ks.length:Int)<lo∨hi<(ks.length:Int)→zbl dU vars k n ks.length=false)→1≤left →
    ((k=4∨k=5∨n=0)→lo≤(ks.length:Int)→(ks.length:Int)≤hi→zbl dU vars k n ks.length=true) →
    zgL (.ptr H.length 0) (.ptr (H.length+1) 0) (.int .i64 lo) (.int .i64 hi) (H.set id (zbT dU vars (left-1))++J) (Out H.length K):=by
   intro lo hi hz hr h1 eh;have oq:(H.set id (zbT dU vars (left-1))++J)[H.length+1]?=some (.cells [.int .i64 k,.int .i64 n,.sl (VT.css ks) .none]):=by rw[List.getElem?_append_right (by simp)];subst hJ;simp
   by_cases eq:k=4∨k=5∨n=0
   ·have h3:(k != 4)=false∨((k != 4)=true∧(k != 5)=false)∨((k != 4)=true∧(k != 5)=true∧(n != 0)=false):=by
     by_cases g4:k=4
     ·left;simp[g4]
     ·by_cases g5:k=5
      ·right;left;simp[g5]
      ·right;right;simp[g4,g5];omega
    rcases h3 with g|⟨g,g'⟩|⟨g,g',g''⟩;case' inl=>simp[zgL,oq,jI,g]
    case' inr.inl=>simp[zgL,oq,jI,g,g']
    case' inr.inr=>simp[zgL,oq,jI,g,g',g'']
    all_goals
     by_cases iH:(ks.length:Int)<lo
     ·simp[iH];exact badS (hr (.inl iH)) _
     ·by_cases iG:hi<(ks.length:Int)
      ·simp[iH,iG,jI];exact badS (hr (.inr iG)) _
      ·simp[iH,iG,AV.isB,jI];refine args (eh eq (by omega) (by omega)) h1 _ (λH' ho=>?_) (λH' ho=>?_) <;> simpa using ho
   ·have g:(k != 4)=true:=by simp;omega
    have g':(k != 5)=true:=by simp;omega
    have g'':(n != 0)=true:=by simp;omega
    simp[zgL,oq,jI,g,g',g''];exact badS (hz (by omega) (by omega) (by omega)) _
  have start:(H++J)[id]?=some (zbT dU vars left):=zbj d9;have jm:zsD (.ptr H.length 0) (.ptr (H.length+1) 0) (H.set id (zbT dU vars (left-1))++J) (Out H.length K):=by
   refine zOo λfx=>?_;have lH:=ek (left-1);unfold zbT at lH;by_cases h0:left-1<0
   ·simp[zsE,l8,zbT,lH,h0];exact bad (λh=>by have:=h.2;rw[ip]at this;omega) _
   have h1:1≤left:=by omega
   simp[zsE,l8,jI,zbT,lH,h0];refine zOr λ_=>?_;have gb:=λlo hi a b c=>fin lo hi a b h1 c;unfold zbT at gb badS
   -- the three without arguments
   by_cases jH:k=1∨k=2∨k=3
   ·have eG:zbl dU vars k n ks.length=(n == 0 && ks.length == 0):=by rcases jH with rfl | rfl | rfl <;> rfl
    have:=gb 0 0 (λ_ _ hn=>by rw[eG];simp[hn]) (λh=>by rw[eG];simp;intro _;rintro rfl;simp at h) (λh h2 h3=>by
     have hn:n=0:=by omega
     have hl:ks.length=0:=by omega
     rw[eG,hn,hl];rfl)
    rcases jH with rfl|rfl|rfl <;> simp[zsF] <;> refine zBl λ_=>?_ <;> simp[zdU,zdF] <;> exact this
   have b1:(k == 1)=false:=by simp;omega
   have b2:(k == 2)=false:=by simp;omega
   have b3:(k == 3)=false:=by simp;omega
   simp[zsF,b1,b2,b3];refine zBl λ_=>?_;by_cases h4:k=4
   ·subst h4;have eG:zbl dU vars 4 n ks.length=(decide (0≤n) && decide (n<vars) && ks.length == 0):=rfl;by_cases g1:n<0
    ·simp[zdU,l8,jI,lH,g1];exact badS (by rw[eG];simp;omega) _
    by_cases g2:vars≤n
    ·simp[zdU,l8,jI,lH,g1,g2];exact badS (by rw[eG];simp;omega) _
    have:=gb 0 0 (λh=>(h rfl).elim) (λh=>by rw[eG];simp;intro _ _;rintro rfl;simp at h) (λh h2 h3=>by
     have hl:ks.length=0:=by omega
     rw[eG,hl];simp;omega)
    simp[zdU,l8,jI,lH,g1,g2,zdF];exact this
   have b4:(k == 4)=false:=by simp;omega
   by_cases h5:k=5
   ·subst h5;have eG:zbl dU vars 5 n ks.length=(decide (0≤n) && (match dU[n.toNat]? with | some d=>(ks.length:Int) == d.vars | none=>false)):=rfl;by_cases g1:n<0
    ·simp[zdU,l8,jI,lH,g1];exact badS (by rw[eG];simp;omega) _
    by_cases g2:(dU.length:Int)≤n
    ·simp[zdU,l8,jI,lH,g1,g2];exact badS (by rw[eG,List.getElem?_eq_none (by omega)];simp) _
    have fT:n.toNat<dU.length:=by omega
    have g2':n<dU.length:=by omega
    have g1':0≤n:=by omega
    rw[List.getElem?_eq_getElem fT]at eG;simp only[g1',cQ,bi]at eG;have:=gb (dU[n.toNat]).vars (dU[n.toNat]).vars (λ_ h=>(h rfl).elim) (λh=>by rw[eG];simp;omega) (λh h2 h3=>by rw[eG];simp;omega);simp[zdU,l8,jI,lH,g1,g2,g1',g2',fT,Dat.cs,zdF];exact this
   have b5:(k == 5)=false:=by simp;omega
   by_cases h6:k=6
   ·subst h6;have eG:zbl dU vars 6 n ks.length=(n == 0 && decide (2≤ks.length) && decide (ks.length≤6)):=rfl;have:=gb 2 6 (λ_ _ hn=>by rw[eG];simp[hn]) (λh=>by rw[eG];simp;intros;omega) (λh h2 h3=>by rw[eG];simp;omega);simp[zdU,zdF];exact this
   have b6:(k == 6)=false:=by simp;omega
   by_cases mD:k=7∨k=8
   ·have eG:zbl dU vars k n ks.length=(n == 0 && ks.length == 1):=by rcases mD with rfl | rfl <;> rfl
    have:=gb 1 1 (λ_ _ hn=>by rw[eG];simp[hn]) (λh=>by rw[eG];simp;intros;omega) (λh h2 h3=>by rw[eG];simp;omega);rcases mD with rfl|rfl <;> simp[zdU] <;> refine zBm λ_=>?_ <;> simp[zl8,zdF] <;> exact this
   have b7:(k == 7)=false:=by simp;omega
   have b8:(k == 8)=false:=by simp;omega
   simp[zdU,b4,b5,b6,b7,b8];refine zBm λ_=>?_;by_cases h9:k=9
   ·subst h9;have eG:zbl dU vars 9 n ks.length=(n == 0 && decide (1≤ks.length) && decide (ks.length≤7)):=rfl;have:=gb 1 7 (λ_ _ hn=>by rw[eG];simp[hn]) (λh=>by rw[eG];simp;intros;omega) (λh h2 h3=>by rw[eG];simp;omega);simp[zl8,zdF];exact this
   ·have b9:(k == 9)=false:=by simp;omega
    simp[zl8,b9];exact badS (by unfold zbl;simp[b1,b2,b3,b4,b5,b6,b7,b8,b9]) _
  subst hJ;unfold zbT at start;simp[zBj,VT.cs,start];rw[zav (by omega) (by omega),zek _ d9];exact jm
theorem zz7(v:VT)(hb:v.nodes≤1000000000)(H:zaa)(K:AV→zaa→Prop)(hK:K (.bool (za3 dU vars v)) H):ACalls tP zhI [.sl (dU.map Dat.cs) .none,.agg v.cs,.int .i64 vars] H K:=by
 refine ACalls.out (zLd λhs=>?_);have hO:∀J,Out H.length K (.bool (za3 dU vars v)) (H++J):=λJ=>Out.bool rfl (aa _) hs hK;obtain⟨x1,x2,x3,ei,fF,e8,fC⟩:=zbh v;simp[zz6,ei,zar,zaL];rw[←ei];refine zJC dU vars _ v (aa _) hb 200 (by omega) (by omega) _ (H.length+1) (by simp[zbT]) _ ?_ ?_
 ·intro ho hn;have:za3 dU vars v=true:=by simp[za3,ho];omega
  rw[this]at hO;simp;exact hO _
 ·intro gN l';have:za3 dU vars v=false:=by
   cases h:za3 dU vars v with
   |false=>rfl
   |true=>simp[za3]at h;exact(gN ⟨h.2,by omega⟩).elim
  rw[this]at hO;simp;exact hO _
end
mutual
theorem zyN:∀ v:VT,subst [] v=v
 |.mk k n ks=>by rw[subst,ap (by rintro⟨_,h1,h2⟩;simp at h2;omega),zyL ks]
theorem zyL:∀ l:List VT,zaQ [] l=l
 |[]=>rfl
 |t::ts=>by rw[zaQ,zyN t,zyL ts]
end
theorem zQT:∀(m:Nat) (args:List VT),(∀x∈args,x.nodes≤1000000)→args.length≤1000000→∀(v:VT),(if args=[] then v.nodes else v.nodes+1000001)≤m→v.nodes≤1000000→∀(H:zaa) (K:AV→zaa→Prop),K (.agg (subst args v).cs) H→ACalls tP zhO [.agg v.cs,.sl (VT.css args) .none] H K:=by
 intro m;induction m with
 |zero=>intro args _ _ v h;have:=v.nodes_pos;split at h <;> omega
 |succ m ih=>
  intro args ha i8 v hv hb H K hK;obtain⟨k,n,ks⟩:=v;have fT:VT.nodesL ks+1≤1000000:=by simpa[VT.nodes]using hb
  have fc:=VT.len_le ks;refine ACalls.out (zQR λhs=>?_);by_cases gp:k=4∧0≤n∧n<args.length
  ·obtain⟨rfl,h0,h1⟩:=gp;have hn:n.toNat<args.length:=by omega
   have en:args≠[]:=by rintro rfl;simp at hn
   have gk:K (.agg (args[n.toNat]).cs) H:=by rw[subst,aA ⟨rfl,h0,h1⟩,List.getElem?_eq_getElem hn]at hK;exact hK
   have eH:=ha _ (ah hn);simp[VT.cs,ztn,h0,h1,hn];rw[ap en]at hv;refine ACalls.wk (args':=[.agg (args[n.toNat]).cs,.sl (VT.css []) .none]) ?_ ⟨.rfl',.atom .snil,trivial⟩;refine ih [] (by simp) (by simp) _ (by simp;omega) eH _ _ ?_;rw[zyN];generalize args[n.toNat]=x at *;obtain⟨k',n',ks'⟩:=x;simp[VT.cs];exact Out.at rfl (aa _) hs .rfl' rfl rfl gk
  ·have gk:K (.agg (VT.mk k n (zaQ args ks)).cs) H:=by rw[subst,ap gp]at hK;exact hK
   have go:∀H1,H1=H++[.cells [.int .i64 k,.int .i64 n,.sl (VT.css ks) .none],.cells [.int .i64 0,.int .i64 0,.snil],.cells [.int .i64 k,.int .i64 n,.snil]]→ziE (.sl (VT.css args) .none) (.ptr (H.length+1) 0) (.ptr (H.length+2) 0) (.sl (VT.css ks) .none) (.int .i64 ks.length) (.int .i64 0) H1 (Out H.length K):=by
    rintro _ rfl;unfold ziE;refine ALoop.ownC (cs:=[.int .i64 k,.int .i64 n,.snil]) (H.length+2) 2 za2 3 (by simp) rfl ?_;have e0:(H++[AB.cells [.int .i64 k,.int .i64 n,.sl (VT.css ks) .none],.cells [.int .i64 0,.int .i64 0,.snil],.cells [.int .i64 k,.int .i64 n,.snil]]).length=H.length+3:=by simp
    rw[e0,zys,aw];have hJ:∀i X,HSc (H++[.cells [.int .i64 k,.int .i64 n,.sl (VT.css ks) .none],.cells [.int .i64 0,.int .i64 0,.snil],.cells [.int .i64 k,.int .i64 n,.sl X (.own (H.length+3))],.perm za2 3 i]):=λi X=>hs.append (by simp[AB.sc,AV.scA,AV.scB]);show ziE (.sl (VT.css args) .none) (.ptr (H.length+1) 0) (.ptr (H.length+2) 0) (.sl (VT.css ks) .none) (.int .i64 ks.length) (.int .i64 0) (H++[.cells [.int .i64 k,.int .i64 n,.sl (VT.css ks) .none],.cells [.int .i64 0,.int .i64 0,.snil],.cells [.int .i64 k,.int .i64 n,.sl [] (.own (H.length+3))],.perm za2 3 0]) (Out H.length K);refine zQP (Inv:=λq t37 H'=>∃i:Nat,i≤ks.length∧q=ks.length-i∧t37=.int .i64 i∧H'=H++[.cells [.int .i64 k,.int .i64 n,.sl (VT.css ks) .none],.cells [.int .i64 0,.int .i64 0,.snil],.cells [.int .i64 k,.int .i64 n,.sl (VT.css ((zaQ args ks).take i)) (.own (H.length+3))],.perm za2 3 i]) ks.length ?_ ?_
    ·intro _;exact⟨0,by omega,by omega,rfl,by simp[VT.css]⟩
    ·rintro q t37 H' ⟨i,hi,rfl,rfl,rfl⟩ hsc d8 eC Kb ee;by_cases d7:i<ks.length
     ·have eY:=VT.kid_lt (k:=k) (n:=n) d7;have ia:(zaQ args ks).length=ks.length:=by rw[zeC];simp
      have eE:i<(zaQ args ks).length:=by omega
      have nN:(zaQ args ks)[i]=subst args ks[i]:=by simp[zeC]
      obtain⟨x1,x2,x3,ei,fF,e8,fC⟩:=zbh ks[i];simp[zto,d7,ei,fF,e8,fC];rw[←ei];refine zaH (.agg (subst args ks[i]).cs) (λJ=>ih args ha i8 ks[i] (by by_cases he:args=[] <;> simp only[he,aV,aH]at hv ⊢ <;> omega) (by omega) _ _ ⟨rfl,rfl⟩) ?_;rw[zfk,←nN];simp[zax,zaO,zaK,ia];refine⟨by omega,⟨by omega,by omega⟩,?_⟩;rw[zav (by omega) (by omega),show min i ks.length=i by omega];refine ee _ _ ⟨ks.length-(i+1),by omega,Back.at (J:=[_]) (H2:=H++[.cells [.int .i64 k,.int .i64 n,.sl (VT.css ks) .none],.cells [.int .i64 0,.int .i64 0,.snil],.cells [.int .i64 k,.int .i64 n,.sl (VT.css ((zaQ args ks).take (i+1))) (.own (H.length+3))],.perm za2 3 (i+1)]) (by rw[zhj eE];simp;rfl) (by simp) (hJ _ _) ?_ ⟨_,rfl,i+1,by omega,rfl,by simp,rfl⟩⟩;simp[zmP,AV.sc,AV.scV,AV.scA,AV.scB]
     ·obtain rfl:i=ks.length:=by omega
      have e:(zaQ args ks).take ks.length=zaQ args ks:=am (by rw[zeC];simp);rw[e];simp[zto];exact Out.at rfl (aa _) hs (WkV.agg (ds:=[.int .i64 k,.int .i64 n,.sl (VT.css (zaQ args ks)) .none]) ⟨.refl _,.refl _,.sl _ _,trivial⟩) rfl (by simp[AV.scV,AV.scA,AV.scB]) (by simpa[VT.cs]using gk)
   simp only[VT.cs,ztn];by_cases h4:k=4
   ·subst h4;by_cases h0:0≤n
    ·have h1:¬n<args.length:=λh=>gp ⟨rfl,h0,h⟩;simp[h0,h1,zar,zaL,ae];exact go _ rfl
    ·simp[h0,zar,zaL,ae];exact go _ rfl
   ·have mE:(k == 4)=false:=by simpa using h4
    simp[mE,zar,zaL,ae];exact go _ rfl
def zkq(args:List VT):AB:=.cells (args.map λx=>.int .i64 x.nodes)
theorem zQM(args:List VT)(ha:∀ x∈args,x.nodes≤1000000)(i8:args.length≤1000000):∀ (m:Nat) (v:VT),v.nodes≤m→v.nodes≤1000000→∀ (H:zaa) (id:Nat),H[id]?=some (zkq args)→∀ (K:AV→zaa→Prop),
  (∀r:Nat,(r≤200↔(subst args v).nodes≤200)→(r≤200→r=(subst args v).nodes)→r≤1000000+200*v.nodes→K (.int .i64 r) H)→ACalls tP zjI [.agg v.cs,.ms id 0 args.length args.length] H K:=by
 intro m;induction m with
 |zero=>intro v h;have:=v.nodes_pos;omega
 |succ m ih=>
  intro v hv hb H id d9 K hK;obtain⟨k,n,ks⟩:=v;have fT:VT.nodesL ks+1≤1000000:=by simpa[VT.nodes]using hb
  have fc:=VT.len_le ks;have hidl:=zbk d9;refine ACalls.out (zQK λhs=>?_);by_cases gp:k=4∧0≤n∧n<args.length
  ·obtain⟨rfl,h0,h1⟩:=gp;have hn:n.toNat<args.length:=by omega
   have iR:subst args (.mk 4 n ks)=args[n.toNat]:=by rw[subst,aA ⟨rfl,h0,h1⟩,List.getElem?_eq_getElem hn];rfl
   rw[iR]at hK;have hg:(H++[AB.cells [.int .i64 4,.int .i64 n,.sl (VT.css ks) .none]])[id]?=some (zkq args):=zbj d9;have eH:=ha _ (ah hn);unfold zkq at hg;simp[VT.cs,zti,h0,h1,hn,hg,zbt];exact Out.int rfl (aa _) hs (hK _ aL (λ_=>rfl) (by omega))
  ·have iR:subst args (.mk k n ks)=.mk k n (zaQ args ks):=by rw[subst,ap gp]
   have hnodes:(subst args (.mk k n ks)).nodes=VT.nodesL (zaQ args ks)+1:=by rw[iR];rfl
   rw[hnodes]at hK;have hO:∀r:Nat,(r≤200↔VT.nodesL (zaQ args ks)+1≤200)→(r≤200→r=VT.nodesL (zaQ args ks)+1)→r≤1000000+200*(VT.mk k n ks).nodes→∀J,Out H.length K (.int .i64 r) (H++J):=λr h1 h2 h3 J=>Out.int rfl (aa _) hs (hK r h1 h2 h3);have ia:(zaQ args ks).length=ks.length:=by rw[zeC];simp
   have go:ztm (.ms id 0 args.length args.length) (.int .i64 1) (.sl (VT.css ks) .none) (.int .i64 ks.length) (.int .i64 0) (H++[.cells [.int .i64 k,.int .i64 n,.sl (VT.css ks) .none]]) (Out H.length K):=by
    refine zQI (Inv:=λq t5 t31 H'=>∃i:Nat,i≤ks.length∧q=ks.length-i∧t31=.int .i64 i∧t5=.int .i64 (1+VT.nodesL ((zaQ args ks).take i):Nat)∧1+VT.nodesL ((zaQ args ks).take i)≤200∧H'=H++[.cells [.int .i64 k,.int .i64 n,.sl (VT.css ks) .none]]) ks.length ?_ ?_
    ·intro _;exact⟨0,by omega,by omega,rfl,by simp[VT.nodesL],by simp[VT.nodesL],rfl⟩
    ·rintro q t5 t31 H' ⟨i,hi,rfl,rfl,rfl,fq,rfl⟩ hsc d8 eC Kb ee;by_cases d7:i<ks.length
     ·have eY:=VT.kid_lt (k:=k) (n:=n) d7;have eE:i<(zaQ args ks).length:=by omega
      have nN:(zaQ args ks)[i]=subst args ks[i]:=by simp[zeC]
      have h1:=VT.nodesL_take eE;have h2:=VT.nodesL_take_le (zaQ args ks) (i+1);rw[nN]at h1;obtain⟨x1,x2,x3,ei,fF,e8,fC⟩:=zbh ks[i];simp[ztj,d7,ei,fF,e8,fC];rw[←ei];refine ih ks[i] (by omega) (by omega) _ id (zbj d9) _ λr kz jn ot=>?_;simp;rw[zav (by omega) (by omega)];by_cases gS:(200:Int)<1+VT.nodesL ((zaQ args ks).take i)+r
      ·simp[gS,zmN,ztl];have:=hO (1+VT.nodesL ((zaQ args ks).take i)+r) (by constructor <;> intro h <;> omega) (by omega) (by omega);have e:((1+VT.nodesL ((zaQ args ks).take i)+r:Nat):Int)=1+(VT.nodesL ((zaQ args ks).take i):Int)+r:=by omega
       rw[e]at this;exact this _
      ·have hr:r=(subst args ks[i]).nodes:=jn (by omega);simp[gS];rw[zav (by omega) (by omega),zy7];refine ee _ _ ⟨ks.length-(i+1),by omega,Back.same (by simp) hsc ?_ ⟨_,_,rfl,i+1,by omega,rfl,by simp,?_,by omega,rfl⟩⟩
       ·simp[zmM,AV.sc,AV.scV,AV.scA,AV.scB];omega
       ·congr 1;omega
     ·obtain rfl:i=ks.length:=by omega
      rw[am (by omega)]at *;simp[ztj,zmN,ztl];have:=hO (1+VT.nodesL (zaQ args ks)) (by omega) (by omega) (by omega);have e:((1+VT.nodesL (zaQ args ks):Nat):Int)=1+(VT.nodesL (zaQ args ks):Int):=by omega
      rw[e]at this;exact this _
   simp only[VT.cs,zti];by_cases h4:k=4
   ·subst h4;by_cases h0:0≤n
    ·have h1:¬n<args.length:=λh=>gp ⟨rfl,h0,h⟩;simp[h0,h1];exact go
    ·simp[h0];exact go
   ·have mE:(k == 4)=false:=by simpa using h4
    simp[mE];exact go
end Go.Proofs.YtdmamdnkcefmmaaGreatDoor
