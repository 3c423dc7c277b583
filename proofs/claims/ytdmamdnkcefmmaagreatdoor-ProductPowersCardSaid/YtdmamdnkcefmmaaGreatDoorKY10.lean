import Derived.Test.YtdmamdnkcefmmaaGreatDoorKY4
set_option linter.unusedSimpArgs false
set_option linter.unusedVariables false
set_option maxRecDepth 8000
namespace Go.Proofs.YtdmamdnkcefmmaaGreatDoor
theorem yaC(d7:List Dat)(mo:d7.length≤1000000)(vars:Int):∀(m:Nat) (v:VT),v.nodes≤m→v.nodes≤1000000000→∀(H:zaa) (K:AV→zaa→Prop),K (.bool (zbb d7 vars v)) H→ACalls tP zkR [.sl (d7.map Dat.cs) .none,.agg v.cs,.int .i64 vars] H K:=by
 intro m;induction m with
 |zero=>intro v h;have:=v.nodes_pos;omega
 |succ m ih=>
  intro v hv hb H K hK;obtain⟨k,n,ks⟩:=v;have gd:VT.nodesL ks+1≤1000000000:=by simpa[VT.nodes]using hb
  have fh:=VT.len_le ks;refine ACalls.out (yaA λhs=>?_);have hO:∀J,Out H.length K (.bool (zbu d7 vars k n ks.length && zbs d7 vars ks)) (H++J):=λJ=>Out.bool rfl (ac _) hs (by simpa[zbb]using hK);have hF:zbu d7 vars k n ks.length=false→∀J,Out H.length K (.bool false) (H++J):=λh J=>by have:=hO J;rwa [h,aY]at this
  have loop:zbu d7 vars k n ks.length=true→zxc (.sl (d7.map Dat.cs) .none) (.int .i64 vars) (.ptr H.length 0) (.int .i64 ks.length) (.int .i64 0) (H++[.cells [.int .i64 k,.int .i64 n,.sl (VT.css ks) .none]]) (Out H.length K):=by
   intro eS;rw[eS]at hO;simp only[bk]at hO;refine yay (Inv:=λq t8 H'=>∃i:Nat,i≤ks.length∧q=ks.length-i∧t8=.int .i64 i∧zbs d7 vars (ks.drop i)=zbs d7 vars ks∧H'=H++[.cells [.int .i64 k,.int .i64 n,.sl (VT.css ks) .none]]) ks.length ?_ ?_
   ·intro _;exact⟨0,by omega,by omega,rfl,by simp,rfl⟩
   ·rintro q t8 H' ⟨i,hi,rfl,rfl,ho,rfl⟩ hsc ek eK Kb eq;by_cases ei:i<ks.length
    ·have fm:=VT.kid_lt (k:=k) (n:=n) ei;rw[ag ei,zbs]at ho;simp[zxa,ei];refine ih ks[i] (by omega) (by omega) _ _ ?_;cases hb:zbb d7 vars ks[i] with
     |false=>rw[hb,aY]at ho;rw[←ho]at hO;simp;exact hO _
     |true=>rw[hb,bk]at ho;simp;rw[zay (by omega) (by omega)];refine eq _ _ ⟨ks.length-(i+1),by omega,Back.here (by simp) hsc ?_ ⟨_,rfl,i+1,by omega,rfl,by simp,ho,rfl⟩⟩;simp[zpL,AV.sc,AV.scV,AV.scA,AV.scB]
    ·obtain rfl:i=ks.length:=by omega
     rw[aI,zbs]at ho;rw[←ho]at hO;simp[zxa];exact hO _
  have prim:(k=1∨k=2∨k=3)→Out H.length K (.bool (n == 0 && ks.length == 0)) (H++[.cells [.int .i64 k,.int .i64 n,.sl (VT.css ks) .none]]):=by
   intro h;have eS:zbu d7 vars k n ks.length=(n == 0 && ks.length == 0):=by rcases h with rfl|rfl|rfl <;> rfl
   have:=hO [.cells [.int .i64 k,.int .i64 n,.sl (VT.css ks) .none]];rw[eS]at this;cases ks with
   |nil=>simpa[zbs]using this
   |cons x l=>simpa using this
  by_cases kC:k=1∨k=2∨k=3
  ·have:=prim kC;cases hn:(n == 0) with
   |false=>rw[hn,aY]at this;rcases kC with rfl|rfl|rfl <;> simp[zcV,VT.cs,zb7,hn] <;> exact this
   |true=>
    rw[hn,bk]at this;have e:((ks.length:Int) == 0)=(ks.length == 0):=by rw[ct];simp
    rw[←e]at this;rcases kC with rfl|rfl|rfl <;> simp only[zcV,VT.cs] <;> simp[zb7,hn] <;> simpa using this
  by_cases h4:k=4
  ·subst h4;have eS:zbu d7 vars 4 n ks.length=(decide (0≤n) && decide (n<vars) && ks.length == 0):=rfl;have pF:∀J,Out H.length K (.bool (decide (0≤n) && decide (n<vars) && ks.length == 0)) (H++J):=λJ=>by
    have:=hO J;rw[eS]at this;cases ks with
    |nil=>simpa[zbs]using this
    |cons x l=>simpa using this
   have e:((ks.length:Int) == 0)=(ks.length == 0):=by rw[ct];simp
   rw[←e]at pF;by_cases g1:0≤n
   ·by_cases g2:n<vars
    ·simp only[zcV,VT.cs];simp[zb7,g1,g2];simpa[g1,g2]using pF _
    ·simp only[zcV,VT.cs];simp[zb7,g1,g2];simpa[g1,g2]using pF _
   ·simp only[zcV,VT.cs];simp[zb7,g1];simpa[g1]using pF _
  by_cases h5:k=5
  ·subst h5;have eS:zbu d7 vars 5 n ks.length=(decide (0≤n) && (match d7[n.toNat]? with | some d=>(ks.length:Int) == d.vars | none=>false)):=rfl;by_cases g1:0≤n
   ·have g1':¬ n<0:=by omega
    by_cases g2:n<d7.length
    ·have gd:n.toNat<d7.length:=by omega
     have g2':¬(d7.length:Int)≤n:=by omega
     have e8:(d7.map Dat.cs)[n.toNat]?.getD []=[.str d7[n.toNat].name,.int .i64 d7[n.toNat].vars,.sl (d7[n.toNat].cons.map Con.cs) .none]:=by simp[gd,Dat.cs]
     rw[List.getElem?_eq_getElem gd]at eS;simp only[g1,cZ,bk]at eS;cases hv:((ks.length:Int) == d7[n.toNat].vars) with
     |false=>
      rw[hv]at eS;have fR:((ks.length:Int) != d7[n.toNat].vars)=true:=by simp[bne,hv]
      simp only[zcV,VT.cs];simp[zb7,g1',g2',g1,g2,gd,Dat.cs,fR];exact hF eS _
     |true=>
      rw[hv]at eS;have fR:((ks.length:Int) != d7[n.toNat].vars)=false:=by simp[bne,hv]
      simp only[zcV,VT.cs];simp[zb7,g1',g2',g1,g2,gd,Dat.cs,fR,zfy,zjp];exact loop eS
    ·have g2':(d7.length:Int)≤n:=by omega
     rw[List.getElem?_eq_none (by omega)]at eS;simp only[zcV,VT.cs];simp[zb7,g1',g2'];exact hF (by rw[eS];simp) _
   ·have g1':n<0:=by omega
    simp only[zcV,VT.cs];simp[zb7,g1'];exact hF (by rw[eS];simp[g1]) _
  by_cases h6:k=6
  ·subst h6;have eS:zbu d7 vars 6 n ks.length=(n == 0 && decide (2≤ks.length) && decide (ks.length≤6)):=rfl;simp only[zcV,VT.cs];cases hn:(n == 0) with
   |false=>
    have:(n != 0)=true:=by simp[bne,hn]
    simp[zb7,this];exact hF (by rw[eS,hn];rfl) _
   |true=>
    have fN:(n != 0)=false:=by simp[bne,hn]
    by_cases g1:ks.length<2
    ·have:(ks.length:Int)<2:=by omega
     simp[zb7,fN,this];exact hF (by rw[eS];simp;omega) _
    ·have g1':¬ (ks.length:Int)<2:=by omega
     by_cases g2:6<ks.length
     ·have:(6:Int)<ks.length:=by omega
      simp[zb7,fN,g1',this];exact hF (by rw[eS];simp;omega) _
     ·have:¬ (6:Int)<ks.length:=by omega
      simp[zb7,fN,g1',this,zfy,zjp];exact loop (by rw[eS,hn];simp;omega)
  by_cases nF:k=7∨k=8
  ·have eS:zbu d7 vars k n ks.length=(n == 0 && ks.length == 1):=by rcases nF with rfl | rfl <;> rfl
   cases hn:(n == 0) with
   |false=>
    have:(n != 0)=true:=by simp[bne,hn]
    have fin:=hF (by rw[eS,hn];rfl);simp only[zcV,VT.cs];rcases nF with rfl|rfl <;> simp[zb7,zex,this] <;> exact fin _
   |true=>
    have fN:(n != 0)=false:=by simp[bne,hn]
    by_cases g1:ks.length=1
    ·have g1':((ks.length:Int) != 1)=false:=by simp[g1]
     have fin:=loop (by rw[eS,hn,g1];rfl);simp only[zcV,VT.cs];rcases nF with rfl|rfl <;> simp[zb7,zex,fN,g1',zfy,zjp] <;> exact fin
    ·have g1':((ks.length:Int) != 1)=true:=by simp;omega
     have fin:=hF (by rw[eS];simp[g1]);simp only[zcV,VT.cs];rcases nF with rfl|rfl <;> simp[zb7,zex,fN,g1'] <;> exact fin _
  have b1:(k == 1)=false:=by simp;omega
  have b2:(k == 2)=false:=by simp;omega
  have b3:(k == 3)=false:=by simp;omega
  have b4:(k == 4)=false:=by simp;omega
  have b5:(k == 5)=false:=by simp;omega
  have b6:(k == 6)=false:=by simp;omega
  have b7:(k == 7)=false:=by simp;omega
  have b8:(k == 8)=false:=by simp;omega
  by_cases h9:k=9
  ·subst h9;have eS:zbu d7 vars 9 n ks.length=(n == 0 && decide (1≤ks.length) && decide (ks.length≤7)):=rfl;simp only[zcV,VT.cs];cases hn:(n == 0) with
   |false=>
    have:(n != 0)=true:=by simp[bne,hn]
    simp[zb7,zex,this];exact hF (by rw[eS,hn];rfl) _
   |true=>
    have fN:(n != 0)=false:=by simp[bne,hn]
    by_cases g1:ks.length<1
    ·have:(ks.length:Int)<1:=by omega
     simp[zb7,zex,fN,this];exact hF (by rw[eS];simp;omega) _
    ·have g1':¬ (ks.length:Int)<1:=by omega
     by_cases g2:7<ks.length
     ·have:(7:Int)<ks.length:=by omega
      simp[zb7,zex,fN,g1',this];exact hF (by rw[eS];simp;omega) _
     ·have:¬ (7:Int)<ks.length:=by omega
      simp[zb7,zex,fN,g1',this,zfy,zjp];exact loop (by rw[eS,hn];simp;omega)
  ·have b9:(k == 9)=false:=by simp;omega
   simp only[zcV,VT.cs];simp[zb7,zex,b1,b2,b3,b4,b5,b6,b7,b8,b9];exact hF (by unfold zbu;simp[b1,b2,b3,b4,b5,b6,b7,b8,b9]) _
theorem zFC(d7:List Dat)(mo:d7.length≤1000000)(vars:Int)(v:VT)(hb:v.nodes≤1000000000)(H:zaa)(K:AV→zaa→Prop)(hK:K (.bool (za0 d7 vars v)) H):ACalls tP zkE [.sl (d7.map Dat.cs) .none,.agg v.cs,.int .i64 vars] H K:=by
 refine ACalls.out (zW3 λhs=>?_);have hO:∀J,Out H.length K (.bool (za0 d7 vars v)) (H++J):=λJ=>Out.bool rfl (ac _) hs hK;unfold za0 at hO;simp[zFB];refine zGS _ v (ac _) hb _ _ ?_;by_cases h:v.nodes≤200
 ·have h':(v.nodes:Int)≤200:=by omega
  simp[h'];refine yaC d7 mo vars _ v (ac _) hb _ _ ?_;simpa[h]using hO _
 ·have h':¬ (v.nodes:Int)≤200:=by omega
  simp[h'];simpa[h]using hO _
def zcb(es:List (List AV))(id:Nat):AV:=match es with|[]=>.snil|_=>.sl es (.own id)
def zdb(e s:Nat)(n:Nat):zaa:=match n with|0=>[]|n=>[.perm e s n]
theorem zHs(es:List (List AV))(id:Nat):WkA (zcb es id) (.sl es .none):=by
 cases es with
 |nil=>exact .snil
 |cons e es=>exact .sl _ _
theorem zxI(es:List (List AV)){id n:Nat}(h:es=[]∨id<n):(zcb es id).scA n=true:=by
 cases es with
 |nil=>rfl
 |cons e es=>
  rcases h with h|h
  ·cases h
  ·simpa[zcb,AV.scA,AV.scB]using h
theorem zHr(es:List (List AV))(id:Nat):(zcb es id).known=true:=by cases es <;> rfl
theorem zHq(es:List (List AV))(id:Nat):(zcb es id).cs?=some [zcb es id]:=by cases es <;> rfl
theorem zHt{e s bytes:Nat}{es:List (List AV)}{y:List AV}{t:Tok}{H:zaa}{K:AV→zaa→Prop}(hy:y.length=s)(hb:(es.length+1)*bytes≤140737488355328)(hl:es.length+1≤9223372036854775807)(hk:K (zcb (es++[y]) H.length) (H++zdb e s (es.length+1))):zax e s bytes (zcb es H.length) (.sl [y] t) (H++zdb e s es.length) K:=by
 unfold zax zaM;refine⟨by simpa using hy,?_⟩;cases es with
 |nil=>unfold zaK;simp[zcb,zdb]at *;exact⟨by omega,hk⟩
 |cons x es=>unfold zaK;simp[zcb,zdb]at *;refine⟨⟨by omega,by omega⟩,hk⟩
theorem zxJ{e s bytes id n:Nat}{es:List (List AV)}{y:List AV}{t:Tok}{H0 Hh:zaa}{K:AV→zaa→Prop}(hn:n=es.length)(he:Hh=H0++zdb e s n)(en:id=H0.length)(hy:y.length=s)(hb:(es.length+1)*bytes≤140737488355328)(hl:es.length+1≤9223372036854775807)(hk:K (zcb (es++[y]) id) (H0++zdb e s (n+1))):zax e s bytes (zcb es id) (.sl [y] t) Hh K:=by
 subst he en hn;exact zHt hy hb hl hk
@[simp] theorem ydy(es:List (List AV))(id:Nat):(zcb es id).cs?=some [zcb es id]:=zHq es id
@[simp] theorem ydz(es:List (List AV))(id:Nat):(zcb es id).known=true:=zHr es id
theorem zfG{v:VT}{k:AV→Prop}:zaw 3 [.int .i64 0,.int .i64 0,.snil] 1 [(0,.agg v.cs)] k=k (.sl [v.cs] .full):=by cases v;exact propext aO
theorem zhK{l:List VT}{i:Nat}(h:i<l.length):VT.css (l.take (i+1))=VT.css (l.take i)++[(l[i]).cs]:=by rw[VT.css_map,VT.css_map,ae h,aK];rfl
theorem zz2{H J:zaa}{K:AV→zaa→Prop}{k n:Int}{ks:List VT}{id:Nat}(hs:HSc H)(hK:K (.agg (VT.mk k n ks).cs) H):Out H.length K (.agg [.int .i64 k,.int .i64 n,zcb (VT.css ks) id]) (H++J):=
 Out.at rfl (ac _) hs (WkV.agg (ds:=[.int .i64 k,.int .i64 n,.sl (VT.css ks) .none]) ⟨.refl _,.refl _,zHs _ _,trivial⟩) rfl (by simp[AV.scV,AV.scA,AV.scB]) (by simpa[VT.cs]using hK)
theorem zIc:∀(m:Nat) (v:VT),v.nodes≤m→v.nodes≤1000000→∀(H:zaa) (K:AV→zaa→Prop),K (.agg v.cs) H→ACalls tP zkn [.agg v.cs] H K:=by
 intro m;induction m with
 |zero=>intro v h;have:=v.nodes_pos;omega
 |succ m ih=>
  intro v hv hb H K hK;obtain⟨k,n,ks⟩:=v;have gd:VT.nodesL ks+1≤1000000:=by simpa[VT.nodes]using hb
  have fh:=VT.len_le ks;refine ACalls.out (zSL λhs=>?_);simp[VT.cs,zD7,zaq,zaJ,aa];refine zSJ (Inv:=λq t4 H'=>∃i:Nat,i≤ks.length∧q=ks.length-i∧t4=.int .i64 i∧H'=H++[.cells [.int .i64 k,.int .i64 n,.sl (VT.css ks) .none],.cells [.int .i64 0,.int .i64 0,.snil],.cells [.int .i64 k,.int .i64 n,zcb (VT.css (ks.take i)) (H.length+3)]]++zdb za9 3 i) ks.length ?_ ?_
  ·intro _;exact⟨0,by omega,by omega,rfl,by simp[zdb,zcb,VT.css]⟩
  ·rintro q t4 H' ⟨i,hi,rfl,rfl,rfl⟩ hsc ek eK Kb eq;by_cases ei:i<ks.length
   ·have fm:=VT.kid_lt (k:=k) (n:=n) ei;simp[zuO,ei];refine zaD (.agg (ks[i]).cs) (λJ=>ih ks[i] (by omega) (by omega) _ _ ⟨rfl,rfl⟩) ?_;rw[zfG];refine zxJ (H0:=H++[.cells [.int .i64 k,.int .i64 n,.sl (VT.css ks) .none],.cells [.int .i64 0,.int .i64 0,.snil],.cells [.int .i64 k,.int .i64 n,zcb (VT.css (ks.take i)) (H.length+3)]]) (n:=i) (by simp;omega) (by simp) (by simp) (by simp) (by simp;omega) (by simp;omega) ?_;rw[←zhK ei];simp;rw[zay (by omega) (by omega)];refine eq _ _ ⟨ks.length-(i+1),by omega,Back.here (by simp[zdb]) ?_ ?_ ⟨_,rfl,i+1,by omega,rfl,by simp,by simp⟩⟩
    ·refine hs.append ?_;simp[AB.sc,zdb,AV.scA,AV.scB];exact zxI _ (.inr (by omega))
    ·simp[znD,AV.sc,AV.scV,AV.scA,AV.scB]
   ·obtain rfl:i=ks.length:=by omega
    rw[ak]at *;simp[zuO];exact zz2 hs hK
theorem zeU(args:List VT):∀ l:List VT,zaX args l=l.map (subst args)
 |[]=>rfl
 |t::ts=>by rw[zaX,zeU args ts];rfl
theorem zPH(args:List VT)(ha:∀x∈args,x.nodes≤1000000)(iq:args.length≤1000000):∀(m:Nat) (v:VT),v.nodes≤m→v.nodes≤1000000→∀(H:zaa) (K:AV→zaa→Prop),K (.agg (subst args v).cs) H→ACalls tP zkb [.agg v.cs,.sl (VT.css args) .none] H K:=by
 intro m;induction m with
 |zero=>intro v h;have:=v.nodes_pos;omega
 |succ m ih=>
  intro v hv hb H K hK;obtain⟨k,n,ks⟩:=v;have gd:VT.nodesL ks+1≤1000000:=by simpa[VT.nodes]using hb
  have fh:=VT.len_le ks;refine ACalls.out (zPF λhs=>?_);by_cases gU:k=4∧0≤n∧n<args.length
  ·obtain⟨rfl,h0,h1⟩:=gU;have hn:n.toNat<args.length:=by omega
   have gP:K (.agg (args[n.toNat]).cs) H:=by rw[subst,az ⟨rfl,h0,h1⟩,List.getElem?_eq_getElem hn]at hK;exact hK
   simp[VT.cs,ztW,h0,h1,hn];refine zIc _ _ (ac _) (ha _ (af hn)) _ _ ?_;generalize args[n.toNat]=x at *;obtain⟨k',n',ks'⟩:=x;simp[VT.cs];exact Out.at rfl (ac _) hs .rfl' rfl rfl gP
  ·have gP:K (.agg (VT.mk k n (zaX args ks)).cs) H:=by rw[subst,au gU]at hK;exact hK
   have go:∀H1,H1=H++[.cells [.int .i64 k,.int .i64 n,.sl (VT.css ks) .none],.cells [.int .i64 0,.int .i64 0,.snil],.cells [.int .i64 k,.int .i64 n,.snil]]→ztZ (.sl (VT.css args) .none) (.ptr H.length 0) (.ptr (H.length+1) 0) (.ptr (H.length+2) 0) (.int .i64 0) H1 (Out H.length K):=by
    rintro _ rfl;refine zPD (Inv:=λq t6 H'=>∃i:Nat,i≤ks.length∧q=ks.length-i∧t6=.int .i64 i∧H'=H++[.cells [.int .i64 k,.int .i64 n,.sl (VT.css ks) .none],.cells [.int .i64 0,.int .i64 0,.snil],.cells [.int .i64 k,.int .i64 n,zcb (VT.css ((zaX args ks).take i)) (H.length+3)]]++zdb za9 3 i) ks.length ?_ ?_
    ·intro _;exact⟨0,by omega,by omega,rfl,by simp[zdb,zcb,VT.css]⟩
    ·rintro q t6 H' ⟨i,hi,rfl,rfl,rfl⟩ hsc ek eK Kb eq;by_cases ei:i<ks.length
     ·have fm:=VT.kid_lt (k:=k) (n:=n) ei;have eC:i<(zaX args ks).length:=by rw[zeU];simpa using ei
      have o4:(zaX args ks)[i]=subst args ks[i]:=by simp[zeU]
      simp[ztX,ei];refine zaD (.agg (subst args ks[i]).cs) (λJ=>ih ks[i] (by omega) (by omega) _ _ ⟨rfl,rfl⟩) ?_;rw[zfG,←o4];refine zxJ (H0:=H++[.cells [.int .i64 k,.int .i64 n,.sl (VT.css ks) .none],.cells [.int .i64 0,.int .i64 0,.snil],.cells [.int .i64 k,.int .i64 n,zcb (VT.css ((zaX args ks).take i)) (H.length+3)]]) (n:=i) (by simp;omega) (by simp) (by simp) (by simp) (by simp;omega) (by simp;omega) ?_;rw[←zhK eC];simp;rw[zay (by omega) (by omega)];refine eq _ _ ⟨ks.length-(i+1),by omega,Back.here (by simp[zdb]) ?_ ?_ ⟨_,rfl,i+1,by omega,rfl,by simp,by simp⟩⟩
      ·refine hs.append ?_;simp[AB.sc,zdb,AV.scA,AV.scB];exact zxI _ (.inr (by omega))
      ·simp[zmJ,AV.sc,AV.scV,AV.scA,AV.scB]
     ·obtain rfl:i=ks.length:=by omega
      have e:(zaX args ks).take ks.length=zaX args ks:=ai (by rw[zeU];simp);rw[e];simp[ztX];exact zz2 hs gP
   simp only[VT.cs,ztW];by_cases h4:k=4
   ·subst h4;by_cases h0:0≤n
    ·have h1:¬n<args.length:=λh=>gU ⟨rfl,h0,h⟩;simp[h0,h1,zaq,zaJ,aa];exact go _ rfl
    ·simp[h0,zaq,zaJ,aa];exact go _ rfl
   ·have nG:(k == 4)=false:=by simpa using h4
    simp[nG,zaq,zaJ,aa];exact go _ rfl
mutual
theorem zBa{args:List VT}{M:Nat}(h1:1≤M)(ha:∀ x∈args,x.nodes≤M):∀ v:VT,(subst args v).nodes≤v.nodes*M
 |.mk k n ks=>by
  unfold subst;split
  ·rename_i h;have hn:n.toNat<args.length:=by omega
   rw[List.getElem?_eq_getElem hn];have:=ha _ (af hn);have h2:M≤(VT.mk k n ks).nodes*M:=by have:=(VT.mk k n ks).nodes_pos;exact dN M this
   simp only[Option.getD_some];omega
  ·have:=zA7 h1 ha ks;simp only[VT.nodes,bI];omega
theorem zA7{args:List VT}{M:Nat}(h1:1≤M)(ha:∀ x∈args,x.nodes≤M):∀ l:List VT,VT.nodesL (zaX args l)≤VT.nodesL l*M
 |[]=>by simp[zaX,VT.nodesL]
 |t::ts=>by have h2:=zBa h1 ha t;have h3:=zA7 h1 ha ts;simp only[zaX,VT.nodesL,a8];omega
end
theorem zhX{k n:Int}{ks:List VT}:∀x∈ks,x.nodes≤(VT.mk k n ks).nodes:=by intro x hx;obtain⟨i,hi,rfl⟩:=dh.1 hx;exact bO (VT.kid_lt hi)
theorem zjU{k n:Int}{ks:List VT}:∀x∈ks,x.nodes<(VT.mk k n ks).nodes:=by intro x hx;obtain⟨i,hi,rfl⟩:=dh.1 hx;exact VT.kid_lt hi
theorem zBw{H:zaa}{x y:AB}:H++[x,y]=(H++[x])++[y]:=by simp
theorem zdq(d7:List Dat)(k n:Int)(ks:List VT)(c:Int):zbt d7 (.mk k n ks) c=(if k=5∧0≤n∧0≤c then
  match d7[n.toNat]? with
  | some d=>if (ks.length:Int)=d.vars then
    match d.cons[c.toNat]? with
    |some co=>if (co.args.map (subst ks)).all (λx=>decide (x.nodes≤200))=true then some (co.args.map (subst ks)) else none
    |none=>none
   else none
  |none=>none
 else none):=rfl
def zcO(o:Option (List VT)):AV:=match o with
 |some l=>.tup [.sl (VT.css l) .none,.bool true]
 |none=>.tup [.sl [] .none,.bool false]
theorem zzi{α:Type}{l:List α}{i:Nat}(h:i<l.length){p:α→Prop}(h1:∀x∈l.take i,p x)(h2:p l[i]):∀x∈l.take (i+1),p x:=by
 rw[ae h];intro x hx;rcases aX.1 hx with hx|hx
 ·exact h1 x hx
 ·simp at hx;subst hx;exact h2
theorem zbk(v:VT):∃a b c,v.cs=[a,b,c]∧a.known=true∧b.known=true∧c.known=true:=by obtain⟨k,n,ks⟩:=v;exact⟨_,_,_,rfl,rfl,rfl,rfl⟩
theorem zxi(d7:List Dat)(mo:d7.length≤1000000)(qx:∀ d∈d7,∀ c∈d.cons,c.args.length≤1000∧∀ x∈c.args,x.nodes≤1000)(hdc:∀ d∈d7,d.cons.length≤1000000)(t:VT)(ht:t.nodes≤1000)(c:Int)(H:zaa)(K:AV→zaa→Prop)(hK:K (zcO (zbt d7 t c)) H):
  ACalls tP ziv [.sl (d7.map Dat.cs) .none,.agg t.cs,.int .i64 c] H K:=by
 refine ACalls.out (yaN λhs=>?_);obtain⟨k,n,ks⟩:=t;have fI:VT.nodesL ks+1≤1000:=by simpa[VT.nodes]using ht
 have iX:=VT.len_le ks;have hF:zbt d7 (.mk k n ks) c=none→∀J,Out H.length K (.tup [.snil,.bool false]) (H++J):=λh J=>by rw[h]at hK;exact Out.tup hs hK ⟨zdj,zaV rfl rfl,trivial⟩
 have hFF:∀J,zbt d7 (.mk k n ks) c=none→Out H.length K (.tup [.snil,.bool false]) (H++J):=λJ h=>hF h J;simp only[VT.cs,zGV];by_cases h5:k=5;case neg=>
  have:(k != 5)=true:=by simpa using h5
  simp[this,AV.isV];exact hF (by rw[zdq,au (λh=>h5 h.1)]) _
 subst h5;by_cases h0:n<0
 ·simp[h0,AV.isV];exact hF (by rw[zdq,au (λh=>by have:=h.2.1;omega)]) _
 by_cases h1:(d7.length:Int)≤n
 ·simp[h0,h1,AV.isV];exact hF (by
   rw[zdq];split
   ·rw[List.getElem?_eq_none (by omega)]
   ·rfl) _
 have hn:n.toNat<d7.length:=by omega
 have gz:n<d7.length:=by omega
 have lv:0≤n:=by omega
 generalize ic:d7[n.toNat]=d at *;have hd:d∈d7:=by rw[←ic];exact af hn
 have eA:d7[n.toNat]?=some d:=by rw[List.getElem?_eq_getElem hn,ic]
 cases hv:((ks.length:Int) == d.vars) with
 |false=>
  have fR:((ks.length:Int) != d.vars)=true:=by simp[bne,hv]
  simp[h0,h1,lv,gz,hn,ic,Dat.cs,fR,AV.isV,eA];exact hF (by
   rw[zdq];split
   ·rw[eA];simp only;rw[au (by simpa using hv)]
   ·rfl) _
 |true=>
 have fR:((ks.length:Int) != d.vars)=false:=by simp[bne,hv]
 have qy:(ks.length:Int)=d.vars:=by simpa using hv
 by_cases gM:c<0
 ·simp[h0,h1,lv,gz,hn,ic,Dat.cs,fR,AV.isV,eA,gM];exact hF (by rw[zdq,au (λh=>by have:=h.2.2;omega)]) _
 have jt:∀o,(match d.cons[c.toNat]? with|some k=>if (k.args.map (subst ks)).all (λx=>decide (x.nodes≤200))=true then some (k.args.map (subst ks)) else none|none=>none)=o→zbt d7 (.mk 5 n ks) c=o:=λo h=>by rw[zdq,az ⟨rfl,lv,by omega⟩,eA];simp only;rw[az qy];exact h
 by_cases fP:(d.cons.length:Int)≤c
 ·simp[h0,h1,lv,gz,hn,ic,Dat.cs,fR,AV.isV,eA,gM,fP];exact hF (jt none (by rw[List.getElem?_eq_none (by omega)])) _
 have gu:c.toNat<d.cons.length:=by omega
 have fX:c<d.cons.length:=by omega
 have lw:0≤c:=by omega
 generalize gk:d.cons[c.toNat]=co at *;have ia:co∈d.cons:=by rw[←gk];exact af gu
 have oD:d.cons[c.toNat]?=some co:=by rw[List.getElem?_eq_getElem gu,gk]
 obtain⟨iq,o5⟩:=qx d hd co ia;have iQ:=λo=>jt o;rw[oD]at iQ;simp only at iQ;have ig:∀x∈co.args,(subst ks x).nodes≤1000000:=λx hx=>by have h2:=zBa (M:=1000) (by omega) (λy hy=>ap (zhX (k:=5) (n:=n) y hy) ht) x;have h3:=o5 x hx;have:x.nodes*1000≤1000*1000:=ar _ h3;omega
 simp[h0,h1,lv,gz,hn,ic,Dat.cs,fR,AV.isV,eA,gM,fP,lw,fX,gu,gk,Con.cs,oD];have eH:∀m,HSc (H++[.cells [.int .i64 5,.int .i64 n,.sl (VT.css ks) .none],.perm za9 3 m]):=λm=>hs.append rfl;unfold zpQ;refine ALoop.own 8 za9 3 rfl ?_;have fS:(H++[AB.cells [.int .i64 5,.int .i64 n,.sl (VT.css ks) .none]]).length=H.length+1:=by simp
 rw[fS,aq];show zpQ (.ptr H.length 0) (.sl [] (.own (H.length+1))) (.sl (VT.css co.args) .none) (.int .i64 co.args.length) (.int .i64 0) (H++[.cells [.int .i64 5,.int .i64 n,.sl (VT.css ks) .none],.perm za9 3 0]) (Out H.length K);refine yaL (Inv:=λq t8 t65 H'=>∃i:Nat,i≤co.args.length∧q=co.args.length-i∧t65=.int .i64 i∧t8=.sl (VT.css ((co.args.map (subst ks)).take i)) (.own (H.length+1))∧(∀x∈co.args.take i,(subst ks x).nodes≤200)∧H'=H++[.cells [.int .i64 5,.int .i64 n,.sl (VT.css ks) .none],.perm za9 3 i]) co.args.length ?_ ?_
 ·intro _;exact⟨0,by omega,by omega,rfl,by simp[VT.css],by simp,rfl⟩
 ·rintro q t8 t65 H' ⟨i,hi,rfl,rfl,rfl,eO,rfl⟩ hsc ek eK Kb eq;by_cases ei:i<co.args.length
  ·have fa:=af ei;have fx:=ig _ fa;obtain⟨x,y,z,ew,hx,hy,hz⟩:=zbk co.args[i];simp[zxg,ei,ew,hx,hy,hz];rw[←ew];refine zPH ks (λy hy=>by have:=zhX (k:=5) (n:=n) y hy;omega) (by omega) _ co.args[i] (ac _) (by have:=o5 _ fa;omega) _ _ ?_;obtain⟨x',y',z',hvx',kK,iW,mH⟩:=zbk (subst ks co.args[i]);simp[hvx',kK,iW,mH];rw[←hvx'];refine zGS _ _ (ac _) (by omega) _ _ ?_;by_cases gn:(subst ks co.args[i]).nodes≤200
   ·have lx:¬ (200:Int)<(subst ks co.args[i]).nodes:=by omega
    simp[lx];rw[zfG];simp[zax,zaM,zaK];refine⟨by omega,by omega,?_⟩;rw[zay (by omega) (by omega),show min i co.args.length=i by omega];refine eq _ _ ⟨co.args.length-(i+1),by omega,Back.at (H2:=H++[.cells [.int .i64 5,.int .i64 n,.sl (VT.css ks) .none],.perm za9 3 (i+1)]) (J:=[_,_]) (by simp;exact⟨rfl,rfl⟩) (by simp) (eH _) ?_ ⟨_,_,rfl,i+1,by omega,rfl,by simp,?_,zzi ei eO gn,rfl⟩⟩
    ·simp[zpP,AV.sc,AV.scV,AV.scA,AV.scB]
    ·rw[zhK (by simpa using ei)];simp
   ·have lx:(200:Int)<(subst ks co.args[i]).nodes:=by omega
    simp[lx,AV.isV];refine hF (iQ none ?_) _;rw[au];intro nH;have:=am.1 nH (subst ks co.args[i]) (aA.2 ⟨_,fa,rfl⟩);exact gn (ce this)
  ·obtain rfl:i=co.args.length:=by omega
   rw[ak]at eO;rw[ai (by simp)];simp[zxg,AV.isV];have kS:=iQ (some (co.args.map (subst ks))) (az (am.2 λy hy=>by
    obtain⟨x,hx,rfl⟩:=aA.1 hy;exact br (eO x hx)))
   rw[kS]at hK;exact Out.tup hs hK ⟨slV,zaV rfl rfl,trivial⟩
theorem zTz:∀(m:Nat) (v:VT),v.nodes≤m→v.nodes≤1000000000→∀(H:zaa) (K:AV→zaa→Prop),K (.int .i64 v.nodes) H→ACalls tP zkr [.agg v.cs] H K:=by
 intro m;induction m with
 |zero=>intro v h;have:=v.nodes_pos;omega
 |succ m ih=>
  intro v hv hb H K hK;obtain⟨k,n,ks⟩:=v;have gd:VT.nodesL ks+1≤1000000000:=by simpa[VT.nodes]using hb
  have fh:=VT.len_le ks;refine ACalls.out (zTx λhs=>?_);simp[VT.cs,zEq];refine zTv (Inv:=λq t3 t4 H'=>∃i:Nat,i≤ks.length∧q=ks.length-i∧t4=.int .i64 i∧t3=.int .i64 (1+VT.nodesL (ks.take i):Nat)∧H'=H++[.cells [.int .i64 k,.int .i64 n,.sl (VT.css ks) .none]]) ks.length ?_ ?_
  ·intro _;exact⟨0,by omega,by omega,rfl,by simp[VT.nodesL],rfl⟩
  ·rintro q t3 t4 H' ⟨i,hi,rfl,rfl,rfl,rfl⟩ hsc ek eK Kb eq;by_cases ei:i<ks.length
   ·have fm:=VT.kid_lt (k:=k) (n:=n) ei;have h1:=VT.nodesL_take ei;have h2:=VT.nodesL_take_le ks (i+1);obtain⟨x,y,z,ew,hx,hy,hz⟩:=zbk ks[i];simp[zu0,ei,ew,hx,hy,hz];rw[←ew];refine ih ks[i] (by omega) (by omega) _ _ ?_;simp;rw[zay (by omega) (by omega),zay (by omega) (by omega),zBw];refine eq _ _ ⟨ks.length-(i+1),by omega,Back.same (by simp) hsc ?_ ⟨_,_,rfl,i+1,by omega,rfl,by simp,?_,rfl⟩⟩
    ·simp[znL,AV.sc,AV.scV,AV.scA,AV.scB]
    ·rw[h1];congr 1;omega
   ·obtain rfl:i=ks.length:=by omega
    simp[zu0];refine Out.int rfl (ac _) hs ?_;simpa[VT.nodes,Int.add_comm]using hK
def zc0(f:VT→VT→Bool):List VT→List VT→Bool
 |[],[]=>true
 |a::x,b::y=>f a b && zc0 f x y
 |_,_=>false
theorem zqz{f:VT→VT→Bool}:∀ {x y:List VT},x.length≠y.length→zc0 f x y=false
 |[],[],h=>(h rfl).elim
 |a::x,b::y,h=>by have:x.length≠y.length:=λe=>h (by simp[e]);simp[zc0,zqz this]
 |[],_::_,_=>rfl
 |_::_,[],_=>rfl
theorem zIO(x:List VT)(hl:x.length≤1000000000)(fv:AV)(H:zaa)(K:AV→zaa→Prop)(oL:fv.sc H.length=true)(Inv:Nat→zaa→Prop)(h0:Inv 0 H)(step:∀(i:Nat) (h:i<x.length) (H':zaa),H.length≤H'.length→Inv i H'→aCallV tP fv [.agg (x[i]).cs] H' λr H''=>(r=.bool false∧Inv (i+1) H'')∨(r=.bool true∧K (.int .i64 i) H''))(fin:∀H',Inv x.length H'→K (.int .i64 (-1)) H'):ACalls tP zrI [.sl (VT.css x) .none,fv] H K:=by
 refine zUp λhs=>?_;simp[zEF];refine zUn (Inv:=λq t8 H'=>∃i:Nat,i≤x.length∧q=x.length-i∧t8=.int .i64 i∧H.length≤H'.length∧Inv i H') x.length ?_ ?_
 ·intro _;exact⟨0,by omega,by omega,rfl,ac _,h0⟩
 ·rintro q t8 H' ⟨i,hi,rfl,rfl,eP,hI⟩ hsc ek eK Kb eq;by_cases ei:i<x.length
  ·simp[zvj,ei];refine (step i ei H' eP hI).mono' λr H'' eE hle' hr=>?_;rcases hr with ⟨rfl,hI'⟩ | ⟨rfl,hk⟩
   ·simp;rw[zay (by omega) (by omega)];refine eq _ _ ⟨x.length-(i+1),by omega,Back.here (by omega) eE ?_ ⟨_,rfl,i+1,by omega,rfl,by simp,by omega,hI'⟩⟩;simp[znZ,AV.sc,AV.scV,AV.scA,AV.scB];exact zcu (by omega) oL
   ·simpa using hk
  ·obtain rfl:i=x.length:=by omega
   simp[zvj];exact fin H' hI
theorem zqp(x:List VT)(hl:x.length≤1000000000)(fv:AV)(H:zaa)(K:AV→zaa→Prop)(oL:fv.sc H.length=true)(Inv:Nat→zaa→Prop)(h0:Inv 0 H)(step:∀(i:Nat) (h:i<x.length) (H':zaa),H.length≤H'.length→Inv i H'→aCallV tP fv [.agg (x[i]).cs] H' λr H''=>(r=.bool false∧Inv (i+1) H'')∨(r=.bool true∧K (.bool true) H''))(fin:∀H',Inv x.length H'→K (.bool false) H'):ACalls tP zfR [.sl (VT.css x) .none,fv] H K:=by
 refine zTp λhs=>?_;unfold zEo;refine zIO x hl fv H _ oL Inv h0 (λi h H' eP hI=>(step i h H' eP hI).mono' λr H'' _ _ hr=>?_) (λH' hI=>?_)
 ·rcases hr with hr | ⟨h1,h2⟩
  ·exact .inl hr
  ·refine .inr ⟨h1,?_⟩;have:decide ((0:Int)≤i)=true:=by simp
   simpa using h2
 ·simpa using fin H' hI
theorem zHX:zeD tP zkq=true:=by kernel_rfl
section
variable (d7:List Dat) (vars:Int)
theorem zLS:∀(l:List VT) (i:Nat) (h:i<l.length),zbs d7 vars l=true→zbb d7 vars l[i]=true:=by
 intro l;induction l with
 |nil=>intro i h;simp at h
 |cons a l ih=>
  intro i h hl;simp[zbs]at hl;cases i with
  |zero=>exact hl.1
  |succ i=>exact ih i (by simpa using h) hl.2
def zb1(left:Int):AB:=.cells [.sl (d7.map Dat.cs) .none,.int .i64 vars,.int .i64 left]
theorem zL1:∀ (m:Nat) (v:VT),v.nodes≤m→v.nodes≤1000000000→∀ (left:Int),left≤1000000→-1≤left→∀ (H:zaa) (id:Nat),H[id]?=some (zb1 d7 vars left)→∀ (K:AV→zaa→Prop),
  (zbb d7 vars v=true→(v.nodes:Int)≤left→K (.bool true) (H.set id (zb1 d7 vars (left-v.nodes))))→(¬(zbb d7 vars v=true∧(v.nodes:Int)≤left)→∀l',K (.bool false) (H.set id (zb1 d7 vars l'))) →
  ACalls tP zkf [.ptr id 0,.agg v.cs] H K:=by
 intro m;induction m with
 |zero=>intro v h;have:=v.nodes_pos;omega
 |succ m ih=>
  intro v hv hb left i9 ik H id en K hK hF;obtain⟨k,n,ks⟩:=v;have ei:=zbm en;have iK:(VT.mk k n ks).nodes=VT.nodesL ks+1:=by simp[VT.nodes]
  have fh:=VT.len_le ks;refine ACalls.out (zRp λhs=>?_)
  -- the heap within: the receiver's copy and the type's
  generalize hJ:([.cells [.ptr id 0],.cells [.int .i64 k,.int .i64 n,.sl (VT.css ks) .none]]:zaa)=J;have m6:J[0]?=some (.cells [.ptr id 0]):=by subst hJ;rfl
  have kD:J[1]?=some (.cells [.int .i64 k,.int .i64 n,.sl (VT.css ks) .none]):=by subst hJ;rfl
  have eA:∀l',(H.set id (zb1 d7 vars l')++J)[id]?=some (zb1 d7 vars l'):=λl'=>zbK (zdO _ en);have bad:(¬(zbb d7 vars (.mk k n ks)=true∧((VT.mk k n ks).nodes:Int)≤left))→∀l',Out H.length K (.bool false) (H.set id (zb1 d7 vars l')++J):=λh l'=>
   Out.bool rfl (by simp) (hs.set rfl) (hF h l')
  have badS:zbu d7 vars k n ks.length=false→∀l',Out H.length K (.bool false) (H.set id (zb1 d7 vars l')++J):=λh l'=>bad (λ⟨h1,_⟩=>by simp[zbb,h]at h1) l'
  -- the arguments
  have args:zbu d7 vars k n ks.length=true→1≤left→∀ KK:AV→zaa→Prop,(∀ H',Out H.length K (.bool true) H'→KK (.bool false) H')→(∀ H',Out H.length K (.bool false) H'→KK (.bool true) H') →
    ACalls tP zfR [.sl (VT.css ks) .none,.fn zkq [.ptr H.length 0]] (H.set id (zb1 d7 vars (left-1))++J) KK:=by
   intro eS h1 KK hKf hKt;subst hJ;refine zqp ks (by omega) _ _ _ (by simp[AV.sc,AV.scV,AV.scA,AV.scB]) (λi H'=>(VT.nodesL (ks.take i):Int)+1≤left∧zbs d7 vars (ks.take i)=true∧H'=H.set id (zb1 d7 vars (left-1-VT.nodesL (ks.take i)))++[.cells [.ptr id 0],.cells [.int .i64 k,.int .i64 n,.sl (VT.css ks) .none]]) ⟨by simp[VT.nodesL];omega,by simp[zbs],by simp[VT.nodesL]⟩ ?_ ?_
   ·rintro i hi H' eP ⟨fz,fD,rfl⟩;have fm:=VT.kid_lt (k:=k) (n:=n) hi;have h1:=VT.nodesL_take hi;have h2:=VT.nodesL_take_le ks (i+1);have hokL:zbs d7 vars (ks.take (i+1))=(zbs d7 vars (ks.take i) && zbb d7 vars ks[i]):=by
     rw[ae hi];have:∀(l:List VT) (x:VT),zbs d7 vars (l++[x])=(zbs d7 vars l && zbb d7 vars x):=by
      intro l x;induction l with
      |nil=>simp[zbs]
      |cons a l ih=>simp[zbs,ih,Bool.and_assoc]
     exact this _ _
    simp only[aCallV,zHX,List.singleton_append];refine ACalls.out (zTs λe5=>?_);have gS:∀l',HSc (H.set id (zb1 d7 vars l')++[.cells [.ptr id 0],.cells [.int .i64 k,.int .i64 n,.sl (VT.css ks) .none]]):=λl'=>(hs.set rfl).append (by simp[AB.sc,AV.scA,AV.scB];omega);obtain⟨x1,x2,x3,ew,fJ,fc,fx⟩:=zbk ks[i];have hll2:(H.set id (zb1 d7 vars (left-1-VT.nodesL (ks.take i)))).length=H.length:=by simp
    have jW:(H.set id (zb1 d7 vars (left-1-VT.nodesL (ks.take i)))++[AB.cells [.ptr id 0],.cells [.int .i64 k,.int .i64 n,.sl (VT.css ks) .none],.cells [x1,x2,x3]])[H.length]?=some (.cells [.ptr id 0]):=by rw[List.getElem?_append_right (by simp)];simp
    have o6:(H.set id (zb1 d7 vars (left-1-VT.nodesL (ks.take i)))++[AB.cells [.ptr id 0],.cells [.int .i64 k,.int .i64 n,.sl (VT.css ks) .none],.cells [x1,x2,x3]])[H.length+2]?=some (.cells [x1,x2,x3]):=by rw[List.getElem?_append_right (by simp)];simp
    simp[zEp,ew,jW,o6,hll2];rw[←ew];refine ih ks[i] (by omega) (by omega) (left-1-VT.nodesL (ks.take i)) (by omega) (by omega) _ id (zbK (zdO _ en)) _ ?_ ?_
    ·intro ho hle2;rw[zeB _ (zdO _ en),bD,show left-1-(VT.nodesL (ks.take i):Int)-(ks[i]).nodes=left-1-VT.nodesL (ks.take (i+1)) by omega];simp;refine Out.bool (J:=[_]) (H2:=H.set id (zb1 d7 vars (left-1-VT.nodesL (ks.take (i+1))))++[.cells [.ptr id 0],.cells [.int .i64 k,.int .i64 n,.sl (VT.css ks) .none]]) (by simp;rfl) (by simp) (gS _) (.inl ⟨rfl,by omega,by rw[hokL,fD,ho];rfl,rfl⟩)
    ·intro ho l';rw[zeB _ (zdO _ en),bD];simp;have iy:¬(zbb d7 vars (.mk k n ks)=true∧((VT.mk k n ks).nodes:Int)≤left):=by
      rintro⟨g1,g2⟩;have eO:zbs d7 vars ks=true:=by simp[zbb]at g1;exact g1.2
      exact ho ⟨zLS d7 vars ks i hi eO,by omega⟩
     have hb3:=bad iy l';exact Out.bool (J:=[_]) (H2:=H.set id (zb1 d7 vars l')++[.cells [.ptr id 0],.cells [.int .i64 k,.int .i64 n,.sl (VT.css ks) .none]]) (by simp;rfl) (by simp) (gS _) (.inr ⟨rfl,hKt _ hb3⟩)
   ·rintro H' ⟨fz,fD,rfl⟩;rw[ak]at *;refine hKf _ ?_;refine Out.bool rfl (by simp) (hs.set rfl) ?_;have:=hK (by simp[zbb,eS,fD]) (by omega);rw[iK]at this;rw[show left-1-(VT.nodesL ks:Int)=left-((VT.nodesL ks+1:Nat):Int) by omega];exact this
  -- behind the shape
  have fin:∀ lo hi:Int,(k≠4→k≠5→n≠0→zbu d7 vars k n ks.length=false)→((ks.length:Int)<lo∨hi<(ks.length:Int)→zbu d7 vars k n ks.length=false)→1≤left →
    ((k=4∨k=5∨n=0)→lo≤(ks.length:Int)→(ks.length:Int)≤hi→zbu d7 vars k n ks.length=true) →
    zhj (.ptr H.length 0) (.ptr (H.length+1) 0) (.int .i64 lo) (.int .i64 hi) (H.set id (zb1 d7 vars (left-1))++J) (Out H.length K):=by
   intro lo hi hz hr h1 eu;have pG:(H.set id (zb1 d7 vars (left-1))++J)[H.length+1]?=some (.cells [.int .i64 k,.int .i64 n,.sl (VT.css ks) .none]):=by rw[List.getElem?_append_right (by simp)];subst hJ;simp
   by_cases eD:k=4∨k=5∨n=0
   ·have h3:(k != 4)=false∨((k != 4)=true∧(k != 5)=false)∨((k != 4)=true∧(k != 5)=true∧(n != 0)=false):=by
     by_cases g4:k=4
     ·left;simp[g4]
     ·by_cases g5:k=5
      ·right;left;simp[g5]
      ·right;right;simp[g4,g5];omega
    rcases h3 with g|⟨g,g'⟩|⟨g,g',g''⟩;case' inl=>simp[zhj,pG,kD,g]
    case' inr.inl=>simp[zhj,pG,kD,g,g']
    case' inr.inr=>simp[zhj,pG,kD,g,g',g'']
    all_goals
     by_cases jg:(ks.length:Int)<lo
     ·simp[jg];exact badS (hr (.inl jg)) _
     ·by_cases jf:hi<(ks.length:Int)
      ·simp[jg,jf,kD];exact badS (hr (.inr jf)) _
      ·simp[jg,jf,AV.isB,kD];refine args (eu eD (by omega) (by omega)) h1 _ (λH' ho=>?_) (λH' ho=>?_) <;> simpa using ho
   ·have g:(k != 4)=true:=by simp;omega
    have g':(k != 5)=true:=by simp;omega
    have g'':(n != 0)=true:=by simp;omega
    simp[zhj,pG,kD,g,g',g''];exact badS (hz (by omega) (by omega) (by omega)) _
  have start:(H++J)[id]?=some (zb1 d7 vars left):=zbK en;have gT:zup (.ptr H.length 0) (.ptr (H.length+1) 0) (H.set id (zb1 d7 vars (left-1))++J) (Out H.length K):=by
   refine zRh λe5=>?_;have mI:=eA (left-1);unfold zb1 at mI;by_cases h0:left-1<0
   ·simp[zuq,m6,zb1,mI,h0];exact bad (λh=>by have:=h.2;rw[iK]at this;omega) _
   have h1:1≤left:=by omega
   simp[zuq,m6,kD,zb1,mI,h0];refine zRk λ_=>?_;have gB:=λlo hi a b c=>fin lo hi a b h1 c;unfold zb1 at gB badS
   -- the three without arguments
   by_cases kC:k=1∨k=2∨k=3
   ·have eS:zbu d7 vars k n ks.length=(n == 0 && ks.length == 0):=by rcases kC with rfl | rfl | rfl <;> rfl
    have:=gB 0 0 (λ_ _ hn=>by rw[eS];simp[hn]) (λh=>by rw[eS];simp;intro _;rintro rfl;simp at h) (λh h2 h3=>by
     have hn:n=0:=by omega
     have hl:ks.length=0:=by omega
     rw[eS,hn,hl];rfl)
    rcases kC with rfl|rfl|rfl <;> simp[zur] <;> refine zDJ λ_=>?_ <;> simp[zd8,zdR] <;> exact this
   have b1:(k == 1)=false:=by simp;omega
   have b2:(k == 2)=false:=by simp;omega
   have b3:(k == 3)=false:=by simp;omega
   simp[zur,b1,b2,b3];refine zDJ λ_=>?_;by_cases h4:k=4
   ·subst h4;have eS:zbu d7 vars 4 n ks.length=(decide (0≤n) && decide (n<vars) && ks.length == 0):=rfl;by_cases g1:n<0
    ·simp[zd8,m6,kD,mI,g1];exact badS (by rw[eS];simp;omega) _
    by_cases g2:vars≤n
    ·simp[zd8,m6,kD,mI,g1,g2];exact badS (by rw[eS];simp;omega) _
    have:=gB 0 0 (λh=>(h rfl).elim) (λh=>by rw[eS];simp;intro _ _;rintro rfl;simp at h) (λh h2 h3=>by
     have hl:ks.length=0:=by omega
     rw[eS,hl];simp;omega)
    simp[zd8,m6,kD,mI,g1,g2,zdR];exact this
   have b4:(k == 4)=false:=by simp;omega
   by_cases h5:k=5
   ·subst h5;have eS:zbu d7 vars 5 n ks.length=(decide (0≤n) && (match d7[n.toNat]? with | some d=>(ks.length:Int) == d.vars | none=>false)):=rfl;by_cases g1:n<0
    ·simp[zd8,m6,kD,mI,g1];exact badS (by rw[eS];simp;omega) _
    by_cases g2:(d7.length:Int)≤n
    ·simp[zd8,m6,kD,mI,g1,g2];exact badS (by rw[eS,List.getElem?_eq_none (by omega)];simp) _
    have gd:n.toNat<d7.length:=by omega
    have g2':n<d7.length:=by omega
    have g1':0≤n:=by omega
    rw[List.getElem?_eq_getElem gd]at eS;simp only[g1',cZ,bk]at eS;have:=gB (d7[n.toNat]).vars (d7[n.toNat]).vars (λ_ h=>(h rfl).elim) (λh=>by rw[eS];simp;omega) (λh h2 h3=>by rw[eS];simp;omega);simp[zd8,m6,kD,mI,g1,g2,g1',g2',gd,Dat.cs,zdR];exact this
   have b5:(k == 5)=false:=by simp;omega
   by_cases h6:k=6
   ·subst h6;have eS:zbu d7 vars 6 n ks.length=(n == 0 && decide (2≤ks.length) && decide (ks.length≤6)):=rfl;have:=gB 2 6 (λ_ _ hn=>by rw[eS];simp[hn]) (λh=>by rw[eS];simp;intros;omega) (λh h2 h3=>by rw[eS];simp;omega);simp[zd8,zdR];exact this
   have b6:(k == 6)=false:=by simp;omega
   by_cases nF:k=7∨k=8
   ·have eS:zbu d7 vars k n ks.length=(n == 0 && ks.length == 1):=by rcases nF with rfl | rfl <;> rfl
    have:=gB 1 1 (λ_ _ hn=>by rw[eS];simp[hn]) (λh=>by rw[eS];simp;intros;omega) (λh h2 h3=>by rw[eS];simp;omega);rcases nF with rfl|rfl <;> simp[zd8] <;> refine zDK λ_=>?_ <;> simp[zm9,zdR] <;> exact this
   have b7:(k == 7)=false:=by simp;omega
   have b8:(k == 8)=false:=by simp;omega
   simp[zd8,b4,b5,b6,b7,b8];refine zDK λ_=>?_;by_cases h9:k=9
   ·subst h9;have eS:zbu d7 vars 9 n ks.length=(n == 0 && decide (1≤ks.length) && decide (ks.length≤7)):=rfl;have:=gB 1 7 (λ_ _ hn=>by rw[eS];simp[hn]) (λh=>by rw[eS];simp;intros;omega) (λh h2 h3=>by rw[eS];simp;omega);simp[zm9,zdR];exact this
   ·have b9:(k == 9)=false:=by simp;omega
    simp[zm9,b9];exact badS (by unfold zbu;simp[b1,b2,b3,b4,b5,b6,b7,b8,b9]) _
  subst hJ;unfold zb1 at start;simp[zDH,VT.cs,start];rw[zay (by omega) (by omega),zeB _ en];exact gT
theorem zCs(v:VT)(hb:v.nodes≤1000000000)(H:zaa)(K:AV→zaa→Prop)(hK:K (.bool (za0 d7 vars v)) H):ACalls tP zib [.sl (d7.map Dat.cs) .none,.agg v.cs,.int .i64 vars] H K:=by
 refine ACalls.out (zNP λhs=>?_);have hO:∀J,Out H.length K (.bool (za0 d7 vars v)) (H++J):=λJ=>Out.bool rfl (ac _) hs hK;obtain⟨x1,x2,x3,ew,fJ,fc,fx⟩:=zbk v;simp[zCr,ew,zaq,zaJ];rw[←ew];refine zL1 d7 vars _ v (ac _) hb 200 (by omega) (by omega) _ (H.length+1) (by simp[zb1]) _ ?_ ?_
 ·intro ho hn;have:za0 d7 vars v=true:=by simp[za0,ho];omega
  rw[this]at hO;simp;exact hO _
 ·intro iy l';have:za0 d7 vars v=false:=by
   cases h:za0 d7 vars v with
   |false=>rfl
   |true=>simp[za0]at h;exact(iy ⟨h.2,by omega⟩).elim
  rw[this]at hO;simp;exact hO _
end
mutual
theorem zBb:∀ v:VT,subst [] v=v
 |.mk k n ks=>by rw[subst,au (by rintro⟨_,h1,h2⟩;simp at h2;omega),zA9 ks]
theorem zA9:∀ l:List VT,zaX [] l=l
 |[]=>rfl
 |t::ts=>by rw[zaX,zBb t,zA9 ts]
end
theorem zTQ:∀(m:Nat) (args:List VT),(∀x∈args,x.nodes≤1000000)→args.length≤1000000→∀(v:VT),(if args=[] then v.nodes else v.nodes+1000001)≤m→v.nodes≤1000000→∀(H:zaa) (K:AV→zaa→Prop),K (.agg (subst args v).cs) H→ACalls tP zig [.agg v.cs,.sl (VT.css args) .none] H K:=by
 intro m;induction m with
 |zero=>intro args _ _ v h;have:=v.nodes_pos;split at h <;> omega
 |succ m ih=>
  intro args ha iq v hv hb H K hK;obtain⟨k,n,ks⟩:=v;have gd:VT.nodesL ks+1≤1000000:=by simpa[VT.nodes]using hb
  have fh:=VT.len_le ks;refine ACalls.out (zTO λhs=>?_);by_cases gU:k=4∧0≤n∧n<args.length
  ·obtain⟨rfl,h0,h1⟩:=gU;have hn:n.toNat<args.length:=by omega
   have ey:args≠[]:=by rintro rfl;simp at hn
   have gP:K (.agg (args[n.toNat]).cs) H:=by rw[subst,az ⟨rfl,h0,h1⟩,List.getElem?_eq_getElem hn]at hK;exact hK
   have eP:=ha _ (af hn);simp[VT.cs,zu7,h0,h1,hn];rw[au ey]at hv;refine ACalls.wk (args':=[.agg (args[n.toNat]).cs,.sl (VT.css []) .none]) ?_ ⟨.rfl',.atom .snil,trivial⟩;refine ih [] (by simp) (by simp) _ (by simp;omega) eP _ _ ?_;rw[zBb];generalize args[n.toNat]=x at *;obtain⟨k',n',ks'⟩:=x;simp[VT.cs];exact Out.at rfl (ac _) hs .rfl' rfl rfl gP
  ·have gP:K (.agg (VT.mk k n (zaX args ks)).cs) H:=by rw[subst,au gU]at hK;exact hK
   have go:∀H1,H1=H++[.cells [.int .i64 k,.int .i64 n,.sl (VT.css ks) .none],.cells [.int .i64 0,.int .i64 0,.snil],.cells [.int .i64 k,.int .i64 n,.snil]]→zi9 (.sl (VT.css args) .none) (.ptr (H.length+1) 0) (.ptr (H.length+2) 0) (.sl (VT.css ks) .none) (.int .i64 ks.length) (.int .i64 0) H1 (Out H.length K):=by
    rintro _ rfl;unfold zi9;refine ALoop.ownC (cs:=[.int .i64 k,.int .i64 n,.snil]) (H.length+2) 2 za9 3 (by simp) rfl ?_;have e0:(H++[AB.cells [.int .i64 k,.int .i64 n,.sl (VT.css ks) .none],.cells [.int .i64 0,.int .i64 0,.snil],.cells [.int .i64 k,.int .i64 n,.snil]]).length=H.length+3:=by simp
    rw[e0,zAQ,aq];have hJ:∀i X,HSc (H++[.cells [.int .i64 k,.int .i64 n,.sl (VT.css ks) .none],.cells [.int .i64 0,.int .i64 0,.snil],.cells [.int .i64 k,.int .i64 n,.sl X (.own (H.length+3))],.perm za9 3 i]):=λi X=>hs.append (by simp[AB.sc,AV.scA,AV.scB]);show zi9 (.sl (VT.css args) .none) (.ptr (H.length+1) 0) (.ptr (H.length+2) 0) (.sl (VT.css ks) .none) (.int .i64 ks.length) (.int .i64 0) (H++[.cells [.int .i64 k,.int .i64 n,.sl (VT.css ks) .none],.cells [.int .i64 0,.int .i64 0,.snil],.cells [.int .i64 k,.int .i64 n,.sl [] (.own (H.length+3))],.perm za9 3 0]) (Out H.length K);refine zTM (Inv:=λq t37 H'=>∃i:Nat,i≤ks.length∧q=ks.length-i∧t37=.int .i64 i∧H'=H++[.cells [.int .i64 k,.int .i64 n,.sl (VT.css ks) .none],.cells [.int .i64 0,.int .i64 0,.snil],.cells [.int .i64 k,.int .i64 n,.sl (VT.css ((zaX args ks).take i)) (.own (H.length+3))],.perm za9 3 i]) ks.length ?_ ?_
    ·intro _;exact⟨0,by omega,by omega,rfl,by simp[VT.css]⟩
    ·rintro q t37 H' ⟨i,hi,rfl,rfl,rfl⟩ hsc ek eK Kb eq;by_cases ei:i<ks.length
     ·have fm:=VT.kid_lt (k:=k) (n:=n) ei;have gN:(zaX args ks).length=ks.length:=by rw[zeU];simp
      have eC:i<(zaX args ks).length:=by omega
      have o4:(zaX args ks)[i]=subst args ks[i]:=by simp[zeU]
      obtain⟨x1,x2,x3,ew,fJ,fc,fx⟩:=zbk ks[i];simp[zu8,ei,ew,fJ,fc,fx];rw[←ew];refine zaD (.agg (subst args ks[i]).cs) (λJ=>ih args ha iq ks[i] (by by_cases he:args=[] <;> simp only[he,a6,aN]at hv ⊢ <;> omega) (by omega) _ _ ⟨rfl,rfl⟩) ?_;rw[zfG,←o4];simp[zax,zaM,zaK,gN];refine⟨by omega,⟨by omega,by omega⟩,?_⟩;rw[zay (by omega) (by omega),show min i ks.length=i by omega];refine eq _ _ ⟨ks.length-(i+1),by omega,Back.at (J:=[_]) (H2:=H++[.cells [.int .i64 k,.int .i64 n,.sl (VT.css ks) .none],.cells [.int .i64 0,.int .i64 0,.snil],.cells [.int .i64 k,.int .i64 n,.sl (VT.css ((zaX args ks).take (i+1))) (.own (H.length+3))],.perm za9 3 (i+1)]) (by rw[zhK eC];simp;rfl) (by simp) (hJ _ _) ?_ ⟨_,rfl,i+1,by omega,rfl,by simp,rfl⟩⟩;simp[znQ,AV.sc,AV.scV,AV.scA,AV.scB]
     ·obtain rfl:i=ks.length:=by omega
      have e:(zaX args ks).take ks.length=zaX args ks:=ai (by rw[zeU];simp);rw[e];simp[zu8];exact Out.at rfl (ac _) hs (WkV.agg (ds:=[.int .i64 k,.int .i64 n,.sl (VT.css (zaX args ks)) .none]) ⟨.refl _,.refl _,.sl _ _,trivial⟩) rfl (by simp[AV.scV,AV.scA,AV.scB]) (by simpa[VT.cs]using gP)
   simp only[VT.cs,zu7];by_cases h4:k=4
   ·subst h4;by_cases h0:0≤n
    ·have h1:¬n<args.length:=λh=>gU ⟨rfl,h0,h⟩;simp[h0,h1,zaq,zaJ,aa];exact go _ rfl
    ·simp[h0,zaq,zaJ,aa];exact go _ rfl
   ·have nG:(k == 4)=false:=by simpa using h4
    simp[nG,zaq,zaJ,aa];exact go _ rfl
def zle(args:List VT):AB:=.cells (args.map λx=>.int .i64 x.nodes)
theorem zTJ(args:List VT)(ha:∀ x∈args,x.nodes≤1000000)(iq:args.length≤1000000):∀ (m:Nat) (v:VT),v.nodes≤m→v.nodes≤1000000→∀ (H:zaa) (id:Nat),H[id]?=some (zle args)→∀ (K:AV→zaa→Prop),
  (∀r:Nat,(r≤200↔(subst args v).nodes≤200)→(r≤200→r=(subst args v).nodes)→r≤1000000+200*v.nodes→K (.int .i64 r) H)→ACalls tP zks [.agg v.cs,.ms id 0 args.length args.length] H K:=by
 intro m;induction m with
 |zero=>intro v h;have:=v.nodes_pos;omega
 |succ m ih=>
  intro v hv hb H id en K hK;obtain⟨k,n,ks⟩:=v;have gd:VT.nodesL ks+1≤1000000:=by simpa[VT.nodes]using hb
  have fh:=VT.len_le ks;have ja:=zbm en;refine ACalls.out (zTH λhs=>?_);by_cases gU:k=4∧0≤n∧n<args.length
  ·obtain⟨rfl,h0,h1⟩:=gU;have hn:n.toNat<args.length:=by omega
   have ig:subst args (.mk 4 n ks)=args[n.toNat]:=by rw[subst,az ⟨rfl,h0,h1⟩,List.getElem?_eq_getElem hn];rfl
   rw[ig]at hK;have hg:(H++[AB.cells [.int .i64 4,.int .i64 n,.sl (VT.css ks) .none]])[id]?=some (zle args):=zbK en;have eP:=ha _ (af hn);unfold zle at hg;simp[VT.cs,zu2,h0,h1,hn,hg,zbA];exact Out.int rfl (ac _) hs (hK _ aO (λ_=>rfl) (by omega))
  ·have ig:subst args (.mk k n ks)=.mk k n (zaX args ks):=by rw[subst,au gU]
   have hnodes:(subst args (.mk k n ks)).nodes=VT.nodesL (zaX args ks)+1:=by rw[ig];rfl
   rw[hnodes]at hK;have hO:∀r:Nat,(r≤200↔VT.nodesL (zaX args ks)+1≤200)→(r≤200→r=VT.nodesL (zaX args ks)+1)→r≤1000000+200*(VT.mk k n ks).nodes→∀J,Out H.length K (.int .i64 r) (H++J):=λr h1 h2 h3 J=>Out.int rfl (ac _) hs (hK r h1 h2 h3);have gN:(zaX args ks).length=ks.length:=by rw[zeU];simp
   have go:zu6 (.ms id 0 args.length args.length) (.int .i64 1) (.sl (VT.css ks) .none) (.int .i64 ks.length) (.int .i64 0) (H++[.cells [.int .i64 k,.int .i64 n,.sl (VT.css ks) .none]]) (Out H.length K):=by
    refine zTF (Inv:=λq t5 t31 H'=>∃i:Nat,i≤ks.length∧q=ks.length-i∧t31=.int .i64 i∧t5=.int .i64 (1+VT.nodesL ((zaX args ks).take i):Nat)∧1+VT.nodesL ((zaX args ks).take i)≤200∧H'=H++[.cells [.int .i64 k,.int .i64 n,.sl (VT.css ks) .none]]) ks.length ?_ ?_
    ·intro _;exact⟨0,by omega,by omega,rfl,by simp[VT.nodesL],by simp[VT.nodesL],rfl⟩
    ·rintro q t5 t31 H' ⟨i,hi,rfl,rfl,rfl,fD,rfl⟩ hsc ek eK Kb eq;by_cases ei:i<ks.length
     ·have fm:=VT.kid_lt (k:=k) (n:=n) ei;have eC:i<(zaX args ks).length:=by omega
      have o4:(zaX args ks)[i]=subst args ks[i]:=by simp[zeU]
      have h1:=VT.nodesL_take eC;have h2:=VT.nodesL_take_le (zaX args ks) (i+1);rw[o4]at h1;obtain⟨x1,x2,x3,ew,fJ,fc,fx⟩:=zbk ks[i];simp[zu3,ei,ew,fJ,fc,fx];rw[←ew];refine ih ks[i] (by omega) (by omega) _ id (zbK en) _ λr jZ iA pD=>?_;simp;rw[zay (by omega) (by omega)];by_cases fW:(200:Int)<1+VT.nodesL ((zaX args ks).take i)+r
      ·simp[fW,znO,zu5];have:=hO (1+VT.nodesL ((zaX args ks).take i)+r) (by constructor <;> intro h <;> omega) (by omega) (by omega);have e:((1+VT.nodesL ((zaX args ks).take i)+r:Nat):Int)=1+(VT.nodesL ((zaX args ks).take i):Int)+r:=by omega
       rw[e]at this;exact this _
      ·have hr:r=(subst args ks[i]).nodes:=iA (by omega);simp[fW];rw[zay (by omega) (by omega),zBw];refine eq _ _ ⟨ks.length-(i+1),by omega,Back.same (by simp) hsc ?_ ⟨_,_,rfl,i+1,by omega,rfl,by simp,?_,by omega,rfl⟩⟩
       ·simp[znN,AV.sc,AV.scV,AV.scA,AV.scB];omega
       ·congr 1;omega
     ·obtain rfl:i=ks.length:=by omega
      rw[ai (by omega)]at *;simp[zu3,znO,zu5];have:=hO (1+VT.nodesL (zaX args ks)) (by omega) (by omega) (by omega);have e:((1+VT.nodesL (zaX args ks):Nat):Int)=1+(VT.nodesL (zaX args ks):Int):=by omega
      rw[e]at this;exact this _
   simp only[VT.cs,zu2];by_cases h4:k=4
   ·subst h4;by_cases h0:0≤n
    ·have h1:¬n<args.length:=λh=>gU ⟨rfl,h0,h⟩;simp[h0,h1];exact go
    ·simp[h0];exact go
   ·have nG:(k == 4)=false:=by simpa using h4
    simp[nG];exact go
end Go.Proofs.YtdmamdnkcefmmaaGreatDoor
