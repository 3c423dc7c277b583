import Derived.Test.YtjkkonpjecoieaaGreatKY4
set_option linter.unusedSimpArgs false
set_option linter.unusedVariables false
namespace Go.Proofs.YtjkkonpjecoieaaGreat
open Go Go.Abs
set_option maxRecDepth 8000
theorem zSD (data:List Dat) (hdl:data.length≤1000000) (vars:Int):∀ (m:Nat) (v:VT),v.nodes≤m→v.nodes≤1000000000→∀ (H:zaa) (K:AV→zaa→Prop),K (.bool (za1 data vars v)) H→ACalls tP zjO [.sl (data.map Dat.cs) .none,.agg v.cs,.int .i64 vars] H K:=by
 intro m
 induction m with
 | zero=>intro v h;have:=v.nodes_pos;omega
 | succ m ih=>
  intro v hv hb H K hK
  obtain⟨k,n,ks⟩:=v
  have hnl:VT.nodesL ks+1≤1000000000:=by simpa[VT.nodes]using hb
  have hll:=VT.len_le ks
  refine ACalls.out (zSB fun hs=>?_)
  have hO:∀ J,Out H.length K (.bool (zbb data vars k n ks.length && zbc data vars ks)) (H++J):=fun J=>Out.bool rfl (Nat.le_refl _) hs (by simpa[za1]using hK)
  have hF:zbb data vars k n ks.length=false→∀ J,Out H.length K (.bool false) (H++J):=fun h J=>by have:=hO J;rwa [h,Bool.false_and]at this
  have loop:zbb data vars k n ks.length=true→zuj (.sl (data.map Dat.cs) .none) (.int .i64 vars) (.ptr H.length 0) (.int .i64 ks.length) (.int .i64 0) (H++[.cells [.int .i64 k,.int .i64 n,.sl (VT.css ks) .none]]) (Out H.length K):=by
   intro hsh
   rw[hsh]at hO
   simp only[Bool.true_and]at hO
   refine zSz (Inv:=fun q t8 H'=>∃ i:Nat,i≤ks.length∧q=ks.length-i∧t8=.int .i64 i∧zbc data vars (ks.drop i)=zbc data vars ks∧H'=H++[.cells [.int .i64 k,.int .i64 n,.sl (VT.css ks) .none]]) ks.length ?_ ?_
   ·intro _;exact⟨0,by omega,by omega,rfl,by simp,rfl⟩
   ·rintro q t8 H' ⟨i,hi,rfl,rfl,ho,rfl⟩ hsc hlen hsF Kb hKb
    by_cases hlt:i<ks.length
    ·have hki:=VT.kid_lt (k:=k) (n:=n) hlt
     rw[List.drop_eq_getElem_cons hlt,zbc]at ho
     simp[zuh,hlt]
     refine ih ks[i] (by omega) (by omega) _ _ ?_
     cases hb:za1 data vars ks[i] with
     | false=>
      rw[hb,Bool.false_and]at ho
      rw[←ho]at hO
      simp
      exact hO _
     | true=>
      rw[hb,Bool.true_and]at ho
      simp
      rw[zau (by omega) (by omega)]
      refine hKb _ _ ⟨ks.length-(i+1),by omega,Back.here (by simp) hsc ?_ ⟨_,rfl,i+1,by omega,rfl,by simp,ho,rfl⟩⟩
      simp[znG,AV.sc,AV.scV,AV.scA,AV.scB]
    ·obtain rfl:i=ks.length:=by omega
     rw[List.drop_length,zbc]at ho
     rw[←ho]at hO
     simp[zuh]
     exact hO _
  have prim:(k=1∨k=2∨k=3)→Out H.length K (.bool (n == 0 && ks.length == 0)) (H++[.cells [.int .i64 k,.int .i64 n,.sl (VT.css ks) .none]]):=by
   intro h
   have hsh:zbb data vars k n ks.length=(n == 0 && ks.length == 0):=by rcases h with rfl | rfl | rfl <;> rfl
   have:=hO [.cells [.int .i64 k,.int .i64 n,.sl (VT.css ks) .none]]
   rw[hsh]at this
   cases ks with
   | nil=>simpa[zbc]using this
   | cons x l=>simpa using this
  by_cases h123:k=1∨k=2∨k=3
  ·have:=prim h123
   cases hn:(n == 0) with
   | false=>rw[hn,Bool.false_and]at this;rcases h123 with rfl | rfl | rfl <;> simp[zcH,VT.cs,zbR,hn] <;> exact this
   | true=>
    rw[hn,Bool.true_and]at this
    have e:((ks.length:Int) == 0)=(ks.length == 0):=by rw[Bool.eq_iff_iff];simp
    rw[←e]at this
    rcases h123 with rfl | rfl | rfl <;> simp only[zcH,VT.cs] <;> simp[zbR,hn] <;> simpa using this
  by_cases h4:k=4
  ·subst h4
   have hsh:zbb data vars 4 n ks.length=(decide (0≤n) && decide (n<vars) && ks.length == 0):=rfl
   have hO':∀ J,Out H.length K (.bool (decide (0≤n) && decide (n<vars) && ks.length == 0)) (H++J):=fun J=>by
    have:=hO J
    rw[hsh]at this
    cases ks with
    | nil=>simpa[zbc]using this
    | cons x l=>simpa using this
   have e:((ks.length:Int) == 0)=(ks.length == 0):=by rw[Bool.eq_iff_iff];simp
   rw[←e]at hO'
   by_cases g1:0≤n
   ·by_cases g2:n<vars
    ·simp only[zcH,VT.cs]
     simp[zbR,g1,g2]
     simpa[g1,g2]using hO' _
    ·simp only[zcH,VT.cs]
     simp[zbR,g1,g2]
     simpa[g1,g2]using hO' _
   ·simp only[zcH,VT.cs]
    simp[zbR,g1]
    simpa[g1]using hO' _
  by_cases h5:k=5
  ·subst h5
   have hsh:zbb data vars 5 n ks.length=(decide (0≤n) && (match data[n.toNat]? with | some d=>(ks.length:Int) == d.vars | none=>false)):=rfl
   by_cases g1:0≤n
   ·have g1':¬ n<0:=by omega
    by_cases g2:n<data.length
    ·have hnl:n.toNat<data.length:=by omega
     have g2':¬ (data.length:Int)≤n:=by omega
     have hat:(data.map Dat.cs)[n.toNat]?.getD []=[.str data[n.toNat].name,.int .i64 data[n.toNat].vars,.sl (data[n.toNat].cons.map Con.cs) .none]:=by simp[hnl,Dat.cs]
     rw[List.getElem?_eq_getElem hnl]at hsh
     simp only[g1,decide_true,Bool.true_and]at hsh
     cases hv:((ks.length:Int) == data[n.toNat].vars) with
     | false=>
      rw[hv]at hsh
      have hv':((ks.length:Int) != data[n.toNat].vars)=true:=by simp[bne,hv]
      simp only[zcH,VT.cs]
      simp[zbR,g1',g2',g1,g2,hnl,Dat.cs,hv']
      exact hF hsh _
     | true=>
      rw[hv]at hsh
      have hv':((ks.length:Int) != data[n.toNat].vars)=false:=by simp[bne,hv]
      simp only[zcH,VT.cs]
      simp[zbR,g1',g2',g1,g2,hnl,Dat.cs,hv',ze6,ziC]
      exact loop hsh
    ·have g2':(data.length:Int)≤n:=by omega
     rw[List.getElem?_eq_none (by omega)]at hsh
     simp only[zcH,VT.cs]
     simp[zbR,g1',g2']
     exact hF (by rw[hsh];simp) _
   ·have g1':n<0:=by omega
    simp only[zcH,VT.cs]
    simp[zbR,g1']
    exact hF (by rw[hsh];simp[g1]) _
  by_cases h6:k=6
  ·subst h6
   have hsh:zbb data vars 6 n ks.length=(n == 0 && decide (2≤ks.length) && decide (ks.length≤6)):=rfl
   simp only[zcH,VT.cs]
   cases hn:(n == 0) with
   | false=>
    have:(n != 0)=true:=by simp[bne,hn]
    simp[zbR,this]
    exact hF (by rw[hsh,hn];rfl) _
   | true=>
    have hn':(n != 0)=false:=by simp[bne,hn]
    by_cases g1:ks.length<2
    ·have:(ks.length:Int)<2:=by omega
     simp[zbR,hn',this]
     exact hF (by rw[hsh];simp;omega) _
    ·have g1':¬ (ks.length:Int)<2:=by omega
     by_cases g2:6<ks.length
     ·have:(6:Int)<ks.length:=by omega
      simp[zbR,hn',g1',this]
      exact hF (by rw[hsh];simp;omega) _
     ·have:¬ (6:Int)<ks.length:=by omega
      simp[zbR,hn',g1',this,ze6,ziC]
      exact loop (by rw[hsh,hn];simp;omega)
  by_cases h78:k=7∨k=8
  ·have hsh:zbb data vars k n ks.length=(n == 0 && ks.length == 1):=by rcases h78 with rfl | rfl <;> rfl
   cases hn:(n == 0) with
   | false=>
    have:(n != 0)=true:=by simp[bne,hn]
    have fin:=hF (by rw[hsh,hn];rfl)
    simp only[zcH,VT.cs]
    rcases h78 with rfl | rfl <;> simp[zbR,zed,this] <;> exact fin _
   | true=>
    have hn':(n != 0)=false:=by simp[bne,hn]
    by_cases g1:ks.length=1
    ·have g1':((ks.length:Int) != 1)=false:=by simp[g1]
     have fin:=loop (by rw[hsh,hn,g1];rfl)
     simp only[zcH,VT.cs]
     rcases h78 with rfl | rfl <;> simp[zbR,zed,hn',g1',ze6,ziC] <;> exact fin
    ·have g1':((ks.length:Int) != 1)=true:=by simp;omega
     have fin:=hF (by rw[hsh];simp[g1])
     simp only[zcH,VT.cs]
     rcases h78 with rfl | rfl <;> simp[zbR,zed,hn',g1'] <;> exact fin _
  have b1:(k == 1)=false:=by simp;omega
  have b2:(k == 2)=false:=by simp;omega
  have b3:(k == 3)=false:=by simp;omega
  have b4:(k == 4)=false:=by simp;omega
  have b5:(k == 5)=false:=by simp;omega
  have b6:(k == 6)=false:=by simp;omega
  have b7:(k == 7)=false:=by simp;omega
  have b8:(k == 8)=false:=by simp;omega
  by_cases h9:k=9
  ·subst h9
   have hsh:zbb data vars 9 n ks.length=(n == 0 && decide (1≤ks.length) && decide (ks.length≤7)):=rfl
   simp only[zcH,VT.cs]
   cases hn:(n == 0) with
   | false=>
    have:(n != 0)=true:=by simp[bne,hn]
    simp[zbR,zed,this]
    exact hF (by rw[hsh,hn];rfl) _
   | true=>
    have hn':(n != 0)=false:=by simp[bne,hn]
    by_cases g1:ks.length<1
    ·have:(ks.length:Int)<1:=by omega
     simp[zbR,zed,hn',this]
     exact hF (by rw[hsh];simp;omega) _
    ·have g1':¬ (ks.length:Int)<1:=by omega
     by_cases g2:7<ks.length
     ·have:(7:Int)<ks.length:=by omega
      simp[zbR,zed,hn',g1',this]
      exact hF (by rw[hsh];simp;omega) _
     ·have:¬ (7:Int)<ks.length:=by omega
      simp[zbR,zed,hn',g1',this,ze6,ziC]
      exact loop (by rw[hsh,hn];simp;omega)
  ·have b9:(k == 9)=false:=by simp;omega
   simp only[zcH,VT.cs]
   simp[zbR,zed,b1,b2,b3,b4,b5,b6,b7,b8,b9]
   exact hF (by unfold zbb;simp[b1,b2,b3,b4,b5,b6,b7,b8,b9]) _
theorem zs6 (data:List Dat) (hdl:data.length≤1000000) (vars:Int) (v:VT) (hb:v.nodes≤1000000000) (H:zaa) (K:AV→zaa→Prop) (hK:K (.bool (zaR data vars v)) H):ACalls tP zhH [.sl (data.map Dat.cs) .none,.agg v.cs,.int .i64 vars] H K:=by
 refine ACalls.out (zO5 fun hs=>?_)
 have hO:∀ J,Out H.length K (.bool (zaR data vars v)) (H++J):=fun J=>Out.bool rfl (Nat.le_refl _) hs hK
 unfold zaR at hO
 simp[zBt]
 refine zBX _ v (Nat.le_refl _) hb _ _ ?_
 by_cases h:v.nodes≤200
 ·have h':(v.nodes:Int)≤200:=by omega
  simp[h']
  refine zSD data hdl vars _ v (Nat.le_refl _) hb _ _ ?_
  simpa[h]using hO _
 ·have h':¬ (v.nodes:Int)≤200:=by omega
  simp[h']
  simpa[h]using hO _
def zbY (es:List (List AV)) (id:Nat):AV:=match es with | []=>.snil | _=>.sl es (.own id)
def zcU (e s:Nat) (n:Nat):zaa:=match n with | 0=>[] | n=>[.perm e s n]
theorem zDe (es:List (List AV)) (id:Nat):WkA (zbY es id) (.sl es .none):=by
 cases es with
 | nil=>exact .snil
 | cons e es=>exact .sl _ _
theorem zu0 (es:List (List AV)) {id n:Nat} (h:es=[]∨id<n):(zbY es id).scA n=true:=by
 cases es with
 | nil=>rfl
 | cons e es=>
  rcases h with h | h
  ·cases h
  ·simpa[zbY,AV.scA,AV.scB]using h
theorem zDd (es:List (List AV)) (id:Nat):(zbY es id).known=true:=by cases es <;> rfl
theorem zDc (es:List (List AV)) (id:Nat):(zbY es id).cs?=some [zbY es id]:=by cases es <;> rfl
theorem zDf {e s bytes:Nat} {es:List (List AV)} {y:List AV} {t:Tok} {H:zaa} {K:AV→zaa→Prop} (hy:y.length=s) (hb:(es.length+1)*bytes≤140737488355328) (hl:es.length+1≤9223372036854775807)
  (hk:K (zbY (es++[y]) H.length) (H++zcU e s (es.length+1))):zax e s bytes (zbY es H.length) (.sl [y] t) (H++zcU e s es.length) K:=by
 unfold zax zaY
 refine⟨by simpa using hy,?_⟩
 cases es with
 | nil=>
  unfold zaM
  simp[zbY,zcU]at *
  exact⟨by omega,hk⟩
 | cons x es=>
  unfold zaM
  simp[zbY,zcU]at *
  refine⟨⟨by omega,by omega⟩,hk⟩
theorem zu1 {e s bytes id n:Nat} {es:List (List AV)} {y:List AV} {t:Tok} {H0 Hh:zaa} {K:AV→zaa→Prop} (hn:n=es.length) (he:Hh=H0++zcU e s n) (hid:id=H0.length) (hy:y.length=s) (hb:(es.length+1)*bytes≤140737488355328) (hl:es.length+1≤9223372036854775807)
  (hk:K (zbY (es++[y]) id) (H0++zcU e s (n+1))):zax e s bytes (zbY es id) (.sl [y] t) Hh K:=by
 subst he hid hn
 exact zDf hy hb hl hk
@[simp] theorem zWy (es:List (List AV)) (id:Nat):(zbY es id).cs?=some [zbY es id]:=zDc es id
@[simp] theorem zWz (es:List (List AV)) (id:Nat):(zbY es id).known=true:=zDd es id
theorem zeh {v:VT} {k:AV→Prop}:zaB 3 [.int .i64 0,.int .i64 0,.snil] 1 [(0,.agg v.cs)] k=k (.sl [v.cs] .full):=by
 cases v
 exact propext Iff.rfl
theorem zhd {l:List VT} {i:Nat} (h:i<l.length):VT.css (l.take (i+1))=VT.css (l.take i)++[(l[i]).cs]:=by
 rw[VT.css_map,VT.css_map,List.take_succ_eq_append_getElem h,List.map_append]
 rfl
theorem zwN {H J:zaa} {K:AV→zaa→Prop} {k n:Int} {ks:List VT} {id:Nat} (hs:HSc H) (hK:K (.agg (VT.mk k n ks).cs) H):Out H.length K (.agg [.int .i64 k,.int .i64 n,zbY (VT.css ks) id]) (H++J):=
 Out.at rfl (Nat.le_refl _) hs (WkV.agg (ds:=[.int .i64 k,.int .i64 n,.sl (VT.css ks) .none]) ⟨.refl _,.refl _,zDe _ _,trivial⟩) rfl (by simp[AV.scV,AV.scA,AV.scB]) (by simpa[VT.cs]using hK)
theorem zDV:∀ (m:Nat) (v:VT),v.nodes≤m→v.nodes≤1000000→∀ (H:zaa) (K:AV→zaa→Prop),K (.agg v.cs) H→ACalls tP zjd [.agg v.cs] H K:=by
 intro m
 induction m with
 | zero=>intro v h;have:=v.nodes_pos;omega
 | succ m ih=>
  intro v hv hb H K hK
  obtain⟨k,n,ks⟩:=v
  have hnl:VT.nodesL ks+1≤1000000:=by simpa[VT.nodes]using hb
  have hll:=VT.len_le ks
  refine ACalls.out (zHi fun hs=>?_)
  simp[VT.cs,zyA,zaz,zaV,Nat.add_assoc]
  refine zHg (Inv:=fun q t4 H'=>∃ i:Nat,i≤ks.length∧q=ks.length-i∧t4=.int .i64 i∧H'=H++[.cells [.int .i64 k,.int .i64 n,.sl (VT.css ks) .none],.cells [.int .i64 0,.int .i64 0,.snil],.cells [.int .i64 k,.int .i64 n,zbY (VT.css (ks.take i)) (H.length+3)]]++zcU za9 3 i) ks.length ?_ ?_
  ·intro _;exact⟨0,by omega,by omega,rfl,by simp[zcU,zbY,VT.css]⟩
  ·rintro q t4 H' ⟨i,hi,rfl,rfl,rfl⟩ hsc hlen hsF Kb hKb
   by_cases hlt:i<ks.length
   ·have hki:=VT.kid_lt (k:=k) (n:=n) hlt
    simp[zqP,hlt]
    refine zaH (.agg (ks[i]).cs) (fun J=>ih ks[i] (by omega) (by omega) _ _ ⟨rfl,rfl⟩) ?_
    rw[zeh]
    refine zu1 (H0:=H++[.cells [.int .i64 k,.int .i64 n,.sl (VT.css ks) .none],.cells [.int .i64 0,.int .i64 0,.snil],.cells [.int .i64 k,.int .i64 n,zbY (VT.css (ks.take i)) (H.length+3)]]) (n:=i) (by simp;omega) (by simp) (by simp) (by simp) (by simp;omega) (by simp;omega) ?_
    rw[←zhd hlt]
    simp
    rw[zau (by omega) (by omega)]
    refine hKb _ _ ⟨ks.length-(i+1),by omega,Back.here (by simp[zcU]) ?_ ?_ ⟨_,rfl,i+1,by omega,rfl,by simp,by simp⟩⟩
    ·refine hs.append ?_
     simp[AB.sc,zcU,AV.scA,AV.scB]
     exact zu0 _ (.inr (by omega))
    ·simp[zkv,AV.sc,AV.scV,AV.scA,AV.scB]
   ·obtain rfl:i=ks.length:=by omega
    rw[List.take_length]at *
    simp[zqP]
    exact zwN hs hK
theorem zes (args:List VT):∀ l:List VT,zaQ args l=l.map (subst args)
 | []=>rfl
 | t::ts=>by rw[zaQ,zes args ts];rfl
theorem zQw (args:List VT) (ha:∀ x∈args,x.nodes≤1000000) (hal:args.length≤1000000):∀ (m:Nat) (v:VT),v.nodes≤m→v.nodes≤1000000→∀ (H:zaa) (K:AV→zaa→Prop),K (.agg (subst args v).cs) H→ACalls tP zjF [.agg v.cs,.sl (VT.css args) .none] H K:=by
 intro m
 induction m with
 | zero=>intro v h;have:=v.nodes_pos;omega
 | succ m ih=>
  intro v hv hb H K hK
  obtain⟨k,n,ks⟩:=v
  have hnl:VT.nodesL ks+1≤1000000:=by simpa[VT.nodes]using hb
  have hll:=VT.len_le ks
  refine ACalls.out (zQu fun hs=>?_)
  by_cases hvar:k=4∧0≤n∧n<args.length
  ·obtain⟨rfl,h0,h1⟩:=hvar
   have hn:n.toNat<args.length:=by omega
   have hK':K (.agg (args[n.toNat]).cs) H:=by
    rw[subst,if_pos ⟨rfl,h0,h1⟩,List.getElem?_eq_getElem hn]at hK
    exact hK
   simp[VT.cs,ztB,h0,h1,hn]
   refine zDV _ _ (Nat.le_refl _) (ha _ (List.getElem_mem hn)) _ _ ?_
   generalize args[n.toNat]=x at *
   obtain⟨k',n',ks'⟩:=x
   simp[VT.cs]
   exact Out.at rfl (Nat.le_refl _) hs .rfl' rfl rfl hK'
  ·have hK':K (.agg (VT.mk k n (zaQ args ks)).cs) H:=by
    rw[subst,if_neg hvar]at hK
    exact hK
   have go:∀ H1,H1=H++[.cells [.int .i64 k,.int .i64 n,.sl (VT.css ks) .none],.cells [.int .i64 0,.int .i64 0,.snil],.cells [.int .i64 k,.int .i64 n,.snil]]→ztE (.sl (VT.css args) .none) (.ptr H.length 0) (.ptr (H.length+1) 0) (.ptr (H.length+2) 0) (.int .i64 0) H1 (Out H.length K):=by
    rintro _ rfl
    refine zQs (Inv:=fun q t6 H'=>∃ i:Nat,i≤ks.length∧q=ks.length-i∧t6=.int .i64 i∧H'=H++[.cells [.int .i64 k,.int .i64 n,.sl (VT.css ks) .none],.cells [.int .i64 0,.int .i64 0,.snil],.cells [.int .i64 k,.int .i64 n,zbY (VT.css ((zaQ args ks).take i)) (H.length+3)]]++zcU za9 3 i) ks.length ?_ ?_
    ·intro _;exact⟨0,by omega,by omega,rfl,by simp[zcU,zbY,VT.css]⟩
    ·rintro q t6 H' ⟨i,hi,rfl,rfl,rfl⟩ hsc hlen hsF Kb hKb
     by_cases hlt:i<ks.length
     ·have hki:=VT.kid_lt (k:=k) (n:=n) hlt
      have hlt':i<(zaQ args ks).length:=by rw[zes];simpa using hlt
      have hsi:(zaQ args ks)[i]=subst args ks[i]:=by simp[zes]
      simp[ztC,hlt]
      refine zaH (.agg (subst args ks[i]).cs) (fun J=>ih ks[i] (by omega) (by omega) _ _ ⟨rfl,rfl⟩) ?_
      rw[zeh,←hsi]
      refine zu1 (H0:=H++[.cells [.int .i64 k,.int .i64 n,.sl (VT.css ks) .none],.cells [.int .i64 0,.int .i64 0,.snil],.cells [.int .i64 k,.int .i64 n,zbY (VT.css ((zaQ args ks).take i)) (H.length+3)]]) (n:=i) (by simp;omega) (by simp) (by simp) (by simp) (by simp;omega) (by simp;omega) ?_
      rw[←zhd hlt']
      simp
      rw[zau (by omega) (by omega)]
      refine hKb _ _ ⟨ks.length-(i+1),by omega,Back.here (by simp[zcU]) ?_ ?_ ⟨_,rfl,i+1,by omega,rfl,by simp,by simp⟩⟩
      ·refine hs.append ?_
       simp[AB.sc,zcU,AV.scA,AV.scB]
       exact zu0 _ (.inr (by omega))
      ·simp[zmV,AV.sc,AV.scV,AV.scA,AV.scB]
     ·obtain rfl:i=ks.length:=by omega
      have e:(zaQ args ks).take ks.length=zaQ args ks:=List.take_of_length_le (by rw[zes];simp)
      rw[e]
      simp[ztC]
      exact zwN hs hK'
   simp only[VT.cs,ztB]
   by_cases h4:k=4
   ·subst h4
    by_cases h0:0≤n
    ·have h1:¬ n<args.length:=fun h=>hvar ⟨rfl,h0,h⟩
     simp[h0,h1,zaz,zaV,Nat.add_assoc]
     exact go _ rfl
    ·simp[h0,zaz,zaV,Nat.add_assoc]
     exact go _ rfl
   ·have h4':(k == 4)=false:=by simpa using h4
    simp[h4',zaz,zaV,Nat.add_assoc]
    exact go _ rfl
mutual
theorem zxQ {args:List VT} {M:Nat} (h1:1≤M) (ha:∀ x∈args,x.nodes≤M):∀ v:VT,(subst args v).nodes≤v.nodes*M
 | .mk k n ks=>by
  unfold subst
  split
  ·rename_i h
   have hn:n.toNat<args.length:=by omega
   rw[List.getElem?_eq_getElem hn]
   have:=ha _ (List.getElem_mem hn)
   have h2:M≤(VT.mk k n ks).nodes*M:=by
    have:=(VT.mk k n ks).nodes_pos
    exact Nat.le_mul_of_pos_left M this
   simp only[Option.getD_some]
   omega
  ·have:=zxN h1 ha ks
   simp only[VT.nodes,Nat.succ_mul]
   omega
theorem zxN {args:List VT} {M:Nat} (h1:1≤M) (ha:∀ x∈args,x.nodes≤M):∀ l:List VT,VT.nodesL (zaQ args l)≤VT.nodesL l*M
 | []=>by simp[zaQ,VT.nodesL]
 | t::ts=>by
  have h2:=zxQ h1 ha t
  have h3:=zxN h1 ha ts
  simp only[zaQ,VT.nodesL,Nat.add_mul]
  omega
end
theorem zgg {k n:Int} {ks:List VT}:∀ x∈ks,x.nodes≤(VT.mk k n ks).nodes:=by
 intro x hx
 obtain⟨i,hi,rfl⟩:=List.mem_iff_getElem.1 hx
 exact Nat.le_of_lt (VT.kid_lt hi)
theorem zfm {k n:Int} {ks:List VT}:∀ x∈ks,x.nodes<(VT.mk k n ks).nodes:=by
 intro x hx
 obtain⟨i,hi,rfl⟩:=List.mem_iff_getElem.1 hx
 exact VT.kid_lt hi
theorem zya {H:zaa} {x y:AB}:H++[x,y]=(H++[x])++[y]:=by simp
theorem zc8 (data:List Dat) (k n:Int) (ks:List VT) (c:Int):zaU data (.mk k n ks) c=(if k=5∧0≤n∧0≤c then
  match data[n.toNat]? with
  | some d=>if (ks.length:Int)=d.vars then
    match d.cons[c.toNat]? with
    | some co=>if (co.args.map (subst ks)).all (fun x=>decide (x.nodes≤200))=true then some (co.args.map (subst ks)) else none
    | none=>none
   else none
  | none=>none
 else none):=rfl
def zb1 (o:Option (List VT)):AV:=match o with
 | some l=>.tup [.sl (VT.css l) .none,.bool true]
 | none=>.tup [.sl [] .none,.bool false]
theorem zwn {α:Type} {l:List α} {i:Nat} (h:i<l.length) {p:α→Prop} (h1:∀ x∈l.take i,p x) (h2:p l[i]):∀ x∈l.take (i+1),p x:=by
 rw[List.take_succ_eq_append_getElem h]
 intro x hx
 rcases List.mem_append.1 hx with hx | hx
 ·exact h1 x hx
 ·simp at hx;subst hx;exact h2
theorem zaO (v:VT):∃ a b c,v.cs=[a,b,c]∧a.known=true∧b.known=true∧c.known=true:=by
 obtain⟨k,n,ks⟩:=v;exact⟨_,_,_,rfl,rfl,rfl,rfl⟩
theorem zlX (data:List Dat) (hdl:data.length≤1000000) (hda:∀ d∈data,∀ c∈d.cons,c.args.length≤1000∧∀ x∈c.args,x.nodes≤1000) (hdc:∀ d∈data,d.cons.length≤1000000) (t:VT) (ht:t.nodes≤1000) (c:Int) (H:zaa) (K:AV→zaa→Prop) (hK:K (zb1 (zaU data t c)) H) :
  ACalls tP zgk [.sl (data.map Dat.cs) .none,.agg t.cs,.int .i64 c] H K:=by
 refine ACalls.out (zMz fun hs=>?_)
 obtain⟨k,n,ks⟩:=t
 have hkn:VT.nodesL ks+1≤1000:=by simpa[VT.nodes]using ht
 have hkl:=VT.len_le ks
 have hF:zaU data (.mk k n ks) c=none→∀ J,Out H.length K (.tup [.snil,.bool false]) (H++J):=fun h J=>by
  rw[h]at hK
  exact Out.tup hs hK ⟨zer,za4 rfl rfl,trivial⟩
 have hFF:∀ J,zaU data (.mk k n ks) c=none→Out H.length K (.tup [.snil,.bool false]) (H++J):=fun J h=>hF h J
 simp only[VT.cs,zAl]
 by_cases h5:k=5
 case neg=>
  have:(k != 5)=true:=by simpa using h5
  simp[this,AV.isV]
  exact hF (by rw[zc8,if_neg (fun h=>h5 h.1)]) _
 subst h5
 by_cases h0:n<0
 ·simp[h0,AV.isV]
  exact hF (by rw[zc8,if_neg (fun h=>by have:=h.2.1;omega)]) _
 by_cases h1:(data.length:Int)≤n
 ·simp[h0,h1,AV.isV]
  exact hF (by
   rw[zc8]
   split
   ·rw[List.getElem?_eq_none (by omega)]
   ·rfl) _
 have hn:n.toNat<data.length:=by omega
 have h1':n<data.length:=by omega
 have h0':0≤n:=by omega
 generalize hdd:data[n.toNat]=d at *
 have hd:d∈data:=by rw[←hdd];exact List.getElem_mem hn
 have hget:data[n.toNat]?=some d:=by rw[List.getElem?_eq_getElem hn,hdd]
 cases hv:((ks.length:Int) == d.vars) with
 | false=>
  have hv':((ks.length:Int) != d.vars)=true:=by simp[bne,hv]
  simp[h0,h1,h0',h1',hn,hdd,Dat.cs,hv',AV.isV,hget]
  exact hF (by
   rw[zc8]
   split
   ·rw[hget]
    simp only
    rw[if_neg (by simpa using hv)]
   ·rfl) _
 | true=>
 have hv':((ks.length:Int) != d.vars)=false:=by simp[bne,hv]
 have hve:(ks.length:Int)=d.vars:=by simpa using hv
 by_cases hc0:c<0
 ·simp[h0,h1,h0',h1',hn,hdd,Dat.cs,hv',AV.isV,hget,hc0]
  exact hF (by rw[zc8,if_neg (fun h=>by have:=h.2.2;omega)]) _
 have hfe:∀ o,(match d.cons[c.toNat]? with | some k=>if (k.args.map (subst ks)).all (fun x=>decide (x.nodes≤200))=true then some (k.args.map (subst ks)) else none | none=>none)=o→zaU data (.mk 5 n ks) c=o:=fun o h=>by
  rw[zc8,if_pos ⟨rfl,h0',by omega⟩,hget]
  simp only
  rw[if_pos hve]
  exact h
 by_cases hc1:(d.cons.length:Int)≤c
 ·simp[h0,h1,h0',h1',hn,hdd,Dat.cs,hv',AV.isV,hget,hc0,hc1]
  exact hF (hfe none (by rw[List.getElem?_eq_none (by omega)])) _
 have hcn:c.toNat<d.cons.length:=by omega
 have hc1':c<d.cons.length:=by omega
 have hc0':0≤c:=by omega
 generalize hcc:d.cons[c.toNat]=co at *
 have hco:co∈d.cons:=by rw[←hcc];exact List.getElem_mem hcn
 have hgc:d.cons[c.toNat]?=some co:=by rw[List.getElem?_eq_getElem hcn,hcc]
 obtain⟨hal,han⟩:=hda d hd co hco
 have hfe':=fun o=>hfe o
 rw[hgc]at hfe'
 simp only at hfe'
 have hsub:∀ x∈co.args,(subst ks x).nodes≤1000000:=fun x hx=>by
  have h2:=zxQ (M:=1000) (by omega) (fun y hy=>Nat.le_trans (zgg (k:=5) (n:=n) y hy) ht) x
  have h3:=han x hx
  have:x.nodes*1000≤1000*1000:=Nat.mul_le_mul_right _ h3
  omega
 simp[h0,h1,h0',h1',hn,hdd,Dat.cs,hv',AV.isV,hget,hc0,hc1,hc0',hc1',hcn,hcc,Con.cs,hgc]
 have hperm:∀ m,HSc (H++[.cells [.int .i64 5,.int .i64 n,.sl (VT.css ks) .none],.perm za9 3 m]):=fun m=>hs.append rfl
 unfold zlW
 refine ALoop.own 8 za9 3 rfl ?_
 have hlen1:(H++[AB.cells [.int .i64 5,.int .i64 n,.sl (VT.css ks) .none]]).length=H.length+1:=by simp
 rw[hlen1,List.append_assoc]
 show zlW (.ptr H.length 0) (.sl [] (.own (H.length+1))) (.sl (VT.css co.args) .none) (.int .i64 co.args.length) (.int .i64 0) (H++[.cells [.int .i64 5,.int .i64 n,.sl (VT.css ks) .none],.perm za9 3 0]) (Out H.length K)
 refine zMx (Inv:=fun q t8 t65 H'=>∃ i:Nat,i≤co.args.length∧q=co.args.length-i∧t65=.int .i64 i∧t8=.sl (VT.css ((co.args.map (subst ks)).take i)) (.own (H.length+1))∧(∀ x∈co.args.take i,(subst ks x).nodes≤200)∧H'=H++[.cells [.int .i64 5,.int .i64 n,.sl (VT.css ks) .none],.perm za9 3 i]) co.args.length ?_ ?_
 ·intro _;exact⟨0,by omega,by omega,rfl,by simp[VT.css],by simp,rfl⟩
 ·rintro q t8 t65 H' ⟨i,hi,rfl,rfl,rfl,hall,rfl⟩ hsc hlen hsF Kb hKb
  by_cases hlt:i<co.args.length
  ·have hmem:=List.getElem_mem hlt
   have hx3:=hsub _ hmem
   obtain⟨x,y,z,hvx,hx,hy,hz⟩:=zaO co.args[i]
   simp[zsr,hlt,hvx,hx,hy,hz]
   rw[←hvx]
   refine zQw ks (fun y hy=>by have:=zgg (k:=5) (n:=n) y hy;omega) (by omega) _ co.args[i] (Nat.le_refl _) (by have:=han _ hmem;omega) _ _ ?_
   obtain⟨x',y',z',hvx',hx',hy',hz'⟩:=zaO (subst ks co.args[i])
   simp[hvx',hx',hy',hz']
   rw[←hvx']
   refine zBX _ _ (Nat.le_refl _) (by omega) _ _ ?_
   by_cases h200:(subst ks co.args[i]).nodes≤200
   ·have h200':¬ (200:Int)<(subst ks co.args[i]).nodes:=by omega
    simp[h200']
    rw[zeh]
    simp[zax,zaY,zaM]
    refine⟨by omega,by omega,?_⟩
    rw[zau (by omega) (by omega),show min i co.args.length=i by omega]
    refine hKb _ _ ⟨co.args.length-(i+1),by omega,Back.at (H2:=H++[.cells [.int .i64 5,.int .i64 n,.sl (VT.css ks) .none],.perm za9 3 (i+1)]) (J:=[_,_]) (by simp;exact⟨rfl,rfl⟩) (by simp) (hperm _) ?_ ⟨_,_,rfl,i+1,by omega,rfl,by simp,?_,zwn hlt hall h200,rfl⟩⟩
    ·simp[zlV,AV.sc,AV.scV,AV.scA,AV.scB]
    ·rw[zhd (by simpa using hlt)];simp
   ·have h200':(200:Int)<(subst ks co.args[i]).nodes:=by omega
    simp[h200',AV.isV]
    refine hF (hfe' none ?_) _
    rw[if_neg]
    intro hal2
    have:=List.all_eq_true.1 hal2 (subst ks co.args[i]) (List.mem_map.2 ⟨_,hmem,rfl⟩)
    exact h200 (of_decide_eq_true this)
  ·obtain rfl:i=co.args.length:=by omega
   rw[List.take_length]at hall
   rw[List.take_of_length_le (by simp)]
   simp[zsr,AV.isV]
   have hfs:=hfe' (some (co.args.map (subst ks))) (if_pos (List.all_eq_true.2 fun y hy=>by
    obtain⟨x,hx,rfl⟩:=List.mem_map.1 hy
    exact decide_eq_true (hall x hx)))
   rw[hfs]at hK
   exact Out.tup hs hK ⟨slV,za4 rfl rfl,trivial⟩
theorem zS0:∀ (m:Nat) (v:VT),v.nodes≤m→v.nodes≤1000000000→∀ (H:zaa) (K:AV→zaa→Prop),K (.int .i64 v.nodes) H→ACalls tP zjQ [.agg v.cs] H K:=by
 intro m
 induction m with
 | zero=>intro v h;have:=v.nodes_pos;omega
 | succ m ih=>
  intro v hv hb H K hK
  obtain⟨k,n,ks⟩:=v
  have hnl:VT.nodesL ks+1≤1000000000:=by simpa[VT.nodes]using hb
  have hll:=VT.len_le ks
  refine ACalls.out (zSY fun hs=>?_)
  simp[VT.cs,zCI]
  refine zSW (Inv:=fun q t3 t4 H'=>∃ i:Nat,i≤ks.length∧q=ks.length-i∧t4=.int .i64 i∧t3=.int .i64 (1+VT.nodesL (ks.take i):Nat)∧H'=H++[.cells [.int .i64 k,.int .i64 n,.sl (VT.css ks) .none]]) ks.length ?_ ?_
  ·intro _;exact⟨0,by omega,by omega,rfl,by simp[VT.nodesL],rfl⟩
  ·rintro q t3 t4 H' ⟨i,hi,rfl,rfl,rfl,rfl⟩ hsc hlen hsF Kb hKb
   by_cases hlt:i<ks.length
   ·have hki:=VT.kid_lt (k:=k) (n:=n) hlt
    have h1:=VT.nodesL_take hlt
    have h2:=VT.nodesL_take_le ks (i+1)
    obtain⟨x,y,z,hvx,hx,hy,hz⟩:=zaO ks[i]
    simp[zuo,hlt,hvx,hx,hy,hz]
    rw[←hvx]
    refine ih ks[i] (by omega) (by omega) _ _ ?_
    simp
    rw[zau (by omega) (by omega),zau (by omega) (by omega),zya]
    refine hKb _ _ ⟨ks.length-(i+1),by omega,Back.same (by simp) hsc ?_ ⟨_,_,rfl,i+1,by omega,rfl,by simp,?_,rfl⟩⟩
    ·simp[znM,AV.sc,AV.scV,AV.scA,AV.scB]
    ·rw[h1];congr 1;omega
   ·obtain rfl:i=ks.length:=by omega
    simp[zuo]
    refine Out.int rfl (Nat.le_refl _) hs ?_
    simpa[VT.nodes,Int.add_comm]using hK
def zca (f:VT→VT→Bool):List VT→List VT→Bool
 | [],[]=>true
 | a::x,b::y=>f a b && zca f x y
 | _,_=>false
theorem ziZ {f:VT→VT→Bool}:∀ {x y:List VT},x.length≠y.length→zca f x y=false
 | [],[],h=>(h rfl).elim
 | a::x,b::y,h=>by
  have:x.length≠y.length:=fun e=>h (by simp[e])
  simp[zca,ziZ this]
 | [],_::_,_=>rfl
 | _::_,[],_=>rfl
theorem zEn (x:List VT) (hl:x.length≤1000000000) (fv:AV) (H:zaa) (K:AV→zaa→Prop) (hfv:fv.sc H.length=true) (Inv:Nat→zaa→Prop) (h0:Inv 0 H)
  (step:∀ (i:Nat) (h:i<x.length) (H':zaa),H.length≤H'.length→Inv i H'→aCallV tP fv [.agg (x[i]).cs] H' fun r H''=>(r=.bool false∧Inv (i+1) H'')∨(r=.bool true∧K (.int .i64 i) H''))
  (fin:∀ H',Inv x.length H'→K (.int .i64 (-1)) H'):ACalls tP zpv [.sl (VT.css x) .none,fv] H K:=by
 refine zNl fun hs=>?_
 simp[zAL]
 refine zNj (Inv:=fun q t8 H'=>∃ i:Nat,i≤x.length∧q=x.length-i∧t8=.int .i64 i∧H.length≤H'.length∧Inv i H') x.length ?_ ?_
 ·intro _;exact⟨0,by omega,by omega,rfl,Nat.le_refl _,h0⟩
 ·rintro q t8 H' ⟨i,hi,rfl,rfl,hle,hI⟩ hsc hlen hsF Kb hKb
  by_cases hlt:i<x.length
  ·simp[zsD,hlt]
   refine (step i hlt H' hle hI).mono' fun r H'' hsc' hle' hr=>?_
   rcases hr with ⟨rfl,hI'⟩ | ⟨rfl,hk⟩
   ·simp
    rw[zau (by omega) (by omega)]
    refine hKb _ _ ⟨x.length-(i+1),by omega,Back.here (by omega) hsc' ?_ ⟨_,rfl,i+1,by omega,rfl,by simp,by omega,hI'⟩⟩
    simp[zl5,AV.sc,AV.scV,AV.scA,AV.scB]
    exact zcf (by omega) hfv
   ·simpa using hk
  ·obtain rfl:i=x.length:=by omega
   simp[zsD]
   exact fin H' hI
theorem zov (x:List VT) (hl:x.length≤1000000000) (fv:AV) (H:zaa) (K:AV→zaa→Prop) (hfv:fv.sc H.length=true) (Inv:Nat→zaa→Prop) (h0:Inv 0 H)
  (step:∀ (i:Nat) (h:i<x.length) (H':zaa),H.length≤H'.length→Inv i H'→aCallV tP fv [.agg (x[i]).cs] H' fun r H''=>(r=.bool false∧Inv (i+1) H'')∨(r=.bool true∧K (.bool true) H''))
  (fin:∀ H',Inv x.length H'→K (.bool false) H'):ACalls tP zfr [.sl (VT.css x) .none,fv] H K:=by
 refine zMW fun hs=>?_
 unfold zAC
 refine zEn x hl fv H _ hfv Inv h0 (fun i h H' hle hI=>(step i h H' hle hI).mono' fun r H'' _ _ hr=>?_) (fun H' hI=>?_)
 ·rcases hr with hr | ⟨h1,h2⟩
  ·exact .inl hr
  ·refine .inr ⟨h1,?_⟩
   have:decide ((0:Int)≤i)=true:=by simp
   simpa using h2
 ·simpa using fin H' hI
theorem zDF:zdY tP zjt=true:=by kernel_rfl
section
variable (data:List Dat) (vars:Int)
theorem zGU:∀ (l:List VT) (i:Nat) (h:i<l.length),zbc data vars l=true→za1 data vars l[i]=true:=by
 intro l
 induction l with
 | nil=>intro i h;simp at h
 | cons a l ih=>
  intro i h hl
  simp[zbc]at hl
  cases i with
  | zero=>exact hl.1
  | succ i=>exact ih i (by simpa using h) hl.2
def zbM (left:Int):AB:=.cells [.sl (data.map Dat.cs) .none,.int .i64 vars,.int .i64 left]
theorem zG6:∀ (m:Nat) (v:VT),v.nodes≤m→v.nodes≤1000000000→∀ (left:Int),left≤1000000→-1≤left→∀ (H:zaa) (id:Nat),H[id]?=some (zbM data vars left)→∀ (K:AV→zaa→Prop),
  (za1 data vars v=true→(v.nodes:Int)≤left→K (.bool true) (H.set id (zbM data vars (left-v.nodes))))→(¬ (za1 data vars v=true∧(v.nodes:Int)≤left)→∀ l',K (.bool false) (H.set id (zbM data vars l'))) →
  ACalls tP zjn [.ptr id 0,.agg v.cs] H K:=by
 intro m
 induction m with
 | zero=>intro v h;have:=v.nodes_pos;omega
 | succ m ih=>
  intro v hv hb left hl1 hl0 H id hid K hK hF
  obtain⟨k,n,ks⟩:=v
  have hlt:=zcX hid
  have hnn:(VT.mk k n ks).nodes=VT.nodesL ks+1:=by simp[VT.nodes]
  have hll:=VT.len_le ks
  refine ACalls.out (zLx fun hs=>?_)
  -- the heap within: the receiver's copy and the type's
  generalize hJ:([.cells [.ptr id 0],.cells [.int .i64 k,.int .i64 n,.sl (VT.css ks) .none]]:zaa)=J
  have hJ0:J[0]?=some (.cells [.ptr id 0]):=by subst hJ;rfl
  have hJ1:J[1]?=some (.cells [.int .i64 k,.int .i64 n,.sl (VT.css ks) .none]):=by subst hJ;rfl
  have hget:∀ l',(H.set id (zbM data vars l')++J)[id]?=some (zbM data vars l'):=fun l'=>zbO (zb5 _ hid)
  have bad:(¬ (za1 data vars (.mk k n ks)=true∧((VT.mk k n ks).nodes:Int)≤left))→∀ l',Out H.length K (.bool false) (H.set id (zbM data vars l')++J):=fun h l'=>
   Out.bool rfl (by simp) (hs.set rfl) (hF h l')
  have badS:zbb data vars k n ks.length=false→∀ l',Out H.length K (.bool false) (H.set id (zbM data vars l')++J):=fun h l'=>bad (fun ⟨h1,_⟩=>by simp[za1,h]at h1) l'
  -- the arguments
  have args:zbb data vars k n ks.length=true→1≤left→∀ KK:AV→zaa→Prop,(∀ H',Out H.length K (.bool true) H'→KK (.bool false) H')→(∀ H',Out H.length K (.bool false) H'→KK (.bool true) H') →
    ACalls tP zfr [.sl (VT.css ks) .none,.fn zjt [.ptr H.length 0]] (H.set id (zbM data vars (left-1))++J) KK:=by
   intro hsh h1 KK hKf hKt
   subst hJ
   refine zov ks (by omega) _ _ _ (by simp[AV.sc,AV.scV,AV.scA,AV.scB]) (fun i H'=>(VT.nodesL (ks.take i):Int)+1≤left∧zbc data vars (ks.take i)=true∧H'=H.set id (zbM data vars (left-1-VT.nodesL (ks.take i)))++[.cells [.ptr id 0],.cells [.int .i64 k,.int .i64 n,.sl (VT.css ks) .none]]) ⟨by simp[VT.nodesL];omega,by simp[zbc],by simp[VT.nodesL]⟩ ?_ ?_
   ·rintro i hi H' hle ⟨hb1,hb2,rfl⟩
    have hki:=VT.kid_lt (k:=k) (n:=n) hi
    have h1:=VT.nodesL_take hi
    have h2:=VT.nodesL_take_le ks (i+1)
    have hokL:zbc data vars (ks.take (i+1))=(zbc data vars (ks.take i) && za1 data vars ks[i]):=by
     rw[List.take_succ_eq_append_getElem hi]
     have:∀ (l:List VT) (x:VT),zbc data vars (l++[x])=(zbc data vars l && za1 data vars x):=by
      intro l x
      induction l with
      | nil=>simp[zbc]
      | cons a l ih=>simp[zbc,ih,Bool.and_assoc]
     exact this _ _
    simp only[aCallV,zDF,List.singleton_append]
    refine ACalls.out (zM2 fun hs1=>?_)
    have hH1:∀ l',HSc (H.set id (zbM data vars l')++[.cells [.ptr id 0],.cells [.int .i64 k,.int .i64 n,.sl (VT.css ks) .none]]):=fun l'=>(hs.set rfl).append (by simp[AB.sc,AV.scA,AV.scB];omega)
    obtain⟨x1,x2,x3,hvx,hx1,hx2,hx3⟩:=zaO ks[i]
    have hll2:(H.set id (zbM data vars (left-1-VT.nodesL (ks.take i)))).length=H.length:=by simp
    have hg1:(H.set id (zbM data vars (left-1-VT.nodesL (ks.take i)))++[AB.cells [.ptr id 0],.cells [.int .i64 k,.int .i64 n,.sl (VT.css ks) .none],.cells [x1,x2,x3]])[H.length]?=some (.cells [.ptr id 0]):=by
     rw[List.getElem?_append_right (by simp)];simp
    have hg2:(H.set id (zbM data vars (left-1-VT.nodesL (ks.take i)))++[AB.cells [.ptr id 0],.cells [.int .i64 k,.int .i64 n,.sl (VT.css ks) .none],.cells [x1,x2,x3]])[H.length+2]?=some (.cells [x1,x2,x3]):=by
     rw[List.getElem?_append_right (by simp)];simp
    simp[zAE,hvx,hg1,hg2,hll2]
    rw[←hvx]
    refine ih ks[i] (by omega) (by omega) (left-1-VT.nodesL (ks.take i)) (by omega) (by omega) _ id (zbO (zb5 _ hid)) _ ?_ ?_
    ·intro ho hle2
     rw[zct _ (zb5 _ hid),List.set_set,show left-1-(VT.nodesL (ks.take i):Int)-(ks[i]).nodes=left-1-VT.nodesL (ks.take (i+1)) by omega]
     simp
     refine Out.bool (J:=[_]) (H2:=H.set id (zbM data vars (left-1-VT.nodesL (ks.take (i+1))))++[.cells [.ptr id 0],.cells [.int .i64 k,.int .i64 n,.sl (VT.css ks) .none]]) (by simp;rfl) (by simp) (hH1 _) (.inl ⟨rfl,by omega,by rw[hokL,hb2,ho];rfl,rfl⟩)
    ·intro ho l'
     rw[zct _ (zb5 _ hid),List.set_set]
     simp
     have hno:¬ (za1 data vars (.mk k n ks)=true∧((VT.mk k n ks).nodes:Int)≤left):=by
      rintro⟨g1,g2⟩
      have hall:zbc data vars ks=true:=by simp[za1]at g1;exact g1.2
      exact ho ⟨zGU data vars ks i hi hall,by omega⟩
     have hb3:=bad hno l'
     exact Out.bool (J:=[_]) (H2:=H.set id (zbM data vars l')++[.cells [.ptr id 0],.cells [.int .i64 k,.int .i64 n,.sl (VT.css ks) .none]]) (by simp;rfl) (by simp) (hH1 _) (.inr ⟨rfl,hKt _ hb3⟩)
   ·rintro H' ⟨hb1,hb2,rfl⟩
    rw[List.take_length]at *
    refine hKf _ ?_
    refine Out.bool rfl (by simp) (hs.set rfl) ?_
    have:=hK (by simp[za1,hsh,hb2]) (by omega)
    rw[hnn]at this
    rw[show left-1-(VT.nodesL ks:Int)=left-((VT.nodesL ks+1:Nat):Int) by omega]
    exact this
  -- behind the shape
  have fin:∀ lo hi:Int,(k≠4→k≠5→n≠0→zbb data vars k n ks.length=false)→((ks.length:Int)<lo∨hi<(ks.length:Int)→zbb data vars k n ks.length=false)→1≤left →
    ((k=4∨k=5∨n=0)→lo≤(ks.length:Int)→(ks.length:Int)≤hi→zbb data vars k n ks.length=true) →
    zgL (.ptr H.length 0) (.ptr (H.length+1) 0) (.int .i64 lo) (.int .i64 hi) (H.set id (zbM data vars (left-1))++J) (Out H.length K):=by
   intro lo hi hz hr h1 hok
   have hg3:(H.set id (zbM data vars (left-1))++J)[H.length+1]?=some (.cells [.int .i64 k,.int .i64 n,.sl (VT.css ks) .none]):=by
    rw[List.getElem?_append_right (by simp)];subst hJ;simp
   by_cases hcase:k=4∨k=5∨n=0
   ·have h3:(k != 4)=false∨((k != 4)=true∧(k != 5)=false)∨((k != 4)=true∧(k != 5)=true∧(n != 0)=false):=by
     by_cases g4:k=4
     ·left;simp[g4]
     ·by_cases g5:k=5
      ·right;left;simp[g5]
      ·right;right;simp[g4,g5];omega
    rcases h3 with g | ⟨g,g'⟩ | ⟨g,g',g''⟩
    case' inl=>simp[zgL,hg3,hJ1,g]
    case' inr.inl=>simp[zgL,hg3,hJ1,g,g']
    case' inr.inr=>simp[zgL,hg3,hJ1,g,g',g'']
    all_goals
     by_cases hlo:(ks.length:Int)<lo
     ·simp[hlo]
      exact badS (hr (.inl hlo)) _
     ·by_cases hhi:hi<(ks.length:Int)
      ·simp[hlo,hhi,hJ1]
       exact badS (hr (.inr hhi)) _
      ·simp[hlo,hhi,AV.isB,hJ1]
       refine args (hok hcase (by omega) (by omega)) h1 _ (fun H' ho=>?_) (fun H' ho=>?_) <;> simpa using ho
   ·have g:(k != 4)=true:=by simp;omega
    have g':(k != 5)=true:=by simp;omega
    have g'':(n != 0)=true:=by simp;omega
    simp[zgL,hg3,hJ1,g,g',g'']
    exact badS (hz (by omega) (by omega) (by omega)) _
  have start:(H++J)[id]?=some (zbM data vars left):=zbO hid
  have hmain:zr7 (.ptr H.length 0) (.ptr (H.length+1) 0) (H.set id (zbM data vars (left-1))++J) (Out H.length K):=by
   refine zLp fun hs1=>?_
   have hgv:=hget (left-1)
   unfold zbM at hgv
   by_cases h0:left-1<0
   ·simp[zr8,hJ0,zbM,hgv,h0]
    exact bad (fun h=>by have:=h.2;rw[hnn]at this;omega) _
   have h1:1≤left:=by omega
   simp[zr8,hJ0,hJ1,zbM,hgv,h0]
   refine zLs fun _=>?_
   have hfin:=fun lo hi a b c=>fin lo hi a b h1 c
   unfold zbM at hfin badS
   -- the three without arguments
   by_cases h123:k=1∨k=2∨k=3
   ·have hsh:zbb data vars k n ks.length=(n == 0 && ks.length == 0):=by rcases h123 with rfl | rfl | rfl <;> rfl
    have:=hfin 0 0 (fun _ _ hn=>by rw[hsh];simp[hn]) (fun h=>by rw[hsh];simp;intro _;rintro rfl;simp at h) (fun h h2 h3=>by
     have hn:n=0:=by omega
     have hl:ks.length=0:=by omega
     rw[hsh,hn,hl];rfl)
    rcases h123 with rfl | rfl | rfl <;> simp[zr9] <;> refine zAe fun _=>?_ <;> simp[zdQ,zdD] <;> exact this
   have b1:(k == 1)=false:=by simp;omega
   have b2:(k == 2)=false:=by simp;omega
   have b3:(k == 3)=false:=by simp;omega
   simp[zr9,b1,b2,b3]
   refine zAe fun _=>?_
   by_cases h4:k=4
   ·subst h4
    have hsh:zbb data vars 4 n ks.length=(decide (0≤n) && decide (n<vars) && ks.length == 0):=rfl
    by_cases g1:n<0
    ·simp[zdQ,hJ0,hJ1,hgv,g1]
     exact badS (by rw[hsh];simp;omega) _
    by_cases g2:vars≤n
    ·simp[zdQ,hJ0,hJ1,hgv,g1,g2]
     exact badS (by rw[hsh];simp;omega) _
    have:=hfin 0 0 (fun h=>(h rfl).elim) (fun h=>by rw[hsh];simp;intro _ _;rintro rfl;simp at h) (fun h h2 h3=>by
     have hl:ks.length=0:=by omega
     rw[hsh,hl];simp;omega)
    simp[zdQ,hJ0,hJ1,hgv,g1,g2,zdD]
    exact this
   have b4:(k == 4)=false:=by simp;omega
   by_cases h5:k=5
   ·subst h5
    have hsh:zbb data vars 5 n ks.length=(decide (0≤n) && (match data[n.toNat]? with | some d=>(ks.length:Int) == d.vars | none=>false)):=rfl
    by_cases g1:n<0
    ·simp[zdQ,hJ0,hJ1,hgv,g1]
     exact badS (by rw[hsh];simp;omega) _
    by_cases g2:(data.length:Int)≤n
    ·simp[zdQ,hJ0,hJ1,hgv,g1,g2]
     exact badS (by rw[hsh,List.getElem?_eq_none (by omega)];simp) _
    have hnl:n.toNat<data.length:=by omega
    have g2':n<data.length:=by omega
    have g1':0≤n:=by omega
    rw[List.getElem?_eq_getElem hnl]at hsh
    simp only[g1',decide_true,Bool.true_and]at hsh
    have:=hfin (data[n.toNat]).vars (data[n.toNat]).vars (fun _ h=>(h rfl).elim) (fun h=>by rw[hsh];simp;omega) (fun h h2 h3=>by rw[hsh];simp;omega)
    simp[zdQ,hJ0,hJ1,hgv,g1,g2,g1',g2',hnl,Dat.cs,zdD]
    exact this
   have b5:(k == 5)=false:=by simp;omega
   by_cases h6:k=6
   ·subst h6
    have hsh:zbb data vars 6 n ks.length=(n == 0 && decide (2≤ks.length) && decide (ks.length≤6)):=rfl
    have:=hfin 2 6 (fun _ _ hn=>by rw[hsh];simp[hn]) (fun h=>by rw[hsh];simp;intros;omega) (fun h h2 h3=>by rw[hsh];simp;omega)
    simp[zdQ,zdD]
    exact this
   have b6:(k == 6)=false:=by simp;omega
   by_cases h78:k=7∨k=8
   ·have hsh:zbb data vars k n ks.length=(n == 0 && ks.length == 1):=by rcases h78 with rfl | rfl <;> rfl
    have:=hfin 1 1 (fun _ _ hn=>by rw[hsh];simp[hn]) (fun h=>by rw[hsh];simp;intros;omega) (fun h h2 h3=>by rw[hsh];simp;omega)
    rcases h78 with rfl | rfl <;> simp[zdQ] <;> refine zAf fun _=>?_ <;> simp[zlA,zdD] <;> exact this
   have b7:(k == 7)=false:=by simp;omega
   have b8:(k == 8)=false:=by simp;omega
   simp[zdQ,b4,b5,b6,b7,b8]
   refine zAf fun _=>?_
   by_cases h9:k=9
   ·subst h9
    have hsh:zbb data vars 9 n ks.length=(n == 0 && decide (1≤ks.length) && decide (ks.length≤7)):=rfl
    have:=hfin 1 7 (fun _ _ hn=>by rw[hsh];simp[hn]) (fun h=>by rw[hsh];simp;intros;omega) (fun h h2 h3=>by rw[hsh];simp;omega)
    simp[zlA,zdD]
    exact this
   ·have b9:(k == 9)=false:=by simp;omega
    simp[zlA,b9]
    exact badS (by unfold zbb;simp[b1,b2,b3,b4,b5,b6,b7,b8,b9]) _
  subst hJ
  unfold zbM at start
  simp[zAc,VT.cs,start]
  rw[zau (by omega) (by omega),zct _ hid]
  exact hmain
theorem zy3 (v:VT) (hb:v.nodes≤1000000000) (H:zaa) (K:AV→zaa→Prop) (hK:K (.bool (zaR data vars v)) H):ACalls tP zhx [.sl (data.map Dat.cs) .none,.agg v.cs,.int .i64 vars] H K:=by
 refine ACalls.out (zIA fun hs=>?_)
 have hO:∀ J,Out H.length K (.bool (zaR data vars v)) (H++J):=fun J=>Out.bool rfl (Nat.le_refl _) hs hK
 obtain⟨x1,x2,x3,hvx,hx1,hx2,hx3⟩:=zaO v
 simp[zy2,hvx,zaz,zaV]
 rw[←hvx]
 refine zG6 data vars _ v (Nat.le_refl _) hb 200 (by omega) (by omega) _ (H.length+1) (by simp[zbM]) _ ?_ ?_
 ·intro ho hn
  have:zaR data vars v=true:=by simp[zaR,ho];omega
  rw[this]at hO
  simp
  exact hO _
 ·intro hno l'
  have:zaR data vars v=false:=by
   cases h:zaR data vars v with
   | false=>rfl
   | true=>simp[zaR]at h;exact (hno ⟨h.2,by omega⟩).elim
  rw[this]at hO
  simp
  exact hO _
end
mutual
theorem zxR:∀ v:VT,subst [] v=v
 | .mk k n ks=>by
  rw[subst,if_neg (by rintro⟨_,h1,h2⟩;simp at h2;omega),zxP ks]
theorem zxP:∀ l:List VT,zaQ [] l=l
 | []=>rfl
 | t::ts=>by rw[zaQ,zxR t,zxP ts]
end
theorem zTe:∀ (m:Nat) (args:List VT),(∀ x∈args,x.nodes≤1000000)→args.length≤1000000→∀ (v:VT),(if args=[] then v.nodes else v.nodes+1000001)≤m→v.nodes≤1000000→∀ (H:zaa) (K:AV→zaa→Prop),K (.agg (subst args v).cs) H→ACalls tP zhR [.agg v.cs,.sl (VT.css args) .none] H K:=by
 intro m
 induction m with
 | zero=>intro args _ _ v h;have:=v.nodes_pos;split at h <;> omega
 | succ m ih=>
  intro args ha hal v hv hb H K hK
  obtain⟨k,n,ks⟩:=v
  have hnl:VT.nodesL ks+1≤1000000:=by simpa[VT.nodes]using hb
  have hll:=VT.len_le ks
  refine ACalls.out (zTc fun hs=>?_)
  by_cases hvar:k=4∧0≤n∧n<args.length
  ·obtain⟨rfl,h0,h1⟩:=hvar
   have hn:n.toNat<args.length:=by omega
   have hne:args≠[]:=by rintro rfl;simp at hn
   have hK':K (.agg (args[n.toNat]).cs) H:=by
    rw[subst,if_pos ⟨rfl,h0,h1⟩,List.getElem?_eq_getElem hn]at hK
    exact hK
   have hle:=ha _ (List.getElem_mem hn)
   simp[VT.cs,zuv,h0,h1,hn]
   rw[if_neg hne]at hv
   refine ACalls.wk (args':=[.agg (args[n.toNat]).cs,.sl (VT.css []) .none]) ?_ ⟨.rfl',.atom .snil,trivial⟩
   refine ih [] (by simp) (by simp) _ (by simp;omega) hle _ _ ?_
   rw[zxR]
   generalize args[n.toNat]=x at *
   obtain⟨k',n',ks'⟩:=x
   simp[VT.cs]
   exact Out.at rfl (Nat.le_refl _) hs .rfl' rfl rfl hK'
  ·have hK':K (.agg (VT.mk k n (zaQ args ks)).cs) H:=by
    rw[subst,if_neg hvar]at hK
    exact hK
   have go:∀ H1,H1=H++[.cells [.int .i64 k,.int .i64 n,.sl (VT.css ks) .none],.cells [.int .i64 0,.int .i64 0,.snil],.cells [.int .i64 k,.int .i64 n,.snil]]→ziE (.sl (VT.css args) .none) (.ptr (H.length+1) 0) (.ptr (H.length+2) 0) (.sl (VT.css ks) .none) (.int .i64 ks.length) (.int .i64 0) H1 (Out H.length K):=by
    rintro _ rfl
    unfold ziE
    refine ALoop.ownC (cs:=[.int .i64 k,.int .i64 n,.snil]) (H.length+2) 2 za9 3 (by simp) rfl ?_
    have e0:(H++[AB.cells [.int .i64 k,.int .i64 n,.sl (VT.css ks) .none],.cells [.int .i64 0,.int .i64 0,.snil],.cells [.int .i64 k,.int .i64 n,.snil]]).length=H.length+3:=by simp
    rw[e0,zxA,List.append_assoc]
    have hJ:∀ i X,HSc (H++[.cells [.int .i64 k,.int .i64 n,.sl (VT.css ks) .none],.cells [.int .i64 0,.int .i64 0,.snil],.cells [.int .i64 k,.int .i64 n,.sl X (.own (H.length+3))],.perm za9 3 i]):=fun i X=>hs.append (by simp[AB.sc,AV.scA,AV.scB])
    show ziE (.sl (VT.css args) .none) (.ptr (H.length+1) 0) (.ptr (H.length+2) 0) (.sl (VT.css ks) .none) (.int .i64 ks.length) (.int .i64 0) (H++[.cells [.int .i64 k,.int .i64 n,.sl (VT.css ks) .none],.cells [.int .i64 0,.int .i64 0,.snil],.cells [.int .i64 k,.int .i64 n,.sl [] (.own (H.length+3))],.perm za9 3 0]) (Out H.length K)
    refine zTa (Inv:=fun q t37 H'=>∃ i:Nat,i≤ks.length∧q=ks.length-i∧t37=.int .i64 i∧H'=H++[.cells [.int .i64 k,.int .i64 n,.sl (VT.css ks) .none],.cells [.int .i64 0,.int .i64 0,.snil],.cells [.int .i64 k,.int .i64 n,.sl (VT.css ((zaQ args ks).take i)) (.own (H.length+3))],.perm za9 3 i]) ks.length ?_ ?_
    ·intro _;exact⟨0,by omega,by omega,rfl,by simp[VT.css]⟩
    ·rintro q t37 H' ⟨i,hi,rfl,rfl,rfl⟩ hsc hlen hsF Kb hKb
     by_cases hlt:i<ks.length
     ·have hki:=VT.kid_lt (k:=k) (n:=n) hlt
      have hsl:(zaQ args ks).length=ks.length:=by rw[zes];simp
      have hlt':i<(zaQ args ks).length:=by omega
      have hsi:(zaQ args ks)[i]=subst args ks[i]:=by simp[zes]
      obtain⟨x1,x2,x3,hvx,hx1,hx2,hx3⟩:=zaO ks[i]
      simp[zuw,hlt,hvx,hx1,hx2,hx3]
      rw[←hvx]
      refine zaH (.agg (subst args ks[i]).cs) (fun J=>ih args ha hal ks[i] (by by_cases he:args=[] <;> simp only[he,if_true,if_false]at hv ⊢ <;> omega) (by omega) _ _ ⟨rfl,rfl⟩) ?_
      rw[zeh,←hsi]
      simp[zax,zaY,zaM,hsl]
      refine⟨by omega,⟨by omega,by omega⟩,?_⟩
      rw[zau (by omega) (by omega),show min i ks.length=i by omega]
      refine hKb _ _ ⟨ks.length-(i+1),by omega,Back.at (J:=[_]) (H2:=H++[.cells [.int .i64 k,.int .i64 n,.sl (VT.css ks) .none],.cells [.int .i64 0,.int .i64 0,.snil],.cells [.int .i64 k,.int .i64 n,.sl (VT.css ((zaQ args ks).take (i+1))) (.own (H.length+3))],.perm za9 3 (i+1)]) (by rw[zhd hlt'];simp;rfl) (by simp) (hJ _ _) ?_ ⟨_,rfl,i+1,by omega,rfl,by simp,rfl⟩⟩
      simp[znR,AV.sc,AV.scV,AV.scA,AV.scB]
     ·obtain rfl:i=ks.length:=by omega
      have e:(zaQ args ks).take ks.length=zaQ args ks:=List.take_of_length_le (by rw[zes];simp)
      rw[e]
      simp[zuw]
      exact Out.at rfl (Nat.le_refl _) hs (WkV.agg (ds:=[.int .i64 k,.int .i64 n,.sl (VT.css (zaQ args ks)) .none]) ⟨.refl _,.refl _,.sl _ _,trivial⟩) rfl (by simp[AV.scV,AV.scA,AV.scB]) (by simpa[VT.cs]using hK')
   simp only[VT.cs,zuv]
   by_cases h4:k=4
   ·subst h4
    by_cases h0:0≤n
    ·have h1:¬ n<args.length:=fun h=>hvar ⟨rfl,h0,h⟩
     simp[h0,h1,zaz,zaV,Nat.add_assoc]
     exact go _ rfl
    ·simp[h0,zaz,zaV,Nat.add_assoc]
     exact go _ rfl
   ·have h4':(k == 4)=false:=by simpa using h4
    simp[h4',zaz,zaV,Nat.add_assoc]
    exact go _ rfl
def zke (args:List VT):AB:=.cells (args.map fun x=>.int .i64 x.nodes)
theorem zS7 (args:List VT) (ha:∀ x∈args,x.nodes≤1000000) (hal:args.length≤1000000):∀ (m:Nat) (v:VT),v.nodes≤m→v.nodes≤1000000→∀ (H:zaa) (id:Nat),H[id]?=some (zke args)→∀ (K:AV→zaa→Prop),
  (∀ r:Nat,(r≤200↔(subst args v).nodes≤200)→(r≤200→r=(subst args v).nodes)→r≤1000000+200*v.nodes→K (.int .i64 r) H)→ACalls tP zjR [.agg v.cs,.ms id 0 args.length args.length] H K:=by
 intro m
 induction m with
 | zero=>intro v h;have:=v.nodes_pos;omega
 | succ m ih=>
  intro v hv hb H id hid K hK
  obtain⟨k,n,ks⟩:=v
  have hnl:VT.nodesL ks+1≤1000000:=by simpa[VT.nodes]using hb
  have hll:=VT.len_le ks
  have hidl:=zcX hid
  refine ACalls.out (zS5 fun hs=>?_)
  by_cases hvar:k=4∧0≤n∧n<args.length
  ·obtain⟨rfl,h0,h1⟩:=hvar
   have hn:n.toNat<args.length:=by omega
   have hsub:subst args (.mk 4 n ks)=args[n.toNat]:=by rw[subst,if_pos ⟨rfl,h0,h1⟩,List.getElem?_eq_getElem hn];rfl
   rw[hsub]at hK
   have hg:(H++[AB.cells [.int .i64 4,.int .i64 n,.sl (VT.css ks) .none]])[id]?=some (zke args):=zbO hid
   have hle:=ha _ (List.getElem_mem hn)
   unfold zke at hg
   simp[VT.cs,zuq,h0,h1,hn,hg,zbi]
   exact Out.int rfl (Nat.le_refl _) hs (hK _ Iff.rfl (fun _=>rfl) (by omega))
  ·have hsub:subst args (.mk k n ks)=.mk k n (zaQ args ks):=by rw[subst,if_neg hvar]
   have hnodes:(subst args (.mk k n ks)).nodes=VT.nodesL (zaQ args ks)+1:=by rw[hsub];rfl
   rw[hnodes]at hK
   have hO:∀ r:Nat,(r≤200↔VT.nodesL (zaQ args ks)+1≤200)→(r≤200→r=VT.nodesL (zaQ args ks)+1)→r≤1000000+200*(VT.mk k n ks).nodes→∀ J,Out H.length K (.int .i64 r) (H++J):=fun r h1 h2 h3 J=>Out.int rfl (Nat.le_refl _) hs (hK r h1 h2 h3)
   have hsl:(zaQ args ks).length=ks.length:=by rw[zes];simp
   have go:zuu (.ms id 0 args.length args.length) (.int .i64 1) (.sl (VT.css ks) .none) (.int .i64 ks.length) (.int .i64 0) (H++[.cells [.int .i64 k,.int .i64 n,.sl (VT.css ks) .none]]) (Out H.length K):=by
    refine zS3 (Inv:=fun q t5 t31 H'=>∃ i:Nat,i≤ks.length∧q=ks.length-i∧t31=.int .i64 i∧t5=.int .i64 (1+VT.nodesL ((zaQ args ks).take i):Nat)∧1+VT.nodesL ((zaQ args ks).take i)≤200∧H'=H++[.cells [.int .i64 k,.int .i64 n,.sl (VT.css ks) .none]]) ks.length ?_ ?_
    ·intro _;exact⟨0,by omega,by omega,rfl,by simp[VT.nodesL],by simp[VT.nodesL],rfl⟩
    ·rintro q t5 t31 H' ⟨i,hi,rfl,rfl,rfl,hb2,rfl⟩ hsc hlen hsF Kb hKb
     by_cases hlt:i<ks.length
     ·have hki:=VT.kid_lt (k:=k) (n:=n) hlt
      have hlt':i<(zaQ args ks).length:=by omega
      have hsi:(zaQ args ks)[i]=subst args ks[i]:=by simp[zes]
      have h1:=VT.nodesL_take hlt'
      have h2:=VT.nodesL_take_le (zaQ args ks) (i+1)
      rw[hsi]at h1
      obtain⟨x1,x2,x3,hvx,hx1,hx2,hx3⟩:=zaO ks[i]
      simp[zur,hlt,hvx,hx1,hx2,hx3]
      rw[←hvx]
      refine ih ks[i] (by omega) (by omega) _ id (zbO hid) _ fun r hr1 hr2 hr3=>?_
      simp
      rw[zau (by omega) (by omega)]
      by_cases hbig:(200:Int)<1+VT.nodesL ((zaQ args ks).take i)+r
      ·simp[hbig,znP,zut]
       have:=hO (1+VT.nodesL ((zaQ args ks).take i)+r) (by constructor <;> intro h <;> omega) (by omega) (by omega)
       have e:((1+VT.nodesL ((zaQ args ks).take i)+r:Nat):Int)=1+(VT.nodesL ((zaQ args ks).take i):Int)+r:=by omega
       rw[e]at this
       exact this _
      ·have hr:r=(subst args ks[i]).nodes:=hr2 (by omega)
       simp[hbig]
       rw[zau (by omega) (by omega),zya]
       refine hKb _ _ ⟨ks.length-(i+1),by omega,Back.same (by simp) hsc ?_ ⟨_,_,rfl,i+1,by omega,rfl,by simp,?_,by omega,rfl⟩⟩
       ·simp[znO,AV.sc,AV.scV,AV.scA,AV.scB];omega
       ·congr 1;omega
     ·obtain rfl:i=ks.length:=by omega
      rw[List.take_of_length_le (by omega)]at *
      simp[zur,znP,zut]
      have:=hO (1+VT.nodesL (zaQ args ks)) (by omega) (by omega) (by omega)
      have e:((1+VT.nodesL (zaQ args ks):Nat):Int)=1+(VT.nodesL (zaQ args ks):Int):=by omega
      rw[e]at this
      exact this _
   simp only[VT.cs,zuq]
   by_cases h4:k=4
   ·subst h4
    by_cases h0:0≤n
    ·have h1:¬ n<args.length:=fun h=>hvar ⟨rfl,h0,h⟩
     simp[h0,h1]
     exact go
    ·simp[h0]
     exact go
   ·have h4':(k == 4)=false:=by simpa using h4
    simp[h4']
    exact go
def zc0 (args:List VT) (i:Nat):List AV:=(args.take i).map (fun x=>.int .i64 x.nodes)++List.replicate (args.length-i) (.int .i64 0)
theorem zFV (args:List VT) {i:Nat} (h:i≤args.length):(zc0 args i).length=args.length:=by simp[zc0];omega
theorem zFW (args:List VT) {i:Nat} (h:i<args.length):(zc0 args i).take i++[.int .i64 (args[i]).nodes]++(zc0 args i).drop (i+1)=zc0 args (i+1):=by
 have e1:((args.take i).map fun x=>AV.int .i64 x.nodes).length=i:=by simp;omega
 unfold zc0
 rw[List.take_append_of_le_length (by omega),List.take_of_length_le (by omega),List.drop_append,List.drop_of_length_le (by omega),List.nil_append,e1,List.take_succ_eq_append_getElem h,List.map_append]
 congr 1
 rw[show i+1-i=1 by omega,List.drop_replicate]
 congr 1
theorem zmz (data:List Dat) (hdl:data.length≤1000000) (hda:∀ d∈data,∀ c∈d.cons,c.args.length≤1000∧∀ x∈c.args,x.nodes≤1000) (hdc:∀ d∈data,d.cons.length≤1000000) (t:VT) (ht:t.nodes≤1000) (c:Int) (H:zaa) (K:AV→zaa→Prop) (hK:K (zb1 (zaU data t c)) H) :
  ACalls tP zgn [.sl (data.map Dat.cs) .none,.agg t.cs,.int .i64 c] H K:=by
 refine ACalls.out (zPJ fun hs=>?_)
 obtain⟨k,n,ks⟩:=t
 have hkn:VT.nodesL ks+1≤1000:=by simpa[VT.nodes]using ht
 have hkl:=VT.len_le ks
 have hF:zaU data (.mk k n ks) c=none→∀ J,Out H.length K (.tup [.snil,.bool false]) (H++J):=fun h J=>by
  rw[h]at hK
  exact Out.tup hs hK ⟨zer,za4 rfl rfl,trivial⟩
 simp only[VT.cs,zBz]
 by_cases h5:k=5
 case neg=>
  have:(k != 5)=true:=by simpa using h5
  simp[this,AV.isV]
  exact hF (by rw[zc8,if_neg (fun h=>h5 h.1)]) _
 subst h5
 by_cases h0:n<0
 ·simp[h0,AV.isV]
  exact hF (by rw[zc8,if_neg (fun h=>by have:=h.2.1;omega)]) _
 by_cases h1:(data.length:Int)≤n
 ·simp[h0,h1,AV.isV]
  exact hF (by
   rw[zc8]
   split
   ·rw[List.getElem?_eq_none (by omega)]
   ·rfl) _
 have hn:n.toNat<data.length:=by omega
 have h1':n<data.length:=by omega
 have h0':0≤n:=by omega
 generalize hdd:data[n.toNat]=d at *
 have hd:d∈data:=by rw[←hdd];exact List.getElem_mem hn
 have hget:data[n.toNat]?=some d:=by rw[List.getElem?_eq_getElem hn,hdd]
 cases hv:((ks.length:Int) == d.vars) with
 | false=>
  have hv':((ks.length:Int) != d.vars)=true:=by simp[bne,hv]
  simp[h0,h1,h0',h1',hn,hdd,Dat.cs,hv',AV.isV,hget]
  exact hF (by
   rw[zc8]
   split
   ·rw[hget]
    simp only
    rw[if_neg (by simpa using hv)]
   ·rfl) _
 | true=>
 have hv':((ks.length:Int) != d.vars)=false:=by simp[bne,hv]
 have hve:(ks.length:Int)=d.vars:=by simpa using hv
 by_cases hc0:c<0
 ·simp[h0,h1,h0',h1',hn,hdd,Dat.cs,hv',AV.isV,hget,hc0]
  exact hF (by rw[zc8,if_neg (fun h=>by have:=h.2.2;omega)]) _
 have hfe:∀ o,(match d.cons[c.toNat]? with | some k=>if (k.args.map (subst ks)).all (fun x=>decide (x.nodes≤200))=true then some (k.args.map (subst ks)) else none | none=>none)=o→zaU data (.mk 5 n ks) c=o:=fun o h=>by
  rw[zc8,if_pos ⟨rfl,h0',by omega⟩,hget]
  simp only
  rw[if_pos hve]
  exact h
 by_cases hc1:(d.cons.length:Int)≤c
 ·simp[h0,h1,h0',h1',hn,hdd,Dat.cs,hv',AV.isV,hget,hc0,hc1]
  exact hF (hfe none (by rw[List.getElem?_eq_none (by omega)])) _
 have hcn:c.toNat<d.cons.length:=by omega
 have hc1':c<d.cons.length:=by omega
 have hc0':0≤c:=by omega
 generalize hcc:d.cons[c.toNat]=co at *
 have hco:co∈d.cons:=by rw[←hcc];exact List.getElem_mem hcn
 have hgc:d.cons[c.toNat]?=some co:=by rw[List.getElem?_eq_getElem hcn,hcc]
 obtain⟨hal,han⟩:=hda d hd co hco
 have hfe':=fun o=>hfe o
 rw[hgc]at hfe'
 simp only at hfe'
 have hkle:∀ x∈ks,x.nodes≤1000:=fun y hy=>Nat.le_trans (zgg (k:=5) (n:=n) y hy) ht
 simp[h0,h1,h0',h1',hn,hdd,Dat.cs,hv',AV.isV,hget,hc0,hc1,hc0',hc1',hcn,hcc,zbr]
 refine⟨by omega,?_⟩
 have ez:List.replicate ks.length (AV.int .i64 0)=zc0 ks 0:=by simp[zc0]
 rw[ez]
 have hsc3:∀ (l:List AV),(l.all fun a=>a.scA (H.length+3))=true→HSc (H++[.cells [.int .i64 5,.int .i64 n,.sl (VT.css ks) .none],.cells [.str d.name,.int .i64 d.vars,.sl (d.cons.map Con.cs) .none],.cells l]):=fun l hl=>hs.append (by simp[AB.sc];simpa using hl)
 have hszsc:∀ i,((zc0 ks i).all fun a=>a.scA (H.length+3))=true:=fun i=>by
  rw[List.all_eq_true]
  intro x hx
  unfold zc0 at hx
  rcases List.mem_append.1 hx with h | h
  ·obtain⟨y,_,rfl⟩:=List.mem_map.1 h;rfl
  ·rw[List.eq_of_mem_replicate h];rfl
 refine zPF (Inv:=fun q t61 H'=>∃ i:Nat,i≤ks.length∧q=ks.length-i∧t61=.int .i64 i∧H'=H++[.cells [.int .i64 5,.int .i64 n,.sl (VT.css ks) .none],.cells [.str d.name,.int .i64 d.vars,.sl (d.cons.map Con.cs) .none],.cells (zc0 ks i)]) ks.length ?_ ?_
 ·intro _;exact⟨0,by omega,by omega,rfl,rfl⟩
 ·rintro q t61 H' ⟨i,hi,rfl,rfl,rfl⟩ hsc8 hlen8 hsF8 Kb8 hKb8
  by_cases hlt:i<ks.length
  ·have hle:=hkle _ (List.getElem_mem hlt)
   obtain⟨x1,x2,x3,hvx,hx1,hx2,hx3⟩:=zaO ks[i]
   simp[zth,hlt,hvx,hx1,hx2,hx3]
   rw[←hvx]
   refine zS0 _ _ (Nat.le_refl _) (by omega) _ _ ?_
   have hll:=zFV ks hi
   simp[hlt,hll]
   refine⟨by omega,?_⟩
   rw[zau (by omega) (by omega)]
   have e:=zFW ks hlt
   rw[List.append_assoc,List.singleton_append]at e
   rw[e]
   refine hKb8 _ _ ⟨ks.length-(i+1),by omega,Back.at (J:=[_]) (H2:=H++[.cells [.int .i64 5,.int .i64 n,.sl (VT.css ks) .none],.cells [.str d.name,.int .i64 d.vars,.sl (d.cons.map Con.cs) .none],.cells (zc0 ks (i+1))]) (by simp;rfl) (by simp) (hsc3 _ (hszsc _)) ?_ ⟨_,rfl,i+1,by omega,rfl,by simp,rfl⟩⟩
   simp[zmx,AV.sc,AV.scV,AV.scA,AV.scB]
  ·obtain rfl:i=ks.length:=by omega
   have efull:zc0 ks ks.length=ks.map fun x=>.int .i64 x.nodes:=by simp[zc0]
   have hsc8':=hsc8
   rw[efull]at hsc8' ⊢
   simp[zth,hc0',hc1',hcn,hcc,Con.cs,hgc]
   refine zPD (Inv:=fun q t79 H'=>∃ i:Nat,i≤co.args.length∧q=co.args.length-i∧t79=.int .i64 i∧(∀ x∈co.args.take i,(subst ks x).nodes≤200)∧H'=H++[.cells [.int .i64 5,.int .i64 n,.sl (VT.css ks) .none],.cells [.str d.name,.int .i64 d.vars,.sl (d.cons.map Con.cs) .none],.cells (ks.map fun x=>.int .i64 x.nodes)]) co.args.length ?_ ?_
   ·intro _;exact⟨0,by omega,by omega,rfl,by simp,rfl⟩
   ·rintro q t79 H' ⟨i,hi,rfl,rfl,hall,rfl⟩ hsc13 hlen13 hsF13 Kb13 hKb13
    by_cases hlt:i<co.args.length
    ·have hmem:=List.getElem_mem hlt
     obtain⟨x1,x2,x3,hvx,hx1,hx2,hx3⟩:=zaO co.args[i]
     simp[ztf,hlt,hvx,hx1,hx2,hx3]
     rw[←hvx]
     refine zS7 ks (fun y hy=>by have:=hkle y hy;omega) (by omega) _ co.args[i] (Nat.le_refl _) (by have:=han _ hmem;omega) _ (H.length+2) (by simp[zke]) _ fun r hr1 hr2 hr3=>?_
     by_cases hbig:r≤200
     ·have hbig':¬ (200:Int)<r:=by omega
      simp[hbig']
      rw[zau (by omega) (by omega)]
      refine hKb13 _ _ ⟨co.args.length-(i+1),by omega,Back.at (J:=[_]) (H2:=H++[.cells [.int .i64 5,.int .i64 n,.sl (VT.css ks) .none],.cells [.str d.name,.int .i64 d.vars,.sl (d.cons.map Con.cs) .none],.cells (ks.map fun x=>.int .i64 x.nodes)]) (by simp;rfl) (by simp) hsc8' ?_ ⟨_,rfl,i+1,by omega,rfl,by simp,zwn hlt hall (hr1.1 hbig),rfl⟩⟩
      simp[zmv,AV.sc,AV.scV,AV.scA,AV.scB]
     ·have hbig':(200:Int)<r:=by omega
      simp[hbig',AV.isV]
      refine hF (hfe' none ?_) _
      rw[if_neg]
      intro hal2
      have:=List.all_eq_true.1 hal2 (subst ks co.args[i]) (List.mem_map.2 ⟨_,hmem,rfl⟩)
      exact hbig (hr1.2 (of_decide_eq_true this))
    ·obtain rfl:i=co.args.length:=by omega
     rw[List.take_length]at hall
     have hfs:=hfe' (some (co.args.map (subst ks))) (if_pos (List.all_eq_true.2 fun y hy=>by
      obtain⟨x,hx,rfl⟩:=List.mem_map.1 hy
      exact decide_eq_true (hall x hx)))
     rw[hfs]at hK
     simp[ztf,hc0',hc1',hcn,hcc,Con.cs,hgc]
     unfold zmy
     refine ALoop.own 14 za9 3 rfl ?_
     have hlen1:(H++[AB.cells [.int .i64 5,.int .i64 n,.sl (VT.css ks) .none],.cells [.str d.name,.int .i64 d.vars,.sl (d.cons.map Con.cs) .none],.cells (ks.map fun x=>.int .i64 x.nodes)]).length=H.length+3:=by simp
     rw[hlen1]
     have hperm:∀ m,HSc (H++[.cells [.int .i64 5,.int .i64 n,.sl (VT.css ks) .none],.cells [.str d.name,.int .i64 d.vars,.sl (d.cons.map Con.cs) .none],.cells (ks.map fun x=>.int .i64 x.nodes),.perm za9 3 m]):=fun m=>by have:=hsc8'.append (J:=[.perm za9 3 m]) rfl;simpa using this
     rw[List.append_assoc]
     show zmy (.ptr H.length 0) (.sl [] (.own (H.length+3))) (.sl (VT.css co.args) .none) (.int .i64 co.args.length) (.int .i64 0) (H++[.cells [.int .i64 5,.int .i64 n,.sl (VT.css ks) .none],.cells [.str d.name,.int .i64 d.vars,.sl (d.cons.map Con.cs) .none],.cells (ks.map fun x=>.int .i64 x.nodes),.perm za9 3 0]) (Out H.length K)
     refine zPE (Inv:=fun q t14 t95 H'=>∃ i:Nat,i≤co.args.length∧q=co.args.length-i∧t95=.int .i64 i∧t14=.sl (VT.css ((co.args.map (subst ks)).take i)) (.own (H.length+3))∧H'=H++[.cells [.int .i64 5,.int .i64 n,.sl (VT.css ks) .none],.cells [.str d.name,.int .i64 d.vars,.sl (d.cons.map Con.cs) .none],.cells (ks.map fun x=>.int .i64 x.nodes),.perm za9 3 i]) co.args.length ?_ ?_
     ·intro _;exact⟨0,by omega,by omega,rfl,by simp[VT.css],rfl⟩
     ·rintro q t14 t95 H' ⟨i,hi,rfl,rfl,rfl,rfl⟩ hsc20 hlen20 hsF20 Kb20 hKb20
      by_cases hlt:i<co.args.length
      ·have hmem:=List.getElem_mem hlt
       obtain⟨x1,x2,x3,hvx,hx1,hx2,hx3⟩:=zaO co.args[i]
       simp[ztg,hlt,hvx,hx1,hx2,hx3]
       rw[←hvx]
       refine zTe _ ks (fun y hy=>by have:=hkle y hy;omega) (by omega) co.args[i] (Nat.le_refl _) (by have:=han _ hmem;omega) _ _ ?_
       rw[zeh]
       simp[zax,zaY,zaM]
       refine⟨by omega,⟨by omega,by omega⟩,?_⟩
       rw[zau (by omega) (by omega),show min i co.args.length=i by omega]
       refine hKb20 _ _ ⟨co.args.length-(i+1),by omega,Back.at (H2:=H++[.cells [.int .i64 5,.int .i64 n,.sl (VT.css ks) .none],.cells [.str d.name,.int .i64 d.vars,.sl (d.cons.map Con.cs) .none],.cells (ks.map fun x=>.int .i64 x.nodes),.perm za9 3 (i+1)]) (J:=[_]) (by simp;rfl) (by simp) (hperm _) ?_ ⟨_,_,rfl,i+1,by omega,rfl,by simp,?_,rfl⟩⟩
       ·simp[zmw,AV.sc,AV.scV,AV.scA,AV.scB]
       ·rw[zhd (by simpa using hlt)];simp
      ·obtain rfl:i=co.args.length:=by omega
       rw[List.take_of_length_le (by simp)]
       simp[ztg,AV.isV]
       exact Out.tup hs hK ⟨slV,za4 rfl rfl,trivial⟩
end Go.Proofs.YtjkkonpjecoieaaGreat
