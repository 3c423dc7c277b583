import Derived.Test.YtdmamdnkcefmmaaGreatDoorKY4
set_option linter.unusedSimpArgs false
set_option linter.unusedVariables false
set_option maxRecDepth 8000
namespace Go.Proofs.YtdmamdnkcefmmaaGreatDoor
open Go Go.Abs
theorem zSt (data:List Dat) (hdl:data.length≤1000000) (vars:Int):∀ (m:Nat) (v:VT),v.nodes≤m→v.nodes≤1000000000→∀ (H:zaa) (K:AV→zaa→Prop),K (.bool (zaY data vars v)) H→ACalls tP zi5 [.sl (data.map Dat.cs) .none,.agg v.cs,.int .i64 vars] H K:=by
 intro m
 induction m with
 | zero=>intro v h;have:=v.nodes_pos;omega
 | succ m ih=>
  intro v hv hb H K hK
  obtain⟨k,n,ks⟩:=v
  have hnl:VT.nodesL ks+1≤1000000000:=by simpa[VT.nodes]using hb
  have hll:=VT.len_le ks
  refine ACalls.out (zSr fun hs=>?_)
  have hO:∀ J,Out H.length K (.bool (zba data vars k n ks.length && za8 data vars ks)) (H++J):=fun J=>Out.bool rfl (Nat.le_refl _) hs (by simpa[zaY]using hK)
  have hF:zba data vars k n ks.length=false→∀ J,Out H.length K (.bool false) (H++J):=fun h J=>by have:=hO J;rwa [h,Bool.false_and]at this
  have loop:zba data vars k n ks.length=true→zs6 (.sl (data.map Dat.cs) .none) (.int .i64 vars) (.ptr H.length 0) (.int .i64 ks.length) (.int .i64 0) (H++[.cells [.int .i64 k,.int .i64 n,.sl (VT.css ks) .none]]) (Out H.length K):=by
   intro hsh
   rw[hsh]at hO
   simp only[Bool.true_and]at hO
   refine zSp (Inv:=fun q t8 H'=>∃ i:Nat,i≤ks.length∧q=ks.length-i∧t8=.int .i64 i∧za8 data vars (ks.drop i)=za8 data vars ks∧H'=H++[.cells [.int .i64 k,.int .i64 n,.sl (VT.css ks) .none]]) ks.length ?_ ?_
   ·intro _;exact⟨0,by omega,by omega,rfl,by simp,rfl⟩
   ·rintro q t8 H' ⟨i,hi,rfl,rfl,ho,rfl⟩ hsc hlen hsF Kb hKb
    by_cases hlt:i<ks.length
    ·have hki:=VT.kid_lt (k:=k) (n:=n) hlt
     rw[List.drop_eq_getElem_cons hlt,za8]at ho
     simp[zs4,hlt]
     refine ih ks[i] (by omega) (by omega) _ _ ?_
     cases hb:zaY data vars ks[i] with
     | false=>
      rw[hb,Bool.false_and]at ho
      rw[←ho]at hO
      simp
      exact hO _
     | true=>
      rw[hb,Bool.true_and]at ho
      simp
      rw[zat (by omega) (by omega)]
      refine hKb _ _ ⟨ks.length-(i+1),by omega,Back.here (by simp) hsc ?_ ⟨_,rfl,i+1,by omega,rfl,by simp,ho,rfl⟩⟩
      simp[zmS,AV.sc,AV.scV,AV.scA,AV.scB]
    ·obtain rfl:i=ks.length:=by omega
     rw[List.drop_length,za8]at ho
     rw[←ho]at hO
     simp[zs4]
     exact hO _
  have prim:(k=1∨k=2∨k=3)→Out H.length K (.bool (n == 0 && ks.length == 0)) (H++[.cells [.int .i64 k,.int .i64 n,.sl (VT.css ks) .none]]):=by
   intro h
   have hsh:zba data vars k n ks.length=(n == 0 && ks.length == 0):=by rcases h with rfl | rfl | rfl <;> rfl
   have:=hO [.cells [.int .i64 k,.int .i64 n,.sl (VT.css ks) .none]]
   rw[hsh]at this
   cases ks with
   | nil=>simpa[za8]using this
   | cons x l=>simpa using this
  by_cases h123:k=1∨k=2∨k=3
  ·have:=prim h123
   cases hn:(n == 0) with
   | false=>rw[hn,Bool.false_and]at this;rcases h123 with rfl | rfl | rfl <;> simp[zcw,VT.cs,zbN,hn] <;> exact this
   | true=>
    rw[hn,Bool.true_and]at this
    have e:((ks.length:Int) == 0)=(ks.length == 0):=by rw[Bool.eq_iff_iff];simp
    rw[←e]at this
    rcases h123 with rfl | rfl | rfl <;> simp only[zcw,VT.cs] <;> simp[zbN,hn] <;> simpa using this
  by_cases h4:k=4
  ·subst h4
   have hsh:zba data vars 4 n ks.length=(decide (0≤n) && decide (n<vars) && ks.length == 0):=rfl
   have hO':∀ J,Out H.length K (.bool (decide (0≤n) && decide (n<vars) && ks.length == 0)) (H++J):=fun J=>by
    have:=hO J
    rw[hsh]at this
    cases ks with
    | nil=>simpa[za8]using this
    | cons x l=>simpa using this
   have e:((ks.length:Int) == 0)=(ks.length == 0):=by rw[Bool.eq_iff_iff];simp
   rw[←e]at hO'
   by_cases g1:0≤n
   ·by_cases g2:n<vars
    ·simp only[zcw,VT.cs]
     simp[zbN,g1,g2]
     simpa[g1,g2]using hO' _
    ·simp only[zcw,VT.cs]
     simp[zbN,g1,g2]
     simpa[g1,g2]using hO' _
   ·simp only[zcw,VT.cs]
    simp[zbN,g1]
    simpa[g1]using hO' _
  by_cases h5:k=5
  ·subst h5
   have hsh:zba data vars 5 n ks.length=(decide (0≤n) && (match data[n.toNat]? with | some d=>(ks.length:Int) == d.vars | none=>false)):=rfl
   by_cases g1:0≤n
   ·have g1':¬ n<0:=by omega
    by_cases g2:n<data.length
    ·have hnl:n.toNat<data.length:=by omega
     have g2':¬ (data.length:Int)≤n:=by omega
     have hat:(data.map Dat.cs)[n.toNat]?.getD []=[.str data[n.toNat].name,.int .i64 data[n.toNat].vars,.sl (data[n.toNat].cons.map Con.cs) .none]:=by simp[hnl,Dat.cs]
     rw[List.getElem?_eq_getElem hnl]at hsh
     simp only[g1,decide_true,Bool.true_and]at hsh
     cases hv:((ks.length:Int) == data[n.toNat].vars) with
     | false=>
      rw[hv]at hsh
      have hv':((ks.length:Int) != data[n.toNat].vars)=true:=by simp[bne,hv]
      simp only[zcw,VT.cs]
      simp[zbN,g1',g2',g1,g2,hnl,Dat.cs,hv']
      exact hF hsh _
     | true=>
      rw[hv]at hsh
      have hv':((ks.length:Int) != data[n.toNat].vars)=false:=by simp[bne,hv]
      simp only[zcw,VT.cs]
      simp[zbN,g1',g2',g1,g2,hnl,Dat.cs,hv',zeM,zhX]
      exact loop hsh
    ·have g2':(data.length:Int)≤n:=by omega
     rw[List.getElem?_eq_none (by omega)]at hsh
     simp only[zcw,VT.cs]
     simp[zbN,g1',g2']
     exact hF (by rw[hsh];simp) _
   ·have g1':n<0:=by omega
    simp only[zcw,VT.cs]
    simp[zbN,g1']
    exact hF (by rw[hsh];simp[g1]) _
  by_cases h6:k=6
  ·subst h6
   have hsh:zba data vars 6 n ks.length=(n == 0 && decide (2≤ks.length) && decide (ks.length≤6)):=rfl
   simp only[zcw,VT.cs]
   cases hn:(n == 0) with
   | false=>
    have:(n != 0)=true:=by simp[bne,hn]
    simp[zbN,this]
    exact hF (by rw[hsh,hn];rfl) _
   | true=>
    have hn':(n != 0)=false:=by simp[bne,hn]
    by_cases g1:ks.length<2
    ·have:(ks.length:Int)<2:=by omega
     simp[zbN,hn',this]
     exact hF (by rw[hsh];simp;omega) _
    ·have g1':¬ (ks.length:Int)<2:=by omega
     by_cases g2:6<ks.length
     ·have:(6:Int)<ks.length:=by omega
      simp[zbN,hn',g1',this]
      exact hF (by rw[hsh];simp;omega) _
     ·have:¬ (6:Int)<ks.length:=by omega
      simp[zbN,hn',g1',this,zeM,zhX]
      exact loop (by rw[hsh,hn];simp;omega)
  by_cases h78:k=7∨k=8
  ·have hsh:zba data vars k n ks.length=(n == 0 && ks.length == 1):=by rcases h78 with rfl | rfl <;> rfl
   cases hn:(n == 0) with
   | false=>
    have:(n != 0)=true:=by simp[bne,hn]
    have fin:=hF (by rw[hsh,hn];rfl)
    simp only[zcw,VT.cs]
    rcases h78 with rfl | rfl <;> simp[zbN,zdX,this] <;> exact fin _
   | true=>
    have hn':(n != 0)=false:=by simp[bne,hn]
    by_cases g1:ks.length=1
    ·have g1':((ks.length:Int) != 1)=false:=by simp[g1]
     have fin:=loop (by rw[hsh,hn,g1];rfl)
     simp only[zcw,VT.cs]
     rcases h78 with rfl | rfl <;> simp[zbN,zdX,hn',g1',zeM,zhX] <;> exact fin
    ·have g1':((ks.length:Int) != 1)=true:=by simp;omega
     have fin:=hF (by rw[hsh];simp[g1])
     simp only[zcw,VT.cs]
     rcases h78 with rfl | rfl <;> simp[zbN,zdX,hn',g1'] <;> exact fin _
  have b1:(k == 1)=false:=by simp;omega
  have b2:(k == 2)=false:=by simp;omega
  have b3:(k == 3)=false:=by simp;omega
  have b4:(k == 4)=false:=by simp;omega
  have b5:(k == 5)=false:=by simp;omega
  have b6:(k == 6)=false:=by simp;omega
  have b7:(k == 7)=false:=by simp;omega
  have b8:(k == 8)=false:=by simp;omega
  by_cases h9:k=9
  ·subst h9
   have hsh:zba data vars 9 n ks.length=(n == 0 && decide (1≤ks.length) && decide (ks.length≤7)):=rfl
   simp only[zcw,VT.cs]
   cases hn:(n == 0) with
   | false=>
    have:(n != 0)=true:=by simp[bne,hn]
    simp[zbN,zdX,this]
    exact hF (by rw[hsh,hn];rfl) _
   | true=>
    have hn':(n != 0)=false:=by simp[bne,hn]
    by_cases g1:ks.length<1
    ·have:(ks.length:Int)<1:=by omega
     simp[zbN,zdX,hn',this]
     exact hF (by rw[hsh];simp;omega) _
    ·have g1':¬ (ks.length:Int)<1:=by omega
     by_cases g2:7<ks.length
     ·have:(7:Int)<ks.length:=by omega
      simp[zbN,zdX,hn',g1',this]
      exact hF (by rw[hsh];simp;omega) _
     ·have:¬ (7:Int)<ks.length:=by omega
      simp[zbN,zdX,hn',g1',this,zeM,zhX]
      exact loop (by rw[hsh,hn];simp;omega)
  ·have b9:(k == 9)=false:=by simp;omega
   simp only[zcw,VT.cs]
   simp[zbN,zdX,b1,b2,b3,b4,b5,b6,b7,b8,b9]
   exact hF (by unfold zba;simp[b1,b2,b3,b4,b5,b6,b7,b8,b9]) _
theorem zAJ (data:List Dat) (hdl:data.length≤1000000) (vars:Int) (v:VT) (hb:v.nodes≤1000000000) (H:zaa) (K:AV→zaa→Prop) (hK:K (.bool (zaZ data vars v)) H):ACalls tP ziR [.sl (data.map Dat.cs) .none,.agg v.cs,.int .i64 vars] H K:=by
 refine ACalls.out (zP3 fun hs=>?_)
 have hO:∀ J,Out H.length K (.bool (zaZ data vars v)) (H++J):=fun J=>Out.bool rfl (Nat.le_refl _) hs hK
 unfold zaZ at hO
 simp[zAI]
 refine zBA _ v (Nat.le_refl _) hb _ _ ?_
 by_cases h:v.nodes≤200
 ·have h':(v.nodes:Int)≤200:=by omega
  simp[h']
  refine zSt data hdl vars _ v (Nat.le_refl _) hb _ _ ?_
  simpa[h]using hO _
 ·have h':¬ (v.nodes:Int)≤200:=by omega
  simp[h']
  simpa[h]using hO _
def zbS (es:List (List AV)) (id:Nat):AV:=match es with | []=>.snil | _=>.sl es (.own id)
def zcI (e s:Nat) (n:Nat):zaa:=match n with | 0=>[] | n=>[.perm e s n]
theorem zB8 (es:List (List AV)) (id:Nat):WkA (zbS es id) (.sl es .none):=by
 cases es with
 | nil=>exact .snil
 | cons e es=>exact .sl _ _
theorem ztB (es:List (List AV)) {id n:Nat} (h:es=[]∨id<n):(zbS es id).scA n=true:=by
 cases es with
 | nil=>rfl
 | cons e es=>
  rcases h with h | h
  ·cases h
  ·simpa[zbS,AV.scA,AV.scB]using h
theorem zB7 (es:List (List AV)) (id:Nat):(zbS es id).known=true:=by cases es <;> rfl
theorem zB6 (es:List (List AV)) (id:Nat):(zbS es id).cs?=some [zbS es id]:=by cases es <;> rfl
theorem zB9 {e s bytes:Nat} {es:List (List AV)} {y:List AV} {t:Tok} {H:zaa} {K:AV→zaa→Prop} (hy:y.length=s) (hb:(es.length+1)*bytes≤140737488355328) (hl:es.length+1≤9223372036854775807)
  (hk:K (zbS (es++[y]) H.length) (H++zcI e s (es.length+1))):zaw e s bytes (zbS es H.length) (.sl [y] t) (H++zcI e s es.length) K:=by
 unfold zaw zaK
 refine⟨by simpa using hy,?_⟩
 cases es with
 | nil=>
  unfold zaG
  simp[zbS,zcI]at *
  exact⟨by omega,hk⟩
 | cons x es=>
  unfold zaG
  simp[zbS,zcI]at *
  refine⟨⟨by omega,by omega⟩,hk⟩
theorem ztC {e s bytes id n:Nat} {es:List (List AV)} {y:List AV} {t:Tok} {H0 Hh:zaa} {K:AV→zaa→Prop} (hn:n=es.length) (he:Hh=H0++zcI e s n) (hid:id=H0.length) (hy:y.length=s) (hb:(es.length+1)*bytes≤140737488355328) (hl:es.length+1≤9223372036854775807)
  (hk:K (zbS (es++[y]) id) (H0++zcI e s (n+1))):zaw e s bytes (zbS es id) (.sl [y] t) Hh K:=by
 subst he hid hn
 exact zB9 hy hb hl hk
@[simp] theorem zVp (es:List (List AV)) (id:Nat):(zbS es id).cs?=some [zbS es id]:=zB6 es id
@[simp] theorem zVq (es:List (List AV)) (id:Nat):(zbS es id).known=true:=zB7 es id
theorem zeU {v:VT} {k:AV→Prop}:zau 3 [.int .i64 0,.int .i64 0,.snil] 1 [(0,.agg v.cs)] k=k (.sl [v.cs] .full):=by
 cases v
 exact propext Iff.rfl
theorem zgB {l:List VT} {i:Nat} (h:i<l.length):VT.css (l.take (i+1))=VT.css (l.take i)++[(l[i]).cs]:=by
 rw[VT.css_map,VT.css_map,List.take_succ_eq_append_getElem h,List.map_append]
 rfl
theorem zvO {H J:zaa} {K:AV→zaa→Prop} {k n:Int} {ks:List VT} {id:Nat} (hs:HSc H) (hK:K (.agg (VT.mk k n ks).cs) H):Out H.length K (.agg [.int .i64 k,.int .i64 n,zbS (VT.css ks) id]) (H++J):=
 Out.at rfl (Nat.le_refl _) hs (WkV.agg (ds:=[.int .i64 k,.int .i64 n,.sl (VT.css ks) .none]) ⟨.refl _,.refl _,zB8 _ _,trivial⟩) rfl (by simp[AV.scV,AV.scA,AV.scB]) (by simpa[VT.cs]using hK)
theorem zCN:∀ (m:Nat) (v:VT),v.nodes≤m→v.nodes≤1000000→∀ (H:zaa) (K:AV→zaa→Prop),K (.agg v.cs) H→ACalls tP ziE [.agg v.cs] H K:=by
 intro m
 induction m with
 | zero=>intro v h;have:=v.nodes_pos;omega
 | succ m ih=>
  intro v hv hb H K hK
  obtain⟨k,n,ks⟩:=v
  have hnl:VT.nodesL ks+1≤1000000:=by simpa[VT.nodes]using hb
  have hll:=VT.len_le ks
  refine ACalls.out (zMn fun hs=>?_)
  simp[VT.cs,zzx,zas,zaH,Nat.add_assoc]
  refine zMl (Inv:=fun q t4 H'=>∃ i:Nat,i≤ks.length∧q=ks.length-i∧t4=.int .i64 i∧H'=H++[.cells [.int .i64 k,.int .i64 n,.sl (VT.css ks) .none],.cells [.int .i64 0,.int .i64 0,.snil],.cells [.int .i64 k,.int .i64 n,zbS (VT.css (ks.take i)) (H.length+3)]]++zcI zaV 3 i) ks.length ?_ ?_
  ·intro _;exact⟨0,by omega,by omega,rfl,by simp[zcI,zbS,VT.css]⟩
  ·rintro q t4 H' ⟨i,hi,rfl,rfl,rfl⟩ hsc hlen hsF Kb hKb
   by_cases hlt:i<ks.length
   ·have hki:=VT.kid_lt (k:=k) (n:=n) hlt
    simp[zro,hlt]
    refine zaE (.agg (ks[i]).cs) (fun J=>ih ks[i] (by omega) (by omega) _ _ ⟨rfl,rfl⟩) ?_
    rw[zeU]
    refine ztC (H0:=H++[.cells [.int .i64 k,.int .i64 n,.sl (VT.css ks) .none],.cells [.int .i64 0,.int .i64 0,.snil],.cells [.int .i64 k,.int .i64 n,zbS (VT.css (ks.take i)) (H.length+3)]]) (n:=i) (by simp;omega) (by simp) (by simp) (by simp) (by simp;omega) (by simp;omega) ?_
    rw[←zgB hlt]
    simp
    rw[zat (by omega) (by omega)]
    refine hKb _ _ ⟨ks.length-(i+1),by omega,Back.here (by simp[zcI]) ?_ ?_ ⟨_,rfl,i+1,by omega,rfl,by simp,by simp⟩⟩
    ·refine hs.append ?_
     simp[AB.sc,zcI,AV.scA,AV.scB]
     exact ztB _ (.inr (by omega))
    ·simp[zls,AV.sc,AV.scV,AV.scA,AV.scB]
   ·obtain rfl:i=ks.length:=by omega
    rw[List.take_length]at *
    simp[zro]
    exact zvO hs hK
theorem zeg (args:List VT):∀ l:List VT,zaL args l=l.map (subst args)
 | []=>rfl
 | t::ts=>by rw[zaL,zeg args ts];rfl
theorem zJs (args:List VT) (ha:∀ x∈args,x.nodes≤1000000) (hal:args.length≤1000000):∀ (m:Nat) (v:VT),v.nodes≤m→v.nodes≤1000000→∀ (H:zaa) (K:AV→zaa→Prop),K (.agg (subst args v).cs) H→ACalls tP ziu [.agg v.cs,.sl (VT.css args) .none] H K:=by
 intro m
 induction m with
 | zero=>intro v h;have:=v.nodes_pos;omega
 | succ m ih=>
  intro v hv hb H K hK
  obtain⟨k,n,ks⟩:=v
  have hnl:VT.nodesL ks+1≤1000000:=by simpa[VT.nodes]using hb
  have hll:=VT.len_le ks
  refine ACalls.out (zJq fun hs=>?_)
  by_cases hvar:k=4∧0≤n∧n<args.length
  ·obtain⟨rfl,h0,h1⟩:=hvar
   have hn:n.toNat<args.length:=by omega
   have hK':K (.agg (args[n.toNat]).cs) H:=by
    rw[subst,if_pos ⟨rfl,h0,h1⟩,List.getElem?_eq_getElem hn]at hK
    exact hK
   simp[VT.cs,zqw,h0,h1,hn]
   refine zCN _ _ (Nat.le_refl _) (ha _ (List.getElem_mem hn)) _ _ ?_
   generalize args[n.toNat]=x at *
   obtain⟨k',n',ks'⟩:=x
   simp[VT.cs]
   exact Out.at rfl (Nat.le_refl _) hs .rfl' rfl rfl hK'
  ·have hK':K (.agg (VT.mk k n (zaL args ks)).cs) H:=by
    rw[subst,if_neg hvar]at hK
    exact hK
   have go:∀ H1,H1=H++[.cells [.int .i64 k,.int .i64 n,.sl (VT.css ks) .none],.cells [.int .i64 0,.int .i64 0,.snil],.cells [.int .i64 k,.int .i64 n,.snil]]→zqz (.sl (VT.css args) .none) (.ptr H.length 0) (.ptr (H.length+1) 0) (.ptr (H.length+2) 0) (.int .i64 0) H1 (Out H.length K):=by
    rintro _ rfl
    refine zJo (Inv:=fun q t6 H'=>∃ i:Nat,i≤ks.length∧q=ks.length-i∧t6=.int .i64 i∧H'=H++[.cells [.int .i64 k,.int .i64 n,.sl (VT.css ks) .none],.cells [.int .i64 0,.int .i64 0,.snil],.cells [.int .i64 k,.int .i64 n,zbS (VT.css ((zaL args ks).take i)) (H.length+3)]]++zcI zaV 3 i) ks.length ?_ ?_
    ·intro _;exact⟨0,by omega,by omega,rfl,by simp[zcI,zbS,VT.css]⟩
    ·rintro q t6 H' ⟨i,hi,rfl,rfl,rfl⟩ hsc hlen hsF Kb hKb
     by_cases hlt:i<ks.length
     ·have hki:=VT.kid_lt (k:=k) (n:=n) hlt
      have hlt':i<(zaL args ks).length:=by rw[zeg];simpa using hlt
      have hsi:(zaL args ks)[i]=subst args ks[i]:=by simp[zeg]
      simp[zqx,hlt]
      refine zaE (.agg (subst args ks[i]).cs) (fun J=>ih ks[i] (by omega) (by omega) _ _ ⟨rfl,rfl⟩) ?_
      rw[zeU,←hsi]
      refine ztC (H0:=H++[.cells [.int .i64 k,.int .i64 n,.sl (VT.css ks) .none],.cells [.int .i64 0,.int .i64 0,.snil],.cells [.int .i64 k,.int .i64 n,zbS (VT.css ((zaL args ks).take i)) (H.length+3)]]) (n:=i) (by simp;omega) (by simp) (by simp) (by simp) (by simp;omega) (by simp;omega) ?_
      rw[←zgB hlt']
      simp
      rw[zat (by omega) (by omega)]
      refine hKb _ _ ⟨ks.length-(i+1),by omega,Back.here (by simp[zcI]) ?_ ?_ ⟨_,rfl,i+1,by omega,rfl,by simp,by simp⟩⟩
      ·refine hs.append ?_
       simp[AB.sc,zcI,AV.scA,AV.scB]
       exact ztB _ (.inr (by omega))
      ·simp[zkA,AV.sc,AV.scV,AV.scA,AV.scB]
     ·obtain rfl:i=ks.length:=by omega
      have e:(zaL args ks).take ks.length=zaL args ks:=List.take_of_length_le (by rw[zeg];simp)
      rw[e]
      simp[zqx]
      exact zvO hs hK'
   simp only[VT.cs,zqw]
   by_cases h4:k=4
   ·subst h4
    by_cases h0:0≤n
    ·have h1:¬ n<args.length:=fun h=>hvar ⟨rfl,h0,h⟩
     simp[h0,h1,zas,zaH,Nat.add_assoc]
     exact go _ rfl
    ·simp[h0,zas,zaH,Nat.add_assoc]
     exact go _ rfl
   ·have h4':(k == 4)=false:=by simpa using h4
    simp[h4',zas,zaH,Nat.add_assoc]
    exact go _ rfl
mutual
theorem zwK {args:List VT} {M:Nat} (h1:1≤M) (ha:∀ x∈args,x.nodes≤M):∀ v:VT,(subst args v).nodes≤v.nodes*M
 | .mk k n ks=>by
  unfold subst
  split
  ·rename_i h
   have hn:n.toNat<args.length:=by omega
   rw[List.getElem?_eq_getElem hn]
   have:=ha _ (List.getElem_mem hn)
   have h2:M≤(VT.mk k n ks).nodes*M:=by
    have:=(VT.mk k n ks).nodes_pos
    exact Nat.le_mul_of_pos_left M this
   simp only[Option.getD_some]
   omega
  ·have:=zwH h1 ha ks
   simp only[VT.nodes,Nat.succ_mul]
   omega
theorem zwH {args:List VT} {M:Nat} (h1:1≤M) (ha:∀ x∈args,x.nodes≤M):∀ l:List VT,VT.nodesL (zaL args l)≤VT.nodesL l*M
 | []=>by simp[zaL,VT.nodesL]
 | t::ts=>by
  have h2:=zwK h1 ha t
  have h3:=zwH h1 ha ts
  simp only[zaL,VT.nodesL,Nat.add_mul]
  omega
end
theorem zgO {k n:Int} {ks:List VT}:∀ x∈ks,x.nodes≤(VT.mk k n ks).nodes:=by
 intro x hx
 obtain⟨i,hi,rfl⟩:=List.mem_iff_getElem.1 hx
 exact Nat.le_of_lt (VT.kid_lt hi)
theorem zih {k n:Int} {ks:List VT}:∀ x∈ks,x.nodes<(VT.mk k n ks).nodes:=by
 intro x hx
 obtain⟨i,hi,rfl⟩:=List.mem_iff_getElem.1 hx
 exact VT.kid_lt hi
theorem zw6 {H:zaa} {x y:AB}:H++[x,y]=(H++[x])++[y]:=by simp
theorem zcW (data:List Dat) (k n:Int) (ks:List VT) (c:Int):zbe data (.mk k n ks) c=(if k=5∧0≤n∧0≤c then
  match data[n.toNat]? with
  | some d=>if (ks.length:Int)=d.vars then
    match d.cons[c.toNat]? with
    | some co=>if (co.args.map (subst ks)).all (fun x=>decide (x.nodes≤200))=true then some (co.args.map (subst ks)) else none
    | none=>none
   else none
  | none=>none
 else none):=rfl
def zcr (o:Option (List VT)):AV:=match o with
 | some l=>.tup [.sl (VT.css l) .none,.bool true]
 | none=>.tup [.sl [] .none,.bool false]
theorem zva {α:Type} {l:List α} {i:Nat} (h:i<l.length) {p:α→Prop} (h1:∀ x∈l.take i,p x) (h2:p l[i]):∀ x∈l.take (i+1),p x:=by
 rw[List.take_succ_eq_append_getElem h]
 intro x hx
 rcases List.mem_append.1 hx with hx | hx
 ·exact h1 x hx
 ·simp at hx;subst hx;exact h2
theorem zbt (v:VT):∃ a b c,v.cs=[a,b,c]∧a.known=true∧b.known=true∧c.known=true:=by
 obtain⟨k,n,ks⟩:=v;exact⟨_,_,_,rfl,rfl,rfl,rfl⟩
theorem ztc (data:List Dat) (hdl:data.length≤1000000) (hda:∀ d∈data,∀ c∈d.cons,c.args.length≤1000∧∀ x∈c.args,x.nodes≤1000) (hdc:∀ d∈data,d.cons.length≤1000000) (t:VT) (ht:t.nodes≤1000) (c:Int) (H:zaa) (K:AV→zaa→Prop) (hK:K (zcr (zbe data t c)) H) :
  ACalls tP zhd [.sl (data.map Dat.cs) .none,.agg t.cs,.int .i64 c] H K:=by
 refine ACalls.out (zSE fun hs=>?_)
 obtain⟨k,n,ks⟩:=t
 have hkn:VT.nodesL ks+1≤1000:=by simpa[VT.nodes]using ht
 have hkl:=VT.len_le ks
 have hF:zbe data (.mk k n ks) c=none→∀ J,Out H.length K (.tup [.snil,.bool false]) (H++J):=fun h J=>by
  rw[h]at hK
  exact Out.tup hs hK ⟨zdy,za3 rfl rfl,trivial⟩
 have hFF:∀ J,zbe data (.mk k n ks) c=none→Out H.length K (.tup [.snil,.bool false]) (H++J):=fun J h=>hF h J
 simp only[VT.cs,zBD]
 by_cases h5:k=5
 case neg=>
  have:(k != 5)=true:=by simpa using h5
  simp[this,AV.isV]
  exact hF (by rw[zcW,if_neg (fun h=>h5 h.1)]) _
 subst h5
 by_cases h0:n<0
 ·simp[h0,AV.isV]
  exact hF (by rw[zcW,if_neg (fun h=>by have:=h.2.1;omega)]) _
 by_cases h1:(data.length:Int)≤n
 ·simp[h0,h1,AV.isV]
  exact hF (by
   rw[zcW]
   split
   ·rw[List.getElem?_eq_none (by omega)]
   ·rfl) _
 have hn:n.toNat<data.length:=by omega
 have h1':n<data.length:=by omega
 have h0':0≤n:=by omega
 generalize hdd:data[n.toNat]=d at *
 have hd:d∈data:=by rw[←hdd];exact List.getElem_mem hn
 have hget:data[n.toNat]?=some d:=by rw[List.getElem?_eq_getElem hn,hdd]
 cases hv:((ks.length:Int) == d.vars) with
 | false=>
  have hv':((ks.length:Int) != d.vars)=true:=by simp[bne,hv]
  simp[h0,h1,h0',h1',hn,hdd,Dat.cs,hv',AV.isV,hget]
  exact hF (by
   rw[zcW]
   split
   ·rw[hget]
    simp only
    rw[if_neg (by simpa using hv)]
   ·rfl) _
 | true=>
 have hv':((ks.length:Int) != d.vars)=false:=by simp[bne,hv]
 have hve:(ks.length:Int)=d.vars:=by simpa using hv
 by_cases hc0:c<0
 ·simp[h0,h1,h0',h1',hn,hdd,Dat.cs,hv',AV.isV,hget,hc0]
  exact hF (by rw[zcW,if_neg (fun h=>by have:=h.2.2;omega)]) _
 have hfe:∀ o,(match d.cons[c.toNat]? with | some k=>if (k.args.map (subst ks)).all (fun x=>decide (x.nodes≤200))=true then some (k.args.map (subst ks)) else none | none=>none)=o→zbe data (.mk 5 n ks) c=o:=fun o h=>by
  rw[zcW,if_pos ⟨rfl,h0',by omega⟩,hget]
  simp only
  rw[if_pos hve]
  exact h
 by_cases hc1:(d.cons.length:Int)≤c
 ·simp[h0,h1,h0',h1',hn,hdd,Dat.cs,hv',AV.isV,hget,hc0,hc1]
  exact hF (hfe none (by rw[List.getElem?_eq_none (by omega)])) _
 have hcn:c.toNat<d.cons.length:=by omega
 have hc1':c<d.cons.length:=by omega
 have hc0':0≤c:=by omega
 generalize hcc:d.cons[c.toNat]=co at *
 have hco:co∈d.cons:=by rw[←hcc];exact List.getElem_mem hcn
 have hgc:d.cons[c.toNat]?=some co:=by rw[List.getElem?_eq_getElem hcn,hcc]
 obtain⟨hal,han⟩:=hda d hd co hco
 have hfe':=fun o=>hfe o
 rw[hgc]at hfe'
 simp only at hfe'
 have hsub:∀ x∈co.args,(subst ks x).nodes≤1000000:=fun x hx=>by
  have h2:=zwK (M:=1000) (by omega) (fun y hy=>Nat.le_trans (zgO (k:=5) (n:=n) y hy) ht) x
  have h3:=han x hx
  have:x.nodes*1000≤1000*1000:=Nat.mul_le_mul_right _ h3
  omega
 simp[h0,h1,h0',h1',hn,hdd,Dat.cs,hv',AV.isV,hget,hc0,hc1,hc0',hc1',hcn,hcc,Con.cs,hgc]
 have hperm:∀ m,HSc (H++[.cells [.int .i64 5,.int .i64 n,.sl (VT.css ks) .none],.perm zaV 3 m]):=fun m=>hs.append rfl
 unfold zmX
 refine ALoop.own 8 zaV 3 rfl ?_
 have hlen1:(H++[AB.cells [.int .i64 5,.int .i64 n,.sl (VT.css ks) .none]]).length=H.length+1:=by simp
 rw[hlen1,List.append_assoc]
 show zmX (.ptr H.length 0) (.sl [] (.own (H.length+1))) (.sl (VT.css co.args) .none) (.int .i64 co.args.length) (.int .i64 0) (H++[.cells [.int .i64 5,.int .i64 n,.sl (VT.css ks) .none],.perm zaV 3 0]) (Out H.length K)
 refine zSC (Inv:=fun q t8 t65 H'=>∃ i:Nat,i≤co.args.length∧q=co.args.length-i∧t65=.int .i64 i∧t8=.sl (VT.css ((co.args.map (subst ks)).take i)) (.own (H.length+1))∧(∀ x∈co.args.take i,(subst ks x).nodes≤200)∧H'=H++[.cells [.int .i64 5,.int .i64 n,.sl (VT.css ks) .none],.perm zaV 3 i]) co.args.length ?_ ?_
 ·intro _;exact⟨0,by omega,by omega,rfl,by simp[VT.css],by simp,rfl⟩
 ·rintro q t8 t65 H' ⟨i,hi,rfl,rfl,rfl,hall,rfl⟩ hsc hlen hsF Kb hKb
  by_cases hlt:i<co.args.length
  ·have hmem:=List.getElem_mem hlt
   have hx3:=hsub _ hmem
   obtain⟨x,y,z,hvx,hx,hy,hz⟩:=zbt co.args[i]
   simp[zta,hlt,hvx,hx,hy,hz]
   rw[←hvx]
   refine zJs ks (fun y hy=>by have:=zgO (k:=5) (n:=n) y hy;omega) (by omega) _ co.args[i] (Nat.le_refl _) (by have:=han _ hmem;omega) _ _ ?_
   obtain⟨x',y',z',hvx',hx',hy',hz'⟩:=zbt (subst ks co.args[i])
   simp[hvx',hx',hy',hz']
   rw[←hvx']
   refine zBA _ _ (Nat.le_refl _) (by omega) _ _ ?_
   by_cases h200:(subst ks co.args[i]).nodes≤200
   ·have h200':¬ (200:Int)<(subst ks co.args[i]).nodes:=by omega
    simp[h200']
    rw[zeU]
    simp[zaw,zaK,zaG]
    refine⟨by omega,by omega,?_⟩
    rw[zat (by omega) (by omega),show min i co.args.length=i by omega]
    refine hKb _ _ ⟨co.args.length-(i+1),by omega,Back.at (H2:=H++[.cells [.int .i64 5,.int .i64 n,.sl (VT.css ks) .none],.perm zaV 3 (i+1)]) (J:=[_,_]) (by simp;exact⟨rfl,rfl⟩) (by simp) (hperm _) ?_ ⟨_,_,rfl,i+1,by omega,rfl,by simp,?_,zva hlt hall h200,rfl⟩⟩
    ·simp[zmW,AV.sc,AV.scV,AV.scA,AV.scB]
    ·rw[zgB (by simpa using hlt)];simp
   ·have h200':(200:Int)<(subst ks co.args[i]).nodes:=by omega
    simp[h200',AV.isV]
    refine hF (hfe' none ?_) _
    rw[if_neg]
    intro hal2
    have:=List.all_eq_true.1 hal2 (subst ks co.args[i]) (List.mem_map.2 ⟨_,hmem,rfl⟩)
    exact h200 (of_decide_eq_true this)
  ·obtain rfl:i=co.args.length:=by omega
   rw[List.take_length]at hall
   rw[List.take_of_length_le (by simp)]
   simp[zta,AV.isV]
   have hfs:=hfe' (some (co.args.map (subst ks))) (if_pos (List.all_eq_true.2 fun y hy=>by
    obtain⟨x,hx,rfl⟩:=List.mem_map.1 hy
    exact decide_eq_true (hall x hx)))
   rw[hfs]at hK
   exact Out.tup hs hK ⟨slV,za3 rfl rfl,trivial⟩
theorem zNb:∀ (m:Nat) (v:VT),v.nodes≤m→v.nodes≤1000000000→∀ (H:zaa) (K:AV→zaa→Prop),K (.int .i64 v.nodes) H→ACalls tP ziI [.agg v.cs] H K:=by
 intro m
 induction m with
 | zero=>intro v h;have:=v.nodes_pos;omega
 | succ m ih=>
  intro v hv hb H K hK
  obtain⟨k,n,ks⟩:=v
  have hnl:VT.nodesL ks+1≤1000000000:=by simpa[VT.nodes]using hb
  have hll:=VT.len_le ks
  refine ACalls.out (zM9 fun hs=>?_)
  simp[VT.cs,zzO]
  refine zM7 (Inv:=fun q t3 t4 H'=>∃ i:Nat,i≤ks.length∧q=ks.length-i∧t4=.int .i64 i∧t3=.int .i64 (1+VT.nodesL (ks.take i):Nat)∧H'=H++[.cells [.int .i64 k,.int .i64 n,.sl (VT.css ks) .none]]) ks.length ?_ ?_
  ·intro _;exact⟨0,by omega,by omega,rfl,by simp[VT.nodesL],rfl⟩
  ·rintro q t3 t4 H' ⟨i,hi,rfl,rfl,rfl,rfl⟩ hsc hlen hsF Kb hKb
   by_cases hlt:i<ks.length
   ·have hki:=VT.kid_lt (k:=k) (n:=n) hlt
    have h1:=VT.nodesL_take hlt
    have h2:=VT.nodesL_take_le ks (i+1)
    obtain⟨x,y,z,hvx,hx,hy,hz⟩:=zbt ks[i]
    simp[zrA,hlt,hvx,hx,hy,hz]
    rw[←hvx]
    refine ih ks[i] (by omega) (by omega) _ _ ?_
    simp
    rw[zat (by omega) (by omega),zat (by omega) (by omega),zw6]
    refine hKb _ _ ⟨ks.length-(i+1),by omega,Back.same (by simp) hsc ?_ ⟨_,_,rfl,i+1,by omega,rfl,by simp,?_,rfl⟩⟩
    ·simp[zlA,AV.sc,AV.scV,AV.scA,AV.scB]
    ·rw[h1];congr 1;omega
   ·obtain rfl:i=ks.length:=by omega
    simp[zrA]
    refine Out.int rfl (Nat.le_refl _) hs ?_
    simpa[VT.nodes,Int.add_comm]using hK
def zcB (f:VT→VT→Bool):List VT→List VT→Bool
 | [],[]=>true
 | a::x,b::y=>f a b && zcB f x y
 | _,_=>false
theorem zny {f:VT→VT→Bool}:∀ {x y:List VT},x.length≠y.length→zcB f x y=false
 | [],[],h=>(h rfl).elim
 | a::x,b::y,h=>by
  have:x.length≠y.length:=fun e=>h (by simp[e])
  simp[zcB,zny this]
 | [],_::_,_=>rfl
 | _::_,[],_=>rfl
theorem zDr (x:List VT) (hl:x.length≤1000000000) (fv:AV) (H:zaa) (K:AV→zaa→Prop) (hfv:fv.sc H.length=true) (Inv:Nat→zaa→Prop) (h0:Inv 0 H)
  (step:∀ (i:Nat) (h:i<x.length) (H':zaa),H.length≤H'.length→Inv i H'→aCallV tP fv [.agg (x[i]).cs] H' fun r H''=>(r=.bool false∧Inv (i+1) H'')∨(r=.bool true∧K (.int .i64 i) H''))
  (fin:∀ H',Inv x.length H'→K (.int .i64 (-1)) H'):ACalls tP zou [.sl (VT.css x) .none,fv] H K:=by
 refine zNY fun hs=>?_
 simp[zz2]
 refine zNW (Inv:=fun q t8 H'=>∃ i:Nat,i≤x.length∧q=x.length-i∧t8=.int .i64 i∧H.length≤H'.length∧Inv i H') x.length ?_ ?_
 ·intro _;exact⟨0,by omega,by omega,rfl,Nat.le_refl _,h0⟩
 ·rintro q t8 H' ⟨i,hi,rfl,rfl,hle,hI⟩ hsc hlen hsF Kb hKb
  by_cases hlt:i<x.length
  ·simp[zrV,hlt]
   refine (step i hlt H' hle hI).mono' fun r H'' hsc' hle' hr=>?_
   rcases hr with ⟨rfl,hI'⟩ | ⟨rfl,hk⟩
   ·simp
    rw[zat (by omega) (by omega)]
    refine hKb _ _ ⟨x.length-(i+1),by omega,Back.here (by omega) hsc' ?_ ⟨_,rfl,i+1,by omega,rfl,by simp,by omega,hI'⟩⟩
    simp[zlO,AV.sc,AV.scV,AV.scA,AV.scB]
    exact zb7 (by omega) hfv
   ·simpa using hk
  ·obtain rfl:i=x.length:=by omega
   simp[zrV]
   exact fin H' hI
theorem znq (x:List VT) (hl:x.length≤1000000000) (fv:AV) (H:zaa) (K:AV→zaa→Prop) (hfv:fv.sc H.length=true) (Inv:Nat→zaa→Prop) (h0:Inv 0 H)
  (step:∀ (i:Nat) (h:i<x.length) (H':zaa),H.length≤H'.length→Inv i H'→aCallV tP fv [.agg (x[i]).cs] H' fun r H''=>(r=.bool false∧Inv (i+1) H'')∨(r=.bool true∧K (.bool true) H''))
  (fin:∀ H',Inv x.length H'→K (.bool false) H'):ACalls tP ze8 [.sl (VT.css x) .none,fv] H K:=by
 refine zM1 fun hs=>?_
 unfold zzM
 refine zDr x hl fv H _ hfv Inv h0 (fun i h H' hle hI=>(step i h H' hle hI).mono' fun r H'' _ _ hr=>?_) (fun H' hI=>?_)
 ·rcases hr with hr | ⟨h1,h2⟩
  ·exact .inl hr
  ·refine .inr ⟨h1,?_⟩
   have:decide ((0:Int)≤i)=true:=by simp
   simpa using h2
 ·simpa using fin H' hI
theorem zCy:zd1 tP ziH=true:=by kernel_rfl
section
variable (data:List Dat) (vars:Int)
theorem zGq:∀ (l:List VT) (i:Nat) (h:i<l.length),za8 data vars l=true→zaY data vars l[i]=true:=by
 intro l
 induction l with
 | nil=>intro i h;simp at h
 | cons a l ih=>
  intro i h hl
  simp[za8]at hl
  cases i with
  | zero=>exact hl.1
  | succ i=>exact ih i (by simpa using h) hl.2
def zbF (left:Int):AB:=.cells [.sl (data.map Dat.cs) .none,.int .i64 vars,.int .i64 left]
theorem zGA:∀ (m:Nat) (v:VT),v.nodes≤m→v.nodes≤1000000000→∀ (left:Int),left≤1000000→-1≤left→∀ (H:zaa) (id:Nat),H[id]?=some (zbF data vars left)→∀ (K:AV→zaa→Prop),
  (zaY data vars v=true→(v.nodes:Int)≤left→K (.bool true) (H.set id (zbF data vars (left-v.nodes))))→(¬ (zaY data vars v=true∧(v.nodes:Int)≤left)→∀ l',K (.bool false) (H.set id (zbF data vars l'))) →
  ACalls tP zix [.ptr id 0,.agg v.cs] H K:=by
 intro m
 induction m with
 | zero=>intro v h;have:=v.nodes_pos;omega
 | succ m ih=>
  intro v hv hb left hl1 hl0 H id hid K hK hF
  obtain⟨k,n,ks⟩:=v
  have hlt:=zbj hid
  have hnn:(VT.mk k n ks).nodes=VT.nodesL ks+1:=by simp[VT.nodes]
  have hll:=VT.len_le ks
  refine ACalls.out (zK1 fun hs=>?_)
  -- the heap within: the receiver's copy and the type's
  generalize hJ:([.cells [.ptr id 0],.cells [.int .i64 k,.int .i64 n,.sl (VT.css ks) .none]]:zaa)=J
  have hJ0:J[0]?=some (.cells [.ptr id 0]):=by subst hJ;rfl
  have hJ1:J[1]?=some (.cells [.int .i64 k,.int .i64 n,.sl (VT.css ks) .none]):=by subst hJ;rfl
  have hget:∀ l',(H.set id (zbF data vars l')++J)[id]?=some (zbF data vars l'):=fun l'=>zb2 (zdj _ hid)
  have bad:(¬ (zaY data vars (.mk k n ks)=true∧((VT.mk k n ks).nodes:Int)≤left))→∀ l',Out H.length K (.bool false) (H.set id (zbF data vars l')++J):=fun h l'=>
   Out.bool rfl (by simp) (hs.set rfl) (hF h l')
  have badS:zba data vars k n ks.length=false→∀ l',Out H.length K (.bool false) (H.set id (zbF data vars l')++J):=fun h l'=>bad (fun ⟨h1,_⟩=>by simp[zaY,h]at h1) l'
  -- the arguments
  have args:zba data vars k n ks.length=true→1≤left→∀ KK:AV→zaa→Prop,(∀ H',Out H.length K (.bool true) H'→KK (.bool false) H')→(∀ H',Out H.length K (.bool false) H'→KK (.bool true) H') →
    ACalls tP ze8 [.sl (VT.css ks) .none,.fn ziH [.ptr H.length 0]] (H.set id (zbF data vars (left-1))++J) KK:=by
   intro hsh h1 KK hKf hKt
   subst hJ
   refine znq ks (by omega) _ _ _ (by simp[AV.sc,AV.scV,AV.scA,AV.scB]) (fun i H'=>(VT.nodesL (ks.take i):Int)+1≤left∧za8 data vars (ks.take i)=true∧H'=H.set id (zbF data vars (left-1-VT.nodesL (ks.take i)))++[.cells [.ptr id 0],.cells [.int .i64 k,.int .i64 n,.sl (VT.css ks) .none]]) ⟨by simp[VT.nodesL];omega,by simp[za8],by simp[VT.nodesL]⟩ ?_ ?_
   ·rintro i hi H' hle ⟨hb1,hb2,rfl⟩
    have hki:=VT.kid_lt (k:=k) (n:=n) hi
    have h1:=VT.nodesL_take hi
    have h2:=VT.nodesL_take_le ks (i+1)
    have hokL:za8 data vars (ks.take (i+1))=(za8 data vars (ks.take i) && zaY data vars ks[i]):=by
     rw[List.take_succ_eq_append_getElem hi]
     have:∀ (l:List VT) (x:VT),za8 data vars (l++[x])=(za8 data vars l && zaY data vars x):=by
      intro l x
      induction l with
      | nil=>simp[za8]
      | cons a l ih=>simp[za8,ih,Bool.and_assoc]
     exact this _ _
    simp only[aCallV,zCy,List.singleton_append]
    refine ACalls.out (zM4 fun hs1=>?_)
    have hH1:∀ l',HSc (H.set id (zbF data vars l')++[.cells [.ptr id 0],.cells [.int .i64 k,.int .i64 n,.sl (VT.css ks) .none]]):=fun l'=>(hs.set rfl).append (by simp[AB.sc,AV.scA,AV.scB];omega)
    obtain⟨x1,x2,x3,hvx,hx1,hx2,hx3⟩:=zbt ks[i]
    have hll2:(H.set id (zbF data vars (left-1-VT.nodesL (ks.take i)))).length=H.length:=by simp
    have hg1:(H.set id (zbF data vars (left-1-VT.nodesL (ks.take i)))++[AB.cells [.ptr id 0],.cells [.int .i64 k,.int .i64 n,.sl (VT.css ks) .none],.cells [x1,x2,x3]])[H.length]?=some (.cells [.ptr id 0]):=by
     rw[List.getElem?_append_right (by simp)];simp
    have hg2:(H.set id (zbF data vars (left-1-VT.nodesL (ks.take i)))++[AB.cells [.ptr id 0],.cells [.int .i64 k,.int .i64 n,.sl (VT.css ks) .none],.cells [x1,x2,x3]])[H.length+2]?=some (.cells [x1,x2,x3]):=by
     rw[List.getElem?_append_right (by simp)];simp
    simp[zzN,hvx,hg1,hg2,hll2]
    rw[←hvx]
    refine ih ks[i] (by omega) (by omega) (left-1-VT.nodesL (ks.take i)) (by omega) (by omega) _ id (zb2 (zdj _ hid)) _ ?_ ?_
    ·intro ho hle2
     rw[zdZ _ (zdj _ hid),List.set_set,show left-1-(VT.nodesL (ks.take i):Int)-(ks[i]).nodes=left-1-VT.nodesL (ks.take (i+1)) by omega]
     simp
     refine Out.bool (J:=[_]) (H2:=H.set id (zbF data vars (left-1-VT.nodesL (ks.take (i+1))))++[.cells [.ptr id 0],.cells [.int .i64 k,.int .i64 n,.sl (VT.css ks) .none]]) (by simp;rfl) (by simp) (hH1 _) (.inl ⟨rfl,by omega,by rw[hokL,hb2,ho];rfl,rfl⟩)
    ·intro ho l'
     rw[zdZ _ (zdj _ hid),List.set_set]
     simp
     have hno:¬ (zaY data vars (.mk k n ks)=true∧((VT.mk k n ks).nodes:Int)≤left):=by
      rintro⟨g1,g2⟩
      have hall:za8 data vars ks=true:=by simp[zaY]at g1;exact g1.2
      exact ho ⟨zGq data vars ks i hi hall,by omega⟩
     have hb3:=bad hno l'
     exact Out.bool (J:=[_]) (H2:=H.set id (zbF data vars l')++[.cells [.ptr id 0],.cells [.int .i64 k,.int .i64 n,.sl (VT.css ks) .none]]) (by simp;rfl) (by simp) (hH1 _) (.inr ⟨rfl,hKt _ hb3⟩)
   ·rintro H' ⟨hb1,hb2,rfl⟩
    rw[List.take_length]at *
    refine hKf _ ?_
    refine Out.bool rfl (by simp) (hs.set rfl) ?_
    have:=hK (by simp[zaY,hsh,hb2]) (by omega)
    rw[hnn]at this
    rw[show left-1-(VT.nodesL ks:Int)=left-((VT.nodesL ks+1:Nat):Int) by omega]
    exact this
  -- behind the shape
  have fin:∀ lo hi:Int,(k≠4→k≠5→n≠0→zba data vars k n ks.length=false)→((ks.length:Int)<lo∨hi<(ks.length:Int)→zba data vars k n ks.length=false)→1≤left →
    ((k=4∨k=5∨n=0)→lo≤(ks.length:Int)→(ks.length:Int)≤hi→zba data vars k n ks.length=true) →
    zgb (.ptr H.length 0) (.ptr (H.length+1) 0) (.int .i64 lo) (.int .i64 hi) (H.set id (zbF data vars (left-1))++J) (Out H.length K):=by
   intro lo hi hz hr h1 hok
   have hg3:(H.set id (zbF data vars (left-1))++J)[H.length+1]?=some (.cells [.int .i64 k,.int .i64 n,.sl (VT.css ks) .none]):=by
    rw[List.getElem?_append_right (by simp)];subst hJ;simp
   by_cases hcase:k=4∨k=5∨n=0
   ·have h3:(k != 4)=false∨((k != 4)=true∧(k != 5)=false)∨((k != 4)=true∧(k != 5)=true∧(n != 0)=false):=by
     by_cases g4:k=4
     ·left;simp[g4]
     ·by_cases g5:k=5
      ·right;left;simp[g5]
      ·right;right;simp[g4,g5];omega
    rcases h3 with g | ⟨g,g'⟩ | ⟨g,g',g''⟩
    case' inl=>simp[zgb,hg3,hJ1,g]
    case' inr.inl=>simp[zgb,hg3,hJ1,g,g']
    case' inr.inr=>simp[zgb,hg3,hJ1,g,g',g'']
    all_goals
     by_cases hlo:(ks.length:Int)<lo
     ·simp[hlo]
      exact badS (hr (.inl hlo)) _
     ·by_cases hhi:hi<(ks.length:Int)
      ·simp[hlo,hhi,hJ1]
       exact badS (hr (.inr hhi)) _
      ·simp[hlo,hhi,AV.isB,hJ1]
       refine args (hok hcase (by omega) (by omega)) h1 _ (fun H' ho=>?_) (fun H' ho=>?_) <;> simpa using ho
   ·have g:(k != 4)=true:=by simp;omega
    have g':(k != 5)=true:=by simp;omega
    have g'':(n != 0)=true:=by simp;omega
    simp[zgb,hg3,hJ1,g,g',g'']
    exact badS (hz (by omega) (by omega) (by omega)) _
  have start:(H++J)[id]?=some (zbF data vars left):=zb2 hid
  have hmain:zqW (.ptr H.length 0) (.ptr (H.length+1) 0) (H.set id (zbF data vars (left-1))++J) (Out H.length K):=by
   refine zKT fun hs1=>?_
   have hgv:=hget (left-1)
   unfold zbF at hgv
   by_cases h0:left-1<0
   ·simp[zqX,hJ0,zbF,hgv,h0]
    exact bad (fun h=>by have:=h.2;rw[hnn]at this;omega) _
   have h1:1≤left:=by omega
   simp[zqX,hJ0,hJ1,zbF,hgv,h0]
   refine zKW fun _=>?_
   have hfin:=fun lo hi a b c=>fin lo hi a b h1 c
   unfold zbF at hfin badS
   -- the three without arguments
   by_cases h123:k=1∨k=2∨k=3
   ·have hsh:zba data vars k n ks.length=(n == 0 && ks.length == 0):=by rcases h123 with rfl | rfl | rfl <;> rfl
    have:=hfin 0 0 (fun _ _ hn=>by rw[hsh];simp[hn]) (fun h=>by rw[hsh];simp;intro _;rintro rfl;simp at h) (fun h h2 h3=>by
     have hn:n=0:=by omega
     have hl:ks.length=0:=by omega
     rw[hsh,hn,hl];rfl)
    rcases h123 with rfl | rfl | rfl <;> simp[zqY] <;> refine zy9 fun _=>?_ <;> simp[zdB,zdn] <;> exact this
   have b1:(k == 1)=false:=by simp;omega
   have b2:(k == 2)=false:=by simp;omega
   have b3:(k == 3)=false:=by simp;omega
   simp[zqY,b1,b2,b3]
   refine zy9 fun _=>?_
   by_cases h4:k=4
   ·subst h4
    have hsh:zba data vars 4 n ks.length=(decide (0≤n) && decide (n<vars) && ks.length == 0):=rfl
    by_cases g1:n<0
    ·simp[zdB,hJ0,hJ1,hgv,g1]
     exact badS (by rw[hsh];simp;omega) _
    by_cases g2:vars≤n
    ·simp[zdB,hJ0,hJ1,hgv,g1,g2]
     exact badS (by rw[hsh];simp;omega) _
    have:=hfin 0 0 (fun h=>(h rfl).elim) (fun h=>by rw[hsh];simp;intro _ _;rintro rfl;simp at h) (fun h h2 h3=>by
     have hl:ks.length=0:=by omega
     rw[hsh,hl];simp;omega)
    simp[zdB,hJ0,hJ1,hgv,g1,g2,zdn]
    exact this
   have b4:(k == 4)=false:=by simp;omega
   by_cases h5:k=5
   ·subst h5
    have hsh:zba data vars 5 n ks.length=(decide (0≤n) && (match data[n.toNat]? with | some d=>(ks.length:Int) == d.vars | none=>false)):=rfl
    by_cases g1:n<0
    ·simp[zdB,hJ0,hJ1,hgv,g1]
     exact badS (by rw[hsh];simp;omega) _
    by_cases g2:(data.length:Int)≤n
    ·simp[zdB,hJ0,hJ1,hgv,g1,g2]
     exact badS (by rw[hsh,List.getElem?_eq_none (by omega)];simp) _
    have hnl:n.toNat<data.length:=by omega
    have g2':n<data.length:=by omega
    have g1':0≤n:=by omega
    rw[List.getElem?_eq_getElem hnl]at hsh
    simp only[g1',decide_true,Bool.true_and]at hsh
    have:=hfin (data[n.toNat]).vars (data[n.toNat]).vars (fun _ h=>(h rfl).elim) (fun h=>by rw[hsh];simp;omega) (fun h h2 h3=>by rw[hsh];simp;omega)
    simp[zdB,hJ0,hJ1,hgv,g1,g2,g1',g2',hnl,Dat.cs,zdn]
    exact this
   have b5:(k == 5)=false:=by simp;omega
   by_cases h6:k=6
   ·subst h6
    have hsh:zba data vars 6 n ks.length=(n == 0 && decide (2≤ks.length) && decide (ks.length≤6)):=rfl
    have:=hfin 2 6 (fun _ _ hn=>by rw[hsh];simp[hn]) (fun h=>by rw[hsh];simp;intros;omega) (fun h h2 h3=>by rw[hsh];simp;omega)
    simp[zdB,zdn]
    exact this
   have b6:(k == 6)=false:=by simp;omega
   by_cases h78:k=7∨k=8
   ·have hsh:zba data vars k n ks.length=(n == 0 && ks.length == 1):=by rcases h78 with rfl | rfl <;> rfl
    have:=hfin 1 1 (fun _ _ hn=>by rw[hsh];simp[hn]) (fun h=>by rw[hsh];simp;intros;omega) (fun h h2 h3=>by rw[hsh];simp;omega)
    rcases h78 with rfl | rfl <;> simp[zdB] <;> refine zza fun _=>?_ <;> simp[zkY,zdn] <;> exact this
   have b7:(k == 7)=false:=by simp;omega
   have b8:(k == 8)=false:=by simp;omega
   simp[zdB,b4,b5,b6,b7,b8]
   refine zza fun _=>?_
   by_cases h9:k=9
   ·subst h9
    have hsh:zba data vars 9 n ks.length=(n == 0 && decide (1≤ks.length) && decide (ks.length≤7)):=rfl
    have:=hfin 1 7 (fun _ _ hn=>by rw[hsh];simp[hn]) (fun h=>by rw[hsh];simp;intros;omega) (fun h h2 h3=>by rw[hsh];simp;omega)
    simp[zkY,zdn]
    exact this
   ·have b9:(k == 9)=false:=by simp;omega
    simp[zkY,b9]
    exact badS (by unfold zba;simp[b1,b2,b3,b4,b5,b6,b7,b8,b9]) _
  subst hJ
  unfold zbF at start
  simp[zy7,VT.cs,start]
  rw[zat (by omega) (by omega),zdZ _ hid]
  exact hmain
theorem zxY (v:VT) (hb:v.nodes≤1000000000) (H:zaa) (K:AV→zaa→Prop) (hK:K (.bool (zaZ data vars v)) H):ACalls tP zgY [.sl (data.map Dat.cs) .none,.agg v.cs,.int .i64 vars] H K:=by
 refine ACalls.out (zHV fun hs=>?_)
 have hO:∀ J,Out H.length K (.bool (zaZ data vars v)) (H++J):=fun J=>Out.bool rfl (Nat.le_refl _) hs hK
 obtain⟨x1,x2,x3,hvx,hx1,hx2,hx3⟩:=zbt v
 simp[zxX,hvx,zas,zaH]
 rw[←hvx]
 refine zGA data vars _ v (Nat.le_refl _) hb 200 (by omega) (by omega) _ (H.length+1) (by simp[zbF]) _ ?_ ?_
 ·intro ho hn
  have:zaZ data vars v=true:=by simp[zaZ,ho];omega
  rw[this]at hO
  simp
  exact hO _
 ·intro hno l'
  have:zaZ data vars v=false:=by
   cases h:zaZ data vars v with
   | false=>rfl
   | true=>simp[zaZ]at h;exact (hno ⟨h.2,by omega⟩).elim
  rw[this]at hO
  simp
  exact hO _
end
mutual
theorem zwL:∀ v:VT,subst [] v=v
 | .mk k n ks=>by
  rw[subst,if_neg (by rintro⟨_,h1,h2⟩;simp at h2;omega),zwJ ks]
theorem zwJ:∀ l:List VT,zaL [] l=l
 | []=>rfl
 | t::ts=>by rw[zaL,zwL t,zwJ ts]
end
theorem zNp:∀ (m:Nat) (args:List VT),(∀ x∈args,x.nodes≤1000000)→args.length≤1000000→∀ (v:VT),(if args=[] then v.nodes else v.nodes+1000001)≤m→v.nodes≤1000000→∀ (H:zaa) (K:AV→zaa→Prop),K (.agg (subst args v).cs) H→ACalls tP zg3 [.agg v.cs,.sl (VT.css args) .none] H K:=by
 intro m
 induction m with
 | zero=>intro args _ _ v h;have:=v.nodes_pos;split at h <;> omega
 | succ m ih=>
  intro args ha hal v hv hb H K hK
  obtain⟨k,n,ks⟩:=v
  have hnl:VT.nodesL ks+1≤1000000:=by simpa[VT.nodes]using hb
  have hll:=VT.len_le ks
  refine ACalls.out (zNn fun hs=>?_)
  by_cases hvar:k=4∧0≤n∧n<args.length
  ·obtain⟨rfl,h0,h1⟩:=hvar
   have hn:n.toNat<args.length:=by omega
   have hne:args≠[]:=by rintro rfl;simp at hn
   have hK':K (.agg (args[n.toNat]).cs) H:=by
    rw[subst,if_pos ⟨rfl,h0,h1⟩,List.getElem?_eq_getElem hn]at hK
    exact hK
   have hle:=ha _ (List.getElem_mem hn)
   simp[VT.cs,zrI,h0,h1,hn]
   rw[if_neg hne]at hv
   refine ACalls.wk (args':=[.agg (args[n.toNat]).cs,.sl (VT.css []) .none]) ?_ ⟨.rfl',.atom .snil,trivial⟩
   refine ih [] (by simp) (by simp) _ (by simp;omega) hle _ _ ?_
   rw[zwL]
   generalize args[n.toNat]=x at *
   obtain⟨k',n',ks'⟩:=x
   simp[VT.cs]
   exact Out.at rfl (Nat.le_refl _) hs .rfl' rfl rfl hK'
  ·have hK':K (.agg (VT.mk k n (zaL args ks)).cs) H:=by
    rw[subst,if_neg hvar]at hK
    exact hK
   have go:∀ H1,H1=H++[.cells [.int .i64 k,.int .i64 n,.sl (VT.css ks) .none],.cells [.int .i64 0,.int .i64 0,.snil],.cells [.int .i64 k,.int .i64 n,.snil]]→zhM (.sl (VT.css args) .none) (.ptr (H.length+1) 0) (.ptr (H.length+2) 0) (.sl (VT.css ks) .none) (.int .i64 ks.length) (.int .i64 0) H1 (Out H.length K):=by
    rintro _ rfl
    unfold zhM
    refine ALoop.ownC (cs:=[.int .i64 k,.int .i64 n,.snil]) (H.length+2) 2 zaV 3 (by simp) rfl ?_
    have e0:(H++[AB.cells [.int .i64 k,.int .i64 n,.sl (VT.css ks) .none],.cells [.int .i64 0,.int .i64 0,.snil],.cells [.int .i64 k,.int .i64 n,.snil]]).length=H.length+3:=by simp
    rw[e0,zwq,List.append_assoc]
    have hJ:∀ i X,HSc (H++[.cells [.int .i64 k,.int .i64 n,.sl (VT.css ks) .none],.cells [.int .i64 0,.int .i64 0,.snil],.cells [.int .i64 k,.int .i64 n,.sl X (.own (H.length+3))],.perm zaV 3 i]):=fun i X=>hs.append (by simp[AB.sc,AV.scA,AV.scB])
    show zhM (.sl (VT.css args) .none) (.ptr (H.length+1) 0) (.ptr (H.length+2) 0) (.sl (VT.css ks) .none) (.int .i64 ks.length) (.int .i64 0) (H++[.cells [.int .i64 k,.int .i64 n,.sl (VT.css ks) .none],.cells [.int .i64 0,.int .i64 0,.snil],.cells [.int .i64 k,.int .i64 n,.sl [] (.own (H.length+3))],.perm zaV 3 0]) (Out H.length K)
    refine zNl (Inv:=fun q t37 H'=>∃ i:Nat,i≤ks.length∧q=ks.length-i∧t37=.int .i64 i∧H'=H++[.cells [.int .i64 k,.int .i64 n,.sl (VT.css ks) .none],.cells [.int .i64 0,.int .i64 0,.snil],.cells [.int .i64 k,.int .i64 n,.sl (VT.css ((zaL args ks).take i)) (.own (H.length+3))],.perm zaV 3 i]) ks.length ?_ ?_
    ·intro _;exact⟨0,by omega,by omega,rfl,by simp[VT.css]⟩
    ·rintro q t37 H' ⟨i,hi,rfl,rfl,rfl⟩ hsc hlen hsF Kb hKb
     by_cases hlt:i<ks.length
     ·have hki:=VT.kid_lt (k:=k) (n:=n) hlt
      have hsl:(zaL args ks).length=ks.length:=by rw[zeg];simp
      have hlt':i<(zaL args ks).length:=by omega
      have hsi:(zaL args ks)[i]=subst args ks[i]:=by simp[zeg]
      obtain⟨x1,x2,x3,hvx,hx1,hx2,hx3⟩:=zbt ks[i]
      simp[zrJ,hlt,hvx,hx1,hx2,hx3]
      rw[←hvx]
      refine zaE (.agg (subst args ks[i]).cs) (fun J=>ih args ha hal ks[i] (by by_cases he:args=[] <;> simp only[he,if_true,if_false]at hv ⊢ <;> omega) (by omega) _ _ ⟨rfl,rfl⟩) ?_
      rw[zeU,←hsi]
      simp[zaw,zaK,zaG,hsl]
      refine⟨by omega,⟨by omega,by omega⟩,?_⟩
      rw[zat (by omega) (by omega),show min i ks.length=i by omega]
      refine hKb _ _ ⟨ks.length-(i+1),by omega,Back.at (J:=[_]) (H2:=H++[.cells [.int .i64 k,.int .i64 n,.sl (VT.css ks) .none],.cells [.int .i64 0,.int .i64 0,.snil],.cells [.int .i64 k,.int .i64 n,.sl (VT.css ((zaL args ks).take (i+1))) (.own (H.length+3))],.perm zaV 3 (i+1)]) (by rw[zgB hlt'];simp;rfl) (by simp) (hJ _ _) ?_ ⟨_,rfl,i+1,by omega,rfl,by simp,rfl⟩⟩
      simp[zlF,AV.sc,AV.scV,AV.scA,AV.scB]
     ·obtain rfl:i=ks.length:=by omega
      have e:(zaL args ks).take ks.length=zaL args ks:=List.take_of_length_le (by rw[zeg];simp)
      rw[e]
      simp[zrJ]
      exact Out.at rfl (Nat.le_refl _) hs (WkV.agg (ds:=[.int .i64 k,.int .i64 n,.sl (VT.css (zaL args ks)) .none]) ⟨.refl _,.refl _,.sl _ _,trivial⟩) rfl (by simp[AV.scV,AV.scA,AV.scB]) (by simpa[VT.cs]using hK')
   simp only[VT.cs,zrI]
   by_cases h4:k=4
   ·subst h4
    by_cases h0:0≤n
    ·have h1:¬ n<args.length:=fun h=>hvar ⟨rfl,h0,h⟩
     simp[h0,h1,zas,zaH,Nat.add_assoc]
     exact go _ rfl
    ·simp[h0,zas,zaH,Nat.add_assoc]
     exact go _ rfl
   ·have h4':(k == 4)=false:=by simpa using h4
    simp[h4',zas,zaH,Nat.add_assoc]
    exact go _ rfl
def zjr (args:List VT):AB:=.cells (args.map fun x=>.int .i64 x.nodes)
theorem zNi (args:List VT) (ha:∀ x∈args,x.nodes≤1000000) (hal:args.length≤1000000):∀ (m:Nat) (v:VT),v.nodes≤m→v.nodes≤1000000→∀ (H:zaa) (id:Nat),H[id]?=some (zjr args)→∀ (K:AV→zaa→Prop),
  (∀ r:Nat,(r≤200↔(subst args v).nodes≤200)→(r≤200→r=(subst args v).nodes)→r≤1000000+200*v.nodes→K (.int .i64 r) H)→ACalls tP ziJ [.agg v.cs,.ms id 0 args.length args.length] H K:=by
 intro m
 induction m with
 | zero=>intro v h;have:=v.nodes_pos;omega
 | succ m ih=>
  intro v hv hb H id hid K hK
  obtain⟨k,n,ks⟩:=v
  have hnl:VT.nodesL ks+1≤1000000:=by simpa[VT.nodes]using hb
  have hll:=VT.len_le ks
  have hidl:=zbj hid
  refine ACalls.out (zNg fun hs=>?_)
  by_cases hvar:k=4∧0≤n∧n<args.length
  ·obtain⟨rfl,h0,h1⟩:=hvar
   have hn:n.toNat<args.length:=by omega
   have hsub:subst args (.mk 4 n ks)=args[n.toNat]:=by rw[subst,if_pos ⟨rfl,h0,h1⟩,List.getElem?_eq_getElem hn];rfl
   rw[hsub]at hK
   have hg:(H++[AB.cells [.int .i64 4,.int .i64 n,.sl (VT.css ks) .none]])[id]?=some (zjr args):=zb2 hid
   have hle:=ha _ (List.getElem_mem hn)
   unfold zjr at hg
   simp[VT.cs,zrD,h0,h1,hn,hg,zbg]
   exact Out.int rfl (Nat.le_refl _) hs (hK _ Iff.rfl (fun _=>rfl) (by omega))
  ·have hsub:subst args (.mk k n ks)=.mk k n (zaL args ks):=by rw[subst,if_neg hvar]
   have hnodes:(subst args (.mk k n ks)).nodes=VT.nodesL (zaL args ks)+1:=by rw[hsub];rfl
   rw[hnodes]at hK
   have hO:∀ r:Nat,(r≤200↔VT.nodesL (zaL args ks)+1≤200)→(r≤200→r=VT.nodesL (zaL args ks)+1)→r≤1000000+200*(VT.mk k n ks).nodes→∀ J,Out H.length K (.int .i64 r) (H++J):=fun r h1 h2 h3 J=>Out.int rfl (Nat.le_refl _) hs (hK r h1 h2 h3)
   have hsl:(zaL args ks).length=ks.length:=by rw[zeg];simp
   have go:zrH (.ms id 0 args.length args.length) (.int .i64 1) (.sl (VT.css ks) .none) (.int .i64 ks.length) (.int .i64 0) (H++[.cells [.int .i64 k,.int .i64 n,.sl (VT.css ks) .none]]) (Out H.length K):=by
    refine zNe (Inv:=fun q t5 t31 H'=>∃ i:Nat,i≤ks.length∧q=ks.length-i∧t31=.int .i64 i∧t5=.int .i64 (1+VT.nodesL ((zaL args ks).take i):Nat)∧1+VT.nodesL ((zaL args ks).take i)≤200∧H'=H++[.cells [.int .i64 k,.int .i64 n,.sl (VT.css ks) .none]]) ks.length ?_ ?_
    ·intro _;exact⟨0,by omega,by omega,rfl,by simp[VT.nodesL],by simp[VT.nodesL],rfl⟩
    ·rintro q t5 t31 H' ⟨i,hi,rfl,rfl,rfl,hb2,rfl⟩ hsc hlen hsF Kb hKb
     by_cases hlt:i<ks.length
     ·have hki:=VT.kid_lt (k:=k) (n:=n) hlt
      have hlt':i<(zaL args ks).length:=by omega
      have hsi:(zaL args ks)[i]=subst args ks[i]:=by simp[zeg]
      have h1:=VT.nodesL_take hlt'
      have h2:=VT.nodesL_take_le (zaL args ks) (i+1)
      rw[hsi]at h1
      obtain⟨x1,x2,x3,hvx,hx1,hx2,hx3⟩:=zbt ks[i]
      simp[zrE,hlt,hvx,hx1,hx2,hx3]
      rw[←hvx]
      refine ih ks[i] (by omega) (by omega) _ id (zb2 hid) _ fun r hr1 hr2 hr3=>?_
      simp
      rw[zat (by omega) (by omega)]
      by_cases hbig:(200:Int)<1+VT.nodesL ((zaL args ks).take i)+r
      ·simp[hbig,zlD,zrG]
       have:=hO (1+VT.nodesL ((zaL args ks).take i)+r) (by constructor <;> intro h <;> omega) (by omega) (by omega)
       have e:((1+VT.nodesL ((zaL args ks).take i)+r:Nat):Int)=1+(VT.nodesL ((zaL args ks).take i):Int)+r:=by omega
       rw[e]at this
       exact this _
      ·have hr:r=(subst args ks[i]).nodes:=hr2 (by omega)
       simp[hbig]
       rw[zat (by omega) (by omega),zw6]
       refine hKb _ _ ⟨ks.length-(i+1),by omega,Back.same (by simp) hsc ?_ ⟨_,_,rfl,i+1,by omega,rfl,by simp,?_,by omega,rfl⟩⟩
       ·simp[zlC,AV.sc,AV.scV,AV.scA,AV.scB];omega
       ·congr 1;omega
     ·obtain rfl:i=ks.length:=by omega
      rw[List.take_of_length_le (by omega)]at *
      simp[zrE,zlD,zrG]
      have:=hO (1+VT.nodesL (zaL args ks)) (by omega) (by omega) (by omega)
      have e:((1+VT.nodesL (zaL args ks):Nat):Int)=1+(VT.nodesL (zaL args ks):Int):=by omega
      rw[e]at this
      exact this _
   simp only[VT.cs,zrD]
   by_cases h4:k=4
   ·subst h4
    by_cases h0:0≤n
    ·have h1:¬ n<args.length:=fun h=>hvar ⟨rfl,h0,h⟩
     simp[h0,h1]
     exact go
    ·simp[h0]
     exact go
   ·have h4':(k == 4)=false:=by simpa using h4
    simp[h4']
    exact go
def zcP (args:List VT) (i:Nat):List AV:=(args.take i).map (fun x=>.int .i64 x.nodes)++List.replicate (args.length-i) (.int .i64 0)
theorem zFb (args:List VT) {i:Nat} (h:i≤args.length):(zcP args i).length=args.length:=by simp[zcP];omega
theorem zFc (args:List VT) {i:Nat} (h:i<args.length):(zcP args i).take i++[.int .i64 (args[i]).nodes]++(zcP args i).drop (i+1)=zcP args (i+1):=by
 have e1:((args.take i).map fun x=>AV.int .i64 x.nodes).length=i:=by simp;omega
 unfold zcP
 rw[List.take_append_of_le_length (by omega),List.take_of_length_le (by omega),List.drop_append,List.drop_of_length_le (by omega),List.nil_append,e1,List.take_succ_eq_append_getElem h,List.map_append]
 congr 1
 rw[show i+1-i=1 by omega,List.drop_replicate]
 congr 1
theorem zze (data:List Dat) (hdl:data.length≤1000000) (hda:∀ d∈data,∀ c∈d.cons,c.args.length≤1000∧∀ x∈c.args,x.nodes≤1000) (hdc:∀ d∈data,d.cons.length≤1000000) (t:VT) (ht:t.nodes≤1000) (c:Int) (H:zaa) (K:AV→zaa→Prop) (hK:K (zcr (zbe data t c)) H) :
  ACalls tP ziy [.sl (data.map Dat.cs) .none,.agg t.cs,.int .i64 c] H K:=by
 refine ACalls.out (zLe fun hs=>?_)
 obtain⟨k,n,ks⟩:=t
 have hkn:VT.nodesL ks+1≤1000:=by simpa[VT.nodes]using ht
 have hkl:=VT.len_le ks
 have hF:zbe data (.mk k n ks) c=none→∀ J,Out H.length K (.tup [.snil,.bool false]) (H++J):=fun h J=>by
  rw[h]at hK
  exact Out.tup hs hK ⟨zdy,za3 rfl rfl,trivial⟩
 simp only[VT.cs,zzb]
 by_cases h5:k=5
 case neg=>
  have:(k != 5)=true:=by simpa using h5
  simp[this,AV.isV]
  exact hF (by rw[zcW,if_neg (fun h=>h5 h.1)]) _
 subst h5
 by_cases h0:n<0
 ·simp[h0,AV.isV]
  exact hF (by rw[zcW,if_neg (fun h=>by have:=h.2.1;omega)]) _
 by_cases h1:(data.length:Int)≤n
 ·simp[h0,h1,AV.isV]
  exact hF (by
   rw[zcW]
   split
   ·rw[List.getElem?_eq_none (by omega)]
   ·rfl) _
 have hn:n.toNat<data.length:=by omega
 have h1':n<data.length:=by omega
 have h0':0≤n:=by omega
 generalize hdd:data[n.toNat]=d at *
 have hd:d∈data:=by rw[←hdd];exact List.getElem_mem hn
 have hget:data[n.toNat]?=some d:=by rw[List.getElem?_eq_getElem hn,hdd]
 cases hv:((ks.length:Int) == d.vars) with
 | false=>
  have hv':((ks.length:Int) != d.vars)=true:=by simp[bne,hv]
  simp[h0,h1,h0',h1',hn,hdd,Dat.cs,hv',AV.isV,hget]
  exact hF (by
   rw[zcW]
   split
   ·rw[hget]
    simp only
    rw[if_neg (by simpa using hv)]
   ·rfl) _
 | true=>
 have hv':((ks.length:Int) != d.vars)=false:=by simp[bne,hv]
 have hve:(ks.length:Int)=d.vars:=by simpa using hv
 by_cases hc0:c<0
 ·simp[h0,h1,h0',h1',hn,hdd,Dat.cs,hv',AV.isV,hget,hc0]
  exact hF (by rw[zcW,if_neg (fun h=>by have:=h.2.2;omega)]) _
 have hfe:∀ o,(match d.cons[c.toNat]? with | some k=>if (k.args.map (subst ks)).all (fun x=>decide (x.nodes≤200))=true then some (k.args.map (subst ks)) else none | none=>none)=o→zbe data (.mk 5 n ks) c=o:=fun o h=>by
  rw[zcW,if_pos ⟨rfl,h0',by omega⟩,hget]
  simp only
  rw[if_pos hve]
  exact h
 by_cases hc1:(d.cons.length:Int)≤c
 ·simp[h0,h1,h0',h1',hn,hdd,Dat.cs,hv',AV.isV,hget,hc0,hc1]
  exact hF (hfe none (by rw[List.getElem?_eq_none (by omega)])) _
 have hcn:c.toNat<d.cons.length:=by omega
 have hc1':c<d.cons.length:=by omega
 have hc0':0≤c:=by omega
 generalize hcc:d.cons[c.toNat]=co at *
 have hco:co∈d.cons:=by rw[←hcc];exact List.getElem_mem hcn
 have hgc:d.cons[c.toNat]?=some co:=by rw[List.getElem?_eq_getElem hcn,hcc]
 obtain⟨hal,han⟩:=hda d hd co hco
 have hfe':=fun o=>hfe o
 rw[hgc]at hfe'
 simp only at hfe'
 have hkle:∀ x∈ks,x.nodes≤1000:=fun y hy=>Nat.le_trans (zgO (k:=5) (n:=n) y hy) ht
 simp[h0,h1,h0',h1',hn,hdd,Dat.cs,hv',AV.isV,hget,hc0,hc1,hc0',hc1',hcn,hcc,zbh]
 refine⟨by omega,?_⟩
 have ez:List.replicate ks.length (AV.int .i64 0)=zcP ks 0:=by simp[zcP]
 rw[ez]
 have hsc3:∀ (l:List AV),(l.all fun a=>a.scA (H.length+3))=true→HSc (H++[.cells [.int .i64 5,.int .i64 n,.sl (VT.css ks) .none],.cells [.str d.name,.int .i64 d.vars,.sl (d.cons.map Con.cs) .none],.cells l]):=fun l hl=>hs.append (by simp[AB.sc];simpa using hl)
 have hszsc:∀ i,((zcP ks i).all fun a=>a.scA (H.length+3))=true:=fun i=>by
  rw[List.all_eq_true]
  intro x hx
  unfold zcP at hx
  rcases List.mem_append.1 hx with h | h
  ·obtain⟨y,_,rfl⟩:=List.mem_map.1 h;rfl
  ·rw[List.eq_of_mem_replicate h];rfl
 refine zLa (Inv:=fun q t61 H'=>∃ i:Nat,i≤ks.length∧q=ks.length-i∧t61=.int .i64 i∧H'=H++[.cells [.int .i64 5,.int .i64 n,.sl (VT.css ks) .none],.cells [.str d.name,.int .i64 d.vars,.sl (d.cons.map Con.cs) .none],.cells (zcP ks i)]) ks.length ?_ ?_
 ·intro _;exact⟨0,by omega,by omega,rfl,rfl⟩
 ·rintro q t61 H' ⟨i,hi,rfl,rfl,rfl⟩ hsc8 hlen8 hsF8 Kb8 hKb8
  by_cases hlt:i<ks.length
  ·have hle:=hkle _ (List.getElem_mem hlt)
   obtain⟨x1,x2,x3,hvx,hx1,hx2,hx3⟩:=zbt ks[i]
   simp[zq2,hlt,hvx,hx1,hx2,hx3]
   rw[←hvx]
   refine zNb _ _ (Nat.le_refl _) (by omega) _ _ ?_
   have hll:=zFb ks hi
   simp[hlt,hll]
   refine⟨by omega,?_⟩
   rw[zat (by omega) (by omega)]
   have e:=zFc ks hlt
   rw[List.append_assoc,List.singleton_append]at e
   rw[e]
   refine hKb8 _ _ ⟨ks.length-(i+1),by omega,Back.at (J:=[_]) (H2:=H++[.cells [.int .i64 5,.int .i64 n,.sl (VT.css ks) .none],.cells [.str d.name,.int .i64 d.vars,.sl (d.cons.map Con.cs) .none],.cells (zcP ks (i+1))]) (by simp;rfl) (by simp) (hsc3 _ (hszsc _)) ?_ ⟨_,rfl,i+1,by omega,rfl,by simp,rfl⟩⟩
   simp[zk2,AV.sc,AV.scV,AV.scA,AV.scB]
  ·obtain rfl:i=ks.length:=by omega
   have efull:zcP ks ks.length=ks.map fun x=>.int .i64 x.nodes:=by simp[zcP]
   have hsc8':=hsc8
   rw[efull]at hsc8' ⊢
   simp[zq2,hc0',hc1',hcn,hcc,Con.cs,hgc]
   refine zK8 (Inv:=fun q t79 H'=>∃ i:Nat,i≤co.args.length∧q=co.args.length-i∧t79=.int .i64 i∧(∀ x∈co.args.take i,(subst ks x).nodes≤200)∧H'=H++[.cells [.int .i64 5,.int .i64 n,.sl (VT.css ks) .none],.cells [.str d.name,.int .i64 d.vars,.sl (d.cons.map Con.cs) .none],.cells (ks.map fun x=>.int .i64 x.nodes)]) co.args.length ?_ ?_
   ·intro _;exact⟨0,by omega,by omega,rfl,by simp,rfl⟩
   ·rintro q t79 H' ⟨i,hi,rfl,rfl,hall,rfl⟩ hsc13 hlen13 hsF13 Kb13 hKb13
    by_cases hlt:i<co.args.length
    ·have hmem:=List.getElem_mem hlt
     obtain⟨x1,x2,x3,hvx,hx1,hx2,hx3⟩:=zbt co.args[i]
     simp[zq0,hlt,hvx,hx1,hx2,hx3]
     rw[←hvx]
     refine zNi ks (fun y hy=>by have:=hkle y hy;omega) (by omega) _ co.args[i] (Nat.le_refl _) (by have:=han _ hmem;omega) _ (H.length+2) (by simp[zjr]) _ fun r hr1 hr2 hr3=>?_
     by_cases hbig:r≤200
     ·have hbig':¬ (200:Int)<r:=by omega
      simp[hbig']
      rw[zat (by omega) (by omega)]
      refine hKb13 _ _ ⟨co.args.length-(i+1),by omega,Back.at (J:=[_]) (H2:=H++[.cells [.int .i64 5,.int .i64 n,.sl (VT.css ks) .none],.cells [.str d.name,.int .i64 d.vars,.sl (d.cons.map Con.cs) .none],.cells (ks.map fun x=>.int .i64 x.nodes)]) (by simp;rfl) (by simp) hsc8' ?_ ⟨_,rfl,i+1,by omega,rfl,by simp,zva hlt hall (hr1.1 hbig),rfl⟩⟩
      simp[zk0,AV.sc,AV.scV,AV.scA,AV.scB]
     ·have hbig':(200:Int)<r:=by omega
      simp[hbig',AV.isV]
      refine hF (hfe' none ?_) _
      rw[if_neg]
      intro hal2
      have:=List.all_eq_true.1 hal2 (subst ks co.args[i]) (List.mem_map.2 ⟨_,hmem,rfl⟩)
      exact hbig (hr1.2 (of_decide_eq_true this))
    ·obtain rfl:i=co.args.length:=by omega
     rw[List.take_length]at hall
     have hfs:=hfe' (some (co.args.map (subst ks))) (if_pos (List.all_eq_true.2 fun y hy=>by
      obtain⟨x,hx,rfl⟩:=List.mem_map.1 hy
      exact decide_eq_true (hall x hx)))
     rw[hfs]at hK
     simp[zq0,hc0',hc1',hcn,hcc,Con.cs,hgc]
     unfold zk3
     refine ALoop.own 14 zaV 3 rfl ?_
     have hlen1:(H++[AB.cells [.int .i64 5,.int .i64 n,.sl (VT.css ks) .none],.cells [.str d.name,.int .i64 d.vars,.sl (d.cons.map Con.cs) .none],.cells (ks.map fun x=>.int .i64 x.nodes)]).length=H.length+3:=by simp
     rw[hlen1]
     have hperm:∀ m,HSc (H++[.cells [.int .i64 5,.int .i64 n,.sl (VT.css ks) .none],.cells [.str d.name,.int .i64 d.vars,.sl (d.cons.map Con.cs) .none],.cells (ks.map fun x=>.int .i64 x.nodes),.perm zaV 3 m]):=fun m=>by have:=hsc8'.append (J:=[.perm zaV 3 m]) rfl;simpa using this
     rw[List.append_assoc]
     show zk3 (.ptr H.length 0) (.sl [] (.own (H.length+3))) (.sl (VT.css co.args) .none) (.int .i64 co.args.length) (.int .i64 0) (H++[.cells [.int .i64 5,.int .i64 n,.sl (VT.css ks) .none],.cells [.str d.name,.int .i64 d.vars,.sl (d.cons.map Con.cs) .none],.cells (ks.map fun x=>.int .i64 x.nodes),.perm zaV 3 0]) (Out H.length K)
     refine zK9 (Inv:=fun q t14 t95 H'=>∃ i:Nat,i≤co.args.length∧q=co.args.length-i∧t95=.int .i64 i∧t14=.sl (VT.css ((co.args.map (subst ks)).take i)) (.own (H.length+3))∧H'=H++[.cells [.int .i64 5,.int .i64 n,.sl (VT.css ks) .none],.cells [.str d.name,.int .i64 d.vars,.sl (d.cons.map Con.cs) .none],.cells (ks.map fun x=>.int .i64 x.nodes),.perm zaV 3 i]) co.args.length ?_ ?_
     ·intro _;exact⟨0,by omega,by omega,rfl,by simp[VT.css],rfl⟩
     ·rintro q t14 t95 H' ⟨i,hi,rfl,rfl,rfl,rfl⟩ hsc20 hlen20 hsF20 Kb20 hKb20
      by_cases hlt:i<co.args.length
      ·have hmem:=List.getElem_mem hlt
       obtain⟨x1,x2,x3,hvx,hx1,hx2,hx3⟩:=zbt co.args[i]
       simp[zq1,hlt,hvx,hx1,hx2,hx3]
       rw[←hvx]
       refine zNp _ ks (fun y hy=>by have:=hkle y hy;omega) (by omega) co.args[i] (Nat.le_refl _) (by have:=han _ hmem;omega) _ _ ?_
       rw[zeU]
       simp[zaw,zaK,zaG]
       refine⟨by omega,⟨by omega,by omega⟩,?_⟩
       rw[zat (by omega) (by omega),show min i co.args.length=i by omega]
       refine hKb20 _ _ ⟨co.args.length-(i+1),by omega,Back.at (H2:=H++[.cells [.int .i64 5,.int .i64 n,.sl (VT.css ks) .none],.cells [.str d.name,.int .i64 d.vars,.sl (d.cons.map Con.cs) .none],.cells (ks.map fun x=>.int .i64 x.nodes),.perm zaV 3 (i+1)]) (J:=[_]) (by simp;rfl) (by simp) (hperm _) ?_ ⟨_,_,rfl,i+1,by omega,rfl,by simp,?_,rfl⟩⟩
       ·simp[zk1,AV.sc,AV.scV,AV.scA,AV.scB]
       ·rw[zgB (by simpa using hlt)];simp
      ·obtain rfl:i=co.args.length:=by omega
       rw[List.take_of_length_le (by simp)]
       simp[zq1,AV.isV]
       exact Out.tup hs hK ⟨slV,za3 rfl rfl,trivial⟩
end Go.Proofs.YtdmamdnkcefmmaaGreatDoor
