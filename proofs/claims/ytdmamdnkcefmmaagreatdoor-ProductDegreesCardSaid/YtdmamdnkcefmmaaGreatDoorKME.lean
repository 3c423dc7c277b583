import Derived.Test.YtdmamdnkcefmmaaGreatDoorKI7
import Derived.Test.YtdmamdnkcefmmaaGreatDoorKUA
import Derived.Test.YtdmamdnkcefmmaaGreatDoorIT
import Derived.Test.YtdmamdnkcefmmaaGreatDoorKY11
import Derived.Test.YtdmamdnkcefmmaaGreatDoorAbsQ1
import Derived.Test.YtdmamdnkcefmmaaGreatDoorKNum
import Derived.Shelf.SlSortCmp.NoneTotal
import Derived.Test.YtdmamdnkcefmmaaGreatDoorProg
import Derived.KernelRfl
import Derived.Test.YtdmamdnkcefmmaaGreatDoorKV3
set_option linter.unusedSimpArgs false
set_option linter.unusedVariables false
set_option maxRecDepth 8000
namespace Go.Proofs.YtdmamdnkcefmmaaGreatDoor
open Go Go.Abs
theorem zPc:∀ (m:Nat) (v:IT),v.nodes≤m→∀ (left:Int),left≤1000000→-1≤left→∀ (H:zaa) (id:Nat),H[id]?=some (.cells [.int .i64 left])→∀ (K:AV→zaa→Prop),
  ((v.nodes:Int)≤left→K (.bool true) (H.set id (.cells [.int .i64 (left-v.nodes)])))→(¬ (v.nodes:Int)≤left→∀ l',K (.bool false) (H.set id (.cells [.int .i64 l']))) →
  ACalls tP ziP [.agg v.cs,.ptr id 0] H K:=by
 intro m
 induction m with
 | zero=>intro v h;have:=v.nodes_pos;omega
 | succ m ih=>
  intro v hv left hl1 hl0 H id hid K hK hF
  obtain⟨n,ks⟩:=v
  have hlt:=zbj hid
  have hnn:(IT.mk n ks).nodes=IT.nodesL ks+1:=by simp[IT.nodes]
  refine ACalls.out (zPa fun hs=>?_)
  have hget:(H++[AB.cells [.int .i64 n,.sl (IT.css ks) .none]])[id]?=some (.cells [.int .i64 left]):=zb2 hid
  have bad:(¬ ((IT.mk n ks).nodes:Int)≤left)→∀ l' H',H'=H.set id (.cells [.int .i64 l'])++[.cells [.int .i64 n,.sl (IT.css ks) .none]]→Out H.length K (.bool false) H':=by
   intro h l' H' he
   exact Out.bool he (by simp) (hs.set rfl) (hF h l')
  simp[zAq,IT.cs,hget,AV.known]
  rw[zat (by omega) (by omega),zdZ _ hid,zb2 (zdj _ hid)]
  by_cases h0:left-1<0
  ·simp[h0]
   exact bad (by omega) _ _ rfl
  ·simp[h0]
   refine zO8 (Inv:=fun q t5 H'=>∃ i:Nat,i≤ks.length∧q=ks.length-i∧t5=.int .i64 i∧((IT.nodesL (ks.take i):Int)+1≤left)∧H'=H.set id (.cells [.int .i64 (left-1-IT.nodesL (ks.take i))])++[.cells [.int .i64 n,.sl (IT.css ks) .none]]) ks.length ?_ ?_
   ·intro _;exact⟨0,by omega,by omega,rfl,by simp[IT.nodesL];omega,by simp[IT.nodesL]⟩
   ·rintro q t5 H' ⟨i,hi,rfl,rfl,hb,rfl⟩ hsc hlen hsF Kb hKb
    by_cases hil:i<ks.length
    ·have hki:=IT.kid_lt (n:=n) hil
     have h1:=IT.nodesL_take hil
     have h2:=IT.nodesL_take_le ks (i+1)
     have hll:=IT.len_le (ks.take i)
     simp only[List.length_take]at hll
     have hge:(H.set id (.cells [.int .i64 (left-1-IT.nodesL (ks.take i))])++[AB.cells [.int .i64 n,.sl (IT.css ks) .none]])[id]?=some (.cells [.int .i64 (left-1-IT.nodesL (ks.take i))]):=zb2 (zdj _ hid)
     simp[zsa,hil]
     refine ih ks[i] (by omega) (left-1-IT.nodesL (ks.take i)) (by omega) (by omega) _ id hge _ ?_ ?_
     ·intro hle
      rw[zdZ _ (zdj _ hid),List.set_set]
      simp
      rw[zat (by omega) (by omega)]
      refine hKb _ _ ⟨ks.length-(i+1),by omega,Back.here (by simp) ((hs.set rfl).snoc rfl) ?_ ⟨_,rfl,i+1,by omega,rfl,by simp,by omega,?_⟩⟩
      ·simp[zlY,AV.sc,AV.scV,AV.scA,AV.scB];omega
      ·rw[h1];congr 5;omega
     ·intro hle l'
      rw[zdZ _ (zdj _ hid),List.set_set]
      simp
      exact bad (by omega) _ _ rfl
    ·obtain rfl:i=ks.length:=by omega
     rw[List.take_length]at hb ⊢
     simp[zsa]
     refine Out.bool rfl (by simp) (hs.set rfl) ?_
     have:=hK (by omega)
     rw[hnn]at this
     rw[show left-1-(IT.nodesL ks:Int)=left-((IT.nodesL ks+1:Nat):Int) by omega]
     exact this
theorem zBE (v:IT) (H:zaa) (K:Kt) (hK:∀ b,(b=true→v.nodes≤40)→K (.bool b) H):ACalls tP zi2 [.agg v.cs] H K:=by
 refine ACalls.out (zSI fun hs=>?_)
 simp[zq9,AV.known]
 refine zPc _ v (Nat.le_refl _) 40 (by omega) (by omega) _ (H.length+1) (by simp) _ ?_ ?_
 ·intro h
  exact Out.bool (J:=[_,_]) (by simp;exact⟨rfl,rfl⟩) (Nat.le_refl _) hs (hK true fun _=>by omega)
 ·intro h l'
  exact Out.bool (J:=[_,_]) (by simp;exact⟨rfl,rfl⟩) (Nat.le_refl _) hs (hK false fun h=>by cases h)
theorem zQx {data:List Dat} (hk:zbG data) (h8:∀ D∈data,D.cons.length≤8):∀ (m:Nat) (v:IT),v.nodes≤m→v.nodes≤900→zhY data v:=by
 intro m
 induction m with
 | zero=>intro v h;have:=v.nodes_pos;omega
 | succ m ih=>
  intro v hv hb t ht H K hK
  obtain⟨n,ks⟩:=v
  obtain⟨tk,tn,tks⟩:=t
  have hnl:IT.nodesL ks+1≤900:=by simpa[IT.nodes]using hb
  have hll:=IT.len_le ks
  have hkids:∀ v∈ks,zhY data v:=fun v hvm=>by
   obtain⟨i,hi,rfl⟩:=List.getElem_of_mem hvm
   have:=IT.kid_lt (n:=n) hi
   exact ih _ (by omega) (by omega)
  refine ACalls.out (zQv fun hs=>?_)
  rw[zv5]at hK
  have hO:∀ r J,K (.int .i64 r) H→Out H.length K (.int .i64 r) (H++J):=fun r J h=>Out.int rfl (Nat.le_refl _) hs h
  by_cases h6:tk=6
  ·subst h6
   rw[if_pos rfl]at hK
   by_cases hn:n=0
   ·subst hn
    rw[if_pos rfl]at hK
    simp[zc4,VT.cs,IT.cs,Nat.add_assoc]
    have htk:∀ t∈tks,t.nodes≤1000:=fun t htm=>by
     obtain⟨i,hi,rfl⟩:=List.getElem_of_mem htm
     have:=VT.kid_lt (k:=6) (n:=tn) hi
     omega
    refine zxN h8 ks (by omega) hkids tks htk _ _ ?_
    exact hO _ _ hK
   ·have:(n != 0)=true:=by simp[bne,hn]
    rw[if_neg hn]at hK
    simp[zc4,VT.cs,IT.cs,Nat.add_assoc,this]
    exact hO _ _ hK
  have h6':(tk == 6)=false:=by simp[h6]
  rw[if_neg h6]at hK
  by_cases h7:tk=7
  ·subst h7
   rw[if_pos rfl]at hK
   by_cases g1:n<0
   ·rw[if_neg (by omega)]at hK
    simp[zc4,VT.cs,IT.cs,Nat.add_assoc,g1]
    exact hO _ _ hK
   ·by_cases g2:n>6
    ·rw[if_neg (by omega)]at hK
     simp[zc4,VT.cs,IT.cs,Nat.add_assoc,g1,g2]
     exact hO _ _ hK
    ·by_cases g3:0<ks.length
     ·rw[if_neg (by omega)]at hK
      have g3':(0:Int)<ks.length:=by omega
      simp[zc4,VT.cs,IT.cs,Nat.add_assoc,g1,g2,g3,g3']
      exact hO _ _ hK
     ·rw[if_pos (by omega)]at hK
      have g3':¬ (0:Int)<ks.length:=by omega
      simp[zc4,VT.cs,IT.cs,Nat.add_assoc,g1,g2,g3,g3']
      exact hO _ _ hK
  have h7':(tk == 7)=false:=by simp[h7]
  rw[if_neg h7]at hK
  by_cases h5:tk=5
  case neg=>
   have h5':(tk == 5)=false:=by simp[h5]
   rw[if_neg h5]at hK
   by_cases g1:n=0
   ·subst g1
    by_cases g2:0<ks.length
    ·have g2':(0:Int)<ks.length:=by omega
     rw[if_neg (by omega)]at hK
     simp[zc4,VT.cs,IT.cs,Nat.add_assoc,h6',h7',h5',g2,g2']
     exact hO _ _ hK
    ·have g2':¬ (0:Int)<ks.length:=by omega
     rw[if_pos (by omega)]at hK
     simp[zc4,VT.cs,IT.cs,Nat.add_assoc,h6',h7',h5',g2,g2']
     exact hO _ _ hK
   ·have g1':(n != 0)=true:=by simp[bne,g1]
    rw[if_neg (by omega)]at hK
    simp[zc4,VT.cs,IT.cs,Nat.add_assoc,h6',h7',h5',g1,g1']
    exact hO _ _ hK
  subst h5
  rw[if_pos rfl]at hK
  by_cases hn:n=0
  case neg=>
   have:(n != 0)=true:=by simp[bne,hn]
   rw[if_neg (by omega)]at hK
   simp[zc4,VT.cs,IT.cs,Nat.add_assoc,this]
   exact hO _ _ hK
  subst hn
  by_cases hl6:ks.length>6
  ·rw[if_neg (by omega)]at hK
   have:(6:Int)<ks.length:=by omega
   simp[zc4,VT.cs,IT.cs,Nat.add_assoc,this]
   exact hO _ _ hK
  have hl6':¬ (6:Int)<ks.length:=by omega
  rw[if_pos (by omega)]at hK
  simp[zc4,VT.cs,IT.cs,Nat.add_assoc,hl6']
  have hT:(VT.mk 5 tn tks).nodes≤1000:=ht
  have hT':(VT.mk 5 tn tks).cs=[.int .i64 5,.int .i64 tn,.sl (VT.css tks) .none]:=rfl
  generalize hTg:VT.mk 5 tn tks=T at *
  have hsc2:HSc (H++[.cells [.int .i64 5,.int .i64 tn,.sl (VT.css tks) .none],.cells [.int .i64 0,.sl (IT.css ks) .none]]):=hs.append (by simp[AB.sc,AV.scA,AV.scB])
  have hF:∀ r,r=rdE data ks T 0→∀ J,Out H.length K (.int .i64 r) (H++J):=fun r h J=>hO _ _ (by rw[h];exact hK)
  refine zQt (Inv:=fun q t7 t58 H'=>∃ (i:Nat) (a:Int),i≤ks.length∧q=ks.length-i∧t58=.int .i64 i∧t7=.int .i64 a∧0≤a∧a≤6∧rdE data (ks.drop i) T a=rdE data ks T 0 ∧
   H'=H++[.cells [.int .i64 5,.int .i64 tn,.sl (VT.css tks) .none],.cells [.int .i64 0,.sl (IT.css ks) .none]]) ks.length ?_ ?_
  ·intro _;exact⟨0,0,by omega,by omega,rfl,rfl,by omega,by omega,by simp,rfl⟩
  ·rintro q t7 t58 H' ⟨i,a,hi,rfl,rfl,rfl,ha0,ha6,ho,rfl⟩ hsc' hlen hsF Kb hKb
   by_cases hlt:i<ks.length
   ·rw[List.drop_eq_getElem_cons hlt]at ho
    have hkn:=IT.kid_lt (n:=0) hlt
    obtain⟨c,es,hx⟩:∃ c es,ks[i]=IT.mk c es:=by cases h:ks[i] with | mk a b=>exact⟨a,b,rfl⟩
    rw[hx]at ho hkn
    have hesl:=IT.len_le es
    have hen:IT.nodesL es+1≤900:=by
     have:(IT.mk c es).nodes=IT.nodesL es+1:=by simp[IT.nodes]
     have:(IT.mk 0 ks).nodes=IT.nodesL ks+1:=by simp[IT.nodes]
     omega
    have hes:∀ v∈es,zhY data v:=fun v hvm=>by
     obtain⟨j,hj,rfl⟩:=List.getElem_of_mem hvm
     have:=IT.kid_lt (n:=c) hj
     exact ih _ (by omega) (by omega)
    simp only[rdE]at ho
    by_cases c1:c<0
    ·rw[if_pos (.inl c1)]at ho
     simp[zhT,hlt,hx,IT.cs,Nat.add_assoc,c1]
     exact hF _ ho _
    by_cases c2:8≤c
    ·rw[if_pos (.inr c2)]at ho
     simp[zhT,hlt,hx,IT.cs,Nat.add_assoc,c1,c2]
     exact hF _ ho _
    rw[if_neg (by omega)]at ho
    simp[zhT,hlt,hx,IT.cs,Nat.add_assoc,c1,c2]
    rw[←hT']
    refine zGV data hk T hT c _ _ ?_
    cases hp:za6 data T c with
    | none=>
     rw[hp]at ho
     simp only at ho
     simp[zcr]
     exact hF _ ho _
    | some ps=>
     rw[hp]at ho
     simp only at ho
     simp[zcr]
     have hpn:∀ t∈ps,t.nodes≤1000:=zvQ hp
     refine zxN h8 es (by omega) hes ps hpn _ _ ?_
     have htb:=zGm h8 es ps
     have ho':(if zcE data es ps<0∨a+1+zcE data es ps>6 then -1 else rdE data (ks.drop (i+1)) T (a+(1+zcE data es ps)))=rdE data ks T 0:=by
      rw[←ho]
      unfold zcE
      by_cases hl:ps.length=es.length
      ·simp only[hl,if_true]
      ·simp only[hl,if_false];rfl
     generalize zcE data es ps=w at *
     by_cases w0:w<0
     ·rw[if_pos (.inl w0)]at ho'
      simp[w0]
      exact hF _ ho' _
     ·have q1:IntKind.i64.wrap (a+1)=a+1:=zat (by omega) (by omega)
      have q2:IntKind.i64.wrap (a+1+w)=a+1+w:=zat (by omega) (by omega)
      have q3:IntKind.i64.wrap (1+w)=1+w:=zat (by omega) (by omega)
      have q4:IntKind.i64.wrap (a+(1+w))=a+(1+w):=zat (by omega) (by omega)
      by_cases hh:a+1+w>6
      ·rw[if_pos (.inr hh)]at ho'
       simp[w0,q1,q2,hh]
       exact hF _ ho' _
      ·rw[if_neg (by omega)]at ho'
       simp[w0,q1,q2,hh,q3,q4]
       rw[zat (by omega) (by omega)]
       refine hKb _ _ ⟨ks.length-(i+1),by omega,Back.at (J:=[.cells [.int .i64 c,.sl (IT.css es) .none]]) (H2:=H++[.cells [.int .i64 5,.int .i64 tn,.sl (VT.css tks) .none],.cells [.int .i64 0,.sl (IT.css ks) .none]]) (by simp[hT']) (by simp) hsc2 ?_ ⟨_,_,rfl,i+1,_,by omega,rfl,by simp,rfl,by omega,by omega,ho',rfl⟩⟩
       simp[zmp,AV.sc,AV.scV,AV.scA,AV.scB]
   ·obtain rfl:i=ks.length:=by omega
    rw[List.drop_length]at ho
    simp only[rdE]at ho
    simp[zhT]
    exact hF _ ho _
section
variable {data:List Dat} (hD:DOk data)
def zm0 (data:List Dat) (v:VT):Prop:=∀ (t:VT),zaZ data 0 t=true→∀ (H:zaa) (K:AV→zaa→Prop),K (.bool (zaP data v t)) H→ACalls tP ziS [.sl (data.map Dat.cs) .none,.agg v.cs,.agg t.cs] H K
theorem zC5 {f:VT→VT→Bool} {x y:List VT} {i:Nat} (h:i<x.length) (h':i<y.length):zcB f (x.drop i) (y.drop i)=(f x[i] y[i] && zcB f (x.drop (i+1)) (y.drop (i+1))):=by
 rw[List.drop_eq_getElem_cons h,List.drop_eq_getElem_cons h',zcB]
theorem zBC (vs ts:List VT) (hl:vs.length≤1000000) (hv:∀ v∈vs,zm0 data v) (ht:∀ t∈ts,zaZ data 0 t=true) (H:zaa) (K:AV→zaa→Prop) (hK:K (.bool (zcs data vs ts)) H) :
  ACalls tP zi6 [.sl (data.map Dat.cs) .none,.sl (VT.css vs) .none,.sl (VT.css ts) .none] H K:=by
 refine ACalls.out (zSy fun hs=>?_)
 rw[znD]at hK
 have hO:∀ b,zcB (zaP data) vs ts=b→Out H.length K (.bool b) H:=fun b h=>by
  have:=Out.bool (J:=[]) rfl (Nat.le_refl _) hs (h ▸ hK)
  simpa using this
 by_cases hlen:vs.length=ts.length
 case neg=>
  have hl':((vs.length:Int) != ts.length)=true:=by simp;omega
  simp[zs7,hl']
  exact hO _ (zny hlen)
 simp[zs7,hlen]
 refine zSw (Inv:=fun q t H'=>∃ i:Nat,i≤vs.length∧q=vs.length-i∧t=.int .i64 i∧zcB (zaP data) (vs.drop i) (ts.drop i)=zcB (zaP data) vs ts∧H=H') vs.length ?_ ?_
 ·intro _;exact⟨0,by omega,by omega,rfl,by simp,rfl⟩
 rintro q t H' ⟨i,hi,rfl,rfl,ho,rfl⟩ hsc hle hsF Kb hKb
 by_cases hlt:i<vs.length
 ·have hlt':i<ts.length:=by omega
  have hlt2:(i:Int)<ts.length:=by omega
  rw[zC5 hlt hlt']at ho
  obtain⟨x,y,z,hvx,hx,hy,hz⟩:=zbt vs[i]
  obtain⟨x2,y2,z2,hvx2,hx2,hy2,hz2⟩:=zbt ts[i]
  simp[zs8,hlt,hlt',hlt2,hvx,hvx2]
  rw[←hvx,←hvx2]
  refine zaE (.bool (zaP data vs[i] ts[i])) (fun J=>hv _ (List.getElem_mem hlt) _ (ht _ (List.getElem_mem hlt')) _ _ ⟨rfl,rfl⟩) ?_
  cases hb:zaP data vs[i] ts[i] with
  | false=>
   rw[hb,Bool.false_and]at ho
   simp
   exact hO _ ho.symm
  | true=>
   rw[hb,Bool.true_and]at ho
   simp
   rw[zat (by omega) (by omega)]
   refine hKb _ _ ⟨vs.length-(i+1),by omega,Back.here (Nat.le_refl _) hs ?_ ⟨_,rfl,i+1,by omega,rfl,by simp,ho,rfl⟩⟩
   simp[zmU,AV.sc,AV.scV,AV.scA,AV.scB]
 ·obtain rfl:i=vs.length:=by omega
  rw[List.drop_length,hlen,List.drop_length,zcB]at ho
  simp[zs8,hlen]
  exact hO _ ho.symm
theorem zDj {data:List Dat} {vks ks:List VT} (h1:vks.length=1) (h2:ks.length=1):zcs data vks ks=zds data vks (ks[0]'(by omega)):=by
 match vks,ks,h1,h2 with
 | [v],[k],_,_=>simp[zcs,zds]
include hD in
theorem zWG:∀ (m:Nat) (v:VT),v.nodes≤m→v.nodes≤1000000→zm0 data v:=by
 intro m
 induction m with
 | zero=>intro v h;have:=v.nodes_pos;omega
 | succ m ih=>
  intro v hm hb t ht H K hK
  obtain⟨vk,vn,vks⟩:=v
  obtain⟨k,n,ks⟩:=t
  refine ACalls.out (zP8 fun hs=>?_)
  have hO:∀ b J,zaP data (.mk vk vn vks) (.mk k n ks)=b→Out H.length K (.bool b) (H++J):=fun b J h=>Out.bool rfl (Nat.le_refl _) hs (h ▸ hK)
  have hll:=VT.len_le vks
  have hnn:(VT.mk vk vn vks).nodes=VT.nodesL vks+1:=by simp[VT.nodes]
  have hkids:∀ x∈vks,zm0 data x:=fun x hx=>ih x (by have:=zih (k:=vk) (n:=vn) x hx;omega) (by have:=zgO (k:=vk) (n:=vn) x hx;omega)
  have htk:=zxd ht
  have hto:zaY data 0 (.mk k n ks)=true:=by rw[zaZ,Bool.and_eq_true]at ht;exact ht.2
  have htn:(VT.mk k n ks).nodes≤200:=by rw[zaZ,Bool.and_eq_true]at ht;exact of_decide_eq_true ht.1
  obtain⟨f1,f2,f3⟩:=zeZ hD.k
  have loop:∀ (hk:ks.length=1) ,zaP data (.mk vk vn vks) (.mk k n ks)=zds data vks (ks[0]'(by omega)) →
    zsx (.sl (data.map Dat.cs) .none) (.ptr H.length 0) (.ptr (H.length+1) 0) (.int .i64 vks.length) (.int .i64 0) (H++[.cells [.int .i64 vk,.int .i64 vn,.sl (VT.css vks) .none],.cells [.int .i64 k,.int .i64 n,.sl (VT.css ks) .none]]) (Out H.length K):=by
   intro hk e
   have hk0:0<ks.length:=by omega
   refine zP6 (Inv:=fun q t10 H'=>∃ i:Nat,i≤vks.length∧q=vks.length-i∧t10=.int .i64 i∧zds data (vks.drop i) ks[0]=zds data vks ks[0]∧H'=H++[.cells [.int .i64 vk,.int .i64 vn,.sl (VT.css vks) .none],.cells [.int .i64 k,.int .i64 n,.sl (VT.css ks) .none]]) vks.length ?_ ?_
   ·intro _;exact⟨0,by omega,by omega,rfl,by simp,rfl⟩
   rintro q t10 H' ⟨i,hi,rfl,rfl,ho,rfl⟩ hsc hle hsF Kb hKb
   by_cases hlt:i<vks.length
   ·rw[zDi hlt]at ho
    obtain⟨x,y,z,hvx,hx,hy,hz⟩:=zbt vks[i]
    obtain⟨x2,y2,z2,hvx2,hx2,hy2,hz2⟩:=zbt ks[0]
    simp[zsv,hlt,hvx,hk0,hvx2]
    rw[←hvx,←hvx2]
    refine zaE (.bool (zaP data vks[i] ks[0])) (fun J=>hkids _ (List.getElem_mem hlt) ks[0] (htk _ (List.getElem_mem hk0)) _ _ ⟨rfl,rfl⟩) ?_
    cases hb2:zaP data vks[i] ks[0] with
    | false=>
     rw[hb2,Bool.false_and]at ho
     simp
     exact hO _ _ (e.trans ho.symm)
    | true=>
     rw[hb2,Bool.true_and]at ho
     simp
     rw[zat (by omega) (by omega)]
     refine hKb _ _ ⟨vks.length-(i+1),by omega,Back.here (by simp) hsc ?_ ⟨_,rfl,i+1,by omega,rfl,by simp,ho,rfl⟩⟩
     simp[zmk,AV.sc,AV.scV,AV.scA,AV.scB]
   ·obtain rfl:i=vks.length:=by omega
    rw[List.drop_length,zds]at ho
    simp[zsv]
    exact hO _ _ (e.trans ho.symm)
  rcases zGs hto with ⟨rfl,rfl⟩ | ⟨rfl,rfl⟩ | ⟨rfl,rfl⟩ | rfl | ⟨rfl,hk⟩ | ⟨rfl,hk⟩ | ⟨rfl,hk⟩ | ⟨rfl,hk⟩
  ·simp[zek,VT.cs,Nat.add_assoc]
   cases h1:(vk == 3) <;> simp
   ·exact hO _ _ (by simp[zaP,h1])
   by_cases h2:-1099511627776≤vn <;> simp[h2]
   ·by_cases h3:vn≤1099511627776 <;> simp[h3]
    ·exact hO _ _ (by simp[zaP,h1,h2,h3,i0])
    ·exact hO _ _ (by simp[zaP,h1,h2,h3])
   ·exact hO _ _ (by simp[zaP,h1,h2])
  ·simp[zek,VT.cs,Nat.add_assoc]
   cases h1:(vk == 2) <;> simp
   ·exact hO _ _ (by simp[zaP,h1])
   cases h2:(vn == 0) <;> simp
   ·cases h3:(vn == 1) <;> simp
    ·exact hO _ _ (by simp[zaP,h1,h2,h3])
    ·exact hO _ _ (by simp[zaP,h1,h2,h3,i0])
   ·exact hO _ _ (by simp[zaP,h1,h2,i0])
  ·simp[zek,VT.cs,Nat.add_assoc]
   cases h1:(vk == 1) <;> simp
   ·exact hO _ _ (by simp[zaP,h1])
   cases h2:(vn == 0) <;> simp
   ·exact hO _ _ (by simp[zaP,h1,h2])
   ·exact hO _ _ (by simp[zaP,h1,h2,i0])
  ·-- a data type
   simp[zek,VT.cs,Nat.add_assoc]
   cases h1:(vk == 5) with
   | false=>
    have:(vk != 5)=true:=by simp[bne,h1]
    simp[this]
    exact hO _ _ (by simp[zaP,h1])
   | true=>
   have h1':(vk != 5)=false:=by simp[bne,h1]
   by_cases h2:vn<0
   ·simp[h1',h2]
    exact hO _ _ (by simp[zaP,h1];omega)
   by_cases h3:8≤vn
   ·simp[h1',h2,h3]
    exact hO _ _ (by simp[zaP,h1];omega)
   simp[h1',h2,h3,Nat.add_assoc]
   have e:∀ o,zbe data (.mk 5 n ks) vn=o→zaP data (.mk vk vn vks) (.mk 5 n ks)=zeY data vks o:=fun o ho=>by
    have q1:0≤vn:=by omega
    have q2:vn<8:=by omega
    simp[zaP,h1,q1,q2,ho]
   have hcs:(VT.mk 5 n ks).cs=[.int .i64 5,.int .i64 n,.sl (VT.css ks) .none]:=rfl
   rw[←hcs]
   refine ztc data f1 f2 f3 (.mk 5 n ks) (by omega) vn _ _ ?_
   cases hf:zbe data (.mk 5 n ks) vn with
   | none=>
    simp[zcr]
    exact hO _ _ (by rw[e _ hf,zDk])
   | some l=>
    simp[zcr,hcs]
    refine zBC vks l (by omega) hkids (zuA hD.ok hto hf) _ _ ?_
    exact hO _ _ (by rw[e _ hf,zDl])
  ·simp[zek,VT.cs,Nat.add_assoc]
   cases h1:(vk == 4) <;> simp
   ·exact hO _ _ (by simp[zaP,h1])
   cases h2:(vn == 0) <;> simp
   ·exact hO _ _ (by simp[zaP,h1,h2])
   refine zBC vks ks (by omega) hkids htk _ _ ?_
   exact hO _ _ (by simp[zaP,h1,h2])
  ·-- an array
   simp[zek,zhS,VT.cs,Nat.add_assoc]
   have hk0:0<ks.length:=by omega
   cases h1:(vk == 6) with
   | false=>
    have:(vk != 6)=true:=by simp[bne,h1]
    simp[this]
    exact hO _ _ (by simp[zaP,h1])
   | true=>
   have h1':(vk != 6)=false:=by simp[bne,h1]
   by_cases h3:vks.length≤4096
   case neg=>
    have h3':(4096:Int)<vks.length:=by omega
    simp[h1',h3']
    exact hO _ _ (by simp[zaP,h1,h3])
   have h3':¬ (4096:Int)<vks.length:=by omega
   cases h2:(vn == 0) with
   | false=>
    have:(vn != 0)=true:=by simp[bne,h2]
    simp[h1',h3',this]
    exact hO _ _ (by simp[zaP,h1,h2])
   | true=>
   have h2':(vn != 0)=false:=by simp[bne,h2]
   simp[h1',h3',h2']
   exact loop hk (by have:=zDe hk0;simp[zaP,h1,h2,h3,this,hk0])
  ·simp[zek,zhS,VT.cs,Nat.add_assoc]
   have hk0:0<ks.length:=by omega
   cases h1:(vk == 7) with
   | false=>
    have:(vk != 7)=true:=by simp[bne,h1]
    simp[this]
    exact hO _ _ (by simp[zaP,h1])
   | true=>
   have h1':(vk != 7)=false:=by simp[bne,h1]
   by_cases h3:vks.length=1
   case neg=>
    have h3':((vks.length:Int) != 1)=true:=by simp;omega
    simp[h1',h3']
    refine hO _ _ ?_
    have:zcs data vks ks=false:=by rw[znD];exact zny (by omega)
    simp[zaP,h1,this]
   have h3':((vks.length:Int) != 1)=false:=by simp;omega
   cases h2:(vn == 0) with
   | false=>
    have:(vn != 0)=true:=by simp[bne,h2]
    simp[h1',h3',this]
    exact hO _ _ (by simp[zaP,h1,h2])
   | true=>
   have h2':(vn != 0)=false:=by simp[bne,h2]
   simp[h1',h3',h2']
   exact loop hk (by rw[←zDj h3 hk];simp[zaP,h1,h2])
  ·simp[zek,zhS,VT.cs,Nat.add_assoc]
   cases h1:(vk == 8) <;> simp
   ·exact hO _ _ (by simp[zaP,h1])
   by_cases h2:0≤vn <;> simp[h2]
   ·by_cases h3:vn<64 <;> simp[h3]
    ·exact hO _ _ (by simp[zaP,h1,h2,h3,i0])
    ·exact hO _ _ (by simp[zaP,h1,h2,h3])
   ·exact hO _ _ (by simp[zaP,h1,h2])
end
theorem zDx {data:List Dat} (h:zbG data):zgl data:=fun D hD=>by
 obtain⟨_,h2⟩:=h
 obtain⟨_,h3,h4⟩:=h2 D hD
 refine⟨by omega,fun c hc=>?_⟩
 obtain⟨_,h5,h6⟩:=h4 c hc
 exact⟨by omega,fun x hx=>by have:=h6 x hx;omega⟩
theorem zuq {data:List Dat}:∀ {l:List Dat} {d:Nat},zcJ data l d=true→∀ D∈l,D.cons.length≤8
 | [],_,_,D,h=>by cases h
 | E::l,d,h,D,hD=>by
  simp only[zcJ,Bool.and_eq_true]at h
  rcases List.mem_cons.1 hD with rfl | hD
  ·have:=h.1
   simp only[zcz,Bool.and_eq_true,decide_eq_true_eq]at this
   exact this.1.2
  ·exact zuq h.2 D hD
theorem zgG {data:List Dat} {t:VT} (h:zbZ data t=true):∀ D∈data,D.cons.length≤8:=by
 simp only[zbZ,zbq,Bool.and_eq_true]at h
 exact zuq h.1.1.1.2
def zbv (data:List Dat) (t:VT) (v:IT):Int:=if zbZ data t then rdV data v t else -1
theorem zQS (data:List Dat) (hk:zbG data) (t:VT) (ht:t.nodes≤1000000) (H:zaa) (K:Kt) (hK:K (.bool (zbZ data t)) H):ACalls tP zoK [.sl (data.map Dat.cs) .none,.agg t.cs] H K:=by
 refine ACalls.out (zQR fun hs=>?_)
 obtain⟨x,y,z,hvx,hx,hy,hz⟩:=zbt t
 simp[zAZ,zas,zaH,hvx,Nat.add_assoc]
 refine zHR data (zDx hk) (by have:=hk.1;omega) ?_
 unfold zbZ at hK
 cases hd:zbq data with
 | false=>
  rw[hd]at hK
  simp
  exact Out.bool rfl (Nat.le_refl _) hs hK
 | true=>
  rw[hd,Bool.true_and]at hK
  simp
  rw[←hvx]
  refine zxY data 0 t (by omega) _ _ ?_
  exact Out.bool rfl (Nat.le_refl _) hs hK
theorem zQd (data:List Dat) (hk:zbG data) (t:VT) (ht:t.nodes≤1000000) (H:zaa) (K:Kt) (hK:K (.bool (zbZ data t)) H):ACalls tP zoJ [.sl (data.map Dat.cs) .none,.agg t.cs] H K:=by
 refine ACalls.out (zQc fun hs=>?_)
 obtain⟨x,y,z,hvx,hx,hy,hz⟩:=zbt t
 simp[zAK,hvx,Nat.add_assoc]
 refine zP0 data hk _ _ fun b hb=>?_
 have hbd:b=zbq data:=by rw[Bool.eq_iff_iff,hb,zCS]
 subst hbd
 unfold zbZ at hK
 cases hd:zbq data with
 | false=>
  rw[hd]at hK
  simp
  exact Out.bool rfl (Nat.le_refl _) hs hK
 | true=>
  rw[hd,Bool.true_and]at hK
  simp
  rw[←hvx]
  refine zAJ data (by have:=hk.1;omega) 0 t (by omega) _ _ ?_
  exact Out.bool rfl (Nat.le_refl _) hs hK
theorem zsc (data:List Dat) (hk:zbG data) (t:VT) (ht:t.nodes≤1000) (v:IT) (hv:v.nodes≤900) (H:zaa) (K:Kt) (hK:K (.int .i64 (zbv data t v)) H):ACalls tP zg7 [.sl (data.map Dat.cs) .none,.agg t.cs,.agg v.cs] H K:=by
 refine ACalls.out (zPf fun hs=>?_)
 have hO:∀ r J,zbv data t v=r→Out H.length K (.int .i64 r) (H++J):=fun r J h=>by subst h;exact Out.int rfl (Nat.le_refl _) hs hK
 obtain⟨x,y,z,hvx,hx,hy,hz⟩:=zbt t
 obtain⟨x2,y2,hvx2,hx2,hy2⟩:=it2 v
 simp[zAs,hvx,hvx2,Nat.add_assoc]
 rw[←hvx]
 refine zQS data hk t (by omega) _ _ ?_
 cases hf:zbZ data t with
 | false=>
  simp
  exact hO _ _ (by simp[zbv,hf])
 | true=>
  have h8:=zgG hf
  obtain⟨g1,g2⟩:=zgs h8 v t
  simp[Nat.add_assoc]
  rw[←hvx2]
  refine zQZ hk h8 _ v (Nat.le_refl _) hv t ht _ _ ?_
  cases hb:(zcc data v t).2 with
  | false=>
   simp
   exact hO _ _ (by simp[zbv,hf,g2 hb])
  | true=>
   simp
   exact hO _ _ (by simp[zbv,hf,(g1 hb).1])
theorem zrL (data:List Dat) (hk:zbG data) (t:VT) (ht:t.nodes≤1000) (v:IT) (hv:v.nodes≤900) (H:zaa) (K:Kt) (hK:K (.int .i64 (zbv data t v)) H):ACalls tP zg2 [.sl (data.map Dat.cs) .none,.agg t.cs,.agg v.cs] H K:=by
 refine ACalls.out (zNw fun hs=>?_)
 have hO:∀ r J,zbv data t v=r→Out H.length K (.int .i64 r) (H++J):=fun r J h=>by subst h;exact Out.int rfl (Nat.le_refl _) hs hK
 obtain⟨x,y,z,hvx,hx,hy,hz⟩:=zbt t
 obtain⟨x2,y2,hvx2,hx2,hy2⟩:=it2 v
 simp[zzQ,hvx,hvx2,Nat.add_assoc]
 rw[←hvx]
 refine zQd data hk t (by omega) _ _ ?_
 cases hf:zbZ data t with
 | false=>
  simp
  exact hO _ _ (by simp[zbv,hf])
 | true=>
  have h8:=zgG hf
  simp[Nat.add_assoc]
  rw[←hvx2]
  refine zQx hk h8 _ v (Nat.le_refl _) hv t ht _ _ ?_
  exact hO _ _ (by simp[zbv,hf])
theorem zhh {H:zaa} {K:AV→zaa→Prop} {r:AV} (hsc:HSc H) (hv:r.isV=true) (hr:r.scV H.length=true) (h:K r H):Out H.length K r H:=by
 have:=Out.same (J:=[]) rfl hsc hv hr h
 simpa using this
theorem zvt (a:Int) (H:zaa) (K:AV→zaa→Prop) (hK:K (.bool false) H):ACalls tP ziB [.int .i64 a] H K:=by
 refine ACalls.out (zLR fun hs=>?_)
 simp[zzp]
 exact zhh hs rfl rfl hK
theorem zue (a b:Int) (H:zaa) (K:AV→zaa→Prop) (hK:K (.int .i64 (icmp a b)) H):ACalls tP zit [.int .i64 a,.int .i64 b] H K:=by
 refine ACalls.out (zIX fun hs=>?_)
 unfold zyj
 refine zvt _ _ _ (zvt _ _ _ ?_)
 have hO:=zhh (K:=K) (H:=H) (r:=.int .i64 (icmp a b)) hs rfl rfl hK
 by_cases h1:a<b
 ·simp[h1];simpa[icmp,h1]using hO
 ·by_cases h2:b<a
  ·simp[h1,h2];simpa[icmp,h1,h2]using hO
  ·simp[h1,h2];simpa[icmp,h1,h2]using hO
def orL:List Int→Int
 | []=>0
 | a::l=>cor a (orL l)
theorem zEf (l:List Int) (tok:Tok) (hl:l.length≤1000000) (H:zaa) (K:AV→zaa→Prop) (hK:K (.int .i64 (orL l)) H):ACalls tP zn7 [.sl (l.map fun x=>[.int .i64 x]) tok] H K:=by
 refine ACalls.out (zIT fun hs=>?_)
 simp[zyh]
 refine zIR (Inv:=fun q t8 H'=>∃ i:Nat,i≤l.length∧q=l.length-i∧t8=.int .i64 i∧orL (l.drop i)=orL l∧H'=H) l.length ?_ ?_
 ·intro _;exact⟨0,by omega,by omega,rfl,by simp,rfl⟩
 ·rintro q t8 H' ⟨i,hi,rfl,rfl,ho,rfl⟩ hsc hlen hsF Kb hKb
  by_cases hlt:i<l.length
  ·rw[List.drop_eq_getElem_cons hlt,orL]at ho
   by_cases hz:l[i]=0
   ·rw[zul hz]at ho
    simp[zko,hlt,hz]
    rw[zat (by omega) (by omega)]
    refine hKb _ _ ⟨l.length-(i+1),by omega,Back.here (Nat.le_refl _) hs ?_ ⟨_,rfl,i+1,by omega,rfl,by simp,ho,rfl⟩⟩
    simpa[zkp,AV.sc,AV.scV,AV.scA,AV.scB]using hsF
   ·rw[zuk hz]at ho
    have hz:(l[i] != 0)=true:=by simpa using hz
    simp[zko,hlt,hz]
    rw[←ho]at hK
    exact zhh hs rfl rfl hK
  ·simp[zko,hlt]
   obtain rfl:i=l.length:=by omega
   rw[List.drop_length]at ho
   rw[←ho]at hK
   exact zhh hs rfl rfl hK
theorem zCE (ks ks':List IT) (he:ks.length=ks'.length) (hb:ks.length≤1000000)
  (hc:∀ (i:Nat) (h:i<ks.length) (h':i<ks'.length) (H:zaa) (K:AV→zaa→Prop),K (.int .i64 (IT.cmp ks[i] ks'[i])) H→ACalls tP zfX [.agg ks[i].cs,.agg ks'[i].cs] H K)
  (H:zaa) (K:AV→zaa→Prop) (hK:K (.int .i64 (IT.cmpL ks ks')) H):ACalls tP zn8 [.sl (IT.css ks) .none,.sl (IT.css ks') .none,.fn zfX []] H K:=by
 refine ACalls.out (zI2 fun hs=>?_)
 simp[zyk]
 refine zI0 (Inv:=fun q t13 H'=>∃ i:Nat,i≤ks.length∧q=ks.length-i∧t13=.int .i64 i∧IT.cmpL (ks.drop i) (ks'.drop i)=IT.cmpL ks ks'∧H'=H) ks.length ?_ ?_
 ·intro _;exact⟨0,by omega,by omega,rfl,by simp,rfl⟩
 ·rintro q t8 H' ⟨i,hi,rfl,rfl,ho,rfl⟩ hsc hlen hsF Kb hKb
  by_cases hlt:i<ks.length
  ·have hlt':i<ks'.length:=by omega
   have hle:¬ ks'.length≤i:=by omega
   rw[IT.cmpL_drop hlt hlt']at ho
   simp[zqn,hlt,hlt',hle]
   refine hc i hlt hlt' _ _ ?_
   by_cases hz:IT.cmp ks[i] ks'[i]=0
   ·rw[zul hz]at ho
    simp[hz]
    rw[zat (by omega) (by omega)]
    refine hKb _ _ ⟨ks.length-(i+1),by omega,Back.same (Nat.le_refl _) hs ?_ ⟨_,rfl,i+1,by omega,rfl,by simp,ho,rfl⟩⟩
    simp[zkr,AV.sc,AV.scV,AV.scA,AV.scB]
   ·rw[zuk hz]at ho
    have hz:(IT.cmp ks[i] ks'[i] != 0)=true:=by simpa using hz
    simp[hz]
    rw[←ho]at hK
    exact Out.same rfl hs rfl rfl hK
  ·have hnl:¬ ks.length<ks'.length:=by omega
   simp[zqn,hlt,hnl]
   obtain rfl:i=ks.length:=by omega
   rw[List.drop_length,he,List.drop_length]at ho
   rw[←ho]at hK
   exact zhh hs rfl rfl hK
theorem zDp:∀ (m:Nat) (v w:IT),v.nodes≤m→v.nodes≤1000000→∀ (H:zaa) (K:AV→zaa→Prop),K (.int .i64 (IT.cmp v w)) H→ACalls tP zfX [.agg v.cs,.agg w.cs] H K:=by
 intro m
 induction m with
 | zero=>intro v w h;have:=v.nodes_pos;omega
 | succ m ih=>
  intro v w hv hb H K hK
  obtain⟨n,ks⟩:=v
  obtain⟨n',ks'⟩:=w
  have hnl:IT.nodesL ks+1≤1000000:=by simpa[IT.nodes]using hb
  have hll:=IT.len_le ks
  refine ACalls.out (zRM fun hs=>?_)
  simp[IT.cs,zBi]
  refine zaE _ (fun J=>zue _ _ _ _ ⟨rfl,rfl⟩) ?_
  refine zaE _ (fun J=>zue _ _ _ _ ⟨rfl,rfl⟩) ?_
  simp[zau,zaR,plain,List.replicate]
  refine zaE _ (fun J=>zEf [icmp n n',icmp ks.length ks'.length] _ (by simp) _ _ ⟨rfl,rfl⟩) ?_
  by_cases hz:orL [icmp n n',icmp ks.length ks'.length]=0
  ·have hz':=hz
   simp only[orL,zgz]at hz
   have hlen:ks.length=ks'.length:=by have:=(znH _ _).mp hz.2.1;omega
   simp[hz']
   refine zCE ks ks' hlen (by omega) (fun i h h' H K hK=>?_) _ _ ?_
   ·have:=IT.kid_lt (n:=n) h
    exact ih _ _ (by omega) (by omega) H K hK
   ·refine Out.same rfl hs rfl rfl ?_
    simpa[IT.cmp,hz,cor]using hK
  ·have hzb:(orL [icmp n n',icmp ks.length ks'.length] != 0)=true:=by simpa using hz
   simp[hzb]
   refine Out.same rfl hs rfl rfl ?_
   have e:IT.cmp (.mk n ks) (.mk n' ks')=orL [icmp n n',icmp ks.length ks'.length]:=by
    simp only[IT.cmp,orL,cor]at hz ⊢
    split <;> (try split) <;> (try split) <;> simp_all
   rwa [e]at hK
end Go.Proofs.YtdmamdnkcefmmaaGreatDoor

namespace Go.Abs
open Go Go.RowKit
open Go.Sort (grow putRow putCells mapBlock onCells ahead SWO PermIn SortedIn Holds)
open Go.Proofs (sortWorld ltOf CmpLays1)
variable {P:Program} {B:Nat} {w:World} {G:Gh} {H:zaa}
theorem zDh {W w':World} (hd:W.drawn≤w'.drawn) (hb:Below W.heap.size W w'):∃ q os,w'=grow (W.drewN q) os:=by
 refine⟨w'.drawn-W.drawn,w'.heap.extract W.heap.size w'.heap.size,?_⟩
 obtain⟨h1,h2,h3,h4,h5⟩:=hb
 obtain⟨heap,tape,drawn,os,output⟩:=W
 obtain⟨heap',tape',drawn',os',output'⟩:=w'
 simp only at *
 subst h1 h2 h3
 have e1:heap'=heap++heap'.extract heap.size heap'.size:=by
  refine Array.ext_getElem? fun i=>?_
  by_cases hi:i<heap.size
  ·rw[Array.getElem?_append_left hi,h5 i hi]
  ·rw[Array.getElem?_append_right (by omega),Array.getElem?_extract]
   by_cases h:i<heap'.size
   ·rw[if_pos (by omega),show heap.size+(i-heap.size)=i by omega]
   ·rw[if_neg (by omega),Array.getElem?_eq_none (by omega)]
 have e2:drawn'=drawn+(drawn'-drawn):=by omega
 simp only[grow,World.drewN]
 rw[←e1,←e2]
theorem HRel.alone (h:HRel B w G H) (o:Obj):Ext B w G (w.alloc o) G∧HRel B (w.alloc o) G H:=by
 have he:=Ext.alloc h o G.L (fun _ _=>rfl) []
 simp only[List.append_nil]at he
 refine⟨he,h.keep he rfl (fun id gi b h1 h2=>⟨zcy (h.lt id gi b h1 h2),rfl⟩) (fun b hb=>?_)⟩
 rw[zbX]at hb
 exact h.fresh b (by omega)
theorem HRel.grown:∀ (os:List Obj) {w:World},HRel B w G H→Ext B w G (grow w os.toArray) G∧HRel B (grow w os.toArray) G H
 | [],w,h=>by
  have:grow w #[]=w:=by simp[grow]
  rw[show ([]:List Obj).toArray=#[] from rfl,this]
  exact⟨Ext.refl _ _ _,h⟩
 | o::l,w,h=>by
  obtain⟨h1,h2⟩:=h.alone o
  obtain⟨h3,h4⟩:=HRel.grown l h2
  have:grow w (o::l).toArray=grow (w.alloc o) l.toArray:=by
   rw[Go.Sort.alloc_eq_grow,Go.Sort.grow_grow]
   simp
  rw[this]
  exact⟨h1.trans h3,h4⟩
theorem zEB {α:Type} [Inhabited α] (vals:α→Value) (d:Array α) (cur:Array Value) (h:d.size≤cur.size):(putCells vals 0 d cur).toList.take d.size=d.toList.map vals:=by
 refine List.ext_getElem (by simp[putCells];omega) fun i h1 h2=>?_
 simp at h2
 simp[putCells,h2]
def Lx (w:World) (G:Gh) (blk b:Nat):Nat:=if b=blk then 0 else max (G.L b) (zcj w b)
def Rd (H:zaa) (id0:Nat) (a:AV) (row:List (List AV)):Prop:=
 a=.sl row .none ∨
 (∃ id off len cap size cs,a=.ms id off len cap∧H[id]?=some (.cells cs)∧off+len*size≤cs.length∧plain ((cs.drop off).take (len*size))=some row.flatten∧row.length=len∧(∀ c∈row,c.length=size)∧len≤cap) ∨
 (∃ id e size m cs,a=.ov id m∧id≠id0∧H[id]?=some (.vec e size m cs)∧plain cs=some row.flatten∧row.length=m∧∀ c∈row,c.length=size)
theorem Rd.rel (h:HRel B w G H) {id e n g cap:Nat} {cs:List AV} (hH:H[id]?=some (.vec e 1 n cs)) (hμ:G.μ[id]?=some (.own (.slice (some ⟨g,0,none⟩) n cap) 1 n)) {a:AV} {row:List (List AV)} (hr:Rd H id a row) {v:Value} (hv:ARel w G v a) :
  DRel w (Lx w G g) v (.sl row .none):=by
 obtain⟨_,_,_,hL0⟩:=h.ok id _ _ hH hμ
 have hLg:G.L g=0:=hL0 g rfl
 have hlev:∀ b,G.L b≤Lx w G g b:=fun b=>by
  unfold Lx
  split
  ·rename_i hb;rw[hb,hLg];exact Nat.le_refl _
  ·exact Nat.le_max_left _ _
 have hmono:∀ {v:Value} {a:AV},DRel w G.L v a→DRel w (Lx w G g) v a:=fun h=>h.mono hlev fun _ _ _=>rfl
 rcases hr with rfl | ⟨i2,off,len,cap2,size,cs2,rfl,hH2,hfit,hp,hlen,hsz,hcap⟩ | ⟨i2,e2,size,m,cs2,rfl,hne,hH2,hp,hlen,hsz⟩
 ·exact hmono hv
 ·obtain⟨b,hb,rfl⟩:=hv
  obtain⟨_,_,vs,_,hw,hcs⟩:=h.ok i2 _ _ hH2 hb
  have hbg:b≠g:=fun hbg=>by
   have:=h.dist i2 id _ _ b hb hμ rfl (by rw[hbg];rfl)
   subst this
   rw[hH]at hH2
   cases hH2
  subst hlen
  by_cases hes:row=[]
  ·subst hes;exact .slE _ _
  ·have hl:=hcs.length
   refine DRel.of_flat_at (zs:=(vs.toList.drop off).take (row.length*size)) hsz hes hcap ?_ ((zdh ((hcs.drop off).take _) hp).mono fun _ _=>hmono) ?_
   ·unfold Lx
    rw[if_neg hbg]
    refine Nat.le_trans ?_ (Nat.le_max_right _ _)
    simp[zcj,hw]
    simp at hl
    omega
   ·intro j u hj
    rw[List.getElem?_take]at hj
    split at hj
    ·simp only[World.cell?,hw]
     simpa using hj
    ·cases hj
 ·obtain⟨⟨a,cap0,rfl,_⟩,v',s0,n',hμ2,_,heq⟩:=hv
  obtain⟨rfl,rfl,⟨xs,hown,hcs⟩,_⟩:=h.ok i2 _ _ hH2 hμ2
  obtain rfl:=heq rfl
  subst hlen
  by_cases hes:row=[]
  ·subst hes;exact .slE _ _
  ·have hown2:=hown
   obtain⟨hl,hrow⟩:=hown2
   rcases hrow with ⟨h1,h2⟩ | ⟨g2,cap2,cur,h1,h2,h3,h4,h5,h6,h7⟩
   ·cases row <;> simp_all
   ·simp at h1
    obtain⟨rfl,rfl⟩:=h1
    obtain⟨_,_,_,hcell⟩:=zdg hown
    have hbg:g2≠g:=fun hbg=>hne (h.dist i2 id _ _ g2 hμ2 hμ rfl (by rw[hbg];rfl))
    refine DRel.of_flat_at (zs:=xs) hsz hes h4 ?_ ((zdh hcs hp).mono fun _ _=>hmono) ?_
    ·unfold Lx
     rw[if_neg hbg]
     refine Nat.le_trans ?_ (Nat.le_max_right _ _)
     simp only[zcj,h3,h6,Nat.zero_add]
     exact Nat.mul_le_mul_right _ h4
    ·intro j u hj
     rw[Nat.zero_add,hcell j (by rw[←hl];exact (List.getElem?_eq_some_iff.1 hj).1)]
     exact hj
theorem zuy {α:Type} (d:Array α) {k:Nat} (h:d.size=k):d.extract 0 k=d:=by subst h;exact Array.extract_size
theorem zD4 (n:Nat):((Array.ofFn fun i:Fin n=>i).toList.map Fin.val)=List.range n:=
 List.ext_getElem (by simp) fun i h1 h2=>by simp only[List.getElem_map,Array.getElem_toList,Array.getElem_ofFn,List.getElem_range]
theorem zFo {α:Type} [Inhabited α] (vals:α→Value) (w:World) (g m:Nat) (d:Array α) (os:Array Obj):w.heap.size≤(sortWorld vals w g 0 m d os).heap.size:=by
 unfold sortWorld
 simp[grow]
theorem zFn {α:Type} [Inhabited α] (vals:α→Value) (w:World) (g m:Nat) (d:Array α) (os:Array Obj) (a:Addr) (h1:a.block≠g) (h2:a.block<w.heap.size):(sortWorld vals w g 0 m d os).cell? a=w.cell? a:=by
 unfold sortWorld
 rw[Go.Sort.cell?_grow _ _ _ (by rw[Go.Sort.size_putRow];exact h2),Go.Sort.cell?_putRow_other vals _ g 0 d a (Or.inl h1)]
 rfl
end Go.Abs
namespace Go.Abs
open Go Go.RowKit
variable {P:Program} {B:Nat} {w:World} {G:Gh} {H:zaa}
def Lmx (w:World) (G:Gh) (b:Nat):Nat:=Nat.max (G.L b) (zcj w b)
inductive RdA (H:zaa):AV→AV→Prop
 | sl (es:List (List AV)):RdA H (.sl es .none) (.sl es .none)
 | int (k:IntKind) (n:Int):RdA H (.int k n) (.int k n)
 | bool (b:Bool):RdA H (.bool b) (.bool b)
 | str (s:List UInt8):RdA H (.str s) (.str s)
 | ms (id off len cap size:Nat) (cs:List AV) (row:List (List AV)) (hH:H[id]?=some (.cells cs)) (hfit:off+len*size≤cs.length) (hp:plain ((cs.drop off).take (len*size))=some row.flatten) (hlen:row.length=len)
   (hsz:∀ c∈row,c.length=size) (hcap:len≤cap):RdA H (.ms id off len cap) (.sl row .none)
 | ov (id e size m:Nat) (cs:List AV) (row:List (List AV)) (hH:H[id]?=some (.vec e size m cs)) (hp:plain cs=some row.flatten) (hlen:row.length=m) (hsz:∀ c∈row,c.length=size):RdA H (.ov id m) (.sl row .none)
theorem RdA.rel (h:HRel B w G H) {a b:AV} (hr:RdA H a b) {v:Value} (hv:ARel w G v a):DRel w (Lmx w G) v b:=by
 have hmono:∀ {v:Value} {a:AV},DRel w G.L v a→DRel w (Lmx w G) v a:=fun h=>h.mono (fun b=>Nat.le_max_left _ _) fun _ _ _=>rfl
 cases hr with
 | sl es=>exact hmono hv
 | int k n=>have hv:v=.int k n:=hv;subst hv;exact .int k n
 | bool b=>have hv:v=.bool b:=hv;subst hv;exact .bool b
 | str s=>have hv:v=.string ⟨s.toArray⟩:=hv;subst hv;exact .str s
 | ms i2 off len cap2 size cs2 row hH2 hfit hp hlen hsz hcap=>
  obtain⟨b,hb,rfl⟩:=hv
  obtain⟨_,_,vs,_,hw,hcs⟩:=h.ok i2 _ _ hH2 hb
  subst hlen
  by_cases hes:row=[]
  ·subst hes;exact .slE _ _
  ·have hl:=hcs.length
   refine DRel.of_flat_at (zs:=(vs.toList.drop off).take (row.length*size)) hsz hes hcap ?_ ((zdh ((hcs.drop off).take _) hp).mono fun _ _=>hmono) ?_
   ·refine Nat.le_trans ?_ (Nat.le_max_right _ _)
    simp[zcj,hw]
    simp at hl
    omega
   ·intro j u hj
    rw[List.getElem?_take]at hj
    split at hj
    ·simp only[World.cell?,hw]
     simpa using hj
    ·cases hj
 | ov i2 e2 size m cs2 row hH2 hp hlen hsz=>
  obtain⟨⟨a,cap0,rfl,_⟩,v',s0,n',hμ2,_,heq⟩:=hv
  obtain⟨rfl,rfl,⟨xs,hown,hcs⟩,_⟩:=h.ok i2 _ _ hH2 hμ2
  obtain rfl:=heq rfl
  subst hlen
  by_cases hes:row=[]
  ·subst hes;exact .slE _ _
  ·have hown2:=hown
   obtain⟨hl,hrow⟩:=hown2
   rcases hrow with ⟨h1,h2⟩ | ⟨g2,cap2,cur,h1,h2,h3,h4,h5,h6,h7⟩
   ·cases row <;> simp_all
   ·simp at h1
    obtain⟨rfl,rfl⟩:=h1
    obtain⟨_,_,_,hcell⟩:=zdg hown
    refine DRel.of_flat_at (zs:=xs) hsz hes h4 ?_ ((zdh hcs hp).mono fun _ _=>hmono) ?_
    ·refine Nat.le_trans ?_ (Nat.le_max_right _ _)
     simp only[zcj,h3,h6,Nat.zero_add]
     exact Nat.mul_le_mul_right _ h4
    ·intro j u hj
     rw[Nat.zero_add,hcell j (by rw[←hl];exact (List.getElem?_eq_some_iff.1 hj).1)]
     exact hj
theorem RdA.trel (h:HRel B w G H) {a b:AV} (hr:RdA H a b) {v:Value} (hv:ARel w G v a):ARel w ⟨Lmx w G,[]⟩ v b:=by
 have hd:=hr.rel h hv
 cases hr with
 | sl es=>exact hd
 | int k n=>exact hv
 | bool b=>exact hv
 | str s=>exact hv
 | ms i2 off len cap2 size cs2 row hH2 hfit hp hlen hsz hcap=>exact hd
 | ov i2 e2 size m cs2 row hH2 hp hlen hsz=>exact hd
inductive RdT (H:zaa):AV→AV→Prop
 | one {a b:AV} (h:RdA H a b):RdT H a b
 | agg {asx bs:List AV} (h:All2 (RdA H) asx bs):RdT H (.agg asx) (.agg bs)
theorem RdT.rel (h:HRel B w G H) {a b:AV} (hr:RdT H a b) {v:Value} (hv:TRel w G v a):TRel w ⟨Lmx w G,[]⟩ v b:=by
 cases hr with
 | one hr=>
  have hv':ARel w G v a:=by cases hr <;> exact hv
  exact TRel.of_v (VRel.of_a (hr.trel h hv'))
 | agg hr=>
  obtain⟨us,hu,hv⟩:=hv
  refine⟨us,hu,?_⟩
  exact All2.of_get (hv.length.trans hr.length) fun i x y hx hy=>by
   obtain⟨a,ha,hxa⟩:=All2.get' hv hx
   obtain⟨y',hy',hay⟩:=All2.get' hr ha
   rw[hy]at hy'
   cases hy'
   exact hay.trel h hxa
end Go.Abs
namespace Go.Proofs.YtdmamdnkcefmmaaGreatDoor
open Go Go.Abs
def zaD:IT→List IT
 | .mk _ ks=>ks
mutual
theorem zGG:∀ t:VT,(zdm t).nodes≤t.nodes
 | .mk k n ks=>by
  have:=zxz ks
  simp only[zdm,VT.nodes,IT.nodes]
  split
  ·omega
  ·simp[IT.nodesL]
theorem zxz:∀ ts:List VT,IT.nodesL (zcv ts)≤VT.nodesL ts
 | []=>by simp[zcv,IT.nodesL,VT.nodesL]
 | t::ts=>by
  have:=zGG t
  have:=zxz ts
  simp only[zcv,IT.nodesL,VT.nodesL]
  omega
end
def d0:IT:=.mk 0 []
def tz:VT:=.mk 0 0 []
theorem zjm {data:List Dat} (m n:Int) (kk:List IT) (ks:List VT):rdV data (.mk m kk) (.mk 5 n ks)=if m=0∧kk.length≤6 then rdE data kk (.mk 5 n ks) 0 else -1:=by simp[rdV,VT.kind]
mutual
theorem zGH {data:List Dat}:∀ x:VT,rdV data (zdm x) x=0
 | .mk k n ks=>by
  have hA:=zxA (data:=data) ks 0 (by omega) (by omega)
  by_cases h6:k=6
  ·subst h6
   have:rdV data (zdm (.mk 6 n ks)) (.mk 6 n ks)=rdA data (zcv ks) ks 0:=by simp[zdm,rdV,VT.kind,VT.kids,zxy]
   rw[this,hA]
  ·by_cases h7:k=7
   ·subst h7
    simp[zdm,rdV,VT.kind]
   ·by_cases h5:k=5
    ·subst h5
     simp[zdm,rdV,VT.kind,rdE]
    ·simp[zdm,rdV,VT.kind,h6,h7,h5]
theorem zxA {data:List Dat}:∀ (ts:List VT) (a:Int),0≤a→a≤6→rdA data (zcv ts) ts a=a
 | [],a,_,_=>by simp only[zcv,rdA]
 | t::ts,a,h,h6=>by
  have h1:=zGH (data:=data) t
  rw[zcv,zv4,h1,if_neg (by omega),Int.add_zero,zxA ts a h h6]
end
theorem zjk {data:List Dat} (h8:∀ D∈data,D.cons.length≤8) (t:VT):∀ (rs:List (List IT)) (a:Int),0≤a→a≤6→0≤rdE data rs.flatten t a→(∀ r∈rs,0≤rdE data r t 0)∧rdE data rs.flatten t a=a+(rs.map fun r=>rdE data r t 0).sum
 | [],a,h,h6,_=>by simp only[List.flatten_nil,rdE];simp
 | r::rs,a,h,h6,hd=>by
  rw[List.flatten_cons,zo4 h8 _ _ _ _ h h6,zji r t a h h6]at hd ⊢
  by_cases hr:rdE data r t 0<0∨a+rdE data r t 0>6
  ·rw[zcU hr]at hd;simp at hd
  ·rw[zeR (by omega) (by omega)]at hd ⊢
   rw[if_neg (by omega)]at hd ⊢
   obtain⟨g1,g2⟩:=zjk h8 t rs _ (by omega) (by omega) hd
   refine⟨fun x hx=>?_,by rw[g2];simp;omega⟩
   rcases List.mem_cons.1 hx with rfl | hx
   ·omega
   ·exact g1 x hx
theorem zf1 {data:List Dat}:∀ (vs:List IT) (ts:List VT) (a:Int),0≤a→vs.length=ts.length→0≤rdA data vs ts a→(∀ k (h1:k<vs.length) (h2:k<ts.length),0≤rdV data vs[k] ts[k])∧rdA data vs ts a=a+(List.zipWith (rdV data) vs ts).sum
 | [],[],a,h,_,_=>by simp only[rdA];simp
 | [],_::_,_,_,hl,_=>by simp at hl
 | _::_,[],_,_,hl,_=>by simp at hl
 | v::vs,t::ts,a,h,hl,hd=>by
  rw[zv4]at hd ⊢
  by_cases hr:rdV data v t<0∨a+rdV data v t>6
  ·rw[if_pos hr]at hd;omega
  ·rw[if_neg hr]at hd ⊢
   obtain⟨g1,g2⟩:=zf1 vs ts _ (by omega) (by simpa using hl) hd
   refine⟨fun k h1 h2=>?_,by rw[g2];simp;omega⟩
   cases k with
   | zero=>simp;omega
   | succ k=>simpa using g1 k (by simpa using h1) (by simpa using h2)
end Go.Proofs.YtdmamdnkcefmmaaGreatDoor
namespace Go.Abs
def zcn {α:Type}:List (α→Nat)→List α→Nat
 | [],_=>1
 | _::_,[]=>0
 | w::ws,n::ns=>w n*zcn ws ns+zcn (w::ws) ns
def zfk (l:List Nat):Nat:=l.foldr (·+·) 0
@[simp] theorem zWu:zfk []=0:=rfl
@[simp] theorem zwU (a:Nat) (l:List Nat):zfk (a::l)=a+zfk l:=rfl
theorem zE3 {α:Type} (ws:List (α→Nat)) (a:α) (l:List α):zcn ws l≤zcn ws (a::l):=by
 cases ws <;> simp[zcn]
theorem zwo {α:Type} (w:α→Nat) (ws:List (α→Nat)):∀ l:List α,zcn (w::ws) l≤zfk (l.map w)*zcn ws l
 | []=>by simp[zcn]
 | a::l=>by
  have ih:=zwo w ws l
  have h1:=zE3 ws a l
  simp only[zcn,List.map_cons,zwU,Nat.add_mul]
  have h2:w a*zcn ws l≤w a*zcn ws (a::l):=Nat.mul_le_mul_left _ h1
  have h3:zfk (l.map w)*zcn ws l≤zfk (l.map w)*zcn ws (a::l):=Nat.mul_le_mul_left _ h1
  omega
theorem zwV {α:Type} {w:α→Nat} {b:Nat}:∀ l:List α,(∀ a∈l,w a≤b)→zfk (l.map w)≤l.length*b
 | [],_=>by simp
 | a::l,h=>by
  have h1:=h a (by simp)
  have h2:=zwV l (fun x hx=>h x (by simp[hx]))
  simp only[List.map_cons,zwU,List.length_cons,Nat.succ_mul]
  omega
end Go.Abs
namespace Go.Abs
open Go
end Go.Abs
namespace Go.Abs
def chs:Nat→Nat→Nat
 | _,0=>1
 | 0,_+1=>0
 | n+1,k+1=>chs n k+chs n (k+1)
@[simp] theorem zCD (n:Nat):chs n 0=1:=by cases n <;> rfl
theorem zgy:∀ {n k:Nat},n<k→chs n k=0
 | 0,k+1,_=>rfl
 | n+1,k+1,h=>by rw[chs,zgy (by omega),zgy (by omega)]
theorem zid:∀ (n k:Nat),(k+1)*chs n (k+1)=chs n k*(n-k)
 | 0,k=>by simp[chs]
 | n+1,0=>by
  have:=zid n 0
  simp only[chs,zCD]at this ⊢
  omega
 | n+1,k+1=>by
  have h1:=zid n k
  have h2:=zid n (k+1)
  simp only[chs]
  rw[show n+1-(k+1)=n-k by omega]
  by_cases hk:k+1≤n
  ·obtain⟨m,rfl⟩:∃ m,n=k+1+m:=⟨n-(k+1),by omega⟩
   rw[show k+1+m-k=m+1 by omega]at h1 ⊢
   rw[show k+1+m-(k+1)=m by omega]at h2
   grind
  ·rw[zgy (show n<k+1 by omega),zgy (show n<k+1+1 by omega),show n-k=0 by omega]
   simp
theorem zic:∀ (n k:Nat),chs n k≤n ^ k
 | n,0=>by simp
 | 0,k+1=>by simp[chs]
 | n+1,k+1=>by
  have h1:=zic n k
  have h2:=zic n (k+1)
  have h3:n ^ k≤(n+1) ^ k:=Nat.pow_le_pow_left (by omega) k
  simp only[chs,Nat.pow_succ]at h2 ⊢
  have h4:n ^ k*n≤(n+1) ^ k*n:=Nat.mul_le_mul_right _ h3
  rw[Nat.mul_add]
  omega
end Go.Abs
namespace Go.Proofs.YtdmamdnkcefmmaaGreatDoor
open Go Go.Abs
mutual
def atV (data:List Dat):IT→VT→VT→Nat
 | .mk n ks,t,v=>
  if t.kind=6 then atL data ks t.kids v.kids
  else if t.kind=7 then chs v.kids.length n.toNat
  else if t.kind=5 then zcn (wtL data ks t) (zfd (zdw data t.num.toNat) v)
  else 1
def atL (data:List Dat):List IT→List VT→List VT→Nat
 | [],_,_=>1
 | i::l,ts,vs=>match ts,vs with
  | t::ts,v::vs=>atV data i t v*atL data l ts vs
  | _,_=>1
def wtL (data:List Dat):List IT→VT→List (VT→Nat)
 | [],_=>[]
 | e::es,t=>wtE data e t::wtL data es t
def wtE (data:List Dat):IT→VT→VT→Nat
 | .mk c ks,t,n=>if n.num=c then atL data ks ((za6 data t c).getD []) (pick n.kids ((zdw data t.num.toNat).getD c.toNat [])) else 0
end
mutual
theorem zCk (data:List Dat):∀ (t v:VT),atV data (zdm t) t v=1
 | .mk k n ks,v=>by
  have:=ztT data ks v.kids
  unfold zdm
  rw[atV]
  by_cases h6:k=6
  ·simp[h6,VT.kind,VT.kids]
   simpa[VT.kids]using this
  ·by_cases h7:k=7
   ·simp[h6,h7,VT.kind,VT.kids]
   ·simp only[h6,VT.kind,if_false,h7]
    split <;> simp[wtL,zcn]
theorem ztT (data:List Dat):∀ (ts vs:List VT),atL data (zcv ts) ts vs=1
 | [],vs=>by simp[zcv,atL]
 | t::ts,[]=>by simp[zcv,atL]
 | t::ts,v::vs=>by simp[zcv,atL,zCk data t v,ztT data ts vs]
end
@[simp] theorem zU8 (k:AV→Prop):zaC [] k=k (.tup []):=by simp[zaC]
theorem zGp {n:Nat} {H2 J H':zaa} {K:Kt} (he:H'=H2++J) (hn:n≤H2.length) (hs:HSc H2) (h:K (.tup []) H2):Out n K (.tup []) H':=by
 subst he
 exact⟨.tup [],H2,J,rfl,hn,hs,.tup trivial,h⟩
def pw (H:zaa) (io iv:Nat) (l:List VT):zaa:=(H.set iv (.vec zC4 3 l.length (VT.css l).flatten)).set io (.cells [.ov iv l.length])
section
variable {H J:zaa} {io iv ir is:Nat} {rs:List (List Bool)} {l l':List VT}
@[simp] theorem zV7:(pw H io iv l).length=H.length:=by simp[pw]
end
theorem zjf:∀ {a b c d:List AV},plain a=some c→plain b=some d→plain (a++b)=some (c++d)
 | [],b,c,d,h,h'=>by simp[plain]at h;subst h;simpa using h'
 | x::a,b,c,d,h,h'=>by
  simp only[plain]at h
  split at h
  ·rename_i p q hp hq
   cases h
   simp only[List.cons_append,plain]
   rw[hp,zjf hq h']
  ·cases h
end Go.Proofs.YtdmamdnkcefmmaaGreatDoor
namespace Go.Proofs.YtdmamdnkcefmmaaGreatDoor
open Go Go.Abs
set_option maxRecDepth 100000
def zMV (_:Nat):List Bool:=[]
noncomputable def zMW:Code:=Tryz.f21.body.getD .skip
def zzu (t0 t1:AV) (H:zaa) (K:Kt):Prop:=
 zav t0 H fun t2 H=>
 zav t1 H fun t3 H=>
 zaf 0 t2 fun t5=>
 zae false 1 t5 H fun t6=>
 zaf 0 t3 fun t7=>
 zae false 1 t7 H fun t8=>
 zab .eql true t6 t8 fun t9=>
 zac t9 true H (fun K'=>zaf 1 t2 (K' · H)) fun t11 H=>
 zac t9 true H (fun K'=>zae false 1 t11 H (K' · H)) fun t12 H=>
 zac t9 true H (fun K'=>zaf 1 t3 (K' · H)) fun t13 H=>
 zac t9 true H (fun K'=>zae false 1 t13 H (K' · H)) fun t14 H=>
 zac t9 true H (fun K'=>ACalls tP ziT [t12,t14] H K') fun t15 H=>
 zaj t9 t15 (.bool false) fun t16=>
 zac t16 true H (fun K'=>zaf 2 t2 (K' · H)) fun t18 H=>
 zac t16 true H (fun K'=>zae false 1 t18 H (K' · H)) fun t19 H=>
 zac t16 true H (fun K'=>zaf 2 t3 (K' · H)) fun t20 H=>
 zac t16 true H (fun K'=>zae false 1 t20 H (K' · H)) fun t21 H=>
 zac t16 true H (fun K'=>ACalls tP ziT [t19,t21] H K') fun t22 H=>
 zaj t16 t22 (.bool false) fun t23=>
 K t23 H
theorem zMX {t0 t1:AV} {H:zaa} {K:Kt} (h:HSc H→zzu t0 t1 H K):ACalls tP zol [t0,t1] H K:=
 zao (M:=zMV) Tryz.func21 (c:=zMW) (by kernel_rfl) (fun hs=>Eq.mpr (by kernel_rfl) (h hs))
def zml:Nat→List Bool
 | 4=>rl false [0,2,10,2,12]
 | _=>[]
noncomputable def zsz:Code:=Tryz.f55.body.getD .skip
noncomputable def zQj:List ResultVar:=Tryz.f55.results.toList
def zmm (t0 t1 t12 t13:AV):List AV:=t0::t1::ux 10 (t12::t13::ux 12 [])
def zQh:List Bool:=zml 4
noncomputable def zQf:Code:=zaq [1,1,0,1,0,0] zsz
def zQe (K:Kt):AExit→List AV→zaa→Prop:=zar tP zml [1,1,0,1,0] zsz (zax tP zQj K)
def zAM (t0 t1 t12 t13:AV) (H:zaa) (K:Kt):Prop:=ALoop tP zQf (zQe K) (zmm t0 t1 t12 t13) H
def zsy (t0 t1 t12 t13:AV) (H:zaa) (K:Kt) (Kb4:Lt):Prop:=
 zab .lss false t13 t12 fun t14=>
 zag t14
 (zad H (fun K'=>K' t0 H) fun t16=>
 zad H (fun K'=>K' t13 H) fun t17=>
 zad H (fun K'=>zai 1 t16 t17 (K' · H)) fun t18=>
 zad H (fun K'=>zal false 1 t18 H (K' · H)) fun t19=>
 zad H (fun K'=>K' t1 H) fun t20=>
 zad H (fun K'=>K' t13 H) fun t21=>
 zad H (fun K'=>zai 1 t20 t21 (K' · H)) fun t22=>
 zad H (fun K'=>zal false 1 t22 H (K' · H)) fun t23=>
 zad H (fun K'=>zab .neq false t19 t23 (K' · H)) fun t24=>
 zag t24
 (K (.bool false) H)
 (zab .add false t13 (.int .i64 1) fun t25=>
 Kb4 (zmm t0 t1 t12 t25) H))
 (K (.bool true) H)
def zAL (t0 t1:AV) (H:zaa) (K:Kt):Prop:=
 zah 1 t0 fun t7=>
 zah 1 t1 fun t9=>
 zab .neq false t7 t9 fun t10=>
 zag t10
 (K (.bool false) H)
 (zah 1 t0 fun t12=>
 zAM t0 t1 t12 (.int .i64 0) H K)
theorem zQg {t0 t1 t12 t13:AV} {H:zaa} {K:Kt} (Inv:Nat→AV→zaa→Prop) (n:Nat) (h0:HSc H→Inv n t13 H)
  (round:Rd1 (fun t13=>zmm t0 t1 t12 t13) (fun t13=>fun H Kb4=>zsy t0 t1 t12 t13 H K Kb4) H Inv):zAM t0 t1 t12 t13 H K:=
 lp1 (M:=zml) zQh t13 (by kernel_rfl) Inv n h0 round
theorem zQi {t0 t1:AV} {H:zaa} {K:Kt} (h:HSc H→zAL t0 t1 H K):ACalls tP ziT [t0,t1] H K:=
 zao (M:=zml) Tryz.func55 (c:=zsz) (by kernel_rfl) (fun hs=>Eq.mpr (by kernel_rfl) (h hs))
end Go.Proofs.YtdmamdnkcefmmaaGreatDoor
namespace Go.Proofs.YtdmamdnkcefmmaaGreatDoor
open Go Go.Abs Go.RowKit
theorem zEA (rs:List (List Bool)) (b:Nat):∀ v:VT,v.nodes≤b→∀ x∈zfd rs v,x.nodes≤b:=by
 intro v
 induction hm:v.nodes using Nat.strongRecOn generalizing v with
 | _ m ih=>
  intro hb x hx
  obtain⟨k,n,ks⟩:=v
  have key:∀ (l:List VT) (bs:List Bool),(∀ y∈l,y.nodes<m)→∀ x∈zdM rs l bs,x.nodes≤b:=by
   intro l
   induction l with
   | nil=>intro bs _ x hx;simp[zdM]at hx
   | cons y l ihl=>
    intro bs hy x hx
    match bs with
    | []=>simp[zdM]at hx
    | c::bs=>
     simp only[zdM,List.mem_append]at hx
     rcases hx with hx | hx
     ·split at hx
      ·have h1:=hy y (by simp)
       exact ih _ h1 y rfl (by omega) x hx
      ·simp at hx
     ·exact ihl bs (fun z hz=>hy z (by simp[hz])) x hx
  simp only[zfd,List.mem_cons]at hx
  rcases hx with rfl | hx
  ·omega
  ·exact key ks _ (fun y hy=>by have:=zih (k:=k) (n:=n) y hy;omega) x hx
end Go.Proofs.YtdmamdnkcefmmaaGreatDoor
namespace Go.Proofs.YtdmamdnkcefmmaaGreatDoor
open Go Go.Abs
theorem zo3 {data:List Dat}:∀ (l:List IT) (ts:List VT) (a:Int),0≤a→0≤rdA data l ts a→a≤rdA data l ts a
 | [],ts,a,_,_=>by rw[rdA];exact Int.le_refl _
 | i::l,[],a,_,h=>by simp[rdA]at h
 | i::l,t::ts,a,ha,h=>by
  simp only[rdA]at h ⊢
  by_cases hc:rdV data i t<0∨a+rdV data i t>6
  ·rw[if_pos hc]at h;omega
  ·rw[if_neg hc]at h ⊢
   have:=zo3 l ts _ (by omega) h
   omega
mutual
theorem ztU {data:List Dat} {N:Nat} (hN:1≤N):∀ (i:IT) (t v:VT),v.nodes≤N→0≤rdV data i t→atV data i t v≤N ^ (rdV data i t).toNat
 | .mk n ks,t,v,hv,hd=>by
  have hvk:∀ x∈v.kids,x.nodes≤N:=by
   obtain⟨a,b,c⟩:=v
   intro x hx
   simp only[VT.kids]at hx
   have:=zih (k:=a) (n:=b) x hx
   omega
  rw[rdV]at hd ⊢
  rw[atV]
  by_cases h6:t.kind=6
  ·simp only[h6,if_true]at hd ⊢
   by_cases hn:n=0
   ·by_cases hl:t.kids.length=ks.length
    ·simp only[hn,hl,if_true]at hd ⊢
     have:=znh hN ks t.kids v.kids 0 (by omega) hvk hd
     simpa using this
    ·simp[hn,hl]at hd
   ·simp[hn]at hd
  ·by_cases h7:t.kind=7
   ·simp only[h6,h7,if_false,if_true]at hd ⊢
    by_cases hc:0≤n∧n≤6∧ks.length=0
    ·simp only[hc,and_self,if_true]at hd ⊢
     simp
     refine Nat.le_trans (zic _ _) (Nat.pow_le_pow_left ?_ _)
     obtain⟨a,b,c⟩:=v
     have:=VT.len_le c
     simp only[VT.kids,VT.nodes]at hv ⊢
     omega
    ·rw[if_neg hc]at hd;omega
   ·by_cases h5:t.kind=5
    ·simp only[h6,h7,h5,if_false,if_true]at hd ⊢
     by_cases hc:n=0∧ks.length≤6
     ·simp only[hc,and_self,if_true]at hd ⊢
      have hpl:=zv0 (zdw data t.num.toNat) v
      have:=zwp hN ks t (zfd (zdw data t.num.toNat) v) 0 (by omega) (by omega) (zEA _ N v hv) hd
      simpa using this
     ·rw[if_neg hc]at hd;omega
    ·simp only[h6,h7,h5,if_false]at hd ⊢
     exact Nat.pow_pos hN
theorem znh {data:List Dat} {N:Nat} (hN:1≤N):∀ (l:List IT) (ts vs:List VT) (a:Int),0≤a→(∀ x∈vs,x.nodes≤N)→0≤rdA data l ts a→atL data l ts vs≤N ^ (rdA data l ts a-a).toNat
 | [],ts,vs,a,_,_,_=>by rw[atL];exact Nat.pow_pos hN
 | i::l,[],vs,a,_,_,_=>by simp only[atL];exact Nat.pow_pos hN
 | i::l,t::ts,[],a,_,_,_=>by simp only[atL];exact Nat.pow_pos hN
 | i::l,t::ts,v::vs,a,ha,hv,hd=>by
  simp only[rdA]at hd ⊢
  by_cases hc:rdV data i t<0∨a+rdV data i t>6
  ·rw[if_pos hc]at hd;omega
  ·rw[if_neg hc]at hd ⊢
   have h1:=ztU (data:=data) hN i t v (hv v (by simp)) (by omega)
   have h2:=znh hN l ts vs (a+rdV data i t) (by omega) (fun x hx=>hv x (by simp[hx])) hd
   have hge:=(zo3 l ts (a+rdV data i t) (by omega) hd)
   simp only[atL]
   refine Nat.le_trans (Nat.mul_le_mul h1 h2) ?_
   rw[←Nat.pow_add]
   exact Nat.pow_le_pow_right hN (by omega)
theorem zwp {data:List Dat} {N:Nat} (hN:1≤N):∀ (es:List IT) (t:VT) (nodes:List VT) (a:Int),0≤a→nodes.length≤N→(∀ x∈nodes,x.nodes≤N)→0≤rdE data es t a→zcn (wtL data es t) nodes≤N ^ (rdE data es t a-a).toNat
 | [],t,nodes,a,_,_,_,_=>by simp only[wtL,zcn];exact Nat.pow_pos hN
 | .mk c ks::es,t,nodes,a,ha,hl,hv,hd=>by
  rw[zec]at hd ⊢
  by_cases hc:c<0∨8≤c
  ·rw[if_pos hc]at hd;omega
  ·rw[if_neg hc]at hd ⊢
   cases hp:za6 data t c with
   | none=>rw[hp]at hd;simp at hd
   | some ps=>
    rw[hp]at hd
    simp only at hd ⊢
    by_cases hlen:ps.length=ks.length
    ·rw[if_pos hlen]at hd ⊢
     by_cases hx:rdA data ks ps 0<0∨a+1+rdA data ks ps 0>6
     ·rw[if_pos hx]at hd;omega
     ·rw[if_neg hx]at hd ⊢
      have h2:=zwp hN es t nodes (a+(1+rdA data ks ps 0)) (by omega) hl hv hd
      have hw:∀ x∈nodes,wtE data (.mk c ks) t x≤N ^ (rdA data ks ps 0).toNat:=by
       intro x hxm
       rw[wtE]
       split
       ·rw[hp]
        have hpk:∀ y∈pick x.kids ((zdw data t.num.toNat).getD c.toNat []),y.nodes≤N:=by
         intro y hy
         have h3:=hv x hxm
         obtain⟨p,q,r⟩:=x
         have hy':y∈r:=zhi hy
         have:=zih (k:=p) (n:=q) y hy'
         omega
        have:=znh (data:=data) hN ks ps (pick x.kids ((zdw data t.num.toNat).getD c.toNat [])) 0 (by omega) hpk (by omega)
        simpa using this
       ·exact Nat.zero_le _
      have h3:=zwo (wtE data (.mk c ks) t) (wtL data es t) nodes
      have h4:=zwV nodes hw
      have hge:rdE data es t (a+(1+rdA data ks ps 0))=-1∨(a+(1+rdA data ks ps 0))+es.length≤rdE data es t (a+(1+rdA data ks ps 0)):=zjj es t _ (by omega)
      rw[wtL]
      refine Nat.le_trans h3 (Nat.le_trans (Nat.mul_le_mul (Nat.le_trans h4 (Nat.mul_le_mul_right _ hl)) h2) ?_)
      rw[show N*N ^ (rdA data ks ps 0).toNat=N ^ ((rdA data ks ps 0).toNat+1) by rw[Nat.pow_succ,Nat.mul_comm],←Nat.pow_add]
      exact Nat.pow_le_pow_right hN (by omega)
    ·rw[if_neg hlen]at hd;omega
end
def zaQ:IT→Int
 | .mk n _=>n
def bef (e i:IT):IT:=.mk 0 (e::zaD i)
def fct:Nat→Nat
 | 0=>1
 | n+1=>(n+1)*fct n
def pcf (a b k:Nat):Nat:=if max a b≤k then fct k / (fct (k-a)*fct (k-b)*fct (a+b-k)) else 0
def zbH (a b:Nat):List (IT × Nat):=(List.range (a+b+1)).map fun (k:Nat)=>(.mk (k:Int) [],pcf a b k)
def zdi (out:List (List IT × Nat)) (ws:List (IT × Nat)):List (List IT × Nat):=ws.flatMap fun w=>out.map fun r=>(r.1++[w.1],r.2*w.2)
mutual
def zbw (data:List Dat):Nat→VT→IT→IT→List (IT × Nat)
 | 0,_,_,_=>[]
 | f+1,t,i,j=>if t.kind=6 then zb9 [] ((zcl data f t.kids (zaD i) (zaD j)).map fun r=>(.mk 0 r.1,r.2))
  else if t.kind=7 then zb9 [] (zbH (zaQ i).toNat (zaQ j).toNat)
  else if t.kind=5 then zb9 [] (za5 data f t (zaD i) (zaD j)) else [(.mk 0 [],1)]
def zcl (data:List Dat):Nat→List VT→List IT→List IT→List (List IT × Nat)
 | 0,_,_,_=>[]
 | f+1,ts,l,m=>(List.range ts.length).foldl (fun out k=>zdi out (zbw data f (ts.getD k tz) (l.getD k d0) (m.getD k d0))) [([],1)]
def za5 (data:List Dat):Nat→VT→List IT→List IT→List (IT × Nat)
 | 0,_,_,_=>[]
 | f+1,t,[],m=>[(.mk 0 m,1)]
 | f+1,t,a::l,[]=>[(.mk 0 (a::l),1)]
 | f+1,t,a::l,b::m=>
  if zaQ a≠zaQ b then zb9 (zb9 [] ((za5 data f t l (b::m)).map fun w=>(bef a w.1,w.2))) ((za5 data f t (a::l) m).map fun w=>(bef b w.1,w.2))
  else zb9 (zb9 (zb9 [] ((za5 data f t l (b::m)).map fun w=>(bef a w.1,w.2))) ((za5 data f t (a::l) m).map fun w=>(bef b w.1,w.2)))
   ((zcl data f ((za6 data t (zaQ a)).getD []) (zaD a) (zaD b)).flatMap fun r=>(za5 data f t l m).map fun w=>(bef (.mk (zaQ a) r.1) w.1,r.2*w.2))
end
def zbm (g:List IT→Nat) (s:List (List IT × Nat)):Nat:=(s.map fun r=>r.2*g r.1).foldr (·+·) 0
@[simp] theorem zWv (g:List IT→Nat):zbm g []=0:=rfl
@[simp] theorem zhv (g:List IT→Nat) (r:List IT × Nat) (s:List (List IT × Nat)):zbm g (r::s)=r.2*g r.1+zbm g s:=rfl
theorem zhu (g:List IT→Nat):∀ a b,zbm g (a++b)=zbm g a+zbm g b
 | [],b=>by simp
 | p::a,b=>by simp[zhu g a b];omega
theorem zjv {β:Type} (f:IT→Nat) (h:β→IT × Nat):∀ l:List β,zaJ f (l.map h)=(l.map fun x=>(h x).2*f (h x).1).foldr (·+·) 0
 | []=>rfl
 | x::l=>by simp[zjv f h l]
theorem zjw (f g:IT→Nat) (h:IT→IT) (c:Nat) (he:∀ x,f (h x)=c*g x):∀ l:List (IT × Nat),zaJ f (l.map fun w=>(h w.1,w.2))=c*zaJ g l
 | []=>by simp
 | w::l=>by
  rw[List.map_cons,zcQ,zcQ,zjw f g h c he l,he,Nat.mul_add]
  simp only[Nat.mul_comm,Nat.mul_left_comm,Nat.mul_assoc]
theorem zEO (g:List IT→Nat) (g':List IT→Nat) (u:IT→Nat) (ws:List (IT × Nat)) (out:List (List IT × Nat)) (h:∀ r∈out,∀ w∈ws,g (r.1++[w.1])=g' r.1*u w.1):zbm g (zdi out ws)=zbm g' out*zaJ u ws:=by
 unfold zdi
 induction ws with
 | nil=>simp
 | cons w ws ih=>
  rw[List.flatMap_cons,zhu,ih (fun r hr x hx=>h r hr x (by simp[hx])),zcQ,Nat.mul_add]
  congr 1
  have:∀ out:List (List IT × Nat),(∀ r∈out,g (r.1++[w.1])=g' r.1*u w.1)→zbm g (out.map fun r=>(r.1++[w.1],r.2*w.2))=zbm g' out*(w.2*u w.1):=by
   intro out ho
   induction out with
   | nil=>simp
   | cons r out ih=>
    rw[List.map_cons,zhv,zhv,ih (fun x hx=>ho x (by simp[hx])),ho r (by simp),Nat.add_mul]
    grind
  exact this out (fun r hr=>h r hr w (by simp))
theorem zwd {out:List (List IT × Nat)} {ws:List (IT × Nat)} {x:List IT × Nat} (h:x∈zdi out ws):∃ r∈out,∃ w∈ws,x=(r.1++[w.1],r.2*w.2):=by
 unfold zdi at h
 obtain⟨w,hw,h⟩:=List.mem_flatMap.1 h
 obtain⟨r,hr,rfl⟩:=List.mem_map.1 h
 exact⟨r,hr,w,hw,rfl⟩
def zcf (data:List Dat) (f:Nat) (ts:List VT) (l m:List IT) (k:Nat):List (List IT × Nat):=(List.range k).foldl (fun out k=>zdi out (zbw data f (ts.getD k tz) (l.getD k d0) (m.getD k d0))) [([],1)]
theorem zo8 (data:List Dat) (f:Nat) (ts:List VT) (l m:List IT):zcf data f ts l m 0=[([],1)]:=rfl
theorem zhn (data:List Dat) (f:Nat) (ts:List VT) (l m:List IT) (k:Nat):zcf data f ts l m (k+1)=zdi (zcf data f ts l m k) (zbw data f (ts.getD k tz) (l.getD k d0) (m.getD k d0)):=by
 rw[zcf,List.range_succ,List.foldl_append];rfl
theorem zil (data:List Dat) (f:Nat) (ts:List VT) (l m:List IT):zcl data (f+1) ts l m=zcf data f ts l m ts.length:=by rw[zcl];rfl
theorem zv9 {data:List Dat} {f:Nat} {ts:List VT} {l m:List IT}:∀ k,∀ r∈zcf data f ts l m k,r.1.length=k:=by
 intro k
 induction k with
 | zero=>intro r hr;simp[zo8]at hr;subst hr;rfl
 | succ k ih=>
  intro r hr
  rw[zhn]at hr
  obtain⟨q,hq,w,_,rfl⟩:=zwd hr
  simp[ih q hq]
def zpp (K:Nat) (f:Nat→Nat):Nat:=((List.range K).map f).foldr (·+·) 0
end Go.Proofs.YtdmamdnkcefmmaaGreatDoor
