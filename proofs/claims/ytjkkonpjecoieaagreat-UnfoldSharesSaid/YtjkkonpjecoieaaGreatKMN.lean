import Derived.Test.YtjkkonpjecoieaaGreatKMK
import Derived.Test.YtjkkonpjecoieaaGreatKUE
import Derived.Test.YtjkkonpjecoieaaGreatKMF
import Derived.Test.YtjkkonpjecoieaaGreatCH
import Derived.Test.YtjkkonpjecoieaaGreatKUA
import Derived.Test.YtjkkonpjecoieaaGreatAbsO3
set_option linter.unusedSimpArgs false
set_option linter.unusedVariables false
namespace Go.Proofs.YtjkkonpjecoieaaGreat
open Go Go.Abs
set_option maxRecDepth 8000
def hpL (H:zaa) (t:VT) (i j:IT) (s:List (IT × Nat)):zaa:=H++[.cells t.cs,.cells i.cs,.cells j.cs,.vec za5 5 s.length (tms s)]
theorem zoM {H:zaa} (hs:HSc H) {t:VT} {i j:IT} {s:List (IT × Nat)}:HSc (hpL H t i j s):=
 hs.append (by
  obtain⟨kt,nt,tk⟩:=t
  obtain⟨ni,li⟩:=i
  obtain⟨nj,lj⟩:=j
  simp only[AB.sc,List.all_cons,List.all_nil,zqC]
  simp[AV.scA,AV.scB,VT.cs,IT.cs])
theorem zoN {H:zaa} {t:VT} {i j:IT} {s s':List (IT × Nat)} {J:zaa}:(hpL H t i j s++J).set (H.length+3) (.vec za5 5 s'.length (tms s'))=hpL H t i j s'++J:=by
 simp[hpL,List.set_append]
theorem zoL {H:zaa} {t:VT} {i j:IT} {s:List (IT × Nat)} {J:zaa}:(hpL H t i j s++J)[H.length+3]?=some (.vec za5 5 s.length (tms s)):=by
 simp[hpL,List.getElem?_append]
@[simp] theorem zEi {H:zaa} {t:VT} {i j:IT} {s:List (IT × Nat)}:(hpL H t i j s).length=H.length+4:=by simp[hpL]
@[simp] theorem zWV {H:zaa} {t:VT} {i j:IT} {s:List (IT × Nat)} {c:AB} {J:zaa}:(hpL H t i j s++c::J)[H.length+4]?=some c:=by
 rw[←zEi (H:=H) (t:=t) (i:=i) (j:=j) (s:=s)];simp
theorem zEC {data:List Dat} (hk:za2 data) (h8:∀ D∈data,D.cons.length≤8) (hD:zbe data=true) {f:Nat} (hQ:ziL data f) (hM:ziK data f):zn5 data (f+1):=by
 intro t i j hf htn htv hi hj h6 hn H K hK
 obtain⟨k,tn,tks⟩:=t
 obtain⟨n,l⟩:=i
 obtain⟨n',m⟩:=j
 simp only[IT.nodes]at hf hn
 refine ACalls.out (zRu fun hs=>?_)
 have emp:Gd ([]:List (IT × Nat)):=Gd.nil
 have hTc:(VT.mk k tn tks).cs=[.int .i64 k,.int .i64 tn,.sl (VT.css tks) .none]:=rfl
 have hIc:(IT.mk n l).cs=[.int .i64 n,.sl (IT.css l) .none]:=rfl
 have hJc:(IT.mk n' m).cs=[.int .i64 n',.sl (IT.css m) .none]:=rfl
 have hH3:(H++[AB.cells (VT.mk k tn tks).cs,.cells (IT.mk n l).cs,.cells (IT.mk n' m).cs]).length=H.length+3:=by simp
 have hout:∀ (s:List (IT × Nat)) (J:zaa),s=zbv data (f+1) (.mk k tn tks) (.mk n l) (.mk n' m)→Out H.length K (.ov (H.length+3) s.length) (hpL H (.mk k tn tks) (.mk n l) (.mk n' m) s++J):=by
  intro s J hs'
  subst hs'
  have:=zpV (H:=H) (J:=[.cells (VT.mk k tn tks).cs,.cells (IT.mk n l).cs,.cells (IT.mk n' m).cs,.vec za5 5 (zbv data (f+1) (.mk k tn tks) (.mk n l) (.mk n' m)).length (tms (zbv data (f+1) (.mk k tn tks) (.mk n l) (.mk n' m)))]++J) (K:=K) (zbv data (f+1) (.mk k tn tks) (.mk n l) (.mk n' m)) (H.length+3) (by omega) (by simp[List.getElem?_append]) hs hK
  simpa[hpL]using this
 by_cases k6:k=6
 ·subst k6
  have ev:∀ (n:Int) (l:List IT),0≤rdV data (.mk n l) (.mk 6 tn tks)→n=0∧l.length=tks.length∧rdV data (.mk n l) (.mk 6 tn tks)=rdA data l tks 0:=fun n l h=>by
   rw[rdV]at h ⊢
   simp only[VT.kind,VT.kids,if_true]at h ⊢
   by_cases hn:n=0
   ·by_cases hl:tks.length=l.length
    ·simp[hn,hl]
    ·simp[hn,hl]at h
   ·simp[hn]at h
  obtain⟨i1,i2,i3⟩:=ev n l hi
  obtain⟨j1,j2,j3⟩:=ev n' m hj
  rw[i3]at hi h6
  rw[j3]at hj h6
  have hkl:=VT.len_le tks
  have hmem:∀ (ts:List VT) (x:VT),x∈ts→x.nodes≤VT.nodesL ts:=by
   intro ts
   induction ts with
   | nil=>intro x hx;simp at hx
   | cons t ts ih=>
    intro x hx
    simp only[VT.nodesL]
    rcases List.mem_cons.1 hx with rfl | hx
    ·omega
    ·have:=ih x hx;omega
  have htks:∀ x∈tks,x.nodes≤1000∧zaR data 0 x=true:=fun x hx=>by
   have:=hmem tks x hx
   simp only[VT.nodes]at htn
   exact⟨by omega,zko htv x hx⟩
  simp only[VT.nodes]at htn
  obtain⟨R,hR⟩:∃ R,R=zcd data f tks l m:=⟨_,rfl⟩
  obtain⟨R1,R2⟩:=(zdu h8 f).2.1 tks l m (by omega) i2 j2 hi hj h6
  rw[←hR]at R1 R2
  replace R2:=Nat.le_trans R2 (zdL h6)
  have Rl:=zoV fun p hp=>(R1 p hp).1
  have hmf:zbv data (f+1) (.mk 6 tn tks) (.mk n l) (.mk n' m)=zaD [] (R.map fun r=>(.mk 0 r.1,r.2)):=by
   rw[zbv,hR];simp[VT.kind,VT.kids,zaC]
  have hsR:∀ q≤R.length,Gd (zaD [] ((R.take q).map fun r=>(IT.mk 0 r.1,r.2))):=by
   intro q
   induction q with
   | zero=>intro _;exact Gd.nil
   | succ q ih=>
    intro hq
    rw[zdr _ _ (show q<R.length by omega)]
    have:=(R1 R[q] (List.getElem_mem (by omega))).2.2.2.2.2.2
    exact (ih (by omega)).add (by simp only[IT.nodes];omega) _
  simp[ziy,hTc,hIc,hJc,Nat.add_assoc]
  refine hQ tks l m (by omega) i2 j2 (by omega) htks hi hj h6 (by omega) _ _ ?_
  rw[←hR]
  simp
  rw[←hTc,←hIc,←hJc]
  unfold znm
  refine ALoop.vec 9 za5 5 rfl ?_
  rw[hH3,List.append_assoc]
  show znm (.ov (H.length+3) (zaD [] ((R.take 0).map fun r=>(IT.mk 0 r.1,r.2))).length) _ _ _ (hpL H (.mk 6 tn tks) (.mk n l) (.mk n' m) (zaD [] ((R.take 0).map fun r=>(IT.mk 0 r.1,r.2)))) _
  refine zRq (Inv:=fun q t9 t35 H'=>∃ q':Nat,q'≤R.length∧R.length-q'=q∧t35=.int .i64 q'∧t9=.ov (H.length+3) (zaD [] ((R.take q').map fun r=>(IT.mk 0 r.1,r.2))).length∧H'=hpL H (.mk 6 tn tks) (.mk n l) (.mk n' m) (zaD [] ((R.take q').map fun r=>(IT.mk 0 r.1,r.2)))) R.length ?_ ?_
  ·intro _;exact⟨0,by omega,rfl,rfl,rfl,rfl⟩
  ·rintro q t9 t35 H' ⟨q',hq,rfl,rfl,rfl,rfl⟩ hsc6 hlen6 hsF6 Kb6 hKb6
   by_cases hql:q'<R.length
   ·have hr:=R1 R[q'] (List.getElem_mem hql)
    have hrc:=zo0 (List.getElem_mem hql)
    have hstep:=zdr (s:=[]) (fun r:List IT × Nat=>(IT.mk 0 r.1,r.2)) R hql
    have hNj:zaG (fun _=>1) (zaD [] ((R.take q').map fun r=>(IT.mk 0 r.1,r.2)))≤729:=by
     rw[zef,zcQ,Nat.zero_add,zfC]
     exact Nat.le_trans (zqv (fun _=>1) R q') R2
    have hG:=hsR q' (by omega)
    generalize hsd:zaD [] ((R.take q').map fun r=>(IT.mk 0 r.1,r.2))=s at *
    have hbc:([.int .i64 0,.sl (IT.css R[q'].1) .none]:List AV)=(IT.mk 0 R[q'].1).cs:=rfl
    simp[ztS,hql,zaz,zaV,wi q' (by omega),AV.known]
    rw[hbc]
    have hrn:=hr.2.2.2.2.2.2
    refine zfd hG (by omega) (IT.mk 0 R[q'].1) (by simp only[IT.nodes];omega) R[q'].2 (by omega) (H.length+3) _ _ zoL ?_
    rw[zoN]
    exact hKb6 _ _ ⟨R.length-(q'+1),by omega,Back.at (J:=[.cells (.sl (IT.css R[q'].1) .none::zak (R[q'].2:Int))]) (H2:=hpL H (.mk 6 tn tks) (.mk n l) (.mk n' m) (zbd s (IT.mk 0 R[q'].1) R[q'].2)) rfl (by simp) (zoM hs) (by simp[zni,ux,AV.sc,AV.scA,AV.scB,AV.scV]) ⟨_,_,rfl,q'+1,by omega,rfl,rfl,by rw[hstep],by rw[hstep]⟩⟩
   ·obtain rfl:q'=R.length:=by omega
    rw[List.take_length]
    have:=hout (zaD [] (R.map fun r=>(IT.mk 0 r.1,r.2))) [] hmf.symm
    simp[ztS,zfU,znj]
    simpa using this
 ·by_cases k7:k=7
  ·subst k7
   have ev:∀ (n:Int) (l:List IT),0≤rdV data (.mk n l) (.mk 7 tn tks)→0≤n∧n≤6∧rdV data (.mk n l) (.mk 7 tn tks)=n:=fun n l h=>by
    rw[rdV]at h ⊢
    simp only[VT.kind,k6,if_false,if_true]at h ⊢
    by_cases hc:0≤n∧n≤6∧l.length=0
    ·rw[if_pos hc];exact⟨hc.1,hc.2.1,rfl⟩
    ·rw[if_neg hc]at h;omega
   obtain⟨i1,i2,i3⟩:=ev n l hi
   obtain⟨j1,j2,j3⟩:=ev n' m hj
   rw[i3]at hi h6
   rw[j3]at hj h6
   obtain⟨a,rfl⟩:∃ a:Nat,n=a:=⟨n.toNat,by omega⟩
   obtain⟨b,rfl⟩:∃ b:Nat,n'=b:=⟨n'.toNat,by omega⟩
   have hmf:zbv data (f+1) (.mk 7 tn tks) (.mk a l) (.mk b m)=zaD [] (zbJ a b):=by
    rw[zbv];simp[VT.kind,zaW]
   simp[ziy,hTc,hIc,hJc,Nat.add_assoc]
   refine zH4 a b (by omega) (by omega) _ _ ?_
   simp
   rw[←hTc,←hIc,←hJc]
   unfold znk
   refine ALoop.vec 9 za5 5 rfl ?_
   rw[hH3,List.append_assoc]
   have hpl:(zcG a b (a+b+1)).length=a+b+1:=by simp[zcG]
   have hsR:∀ q≤a+b+1,Gd (zaD [] ((zbJ a b).take q)):=by
    intro q
    induction q with
    | zero=>intro _;exact Gd.nil
    | succ q ih=>
     intro hq
     have hq':q<(zbJ a b).length:=by simp[zbJ];omega
     have:=zdr (s:=[]) (fun r:IT × Nat=>r) (zbJ a b) hq'
     simp only[List.map_id']at this
     rw[this]
     exact (ih (by omega)).add (by simp[zbJ,IT.nodes,IT.nodesL]) _
   have hNa:zaG (fun _=>1) (zbJ a b)≤729:=by
    rw[zbJ,zfC]
    have:=zu9 a (by omega) b (by omega) (by omega)
    unfold zbX at this
    refine Nat.le_trans (by simpa using this) (Nat.le_trans (Nat.pow_le_pow_right (by omega) (show a+b≤6 by omega)) (by decide))
   show znk (.ov (H.length+3) (zaD [] ((zbJ a b).take 0)).length) _ _ _ (hpL H (.mk 7 tn tks) (.mk a l) (.mk b m) (zaD [] ((zbJ a b).take 0))) _
   refine zRo (Inv:=fun q t9 t59 H'=>∃ q':Nat,q'≤a+b+1∧a+b+1-q'=q∧t59=.int .i64 q'∧t9=.ov (H.length+3) (zaD [] ((zbJ a b).take q')).length∧H'=hpL H (.mk 7 tn tks) (.mk a l) (.mk b m) (zaD [] ((zbJ a b).take q'))) (a+b+1) ?_ ?_
   ·intro _;exact⟨0,by omega,rfl,rfl,rfl,rfl⟩
   ·rintro q t9 t59 H' ⟨q',hq,rfl,rfl,rfl,rfl⟩ hsc13 hlen13 hsF13 Kb13 hKb13
    have hal:(zbJ a b).length=a+b+1:=by simp[zbJ]
    by_cases hql:q'<a+b+1
    ·have hq':q'<(zbJ a b).length:=by omega
     have hstep:=zdr (s:=[]) (fun r:IT × Nat=>r) (zbJ a b) hq'
     simp only[List.map_id']at hstep
     have hNj:zaG (fun _=>1) (zaD [] ((zbJ a b).take q'))≤729:=by
      rw[zef,zcQ,Nat.zero_add]
      exact Nat.le_trans (zfD _ _ _) hNa
     have hG:=hsR q' (by omega)
     have he:(zbJ a b)[q']=(.mk (q':Int) [],pcf a b q'):=by simp[zbJ]
     have hc:=zeN (List.getElem_mem hq')
     rw[he]at hstep hc
     generalize hsd:zaD [] ((zbJ a b).take q')=s at *
     have hge:(zcG a b (a+b+1))[q']'(by omega)=pcf a b q':=by simp[zcG]
     have hql':(q':Int)<(a:Int)+(b:Int)+1:=by omega
     have hg2:(zcN (zcG a b (a+b+1)))[q']?=some (zak (pcf a b q':Int)):=by simp[zcN,zcG,hql]
     simp[ztQ,hpl,hql',hge,hg2,zaz,zaV,wi q' (by omega),AV.known]
     refine ACalls.wk (args':=[.ov (H.length+3) s.length,.agg (IT.mk (q':Int) []).cs,.agg (zak (pcf a b q':Int))]) ?_ ⟨.rfl',.agg ⟨.refl _,.snil,trivial⟩,.rfl',trivial⟩
     refine zfd hG (by omega) (IT.mk (q':Int) []) (by simp[IT.nodes,IT.nodesL]) (pcf a b q') (by omega) (H.length+3) _ _ zoL ?_
     rw[zoN]
     exact hKb13 _ _ ⟨a+b+1-(q'+1),by omega,Back.at (J:=[.cells (zak (pcf a b q':Int))]) (H2:=hpL H (.mk 7 tn tks) (.mk a l) (.mk b m) (zbd s (.mk (q':Int) []) (pcf a b q'))) rfl (by simp) (zoM hs) (by simp[zng,ux,AV.sc,AV.scA,AV.scB,AV.scV]) ⟨_,_,by simp only[hpl];rfl,q'+1,by omega,rfl,rfl,by rw[hstep],by rw[hstep]⟩⟩
    ·obtain rfl:q'=a+b+1:=by omega
     rw[List.take_of_length_le (by omega)]
     have:=hout (zaD [] (zbJ a b)) [] hmf.symm
     simp[ztQ,zfU,znj,hpl]
     simpa using this
  ·by_cases k5:k=5
   ·subst k5
    have ev:∀ (n:Int) (l:List IT),0≤rdV data (.mk n l) (.mk 5 tn tks)→n=0∧l.length≤6∧rdV data (.mk n l) (.mk 5 tn tks)=rdE data l (.mk 5 tn tks) 0:=fun n l h=>by
     rw[zgt]at h ⊢
     by_cases hc:n=0∧l.length≤6
     ·rw[if_pos hc];exact⟨hc.1,hc.2,rfl⟩
     ·rw[if_neg hc]at h;omega
    obtain⟨i1,i2,i3⟩:=ev n l hi
    obtain⟨j1,j2,j3⟩:=ev n' m hj
    rw[i3]at hi h6
    rw[j3]at hj h6
    obtain⟨R,hR⟩:∃ R,R=zaK data f (.mk 5 tn tks) l m:=⟨_,rfl⟩
    obtain⟨R1,R2⟩:=(zdu h8 f).2.2 (.mk 5 tn tks) l m (by omega) hi hj h6
    rw[←hR]at R1 R2
    replace R2:=Nat.le_trans R2 (zdL h6)
    have Rl:=zeJ fun p hp=>(R1 p hp).1
    have hmf:zbv data (f+1) (.mk 5 tn tks) (.mk n l) (.mk n' m)=zaD [] R:=by
     rw[zbv,hR];simp[VT.kind,zaC]
    simp[ziy,hTc,hIc,hJc,Nat.add_assoc]
    rw[←hTc]
    refine hM (.mk 5 tn tks) l m (by omega) htn htv rfl hi hj h6 (by omega) _ _ ?_
    rw[←hR]
    simp
    rw[←hIc,←hJc]
    have hsR:∀ q≤R.length,Gd (zaD [] (R.take q)):=by
     intro q
     induction q with
     | zero=>intro _;exact Gd.nil
     | succ q ih=>
      intro hq
      have:=zdr (s:=[]) (fun r:IT × Nat=>r) R (show q<R.length by omega)
      simp only[List.map_id']at this
      rw[this]
      have h1:=(R1 R[q] (List.getElem_mem (by omega))).2.2.2.2.2.2
      have h2:=zhU R[q].1
      exact (ih (by omega)).add (by omega) _
    unfold znl
    refine ALoop.vec 9 za5 5 rfl ?_
    rw[hH3,List.append_assoc]
    show znl (.ov (H.length+3) (zaD [] (R.take 0)).length) _ _ _ (hpL H (.mk 5 tn tks) (.mk n l) (.mk n' m) (zaD [] (R.take 0))) _
    refine zRp (Inv:=fun q t9 t80 H'=>∃ q':Nat,q'≤R.length∧R.length-q'=q∧t80=.int .i64 q'∧t9=.ov (H.length+3) (zaD [] (R.take q')).length∧H'=hpL H (.mk 5 tn tks) (.mk n l) (.mk n' m) (zaD [] (R.take q'))) R.length ?_ ?_
    ·intro _;exact⟨0,by omega,rfl,rfl,rfl,rfl⟩
    ·rintro q t9 t80 H' ⟨q',hq,rfl,rfl,rfl,rfl⟩ hsc19 hlen19 hsF19 Kb19 hKb19
     by_cases hql:q'<R.length
     ·have hr:=R1 R[q'] (List.getElem_mem hql)
      have hrc:=zeN (List.getElem_mem hql)
      have hstep:=zdr (s:=[]) (fun r:IT × Nat=>r) R hql
      simp only[List.map_id']at hstep
      have hNj:zaG (fun _=>1) (zaD [] (R.take q'))≤729:=by
       rw[zef,zcQ,Nat.zero_add]
       exact Nat.le_trans (zfD _ _ _) R2
      have hG:=hsR q' (by omega)
      generalize hsd:zaD [] (R.take q')=s at *
      simp[ztR,hql,zfE,zgD,zgE,wi q' (by omega)]
      refine⟨zgF _,?_⟩
      have hrn:=hr.2.2.2.2.2.2
      have hkn:=zhU R[q'].1
      refine zfd hG (by omega) R[q'].1 (by omega) R[q'].2 (by omega) (H.length+3) _ _ zoL ?_
      rw[zoN]
      exact hKb19 _ _ ⟨R.length-(q'+1),by omega,Back.at (J:=[.cells (tmC R[q'])]) (H2:=hpL H (.mk 5 tn tks) (.mk n l) (.mk n' m) (zbd s R[q'].1 R[q'].2)) rfl (by simp) (zoM hs) (by simp[znh,ux,AV.sc,AV.scA,AV.scB,AV.scV]) ⟨_,_,rfl,q'+1,by omega,rfl,rfl,by rw[hstep],by rw[hstep]⟩⟩
     ·obtain rfl:q'=R.length:=by omega
      rw[List.take_length]
      have:=hout (zaD [] R) [] hmf.symm
      simp[ztR,zfU,znj]
      simpa using this
   ·have hmf:zbv data (f+1) (.mk k tn tks) (.mk n l) (.mk n' m)=[(.mk 0 [],1)]:=by
     rw[zbv];simp[VT.kind,k6,k7,k5]
    rw[hmf]at hK
    have b6:(k == 6)=false:=by simpa using k6
    have b7:(k == 7)=false:=by simpa using k7
    have b5:(k == 5)=false:=by simpa using k5
    simp[ziy,hTc,hIc,hJc,b6,b7,b5,zaz,zaV,AV.known,Nat.add_assoc]
    refine zcr 1 (by omega) _ _ ?_
    refine ACalls.wk (args':=[.snil,.agg (IT.mk 0 []).cs,.agg (zak 1)]) ?_ ⟨.rfl',.agg ⟨.refl _,.snil,trivial⟩,.rfl',trivial⟩
    exact zoe (.mk 0 []) (by simp[IT.nodes,IT.nodesL]) H [_,_,_] hs K hK
theorem zws {data:List Dat} (hk:za2 data) (h8:∀ D∈data,D.cons.length≤8) (hD:zbe data=true):∀ f,zn5 data f∧ziL data f∧ziK data f
 | 0=>⟨fun t i j h=>by have:=i.nodes_pos;omega,fun ts l m h=>by omega,fun t l m h=>by omega⟩
 | f+1=>by
  obtain⟨h1,h2,h3⟩:=zws hk h8 hD f
  exact⟨zEC hk h8 hD h2 h3,zED h8 h1,zEz hk h8 hD h2 h3⟩
theorem zIm {data:List Dat} (hk:za2 data) (h8:∀ D∈data,D.cons.length≤8) (t:VT) (ht:t.nodes≤1000) (v:IT) (hv:v.nodes≤900) (H:zaa) (K:Kt) (hK:K (.int .i64 (rdV data v t)) H):ACalls tP zo5 [.sl (data.map Dat.cs) .none,.agg t.cs,.agg v.cs] H K:=by
 refine ACalls.out (zIl fun hs=>?_)
 obtain⟨x,y,z,hvx,hx,hy,hz⟩:=zaO t
 obtain⟨x2,y2,hvx2,hx2,hy2⟩:=zb2 v
 simp[zyX,hvx,hvx2,Nat.add_assoc]
 rw[←hvx,←hvx2]
 refine zCG hk h8 _ v (Nat.le_refl _) hv t ht _ _ ?_
 exact Out.int rfl (Nat.le_refl _) hs hK
def ofD (data:List Dat) (t:VT) (s:List (IT × Nat)) (d:Nat):List (IT × Nat):=s.filter fun p=>rdV data p.1 t == (d:Int)
def zcm (data:List Dat) (t:VT) (s:List (IT × Nat)) (d:Nat):List (IT × Nat):=(List.range d).flatMap (ofD data t s)
theorem zpT (data:List Dat) (t:VT) (s:List (IT × Nat)) (d:Nat):zcm data t s (d+1)=zcm data t s d++ofD data t s d:=by
 simp[zcm,List.range_succ]
theorem zwC (data:List Dat) (t:VT) (f:IT→Nat):∀ (s:List (IT × Nat)),(∀ p∈s,0≤rdV data p.1 t∧rdV data p.1 t≤6)→∀ d:Nat,zaG f (zcm data t s d)=zaG f (s.filter fun p=>decide (rdV data p.1 t<(d:Int)))
 | s,h,0=>by
  have:(s.filter fun p=>decide (rdV data p.1 t<((0:Nat):Int)))=[]:=by
   rw[List.filter_eq_nil_iff];intro p hp;have:=h p hp;simp;omega
  rw[this];rfl
 | s,h,d+1=>by
  rw[zpT,zfB,zwC data t f s h d]
  unfold ofD
  clear h
  induction s with
  | nil=>rfl
  | cons p s ih=>
   simp only[List.filter_cons]
   by_cases h1:rdV data p.1 t<(d:Int)
   ·have h2:(rdV data p.1 t == (d:Int))=false:=by simp;omega
    have h3:rdV data p.1 t<((d+1:Nat):Int):=by omega
    simp only[h1,h2,h3,decide_true,if_true,Bool.false_eq_true,if_false,zcq]
    omega
   ·by_cases h2:rdV data p.1 t=(d:Int)
    ·have h3:rdV data p.1 t<((d+1:Nat):Int):=by omega
     have h4:(rdV data p.1 t == (d:Int))=true:=by simpa using h2
     simp only[h1,h4,h3,decide_true,decide_false,if_true,Bool.false_eq_true,if_false,zcq]
     omega
    ·have h3:¬ rdV data p.1 t<((d+1:Nat):Int):=by omega
     have h4:(rdV data p.1 t == (d:Int))=false:=by simpa using h2
     simp only[h1,h4,h3,decide_false,if_false,Bool.false_eq_true]
     omega
theorem zE3 {data:List Dat} {t:VT} {s:List (IT × Nat)} (h:∀ p∈s,0≤rdV data p.1 t∧rdV data p.1 t≤6) (f:IT→Nat):zaG f (zcm data t s 7)=zaG f s:=by
 rw[zwC data t f s h 7]
 congr 1
 rw[List.filter_eq_self]
 intro p hp
 have:=h p hp
 simp;omega
theorem zE2 {data:List Dat} {t:VT} {s:List (IT × Nat)} {d:Nat}:∀ p∈zcm data t s d,p∈s:=by
 intro p hp
 obtain⟨k,_,h⟩:=List.mem_flatMap.1 hp
 exact (List.mem_filter.1 h).1
theorem zEP {data:List Dat} {t:VT} {s:List (IT × Nat)} {d j:Nat} (hj:j<s.length):ofD data t (s.take (j+1)) d=ofD data t (s.take j) d++if rdV data s[j].1 t=(d:Int) then [s[j]] else []:=by
 rw[List.take_succ_eq_append_getElem hj]
 simp only[ofD,List.filter_append,List.filter_cons,List.filter_nil]
 by_cases h:rdV data s[j].1 t=(d:Int)
 ·simp[h]
 ·have h4:(rdV data s[j].1 t == (d:Int))=false:=by simpa using h
  simp[h,h4]
theorem zwB {data:List Dat} {t:VT} {s:List (IT × Nat)} {d:Nat}:(ofD data t s d).length≤s.length:=List.length_filter_le _ _
theorem zwI {data:List Dat} {t:VT} {s:List (IT × Nat)}:∀ d:Nat,(zcm data t s d).length≤d*s.length
 | 0=>by simp[zcm]
 | d+1=>by
  rw[zpT,List.length_append,Nat.succ_mul]
  have:=zwI (data:=data) (t:=t) (s:=s) d
  have:=zwB (data:=data) (t:=t) (s:=s) (d:=d)
  omega
theorem zGL (a:List (IT × Nat)) (p:IT × Nat):zbE a++[tmC p]=zbE (a++[p]):=by simp[zbE]
theorem zRC {data:List Dat} (hk:za2 data) (h8:∀ D∈data,D.cons.length≤8) (t:VT) (ht:t.nodes≤1000) (s:List (IT × Nat)) (hs0:∀ p∈s,p.1.nodes≤900) (hl:s.length≤1000) (H:zaa) (K:Kt) (hK:K (.sl (zbE (zcm data t s 7)) .none) H):ACalls tP zpL [.sl (data.map Dat.cs) .none,.agg t.cs,.sl (zbE s) .none] H K:=by
 refine ACalls.out (zRA fun hs=>?_)
 obtain⟨x,y,z,hvx,hx,hy,hz⟩:=zaO t
 simp[zCc,hvx,Nat.add_assoc]
 rw[←hvx]
 unfold znp
 refine ALoop.own 7 za5 5 rfl ?_
 have hH1:(H++[AB.cells t.cs]).length=H.length+1:=by simp
 rw[hH1,List.append_assoc]
 show znp _ _ _ (.sl (zbE (zcm data t s 0)) (.own (H.length+1))) _ (H++[.cells t.cs,.perm za5 5 0]) _
 have hp3:∀ n,HSc (H++[.cells t.cs,.perm za5 5 n]):=fun n=>hs.append (by
  obtain⟨k,m,ks⟩:=t
  simp[AB.sc,VT.cs,AV.scA,AV.scB])
 refine zRx (Inv:=fun q t7 t8 H'=>∃ d:Nat,d≤7∧7-d=q∧t8=.int .i64 d∧t7=.sl (zbE (zcm data t s d)) (.own (H.length+1))∧H'=H++[.cells t.cs,.perm za5 5 (zcm data t s d).length]) 7 ?_ ?_
 ·intro _;exact⟨0,by omega,rfl,rfl,rfl,rfl⟩
 ·rintro q t7 t8 H' ⟨d,hd,rfl,rfl,rfl,rfl⟩ hsc3 hlen3 hsF3 Kb3 hKb3
  have hdl:=zwI (data:=data) (t:=t) (s:=s) d
  have hdl2:d*s.length≤7000:=Nat.mul_le_mul (show d≤7 by omega) hl
  by_cases hlt:d≤6
  ·have hlt':(d:Int)≤6:=by omega
   simp[ztU,hlt',Nat.add_assoc]
   refine zRy (Inv:=fun q t7 t17 H'=>∃ j:Nat,j≤s.length∧s.length-j=q∧t17=.int .i64 j∧t7=.sl (zbE (zcm data t s d++ofD data t (s.take j) d)) (.own (H.length+1))∧H'=H++[.cells t.cs,.perm za5 5 (zcm data t s d++ofD data t (s.take j) d).length]) s.length ?_ ?_
   ·intro _;exact⟨0,by omega,rfl,rfl,by simp[ofD],by simp[ofD]⟩
   ·rintro q t7 t17 H' ⟨j,hj,rfl,rfl,rfl,rfl⟩ hsc6 hlen6 hsF6 Kb6 hKb6
    by_cases hjl:j<s.length
    ·have hstep:=zEP (data:=data) (t:=t) (d:=d) hjl
     have hol:(ofD data t (s.take j) d).length≤1000:=Nat.le_trans zwB (by simp;omega)
     generalize hsd:ofD data t (s.take j) d=o at *
     generalize hsA:zcm data t s d=A at *
     have hn:=hs0 _ (List.getElem_mem hjl)
     simp[ztV,hjl,zfE,zgD,hvx,Nat.add_assoc]
     refine⟨zgF _,?_⟩
     rw[←hvx]
     refine zIm hk h8 t ht s[j].1 (by omega) _ _ ?_
     by_cases he:rdV data s[j].1 t=(d:Int)
     ·rw[if_pos he]at hstep
      have hp0:zaF ([.int .i64 0,.snil,.bool false,.snil,.snil]:List AV)=some [.int .i64 0,.sl [] .none,.bool false,.sl [] .none,.sl [] .none]:=rfl
      simp[he,zno,ztY,zfE,zaB,zbf,zwX,hp0,wi j (by omega)]
      simp only[zax,zaY,zaM]
      simp[List.set_append_right]
      refine⟨⟨by omega,by omega⟩,?_⟩
      rw[zGL,List.append_assoc,←hstep]
      have hlen':A.length+o.length+1=(A++ofD data t (s.take (j+1)) d).length:=by rw[hstep];simp;omega
      rw[hlen']
      exact hKb6 _ _ ⟨s.length-(j+1),by omega,Back.at (J:=[.cells (tmC s[j])]) (H2:=H++[.cells t.cs,.perm za5 5 (A++ofD data t (s.take (j+1)) d).length]) (by simp) (by simp) (hp3 _) (by simp[ziz,ux,AV.sc,AV.scA,AV.scB,AV.scV]) ⟨_,_,rfl,j+1,by omega,rfl,rfl,rfl,rfl⟩⟩
     ·have he':(rdV data s[j].1 t == (d:Int))=false:=by simpa using he
      rw[if_neg he,List.append_nil]at hstep
      simp[he',zno,ztY,wi j (by omega)]
      exact hKb6 _ _ ⟨s.length-(j+1),by omega,Back.at (J:=[.cells (tmC s[j])]) (H2:=H++[.cells t.cs,.perm za5 5 (A++o).length]) (by simp) (by simp) (hp3 _) (by simp[ziz,ux,AV.sc,AV.scA,AV.scB,AV.scV]) ⟨_,_,rfl,j+1,by omega,rfl,rfl,by rw[hstep],by rw[hstep]⟩⟩
    ·obtain rfl:j=s.length:=by omega
     rw[List.take_length,←zpT]
     simp[ztV,wi d (by omega)]
     exact hKb3 _ _ ⟨7-(d+1),by omega,Back.here (by simp) (hp3 _) (by simp[znn,ux,AV.sc,AV.scA,AV.scB,AV.scV]) ⟨_,_,rfl,d+1,by omega,rfl,rfl,rfl,rfl⟩⟩
  ·obtain rfl:d=7:=by omega
   simp[ztU]
   exact Out.at (b:=.sl (zbE (zcm data t s 7)) .none) rfl (Nat.le_refl _) hs (.atom (.sl _ _)) rfl rfl hK
theorem zN9 {data:List Dat} (hk:za2 data) (t:VT) (ht:t.nodes≤250) (i j:IT) (hi:i.nodes≤100) (hj:j.nodes≤100) (H:zaa) (K:Kt)
  (hbad:∀ e:Int,e≠0→K (.tup [.sl [] .none,.int .i64 e]) H)
  (hgood:zbg data t=true→0≤rdV data i t→0≤rdV data j t→rdV data i t+rdV data j t≤6→K (.tup [.sl (zbE (zcm data t (zbv data (i.nodes+j.nodes) t i j) 7)) .none,.int .i64 0]) H) :
  ACalls tP zpz [.sl (data.map Dat.cs) .none,.agg t.cs,.agg i.cs,.agg j.cs] H K:=by
 refine ACalls.out (zN8 fun hs=>?_)
 have hO:∀ (e:Int) J,e≠0→Out H.length K (.tup [.snil,.int .i64 e]) (H++J):=fun e J he=>Out.tup (bs:=[.sl [] .none,.int .i64 e]) hs (hbad e he) ⟨zer,za4 rfl rfl,trivial⟩
 obtain⟨x,y,z,hvx,hx,hy,hz⟩:=zaO t
 obtain⟨x2,y2,hvx2,hx2,hy2⟩:=zb2 i
 obtain⟨x3,y3,hvx3,hx3,hy3⟩:=zb2 j
 simp[zA0,hvx,hvx2,hvx3,Nat.add_assoc]
 rw[←hvx,←hvx2,←hvx3]
 refine zaH (.int .i64 (zaS data t i)) (fun J=>zte data hk t (by omega) i (by omega) _ _ ⟨rfl,rfl⟩) ?_
 refine zaH (.int .i64 (zaS data t j)) (fun J=>zte data hk t (by omega) j (by omega) _ _ ⟨rfl,rfl⟩) ?_
 by_cases h1:zaS data t i<0
 ·simp[h1]
  exact⟨⟨rfl,rfl⟩,hO 1 _ (by omega)⟩
 ·by_cases h2:zaS data t j<0
  ·simp[h1,h2]
   exact⟨⟨rfl,rfl⟩,hO 1 _ (by omega)⟩
  ·have hf:zbg data t=true:=by
    unfold zaS at h1
    by_cases h:zbg data t=true
    ·exact h
    ·rw[if_neg h]at h1;omega
   have e1:zaS data t i=rdV data i t:=by unfold zaS;rw[if_pos hf]
   have e2:zaS data t j=rdV data j t:=by unfold zaS;rw[if_pos hf]
   rw[e1]at h1 ⊢
   rw[e2]at h2 ⊢
   have h8:=zgd hf
   obtain⟨hD,htv⟩:zbe data=true∧zaR data 0 t=true:=by
    unfold zbg at hf;simpa using hf
   have r1:=zqa (h8:=h8) i t
   have r2:=zqa (h8:=h8) j t
   have w:IntKind.i64.wrap (rdV data i t+rdV data j t)=rdV data i t+rdV data j t:=zau (by omega) (by omega)
   by_cases h6:rdV data i t+rdV data j t>6
   ·have h6':6<rdV data i t+rdV data j t:=h6
    simp[h1,h2,w,h6']
    exact⟨⟨rfl,rfl⟩,hO 13 _ (by omega)⟩
   ·have h6':¬ (6<rdV data i t+rdV data j t):=h6
    simp[h1,h2,w,h6',hvx,hvx2,hvx3,Nat.add_assoc]
    rw[←hvx,←hvx2,←hvx3]
    obtain⟨R,hR⟩:∃ R,R=zbv data (i.nodes+j.nodes) t i j:=⟨_,rfl⟩
    obtain⟨R1,R2⟩:=(zdu h8 (i.nodes+j.nodes)).1 t i j (by omega) (by omega) (by omega) (by omega)
    rw[←hR]at R1 R2
    replace R2:=Nat.le_trans R2 (zdL (by omega))
    have Rl:=zeJ fun p hp=>(R1 p hp).1
    refine (zws hk h8 hD (i.nodes+j.nodes)).1 t i j (by omega) (by omega) htv (by omega) (by omega) (by omega) (by omega) _ _ ?_
    rw[←hR]
    have hl1:¬ ((1000:Int)<(R.length:Int)):=by omega
    simp[hl1,hvx,hvx2,hvx3,Nat.add_assoc]
    rw[←hvx]
    refine zRC hk h8 t (by omega) R (fun p hp=>by have:=(R1 p hp).2.2.2.2.2;omega) (by omega) _ _ ?_
    have hg:=hgood hf (by omega) (by omega) (by omega)
    rw[←hR]at hg
    trace_state
    exact⟨⟨rfl,rfl⟩,Out.tup (bs:=[.sl (zbE (zcm data t R 7)) .none,.int .i64 0]) hs hg ⟨za4 rfl rfl,za4 rfl rfl,trivial⟩⟩
theorem zon {data:List Dat} (hk:za2 data) (hD:zbe data=true) (h8:∀ D∈data,D.cons.length≤8):∀ m,zgX data m
 | 0=>fun i hi=>by have:=IT.nodes_pos i;omega
 | m+1=>zDv hk h8 (zon hk hD h8 m) fun i hi n tn ks tks v he hA H K hK=>by
  subst he
  exact zDu hk hD h8 (zon hk hD h8 m) n tn ks tks v hi hA H K hK
def atR (data:List Dat) (t:VT) (i:IT) (v:VT):AV:=
 if zaS data t i<0 then .tup [.agg [.bool false,.sl [] .none,.sl [] .none],.int .i64 1] else if zc9 data v t=false then .tup [.agg [.bool false,.sl [] .none,.sl [] .none],.int .i64 11] else .tup [.agg (zak ((atV data i t v:Nat):Int)),.int .i64 0]
theorem zLT {data:List Dat} (hk:za2 data) (t:VT) (ht:t.nodes≤1000) (i:IT) (hi:i.nodes≤900) (v:VT) (hv:v.nodes≤1000) (H:zaa) (K:Kt) (hK:K (atR data t i v) H) :
  ACalls tP zpj [.sl (data.map Dat.cs) .none,.agg t.cs,.agg i.cs,.agg v.cs] H K:=by
 refine ACalls.out (zLS fun hs=>?_)
 obtain⟨x,y,z,hvx,hx,hy,hz⟩:=zaO t
 obtain⟨x2,y2,z2,hvx2,hx2,hy2,hz2⟩:=zaO v
 obtain⟨x3,y3,hvx3,hx3,hy3⟩:=zb2 i
 simp[zzT,hvx,hvx2,hvx3,Nat.add_assoc]
 rw[←hvx,←hvx3]
 refine zKi data hk t ht i hi _ _ ?_
 by_cases hd:zaS data t i<0
 ·have hd':decide (0≤zaS data t i)=false:=by simpa using hd
  unfold atR at hK
  rw[if_pos hd]at hK
  simp[hd',zaz,zaV,zfn,Nat.add_assoc]
  refine⟨⟨rfl,rfl⟩,?_⟩
  exact Out.tup (bs:=[.agg [.bool false,.sl [] .none,.sl [] .none],.int .i64 1]) hs hK ⟨⟨.agg ⟨.refl _,.snil,.snil,trivial⟩,rfl,rfl⟩,za4 rfl rfl,trivial⟩
 ·have hd':decide (0≤zaS data t i)=true:=by simpa using hd
  unfold atR at hK
  rw[if_neg hd]at hK
  simp[hd',hvx,hvx2,hvx3,Nat.add_assoc]
  rw[←hvx,←hvx2]
  refine zzf data hk v t (by omega) (by omega) _ _ ?_
  cases hh:zc9 data v t with
  | false=>
   rw[if_pos hh]at hK
   simp[zaz,zaV,zfn,Nat.add_assoc]
   refine⟨⟨rfl,rfl⟩,?_⟩
   exact Out.tup (bs:=[.agg [.bool false,.sl [] .none,.sl [] .none],.int .i64 11]) hs hK ⟨⟨.agg ⟨.refl _,.snil,.snil,trivial⟩,rfl,rfl⟩,za4 rfl rfl,trivial⟩
  | true=>
   rw[if_neg (by simp[hh])]at hK
   obtain⟨hD,htv,hvv⟩:=zoK hh
   have hfine:zbg data t=true:=by
    unfold zaS at hd
    by_cases h:zbg data t=true
    ·exact h
    ·rw[if_neg h]at hd;omega
   have h8:=zgd hfine
   have hrd:0≤rdV data i t:=by unfold zaS at hd;rw[if_pos hfine]at hd;omega
   simp[hvx,hvx2,hvx3,Nat.add_assoc]
   rw[←hvx,←hvx2,←hvx3]
   refine zon hk hD h8 i.nodes i (Nat.le_refl _) t v ⟨ht,htv,hrd,hvv,hv,hi⟩ _ _ ?_
   simp[Nat.add_assoc]
   refine⟨⟨rfl,rfl⟩,?_⟩
   exact Out.tup (bs:=[.agg (zak ((atV data i t v:Nat):Int)),.int .i64 0]) hs hK ⟨za4 rfl rfl,za4 rfl rfl,trivial⟩
theorem zJs:∀ (m:Nat) (v:VT),v.nodes≤m→v.nodes≤100000→∀ (H:zaa) (K:Kt),K (.int .i64 v.nodes) H→ACalls tP zjg [.agg v.cs] H K:=by
 intro m
 induction m with
 | zero=>intro v h;have:=v.nodes_pos;omega
 | succ m ih=>
  intro v hm hb H K hK
  obtain⟨k,n,ks⟩:=v
  have hnn:(VT.mk k n ks).nodes=VT.nodesL ks+1:=by simp[VT.nodes]
  have hll:=VT.len_le ks
  refine ACalls.out (zJq fun hs=>?_)
  simp[zy4,VT.cs,Nat.add_assoc]
  refine zJo (Inv:=fun q t3 t9 H'=>∃ i:Nat,i≤ks.length∧ks.length-i=q∧t9=.int .i64 i∧t3=.int .i64 ((VT.nodesL (ks.take i)+1:Nat):Int)∧H'=H++[.cells [.int .i64 k,.int .i64 n,.sl (VT.css ks) .none]]) ks.length ?_ ?_
  ·intro _;exact⟨0,by omega,rfl,rfl,by simp[VT.nodesL],rfl⟩
  ·rintro q t3 t9 H' ⟨i,hi,rfl,rfl,rfl,rfl⟩ hsc' hlen hsF Kb hKb
   have htk:=VT.nodesL_take_le ks i
   by_cases hlt:i<ks.length
   ·obtain⟨x,y,z,hvx,hx,hy,hz⟩:=zaO ks[i]
    have hkn:=VT.kid_lt (k:=k) (n:=n) hlt
    have hts:=VT.nodesL_take hlt
    have hts2:=VT.nodesL_take_le ks (i+1)
    simp[zry,hlt,hvx,hx,hy,hz,wi i (by omega),Nat.add_assoc]
    rw[←hvx]
    refine ih ks[i] (by omega) (by omega) _ _ ?_
    have hw:IntKind.i64.wrap ((VT.nodesL (ks.take i):Int)+(1+(ks[i]).nodes))=((VT.nodesL (ks.take (i+1))+1:Nat):Int):=by rw[zau (by omega) (by omega)];omega
    have hw2:IntKind.i64.wrap ((VT.nodesL (ks.take i):Int)+1+(ks[i]).nodes)=((VT.nodesL (ks.take (i+1))+1:Nat):Int):=by rw[zau (by omega) (by omega)];omega
    simp[hw,hw2]
    exact hKb _ _ ⟨ks.length-(i+1),by omega,Back.at (J:=[.cells (ks[i]).cs]) (H2:=H++[.cells [.int .i64 k,.int .i64 n,.sl (VT.css ks) .none]]) (by simp) (by simp) (hs.append (by simp[AB.sc,AV.scA,AV.scB])) (by simp[zlb,ux,AV.sc,AV.scA,AV.scB,AV.scV]) ⟨_,_,rfl,i+1,by omega,rfl,rfl,rfl,rfl⟩⟩
   ·obtain rfl:i=ks.length:=by omega
    simp[zry]
    refine Out.int (J:=_) rfl (Nat.le_refl _) hs ?_
    rw[hnn]at hK
    simpa using hK
theorem zG8 (n:Nat):All2 WkA (List.replicate n [AV.int .i64 0,.snil]).flatten (za6 (List.replicate n (.mk 0 []))):=by
 induction n with
 | zero=>exact trivial
 | succ n ih=>
  rw[List.replicate_succ,List.replicate_succ,List.flatten_cons,zeo]
  exact⟨.refl _,.snil,ih⟩
theorem zg5 {H J:zaa} {K:Kt} {e:Int} (hs:HSc H) (hK:K (.tup [.sl [] .none,.int .i64 e]) H):zfY H.length K (.tup [.snil,.int .i64 e]) (H++J):=
 ⟨.tup [.sl [] .none,.int .i64 e],H,J,rfl,Nat.le_refl _,hs,.tup ⟨.one (.wk (.atom .snil) rfl rfl),.one (.wk (.atom (.refl _)) rfl rfl),trivial⟩,hK⟩
theorem RowsH.weaken {X:zaa} {lo lo' id:Nat} {rows:List (List IT)} (h:RowsH X lo id rows) (hl:lo'≤lo):RowsH X lo' id rows:=by
 obtain⟨h1,cs,h2,h3⟩:=h
 exact⟨by omega,cs,h2,h3.mono fun c r hc=>hc.keep hl fun b _ hb _=>⟨hb,rfl⟩⟩
theorem RowsH.agree {X Y:zaa} {lo id:Nat} {rows:List (List IT)} (h:RowsH X lo id rows) (ha:∀ k,lo≤k→k<X.length→Y[k]?=X[k]?):RowsH Y lo id rows:=by
 obtain⟨h1,cs,h2,h3⟩:=h
 exact⟨h1,cs,by rw[ha _ h1 (List.getElem?_eq_some_iff.1 h2).1];exact h2,h3.mono fun c r hc=>hc.keep (Nat.le_refl _) fun b hb hb2 hb3=>⟨hb2,ha b hb hb3⟩⟩
theorem zDs {H3:zaa} {lo1 id1 lo2 id2:Nat} {rows1 rows2:List (List IT)} {K:Kt} (h1:RowsH H3 lo1 id1 rows1) (h2:RowsH H3 lo2 id2 rows2) (hlt:id1<lo2) (hlo:lo1≤lo2) (hb:rows1.length+rows2.length≤1000000000) (hs:HSc H3)
  (hK:∀ H4,HSc H4→RowsH H4 lo1 id1 (rows1++rows2)→(∀ X,X <+: H3→X.length≤id1→X <+: H4)→K (.ov id1 (rows1++rows2).length) H4):zax zb0 1 24 (.ov id1 rows1.length) (.ov id2 rows2.length) H3 K:=by
 obtain⟨g1,cs1,hc1,hx1⟩:=h1
 obtain⟨g2,cs2,hc2,hx2⟩:=h2
 have hl1:=(List.getElem?_eq_some_iff.1 hc1).1
 have k1:=zg9 hx1
 have k2:=zg9 hx2
 refine zuP hc1 hc2 k2.2 (by rw[hx2.length];simp) (by omega) (by omega) ?_
 rw[←List.length_append]
 have hkp:∀ b,b≠id1→(H3.set id1 (.vec zb0 1 (rows1++rows2).length (cs1++cs2)))[b]?=H3[b]?:=fun b hb=>List.getElem?_set_ne (fun h=>hb h.symm)
 refine hK _ (hs.set ?_) ⟨g1,cs1++cs2,List.getElem?_set_self hl1,(hx1.mono fun c r hc=>hc.keep (Nat.le_refl _) fun b _ hb _=>⟨hb,hkp b hb⟩).append (hx2.mono fun c r hc=>hc.keep hlo fun b hb1 hb2 hb3=>?_)⟩ (fun X hX hl=>zj6 hX hl)
 ·simp only[AB.sc,List.all_append,k1.1,k2.1,Bool.and_self]
 ·have:b≠id1:=by omega
  exact⟨this,hkp b this⟩
theorem zvO:∀ (ps:List Nat) (xs row:List IT) (p:Nat) (x:IT),xs.length=ps.length→fill row (ps++[p]) (xs++[x])=(fill row ps xs).set p x
 | [],[],row,p,x,_=>by simp[fill]
 | [],_::_,_,_,_,h=>by simp at h
 | _::_,[],_,_,_,h=>by simp at h
 | q::ps,y::xs,row,p,x,h=>by
  simp only[List.cons_append,fill]
  exact zvO ps xs _ p x (by simpa using h)
theorem zvP {P:List Nat} {xs row:List IT} {i:Nat} (hi:i<P.length) (hx:i<xs.length):fill row (P.take (i+1)) (xs.take (i+1))=(fill row (P.take i) (xs.take i)).set P[i] xs[i]:=by
 rw[List.take_succ_eq_append_getElem hi,List.take_succ_eq_append_getElem hx]
 exact zvO _ _ _ _ _ (by simp;omega)
theorem zzS (data:List Dat) (hk:za2 data) (t:VT) (ht:t.nodes≤1000) (c:Int) (v:IT) (hv:v.nodes≤900) (H:zaa) (K:Kt)
  (hbad:∀ e,zc7 data t c v=some e→K (.tup [.sl [] .none,.int .i64 e]) H)
  (hgood:zc7 data t c v=none→∃ l bs,zaU data t c=some l∧l.length=bs.length∧l.length≤8∧(∀ x∈l,x.nodes≤200)∧za8 data t c=some (pick l bs) ∧
   (∀ H K,K (.sl (zby bs) .none) H→ACalls tP zek [.sl (data.map Dat.cs) .none,.int .i64 t.num,.int .i64 c] H K) ∧
   ∀ rs,rs.Perm (zcw l bs c (zaC v))→rs.Pairwise rle→K (.tup [zfx rs,.int .i64 0]) H) :
  ACalls tP zhB [.sl (data.map Dat.cs) .none,.agg t.cs,.int .i64 c,.agg v.cs] H K:=by
 refine ACalls.out2 (zKX fun hs=>?_)
 obtain⟨f1,f2,f3⟩:=zdG hk
 obtain⟨k,n,ks⟩:=t
 obtain⟨m,vs⟩:=v
 simp[zzu,VT.cs,IT.cs,Nat.add_assoc]
 refine zPw data hk (.mk k n ks) ht (.mk m vs) hv _ _ ?_
 by_cases hd:zaS data (.mk k n ks) (.mk m vs)<0
 ·have hd':decide (0≤zaS data (.mk k n ks) (.mk m vs))=false:=by simpa using hd
  simp[hd']
  exact⟨⟨rfl,rfl⟩,zg5 hs (hbad 1 (by simp[zc7,hd]))⟩
 have hd':decide (0≤zaS data (.mk k n ks) (.mk m vs))=true:=by simpa using hd
 simp[hd']
 by_cases h5:k=5
 ·subst h5
  have hfine:zbg data (.mk 5 n ks)=true:=by
   unfold zaS at hd
   by_cases h:zbg data (.mk 5 n ks)=true
   ·exact h
   ·rw[if_neg h]at hd;omega
  have hrd:0≤rdV data (.mk m vs) (.mk 5 n ks):=by
   unfold zaS at hd
   rw[if_pos hfine]at hd
   omega
  obtain⟨rfl,hl6,hrE⟩:m=0∧vs.length≤6∧0≤rdE data vs (.mk 5 n ks) 0:=by
   simp[rdV,VT.kind]at hrd
   by_cases h:m=0∧vs.length≤6
   ·rw[if_pos h]at hrd
    exact⟨h.1,h.2,hrd⟩
   ·rw[if_neg h]at hrd;omega
  obtain⟨hn0,hnl⟩:=zGV (by unfold zbg at hfine;rw[Bool.and_eq_true]at hfine;exact hfine.2)
  have hbad8:(c<0∨(data[n.toNat].cons.length:Int)≤c)→K (.tup [.sl [] .none,.int .i64 8]) H:=fun h=>hbad 8 (by
   simp only[zc7,if_neg hd,VT.kind,VT.num,ne_eq,not_true_eq_false,if_false,List.getD_eq_getElem?_getD,List.getElem?_eq_getElem hnl,Option.getD_some]
   rw[if_pos h])
  by_cases hc0:c<0
  ·simp[hc0]
   exact⟨⟨rfl,rfl⟩,zg5 hs (hbad8 (.inl hc0))⟩
  have hnl2:n<(data.length:Int):=by omega
  by_cases hc8:(data[n.toNat].cons.length:Int)≤c
  ·simp[hc0,hn0,hnl2,List.getElem?_eq_getElem hnl,Dat.cs,hc8]
   exact⟨⟨rfl,rfl⟩,zg5 hs (hbad8 (.inr hc8))⟩
  simp[hc0,hn0,hnl2,List.getElem?_eq_getElem hnl,Dat.cs,hc8]
  refine zmz data f1 f2 f3 (.mk 5 n ks) ht c _ _ ?_
  cases hf:zaU data (.mk 5 n ks) c with
  | none=>
   simp[zb1]
   exact⟨⟨rfl,rfl⟩,zg5 hs (hbad 0 (by
    simp only[zc7,if_neg hd,VT.kind,VT.num,ne_eq,not_true_eq_false,if_false,List.getD_eq_getElem?_getD,List.getElem?_eq_getElem hnl,Option.getD_some]
    rw[if_neg (by omega),if_pos hf]))⟩
  | some l=>
   have hE:zc7 data (.mk 5 n ks) c (.mk 0 vs)=none:=by
    simp only[zc7,if_neg hd,VT.kind,VT.num,ne_eq,not_true_eq_false,if_false,List.getD_eq_getElem?_getD,List.getElem?_eq_getElem hnl,Option.getD_some]
    rw[if_neg (by omega),if_neg (by simp[hf])]
   obtain⟨l',bs,hf',hlb,hl8,h200,hpay,hrec,hK⟩:=hgood hE
   rw[hf]at hf'
   cases hf'
   simp[zb1]
   refine zPQ data hk 5 n ks ht c hf hlb hl8 hfine hrec _ _ ?_
   have hP8:=zem false bs bs.length
   have hPl:∀ j∈pos false bs bs.length,j<l.length:=fun j hj=>by have:=zd1 hj;omega
   have hPn:(pos false bs bs.length).Nodup:=List.Pairwise.filter _ List.nodup_range
   have hRl:∀ j∈pos true bs bs.length,j<l.length:=fun j hj=>by have:=zd1 hj;omega
   have hR8:=zem true bs bs.length
   have hK:∀ rs,rs.Perm (zbo (zaP l (pos false bs bs.length)) (pos true bs bs.length) vs++zcP (zaP l (pos false bs bs.length)) (pos false bs bs.length) (pos true bs bs.length) c vs)→rs.Pairwise rle→K (.tup [zfx rs,.int .i64 0]) H:=hK
   have hwide:=zxl l bs c vs
   have hnds:=zFw (bs:=bs) (c:=c) (kids:=vs) h200 (by simp only[IT.nodes]at hv;omega)
   have hlen:=zxk (l:=l) (c:=c) hl6 (by omega:bs.length≤8)
   unfold zcw at hwide hnds hlen
   have hpk:(pick l bs).length=(pos false bs bs.length).length:=by
    have:=zdz hlb (.mk 0 0 []) l.length (Nat.le_refl _)
    rw[List.take_length,hlb,List.take_length]at this
    rw[this,List.length_map]
   generalize pos false bs bs.length=P at *
   generalize pos true bs bs.length=R at *
   have hfv:∀ x∈l,zbg data x=true:=fun x hx=>by
    unfold zbg at hfine ⊢
    rw[Bool.and_eq_true]at hfine ⊢
    refine⟨hfine.1,zga hfine.1 (by have:=hfine.2;rw[zaR,Bool.and_eq_true]at this;exact this.2) hf x hx⟩
   simp[zcE]
   simp only[zbr,Int.toNat_natCast]
   refine⟨by omega,?_⟩
   unfold zlx
   refine ALoop.reCell (id:=H.length+2) (za6 (List.replicate l.length (.mk 0 []))) (by simp) (zG8 _) ?_
   have hset:(H++[AB.cells [.int .i64 5,.int .i64 n,.sl (VT.css ks) .none],.cells [.int .i64 0,.sl (IT.css vs) .none]]++[AB.cells (List.replicate l.length [AV.int .i64 0,.snil]).flatten]).set (H.length+2) (.cells (za6 (List.replicate l.length (.mk 0 [])))) =
     H++[AB.cells [.int .i64 5,.int .i64 n,.sl (VT.css ks) .none],.cells [.int .i64 0,.sl (IT.css vs) .none],.cells (za6 (List.replicate l.length (.mk 0 [])))]:=by simp[List.set_append_right]
   rw[hset]
   have hl2:(H++[AB.cells [AV.int IntKind.i64 5,AV.int IntKind.i64 n,AV.sl (VT.css ks) Tok.none],AB.cells [AV.int IntKind.i64 0,AV.sl (IT.css vs) Tok.none]]).length=H.length+2:=by simp
   rw[hl2]
   show zlx (.sl (data.map Dat.cs) .none) (.int .i64 c) (.ptr (H.length+1) 0) (.sl (VT.css l) .none) (.sl (zaN P) .none) (.sl (zaN R) .none) (.ms (H.length+2) 0 l.length l.length) (.sl (zaN P) .none) (.int .i64 P.length) (.int .i64 0) _ (zfY H.length K)
   have hZ:∀ r:List IT,HSc (H++[AB.cells [.int .i64 5,.int .i64 n,.sl (VT.css ks) .none],.cells [.int .i64 0,.sl (IT.css vs) .none],.cells (za6 r)]):=fun r=>hs.append (by simp[AB.sc,AV.scA,AV.scB,zxg])
   refine zKQ (Inv:=fun q t67 H'=>∃ i:Nat,i≤P.length∧q=P.length-i∧t67=.int .i64 i∧H'=H++[AB.cells [.int .i64 5,.int .i64 n,.sl (VT.css ks) .none],.cells [.int .i64 0,.sl (IT.css vs) .none],.cells (za6 (fill (List.replicate l.length (.mk 0 [])) (P.take i) ((P.map fun j=>zbn (l.getD j (.mk 0 0 []))).take i)))]) P.length ?_ ?_
   ·intro _;exact⟨0,by omega,by omega,rfl,by simp⟩
   ·rintro q t67 H' ⟨i,hi,rfl,rfl,rfl⟩ hsc hlen' hsF Kb hKb
    by_cases hlt:i<P.length
    ·have hPi:=hPl _ (List.getElem_mem hlt)
     have hft:=zvP (row:=List.replicate l.length (.mk 0 [])) hlt (xs:=P.map fun j=>zbn (l.getD j (.mk 0 0 []))) (by simpa using hlt)
     simp only[List.getElem_map,List.getD_eq_getElem?_getD,List.getElem?_eq_getElem hPi,Option.getD_some]at hft
     simp[zrV,zcE,zjV,hlt,hPi]
     have hmem:=List.getElem_mem hPi
     refine zOC data hk (l[P[i]]) (by have:=h200 _ hmem;omega) _ _ (fun _=>?_) (hfv _ hmem)
     obtain⟨x,y,hzz,hx,hy⟩:=zb2 (zbn l[P[i]])
     have hrs:=zh2 (fill (List.replicate l.length (.mk 0 [])) (P.take i) ((P.map fun j=>zbn (l[j]?.getD (.mk 0 0 []))).take i)) P[i] (zbn l[P[i]]) (by simpa using hPi)
     rw[←hft]at hrs
     simp[hzz,hx,hy]
     refine⟨by rw[zd4];simp;omega,?_⟩
     rw[zau (by omega) (by omega)]
     refine hKb _ _ ⟨P.length-(i+1),by omega,Back.at (J:=[]) (H2:=H++[AB.cells [.int .i64 5,.int .i64 n,.sl (VT.css ks) .none],.cells [.int .i64 0,.sl (IT.css vs) .none],.cells (za6 (fill (List.replicate l.length (.mk 0 [])) (P.take (i+1)) ((P.map fun j=>zbn (l[j]?.getD (.mk 0 0 []))).take (i+1))))]) ?_ (by simp) (hZ _) ?_ ⟨_,rfl,i+1,by omega,rfl,by simp,by simp[List.getD_eq_getElem?_getD]⟩⟩
     ·rw[←hrs,hzz];simp[List.set_append_right]
     ·simp[zlu,AV.sc,AV.scV,AV.scA,AV.scB]
    ·obtain rfl:i=P.length:=by omega
     rw[List.take_length,List.take_of_length_le (by simp)]at *
     have hbase:fill (List.replicate l.length (.mk 0 [])) P (P.map fun j=>zbn (l.getD j (.mk 0 0 [])))=zaP l P:=rfl
     rw[hbase]
     have hbl:(zaP l P).length=l.length:=by simp[zaP]
     generalize zaP l P=base at *
     have hHB:HSc (H++[AB.cells [.int .i64 5,.int .i64 n,.sl (VT.css ks) .none],.cells [.int .i64 0,.sl (IT.css vs) .none],.cells (za6 base)]):=hZ base
     simp[zrV,zcE]
     refine zto R _ _ base vs _ ⟨zd4 _,zqd _,.inl ⟨H.length+2,by rw[hbl],by simp⟩⟩ (fun p hp=>by rw[hbl];exact hRl p hp) (by omega) (by omega) (by omega) (zj4 (by omega) (by omega)) ?_
     intro id H1 hp1 hsc1 hR1
     have hp0:H <+: H1:=List.IsPrefix.trans ⟨_,rfl⟩ hp1
     have hg1:H1[H.length+1]?=some (.cells [.int .i64 0,.sl (IT.css vs) .none]):=by rw[zhZ hp1 (by simp)];simp
     have hg2:H1[H.length+2]?=some (.cells (za6 base)):=by rw[zhZ hp1 (by simp)];simp
     have hfin1:zcP base P R c vs=[]→zik (.ov id (zbo base R vs).length) H1 (zfY H.length K):=fun h0=>by
      rw[h0,List.append_nil]at hwide hnds hlen hK
      exact zx2 hp0 hs (hR1.weaken (by simp)) hwide (by omega) hnds (by omega) K hK
     simp[hg1]
     cases vs with
     | nil=>
      simp
      exact hfin1 rfl
     | cons x rest=>
      obtain⟨c',ps⟩:=x
      have hg1':H1[H.length+1]?=some (.cells [.int .i64 0,.sl ([.int .i64 c',.sl (IT.css ps) .none]::IT.css rest) .none]):=by rw[hg1];simp[IT.css,IT.cs]
      simp[hg1']
      by_cases hcc:c'=c
      ·subst hcc
       have hpsl:ps.length=P.length:=by
        rw[←hpk]
        simp only[rdE]at hrE
        by_cases h1:c'<0∨8≤c'
        ·rw[if_pos h1]at hrE;omega
        ·rw[if_neg h1,hpay]at hrE
         by_cases h2:(pick l bs).length=ps.length
         ·exact h2.symm
         ·simp only[if_neg h2]at hrE;omega
       have hHid:H.length+3≤id:=by have:=hR1.1;simpa using this
       have hH1l:=(List.getElem?_eq_some_iff.1 hg2).1
       have hcut:∀ r:List IT,r.length=l.length→HSc (H1.set (H.length+2) (.cells (za6 r))):=fun r hr=>hsc1.set (by simp[AB.sc,zxg])
       simp
       refine zKR (Inv:=fun q t104 H'=>∃ i:Nat,i≤P.length∧q=P.length-i∧t104=.int .i64 i∧H'=H1.set (H.length+2) (.cells (za6 (fill base (P.take i) (ps.take i))))) P.length ?_ ?_
       ·intro _;exact⟨0,by omega,by omega,rfl,by simp[zxz hg2]⟩
       ·rintro q t104 H' ⟨i,hi,rfl,rfl,rfl⟩ hsc hlen' hsF Kb hKb
        have hga:(H1.set (H.length+2) (.cells (za6 (fill base (P.take i) (ps.take i)))))[H.length+1]?=some (.cells [.int .i64 0,.sl ([.int .i64 c',.sl (IT.css ps) .none]::IT.css rest) .none]):=by
         rw[List.getElem?_set_ne (by omega)];exact hg1'
        have hgb:(H1.set (H.length+2) (.cells (za6 (fill base (P.take i) (ps.take i)))))[H.length+2]?=some (.cells (za6 (fill base (P.take i) (ps.take i)))):=List.getElem?_set_self hH1l
        by_cases hlt:i<P.length
        ·have hlp:i<ps.length:=by omega
         obtain⟨x,y,hzz,hx,hy⟩:=zb2 ps[i]
         have hrs:=zh2 (fill base (P.take i) (ps.take i)) P[i] ps[i] (by rw[zgb,hbl];exact hPl _ (List.getElem_mem hlt))
         rw[←zvP hlt hlp]at hrs
         have hPi:=hPl _ (List.getElem_mem hlt)
         simp[zrW,zcE,zjV,hlt,hlp,hga,hgb,hPi,hzz,hx,hy]
         refine⟨by rw[zd4,zgb,hbl];omega,?_⟩
         have hcell:List.take (P[i]*2) (za6 (fill base (List.take i P) (List.take i ps)))++x::y::List.drop (P[i]*2+2) (za6 (fill base (List.take i P) (List.take i ps)))=za6 (fill base (P.take (i+1)) (ps.take (i+1))):=by rw[←hrs,hzz];simp
         rw[hcell,zau (by omega) (by omega)]
         refine hKb _ _ ⟨P.length-(i+1),by omega,Back.at (J:=[]) (H2:=H1.set (H.length+2) (.cells (za6 (fill base (P.take (i+1)) (ps.take (i+1)))))) (by simp) (by simp) (hcut _ (by rw[zgb,hbl])) ?_ ⟨_,rfl,i+1,by omega,rfl,by simp,rfl⟩⟩
         have hidl:=(List.getElem?_eq_some_iff.1 hR1.2.choose_spec.1).1
         simp[zlv,AV.sc,AV.scV,AV.scA,AV.scB,hidl]
         omega
        ·obtain rfl:i=P.length:=by omega
         rw[List.take_length,←hpsl,List.take_length]at *
         simp[zrW,zcE,hg1']
         refine⟨fun a ha=>zos ha,?_⟩
         rw[List.take_of_length_le (show (IT.css rest).length≤rest.length by simp)]
         have hrow1:(fill base P ps).length=l.length:=by rw[zgb,hbl]
         refine zto R _ _ (fill base P ps) rest _ ⟨zd4 _,zqd _,.inl ⟨H.length+2,by rw[hrow1],hgb⟩⟩ (fun p hp=>by rw[hrow1];exact hRl p hp) (by omega) (by simp at hl6;omega) (by omega) (zj4 (by simp at hl6;omega) (by omega)) ?_
         intro id2 H2 hp2 hsc2 hR2
         have hlen1:(H1.set (H.length+2) (.cells (za6 (fill base P ps)))).length=H1.length:=by simp
         have hag:∀ k,H.length+3≤k→k<H1.length→H2[k]?=H1[k]?:=fun k hk1 hk2=>by
          rw[zhZ hp2 (by rw[hlen1];exact hk2),List.getElem?_set_ne (by omega)]
         have hpH2:H <+: H2:=List.IsPrefix.trans (zj6 hp0 (by omega)) hp2
         have hR1':RowsH H2 H.length id (zbo base R (.mk c' ps::rest)):=(RowsH.agree hR1 (fun k hk1 hk2=>hag k (by simpa using hk1) hk2)).weaken (by simp)
         have hidl:=(List.getElem?_eq_some_iff.1 hR1.2.choose_spec.1).1
         have hsec:zcP base P R c' (.mk c' ps::rest)=zbo (fill base P ps) R rest:=by simp[zcP]
         rw[hsec]at hwide hnds hlen hK
         rw[List.length_append]at hlen
         refine zDs hR1' hR2 (by rw[hlen1];exact hidl) (by rw[hlen1];omega) (by omega) hsc2 fun H4 hs4 hR4 hpre4=>?_
         exact zx2 (hpre4 H hpH2 (by omega)) hs hR4 hwide (by omega) hnds (by rw[List.length_append];omega) K hK
      ·have hcb:(c' == c)=false:=by simpa using hcc
       simp[hcb]
       exact hfin1 (by simp[zcP,hcc])
 ·have hb:(k != 5)=true:=by simpa using h5
  simp[hb]
  exact⟨⟨rfl,rfl⟩,zg5 hs (hbad 6 (by simp[zc7,hd,VT.kind,h5]))⟩
def dOne:List Dat:=[⟨[68],0,[⟨[67],[]⟩]⟩]
theorem zvA:za2 dOne:=by
 refine⟨by simp[dOne],fun d hd=>?_⟩
 simp[dOne]at hd
 subst hd
 refine⟨by simp,by simp,fun c hc=>?_⟩
 simp at hc
 subst hc
 exact⟨by simp,by simp,by simp⟩
theorem zvz:zaU dOne (.mk 5 0 []) 0=some []:=by kernel_rfl
theorem zDX:zc7 dOne (.mk 5 0 []) 0 (.mk 0 [.mk 0 []])=none:=by kernel_rfl
theorem zvf (H:zaa) (K:Kt) (hK:K (.bool true) H):ACalls tP zjw [] H K:=by
 refine ACalls.out (zN2 fun hs=>?_)
 simp[zAQ,zaz,zaV,zaB,zbf,zaF,AV.pd,AV.known,Nat.add_assoc]
 obtain⟨bs,hlb,hl8,hpay,h200,_,hsc,_⟩:=zp0 zvA zvz
 have hbs:bs=[]:=by cases bs <;> simp_all
 subst hbs
 have hgo:∀ (H:zaa) (K:Kt),K (.tup [.sl [[.sl [] .none]] .none,.int .i64 0]) H→ACalls tP zhB [.sl (dOne.map Dat.cs) .none,.agg (VT.mk 5 0 []).cs,.int .i64 0,.agg (IT.mk 0 [.mk 0 []]).cs] H K:=fun H K hK=>by
  refine zzS dOne zvA (.mk 5 0 []) (by decide) 0 (.mk 0 [.mk 0 []]) (by decide) H K (fun e he=>by rw[zDX]at he;cases he) (fun _=>⟨[],[],zvz,rfl,by simp,by simp,hpay,hsc,fun rs hp _=>?_⟩)
  have hr:zcw [] [] 0 (zaC (.mk 0 [.mk 0 []]))=[[]]:=by kernel_rfl
  rw[hr]at hp
  obtain rfl:=List.perm_singleton.1 hp
  exact hK
 refine ACalls.wk (hgo H _ ?_) ⟨.atom (.sl _ _),.agg ⟨.refl _,.refl _,.snil,trivial⟩,.atom (.refl _),.agg ⟨.refl _,.sl _ _,trivial⟩,trivial⟩
 simp
 exact Out.bool (J:=[]) (by simp) (Nat.le_refl _) hs hK
theorem zFY (data:List Dat) (hlen:data.length≤9223372036854775807) (t:VT) (H:zaa) (K:Kt) (hK:∀ b,(b=true→za2 data∧t.nodes≤250)→K (.bool b) H):ACalls tP zpN [.sl (data.map Dat.cs) .none,.agg t.cs] H K:=by
 refine ACalls.out (zTS fun hs=>?_)
 have hO:∀ b,(b=true→za2 data∧t.nodes≤250)→∀ J,Out H.length K (.bool b) (H++J):=fun b h J=>Out.bool rfl (Nat.le_refl _) hs (hK b h)
 obtain⟨x,y,z,hvx,hx,hy,hz⟩:=zaO t
 simp[zq9,hvx,Nat.add_assoc]
 refine zOu data _ _ hlen fun b1 hb1=>?_
 cases b1 with
 | false=>
  simp
  exact hO _ (fun h=>by cases h) _
 | true=>
  simp[Nat.add_assoc]
  rw[←hvx]
  refine zOy t _ _ fun b2 hb2=>?_
  try simp
  exact hO _ (fun h=>⟨hb1 rfl,hb2 h⟩) _
theorem zFx {N:Nat} {l:List VT} {bs:List Bool} {c:Int} {kids:List IT} (hl:∀ x∈l,x.nodes≤200) (hN:200≤N) (hk:IT.nodesL kids+1≤N):∀ r∈zcw l bs c kids,∀ x∈r,x.nodes≤N:=by
 have hb:=zvh (P:=pos false bs bs.length) hl
 intro r h
 unfold zcw at h
 rcases List.mem_append.1 h with h | h
 ·exact zhf _ _ _ (fun x hx=>by have:=hb x hx;omega) hk r h
 ·unfold zcP at h
  split at h
  ·simp at h
  ·rename_i c' ps rest
   simp only[IT.nodesL,IT.nodes]at hk
   split at h
   ·refine zhf _ _ _ (fun x hx=>?_) (by omega) r h
    rcases zi1 _ _ _ _ hx with hx | hx
    ·have:=hb x hx;omega
    ·have:=zwy hx;omega
   ·simp at h
theorem zDT {data:List Dat} {n:Int} {ks:List VT} {c:Int} {v:IT} (hE:zc7 data (.mk 5 n ks) c v=none):zbg data (.mk 5 n ks)=true∧∃ kids,v=.mk 0 kids∧0≤rdE data kids (.mk 5 n ks) 0∧zaS data (.mk 5 n ks) (.mk 0 kids)=rdE data kids (.mk 5 n ks) 0∧kids.length≤6:=by
 have hd:0≤zaS data (.mk 5 n ks) v:=by
  unfold zc7 at hE
  split at hE
  ·cases hE
  ·omega
 have hf:zbg data (.mk 5 n ks)=true:=by
  unfold zaS at hd
  by_cases h:zbg data (.mk 5 n ks)=true
  ·exact h
  ·rw[if_neg h]at hd;omega
 obtain⟨m,kids⟩:=v
 have hr:zaS data (.mk 5 n ks) (.mk m kids)=rdV data (.mk m kids) (.mk 5 n ks):=by unfold zaS;rw[if_pos hf]
 rw[hr,zgt]at hd
 by_cases h:m=0∧kids.length≤6
 ·rw[if_pos h]at hd
  obtain⟨rfl,h6⟩:=h
  refine⟨hf,kids,rfl,hd,?_,h6⟩
  rw[hr,zgt,if_pos ⟨rfl,h6⟩]
 ·rw[if_neg h]at hd;omega
theorem zw7 (g:Nat→IT→Nat) (x:IT):∀ (s:Nat) (a:List IT),zaZ g s (a++[x])=zaZ g s a*g (s+a.length) x
 | s,[]=>by simp[zaZ]
 | s,y::a=>by
  rw[List.cons_append,zaZ,zaZ,zw7 g x (s+1) a,List.length_cons,show s+1+a.length=s+(a.length+1) by omega,Nat.mul_assoc]
theorem zw8 (g:Nat→IT→Nat) (row:List IT) (k:Nat) (h:k<row.length):zaZ g 0 (row.take (k+1))=zaZ g 0 (row.take k)*g k row[k]:=by
 rw[List.take_succ_eq_append_getElem h,zw7]
 simp[Nat.min_eq_left (Nat.le_of_lt h)]
theorem zGG {l:List Nat} {k:Nat} (h:k<l.length):zba (l.take (k+1))=zba (l.take k)+l[k]:=by
 rw[List.take_succ_eq_append_getElem h,zia];simp
theorem zxY (l:List Nat) (k:Nat):zba (l.take k)≤zba l:=by
 have:=zia (l.take k) (l.drop k)
 rw[List.take_append_drop]at this
 omega
theorem zsO {data:List Dat} (hk:za2 data) (n:Int) (ks:List VT) (htn:(VT.mk 5 n ks).nodes≤250) (v:VT) (hv:v.nodes≤80) (hh:zc9 data v (.mk 5 n ks)=true) (iv:IT) (hiv:iv.nodes≤100) (hd:0≤zaS data (.mk 5 n ks) iv)
  (H:zaa) (K:Kt) (hK:K (.tup [.agg (zak ((atV data iv (.mk 5 n ks) v:Nat):Int)),.bool true]) H) :
  ACalls tP zhG [.sl (data.map Dat.cs) .none,.agg (VT.mk 5 n ks).cs,.agg iv.cs,.agg v.cs] H K:=by
 refine ACalls.out (zOg fun hs=>?_)
 obtain⟨f1,f2,f3⟩:=zdG hk
 obtain⟨hD,htv,hvv⟩:=zoK hh
 obtain⟨vk,c,vs⟩:=v
 obtain⟨rfl,hn0,hc0,hc8,hn,hc,hkl,_,hrc,hrl,hkid⟩:=zfk hvv
 obtain⟨l,hf⟩:∃ l,zaU data (.mk 5 n ks) c=some l:=by
  cases hf:zaU data (.mk 5 n ks) c with
  | none=>simp[zav,hf,zi3]at hvv
  | some l=>exact⟨l,rfl⟩
 have hE:zc7 data (.mk 5 n ks) c iv=none:=by
  unfold zc7
  rw[if_neg (by omega),if_neg (by simp[VT.kind]),if_neg,if_neg (by simp[hf])]
  simp only[VT.num,List.getD_eq_getElem?_getD,List.getElem?_eq_getElem hn,Option.getD_some]
  omega
 obtain⟨x2,y2,hvx2,hx2,hy2⟩:=zb2 iv
 simp[zA1,hvx2,VT.cs,Nat.add_assoc]
 rw[←hvx2]
 refine zzS data hk (.mk 5 n ks) (by omega) c iv (by omega) _ _ (fun e he=>by rw[hE]at he;cases he) (fun _=>?_)
 obtain⟨bs,hbs,hlb,hl8,hpay,h200,_,hsc,hrec,hrt,_,_⟩:=zj2 hk hf
 obtain⟨hfine,kids,rfl,hrE,hdeg,hk6⟩:=zDT hE
 refine⟨l,bs,hf,hlb,hl8,h200,hpay,hsc,fun rs hp hso=>?_⟩
 replace hp:rs.Perm (zcw l bs c kids):=hp
 have h8:=zgd hfine
 obtain⟨hvl,_⟩:=zpS hvv hf hlb
 have hvls:zbI data vs l=true:=by
  have h0:=hvv
  simp[zav]at h0
  rw[hf,zhn]at h0
  exact h0.2
 have hkp:∀ ps rest,kids=.mk c ps::rest→ps.length=(pick l bs).length:=by
  intro ps rest he
  subst he
  obtain⟨ps',h1,h2,_⟩:=zj8 h8 hrE (j:=0) (by simp) (c:=c) (eks:=ps) (by simp)
  rw[hpay]at h1
  cases h1
  omega
 have hsum:=zFy hlb hvl hbs hpay hrt hkp
 rw[←zGF (hp.map _)]at hsum
 obtain⟨g,hg⟩:∃ g:Nat→IT→Nat,g=fun k x=>atV data x (l.getD k tz) (vs.getD k tz):=⟨_,rfl⟩
 rw[←hg]at hsum
 have hWle:atV data (.mk 0 kids) (.mk 5 n ks) (.mk 5 c vs)≤1000 ^ 6:=
  AtOk.le h8 ⟨by omega,htv,by unfold zaS at hd;rw[if_pos hfine]at hd;omega,hvv,by omega,by omega⟩
 obtain⟨W,hW⟩:∃ W,W=atV data (.mk 0 kids) (.mk 5 n ks) (.mk 5 c vs):=⟨_,rfl⟩
 rw[←hW]at hsum hWle hK
 have hrd:=fun r hr=>zFo h8 hlb hpay hrt hrE r (hp.subset hr)
 have hwide:∀ r∈rs,r.length=l.length:=fun r hr=>zxl l bs c kids r (hp.subset hr)
 have hnod:∀ r∈rs,∀ x∈r,x.nodes≤200:=fun r hr=>zFx (bs:=bs) (c:=c) h200 (Nat.le_refl _) (by show IT.nodesL kids+1≤200;simp only[IT.nodes]at hiv;omega) r (hp.subset hr)
 have hrsl:rs.length≤200000000:=by rw[hp.length_eq];exact zxk hk6 (by omega)
 have hfv:∀ x∈l,zbg data x=true:=fun x hx=>by
  unfold zbg at hfine ⊢
  rw[Bool.and_eq_true]at hfine ⊢
  exact⟨hfine.1,zga hfine.1 (zqH htv) hf x hx⟩
 have hgat:∀ r∈rs,∀ (j:Nat) (h1:j<r.length) (h2:j<l.length) (h3:j<vs.length),atR data l[j] r[j] vs[j]=.tup [.agg (zak ((g j r[j]:Nat):Int)),.int .i64 0]∧g j r[j]≤1000 ^ 6:=by
  intro r hr j h1 h2 h3
  have e1:g j r[j]=atV data r[j] l[j] vs[j]:=by
   rw[hg];simp[List.getD_eq_getElem?_getD,h2,h3]
  have e2:=(hrd r hr).1 j (by omega)
  simp[List.getD_eq_getElem?_getD,h1,h2]at e2
  have e3:0≤zaS data l[j] r[j]:=by unfold zaS;rw[if_pos (hfv _ (List.getElem_mem h2))];exact e2
  have e4:=zge hvls j h3 h2
  have e5:zc9 data vs[j] l[j]=true:=by unfold zc9;rw[hfv _ (List.getElem_mem h2),e4];rfl
  have e6:=hfv _ (List.getElem_mem h2)
  unfold zbg at e6
  rw[Bool.and_eq_true]at e6
  have e7:=VT.kid_lt (k:=5) (n:=c) h3
  have e8:=h200 _ (List.getElem_mem h2)
  have e9:=hnod r hr _ (List.getElem_mem h1)
  refine⟨?_,?_⟩
  ·unfold atR;rw[if_neg (by omega),if_neg (by simp[e5]),e1]
  ·rw[e1];exact AtOk.le h8 ⟨by omega,e6.2,e2,e4,by omega,by omega⟩
 simp[zfx,VT.cs,IT.cs,Nat.add_assoc]
 refine zlX data f1 f2 f3 (.mk 5 n ks) (by omega) c _ _ ?_
 rw[hf]
 simp[zb1,Nat.add_assoc]
 refine zcr 0 (by omega) _ _ ?_
 simp[Nat.add_assoc,zbU]
 have hbase:∀ z2:Int,HSc (H++[.cells [.int .i64 5,.int .i64 n,.sl (VT.css ks) .none],.cells [.int .i64 0,.sl (IT.css kids) .none],.cells [.int .i64 5,.int .i64 c,.sl (VT.css vs) .none],.cells [.bool false,.snil,.snil],.cells (zak z2)]):=fun z2=>hs.append (by simp[AB.sc,zak,AV.scA,AV.scB])
 refine zOd (Inv:=fun q t41 H'=>∃ i:Nat,i≤rs.length∧rs.length-i=q∧t41=.int .i64 i ∧
  H'=H++[.cells [.int .i64 5,.int .i64 n,.sl (VT.css ks) .none],.cells [.int .i64 0,.sl (IT.css kids) .none],.cells [.int .i64 5,.int .i64 c,.sl (VT.css vs) .none],.cells [.bool false,.snil,.snil],.cells (zak ((zba ((rs.map (zaZ g 0)).take i):Nat):Int))]) rs.length ?_ ?_
 ·intro _;exact⟨0,by omega,rfl,rfl,rfl⟩
 ·rintro q t41 H' ⟨i,hi,rfl,rfl,rfl⟩ hsc' hlen' hsF Kb hKb
  have hsle:=zxY (rs.map (zaZ g 0)) i
  by_cases hlt:i<rs.length
  ·have hmr:=List.getElem_mem hlt
   have hw:=hwide _ hmr
   simp[zsL,hlt,hw,Nat.add_assoc]
   refine zcr 1 (by omega) _ _ ?_
   simp[Nat.add_assoc,zbU]
   have hg3:∀ z2 z3:Int,HSc (H++[.cells [.int .i64 5,.int .i64 n,.sl (VT.css ks) .none],.cells [.int .i64 0,.sl (IT.css kids) .none],.cells [.int .i64 5,.int .i64 c,.sl (VT.css vs) .none],.cells [.bool false,.snil,.snil],.cells (zak z2),.cells (zak z3)]):=fun z2 z3=>hs.append (by simp[AB.sc,zak,AV.scA,AV.scB])
   have hle8:∀ j,j≤l.length→zaZ g 0 (rs[i].take j)≤1000 ^ (6*j):=by
    intro j
    induction j with
    | zero=>intro _;simp[zaZ]
    | succ j ih=>
     intro hj
     rw[zw8 g rs[i] j (by omega),show 6*(j+1)=6*j+6 by omega,Nat.pow_add]
     exact Nat.mul_le_mul (ih (by omega)) (hgat _ hmr j (by omega) (by omega) (by omega)).2
   refine zOc (Inv:=fun q t54 H'=>∃ j:Nat,j≤l.length∧l.length-j=q∧t54=.int .i64 j ∧
    H'=H++[.cells [.int .i64 5,.int .i64 n,.sl (VT.css ks) .none],.cells [.int .i64 0,.sl (IT.css kids) .none],.cells [.int .i64 5,.int .i64 c,.sl (VT.css vs) .none],.cells [.bool false,.snil,.snil],.cells (zak ((zba ((rs.map (zaZ g 0)).take i):Nat):Int)),.cells (zak ((zaZ g 0 (rs[i].take j):Nat):Int))]) l.length ?_ ?_
   ·intro _;exact⟨0,by omega,rfl,rfl,rfl⟩
   ·rintro q t54 H' ⟨j,hj,rfl,rfl,rfl⟩ hsc2 hlen2 hsF2 Kb2 hKb2
    by_cases hjl:j<l.length
    ·have hjr:j<rs[i].length:=by omega
     have hjv:j<vs.length:=by omega
     obtain⟨q1,q2⟩:=hgat _ hmr j hjr hjl hjv
     have hkn:=VT.kid_lt (k:=5) (n:=c) hjv
     obtain⟨a1,a2,a3,hva,hxa,hya,hza⟩:=zaO l[j]
     obtain⟨b1,b2,b3,hvb,hxb,hyb,hzb⟩:=zaO vs[j]
     obtain⟨c1,c2,hvc,hxc,hyc⟩:=zb2 rs[i][j]
     have hp8:=hle8 j (by omega)
     simp[zsK,hjl,hjr,hjv,hva,hvb,hvc,wi j (by omega),Nat.add_assoc]
     rw[←hva,←hvb,←hvc]
     refine zaH (.tup [.agg (zak ((g j rs[i][j]:Nat):Int)),.int .i64 0]) (fun J=>zLT hk l[j] (by have:=h200 _ (List.getElem_mem hjl);omega) rs[i][j] (by have:=hnod _ hmr _ (List.getElem_mem hjr);omega) vs[j] (by omega) _ _ ⟨q1,rfl⟩) ?_
     simp[Nat.add_assoc,zbU]
     refine zdR _ _ (zcx hp8 (by omega)) (zcx q2 (by omega)) _ _ ?_
     have hpt:=zw8 g rs[i] j hjr
     have e:((zaZ g 0 (rs[i].take j):Nat):Int)*((g j rs[i][j]:Nat):Int)=((zaZ g 0 (rs[i].take (j+1)):Nat):Int):=by rw[hpt,Int.natCast_mul]
     rw[e]
     simp[Nat.add_assoc,zbU]
     exact hKb2 _ _ ⟨l.length-(j+1),by omega,Back.at (J:=[.cells (zak ((g j rs[i][j]:Nat):Int))]) (H2:=H++[.cells [.int .i64 5,.int .i64 n,.sl (VT.css ks) .none],.cells [.int .i64 0,.sl (IT.css kids) .none],.cells [.int .i64 5,.int .i64 c,.sl (VT.css vs) .none],.cells [.bool false,.snil,.snil],.cells (zak ((zba ((rs.map (zaZ g 0)).take i):Nat):Int)),.cells (zak ((zaZ g 0 (rs[i].take (j+1)):Nat):Int))]) (by simp) (by simp) (hg3 _ _) (by simp[zmc,ux,AV.sc,AV.scA,AV.scB,AV.scV]) ⟨_,rfl,j+1,by omega,rfl,rfl,rfl⟩⟩
    ·obtain rfl:j=l.length:=by omega
     have hfull:rs[i].take l.length=rs[i]:=List.take_of_length_le (by omega)
     rw[hfull]at *
     have hst:=zGG (l:=rs.map (zaZ g 0)) (k:=i) (by simpa using hlt)
     simp at hst
     have hsle2:=zxY (rs.map (zaZ g 0)) (i+1)
     simp[zsK,wi i (by omega),Nat.add_assoc,zbU]
     refine zio _ _ (zcx (k:=6) (by omega) (by omega)) (zcx (k:=6) (by omega) (by omega)) _ _ ?_
     have e:((zba ((rs.map (zaZ g 0)).take i):Nat):Int)+((zaZ g 0 rs[i]:Nat):Int)=((zba ((rs.map (zaZ g 0)).take (i+1)):Nat):Int):=by rw[hst,Int.natCast_add]
     rw[e]
     simp[Nat.add_assoc,zbU]
     exact hKb _ _ ⟨rs.length-(i+1),by omega,Back.at (J:=[.cells (zak ((zaZ g 0 rs[i]:Nat):Int))]) (H2:=H++[.cells [.int .i64 5,.int .i64 n,.sl (VT.css ks) .none],.cells [.int .i64 0,.sl (IT.css kids) .none],.cells [.int .i64 5,.int .i64 c,.sl (VT.css vs) .none],.cells [.bool false,.snil,.snil],.cells (zak ((zba ((rs.map (zaZ g 0)).take (i+1)):Nat):Int))]) (by simp) (by simp) (hbase _) (by simp[zmd,ux,AV.sc,AV.scA,AV.scB,AV.scV]) ⟨_,rfl,i+1,by omega,rfl,rfl,rfl⟩⟩
  ·obtain rfl:i=rs.length:=by omega
   rw[List.take_of_length_le (by simp),hsum]at *
   simp[zsL,Nat.add_assoc,zbU]
   exact⟨⟨rfl,rfl⟩,Out.tup (bs:=[.agg (zak (W:Int)),.bool true]) hs hK ⟨za4 rfl rfl,za4 rfl rfl,trivial⟩⟩
end Go.Proofs.YtjkkonpjecoieaaGreat
