import Derived.Test.YtdmamdnkcefmmaaGreatDoorKY15
import Derived.Test.YtdmamdnkcefmmaaGreatDoorKY4
import Derived.Test.YtdmamdnkcefmmaaGreatDoorIT
import Derived.Test.YtdmamdnkcefmmaaGreatDoorAbsL
import Derived.Test.YtdmamdnkcefmmaaGreatDoorKNum
import Derived.Test.YtdmamdnkcefmmaaGreatDoorProg
import Derived.KernelRfl
import Derived.Test.YtdmamdnkcefmmaaGreatDoorAbsQ1
import Derived.Test.YtdmamdnkcefmmaaGreatDoorKY11
set_option linter.unusedSimpArgs false
set_option linter.unusedVariables false
set_option maxRecDepth 8000
namespace Go.Proofs.YtdmamdnkcefmmaaGreatDoor
open Go Go.Abs
def zbV (l:List (List UInt8)):List (List UInt8 × AV):=l.map fun s=>(s,.bool true)
theorem zff (s:List UInt8):∀ l:List (List UInt8),(zbD (zbV l) s).getD (.bool false)=.bool (decide (s∈l))
 | []=>by simp[zbV,zbD]
 | a::l=>by
  have:=zff s l
  cases h:a == s with
  | true=>
   have h':a=s:=by simpa using h
   simp[zbV,zbD,h,h']
  | false=>
   have h':a≠s:=by simpa using h
   have h'':s≠a:=fun e=>h' e.symm
   simp only[zbV,List.map_cons,zbD,h]at this ⊢
   rw[this];simp[h'']
theorem zpi (s:List UInt8):∀ l:List (List UInt8),s ∉ l→zct (zbV l) s (.bool true)=zbV (l++[s])
 | [],_=>rfl
 | a::l,h=>by
  have h1:(a == s)=false:=by simp at h;simpa using fun e=>h.1 e.symm
  have:=zpi s l (by simp at h;exact h.2)
  simp only[zbV,List.map_cons,zct,h1,List.cons_append]at this ⊢
  rw[this]
theorem zE1 (m:Nat) (l:List (List UInt8)):(AB.map (zbV l)).sc m=true:=by simp[AB.sc,zbV,AV.scV]
def zbp (data:List Dat):List (List UInt8):=data.map Dat.name
def zaO (data:List Dat):List (List UInt8):=data.flatMap fun D=>D.cons.map Con.name
def zdd (data:List Dat) (d:Nat) (vars:Int) (c:Con):Bool:=zcT c.name && (decide (c.args.length≤6) && c.args.all (zdG data d vars))
def zcz (data:List Dat) (d:Nat) (D:Dat):Bool:=zcT D.name && decide (0≤D.vars) && decide (D.vars≤6) && decide (1≤D.cons.length) && decide (D.cons.length≤8) && D.cons.all (zdd data d D.vars)
def zcJ (data:List Dat):List Dat→Nat→Bool
 | [],_=>true
 | D::l,d=>zcz data d D && zcJ data l (d+1)
def zbq (data:List Dat):Bool:=decide (data.length≤12) && zcJ data data 0 && !zce (zbp data) && !zce (zaO data)
theorem zv7 {A R:List (List UInt8)} {s:List UInt8} (h:s∈A):zce (A++s::R)=true:=by
 simp only[zce,Bool.not_eq_true',decide_eq_false_iff_not,List.nodup_append]
 rintro⟨_,_,h3⟩
 exact h3 s h s (by simp) rfl
theorem zo7 {l:List (List UInt8)} (h:l.Nodup):zce l=false:=by simp[zce,h]
theorem zvA {A:List (List UInt8)} {s:List UInt8} (h:A.Nodup) (hs:s ∉ A):(A++[s]).Nodup:=by
 rw[List.nodup_append]
 refine⟨h,by simp,?_⟩
 intro a ha b hb
 simp at hb;subst hb
 exact fun e=>hs (e ▸ ha)
def zgl (data:List Dat):Prop:=∀ D∈data,D.cons.length≤1000000∧∀ c∈D.cons,c.args.length≤1000000∧∀ x∈c.args,x.nodes≤1000000
theorem zJ8 (data:List Dat) (hB:zgl data) (hl:data.length≤1000000) (H:zaa) (K:AV→zaa→Prop) (hK:K (.bool (zbq data)) H):ACalls tP zoc [.sl (data.map Dat.cs) .none] H K:=by
 refine ACalls.out (zJ6 fun hs=>?_)
 have hO:∀ J,Out H.length K (.bool (zbq data)) (H++J):=fun J=>Out.bool rfl (Nat.le_refl _) hs hK
 by_cases h12:data.length≤12
 ·have h12':¬ (12:Int)<data.length:=by omega
  have h12'':¬ 12<data.length:=by omega
  have hD0:zcJ data data 0=false→∀ J,Out H.length K (.bool false) (H++J):=fun h J=>by
   have:=hO J;rwa [show zbq data=false by simp[zbq,h]]at this
  have hD1:zce (zbp data)=true→∀ J,Out H.length K (.bool false) (H++J):=fun h J=>by
   have:=hO J;rwa [show zbq data=false by simp[zbq,h]]at this
  have hD2:zce (zaO data)=true→∀ J,Out H.length K (.bool false) (H++J):=fun h J=>by
   have:=hO J;rwa [show zbq data=false by simp[zbq,h]]at this
  simp[zqH,h12',h12'']
  refine zJ4 (Inv:=fun q t15 H'=>∃ i:Nat,i≤data.length∧q=data.length-i∧t15=.int .i64 i∧zcJ data (data.drop i) i=zcJ data data 0∧(zbp (data.take i)).Nodup∧(zaO (data.take i)).Nodup∧H'=H++[.map (zbV (zbp (data.take i))),.map (zbV (zaO (data.take i)))]) data.length ?_ ?_
  ·intro _;exact⟨0,by omega,by omega,rfl,by simp,by simp[zbp],by simp[zaO],by simp[zbp,zaO,zbV]⟩
  ·rintro q t15 H' ⟨i,hi,rfl,rfl,ho,hdn,hcn,rfl⟩ hsc hlen hsF Kb hKb
   by_cases hlt:i<data.length
   ·have e1:(data.map Dat.cs)[i]?=some (data[i]).cs:=by simp[hlt]
    obtain⟨hB1,hB2⟩:=hB _ (List.getElem_mem hlt)
    have hargs:=fun c hc=>zMU data i c hlt hc hl hB1 (hB2 _ (List.getElem_mem hc)).1 (hB2 _ (List.getElem_mem hc)).2
    rw[List.drop_eq_getElem_cons hlt,zcJ]at ho
    have htk:data.take (i+1)=data.take i++[data[i]]:=by rw[List.take_append_getElem hlt]
    have hsplit:data=data.take i++data[i]::data.drop (i+1):=by rw[List.getElem_cons_drop,List.take_append_drop]
    generalize hD:data[i]=D at *
    have hbad:zcz data i D=false→zcJ data data 0=false:=fun h=>by rw[←ho,h,Bool.false_and]
    have hno:∀ J,zcz data i D=false→Out H.length K (.bool false) (H++[.map (zbV (zbp (data.take i))),.map (zbV (zaO (data.take i)))]++J):=fun J h=>by
     rw[List.append_assoc];exact hD0 (hbad h) _
    simp[zqJ,hlt,e1,hD,Dat.cs]
    refine zzJ _ _ _ ?_
    cases hu:zcT D.name with
    | false=>simp;exact hD0 (hbad (by simp[zcz,hu])) _
    | true=>
    by_cases hmem:D.name∈zbp (data.take i)
    ·simp[hlt,e1,hD,Dat.cs,zff,hmem]
     refine hD1 ?_ _
     rw[hsplit];simp only[zbp,List.map_append,List.map_cons]
     exact zv7 hmem
    by_cases hv0:D.vars<0
    ·simp[hlt,e1,hD,Dat.cs,zff,hmem,hv0]
     exact hD0 (hbad (by simp[zcz,show ¬ 0≤D.vars by omega])) _
    by_cases hv6:6<D.vars
    ·simp[hlt,e1,hD,Dat.cs,zff,hmem,hv0,hv6]
     exact hD0 (hbad (by simp[zcz,show ¬ D.vars≤6 by omega])) _
    simp[hlt,e1,hD,Dat.cs,zff,hmem,hv0,hv6,zpi _ _ hmem]
    by_cases hc1:D.cons.length<1
    ·have hc1':(D.cons.length:Int)<1:=by omega
     simp[hc1']
     exact hD0 (hbad (by simp[zcz,show ¬ 1≤D.cons.length by omega])) _
    have hc1':¬ (D.cons.length:Int)<1:=by omega
    by_cases hc8:8<D.cons.length
    ·have hc8':(8:Int)<D.cons.length:=by omega
     simp[hlt,e1,hD,Dat.cs,hc1',hc8',hc8]
     exact hD0 (hbad (by simp[zcz,show ¬ D.cons.length≤8 by omega])) _
    have hc8':¬ (8:Int)<D.cons.length:=by omega
    have hdat:zcz data i D=D.cons.all (zdd data i D.vars):=by
     simp[zcz,hu,show 0≤D.vars by omega,show D.vars≤6 by omega,show 1≤D.cons.length by omega,show D.cons.length≤8 by omega]
    simp[hlt,e1,hD,Dat.cs,hc1',hc8',hc8]
    have hdn':(zbp (data.take (i+1))).Nodup:=by
     rw[htk];simp only[zbp,List.map_append,List.map_cons,List.map_nil];exact zvA hdn hmem
    have hde:zbp (data.take i)++[D.name]=zbp (data.take (i+1)):=by rw[htk];simp[zbp]
    rw[hde]
    refine zJ3 (Inv:=fun q t78 H'=>∃ j:Nat,j≤D.cons.length∧q=D.cons.length-j∧t78=.int .i64 j∧(D.cons.drop j).all (zdd data i D.vars)=D.cons.all (zdd data i D.vars)∧(zaO (data.take i)++(D.cons.take j).map Con.name).Nodup∧H'=H++[.map (zbV (zbp (data.take (i+1)))),.map (zbV (zaO (data.take i)++(D.cons.take j).map Con.name))]) D.cons.length ?_ ?_
    ·intro _;exact⟨0,by omega,by omega,rfl,by simp,by simpa using hcn,by simp⟩
    ·rintro q t78 H' ⟨j,hj,rfl,rfl,hoc,hcj,rfl⟩ hsc1 hlen1 hsF1 Kb1 hKb1
     have hscH:∀ A B,HSc (H++[.map (zbV A),.map (zbV B)]):=fun A B=>hs.append (by simp[zE1])
     by_cases hjl:j<D.cons.length
     ·have e2:(D.cons.map Con.cs)[j]?=some (D.cons[j]).cs:=by simp[hjl]
      have hargs':=hargs j hjl
      rw[List.drop_eq_getElem_cons hjl,List.all_cons]at hoc
      have htj:zaO (data.take i)++(D.cons.take (j+1)).map Con.name=(zaO (data.take i)++(D.cons.take j).map Con.name)++[(D.cons[j]).name]:=by
       rw[←List.take_append_getElem hjl,List.map_append,List.append_assoc];rfl
      have hcs:zaO data=(zaO (data.take i)++(D.cons.take j).map Con.name)++(D.cons[j]).name::((D.cons.drop (j+1)).map Con.name++zaO (data.drop (i+1))):=by
       have h1:D.cons.map Con.name=(D.cons.take j).map Con.name++(D.cons[j]).name::(D.cons.drop (j+1)).map Con.name:=by
        rw[←List.map_cons (f:=Con.name),List.getElem_cons_drop,←List.map_append,List.take_append_drop]
       conv=>lhs;rw[hsplit]
       simp only[zaO,List.flatMap_append,List.flatMap_cons,List.append_assoc,h1,List.cons_append]
      generalize hC:D.cons[j]=C at *
      have hbad':zdd data i D.vars C=false→zcJ data data 0=false:=fun h=>hbad (by rw[hdat,←hoc,h,Bool.false_and])
      generalize hA:zaO (data.take i)++(D.cons.take j).map Con.name=A at *
      simp only[zqI]
      simp[hjl,hC,Con.cs,Nat.add_assoc]
      refine zzJ _ _ _ ?_
      cases hu2:zcT C.name with
      | false=>simp;exact hD0 (hbad' (by simp[zdd,hu2])) _
      | true=>
      by_cases hm2:C.name∈A
      ·simp[zff,hm2]
       exact hD2 (by rw[hcs];exact zv7 hm2) _
      ·simp[zff,hm2]
       refine hargs' _ _ ?_
       have hce:zdd data i D.vars C=(decide (C.args.length≤6) && C.args.all (zdG data i D.vars)):=by simp[zdd,hu2]
       rw[←hce]
       cases hco:zdd data i D.vars C with
       | false=>simp;exact hD0 (hbad' hco) _
       | true=>
        rw[hco,Bool.true_and]at hoc
        simp[zpi _ _ hm2]
        rw[zat (by omega) (by omega)]
        refine hKb1 _ _ ⟨D.cons.length-(j+1),by omega,Back.at (J:=[.cells [.str C.name,.sl (VT.css C.args) .none]]) (H2:=H++[.map (zbV (zbp (data.take (i+1)))),.map (zbV (A++[C.name]))]) (by simp) (by simp) (hscH _ _) ?_ ⟨_,rfl,j+1,by omega,rfl,by simp,hoc,?_,?_⟩⟩
        ·simp[zkT,AV.sc,AV.scV,AV.scA,AV.scB]
        ·rw[htj];exact zvA hcj hm2
        ·rw[htj]
     ·obtain rfl:j=D.cons.length:=by omega
      rw[List.drop_length,List.all_nil]at hoc
      rw[List.take_length]at *
      simp[zqI]
      rw[zat (by omega) (by omega)]
      have hce:zaO (data.take i)++D.cons.map Con.name=zaO (data.take (i+1)):=by rw[htk];simp[zaO]
      rw[hce]at hcj ⊢
      refine hKb _ _ ⟨data.length-(i+1),by omega,Back.at (J:=[]) (by simp) (by simp) (hscH _ _) ?_ ⟨_,rfl,i+1,by omega,rfl,by simp,?_,hdn',hcj,rfl⟩⟩
      ·simp[zkU,AV.sc,AV.scV,AV.scA,AV.scB]
      ·rw[←ho,hdat,←hoc,Bool.true_and]
   ·obtain rfl:i=data.length:=by omega
    rw[List.drop_length,zcJ]at ho
    rw[List.take_length]at *
    simp[zqJ]
    have:=hO [.map (zbV (zbp data)),.map (zbV (zaO data))]
    rwa [show zbq data=true by simp[zbq,h12,←ho,zo7 hdn,zo7 hcn]]at this
 ·have h12':(12:Int)<data.length:=by omega
  have h12'':12<data.length:=by omega
  rw[show zbq data=false by simp[zbq,h12]]at hO
  simp[zqH,h12',h12'']
  simpa using hO []
def ztg (c:Con):Prop:=c.name.length≤40∧c.args.length≤8∧∀ t∈c.args,t.nodes≤20
def zm1 (d:Dat):Prop:=d.name.length≤40∧d.cons.length≤10∧∀ c∈d.cons,ztg c
def zbG (ds:List Dat):Prop:=ds.length≤14∧∀ d∈ds,zm1 d
theorem zgU {α:Type} {l:List α} {i:Nat} (h:i<l.length) {p:α→Prop} (h1:∀ x∈l.take i,p x) (h2:p l[i]):∀ x∈l.take (i+1),p x:=by
 rw[List.take_succ_eq_append_getElem h]
 intro x hx
 rcases List.mem_append.1 hx with hx | hx
 ·exact h1 x hx
 ·simp at hx;subst hx;exact h2
theorem zu7 {α:Type} {cs:α→List AV} {l:List α} {i:Nat} (h:i<l.length):(l.map cs)[i]?.getD []=cs l[i]:=by simp[h]
theorem vt3 (v:VT):∃ a b c,v.cs=[a,b,c]∧a.known=true∧b.known=true∧c.known=true:=by
 obtain⟨k,n,ks⟩:=v;exact⟨_,_,_,rfl,rfl,rfl,rfl⟩
theorem zO1 (ds:List Dat) (H:zaa) (K:AV→zaa→Prop) (hlen:ds.length≤9223372036854775807) (hK:∀ b,(b=true→zbG ds)→K (.bool b) H):ACalls tP zoD [.sl (ds.map Dat.cs) .none] H K:=by
 refine ACalls.out (zOZ fun hs=>?_)
 have hF:∀ J,Out H.length K (.bool false) (H++J):=fun J=>Out.bool rfl (Nat.le_refl _) hs (hK false fun h=>by cases h)
 have hF0:Out H.length K (.bool false) H:=by simpa using hF []
 by_cases h14:ds.length>14
 ·have:(14:Int)<ds.length:=by omega
  simp[zr3,this]
  exact hF0
 have:¬ (14:Int)<ds.length:=by omega
 simp[zr3,this]
 refine zOW (Inv:=fun q t15 H'=>∃ i:Nat,i≤ds.length∧q=ds.length-i∧t15=.int .i64 i∧(∀ d∈ds.take i,zm1 d)∧H=H') ds.length ?_ ?_
 ·intro _;exact⟨0,by omega,by omega,rfl,by simp,rfl⟩
 ·rintro q t15 H' ⟨i,hi,rfl,rfl,ha,rfl⟩ hsc hl hsF Kb4 hKb4
  by_cases hil:i<ds.length
  ·have hat:(ds.map Dat.cs)[i]?.getD []=[.str ds[i].name,.int .i64 ds[i].vars,.sl (ds[i].cons.map Con.cs) .none]:=zu7 hil
   have next:zm1 ds[i]→∀ J,Kb4 (zhN (.sl (ds.map Dat.cs) .none) (.int .i64 ds.length) (.int .i64 (i+1))) (H++J):=by
    intro hd J
    refine hKb4 _ _ ⟨ds.length-(i+1),by omega,Back.same (Nat.le_refl _) hs ?_ ⟨_,rfl,i+1,by omega,rfl,by simp,zgU hil ha hd,rfl⟩⟩
    simp[zhN,AV.sc,AV.scV,AV.scA,AV.scB]
   generalize hdd:ds[i]=d at *
   simp[zr5,hil,hat,AV.known,hdd,Dat.cs]
   by_cases hn:d.name.length>40
   ·have:(40:Int)<d.name.length:=by omega
    simp[this]
    exact hF _
   have hn':¬ (40:Int)<d.name.length:=by omega
   by_cases hc:d.cons.length>10
   ·have:(10:Int)<d.cons.length:=by omega
    simp[hn',this]
    exact hF _
   have hc':¬ (10:Int)<d.cons.length:=by omega
   simp[hn',hc']
   refine zOX (Inv:=fun q t32 H'=>∃ j:Nat,j≤d.cons.length∧q=d.cons.length-j∧t32=.int .i64 j∧(∀ c∈d.cons.take j,ztg c)∧H'=H++[.cells [.str d.name,.int .i64 d.vars,.sl (d.cons.map Con.cs) .none]]) d.cons.length ?_ ?_
   ·intro _;exact⟨0,by omega,by omega,rfl,by simp,rfl⟩
   ·rintro q t32 H' ⟨j,hj,rfl,rfl,hb,rfl⟩ hsc9 hl9 hsF9 Kb9 hKb9
    by_cases hjl:j<d.cons.length
    ·have hat:(d.cons.map Con.cs)[j]?.getD []=[.str d.cons[j].name,.sl (VT.css d.cons[j].args) .none]:=zu7 hjl
     generalize hcc:d.cons[j]=c at *
     simp[zr6,hjl,hat,AV.known,hcc,Con.cs]
     by_cases hn:c.name.length>40
     ·have:(40:Int)<c.name.length:=by omega
      simp[this]
      exact hF _
     have hn':¬ (40:Int)<c.name.length:=by omega
     by_cases hc:c.args.length>8
     ·have:(8:Int)<c.args.length:=by omega
      simp[hn',this]
      exact hF _
     have hc':¬ (8:Int)<c.args.length:=by omega
     simp[hn',hc']
     refine zOV (Inv:=fun q t49 H'=>∃ (k:Nat) (l:Int),k≤c.args.length∧q=c.args.length-k∧t49=.int .i64 k∧-1≤l∧l≤20∧(∀ t∈c.args.take k,t.nodes≤20)∧H'=H++[.cells [.str d.name,.int .i64 d.vars,.sl (d.cons.map Con.cs) .none],.cells [.str c.name,.sl (VT.css c.args) .none],.cells [.int .i64 l]]) c.args.length ?_ ?_
     ·intro _;exact⟨0,20,by omega,by omega,rfl,by omega,by omega,by simp,rfl⟩
     ·rintro q t49 H' ⟨k,l,hk,rfl,rfl,hl0,hl1,hb15,rfl⟩ hsc15 hl15 hsF15 Kb15 hKb15
      by_cases hkl:k<c.args.length
      ·obtain⟨x,y,z,hv,hx,hy,hz⟩:=vt3 c.args[k]
       simp[zr4,hkl,hv,hx,hy,hz]
       rw[←hv]
       refine zAY _ _ (Nat.le_refl _) l (by omega) hl0 _ (H.length+2) (by simp) _ ?_ ?_
       ·intro hle
        simp
        rw[zat (by omega) (by omega)]
        refine hKb15 _ _ ⟨c.args.length-(k+1),by omega,Back.at (J:=[_]) (H2:=H++[.cells [.str d.name,.int .i64 d.vars,.sl (d.cons.map Con.cs) .none],.cells [.str c.name,.sl (VT.css c.args) .none],.cells [.int .i64 (l-c.args[k].nodes)]]) (by simp;rfl) (by simp) (hs.append rfl) ?_ ⟨_,rfl,k+1,l-c.args[k].nodes,by omega,rfl,by simp,by omega,by omega,zgU hkl hb15 (by omega),rfl⟩⟩
        simp[zlV,AV.sc,AV.scV,AV.scA,AV.scB]
       ·intro hle l'
        simp
        exact hF _
      ·obtain rfl:k=c.args.length:=by omega
       rw[List.take_length]at hb15
       simp[zr4]
       rw[zat (by omega) (by omega)]
       refine hKb9 _ _ ⟨d.cons.length-(j+1),by omega,Back.at (J:=[_,_]) (H2:=H++[.cells [.str d.name,.int .i64 d.vars,.sl (d.cons.map Con.cs) .none]]) (by simp;exact⟨rfl,rfl⟩) (by simp) (hs.append rfl) ?_ ⟨_,rfl,j+1,by omega,rfl,by simp,zgU hjl hb (by rw[hcc];exact⟨by omega,by omega,hb15⟩),rfl⟩⟩
       simp[zlW,AV.sc,AV.scV,AV.scA,AV.scB]
    ·obtain rfl:j=d.cons.length:=by omega
     rw[List.take_length]at hb
     simp[zr6]
     rw[zat (by omega) (by omega)]
     exact next ⟨by omega,by omega,hb⟩ _
  ·obtain rfl:i=ds.length:=by omega
   rw[List.take_length]at ha
   simp[zr5]
   exact Out.bool (J:=[]) (by simp) (Nat.le_refl _) hs (hK true fun _=>⟨by omega,ha⟩)
def zed (data:List Dat) (d:Nat) (vars:Int) (t:VT):Bool:=zbU d vars t || zaZ (data.take d) vars t
structure RCon (data:List Dat) (d:Nat) (vars:Int) (c:Con):Prop where
 up:zcT c.name=true
 len:c.args.length≤6
 args:∀ x∈c.args,zed data d vars x=true
structure RDat (data:List Dat) (d:Nat) (D:Dat):Prop where
 v0:0≤D.vars
 v6:D.vars≤6
 c1:1≤D.cons.length
 c8:D.cons.length≤8
 up:zcT D.name=true
 cons:∀ c∈D.cons,RCon data d D.vars c
structure RData (data:List Dat):Prop where
 len:data.length≤12
 dats:∀ d (h:d<data.length),RDat data d data[d]
 names:(zbp data).Nodup
 cons:(zaO data).Nodup
theorem zpw {α:Type} {l:List α} {i:Nat} (h:i<l.length):l.take (i+1)=l.take i++[l[i]]:=by rw[List.take_append_getElem h]
theorem zug:∀ l:List Dat,(∀ D∈l,D.cons.length≤10)→(zaO l).length≤l.length*10
 | [],_=>by simp[zaO]
 | D::l,h=>by
  have h1:=zug l (fun D hD=>h D (by simp[hD]))
  have h2:=h D (by simp)
  rw[zaO]at h1 ⊢
  rw[List.flatMap_cons,List.length_append,List.length_map,List.length_cons];omega
theorem zC3 {data:List Dat} {d:Nat} (h:d<data.length):zbp (data.take (d+1))=zbp (data.take d)++[(data[d]).name]:=by
 rw[zbp,zpw h,List.map_append];rfl
theorem zCF {data:List Dat} {d:Nat} (h:d<data.length):zaO (data.take (d+1))=zaO (data.take d)++(data[d]).cons.map Con.name:=by
 rw[zaO,zpw h,List.flatMap_append];simp[zaO]
theorem zwG (l:List (List UInt8)) (s:List UInt8):strs (l++[s])=strs l++[[.str s]]:=by simp[strs]
theorem zt3 {s:List UInt8} {k:AV→Prop}:zau 1 [.str []] 1 [(0,.str s)] k=k (.sl [[.str s]] .full):=propext Iff.rfl
theorem zv8 (l:List (List UInt8)) (hl:l.length≤1000000) {tok:Tok} (H:zaa) (K:AV→zaa→Prop) (hK:K (.bool (zce l)) H):ACalls tP zhb [.sl (strs l) tok] H K:=
 ACalls.wk (zSg l hl H K hK) ⟨.atom (.sl _ _),trivial⟩
theorem zCL {D:Dat} {i:Nat} (h:i<D.cons.length):(D.cons.map Con.cs)[i]?.getD []=[.str (D.cons[i]).name,.sl (VT.css (D.cons[i]).args) .none]:=by simp[h,Con.cs]
theorem zP0 (data:List Dat) (hkd:zbG data) (H:zaa) (K:AV→zaa→Prop) (hK:∀ b,(b=true↔RData data)→K (.bool b) H):ACalls tP zoI [.sl (data.map Dat.cs) .none] H K:=by
 refine ACalls.out (zPY fun hs=>?_)
 obtain⟨kl,kd⟩:=hkd
 have hF:¬ RData data→∀ J,Out H.length K (.bool false) (H++J):=fun h J=>Out.bool rfl (Nat.le_refl _) hs (hK _ (by simp[h]))
 have hT:∀ b:Bool,(b=true↔RData data)→∀ J,Out H.length K (.bool b) (H++J):=fun b h J=>Out.bool rfl (Nat.le_refl _) hs (hK _ h)
 by_cases h12:data.length>12
 ·have h12':(12:Int)<data.length:=by omega
  simp[zsp,h12']
  have:=hF (fun h=>by have:=h.len;omega) []
  simpa using this
 have h12':¬ (12:Int)<data.length:=by omega
 simp[zsp,h12']
 unfold zmi
 refine ALoop.own 3 zbY 1 rfl ?_
 refine ALoop.own 4 zbY 1 rfl ?_
 rw[List.append_assoc]
 have hcn:∀ d,(zaO (data.take d)).length≤140:=fun d=>by
  have:=zug (data.take d) (fun D hD=>(kd D (List.mem_of_mem_take hD)).2.1)
  rw[List.length_take]at this
  have:min d data.length*10≤14*10:=Nat.mul_le_mul_right _ (by omega)
  omega
 have hl1:(H++[AB.perm zbY 1 0]).length=H.length+1:=by simp
 rw[hl1]
 show zmi (.sl (data.map Dat.cs) .none) (.sl [] (.own H.length)) (.sl [] (.own (H.length+1))) (.int .i64 0) (H++[.perm zbY 1 0,.perm zbY 1 0]) (Out H.length K)
 have hsP:∀ m n,HSc (H++[.perm zbY 1 m,.perm zbY 1 n]):=fun m n=>hs.append rfl
 refine zPW (Inv:=fun q t3 t4 t5 H'=>∃ d:Nat,d≤data.length∧q=data.length-d∧t5=.int .i64 d∧t3=.sl (strs (zbp (data.take d))) (.own H.length)∧t4=.sl (strs (zaO (data.take d))) (.own (H.length+1))∧(∀ j (h:j<data.length),j<d→RDat data j data[j])∧H'=H++[.perm zbY 1 d,.perm zbY 1 (zaO (data.take d)).length]) data.length ?_ ?_
 ·intro _;exact⟨0,by omega,by omega,rfl,by simp[zbp,strs],by simp[zaO,strs],by omega,by simp[zaO]⟩
 ·rintro q t3 t4 t5 H' ⟨d,hd,rfl,rfl,rfl,rfl,hok,rfl⟩ hsc hlen hsF Kb hKb
  by_cases hlt:d<data.length
  ·have hbad:¬ RDat data d data[d]→∀ J,Out H.length K (.bool false) (H++J):=fun h=>hF fun hh=>h (hh.dats d hlt)
   have hcd:=hcn d
   have hds:=zC3 hlt
   have hcs:=zCF hlt
   obtain⟨kn,kc,kcc⟩:=kd _ (List.getElem_mem hlt)
   have hdl:(zbp (data.take d)).length=d:=by simp[zbp];omega
   generalize hD:data[d]=D at *
   have hge:(data.map Dat.cs)[d]?.getD []=[.str D.name,.int .i64 D.vars,.sl (D.cons.map Con.cs) .none]:=by simp[hlt,hD,Dat.cs]
   by_cases hv0:D.vars<0
   ·simp[zfC,hlt,hD,Dat.cs,hv0]
    exact hbad (fun h=>by have:=h.v0;omega) _
   by_cases hv6:6<D.vars
   ·simp[zfC,hlt,hD,Dat.cs,hv0,hv6]
    exact hbad (fun h=>by have:=h.v6;omega) _
   by_cases hc1:D.cons.length<1
   ·have hc1':(D.cons.length:Int)<1:=by omega
    simp[zfC,hlt,hD,Dat.cs,hv0,hv6,hc1']
    exact hbad (fun h=>by have:=h.c1;omega) _
   have hc1':¬ (D.cons.length:Int)<1:=by omega
   by_cases hc8:8<D.cons.length
   ·have hc8':(8:Int)<D.cons.length:=by omega
    simp[zfC,hlt,hD,Dat.cs,hv0,hv6,hc1',hc8']
    exact hbad (fun h=>by have:=h.c8;omega) _
   have hc8':¬ (8:Int)<D.cons.length:=by omega
   simp[zfC,hlt,hD,Dat.cs,hv0,hv6,hc1',hc8']
   refine zBq _ _ _ ?_
   cases hup:zcT D.name with
   | false=>simp;exact hbad (fun h=>by have:=h.up;rw[hup]at this;cases this) _
   | true=>
   simp[zt3]
   simp[zaw,zaK,zaG,hdl]
   refine⟨by omega,?_⟩
   rw[←zwG,←hds]
   refine zPU (Inv:=fun q t4 t7 H'=>∃ k:Nat,k≤D.cons.length∧q=D.cons.length-k∧t7=.int .i64 k∧t4=.sl (strs (zaO (data.take d)++(D.cons.map Con.name).take k)) (.own (H.length+1))∧(∀ c∈D.cons.take k,RCon data d D.vars c)∧H'=H++[.perm zbY 1 (d+1),.perm zbY 1 ((zaO (data.take d)).length+k),.cells [.str D.name,.int .i64 D.vars,.sl (D.cons.map Con.cs) .none]]) D.cons.length ?_ ?_
   ·intro _;exact⟨0,by omega,by omega,rfl,by simp,by simp,by simp⟩
   ·rintro q t4 t7 H' ⟨k,hk,rfl,rfl,rfl,hck,rfl⟩ hsc1 hlen1 hsF1 Kb1 hKb1
    have hlk:(zaO (data.take d)++(D.cons.map Con.name).take k).length=(zaO (data.take d)).length+k:=by simp;omega
    by_cases hkl:k<D.cons.length
    ·have hkI:(k:Int)<D.cons.length:=by omega
     have hca:=zCL hkl
     have hcbad:¬ RCon data d D.vars D.cons[k]→∀ J,Out H.length K (.bool false) (H++J):=fun h=>hbad fun hh=>h (hh.cons _ (List.getElem_mem hkl))
     have hns:zaO (data.take d)++(D.cons.map Con.name).take (k+1)=(zaO (data.take d)++(D.cons.map Con.name).take k)++[(D.cons[k]).name]:=by rw[zpw (by simpa using hkl)];simp
     obtain⟨_,ka,kan⟩:=kcc _ (List.getElem_mem hkl)
     generalize hC:D.cons[k]=C at *
     simp[zsq,hkl,hC,Con.cs]
     refine zBq _ _ _ ?_
     cases hupc:zcT C.name with
     | false=>simp;exact hcbad (fun h=>by have:=h.up;rw[hupc]at this;cases this) _
     | true=>
     by_cases ha6:6<C.args.length
     ·have ha6':(6:Int)<C.args.length:=by omega
      simp[hkl,hC,Con.cs,ha6']
      exact hcbad (fun h=>by have:=h.len;omega) _
     have ha6':¬ (6:Int)<C.args.length:=by omega
     simp[hkl,hC,Con.cs,ha6',zt3]
     generalize hA:zaO (data.take d)++(D.cons.map Con.name).take k=A at *
     have hAl:A.length=(zaO (data.take d)).length+k:=hlk
     simp[zaw,zaK,zaG,hAl,hkl,hC,Con.cs]
     refine⟨by omega,?_⟩
     rw[←zwG,←hns]
     refine zPV (Inv:=fun q t95 H'=>∃ i:Nat,i≤C.args.length∧q=C.args.length-i∧t95=.int .i64 i∧(∀ x∈C.args.take i,zed data d D.vars x=true)∧H'=H++[.perm zbY 1 (d+1),.perm zbY 1 ((zaO (data.take d)).length+k+1),.cells [.str D.name,.int .i64 D.vars,.sl (D.cons.map Con.cs) .none]]) C.args.length ?_ ?_
     ·intro _;exact⟨0,by omega,by omega,rfl,by simp,rfl⟩
     ·rintro q t95 H' ⟨i,hi,rfl,rfl,hok3,rfl⟩ hsc2 hlen2 hsF2 Kb2 hKb2
      by_cases hil:i<C.args.length
      ·have hxn:=kan _ (List.getElem_mem hil)
       have habad:zed data d D.vars C.args[i]=false→∀ J,Out H.length K (.bool false) (H++J):=fun h=>hcbad fun hh=>by
        have:=hh.args _ (List.getElem_mem hil)
        rw[h]at this;cases this
       obtain⟨x,y,z,hvx,hx,hy,hz⟩:=vt3 C.args[i]
       have good:zed data d D.vars C.args[i]=true→zmh (.sl (data.map Dat.cs) .none) (.sl (strs (zbp (data.take (d+1)))) (.own H.length)) (.sl (strs (zaO (data.take d)++(D.cons.map Con.name).take (k+1))) (.own (H.length+1))) (.int .i64 d) (.ptr (H.length+2) 0) (.int .i64 k) (.sl (VT.css C.args) .none) (.int .i64 C.args.length) (.int .i64 i) (H++[.perm zbY 1 (d+1),.perm zbY 1 ((zaO (data.take d)).length+k+1),.cells [.str D.name,.int .i64 D.vars,.sl (D.cons.map Con.cs) .none],.cells [x,y,z]]) (Out H.length K) Kb Kb1 Kb2:=fun hg=>by
        simp[zmh,zAD]
        rw[zat (by omega) (by omega)]
        refine hKb2 _ _ ⟨C.args.length-(i+1),by omega,Back.at (J:=[_]) (H2:=H++[.perm zbY 1 (d+1),.perm zbY 1 ((zaO (data.take d)).length+k+1),.cells [.str D.name,.int .i64 D.vars,.sl (D.cons.map Con.cs) .none]]) (by simp;rfl) (by simp) hsc2 ?_ ⟨_,rfl,i+1,by omega,rfl,by simp,zgU hil hok3 hg,rfl⟩⟩
        simp[zmf,AV.sc,AV.scV,AV.scA,AV.scB]
       simp[zsr,hil,hvx,hx,hy,hz]
       rw[←hvx]
       refine ztf _ _ _ (by omega) _ _ ?_
       cases hself:zbU d D.vars C.args[i] with
       | true=>
        rw[hvx]
        simp
        exact good (by simp[zed,hself])
       | false=>
        simp[hvx]
        refine⟨⟨by omega,fun a _=>rfl⟩,?_⟩
        rw[←List.map_take,←hvx]
        refine zaE (.bool (zaZ (data.take d) D.vars C.args[i])) (fun J=>zAJ (data.take d) (by simp;omega) _ _ (by omega) _ _ ⟨rfl,rfl⟩) ?_
        cases hty:zaZ (data.take d) D.vars C.args[i] with
        | false=>simp;exact habad (by simp[zed,hself,hty]) _
        | true=>
         rw[hvx]
         simp
         exact good (by simp[zed,hty])
      ·obtain rfl:i=C.args.length:=by omega
       rw[List.take_length]at *
       simp[zsr]
       rw[zat (by omega) (by omega)]
       refine hKb1 _ _ ⟨D.cons.length-(k+1),by omega,Back.here (by simp) hsc2 ?_ ⟨_,_,rfl,k+1,by omega,rfl,by simp,rfl,?_,by simp[Nat.add_assoc]⟩⟩
       ·simp[zme,AV.sc,AV.scV,AV.scA,AV.scB]
       ·exact zgU hkl hck (by rw[hC];exact⟨hupc,by omega,hok3⟩)
    ·obtain rfl:k=D.cons.length:=by omega
     rw[List.take_length]at *
     simp[zsq]
     rw[zat (by omega) (by omega)]
     refine hKb _ _ ⟨data.length-(d+1),by omega,Back.at (J:=[_]) (H2:=H++[.perm zbY 1 (d+1),.perm zbY 1 (zaO (data.take (d+1))).length]) (by rw[hcs];simp;rfl) (by simp) (hsP _ _) ?_ ⟨_,_,_,rfl,d+1,by omega,rfl,by simp,rfl,by rw[hcs];exact congrArg (fun l=>AV.sl (strs (zaO (data.take d)++l)) (.own (H.length+1))) (List.take_of_length_le (Nat.le_of_eq (List.length_map _))),fun j hj hji=>?_,rfl⟩⟩
     ·simp[zmg,AV.sc,AV.scV,AV.scA,AV.scB]
     ·by_cases hjd:j=d
      ·subst hjd;rw[hD];exact⟨by omega,by omega,by omega,by omega,hup,hck⟩
      ·exact hok j hj (by omega)
  ·obtain rfl:d=data.length:=by omega
   rw[List.take_length]at *
   have hdn:(zbp data).length=data.length:=by simp[zbp]
   have hcn':=hcn data.length
   rw[List.take_length]at hcn'
   simp[zfC]
   refine zv8 _ (by omega) _ _ ?_
   cases hr:zce (zbp data) with
   | true=>
    simp
    refine hT _ ?_ _
    simp
    intro h
    have:=zo7 h.names
    rw[hr]at this;cases this
   | false=>
    simp
    refine zv8 _ (by omega) _ _ ?_
    refine hT _ ?_ _
    simp only[zce,Bool.not_eq_false',decide_eq_true_eq,Bool.not_not]at hr ⊢
    exact⟨fun h=>⟨by omega,fun j hj=>hok j hj hj,hr,h⟩,fun h=>h.cons⟩
mutual
theorem zEX:∀ v w:VT,v.same w=true↔v=w
 | .mk k n ks,.mk k' n' ks'=>by
  have h:=zwj ks ks'
  simp only[VT.same,Bool.and_eq_true,beq_iff_eq,VT.mk.injEq,h,and_assoc]
theorem zwj:∀ v w:List VT,VT.sameL v w=true↔v=w
 | v::vs,w::ws=>by
  have h1:=zEX v w
  have h2:=zwj vs ws
  simp only[VT.sameL,Bool.and_eq_true,List.cons.injEq,h1,h2]
 | [],[]=>by simp[VT.sameL]
 | [],_::_=>by simp[VT.sameL]
 | _::_,[]=>by simp[VT.sameL]
end
theorem zjz {α:Type} (l:List α) (d n:Nat):(l.take d)[n]?=if n<d then l[n]? else none:=by
 by_cases h:n<d
 ·rw[if_pos h,List.getElem?_take_of_lt h]
 ·rw[if_neg h,List.getElem?_eq_none (by rw[List.length_take];omega)]
theorem zE6 {data:List Dat} {d:Nat} {vars k n:Int} {len:Nat} (h:(k == 5 && n == (d:Int))=false):zba (data.take (d+1)) vars k n len=zba (data.take d) vars k n len:=by
 unfold zba
 by_cases h5:k=5
 ·subst h5
  have hn:n≠d:=by simpa using h
  simp only[zjz]
  by_cases h0:0≤n
  ·have:(n.toNat<d+1)=(n.toNat<d):=by
    apply propext;omega
   simp[this]
  ·simp[h0]
 ·have:(k == 5)=false:=by simpa using h5
  simp[this]
mutual
theorem zxb (data:List Dat) (d:Nat) (vars:Int):∀ t:VT,zck d t=false→zaY (data.take (d+1)) vars t=zaY (data.take d) vars t
 | .mk k n ks=>by
  intro h
  simp only[zck,Bool.or_eq_false_iff]at h
  rw[zaY,zaY,zE6 h.1,zw8 data d vars ks h.2]
theorem zw8 (data:List Dat) (d:Nat) (vars:Int):∀ l:List VT,zez d l=false→za8 (data.take (d+1)) vars l=za8 (data.take d) vars l
 | []=>fun _=>rfl
 | t::ts=>by
  intro h
  simp only[zez,Bool.or_eq_false_iff]at h
  rw[za8,za8,zxb data d vars t h.1,zw8 data d vars ts h.2]
end
mutual
theorem zvc (data:List Dat) (d:Nat) (vars:Int):∀ t:VT,zaY (data.take d) vars t=true→zck d t=false
 | .mk k n ks=>by
  intro h
  rw[zaY,Bool.and_eq_true]at h
  rw[zck,zvb data d vars ks h.2,Bool.or_false]
  by_cases h5:k=5
  ·subst h5
   have h1:=h.1
   simp[zba,zjz]at h1
   obtain⟨h0,h2⟩:=h1
   by_cases hn:n=d
   ·subst hn
    simp at h2
   ·simpa using hn
  ·have:(k == 5)=false:=by simpa using h5
   simp[this]
theorem zvb (data:List Dat) (d:Nat) (vars:Int):∀ l:List VT,za8 (data.take d) vars l=true→zez d l=false
 | []=>fun _=>rfl
 | t::ts=>by
  intro h
  rw[za8,Bool.and_eq_true]at h
  rw[zez,zvc data d vars t h.1,zvb data d vars ts h.2];rfl
end
theorem zwl (data:List Dat) (vars:Int):∀ (l:List VT) (i:Nat),zcC l i=true→((i+l.length:Nat):Int)≤vars→za8 data vars l=true∧VT.nodesL l=l.length
 | [],i,_,_=>⟨rfl,rfl⟩
 | .mk k n ks::l,i,h,hv=>by
  rw[zcC,Bool.and_eq_true]at h
  obtain⟨h1,h2⟩:=h
  simp only[zgN,Bool.and_eq_true,beq_iff_eq]at h1
  obtain⟨⟨rfl,rfl⟩,h3⟩:=h1
  have hk:ks=[]:=List.eq_nil_of_length_eq_zero h3
  subst hk
  obtain⟨h4,h5⟩:=zwl data vars l (i+1) h2 (by simp at hv ⊢;omega)
  simp at hv
  constructor
  ·simp[za8,zaY,zba,h4]
   omega
  ·simp[VT.nodesL,VT.nodes,h5];omega
theorem ztO (data:List Dat) (d:Nat) (hd:d<data.length) (h0:0≤(data[d]).vars) (h6:(data[d]).vars≤6) (t:VT):zdG data d (data[d]).vars t=zed data d (data[d]).vars t:=by
 unfold zdG zed
 cases hs:zbU d (data[d]).vars t with
 | true=>
  obtain⟨k,n,ks⟩:=t
  simp only[zbU,Bool.and_eq_true,beq_iff_eq]at hs
  obtain⟨⟨⟨rfl,rfl⟩,hl⟩,hs⟩:=hs
  obtain⟨h1,h2⟩:=zwl (data.take (d+1)) (data[d]).vars ks 0 hs (by simp;omega)
  have hty:zaZ (data.take (d+1)) (data[d]).vars (.mk 5 d ks)=true:=by
   simp[zaZ,zaY,h1,VT.nodes,h2,zba,zjz,hd,hl]
   omega
  simp[hty]
 | false=>
  simp only[Bool.false_or]
  unfold zaZ
  cases hm:zck d t with
  | false=>rw[zxb data d _ t hm];simp
  | true=>
   have:zaY (data.take d) (data[d]).vars t=false:=by
    cases h:zaY (data.take d) (data[d]).vars t with
    | false=>rfl
    | true=>rw[zvc data d _ t h]at hm;cases hm
   simp[this]
theorem znt (data:List Dat):∀ (l:List Dat) (d:Nat),zcJ data l d=true↔∀ j (h:j<l.length),zcz data (d+j) l[j]=true
 | [],d=>by simp[zcJ]
 | D::l,d=>by
  rw[zcJ,Bool.and_eq_true,znt data l (d+1)]
  constructor
  ·rintro⟨h1,h2⟩ j hj
   cases j with
   | zero=>exact h1
   | succ j=>
    have:=h2 j (by simpa using hj)
    rw[show d+(j+1)=d+1+j by omega]
    simpa using this
  ·intro h
   refine⟨h 0 (by simp),fun j hj=>?_⟩
   have:=h (j+1) (by simpa using hj)
   rw[show d+(j+1)=d+1+j by omega]at this
   simpa using this
theorem zCS (data:List Dat):zbq data=true↔RData data:=by
 unfold zbq
 simp only[Bool.and_eq_true,decide_eq_true_eq,znt,zce,Bool.not_not,Nat.zero_add]
 constructor
 ·rintro⟨⟨⟨h1,h2⟩,h3⟩,h4⟩
  refine⟨h1,fun d hd=>?_,h3,h4⟩
  have:=h2 d hd
  simp only[zcz,Bool.and_eq_true,decide_eq_true_eq,List.all_eq_true]at this
  obtain⟨⟨⟨⟨⟨q1,q2⟩,q3⟩,q4⟩,q5⟩,q6⟩:=this
  refine⟨q2,q3,q4,q5,q1,fun c hc=>?_⟩
  have:=q6 c hc
  simp only[zdd,Bool.and_eq_true,decide_eq_true_eq,List.all_eq_true]at this
  exact⟨this.1,this.2.1,fun x hx=>by rw[←ztO data d hd q2 q3 x];exact this.2.2 x hx⟩
 ·rintro⟨h1,h2,h3,h4⟩
  refine⟨⟨⟨h1,fun d hd=>?_⟩,h3⟩,h4⟩
  obtain⟨q2,q3,q4,q5,q1,q6⟩:=h2 d hd
  simp only[zcz,Bool.and_eq_true,decide_eq_true_eq,List.all_eq_true]
  refine⟨⟨⟨⟨⟨q1,q2⟩,q3⟩,q4⟩,q5⟩,fun c hc=>?_⟩
  obtain⟨r1,r2,r3⟩:=q6 c hc
  simp only[zdd,Bool.and_eq_true,decide_eq_true_eq,List.all_eq_true]
  exact⟨r1,r2,fun x hx=>by rw[ztO data d hd q2 q3 x];exact r3 x hx⟩
mutual
def zaP (data:List Dat):VT→VT→Bool
 | .mk vk vn vks,.mk k n al=>
  if k=1 then vk == 3 && decide (-1099511627776≤vn) && decide (vn≤1099511627776) && vks.length == 0
  else if k=2 then vk == 2 && (vn == 0 || vn == 1) && vks.length == 0
  else if k=3 then vk == 1 && vn == 0 && vks.length == 0
  else if k=6 then vk == 4 && vn == 0 && zcs data vks al
  else if k=5 then vk == 5 && decide (0≤vn) && decide (vn<8) && zeY data vks (zbe data (.mk k n al) vn)
  else if k=7 then vk == 6 && vn == 0 && decide (vks.length≤4096) && zds data vks (al.getD 0 (.mk 0 0 []))
  else if k=8 then vk == 7 && vn == 0 && zcs data vks al
  else vk == 8 && decide (0≤vn) && decide (vn<64) && vks.length == 0
def zeY (data:List Dat):List VT→Option (List VT)→Bool
 | _,none=>false
 | [],some ts=>ts.isEmpty
 | v::vs,some ts=>match ts with
  | []=>false
  | t::ts=>zaP data v t && zcs data vs ts
def zcs (data:List Dat):List VT→List VT→Bool
 | [],ts=>ts.isEmpty
 | v::vs,ts=>match ts with
  | []=>false
  | t::ts=>zaP data v t && zcs data vs ts
def zds (data:List Dat):List VT→VT→Bool
 | [],_=>true
 | v::vs,t=>zaP data v t && zds data vs t
end
theorem zDl (data:List Dat) (vs ts:List VT):zeY data vs (some ts)=zcs data vs ts:=by
 cases vs with
 | nil=>cases ts <;> rw[zeY,zcs]
 | cons v vs=>cases ts <;> simp only[zeY,zcs]
theorem zDk (data:List Dat) (vs:List VT):zeY data vs none=false:=by cases vs <;> rw[zeY]
theorem zE7 {data:List Dat} {m:Nat} {vars k n:Int} {len:Nat} (h:zba (data.take m) vars k n len=true) (h4:k≠4):zba data 0 k n len=true:=by
 unfold zba at h ⊢
 have h4':(k == 4)=false:=by simpa using h4
 rw[h4']at h ⊢
 by_cases h5:k=5
 ·subst h5
  simp only[zjz]at h
  by_cases hm:n.toNat<m
  ·simpa[hm]using h
  ·simp[hm]at h
 ·have:(k == 5)=false:=by simpa using h5
  simpa[this]using h
theorem zwI (ks:List VT):∀ l:List VT,(zaL ks l).length=l.length
 | []=>rfl
 | t::ts=>by simp[zaL,zwI ks ts]
mutual
theorem zxc {data:List Dat} {m:Nat} {vars:Int} {ks:List VT} (hk:∀ x∈ks,zaY data 0 x=true) (hl:(ks.length:Int)=vars):∀ a:VT,zaY (data.take m) vars a=true→zaY data 0 (subst ks a)=true
 | .mk k n al=>by
  intro h
  rw[zaY,Bool.and_eq_true]at h
  unfold subst
  by_cases h4:k=4
  ·have h1:=h.1
   subst h4
   simp[zba]at h1
   rw[if_pos ⟨rfl,by omega,by omega⟩]
   have hn:n.toNat<ks.length:=by omega
   rw[List.getElem?_eq_getElem hn]
   exact hk _ (List.getElem_mem hn)
  ·rw[if_neg (fun h=>h4 h.1),zaY,Bool.and_eq_true,zwI]
   exact⟨zE7 h.1 h4,zw9 hk hl al h.2⟩
theorem zw9 {data:List Dat} {m:Nat} {vars:Int} {ks:List VT} (hk:∀ x∈ks,zaY data 0 x=true) (hl:(ks.length:Int)=vars):∀ l:List VT,za8 (data.take m) vars l=true→za8 data 0 (zaL ks l)=true
 | []=>by intro _;simp[zaL,za8]
 | t::ts=>by
  intro h
  rw[za8,Bool.and_eq_true]at h
  rw[zaL,za8,Bool.and_eq_true]
  exact⟨zxc hk hl t h.1,zw9 hk hl ts h.2⟩
end
theorem zw7 {data:List Dat} {vars:Int}:∀ {l:List VT},za8 data vars l=true→∀ x∈l,zaY data vars x=true
 | [],_=>by simp
 | t::ts,h=>by
  rw[za8,Bool.and_eq_true]at h
  intro x hx
  rcases List.mem_cons.1 hx with rfl | hx
  ·exact h.1
  ·exact zw7 h.2 x hx
theorem zxa {data:List Dat} {vars:Int} {k n:Int} {ks:List VT} (h:zaY data vars (.mk k n ks)=true):∀ x∈ks,zaY data vars x=true:=by
 rw[zaY,Bool.and_eq_true]at h
 exact zw7 h.2
theorem zxd {data:List Dat} {vars:Int} {k n:Int} {ks:List VT} (h:zaZ data vars (.mk k n ks)=true):∀ x∈ks,zaZ data vars x=true:=by
 rw[zaZ,Bool.and_eq_true,decide_eq_true_eq]at h
 intro x hx
 rw[zaZ,Bool.and_eq_true,decide_eq_true_eq]
 exact⟨Nat.le_trans (zgO x hx) h.1,zxa h.2 x hx⟩
theorem zCK {data:List Dat} (hD:zbq data=true) {d c:Nat} (hd:d<data.length) (hc:c<data[d].cons.length):∀ x∈(data[d].cons[c]).args,zaY (data.take (d+1)) data[d].vars x=true:=by
 simp only[zbq,Bool.and_eq_true,znt,Nat.zero_add]at hD
 have h1:=hD.1.1.2 d hd
 simp only[zcz,Bool.and_eq_true]at h1
 have h2:=List.all_eq_true.1 h1.2 _ (List.getElem_mem hc)
 simp only[zdd,Bool.and_eq_true]at h2
 intro x hx
 have h3:=List.all_eq_true.1 h2.2.2 x hx
 simp only[zdG,zaZ,Bool.and_eq_true]at h3
 exact h3.1.2
theorem zgF {data:List Dat} {k n:Int} {ks:List VT} {c:Int} {l:List VT} (h:zbe data (.mk k n ks) c=some l) :
  k=5∧0≤n∧0≤c∧∃ (hn:n.toNat<data.length) (hc:c.toNat<(data[n.toNat]).cons.length),(ks.length:Int)=(data[n.toNat]).vars∧l=((data[n.toNat]).cons[c.toNat]).args.map (subst ks)∧∀ x∈l,x.nodes≤200:=by
 rw[zcW]at h
 split at h
 ·rename_i h5
  split at h
  ·rename_i D hD
   obtain⟨hn,rfl⟩:=List.getElem?_eq_some_iff.1 hD
   split at h
   ·rename_i hv
    split at h
    ·rename_i C hC
     obtain⟨hc,rfl⟩:=List.getElem?_eq_some_iff.1 hC
     split at h
     ·rename_i ha
      simp only[Option.some.injEq]at h
      subst h
      exact⟨h5.1,h5.2.1,h5.2.2,hn,hc,hv,rfl,fun x hx=>of_decide_eq_true (List.all_eq_true.1 ha x hx)⟩
     ·cases h
    ·cases h
   ·cases h
  ·cases h
 ·cases h
theorem zuA {data:List Dat} (hD:zbq data=true) {t:VT} (ht:zaY data 0 t=true) {c:Int} {l:List VT} (h:zbe data t c=some l):∀ x∈l,zaZ data 0 x=true:=by
 obtain⟨k,n,ks⟩:=t
 obtain⟨rfl,h0,hc0,hn,hc,hv,rfl,hsz⟩:=zgF h
 intro x hx
 rw[zaZ,Bool.and_eq_true,decide_eq_true_eq]
 refine⟨hsz x hx,?_⟩
 obtain⟨a,ha,rfl⟩:=List.mem_map.1 hx
 exact zxc (zxa ht) hv a (zCK hD hn hc a ha)
theorem zwm {ks:List VT}:∀ (l:List VT) (i:Nat),zcC l i=true→i+l.length=ks.length→zaL ks l=ks.drop i
 | [],i,_,hl=>by simp at hl;subst hl;simp[zaL]
 | x::l,i,h,hl=>by
  rw[zcC,Bool.and_eq_true]at h
  obtain⟨k,n,al⟩:=x
  simp only[zgN,Bool.and_eq_true,beq_iff_eq]at h
  obtain⟨⟨⟨rfl,rfl⟩,h3⟩,h4⟩:=h
  simp at hl
  have hi:i<ks.length:=by omega
  rw[List.drop_eq_getElem_cons hi,zaL,zwm l (i+1) h4 (by omega)]
  rw[subst,if_pos ⟨rfl,by omega,by omega⟩]
  simp[hi]
theorem zE2 {ks:List VT} {d vars:Int} {a:VT} (h:zbU d vars a=true) (hl:(ks.length:Int)=vars):subst ks a=.mk 5 d ks:=by
 obtain⟨k,n,al⟩:=a
 simp only[zbU,Bool.and_eq_true,beq_iff_eq]at h
 obtain⟨⟨⟨rfl,rfl⟩,h3⟩,h4⟩:=h
 rw[subst,if_neg (fun h=>by have:=h.1;omega)]
 have:=zwm (ks:=ks) al 0 h4 (by omega)
 rw[this,List.drop_zero]
def zcm (d:Nat) (D:Dat) (C:Con):List Bool:=C.args.map (zbU d D.vars)
def zdw (data:List Dat) (d:Nat):List (List Bool):=match data[d]? with
 | some D=>D.cons.map (zcm d D)
 | none=>[]
mutual
def zfd (rs:List (List Bool)):VT→List VT
 | .mk k n ks=>.mk k n ks::zdM rs ks (rs.getD n.toNat [])
def zdM (rs:List (List Bool)):List VT→List Bool→List VT
 | [],_=>[]
 | v::vs,bs=>match bs with
  | []=>[]
  | b::bs=>(if b=true then zfd rs v else [])++zdM rs vs bs
end
mutual
theorem zv0 (rs:List (List Bool)):∀ v:VT,(zfd rs v).length≤v.nodes
 | .mk k n ks=>by
  have:=zvZ rs ks (rs.getD n.toNat [])
  simp only[zfd,VT.nodes,List.length_cons]
  omega
theorem zvZ (rs:List (List Bool)):∀ (vs:List VT) (bs:List Bool),(zdM rs vs bs).length≤VT.nodesL vs
 | [],_=>by simp[zdM,VT.nodesL]
 | v::vs,[]=>by simp[zdM]
 | v::vs,b::bs=>by
  have h1:=zv0 rs v
  have h2:=zvZ rs vs bs
  simp only[zdM,VT.nodesL,List.length_append]
  split
  ·omega
  ·simp;omega
end
def pick:List VT→List Bool→List VT
 | x::l,b::bs=>if b then pick l bs else x::pick l bs
 | _,_=>[]
def za6 (data:List Dat) (t:VT) (c:Int):Option (List VT):=(zbe data t c).map fun l=>pick l ((zdw data t.num.toNat).getD c.toNat [])
mutual
def zcc (data:List Dat):IT→VT→Int × Bool
 | .mk n ks,t=>
  if t.kind=6 then (if n=0 then (if t.kids.length=ks.length then zbO data ks t.kids 0 else (0,false)) else (0,false))
  else if t.kind=7 then (n,decide (0≤n) && decide (n≤6) && decide (ks.length=0))
  else if t.kind=5 then (if n=0 then zcL data ks t 0 else (0,false))
  else (0,decide (n=0) && decide (ks.length=0))
def zbO (data:List Dat):List IT→List VT→Int→Int × Bool
 | [],_,a=>(a,decide (a≤6))
 | v::vs,ts,a=>match ts with
  | t::ts=>if (zcc data v t).2 then zbO data vs ts (a+(zcc data v t).1) else (0,false)
  | []=>(0,false)
def zcL (data:List Dat):List IT→VT→Int→Int × Bool
 | [],_,a=>(a,true)
 | .mk c ks::es,t,a=>match za6 data t c with
  | none=>(0,false)
  | some ps=>if ps.length=ks.length then
    (if (zbO data ks ps 0).2 && decide (a+(1+(zbO data ks ps 0).1)≤6) then zcL data es t (a+(1+(zbO data ks ps 0).1)) else (0,false))
   else (0,false)
end
mutual
def rdV (data:List Dat):IT→VT→Int
 | .mk n ks,t=>
  if t.kind=6 then (if n=0 then (if t.kids.length=ks.length then rdA data ks t.kids 0 else -1) else -1)
  else if t.kind=7 then (if 0≤n∧n≤6∧ks.length=0 then n else -1)
  else if t.kind=5 then (if n=0∧ks.length≤6 then rdE data ks t 0 else -1)
  else (if n=0∧ks.length=0 then 0 else -1)
def rdA (data:List Dat):List IT→List VT→Int→Int
 | [],_,a=>a
 | v::vs,ts,a=>match ts with
  | t::ts=>if rdV data v t<0∨a+rdV data v t>6 then -1 else rdA data vs ts (a+rdV data v t)
  | []=>-1
def rdE (data:List Dat):List IT→VT→Int→Int
 | [],_,a=>a
 | .mk c ks::es,t,a=>if c<0∨8≤c then -1 else match za6 data t c with
  | none=>-1
  | some ps=>if ps.length=ks.length then
    (if rdA data ks ps 0<0∨a+1+rdA data ks ps 0>6 then -1 else rdE data es t (a+(1+rdA data ks ps 0)))
   else -1
end
theorem zEr {data:List Dat} (h8:∀ D∈data,D.cons.length≤8) {t:VT} {c:Int} {ps:List VT} (h:za6 data t c=some ps):0≤c∧c<8:=by
 unfold za6 at h
 cases hf:zbe data t c with
 | none=>rw[hf]at h;cases h
 | some l=>
  obtain⟨_,k1,k2,hn,hc,_⟩:=zgF hf
  have:=h8 _ (List.getElem_mem hn)
  omega
def agr (m:Int × Bool) (r:Int):Prop:=(m.2=true→m.1=r∧0≤r∧r≤6)∧(m.2=false→r=-1)
theorem zdY:agr (0,false) (-1):=⟨fun h=>(by cases h),fun _=>rfl⟩
mutual
theorem zgs {data:List Dat} (h8:∀ D∈data,D.cons.length≤8):∀ (v:IT) (t:VT),agr (zcc data v t) (rdV data v t)
 | .mk n ks,t=>by
  have hA:=(zh8 h8 ks t.kids 0 (by omega)).1 (by omega)
  have hE:=ztJ h8 ks t 0 (by omega) (by omega)
  unfold zcc rdV
  split
  ·split
   ·split
    ·exact hA
    ·exact zdY
   ·exact zdY
  ·split
   ·refine⟨fun h=>?_,fun h=>?_⟩
    ·simp at h
     rw[if_pos ⟨h.1.1,h.1.2,by simpa using h.2⟩]
     exact⟨rfl,h.1.1,h.1.2⟩
    ·rw[if_neg]
     rintro⟨h1,h2,h3⟩
     simp[h1,h2,h3]at h
   ·split
    ·by_cases hn:n=0
     ·simp only[hn,if_true,true_and]
      by_cases hl:ks.length≤6
      ·rw[if_pos hl];exact hE.1
      ·rw[if_neg hl]
       refine⟨fun h=>?_,fun _=>rfl⟩
       have:=hE.2 h
       omega
     ·simp only[hn,if_false,false_and]
      exact zdY
    ·refine⟨fun h=>?_,fun h=>?_⟩
     ·simp at h
      simp[h]
     ·rw[if_neg]
      rintro⟨h1,h2⟩
      simp[h1,h2]at h
theorem zh8 {data:List Dat} (h8:∀ D∈data,D.cons.length≤8):∀ (vs:List IT) (ts:List VT) (a:Int),0≤a→(a≤6→agr (zbO data vs ts a) (rdA data vs ts a))∧(6<a→(zbO data vs ts a).2=false)
 | [],ts,a,ha=>by
  simp only[zbO,rdA]
  exact⟨fun h=>⟨fun _=>⟨rfl,ha,h⟩,fun h2=>by simp at h2;omega⟩,fun h=>by simp;omega⟩
 | v::vs,ts,a,ha=>by
  match ts with
  | []=>simp only[zbO,rdA];exact⟨fun _=>zdY,fun _=>by trivial⟩
  | t::ts=>
   obtain⟨g1,g2⟩:=zgs h8 v t
   simp only[zbO,rdA]
   cases hb:(zcc data v t).2 with
   | false=>
    rw[g2 hb]
    simp
    exact fun _=>zdY
   | true=>
    obtain⟨e1,e2,e3⟩:=g1 hb
    rw[e1]
    have hn:=zh8 h8 vs ts (a+rdV data v t) (by omega)
    simp only[if_true]
    refine⟨fun h=>?_,fun h=>hn.2 (by omega)⟩
    by_cases h6:a+rdV data v t>6
    ·rw[if_pos (.inr h6)]
     exact⟨fun h=>(by rw[hn.2 (by omega)]at h;cases h),fun _=>rfl⟩
    ·rw[if_neg (by omega)]
     exact hn.1 (by omega)
theorem ztJ {data:List Dat} (h8:∀ D∈data,D.cons.length≤8):∀ (es:List IT) (t:VT) (a:Int),0≤a→a≤6→agr (zcL data es t a) (rdE data es t a)∧((zcL data es t a).2=true→a+es.length≤6)
 | [],t,a,h0,h6=>by
  simp only[zcL,rdE]
  exact⟨⟨fun _=>⟨rfl,h0,h6⟩,fun h=>by cases h⟩,fun _=>by simpa using h6⟩
 | .mk c ks::es,t,a,h0,h6=>by
  simp only[zcL,rdE]
  cases hp:za6 data t c with
  | none=>simp only[ite_self];exact⟨zdY,fun h=>by cases h⟩
  | some ps=>
   obtain⟨c0,c8⟩:=zEr h8 hp
   rw[if_neg (show ¬(c<0∨8≤c) by omega)]
   simp only
   by_cases hl:ps.length=ks.length
   ·simp only[hl,if_true]
    obtain⟨g1,g2⟩:=(zh8 h8 ks ps 0 (by omega)).1 (by omega)
    cases hb:(zbO data ks ps 0).2 with
    | false=>
     rw[g2 hb]
     simp
     exact zdY
    | true=>
     obtain⟨e1,e2,e3⟩:=g1 hb
     rw[e1]
     by_cases hh:a+(1+rdA data ks ps 0)≤6
     ·have hn:=ztJ h8 es t (a+(1+rdA data ks ps 0)) (by omega) hh
      rw[if_neg (show ¬(rdA data ks ps 0<0∨a+1+rdA data ks ps 0>6) by omega)]
      simp only[hh,decide_true,Bool.and_self,if_true]
      refine⟨hn.1,fun h=>?_⟩
      have:=hn.2 h
      simp only[List.length_cons]
      omega
     ·rw[if_pos (show rdA data ks ps 0<0∨a+1+rdA data ks ps 0>6 by omega)]
      simp[hh]
      exact zdY
   ·simp only[hl,if_false]
    exact⟨zdY,fun h=>by cases h⟩
end
end Go.Proofs.YtdmamdnkcefmmaaGreatDoor
namespace Go.Abs
open Go
def fill:List IT→List Nat→List IT→List IT
 | row,p::ps,x::xs=>fill (row.set p x) ps xs
 | row,_,_=>row
@[simp] theorem zVJ (row xs:List IT):fill row [] xs=row:=by cases xs <;> rfl
@[simp] theorem zC8:∀ (row:List IT) (ps:List Nat) (xs:List IT),(fill row ps xs).length=row.length
 | row,p::ps,x::xs=>by rw[fill,zC8];simp
 | row,[],_=>by simp[fill]
 | row,_::_,[]=>by simp[fill]
mutual
theorem IT.same_eq:∀ v w:IT,IT.same v w=true→v=w
 | .mk n ks,.mk n' ks',h=>by
  simp only[IT.same,Bool.and_eq_true,beq_iff_eq]at h
  rw[h.1,IT.sameL_eq ks ks' h.2]
theorem IT.sameL_eq:∀ v w:List IT,IT.sameL v w=true→v=w
 | [],[],_=>rfl
 | v::vs,w::ws,h=>by
  simp only[IT.sameL,Bool.and_eq_true]at h
  rw[IT.same_eq v w h.1,IT.sameL_eq vs ws h.2]
 | [],_::_,h=>by simp[IT.sameL]at h
 | _::_,[],h=>by simp[IT.sameL]at h
end
end Go.Abs
namespace Go.Proofs.YtdmamdnkcefmmaaGreatDoor
open Go Go.Abs
variable {data:List Dat}
theorem zo6 {h8:∀ D∈data,D.cons.length≤8} (v:IT) (t:VT):-1≤rdV data v t∧rdV data v t≤6:=by
 obtain⟨h1,h2⟩:=zgs h8 v t
 cases hb:(zcc data v t).2 with
 | true=>have:=h1 hb;omega
 | false=>have:=h2 hb;omega
def ad (a r:Int):Int:=if r<0 then -1 else if a+r>6 then -1 else a+r
theorem zeR {a r:Int} (h:0≤r) (h2:a+r≤6):ad a r=a+r:=by unfold ad;rw[if_neg (by omega),if_neg (by omega)]
theorem zcU {a r:Int} (h:r<0∨a+r>6):ad a r=-1:=by
 unfold ad
 by_cases h1:r<0
 ·rw[if_pos h1]
 ·rw[if_neg h1,if_pos (by omega)]
theorem zCa {a b r:Int} (hb:0≤b) (ha:0≤a):ad (a+b) r=ad a (ad b r):=by
 by_cases h1:r<0∨b+r>6
 ·rw[zcU (a:=b) h1,zcU (a:=a) (.inl (by omega)),zcU (by omega)]
 ·rw[zeR (a:=b) (by omega) (by omega)]
  by_cases h2:a+(b+r)>6
  ·rw[zcU (.inr h2),zcU (.inr (by omega))]
  ·rw[zeR (by omega) (by omega),zeR (by omega) (by omega),Int.add_assoc]
theorem zv4 (v:IT) (vs:List IT) (t:VT) (ts:List VT) (a:Int):rdA data (v::vs) (t::ts) a=if rdV data v t<0∨a+rdV data v t>6 then -1 else rdA data vs ts (a+rdV data v t):=by simp only[rdA]
theorem zec (c:Int) (ks es:List IT) (t:VT) (a:Int):rdE data (.mk c ks::es) t a=if c<0∨8≤c then -1 else match za6 data t c with
  | none=>-1
  | some ps=>if ps.length=ks.length then (if rdA data ks ps 0<0∨a+1+rdA data ks ps 0>6 then -1 else rdE data es t (a+(1+rdA data ks ps 0))) else -1:=by simp only[rdE] <;> rfl
theorem zjj:∀ (es:List IT) (t:VT) (a:Int),0≤a→rdE data es t a=-1∨a+es.length≤rdE data es t a
 | [],_,a,h=>by simp[rdE]
 | .mk c ks::es,t,a,h=>by
  rw[zec]
  by_cases hc:c<0∨8≤c
  ·rw[if_pos hc];exact .inl rfl
  ·rw[if_neg hc]
   cases za6 data t c with
   | none=>exact .inl rfl
   | some ps=>
    simp only
    by_cases hl:ps.length=ks.length
    ·rw[if_pos hl]
     by_cases h0:rdA data ks ps 0<0∨a+1+rdA data ks ps 0>6
     ·rw[if_pos h0];exact .inl rfl
     ·rw[if_neg h0]
      rcases zjj es t (a+(1+rdA data ks ps 0)) (by omega) with h2 | h2
      ·exact .inl h2
      ·right;simp only[List.length_cons];omega
    ·rw[if_neg hl];exact .inl rfl
theorem zji:∀ (es:List IT) (t:VT) (a:Int),0≤a→a≤6→rdE data es t a=ad a (rdE data es t 0)
 | [],_,a,h,h6=>by simp only[rdE];rw[zeR (by omega) (by omega),Int.add_zero]
 | .mk c ks::es,t,a,h,h6=>by
  rw[zec,zec]
  by_cases hc:c<0∨8≤c
  ·rw[if_pos hc,if_pos hc,zcU (.inl (by omega))]
  ·rw[if_neg hc,if_neg hc]
   cases za6 data t c with
   | none=>exact (zcU (a:=a) (r:=-1) (.inl (by omega))).symm
   | some ps=>
    simp only
    by_cases hl:ps.length=ks.length
    ·rw[if_pos hl,if_pos hl]
     by_cases h0:rdA data ks ps 0<0∨0+1+rdA data ks ps 0>6
     ·rw[if_pos h0,if_pos (by omega),zcU (.inl (by omega))]
     ·rw[if_neg h0,zji es t (0+(1+rdA data ks ps 0)) (by omega) (by omega),Int.zero_add]
      have g2:=zjj (data:=data) es t 0 (by omega)
      by_cases h3:a+1+rdA data ks ps 0>6
      ·rw[if_pos (Or.inr h3)]
       generalize rdE data es t 0=r at *
       by_cases h4:r<0∨(1+rdA data ks ps 0)+r>6
       ·rw[zcU h4,zcU (.inl (by omega))]
       ·rw[zeR (a:=1+rdA data ks ps 0) (by omega) (by omega),zcU (.inr (by omega))]
      ·rw[if_neg (by omega),zji es t _ (by omega) (by omega),zCa (by omega) h]
    ·rw[if_neg hl,if_neg hl,zcU (.inl (by omega))]
theorem zo4 (h8:∀ D∈data,D.cons.length≤8):∀ (xs ys:List IT) (t:VT) (a:Int),0≤a→a≤6→rdE data (xs++ys) t a=(if rdE data xs t a<0 then -1 else rdE data ys t (rdE data xs t a))
 | [],ys,t,a,h,_=>by
  rw[List.nil_append,if_neg (by simp only[rdE];omega)]
  simp only[rdE]
 | .mk c ks::es,ys,t,a,h,h6=>by
  rw[List.cons_append,zec,zec]
  by_cases hc:c<0∨8≤c
  ·rw[if_pos hc];simp[hc]
  ·rw[if_neg hc]
   simp only[if_neg hc]
   cases za6 data t c with
   | none=>simp
   | some ps=>
    simp only
    by_cases hl:ps.length=ks.length
    ·simp only[if_pos hl]
     by_cases h0:rdA data ks ps 0<0∨a+1+rdA data ks ps 0>6
     ·simp only[if_pos h0];simp
     ·simp only[if_neg h0]
      exact zo4 h8 es ys t _ (by omega) (by omega)
    ·simp only[if_neg hl];simp
end Go.Proofs.YtdmamdnkcefmmaaGreatDoor
namespace Go.Abs
open Go Go.RowKit
variable {P:Program}
end Go.Abs
namespace Go.Proofs.YtdmamdnkcefmmaaGreatDoor
open Go Go.Abs
set_option maxRecDepth 100000
def zIg:Nat→List Bool
 | 300001=>rl false [0,1]
 | _=>[]
noncomputable def zIh:Code:=Tryz.f130.body.getD .skip
def zqd (t0:AV) (H:zaa) (K:Kt):Prop:=
 zgp true .eql t0 fun t4=>
 zag t4
 (K .snil H)
 (zau 2 [(.int .i64 0),.snil] 0 [] fun t5=>
 zaw zbJ 2 32 t5 t0 H fun t7 H=>
 K t7 H)
theorem zIi {t0:AV} {H:zaa} {K:Kt} (h:HSc H→zqd t0 H K):ACalls tP zn2 [t0] H K:=
 zao (M:=zIg) Tryz.func130 (c:=zIh) (by kernel_rfl) (fun hs=>Eq.mpr (by kernel_rfl) (h hs))
end Go.Proofs.YtdmamdnkcefmmaaGreatDoor
namespace Go.Proofs.YtdmamdnkcefmmaaGreatDoor
open Go Go.Abs
def RowA (H:zaa) (a:AV) (n:Nat) (ds:List AV):Prop:=
 ds.length=n*2∧ds.all AV.known=true∧((∃ id,a=.ms id 0 n n∧H[id]?=some (.cells ds))∨(0<n∧∃ id e,a=.ov id n∧H[id]?=some (.vec e 2 n ds)))
theorem RowA.app {H J:zaa} {a:AV} {n:Nat} {ds:List AV} (h:RowA H a n ds):RowA (H++J) a n ds:=by
 obtain⟨h1,h2,h3⟩:=h
 refine⟨h1,h2,?_⟩
 rcases h3 with ⟨id,rfl,h⟩ | ⟨h0,id,e,rfl,h⟩
 ·exact .inl ⟨id,rfl,by rw[List.getElem?_append_left (List.getElem?_eq_some_iff.1 h).1];exact h⟩
 ·exact .inr ⟨h0,id,e,rfl,by rw[List.getElem?_append_left (List.getElem?_eq_some_iff.1 h).1];exact h⟩
end Go.Proofs.YtdmamdnkcefmmaaGreatDoor
namespace Go.Proofs.YtdmamdnkcefmmaaGreatDoor
open Go Go.Abs
set_option maxRecDepth 100000
def zIV (_:Nat):List Bool:=[]
noncomputable def zIW:Code:=Tryz.f139.body.getD .skip
def zyj (t0 t1:AV) (H:zaa) (K:Kt):Prop:=
 ACalls tP ziB [t0] H fun t8 H=>
 ACalls tP ziB [t1] H fun t10 H=>
 zag t8
 (zag t10
 (K (.int .i64 0) H)
 (K (.int .i64 (-1)) H))
 (zag t10
 (K (.int .i64 1) H)
 (zab .lss false t0 t1 fun t16=>
 zag t16
 (K (.int .i64 (-1)) H)
 (zab .gtr false t0 t1 fun t19=>
 zag t19
 (K (.int .i64 1) H)
 (K (.int .i64 0) H))))
theorem zIX {t0 t1:AV} {H:zaa} {K:Kt} (h:HSc H→zyj t0 t1 H K):ACalls tP zit [t0,t1] H K:=
 zao (M:=zIV) Tryz.func139 (c:=zIW) (by kernel_rfl) (fun hs=>Eq.mpr (by kernel_rfl) (h hs))
def zkn:Nat→List Bool
 | 3=>rl false [3,1,2,3,9]
 | _=>[]
noncomputable def zqm:Code:=Tryz.f138.body.getD .skip
noncomputable def zIU:List ResultVar:=Tryz.f138.results.toList
def zkp (t3 t6 t7 t8:AV):List AV:=ux 3 (t3::ux 2 (t6::t7::t8::ux 9 []))
def zIS:List Bool:=zkn 3
noncomputable def zIQ:Code:=zaq [1,1,0,1,0,0] zqm
def zIP (K:Kt):AExit→List AV→zaa→Prop:=zar tP zkn [1,1,0,1,0] zqm (zax tP zIU K)
def zyi (t3 t6 t7 t8:AV) (H:zaa) (K:Kt):Prop:=ALoop tP zIQ (zIP K) (zkp t3 t6 t7 t8) H
def zko (t3 t6 t7 t8:AV) (H:zaa) (K:Kt) (Kb3:Lt):Prop:=
 zab .lss false t8 t7 fun t9=>
 zag t9
 (zai 1 t6 t8 fun t10=>
 zae false 1 t10 H fun t11=>
 zab .neq false t11 t3 fun t14=>
 zag t14
 (K t11 H)
 (zab .add false t8 (.int .i64 1) fun t16=>
 Kb3 (zkp t3 t6 t7 t16) H))
 (K t3 H)
def zyh (t0:AV) (H:zaa) (K:Kt):Prop:=
 zah 1 t0 fun t7=>
 zyi (.int .i64 0) t0 t7 (.int .i64 0) H K
theorem zIR {t3 t6 t7 t8:AV} {H:zaa} {K:Kt} (Inv:Nat→AV→zaa→Prop) (n:Nat) (h0:HSc H→Inv n t8 H)
  (round:Rd1 (fun t8=>zkp t3 t6 t7 t8) (fun t8=>fun H Kb3=>zko t3 t6 t7 t8 H K Kb3) H Inv):zyi t3 t6 t7 t8 H K:=
 lp1 (M:=zkn) zIS t8 (by kernel_rfl) Inv n h0 round
theorem zIT {t0:AV} {H:zaa} {K:Kt} (h:HSc H→zyh t0 H K):ACalls tP zn7 [t0] H K:=
 zao (M:=zkn) Tryz.func138 (c:=zqm) (by kernel_rfl) (fun hs=>Eq.mpr (by kernel_rfl) (h hs))
def zLP (_:Nat):List Bool:=[]
noncomputable def zLQ:Code:=Tryz.f187.body.getD .skip
def zzp (t0:AV) (H:zaa) (K:Kt):Prop:=
 zab .neq false t0 t0 fun t5=>
 K t5 H
theorem zLR {t0:AV} {H:zaa} {K:Kt} (h:HSc H→zzp t0 H K):ACalls tP ziB [t0] H K:=
 zao (M:=zLP) Tryz.func187 (c:=zLQ) (by kernel_rfl) (fun hs=>Eq.mpr (by kernel_rfl) (h hs))
def zRK (_:Nat):List Bool:=[]
noncomputable def zRL:Code:=Tryz.f86.body.getD .skip
def zBi (t0 t1:AV) (H:zaa) (K:Kt):Prop:=
 zav t0 H fun t2 H=>
 zav t1 H fun t3 H=>
 zad H (fun K'=>zaf 0 t2 (K' · H)) fun t6=>
 zad H (fun K'=>zal false 1 t6 H (K' · H)) fun t7=>
 zad H (fun K'=>zaf 0 t3 (K' · H)) fun t8=>
 zad H (fun K'=>zal false 1 t8 H (K' · H)) fun t9=>
 zaF H (fun H K'=>ACalls tP zit [t7,t9] H K') fun t10=>
 zad H (fun K'=>zaf 1 t2 (K' · H)) fun t11=>
 zad H (fun K'=>zal false 1 t11 H (K' · H)) fun t12=>
 zad H (fun K'=>zah 1 t12 (K' · H)) fun t13=>
 zad H (fun K'=>zaf 1 t3 (K' · H)) fun t14=>
 zad H (fun K'=>zal false 1 t14 H (K' · H)) fun t15=>
 zad H (fun K'=>zah 1 t15 (K' · H)) fun t16=>
 zaF H (fun H K'=>ACalls tP zit [t13,t16] H K') fun t17=>
 zad H (fun K'=>zau 1 [(.int .i64 0)] 2 [(0,t10),(1,t17)] (K' · H)) fun t18=>
 zaF H (fun H K'=>ACalls tP zn7 [t18] H K') fun t19=>
 zad H (fun K'=>K' t19 H) fun t5=>
 zab .neq false t5 (.int .i64 0) fun t21=>
 zag t21
 (K t5 H)
 (zaf 1 t2 fun t23=>
 zae false 1 t23 H fun t24=>
 zaf 1 t3 fun t25=>
 zae false 1 t25 H fun t26=>
 ACalls tP zn8 [t24,t26,(.fn zfX [])] H fun t27 H=>
 K t27 H)
theorem zRM {t0 t1:AV} {H:zaa} {K:Kt} (h:HSc H→zBi t0 t1 H K):ACalls tP zfX [t0,t1] H K:=
 zao (M:=zRK) Tryz.func86 (c:=zRL) (by kernel_rfl) (fun hs=>Eq.mpr (by kernel_rfl) (h hs))
def zkq:Nat→List Bool
 | 2=>rl false [0,3,8,3,25]
 | _=>[]
noncomputable def zqo:Code:=Tryz.f140.body.getD .skip
noncomputable def zI3:List ResultVar:=Tryz.f140.results.toList
def zkr (t0 t1 t2 t11 t12 t13:AV):List AV:=t0::t1::t2::ux 8 (t11::t12::t13::ux 25 [])
def zI1:List Bool:=zkq 2
noncomputable def zIZ:Code:=zaq [1,0,1,0,0] zqo
def zIY (K:Kt):AExit→List AV→zaa→Prop:=zar tP zkq [1,0,1,0] zqo (zax tP zI3 K)
def zyl (t0 t1 t2 t11 t12 t13:AV) (H:zaa) (K:Kt):Prop:=ALoop tP zIZ (zIY K) (zkr t0 t1 t2 t11 t12 t13) H
def zqn (t0 t1 t2 t11 t12 t13:AV) (H:zaa) (K:Kt) (Kb2:Lt):Prop:=
 zab .lss false t13 t12 fun t14=>
 zag t14
 (zai 2 t11 t13 fun t16=>
 zae true 2 t16 H fun t17=>
 zay [(.int .i64 0),.snil] H fun t8 H=>
 zan 2 t8 t17 H fun H=>
 zah 1 t1 fun t20=>
 zab .geq false t13 t20 fun t21=>
 zag t21
 (K (.int .i64 1) H)
 (zai 2 t1 t13 fun t24=>
 zae true 2 t24 H fun t25=>
 zay [(.int .i64 0),.snil] H fun t9 H=>
 zan 2 t9 t25 H fun H=>
 zae true 2 t8 H fun t27=>
 zae true 2 t9 H fun t28=>
 aCallV tP t2 [t27,t28] H fun t29 H=>
 zab .neq false t29 (.int .i64 0) fun t31=>
 zag t31
 (K t29 H)
 (zab .add false t13 (.int .i64 1) fun t33=>
 Kb2 (zkr t0 t1 t2 t11 t12 t33) H)))
 (zah 1 t0 fun t35=>
 zah 1 t1 fun t37=>
 zab .lss false t35 t37 fun t38=>
 zag t38
 (K (.int .i64 (-1)) H)
 (K (.int .i64 0) H))
def zyk (t0 t1 t2:AV) (H:zaa) (K:Kt):Prop:=
 zah 1 t0 fun t12=>
 zyl t0 t1 t2 t0 t12 (.int .i64 0) H K
theorem zI0 {t0 t1 t2 t11 t12 t13:AV} {H:zaa} {K:Kt} (Inv:Nat→AV→zaa→Prop) (n:Nat) (h0:HSc H→Inv n t13 H)
  (round:Rd1 (fun t13=>zkr t0 t1 t2 t11 t12 t13) (fun t13=>fun H Kb2=>zqn t0 t1 t2 t11 t12 t13 H K Kb2) H Inv):zyl t0 t1 t2 t11 t12 t13 H K:=
 lp1 (M:=zkq) zI1 t13 (by kernel_rfl) Inv n h0 round
theorem zI2 {t0 t1 t2:AV} {H:zaa} {K:Kt} (h:HSc H→zyk t0 t1 t2 H K):ACalls tP zn8 [t0,t1,t2] H K:=
 zao (M:=zkq) Tryz.func140 (c:=zqo) (by kernel_rfl) (fun hs=>Eq.mpr (by kernel_rfl) (h hs))
end Go.Proofs.YtdmamdnkcefmmaaGreatDoor
namespace Go.Proofs.YtdmamdnkcefmmaaGreatDoor
open Go Go.Abs
theorem zdJ (v:IT):∃ a b,v.cs=[a,b]∧a.known=true∧b.known=true:=by
 obtain⟨n,ks⟩:=v;exact⟨_,_,rfl,rfl,rfl⟩
theorem zCt {v:IT} {k:AV→Prop}:zau 2 [.int .i64 0,.snil] 1 [(0,.agg v.cs)] k=k (.sl [v.cs] .full):=by
 cases v
 exact propext Iff.rfl
theorem zDq {l:List IT} {i:Nat} (h:i<l.length):IT.css (l.take (i+1))=IT.css (l.take i)++[(l[i]).cs]:=by
 rw[IT.css_map,IT.css_map,List.take_succ_eq_append_getElem h,List.map_append]
 rfl
mutual
def zdm:VT→IT
 | .mk k _ ks=>.mk 0 (if k=6 then zcv ks else [])
def zcv:List VT→List IT
 | []=>[]
 | t::ts=>zdm t::zcv ts
end
theorem zxy:∀ ts:List VT,zcv ts=ts.map zdm
 | []=>by simp[zcv]
 | t::ts=>by simp[zcv,zxy ts]
end Go.Proofs.YtdmamdnkcefmmaaGreatDoor
