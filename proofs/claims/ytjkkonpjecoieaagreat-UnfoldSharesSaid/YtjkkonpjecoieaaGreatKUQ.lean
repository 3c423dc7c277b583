import Derived.Test.YtjkkonpjecoieaaGreatKY15
import Derived.Test.YtjkkonpjecoieaaGreatKY4
import Derived.Test.YtjkkonpjecoieaaGreatIT
set_option linter.unusedSimpArgs false
set_option linter.unusedVariables false
namespace Go.Proofs.YtjkkonpjecoieaaGreat
open Go Go.Abs
set_option maxRecDepth 8000
def zb4 (l:List (List UInt8)):List (List UInt8 × AV):=l.map fun s=>(s,.bool true)
theorem zfz (s:List UInt8):∀ l:List (List UInt8),(zck (zb4 l) s).getD (.bool false)=.bool (decide (s∈l))
 | []=>by simp[zb4,zck]
 | a::l=>by
  have:=zfz s l
  cases h:a == s with
  | true=>
   have h':a=s:=by simpa using h
   simp[zb4,zck,h,h']
  | false=>
   have h':a≠s:=by simpa using h
   have h'':s≠a:=fun e=>h' e.symm
   simp only[zb4,List.map_cons,zck,h]at this ⊢
   rw[this];simp[h'']
theorem zqk (s:List UInt8):∀ l:List (List UInt8),s ∉ l→zdx (zb4 l) s (.bool true)=zb4 (l++[s])
 | [],_=>rfl
 | a::l,h=>by
  have h1:(a == s)=false:=by simp at h;simpa using fun e=>h.1 e.symm
  have:=zqk s l (by simp at h;exact h.2)
  simp only[zb4,List.map_cons,zdx,h1,List.cons_append]at this ⊢
  rw[this]
theorem zFN (m:Nat) (l:List (List UInt8)):(AB.map (zb4 l)).sc m=true:=by simp[AB.sc,zb4,AV.scV]
def zbz (data:List Dat):List (List UInt8):=data.map Dat.name
def zaT (data:List Dat):List (List UInt8):=data.flatMap fun D=>D.cons.map Con.name
def zdt (data:List Dat) (d:Nat) (vars:Int) (c:Con):Bool:=zc4 c.name && (decide (c.args.length≤6) && c.args.all (zdW data d vars))
def zcJ (data:List Dat) (d:Nat) (D:Dat):Bool:=zc4 D.name && decide (0≤D.vars) && decide (D.vars≤6) && decide (1≤D.cons.length) && decide (D.cons.length≤8) && D.cons.all (zdt data d D.vars)
def zcV (data:List Dat):List Dat→Nat→Bool
 | [],_=>true
 | D::l,d=>zcJ data d D && zcV data l (d+1)
def zbe (data:List Dat):Bool:=decide (data.length≤12) && zcV data data 0 && !zcp (zbz data) && !zcp (zaT data)
theorem zxe {A R:List (List UInt8)} {s:List UInt8} (h:s∈A):zcp (A++s::R)=true:=by
 simp only[zcp,Bool.not_eq_true',decide_eq_false_iff_not,List.nodup_append]
 rintro⟨_,_,h3⟩
 exact h3 s h s (by simp) rfl
theorem zqc {l:List (List UInt8)} (h:l.Nodup):zcp l=false:=by simp[zcp,h]
theorem zwz {A:List (List UInt8)} {s:List UInt8} (h:A.Nodup) (hs:s ∉ A):(A++[s]).Nodup:=by
 rw[List.nodup_append]
 refine⟨h,by simp,?_⟩
 intro a ha b hb
 simp at hb;subst hb
 exact fun e=>hs (e ▸ ha)
def zn6 (data:List Dat):Prop:=∀ D∈data,D.cons.length≤1000000∧∀ c∈D.cons,c.args.length≤1000000∧∀ x∈c.args,x.nodes≤1000000
theorem zKq (data:List Dat) (hB:zn6 data) (hl:data.length≤1000000) (H:zaa) (K:AV→zaa→Prop) (hK:K (.bool (zbe data)) H):ACalls tP zpf [.sl (data.map Dat.cs) .none] H K:=by
 refine ACalls.out (zKo fun hs=>?_)
 have hO:∀ J,Out H.length K (.bool (zbe data)) (H++J):=fun J=>Out.bool rfl (Nat.le_refl _) hs hK
 by_cases h12:data.length≤12
 ·have h12':¬ (12:Int)<data.length:=by omega
  have h12'':¬ 12<data.length:=by omega
  have hD0:zcV data data 0=false→∀ J,Out H.length K (.bool false) (H++J):=fun h J=>by
   have:=hO J;rwa [show zbe data=false by simp[zbe,h]]at this
  have hD1:zcp (zbz data)=true→∀ J,Out H.length K (.bool false) (H++J):=fun h J=>by
   have:=hO J;rwa [show zbe data=false by simp[zbe,h]]at this
  have hD2:zcp (zaT data)=true→∀ J,Out H.length K (.bool false) (H++J):=fun h J=>by
   have:=hO J;rwa [show zbe data=false by simp[zbe,h]]at this
  simp[zrM,h12',h12'']
  refine zKm (Inv:=fun q t15 H'=>∃ i:Nat,i≤data.length∧q=data.length-i∧t15=.int .i64 i∧zcV data (data.drop i) i=zcV data data 0∧(zbz (data.take i)).Nodup∧(zaT (data.take i)).Nodup∧H'=H++[.map (zb4 (zbz (data.take i))),.map (zb4 (zaT (data.take i)))]) data.length ?_ ?_
  ·intro _;exact⟨0,by omega,by omega,rfl,by simp,by simp[zbz],by simp[zaT],by simp[zbz,zaT,zb4]⟩
  ·rintro q t15 H' ⟨i,hi,rfl,rfl,ho,hdn,hcn,rfl⟩ hsc hlen hsF Kb hKb
   by_cases hlt:i<data.length
   ·have e1:(data.map Dat.cs)[i]?=some (data[i]).cs:=by simp[hlt]
    obtain⟨hB1,hB2⟩:=hB _ (List.getElem_mem hlt)
    have hargs:=fun c hc=>zMT data i c hlt hc hl hB1 (hB2 _ (List.getElem_mem hc)).1 (hB2 _ (List.getElem_mem hc)).2
    rw[List.drop_eq_getElem_cons hlt,zcV]at ho
    have htk:data.take (i+1)=data.take i++[data[i]]:=by rw[List.take_append_getElem hlt]
    have hsplit:data=data.take i++data[i]::data.drop (i+1):=by rw[List.getElem_cons_drop,List.take_append_drop]
    generalize hD:data[i]=D at *
    have hbad:zcJ data i D=false→zcV data data 0=false:=fun h=>by rw[←ho,h,Bool.false_and]
    have hno:∀ J,zcJ data i D=false→Out H.length K (.bool false) (H++[.map (zb4 (zbz (data.take i))),.map (zb4 (zaT (data.take i)))]++J):=fun J h=>by
     rw[List.append_assoc];exact hD0 (hbad h) _
    simp[zrO,hlt,e1,hD,Dat.cs]
    refine zAz _ _ _ ?_
    cases hu:zc4 D.name with
    | false=>simp;exact hD0 (hbad (by simp[zcJ,hu])) _
    | true=>
    by_cases hmem:D.name∈zbz (data.take i)
    ·simp[hlt,e1,hD,Dat.cs,zfz,hmem]
     refine hD1 ?_ _
     rw[hsplit];simp only[zbz,List.map_append,List.map_cons]
     exact zxe hmem
    by_cases hv0:D.vars<0
    ·simp[hlt,e1,hD,Dat.cs,zfz,hmem,hv0]
     exact hD0 (hbad (by simp[zcJ,show ¬ 0≤D.vars by omega])) _
    by_cases hv6:6<D.vars
    ·simp[hlt,e1,hD,Dat.cs,zfz,hmem,hv0,hv6]
     exact hD0 (hbad (by simp[zcJ,show ¬ D.vars≤6 by omega])) _
    simp[hlt,e1,hD,Dat.cs,zfz,hmem,hv0,hv6,zqk _ _ hmem]
    by_cases hc1:D.cons.length<1
    ·have hc1':(D.cons.length:Int)<1:=by omega
     simp[hc1']
     exact hD0 (hbad (by simp[zcJ,show ¬ 1≤D.cons.length by omega])) _
    have hc1':¬ (D.cons.length:Int)<1:=by omega
    by_cases hc8:8<D.cons.length
    ·have hc8':(8:Int)<D.cons.length:=by omega
     simp[hlt,e1,hD,Dat.cs,hc1',hc8',hc8]
     exact hD0 (hbad (by simp[zcJ,show ¬ D.cons.length≤8 by omega])) _
    have hc8':¬ (8:Int)<D.cons.length:=by omega
    have hdat:zcJ data i D=D.cons.all (zdt data i D.vars):=by
     simp[zcJ,hu,show 0≤D.vars by omega,show D.vars≤6 by omega,show 1≤D.cons.length by omega,show D.cons.length≤8 by omega]
    simp[hlt,e1,hD,Dat.cs,hc1',hc8',hc8]
    have hdn':(zbz (data.take (i+1))).Nodup:=by
     rw[htk];simp only[zbz,List.map_append,List.map_cons,List.map_nil];exact zwz hdn hmem
    have hde:zbz (data.take i)++[D.name]=zbz (data.take (i+1)):=by rw[htk];simp[zbz]
    rw[hde]
    refine zKl (Inv:=fun q t78 H'=>∃ j:Nat,j≤D.cons.length∧q=D.cons.length-j∧t78=.int .i64 j∧(D.cons.drop j).all (zdt data i D.vars)=D.cons.all (zdt data i D.vars)∧(zaT (data.take i)++(D.cons.take j).map Con.name).Nodup∧H'=H++[.map (zb4 (zbz (data.take (i+1)))),.map (zb4 (zaT (data.take i)++(D.cons.take j).map Con.name))]) D.cons.length ?_ ?_
    ·intro _;exact⟨0,by omega,by omega,rfl,by simp,by simpa using hcn,by simp⟩
    ·rintro q t78 H' ⟨j,hj,rfl,rfl,hoc,hcj,rfl⟩ hsc1 hlen1 hsF1 Kb1 hKb1
     have hscH:∀ A B,HSc (H++[.map (zb4 A),.map (zb4 B)]):=fun A B=>hs.append (by simp[zFN])
     by_cases hjl:j<D.cons.length
     ·have e2:(D.cons.map Con.cs)[j]?=some (D.cons[j]).cs:=by simp[hjl]
      have hargs':=hargs j hjl
      rw[List.drop_eq_getElem_cons hjl,List.all_cons]at hoc
      have htj:zaT (data.take i)++(D.cons.take (j+1)).map Con.name=(zaT (data.take i)++(D.cons.take j).map Con.name)++[(D.cons[j]).name]:=by
       rw[←List.take_append_getElem hjl,List.map_append,List.append_assoc];rfl
      have hcs:zaT data=(zaT (data.take i)++(D.cons.take j).map Con.name)++(D.cons[j]).name::((D.cons.drop (j+1)).map Con.name++zaT (data.drop (i+1))):=by
       have h1:D.cons.map Con.name=(D.cons.take j).map Con.name++(D.cons[j]).name::(D.cons.drop (j+1)).map Con.name:=by
        rw[←List.map_cons (f:=Con.name),List.getElem_cons_drop,←List.map_append,List.take_append_drop]
       conv=>lhs;rw[hsplit]
       simp only[zaT,List.flatMap_append,List.flatMap_cons,List.append_assoc,h1,List.cons_append]
      generalize hC:D.cons[j]=C at *
      have hbad':zdt data i D.vars C=false→zcV data data 0=false:=fun h=>hbad (by rw[hdat,←hoc,h,Bool.false_and])
      generalize hA:zaT (data.take i)++(D.cons.take j).map Con.name=A at *
      simp only[zrN]
      simp[hjl,hC,Con.cs,Nat.add_assoc]
      refine zAz _ _ _ ?_
      cases hu2:zc4 C.name with
      | false=>simp;exact hD0 (hbad' (by simp[zdt,hu2])) _
      | true=>
      by_cases hm2:C.name∈A
      ·simp[zfz,hm2]
       exact hD2 (by rw[hcs];exact zxe hm2) _
      ·simp[zfz,hm2]
       refine hargs' _ _ ?_
       have hce:zdt data i D.vars C=(decide (C.args.length≤6) && C.args.all (zdW data i D.vars)):=by simp[zdt,hu2]
       rw[←hce]
       cases hco:zdt data i D.vars C with
       | false=>simp;exact hD0 (hbad' hco) _
       | true=>
        rw[hco,Bool.true_and]at hoc
        simp[zqk _ _ hm2]
        rw[zau (by omega) (by omega)]
        refine hKb1 _ _ ⟨D.cons.length-(j+1),by omega,Back.at (J:=[.cells [.str C.name,.sl (VT.css C.args) .none]]) (H2:=H++[.map (zb4 (zbz (data.take (i+1)))),.map (zb4 (A++[C.name]))]) (by simp) (by simp) (hscH _ _) ?_ ⟨_,rfl,j+1,by omega,rfl,by simp,hoc,?_,?_⟩⟩
        ·simp[zlr,AV.sc,AV.scV,AV.scA,AV.scB]
        ·rw[htj];exact zwz hcj hm2
        ·rw[htj]
     ·obtain rfl:j=D.cons.length:=by omega
      rw[List.drop_length,List.all_nil]at hoc
      rw[List.take_length]at *
      simp[zrN]
      rw[zau (by omega) (by omega)]
      have hce:zaT (data.take i)++D.cons.map Con.name=zaT (data.take (i+1)):=by rw[htk];simp[zaT]
      rw[hce]at hcj ⊢
      refine hKb _ _ ⟨data.length-(i+1),by omega,Back.at (J:=[]) (by simp) (by simp) (hscH _ _) ?_ ⟨_,rfl,i+1,by omega,rfl,by simp,?_,hdn',hcj,rfl⟩⟩
      ·simp[zls,AV.sc,AV.scV,AV.scA,AV.scB]
      ·rw[←ho,hdat,←hoc,Bool.true_and]
   ·obtain rfl:i=data.length:=by omega
    rw[List.drop_length,zcV]at ho
    rw[List.take_length]at *
    simp[zrO]
    have:=hO [.map (zb4 (zbz data)),.map (zb4 (zaT data))]
    rwa [show zbe data=true by simp[zbe,h12,←ho,zqc hdn,zqc hcn]]at this
 ·have h12':(12:Int)<data.length:=by omega
  have h12'':12<data.length:=by omega
  rw[show zbe data=false by simp[zbe,h12]]at hO
  simp[zrM,h12',h12'']
  simpa using hO []
def zuH (c:Con):Prop:=c.name.length≤40∧c.args.length≤8∧∀ t∈c.args,t.nodes≤20
def zn4 (d:Dat):Prop:=d.name.length≤40∧d.cons.length≤10∧∀ c∈d.cons,zuH c
def za2 (ds:List Dat):Prop:=ds.length≤14∧∀ d∈ds,zn4 d
theorem zhv {α:Type} {l:List α} {i:Nat} (h:i<l.length) {p:α→Prop} (h1:∀ x∈l.take i,p x) (h2:p l[i]):∀ x∈l.take (i+1),p x:=by
 rw[List.take_succ_eq_append_getElem h]
 intro x hx
 rcases List.mem_append.1 hx with hx | hx
 ·exact h1 x hx
 ·simp at hx;subst hx;exact h2
theorem zwk {α:Type} {cs:α→List AV} {l:List α} {i:Nat} (h:i<l.length):(l.map cs)[i]?.getD []=cs l[i]:=by simp[h]
theorem vt3 (v:VT):∃ a b c,v.cs=[a,b,c]∧a.known=true∧b.known=true∧c.known=true:=by
 obtain⟨k,n,ks⟩:=v;exact⟨_,_,_,rfl,rfl,rfl,rfl⟩
theorem zOu (ds:List Dat) (H:zaa) (K:AV→zaa→Prop) (hlen:ds.length≤9223372036854775807) (hK:∀ b,(b=true→za2 ds)→K (.bool b) H):ACalls tP zpC [.sl (ds.map Dat.cs) .none] H K:=by
 refine ACalls.out (zOs fun hs=>?_)
 have hF:∀ J,Out H.length K (.bool false) (H++J):=fun J=>Out.bool rfl (Nat.le_refl _) hs (hK false fun h=>by cases h)
 have hF0:Out H.length K (.bool false) H:=by simpa using hF []
 by_cases h14:ds.length>14
 ·have:(14:Int)<ds.length:=by omega
  simp[zsP,this]
  exact hF0
 have:¬ (14:Int)<ds.length:=by omega
 simp[zsP,this]
 refine zOp (Inv:=fun q t15 H'=>∃ i:Nat,i≤ds.length∧q=ds.length-i∧t15=.int .i64 i∧(∀ d∈ds.take i,zn4 d)∧H=H') ds.length ?_ ?_
 ·intro _;exact⟨0,by omega,by omega,rfl,by simp,rfl⟩
 ·rintro q t15 H' ⟨i,hi,rfl,rfl,ha,rfl⟩ hsc hl hsF Kb4 hKb4
  by_cases hil:i<ds.length
  ·have hat:(ds.map Dat.cs)[i]?.getD []=[.str ds[i].name,.int .i64 ds[i].vars,.sl (ds[i].cons.map Con.cs) .none]:=zwk hil
   have next:zn4 ds[i]→∀ J,Kb4 (ziq (.sl (ds.map Dat.cs) .none) (.int .i64 ds.length) (.int .i64 (i+1))) (H++J):=by
    intro hd J
    refine hKb4 _ _ ⟨ds.length-(i+1),by omega,Back.same (Nat.le_refl _) hs ?_ ⟨_,rfl,i+1,by omega,rfl,by simp,zhv hil ha hd,rfl⟩⟩
    simp[ziq,AV.sc,AV.scV,AV.scA,AV.scB]
   generalize hdd:ds[i]=d at *
   simp[zsR,hil,hat,AV.known,hdd,Dat.cs]
   by_cases hn:d.name.length>40
   ·have:(40:Int)<d.name.length:=by omega
    simp[this]
    exact hF _
   have hn':¬ (40:Int)<d.name.length:=by omega
   by_cases hc:d.cons.length>10
   ·have:(10:Int)<d.cons.length:=by omega
    simp[hn',this]
    exact hF _
   have hc':¬ (10:Int)<d.cons.length:=by omega
   simp[hn',hc']
   refine zOq (Inv:=fun q t32 H'=>∃ j:Nat,j≤d.cons.length∧q=d.cons.length-j∧t32=.int .i64 j∧(∀ c∈d.cons.take j,zuH c)∧H'=H++[.cells [.str d.name,.int .i64 d.vars,.sl (d.cons.map Con.cs) .none]]) d.cons.length ?_ ?_
   ·intro _;exact⟨0,by omega,by omega,rfl,by simp,rfl⟩
   ·rintro q t32 H' ⟨j,hj,rfl,rfl,hb,rfl⟩ hsc9 hl9 hsF9 Kb9 hKb9
    by_cases hjl:j<d.cons.length
    ·have hat:(d.cons.map Con.cs)[j]?.getD []=[.str d.cons[j].name,.sl (VT.css d.cons[j].args) .none]:=zwk hjl
     generalize hcc:d.cons[j]=c at *
     simp[zsS,hjl,hat,AV.known,hcc,Con.cs]
     by_cases hn:c.name.length>40
     ·have:(40:Int)<c.name.length:=by omega
      simp[this]
      exact hF _
     have hn':¬ (40:Int)<c.name.length:=by omega
     by_cases hc:c.args.length>8
     ·have:(8:Int)<c.args.length:=by omega
      simp[hn',this]
      exact hF _
     have hc':¬ (8:Int)<c.args.length:=by omega
     simp[hn',hc']
     refine zOo (Inv:=fun q t49 H'=>∃ (k:Nat) (l:Int),k≤c.args.length∧q=c.args.length-k∧t49=.int .i64 k∧-1≤l∧l≤20∧(∀ t∈c.args.take k,t.nodes≤20)∧H'=H++[.cells [.str d.name,.int .i64 d.vars,.sl (d.cons.map Con.cs) .none],.cells [.str c.name,.sl (VT.css c.args) .none],.cells [.int .i64 l]]) c.args.length ?_ ?_
     ·intro _;exact⟨0,20,by omega,by omega,rfl,by omega,by omega,by simp,rfl⟩
     ·rintro q t49 H' ⟨k,l,hk,rfl,rfl,hl0,hl1,hb15,rfl⟩ hsc15 hl15 hsF15 Kb15 hKb15
      by_cases hkl:k<c.args.length
      ·obtain⟨x,y,z,hv,hx,hy,hz⟩:=vt3 c.args[k]
       simp[zsQ,hkl,hv,hx,hy,hz]
       rw[←hv]
       refine zCl _ _ (Nat.le_refl _) l (by omega) hl0 _ (H.length+2) (by simp) _ ?_ ?_
       ·intro hle
        simp
        rw[zau (by omega) (by omega)]
        refine hKb15 _ _ ⟨c.args.length-(k+1),by omega,Back.at (J:=[_]) (H2:=H++[.cells [.str d.name,.int .i64 d.vars,.sl (d.cons.map Con.cs) .none],.cells [.str c.name,.sl (VT.css c.args) .none],.cells [.int .i64 (l-c.args[k].nodes)]]) (by simp;rfl) (by simp) (hs.append rfl) ?_ ⟨_,rfl,k+1,l-c.args[k].nodes,by omega,rfl,by simp,by omega,by omega,zhv hkl hb15 (by omega),rfl⟩⟩
        simp[zme,AV.sc,AV.scV,AV.scA,AV.scB]
       ·intro hle l'
        simp
        exact hF _
      ·obtain rfl:k=c.args.length:=by omega
       rw[List.take_length]at hb15
       simp[zsQ]
       rw[zau (by omega) (by omega)]
       refine hKb9 _ _ ⟨d.cons.length-(j+1),by omega,Back.at (J:=[_,_]) (H2:=H++[.cells [.str d.name,.int .i64 d.vars,.sl (d.cons.map Con.cs) .none]]) (by simp;exact⟨rfl,rfl⟩) (by simp) (hs.append rfl) ?_ ⟨_,rfl,j+1,by omega,rfl,by simp,zhv hjl hb (by rw[hcc];exact⟨by omega,by omega,hb15⟩),rfl⟩⟩
       simp[zmf,AV.sc,AV.scV,AV.scA,AV.scB]
    ·obtain rfl:j=d.cons.length:=by omega
     rw[List.take_length]at hb
     simp[zsS]
     rw[zau (by omega) (by omega)]
     exact next ⟨by omega,by omega,hb⟩ _
  ·obtain rfl:i=ds.length:=by omega
   rw[List.take_length]at ha
   simp[zsR]
   exact Out.bool (J:=[]) (by simp) (Nat.le_refl _) hs (hK true fun _=>⟨by omega,ha⟩)
def zen (data:List Dat) (d:Nat) (vars:Int) (t:VT):Bool:=zbP d vars t || zaR (data.take d) vars t
structure RCon (data:List Dat) (d:Nat) (vars:Int) (c:Con):Prop where
 up:zc4 c.name=true
 len:c.args.length≤6
 args:∀ x∈c.args,zen data d vars x=true
structure RDat (data:List Dat) (d:Nat) (D:Dat):Prop where
 v0:0≤D.vars
 v6:D.vars≤6
 c1:1≤D.cons.length
 c8:D.cons.length≤8
 up:zc4 D.name=true
 cons:∀ c∈D.cons,RCon data d D.vars c
structure RData (data:List Dat):Prop where
 len:data.length≤12
 dats:∀ d (h:d<data.length),RDat data d data[d]
 names:(zbz data).Nodup
 cons:(zaT data).Nodup
theorem zqB {α:Type} {l:List α} {i:Nat} (h:i<l.length):l.take (i+1)=l.take i++[l[i]]:=by rw[List.take_append_getElem h]
theorem zvt:∀ l:List Dat,(∀ D∈l,D.cons.length≤10)→(zaT l).length≤l.length*10
 | [],_=>by simp[zaT]
 | D::l,h=>by
  have h1:=zvt l (fun D hD=>h D (by simp[hD]))
  have h2:=h D (by simp)
  rw[zaT]at h1 ⊢
  rw[List.flatMap_cons,List.length_append,List.length_map,List.length_cons];omega
theorem zD6 {data:List Dat} {d:Nat} (h:d<data.length):zbz (data.take (d+1))=zbz (data.take d)++[(data[d]).name]:=by
 rw[zbz,zqB h,List.map_append];rfl
theorem zDO {data:List Dat} {d:Nat} (h:d<data.length):zaT (data.take (d+1))=zaT (data.take d)++(data[d]).cons.map Con.name:=by
 rw[zaT,zqB h,List.flatMap_append];simp[zaT]
theorem zxM (l:List (List UInt8)) (s:List UInt8):strs (l++[s])=strs l++[[.str s]]:=by simp[strs]
theorem zvk {s:List UInt8} {k:AV→Prop}:zaB 1 [.str []] 1 [(0,.str s)] k=k (.sl [[.str s]] .full):=propext Iff.rfl
theorem zxf (l:List (List UInt8)) (hl:l.length≤1000000) {tok:Tok} (H:zaa) (K:AV→zaa→Prop) (hK:K (.bool (zcp l)) H):ACalls tP zhP [.sl (strs l) tok] H K:=
 ACalls.wk (zSw l hl H K hK) ⟨.atom (.sl _ _),trivial⟩
theorem zDR {D:Dat} {i:Nat} (h:i<D.cons.length):(D.cons.map Con.cs)[i]?.getD []=[.str (D.cons[i]).name,.sl (VT.css (D.cons[i]).args) .none]:=by simp[h,Con.cs]
theorem zBs (data:List Dat) (hkd:za2 data) (H:zaa) (K:AV→zaa→Prop) (hK:∀ b,(b=true↔RData data)→K (.bool b) H):ACalls tP zjB [.sl (data.map Dat.cs) .none] H K:=by
 refine ACalls.out (zO1 fun hs=>?_)
 obtain⟨kl,kd⟩:=hkd
 have hF:¬ RData data→∀ J,Out H.length K (.bool false) (H++J):=fun h J=>Out.bool rfl (Nat.le_refl _) hs (hK _ (by simp[h]))
 have hT:∀ b:Bool,(b=true↔RData data)→∀ J,Out H.length K (.bool b) (H++J):=fun b h J=>Out.bool rfl (Nat.le_refl _) hs (hK _ h)
 by_cases h12:data.length>12
 ·have h12':(12:Int)<data.length:=by omega
  simp[zs0,h12']
  have:=hF (fun h=>by have:=h.len;omega) []
  simpa using this
 have h12':¬ (12:Int)<data.length:=by omega
 simp[zs0,h12']
 unfold zmo
 refine ALoop.own 3 zb9 1 rfl ?_
 refine ALoop.own 4 zb9 1 rfl ?_
 rw[List.append_assoc]
 have hcn:∀ d,(zaT (data.take d)).length≤140:=fun d=>by
  have:=zvt (data.take d) (fun D hD=>(kd D (List.mem_of_mem_take hD)).2.1)
  rw[List.length_take]at this
  have:min d data.length*10≤14*10:=Nat.mul_le_mul_right _ (by omega)
  omega
 have hl1:(H++[AB.perm zb9 1 0]).length=H.length+1:=by simp
 rw[hl1]
 show zmo (.sl (data.map Dat.cs) .none) (.sl [] (.own H.length)) (.sl [] (.own (H.length+1))) (.int .i64 0) (H++[.perm zb9 1 0,.perm zb9 1 0]) (Out H.length K)
 have hsP:∀ m n,HSc (H++[.perm zb9 1 m,.perm zb9 1 n]):=fun m n=>hs.append rfl
 refine zOZ (Inv:=fun q t3 t4 t5 H'=>∃ d:Nat,d≤data.length∧q=data.length-d∧t5=.int .i64 d∧t3=.sl (strs (zbz (data.take d))) (.own H.length)∧t4=.sl (strs (zaT (data.take d))) (.own (H.length+1))∧(∀ j (h:j<data.length),j<d→RDat data j data[j])∧H'=H++[.perm zb9 1 d,.perm zb9 1 (zaT (data.take d)).length]) data.length ?_ ?_
 ·intro _;exact⟨0,by omega,by omega,rfl,by simp[zbz,strs],by simp[zaT,strs],by omega,by simp[zaT]⟩
 ·rintro q t3 t4 t5 H' ⟨d,hd,rfl,rfl,rfl,rfl,hok,rfl⟩ hsc hlen hsF Kb hKb
  by_cases hlt:d<data.length
  ·have hbad:¬ RDat data d data[d]→∀ J,Out H.length K (.bool false) (H++J):=fun h=>hF fun hh=>h (hh.dats d hlt)
   have hcd:=hcn d
   have hds:=zD6 hlt
   have hcs:=zDO hlt
   obtain⟨kn,kc,kcc⟩:=kd _ (List.getElem_mem hlt)
   have hdl:(zbz (data.take d)).length=d:=by simp[zbz];omega
   generalize hD:data[d]=D at *
   have hge:(data.map Dat.cs)[d]?.getD []=[.str D.name,.int .i64 D.vars,.sl (D.cons.map Con.cs) .none]:=by simp[hlt,hD,Dat.cs]
   by_cases hv0:D.vars<0
   ·simp[zfP,hlt,hD,Dat.cs,hv0]
    exact hbad (fun h=>by have:=h.v0;omega) _
   by_cases hv6:6<D.vars
   ·simp[zfP,hlt,hD,Dat.cs,hv0,hv6]
    exact hbad (fun h=>by have:=h.v6;omega) _
   by_cases hc1:D.cons.length<1
   ·have hc1':(D.cons.length:Int)<1:=by omega
    simp[zfP,hlt,hD,Dat.cs,hv0,hv6,hc1']
    exact hbad (fun h=>by have:=h.c1;omega) _
   have hc1':¬ (D.cons.length:Int)<1:=by omega
   by_cases hc8:8<D.cons.length
   ·have hc8':(8:Int)<D.cons.length:=by omega
    simp[zfP,hlt,hD,Dat.cs,hv0,hv6,hc1',hc8']
    exact hbad (fun h=>by have:=h.c8;omega) _
   have hc8':¬ (8:Int)<D.cons.length:=by omega
   simp[zfP,hlt,hD,Dat.cs,hv0,hv6,hc1',hc8']
   refine zCv _ _ _ ?_
   cases hup:zc4 D.name with
   | false=>simp;exact hbad (fun h=>by have:=h.up;rw[hup]at this;cases this) _
   | true=>
   simp[zvk]
   simp[zax,zaY,zaM,hdl]
   refine⟨by omega,?_⟩
   rw[←zxM,←hds]
   refine zOX (Inv:=fun q t4 t7 H'=>∃ k:Nat,k≤D.cons.length∧q=D.cons.length-k∧t7=.int .i64 k∧t4=.sl (strs (zaT (data.take d)++(D.cons.map Con.name).take k)) (.own (H.length+1))∧(∀ c∈D.cons.take k,RCon data d D.vars c)∧H'=H++[.perm zb9 1 (d+1),.perm zb9 1 ((zaT (data.take d)).length+k),.cells [.str D.name,.int .i64 D.vars,.sl (D.cons.map Con.cs) .none]]) D.cons.length ?_ ?_
   ·intro _;exact⟨0,by omega,by omega,rfl,by simp,by simp,by simp⟩
   ·rintro q t4 t7 H' ⟨k,hk,rfl,rfl,rfl,hck,rfl⟩ hsc1 hlen1 hsF1 Kb1 hKb1
    have hlk:(zaT (data.take d)++(D.cons.map Con.name).take k).length=(zaT (data.take d)).length+k:=by simp;omega
    by_cases hkl:k<D.cons.length
    ·have hkI:(k:Int)<D.cons.length:=by omega
     have hca:=zDR hkl
     have hcbad:¬ RCon data d D.vars D.cons[k]→∀ J,Out H.length K (.bool false) (H++J):=fun h=>hbad fun hh=>h (hh.cons _ (List.getElem_mem hkl))
     have hns:zaT (data.take d)++(D.cons.map Con.name).take (k+1)=(zaT (data.take d)++(D.cons.map Con.name).take k)++[(D.cons[k]).name]:=by rw[zqB (by simpa using hkl)];simp
     obtain⟨_,ka,kan⟩:=kcc _ (List.getElem_mem hkl)
     generalize hC:D.cons[k]=C at *
     simp[zs1,hkl,hC,Con.cs]
     refine zCv _ _ _ ?_
     cases hupc:zc4 C.name with
     | false=>simp;exact hcbad (fun h=>by have:=h.up;rw[hupc]at this;cases this) _
     | true=>
     by_cases ha6:6<C.args.length
     ·have ha6':(6:Int)<C.args.length:=by omega
      simp[hkl,hC,Con.cs,ha6']
      exact hcbad (fun h=>by have:=h.len;omega) _
     have ha6':¬ (6:Int)<C.args.length:=by omega
     simp[hkl,hC,Con.cs,ha6',zvk]
     generalize hA:zaT (data.take d)++(D.cons.map Con.name).take k=A at *
     have hAl:A.length=(zaT (data.take d)).length+k:=hlk
     simp[zax,zaY,zaM,hAl,hkl,hC,Con.cs]
     refine⟨by omega,?_⟩
     rw[←zxM,←hns]
     refine zOY (Inv:=fun q t95 H'=>∃ i:Nat,i≤C.args.length∧q=C.args.length-i∧t95=.int .i64 i∧(∀ x∈C.args.take i,zen data d D.vars x=true)∧H'=H++[.perm zb9 1 (d+1),.perm zb9 1 ((zaT (data.take d)).length+k+1),.cells [.str D.name,.int .i64 D.vars,.sl (D.cons.map Con.cs) .none]]) C.args.length ?_ ?_
     ·intro _;exact⟨0,by omega,by omega,rfl,by simp,rfl⟩
     ·rintro q t95 H' ⟨i,hi,rfl,rfl,hok3,rfl⟩ hsc2 hlen2 hsF2 Kb2 hKb2
      by_cases hil:i<C.args.length
      ·have hxn:=kan _ (List.getElem_mem hil)
       have habad:zen data d D.vars C.args[i]=false→∀ J,Out H.length K (.bool false) (H++J):=fun h=>hcbad fun hh=>by
        have:=hh.args _ (List.getElem_mem hil)
        rw[h]at this;cases this
       obtain⟨x,y,z,hvx,hx,hy,hz⟩:=vt3 C.args[i]
       have good:zen data d D.vars C.args[i]=true→zmn (.sl (data.map Dat.cs) .none) (.sl (strs (zbz (data.take (d+1)))) (.own H.length)) (.sl (strs (zaT (data.take d)++(D.cons.map Con.name).take (k+1))) (.own (H.length+1))) (.int .i64 d) (.ptr (H.length+2) 0) (.int .i64 k) (.sl (VT.css C.args) .none) (.int .i64 C.args.length) (.int .i64 i) (H++[.perm zb9 1 (d+1),.perm zb9 1 ((zaT (data.take d)).length+k+1),.cells [.str D.name,.int .i64 D.vars,.sl (D.cons.map Con.cs) .none],.cells [x,y,z]]) (Out H.length K) Kb Kb1 Kb2:=fun hg=>by
        simp[zmn,zBn]
        rw[zau (by omega) (by omega)]
        refine hKb2 _ _ ⟨C.args.length-(i+1),by omega,Back.at (J:=[_]) (H2:=H++[.perm zb9 1 (d+1),.perm zb9 1 ((zaT (data.take d)).length+k+1),.cells [.str D.name,.int .i64 D.vars,.sl (D.cons.map Con.cs) .none]]) (by simp;rfl) (by simp) hsc2 ?_ ⟨_,rfl,i+1,by omega,rfl,by simp,zhv hil hok3 hg,rfl⟩⟩
        simp[zml,AV.sc,AV.scV,AV.scA,AV.scB]
       simp[zs2,hil,hvx,hx,hy,hz]
       rw[←hvx]
       refine zuG _ _ _ (by omega) _ _ ?_
       cases hself:zbP d D.vars C.args[i] with
       | true=>
        rw[hvx]
        simp
        exact good (by simp[zen,hself])
       | false=>
        simp[hvx]
        refine⟨⟨by omega,fun a _=>rfl⟩,?_⟩
        rw[←List.map_take,←hvx]
        refine zaH (.bool (zaR (data.take d) D.vars C.args[i])) (fun J=>zs6 (data.take d) (by simp;omega) _ _ (by omega) _ _ ⟨rfl,rfl⟩) ?_
        cases hty:zaR (data.take d) D.vars C.args[i] with
        | false=>simp;exact habad (by simp[zen,hself,hty]) _
        | true=>
         rw[hvx]
         simp
         exact good (by simp[zen,hty])
      ·obtain rfl:i=C.args.length:=by omega
       rw[List.take_length]at *
       simp[zs2]
       rw[zau (by omega) (by omega)]
       refine hKb1 _ _ ⟨D.cons.length-(k+1),by omega,Back.here (by simp) hsc2 ?_ ⟨_,_,rfl,k+1,by omega,rfl,by simp,rfl,?_,by simp[Nat.add_assoc]⟩⟩
       ·simp[zmk,AV.sc,AV.scV,AV.scA,AV.scB]
       ·exact zhv hkl hck (by rw[hC];exact⟨hupc,by omega,hok3⟩)
    ·obtain rfl:k=D.cons.length:=by omega
     rw[List.take_length]at *
     simp[zs1]
     rw[zau (by omega) (by omega)]
     refine hKb _ _ ⟨data.length-(d+1),by omega,Back.at (J:=[_]) (H2:=H++[.perm zb9 1 (d+1),.perm zb9 1 (zaT (data.take (d+1))).length]) (by rw[hcs];simp;rfl) (by simp) (hsP _ _) ?_ ⟨_,_,_,rfl,d+1,by omega,rfl,by simp,rfl,by rw[hcs];exact congrArg (fun l=>AV.sl (strs (zaT (data.take d)++l)) (.own (H.length+1))) (List.take_of_length_le (Nat.le_of_eq (List.length_map _))),fun j hj hji=>?_,rfl⟩⟩
     ·simp[zmm,AV.sc,AV.scV,AV.scA,AV.scB]
     ·by_cases hjd:j=d
      ·subst hjd;rw[hD];exact⟨by omega,by omega,by omega,by omega,hup,hck⟩
      ·exact hok j hj (by omega)
  ·obtain rfl:d=data.length:=by omega
   rw[List.take_length]at *
   have hdn:(zbz data).length=data.length:=by simp[zbz]
   have hcn':=hcn data.length
   rw[List.take_length]at hcn'
   simp[zfP]
   refine zxf _ (by omega) _ _ ?_
   cases hr:zcp (zbz data) with
   | true=>
    simp
    refine hT _ ?_ _
    simp
    intro h
    have:=zqc h.names
    rw[hr]at this;cases this
   | false=>
    simp
    refine zxf _ (by omega) _ _ ?_
    refine hT _ ?_ _
    simp only[zcp,Bool.not_eq_false',decide_eq_true_eq,Bool.not_not]at hr ⊢
    exact⟨fun h=>⟨by omega,fun j hj=>hok j hj hj,hr,h⟩,fun h=>h.cons⟩
mutual
theorem zFJ:∀ v w:VT,v.same w=true↔v=w
 | .mk k n ks,.mk k' n' ks'=>by
  have h:=zxq ks ks'
  simp only[VT.same,Bool.and_eq_true,beq_iff_eq,VT.mk.injEq,h,and_assoc]
theorem zxq:∀ v w:List VT,VT.sameL v w=true↔v=w
 | v::vs,w::ws=>by
  have h1:=zFJ v w
  have h2:=zxq vs ws
  simp only[VT.sameL,Bool.and_eq_true,List.cons.injEq,h1,h2]
 | [],[]=>by simp[VT.sameL]
 | [],_::_=>by simp[VT.sameL]
 | _::_,[]=>by simp[VT.sameL]
end
theorem zkj {α:Type} (l:List α) (d n:Nat):(l.take d)[n]?=if n<d then l[n]? else none:=by
 by_cases h:n<d
 ·rw[if_pos h,List.getElem?_take_of_lt h]
 ·rw[if_neg h,List.getElem?_eq_none (by rw[List.length_take];omega)]
theorem zFR {data:List Dat} {d:Nat} {vars k n:Int} {len:Nat} (h:(k == 5 && n == (d:Int))=false):zbb (data.take (d+1)) vars k n len=zbb (data.take d) vars k n len:=by
 unfold zbb
 by_cases h5:k=5
 ·subst h5
  have hn:n≠d:=by simpa using h
  simp only[zkj]
  by_cases h0:0≤n
  ·have:(n.toNat<d+1)=(n.toNat<d):=by
    apply propext;omega
   simp[this]
  ·simp[h0]
 ·have:(k == 5)=false:=by simpa using h5
  simp[this]
mutual
theorem zyf (data:List Dat) (d:Nat) (vars:Int):∀ t:VT,zcv d t=false→za1 (data.take (d+1)) vars t=za1 (data.take d) vars t
 | .mk k n ks=>by
  intro h
  simp only[zcv,Bool.or_eq_false_iff]at h
  rw[za1,za1,zFR h.1,zyc data d vars ks h.2]
theorem zyc (data:List Dat) (d:Nat) (vars:Int):∀ l:List VT,zeO d l=false→zbc (data.take (d+1)) vars l=zbc (data.take d) vars l
 | []=>fun _=>rfl
 | t::ts=>by
  intro h
  simp only[zeO,Bool.or_eq_false_iff]at h
  rw[zbc,zbc,zyf data d vars t h.1,zyc data d vars ts h.2]
end
mutual
theorem zwp (data:List Dat) (d:Nat) (vars:Int):∀ t:VT,za1 (data.take d) vars t=true→zcv d t=false
 | .mk k n ks=>by
  intro h
  rw[za1,Bool.and_eq_true]at h
  rw[zcv,zwo data d vars ks h.2,Bool.or_false]
  by_cases h5:k=5
  ·subst h5
   have h1:=h.1
   simp[zbb,zkj]at h1
   obtain⟨h0,h2⟩:=h1
   by_cases hn:n=d
   ·subst hn
    simp at h2
   ·simpa using hn
  ·have:(k == 5)=false:=by simpa using h5
   simp[this]
theorem zwo (data:List Dat) (d:Nat) (vars:Int):∀ l:List VT,zbc (data.take d) vars l=true→zeO d l=false
 | []=>fun _=>rfl
 | t::ts=>by
  intro h
  rw[zbc,Bool.and_eq_true]at h
  rw[zeO,zwp data d vars t h.1,zwo data d vars ts h.2];rfl
end
theorem zxt (data:List Dat) (vars:Int):∀ (l:List VT) (i:Nat),zcL l i=true→((i+l.length:Nat):Int)≤vars→zbc data vars l=true∧VT.nodesL l=l.length
 | [],i,_,_=>⟨rfl,rfl⟩
 | .mk k n ks::l,i,h,hv=>by
  rw[zcL,Bool.and_eq_true]at h
  obtain⟨h1,h2⟩:=h
  simp only[zhr,Bool.and_eq_true,beq_iff_eq]at h1
  obtain⟨⟨rfl,rfl⟩,h3⟩:=h1
  have hk:ks=[]:=List.eq_nil_of_length_eq_zero h3
  subst hk
  obtain⟨h4,h5⟩:=zxt data vars l (i+1) h2 (by simp at hv ⊢;omega)
  simp at hv
  constructor
  ·simp[zbc,za1,zbb,h4]
   omega
  ·simp[VT.nodesL,VT.nodes,h5];omega
theorem zu7 (data:List Dat) (d:Nat) (hd:d<data.length) (h0:0≤(data[d]).vars) (h6:(data[d]).vars≤6) (t:VT):zdW data d (data[d]).vars t=zen data d (data[d]).vars t:=by
 unfold zdW zen
 cases hs:zbP d (data[d]).vars t with
 | true=>
  obtain⟨k,n,ks⟩:=t
  simp only[zbP,Bool.and_eq_true,beq_iff_eq]at hs
  obtain⟨⟨⟨rfl,rfl⟩,hl⟩,hs⟩:=hs
  obtain⟨h1,h2⟩:=zxt (data.take (d+1)) (data[d]).vars ks 0 hs (by simp;omega)
  have hty:zaR (data.take (d+1)) (data[d]).vars (.mk 5 d ks)=true:=by
   simp[zaR,za1,h1,VT.nodes,h2,zbb,zkj,hd,hl]
   omega
  simp[hty]
 | false=>
  simp only[Bool.false_or]
  unfold zaR
  cases hm:zcv d t with
  | false=>rw[zyf data d _ t hm];simp
  | true=>
   have:za1 (data.take d) (data[d]).vars t=false:=by
    cases h:za1 (data.take d) (data[d]).vars t with
    | false=>rfl
    | true=>rw[zwp data d _ t h]at hm;cases hm
   simp[this]
theorem zoD (data:List Dat):∀ (l:List Dat) (d:Nat),zcV data l d=true↔∀ j (h:j<l.length),zcJ data (d+j) l[j]=true
 | [],d=>by simp[zcV]
 | D::l,d=>by
  rw[zcV,Bool.and_eq_true,zoD data l (d+1)]
  constructor
  ·rintro⟨h1,h2⟩ j hj
   cases j with
   | zero=>exact h1
   | succ j=>
    have:=h2 j (by simpa using hj)
    rw[show d+(j+1)=d+1+j by omega]
    simpa using this
  ·intro h
   refine⟨h 0 (by simp),fun j hj=>?_⟩
   have:=h (j+1) (by simpa using hj)
   rw[show d+(j+1)=d+1+j by omega]at this
   simpa using this
theorem zvB (data:List Dat):zbe data=true↔RData data:=by
 unfold zbe
 simp only[Bool.and_eq_true,decide_eq_true_eq,zoD,zcp,Bool.not_not,Nat.zero_add]
 constructor
 ·rintro⟨⟨⟨h1,h2⟩,h3⟩,h4⟩
  refine⟨h1,fun d hd=>?_,h3,h4⟩
  have:=h2 d hd
  simp only[zcJ,Bool.and_eq_true,decide_eq_true_eq,List.all_eq_true]at this
  obtain⟨⟨⟨⟨⟨q1,q2⟩,q3⟩,q4⟩,q5⟩,q6⟩:=this
  refine⟨q2,q3,q4,q5,q1,fun c hc=>?_⟩
  have:=q6 c hc
  simp only[zdt,Bool.and_eq_true,decide_eq_true_eq,List.all_eq_true]at this
  exact⟨this.1,this.2.1,fun x hx=>by rw[←zu7 data d hd q2 q3 x];exact this.2.2 x hx⟩
 ·rintro⟨h1,h2,h3,h4⟩
  refine⟨⟨⟨h1,fun d hd=>?_⟩,h3⟩,h4⟩
  obtain⟨q2,q3,q4,q5,q1,q6⟩:=h2 d hd
  simp only[zcJ,Bool.and_eq_true,decide_eq_true_eq,List.all_eq_true]
  refine⟨⟨⟨⟨⟨q1,q2⟩,q3⟩,q4⟩,q5⟩,fun c hc=>?_⟩
  obtain⟨r1,r2,r3⟩:=q6 c hc
  simp only[zdt,Bool.and_eq_true,decide_eq_true_eq,List.all_eq_true]
  exact⟨r1,r2,fun x hx=>by rw[zu7 data d hd q2 q3 x];exact r3 x hx⟩
mutual
def zav (data:List Dat):VT→VT→Bool
 | .mk vk vn vks,.mk k n al=>
  if k=1 then vk == 3 && decide (-1099511627776≤vn) && decide (vn≤1099511627776) && vks.length == 0
  else if k=2 then vk == 2 && (vn == 0 || vn == 1) && vks.length == 0
  else if k=3 then vk == 1 && vn == 0 && vks.length == 0
  else if k=6 then vk == 4 && vn == 0 && zbI data vks al
  else if k=5 then vk == 5 && decide (0≤vn) && decide (vn<8) && zeH data vks (zaU data (.mk k n al) vn)
  else if k=7 then vk == 6 && vn == 0 && decide (vks.length≤4096) && zcK data vks (al.getD 0 (.mk 0 0 []))
  else if k=8 then vk == 7 && vn == 0 && zbI data vks al
  else vk == 8 && decide (0≤vn) && decide (vn<64) && vks.length == 0
def zeH (data:List Dat):List VT→Option (List VT)→Bool
 | _,none=>false
 | [],some ts=>ts.isEmpty
 | v::vs,some ts=>match ts with
  | []=>false
  | t::ts=>zav data v t && zbI data vs ts
def zbI (data:List Dat):List VT→List VT→Bool
 | [],ts=>ts.isEmpty
 | v::vs,ts=>match ts with
  | []=>false
  | t::ts=>zav data v t && zbI data vs ts
def zcK (data:List Dat):List VT→VT→Bool
 | [],_=>true
 | v::vs,t=>zav data v t && zcK data vs t
end
theorem zhn (data:List Dat) (vs ts:List VT):zeH data vs (some ts)=zbI data vs ts:=by
 cases vs with
 | nil=>cases ts <;> rw[zeH,zbI]
 | cons v vs=>cases ts <;> simp only[zeH,zbI]
theorem zi3 (data:List Dat) (vs:List VT):zeH data vs none=false:=by cases vs <;> rw[zeH]
theorem zho {data:List Dat}:∀ {vs ts:List VT},zbI data vs ts=true→vs.length=ts.length
 | [],ts,h=>by rw[zbI]at h;cases ts <;> simp at h ⊢
 | v::vs,[],h=>by simp[zbI]at h
 | v::vs,t::ts,h=>by
  simp only[zbI,Bool.and_eq_true]at h
  simp[zho h.2]
theorem zge {data:List Dat}:∀ {vs ts:List VT},zbI data vs ts=true→∀ (i:Nat) (h1:i<vs.length) (h2:i<ts.length),zav data vs[i] ts[i]=true
 | [],ts,h=>by intro i h1;simp at h1
 | v::vs,[],h=>by simp[zbI]at h
 | v::vs,t::ts,h=>by
  simp only[zbI,Bool.and_eq_true]at h
  intro i h1 h2
  cases i with
  | zero=>exact h.1
  | succ i=>exact zge h.2 i (by simpa using h1) (by simpa using h2)
theorem zFS {data:List Dat} {m:Nat} {vars k n:Int} {len:Nat} (h:zbb (data.take m) vars k n len=true) (h4:k≠4):zbb data 0 k n len=true:=by
 unfold zbb at h ⊢
 have h4':(k == 4)=false:=by simpa using h4
 rw[h4']at h ⊢
 by_cases h5:k=5
 ·subst h5
  simp only[zkj]at h
  by_cases hm:n.toNat<m
  ·simpa[hm]using h
  ·simp[hm]at h
 ·have:(k == 5)=false:=by simpa using h5
  simpa[this]using h
theorem zxO (ks:List VT):∀ l:List VT,(zaQ ks l).length=l.length
 | []=>rfl
 | t::ts=>by simp[zaQ,zxO ks ts]
mutual
theorem zyg {data:List Dat} {m:Nat} {vars:Int} {ks:List VT} (hk:∀ x∈ks,za1 data 0 x=true) (hl:(ks.length:Int)=vars):∀ a:VT,za1 (data.take m) vars a=true→za1 data 0 (subst ks a)=true
 | .mk k n al=>by
  intro h
  rw[za1,Bool.and_eq_true]at h
  unfold subst
  by_cases h4:k=4
  ·have h1:=h.1
   subst h4
   simp[zbb]at h1
   rw[if_pos ⟨rfl,by omega,by omega⟩]
   have hn:n.toNat<ks.length:=by omega
   rw[List.getElem?_eq_getElem hn]
   exact hk _ (List.getElem_mem hn)
  ·rw[if_neg (fun h=>h4 h.1),za1,Bool.and_eq_true,zxO]
   exact⟨zFS h.1 h4,zyd hk hl al h.2⟩
theorem zyd {data:List Dat} {m:Nat} {vars:Int} {ks:List VT} (hk:∀ x∈ks,za1 data 0 x=true) (hl:(ks.length:Int)=vars):∀ l:List VT,zbc (data.take m) vars l=true→zbc data 0 (zaQ ks l)=true
 | []=>by intro _;simp[zaQ,zbc]
 | t::ts=>by
  intro h
  rw[zbc,Bool.and_eq_true]at h
  rw[zaQ,zbc,Bool.and_eq_true]
  exact⟨zyg hk hl t h.1,zyd hk hl ts h.2⟩
end
theorem zyb {data:List Dat} {vars:Int}:∀ {l:List VT},zbc data vars l=true→∀ x∈l,za1 data vars x=true
 | [],_=>by simp
 | t::ts,h=>by
  rw[zbc,Bool.and_eq_true]at h
  intro x hx
  rcases List.mem_cons.1 hx with rfl | hx
  ·exact h.1
  ·exact zyb h.2 x hx
theorem zye {data:List Dat} {vars:Int} {k n:Int} {ks:List VT} (h:za1 data vars (.mk k n ks)=true):∀ x∈ks,za1 data vars x=true:=by
 rw[za1,Bool.and_eq_true]at h
 exact zyb h.2
theorem zko {data:List Dat} {vars:Int} {k n:Int} {ks:List VT} (h:zaR data vars (.mk k n ks)=true):∀ x∈ks,zaR data vars x=true:=by
 rw[zaR,Bool.and_eq_true,decide_eq_true_eq]at h
 intro x hx
 rw[zaR,Bool.and_eq_true,decide_eq_true_eq]
 exact⟨Nat.le_trans (zgg x hx) h.1,zye h.2 x hx⟩
theorem zDQ {data:List Dat} (hD:zbe data=true) {d c:Nat} (hd:d<data.length) (hc:c<data[d].cons.length):∀ x∈(data[d].cons[c]).args,za1 (data.take (d+1)) data[d].vars x=true:=by
 simp only[zbe,Bool.and_eq_true,zoD,Nat.zero_add]at hD
 have h1:=hD.1.1.2 d hd
 simp only[zcJ,Bool.and_eq_true]at h1
 have h2:=List.all_eq_true.1 h1.2 _ (List.getElem_mem hc)
 simp only[zdt,Bool.and_eq_true]at h2
 intro x hx
 have h3:=List.all_eq_true.1 h2.2.2 x hx
 simp only[zdW,zaR,Bool.and_eq_true]at h3
 exact h3.1.2
theorem zf9 {data:List Dat} {k n:Int} {ks:List VT} {c:Int} {l:List VT} (h:zaU data (.mk k n ks) c=some l) :
  k=5∧0≤n∧0≤c∧∃ (hn:n.toNat<data.length) (hc:c.toNat<(data[n.toNat]).cons.length),(ks.length:Int)=(data[n.toNat]).vars∧l=((data[n.toNat]).cons[c.toNat]).args.map (subst ks)∧∀ x∈l,x.nodes≤200:=by
 rw[zc8]at h
 split at h
 ·rename_i h5
  split at h
  ·rename_i D hD
   obtain⟨hn,rfl⟩:=List.getElem?_eq_some_iff.1 hD
   split at h
   ·rename_i hv
    split at h
    ·rename_i C hC
     obtain⟨hc,rfl⟩:=List.getElem?_eq_some_iff.1 hC
     split at h
     ·rename_i ha
      simp only[Option.some.injEq]at h
      subst h
      exact⟨h5.1,h5.2.1,h5.2.2,hn,hc,hv,rfl,fun x hx=>of_decide_eq_true (List.all_eq_true.1 ha x hx)⟩
     ·cases h
    ·cases h
   ·cases h
  ·cases h
 ·cases h
theorem zga {data:List Dat} (hD:zbe data=true) {t:VT} (ht:za1 data 0 t=true) {c:Int} {l:List VT} (h:zaU data t c=some l):∀ x∈l,zaR data 0 x=true:=by
 obtain⟨k,n,ks⟩:=t
 obtain⟨rfl,h0,hc0,hn,hc,hv,rfl,hsz⟩:=zf9 h
 intro x hx
 rw[zaR,Bool.and_eq_true,decide_eq_true_eq]
 refine⟨hsz x hx,?_⟩
 obtain⟨a,ha,rfl⟩:=List.mem_map.1 hx
 exact zyg (zye ht) hv a (zDQ hD hn hc a ha)
theorem zxu {ks:List VT}:∀ (l:List VT) (i:Nat),zcL l i=true→i+l.length=ks.length→zaQ ks l=ks.drop i
 | [],i,_,hl=>by simp at hl;subst hl;simp[zaQ]
 | x::l,i,h,hl=>by
  rw[zcL,Bool.and_eq_true]at h
  obtain⟨k,n,al⟩:=x
  simp only[zhr,Bool.and_eq_true,beq_iff_eq]at h
  obtain⟨⟨⟨rfl,rfl⟩,h3⟩,h4⟩:=h
  simp at hl
  have hi:i<ks.length:=by omega
  rw[List.drop_eq_getElem_cons hi,zaQ,zxu l (i+1) h4 (by omega)]
  rw[subst,if_pos ⟨rfl,by omega,by omega⟩]
  simp[hi]
theorem zxv {ks:List VT} {d vars:Int} {a:VT} (h:zbP d vars a=true) (hl:(ks.length:Int)=vars):subst ks a=.mk 5 d ks:=by
 obtain⟨k,n,al⟩:=a
 simp only[zbP,Bool.and_eq_true,beq_iff_eq]at h
 obtain⟨⟨⟨rfl,rfl⟩,h3⟩,h4⟩:=h
 rw[subst,if_neg (fun h=>by have:=h.1;omega)]
 have:=zxu (ks:=ks) al 0 h4 (by omega)
 rw[this,List.drop_zero]
def zbV (d:Nat) (D:Dat) (C:Con):List Bool:=C.args.map (zbP d D.vars)
def zbm (data:List Dat) (d:Nat):List (List Bool):=match data[d]? with
 | some D=>D.cons.map (zbV d D)
 | none=>[]
mutual
def zbq (rs:List (List Bool)):VT→List VT
 | .mk k n ks=>.mk k n ks::zbT rs ks (rs.getD n.toNat [])
def zbT (rs:List (List Bool)):List VT→List Bool→List VT
 | [],_=>[]
 | v::vs,bs=>match bs with
  | []=>[]
  | b::bs=>(if b=true then zbq rs v else [])++zbT rs vs bs
end
mutual
theorem zj5 (rs:List (List Bool)):∀ v:VT,(zbq rs v).length≤v.nodes
 | .mk k n ks=>by
  have:=zp5 rs ks (rs.getD n.toNat [])
  simp only[zbq,VT.nodes,List.length_cons]
  omega
theorem zp5 (rs:List (List Bool)):∀ (vs:List VT) (bs:List Bool),(zbT rs vs bs).length≤VT.nodesL vs
 | [],_=>by simp[zbT,VT.nodesL]
 | v::vs,[]=>by simp[zbT]
 | v::vs,b::bs=>by
  have h1:=zj5 rs v
  have h2:=zp5 rs vs bs
  simp only[zbT,VT.nodesL,List.length_append]
  split
  ·omega
  ·simp;omega
end
theorem zfk {data:List Dat} {n:Int} {al:List VT} {vk vn:Int} {vks:List VT} (h:zav data (.mk vk vn vks) (.mk 5 n al)=true) :
  vk=5∧0≤n∧0≤vn∧vn<8∧∃ (hn:n.toNat<data.length) (hc:vn.toNat<(data[n.toNat]).cons.length),vks.length=((data[n.toNat]).cons[vn.toNat]).args.length∧(al.length:Int)=(data[n.toNat]).vars ∧
   (zbm data n.toNat).getD vn.toNat []=zbV n.toNat data[n.toNat] (data[n.toNat]).cons[vn.toNat]∧(zbm data n.toNat).length=(data[n.toNat]).cons.length ∧
   ∀ (i:Nat) (hi:i<vks.length) (h2:i<((data[n.toNat]).cons[vn.toNat]).args.length),zbP n.toNat (data[n.toNat]).vars ((data[n.toNat]).cons[vn.toNat]).args[i]=true→zav data vks[i] (.mk 5 n al)=true:=by
 simp only[zav]at h
 simp at h
 obtain⟨⟨⟨h1,h2⟩,h3⟩,h4⟩:=h
 cases hf:zaU data (.mk 5 n al) vn with
 | none=>rw[hf,zi3]at h4;cases h4
 | some l=>
  rw[hf,zhn]at h4
  obtain⟨_,k1,k2,hn,hc,hv,rfl,_⟩:=zf9 hf
  have hlen:=zho h4
  simp at hlen
  refine⟨h1,k1,h2,h3,hn,hc,hlen,hv,?_,?_,?_⟩
  ·simp[zbm,List.getElem?_eq_getElem hn,hc,List.getD_eq_getElem?_getD]
  ·simp[zbm,List.getElem?_eq_getElem hn]
  ·intro i hi hi2 hself
   have:=zge h4 i hi (by simpa using hi2)
   rw[List.getElem_map,zxv hself (by simpa using hv)]at this
   rwa [show ((n.toNat:Nat):Int)=n by omega]at this
end Go.Proofs.YtjkkonpjecoieaaGreat
namespace Go.Proofs.YtjkkonpjecoieaaGreat
open Go Go.Abs
def pick:List VT→List Bool→List VT
 | x::l,b::bs=>if b then pick l bs else x::pick l bs
 | _,_=>[]
def za8 (data:List Dat) (t:VT) (c:Int):Option (List VT):=(zaU data t c).map fun l=>pick l ((zbm data t.num.toNat).getD c.toNat [])
mutual
def zco (data:List Dat):IT→VT→Int × Bool
 | .mk n ks,t=>
  if t.kind=6 then (if n=0 then (if t.kids.length=ks.length then zbS data ks t.kids 0 else (0,false)) else (0,false))
  else if t.kind=7 then (n,decide (0≤n) && decide (n≤6) && decide (ks.length=0))
  else if t.kind=5 then (if n=0 then zcM data ks t 0 else (0,false))
  else (0,decide (n=0) && decide (ks.length=0))
def zbS (data:List Dat):List IT→List VT→Int→Int × Bool
 | [],_,a=>(a,decide (a≤6))
 | v::vs,ts,a=>match ts with
  | t::ts=>if (zco data v t).2 then zbS data vs ts (a+(zco data v t).1) else (0,false)
  | []=>(0,false)
def zcM (data:List Dat):List IT→VT→Int→Int × Bool
 | [],_,a=>(a,true)
 | .mk c ks::es,t,a=>match za8 data t c with
  | none=>(0,false)
  | some ps=>if ps.length=ks.length then
    (if (zbS data ks ps 0).2 && decide (a+(1+(zbS data ks ps 0).1)≤6) then zcM data es t (a+(1+(zbS data ks ps 0).1)) else (0,false))
   else (0,false)
end
mutual
def rdV (data:List Dat):IT→VT→Int
 | .mk n ks,t=>
  if t.kind=6 then (if n=0 then (if t.kids.length=ks.length then rdA data ks t.kids 0 else -1) else -1)
  else if t.kind=7 then (if 0≤n∧n≤6∧ks.length=0 then n else -1)
  else if t.kind=5 then (if n=0∧ks.length≤6 then rdE data ks t 0 else -1)
  else (if n=0∧ks.length=0 then 0 else -1)
def rdA (data:List Dat):List IT→List VT→Int→Int
 | [],_,a=>a
 | v::vs,ts,a=>match ts with
  | t::ts=>if rdV data v t<0∨a+rdV data v t>6 then -1 else rdA data vs ts (a+rdV data v t)
  | []=>-1
def rdE (data:List Dat):List IT→VT→Int→Int
 | [],_,a=>a
 | .mk c ks::es,t,a=>if c<0∨8≤c then -1 else match za8 data t c with
  | none=>-1
  | some ps=>if ps.length=ks.length then
    (if rdA data ks ps 0<0∨a+1+rdA data ks ps 0>6 then -1 else rdE data es t (a+(1+rdA data ks ps 0)))
   else -1
end
theorem zE8 {data:List Dat} (h8:∀ D∈data,D.cons.length≤8) {t:VT} {c:Int} {ps:List VT} (h:za8 data t c=some ps):0≤c∧c<8:=by
 unfold za8 at h
 cases hf:zaU data t c with
 | none=>rw[hf]at h;cases h
 | some l=>
  obtain⟨_,k1,k2,hn,hc,_⟩:=zf9 hf
  have:=h8 _ (List.getElem_mem hn)
  omega
def agr (m:Int × Bool) (r:Int):Prop:=(m.2=true→m.1=r∧0≤r∧r≤6)∧(m.2=false→r=-1)
theorem zeg:agr (0,false) (-1):=⟨fun h=>(by cases h),fun _=>rfl⟩
mutual
theorem zg0 {data:List Dat} (h8:∀ D∈data,D.cons.length≤8):∀ (v:IT) (t:VT),agr (zco data v t) (rdV data v t)
 | .mk n ks,t=>by
  have hA:=(ziP h8 ks t.kids 0 (by omega)).1 (by omega)
  have hE:=zof h8 ks t 0 (by omega) (by omega)
  unfold zco rdV
  split
  ·split
   ·split
    ·exact hA
    ·exact zeg
   ·exact zeg
  ·split
   ·refine⟨fun h=>?_,fun h=>?_⟩
    ·simp at h
     rw[if_pos ⟨h.1.1,h.1.2,by simpa using h.2⟩]
     exact⟨rfl,h.1.1,h.1.2⟩
    ·rw[if_neg]
     rintro⟨h1,h2,h3⟩
     simp[h1,h2,h3]at h
   ·split
    ·by_cases hn:n=0
     ·simp only[hn,if_true,true_and]
      by_cases hl:ks.length≤6
      ·rw[if_pos hl];exact hE.1
      ·rw[if_neg hl]
       refine⟨fun h=>?_,fun _=>rfl⟩
       have:=hE.2 h
       omega
     ·simp only[hn,if_false,false_and]
      exact zeg
    ·refine⟨fun h=>?_,fun h=>?_⟩
     ·simp at h
      simp[h]
     ·rw[if_neg]
      rintro⟨h1,h2⟩
      simp[h1,h2]at h
theorem ziP {data:List Dat} (h8:∀ D∈data,D.cons.length≤8):∀ (vs:List IT) (ts:List VT) (a:Int),0≤a→(a≤6→agr (zbS data vs ts a) (rdA data vs ts a))∧(6<a→(zbS data vs ts a).2=false)
 | [],ts,a,ha=>by
  simp only[zbS,rdA]
  exact⟨fun h=>⟨fun _=>⟨rfl,ha,h⟩,fun h2=>by simp at h2;omega⟩,fun h=>by simp;omega⟩
 | v::vs,ts,a,ha=>by
  match ts with
  | []=>simp only[zbS,rdA];exact⟨fun _=>zeg,fun _=>by trivial⟩
  | t::ts=>
   obtain⟨g1,g2⟩:=zg0 h8 v t
   simp only[zbS,rdA]
   cases hb:(zco data v t).2 with
   | false=>
    rw[g2 hb]
    simp
    exact fun _=>zeg
   | true=>
    obtain⟨e1,e2,e3⟩:=g1 hb
    rw[e1]
    have hn:=ziP h8 vs ts (a+rdV data v t) (by omega)
    simp only[if_true]
    refine⟨fun h=>?_,fun h=>hn.2 (by omega)⟩
    by_cases h6:a+rdV data v t>6
    ·rw[if_pos (.inr h6)]
     exact⟨fun h=>(by rw[hn.2 (by omega)]at h;cases h),fun _=>rfl⟩
    ·rw[if_neg (by omega)]
     exact hn.1 (by omega)
theorem zof {data:List Dat} (h8:∀ D∈data,D.cons.length≤8):∀ (es:List IT) (t:VT) (a:Int),0≤a→a≤6→agr (zcM data es t a) (rdE data es t a)∧((zcM data es t a).2=true→a+es.length≤6)
 | [],t,a,h0,h6=>by
  simp only[zcM,rdE]
  exact⟨⟨fun _=>⟨rfl,h0,h6⟩,fun h=>by cases h⟩,fun _=>by simpa using h6⟩
 | .mk c ks::es,t,a,h0,h6=>by
  simp only[zcM,rdE]
  cases hp:za8 data t c with
  | none=>simp only[ite_self];exact⟨zeg,fun h=>by cases h⟩
  | some ps=>
   obtain⟨c0,c8⟩:=zE8 h8 hp
   rw[if_neg (show ¬(c<0∨8≤c) by omega)]
   simp only
   by_cases hl:ps.length=ks.length
   ·simp only[hl,if_true]
    obtain⟨g1,g2⟩:=(ziP h8 ks ps 0 (by omega)).1 (by omega)
    cases hb:(zbS data ks ps 0).2 with
    | false=>
     rw[g2 hb]
     simp
     exact zeg
    | true=>
     obtain⟨e1,e2,e3⟩:=g1 hb
     rw[e1]
     by_cases hh:a+(1+rdA data ks ps 0)≤6
     ·have hn:=zof h8 es t (a+(1+rdA data ks ps 0)) (by omega) hh
      rw[if_neg (show ¬(rdA data ks ps 0<0∨a+1+rdA data ks ps 0>6) by omega)]
      simp only[hh,decide_true,Bool.and_self,if_true]
      refine⟨hn.1,fun h=>?_⟩
      have:=hn.2 h
      simp only[List.length_cons]
      omega
     ·rw[if_pos (show rdA data ks ps 0<0∨a+1+rdA data ks ps 0>6 by omega)]
      simp[hh]
      exact zeg
   ·simp only[hl,if_false]
    exact⟨zeg,fun h=>by cases h⟩
end
end Go.Proofs.YtjkkonpjecoieaaGreat
namespace Go.Abs
open Go
def fill:List IT→List Nat→List IT→List IT
 | row,p::ps,x::xs=>fill (row.set p x) ps xs
 | row,_,_=>row
@[simp] theorem zWS (row xs:List IT):fill row [] xs=row:=by cases xs <;> rfl
@[simp] theorem zgb:∀ (row:List IT) (ps:List Nat) (xs:List IT),(fill row ps xs).length=row.length
 | row,p::ps,x::xs=>by rw[fill,zgb];simp
 | row,[],_=>by simp[fill]
 | row,_::_,[]=>by simp[fill]
theorem zgc:∀ (ps:List Nat) (row xs:List IT) (q:Nat),q ∉ ps→(fill row ps xs)[q]?=row[q]?
 | [],row,xs,q,_=>by simp
 | p::ps,row,[],q,_=>by simp[fill]
 | p::ps,row,x::xs,q,h=>by
  simp only[List.mem_cons,not_or]at h
  rw[fill,zgc ps _ _ _ h.2,List.getElem?_set_ne (fun e=>h.1 e.symm)]
theorem zoG:∀ (ps:List Nat) (row xs:List IT),ps.Nodup→xs.length=ps.length→(∀ p∈ps,p<row.length)→∀ (k:Nat) (hk:k<ps.length) (hx:k<xs.length),(fill row ps xs)[ps[k]]?=some xs[k]
 | [],row,xs,_,_,_,k,hk,_=>by simp at hk
 | p::ps,row,[],_,hl,_,k,_,hx=>by simp at hx
 | p::ps,row,x::xs,h,hl,hp,k,hk,hx=>by
  rw[List.nodup_cons]at h
  rw[fill]
  cases k with
  | zero=>
   simp only[List.getElem_cons_zero]
   rw[zgc ps _ _ _ h.1,List.getElem?_set_self (hp p (by simp))]
  | succ k=>
   simp only[List.getElem_cons_succ]
   exact zoG ps _ xs h.2 (by simpa using hl) (fun q hq=>by simpa using hp q (by simp[hq])) k (by simpa using hk) (by simpa using hx)
def zdh:List IT→Nat→List (List (List IT))
 | l,0=>if l.isEmpty then [[]] else []
 | l,n+1=>(List.range (l.length+1)).flatMap fun k=>(zdh (l.drop k) n).map fun r=>l.take k::r
def zbo:List IT→List Nat→List IT→List (List IT)
 | row,[],l=>if l.isEmpty then [row] else []
 | row,p::ps,l=>(List.range (l.length+1)).flatMap fun n=>zbo (row.set p (.mk 0 (l.take n))) ps (l.drop n)
theorem zhe:∀ (ps:List Nat) (row l:List IT),zbo row ps l=(zdh l ps.length).map fun r=>fill row ps (r.map (IT.mk 0))
 | [],row,l=>by
  simp only[zbo,List.length_nil,zdh]
  split <;> simp
 | p::ps,row,l=>by
  simp only[zbo,List.length_cons,zdh,List.map_flatMap,List.map_map]
  congr 1
  funext n
  rw[zhe]
  rfl
theorem zqm:∀ (n:Nat) (l:List IT),∀ r∈zdh l n,r.length=n
 | 0,l,r,h=>by
  simp only[zdh]at h
  split at h <;> simp at h
  simp[h]
 | n+1,l,r,h=>by
  simp only[zdh,List.mem_flatMap,List.mem_map]at h
  obtain⟨k,_,r',h2,rfl⟩:=h
  simp[zqm n _ r' h2]
theorem zql:∀ (n:Nat) (l:List IT),∀ r∈zdh l n,r.flatten=l
 | 0,l,r,h=>by
  simp only[zdh]at h
  split at h <;> simp at h
  rename_i h2
  simp at h2
  simp[h,h2]
 | n+1,l,r,h=>by
  simp only[zdh,List.mem_flatMap,List.mem_map]at h
  obtain⟨k,_,r',h2,rfl⟩:=h
  simp[zql n _ r' h2]
theorem zoI {α β:Type} {N:Nat} (f:α→List β):∀ (l:List α),(∀ a∈l,(f a).length≤N)→(l.flatMap f).length≤l.length*N
 | [],_=>by simp
 | a::l,h=>by
  rw[List.flatMap_cons,List.length_append,List.length_cons,Nat.succ_mul]
  have h1:=h a (by simp)
  have h2:=zoI f l (fun b hb=>h b (by simp[hb]))
  omega
theorem zxs:∀ (n:Nat) (l:List IT),(zdh l n).length≤(l.length+1) ^ n
 | 0,l=>by simp only[zdh];split <;> simp
 | n+1,l=>by
  rw[zdh,Nat.pow_succ,Nat.mul_comm]
  refine Nat.le_trans (zoI (N:=(l.length+1) ^ n) _ _ fun k _=>?_) (by simp)
  rw[List.length_map]
  refine Nat.le_trans (zxs n _) (Nat.pow_le_pow_left ?_ _)
  simp
def rle (x y:List IT):Prop:=¬ IT.cmpL y x<0
mutual
theorem IT.same_eq:∀ v w:IT,IT.same v w=true→v=w
 | .mk n ks,.mk n' ks',h=>by
  simp only[IT.same,Bool.and_eq_true,beq_iff_eq]at h
  rw[h.1,IT.sameL_eq ks ks' h.2]
theorem IT.sameL_eq:∀ v w:List IT,IT.sameL v w=true→v=w
 | [],[],_=>rfl
 | v::vs,w::ws,h=>by
  simp only[IT.sameL,Bool.and_eq_true]at h
  rw[IT.same_eq v w h.1,IT.sameL_eq vs ws h.2]
 | [],_::_,h=>by simp[IT.sameL]at h
 | _::_,[],h=>by simp[IT.sameL]at h
end
end Go.Abs
namespace Go.Proofs.YtjkkonpjecoieaaGreat
open Go Go.Abs
variable {data:List Dat}
theorem zqa {h8:∀ D∈data,D.cons.length≤8} (v:IT) (t:VT):-1≤rdV data v t∧rdV data v t≤6:=by
 obtain⟨h1,h2⟩:=zg0 h8 v t
 cases hb:(zco data v t).2 with
 | true=>have:=h1 hb;omega
 | false=>have:=h2 hb;omega
def ad (a r:Int):Int:=if r<0 then -1 else if a+r>6 then -1 else a+r
theorem zfb {a r:Int} (h:0≤r) (h2:a+r≤6):ad a r=a+r:=by unfold ad;rw[if_neg (by omega),if_neg (by omega)]
theorem zc6 {a r:Int} (h:r<0∨a+r>6):ad a r=-1:=by
 unfold ad
 by_cases h1:r<0
 ·rw[if_pos h1]
 ·rw[if_neg h1,if_pos (by omega)]
theorem zDg {a b r:Int} (hb:0≤b) (ha:0≤a):ad (a+b) r=ad a (ad b r):=by
 by_cases h1:r<0∨b+r>6
 ·rw[zc6 (a:=b) h1,zc6 (a:=a) (.inl (by omega)),zc6 (by omega)]
 ·rw[zfb (a:=b) (by omega) (by omega)]
  by_cases h2:a+(b+r)>6
  ·rw[zc6 (.inr h2),zc6 (.inr (by omega))]
  ·rw[zfb (by omega) (by omega),zfb (by omega) (by omega),Int.add_assoc]
theorem zxa (v:IT) (vs:List IT) (t:VT) (ts:List VT) (a:Int):rdA data (v::vs) (t::ts) a=if rdV data v t<0∨a+rdV data v t>6 then -1 else rdA data vs ts (a+rdV data v t):=by simp only[rdA]
theorem zd3 (c:Int) (ks es:List IT) (t:VT) (a:Int):rdE data (.mk c ks::es) t a=if c<0∨8≤c then -1 else match za8 data t c with
  | none=>-1
  | some ps=>if ps.length=ks.length then (if rdA data ks ps 0<0∨a+1+rdA data ks ps 0>6 then -1 else rdE data es t (a+(1+rdA data ks ps 0))) else -1:=by simp only[rdE] <;> rfl
theorem zh1:∀ (es:List IT) (t:VT) (a:Int),0≤a→rdE data es t a=-1∨a+es.length≤rdE data es t a
 | [],_,a,h=>by simp[rdE]
 | .mk c ks::es,t,a,h=>by
  rw[zd3]
  by_cases hc:c<0∨8≤c
  ·rw[if_pos hc];exact .inl rfl
  ·rw[if_neg hc]
   cases za8 data t c with
   | none=>exact .inl rfl
   | some ps=>
    simp only
    by_cases hl:ps.length=ks.length
    ·rw[if_pos hl]
     by_cases h0:rdA data ks ps 0<0∨a+1+rdA data ks ps 0>6
     ·rw[if_pos h0];exact .inl rfl
     ·rw[if_neg h0]
      rcases zh1 es t (a+(1+rdA data ks ps 0)) (by omega) with h2 | h2
      ·exact .inl h2
      ·right;simp only[List.length_cons];omega
    ·rw[if_neg hl];exact .inl rfl
theorem zj7:∀ (es:List IT) (t:VT) (a:Int),0≤a→a≤6→rdE data es t a=ad a (rdE data es t 0)
 | [],_,a,h,h6=>by simp only[rdE];rw[zfb (by omega) (by omega),Int.add_zero]
 | .mk c ks::es,t,a,h,h6=>by
  rw[zd3,zd3]
  by_cases hc:c<0∨8≤c
  ·rw[if_pos hc,if_pos hc,zc6 (.inl (by omega))]
  ·rw[if_neg hc,if_neg hc]
   cases za8 data t c with
   | none=>exact (zc6 (a:=a) (r:=-1) (.inl (by omega))).symm
   | some ps=>
    simp only
    by_cases hl:ps.length=ks.length
    ·rw[if_pos hl,if_pos hl]
     by_cases h0:rdA data ks ps 0<0∨0+1+rdA data ks ps 0>6
     ·rw[if_pos h0,if_pos (by omega),zc6 (.inl (by omega))]
     ·rw[if_neg h0,zj7 es t (0+(1+rdA data ks ps 0)) (by omega) (by omega),Int.zero_add]
      have g2:=zh1 (data:=data) es t 0 (by omega)
      by_cases h3:a+1+rdA data ks ps 0>6
      ·rw[if_pos (Or.inr h3)]
       generalize rdE data es t 0=r at *
       by_cases h4:r<0∨(1+rdA data ks ps 0)+r>6
       ·rw[zc6 h4,zc6 (.inl (by omega))]
       ·rw[zfb (a:=1+rdA data ks ps 0) (by omega) (by omega),zc6 (.inr (by omega))]
      ·rw[if_neg (by omega),zj7 es t _ (by omega) (by omega),zDg (by omega) h]
    ·rw[if_neg hl,if_neg hl,zc6 (.inl (by omega))]
theorem zxb {h8:∀ D∈data,D.cons.length≤8} (es:List IT) (t:VT):rdE data es t 0≤6:=by
 have h:=(zof h8 es t 0 (by omega) (by omega)).1
 cases hb:(zcM data es t 0).2 with
 | true=>have:=h.1 hb;omega
 | false=>have:=h.2 hb;omega
theorem zp8 (h8:∀ D∈data,D.cons.length≤8):∀ (xs ys:List IT) (t:VT) (a:Int),0≤a→a≤6→rdE data (xs++ys) t a=(if rdE data xs t a<0 then -1 else rdE data ys t (rdE data xs t a))
 | [],ys,t,a,h,_=>by
  rw[List.nil_append,if_neg (by simp only[rdE];omega)]
  simp only[rdE]
 | .mk c ks::es,ys,t,a,h,h6=>by
  rw[List.cons_append,zd3,zd3]
  by_cases hc:c<0∨8≤c
  ·rw[if_pos hc];simp[hc]
  ·rw[if_neg hc]
   simp only[if_neg hc]
   cases za8 data t c with
   | none=>simp
   | some ps=>
    simp only
    by_cases hl:ps.length=ks.length
    ·simp only[if_pos hl]
     by_cases h0:rdA data ks ps 0<0∨a+1+rdA data ks ps 0>6
     ·simp only[if_pos h0];simp
     ·simp only[if_neg h0]
      exact zp8 h8 es ys t _ (by omega) (by omega)
    ·simp only[if_neg hl];simp
end Go.Proofs.YtjkkonpjecoieaaGreat
