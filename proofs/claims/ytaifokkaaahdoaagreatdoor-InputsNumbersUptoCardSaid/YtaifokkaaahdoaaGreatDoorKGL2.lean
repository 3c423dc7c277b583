import Derived.Test.YtaifokkaaahdoaaGreatDoorLA1
import Derived.Test.YtaifokkaaahdoaaGreatDoorKC1
import Derived.Test.YtaifokkaaahdoaaGreatDoorKNum
import Derived.Test.YtaifokkaaahdoaaGreatDoorProg
import Derived.KernelRfl
import Derived.Test.YtaifokkaaahdoaaGreatDoorAbsQ1
import Derived.Lib.AppendStr
import Derived.Lib.UnsafeStr
import Derived.Sort.Grow
import Derived.Deep.Draws
import Derived.Shelf.Strings.OnBuilder
set_option linter.unusedSectionVars false
set_option linter.unusedSimpArgs false
set_option linter.unusedVariables false
set_option maxRecDepth 100000
namespace Go.Proofs.YtaifokkaaahdoaaGreatDoor
theorem zfB{data:List Dat}{vars:Int}{t:VT}(h:zaD data vars t=true):t.nodes≤200:=by simp[zaD]at h;exact h.1
theorem zQs(data:List Dat)(d:Nat)(c:Nat)(hd:d<data.length)(hc:c<(data[d]).cons.length)(hl:data.length≤1000000)(hcl:(data[d]).cons.length≤1000000)(hal:((data[d]).cons[c]).args.length≤1000000)(hb:∀ x∈((data[d]).cons[c]).args,zbw x)(H:zaa)(K:AV→zaa→Prop)(hK:K (.sl (((data[d]).cons[c]).args.map λt=>[.bool (zcb d (data[d]).vars t)]) .none) H):
  ACalls tP zqC [.sl (data.map Dat.cs) .none,.int .i64 d,.int .i64 c] H K:=by
 refine ACalls.out (zQx λhs=>?_);have e1:(data.map Dat.cs)[d]?=some (data[d]).cs:=by simp[hd]
 have e2:((data[d]).cons.map Con.cs)[c]?=some ((data[d]).cons[c]).cs:=by simp[hc]
 generalize hD:data[d]=D at *;generalize hA:D.cons[c]=C at *;have h1:¬(d:Int)<0:=by omega
 have h2:¬(data.length:Int)≤d:=by omega
 have h3:¬(c:Int)<0:=by omega
 have h4:¬(D.cons.length:Int)≤c:=by omega
 simp[zCx,h1,h2,h3,h4,e1,e2,Dat.cs,Con.cs,hd,hD,hc,hA];simp only[za9,Int.toNat_natCast,zpk];refine⟨⟨by omega,by omega,by omega,by omega⟩,?_⟩;refine zQv (Inv:=λq t49 H'=>∃(i:Nat) (bs:List Bool),i≤C.args.length∧q=C.args.length-i∧t49=.int .i64 i∧bs.length=C.args.length∧(∀j (hj:j<i) (h':j<C.args.length),bs[j]?=some (zcb d D.vars C.args[j]))∧H'=H++[.cells (zaH bs)]) C.args.length ?_ ?_
 ·intro _;exact⟨0,_,by omega,by omega,rfl,by simp,by omega,rfl⟩
 ·rintro q t49 H' ⟨i,bs,hi,rfl,rfl,hbl,hbs,rfl⟩ hsc hlen hsF Kb hKb;by_cases hlt:i<C.args.length
  ·obtain⟨k,n,ks,hx⟩:∃ k n ks,C.args[i]=.mk k n ks:=by cases h:C.args[i] with | mk a b c=>exact⟨a,b,c,rfl⟩
   have hnb:=hb _ (ae hlt);rw[hx,zbw]at hnb;have hll:=hnb.1;have inner:∀ b0:Bool,b0=(k == 5 && n == (d:Int) && (ks.length:Int) == D.vars) →
     ztP (.sl (data.map Dat.cs) .none) (.int .i64 d) (.ms H.length 0 C.args.length C.args.length) (.int .i64 i) (.sl (VT.css C.args) .none) (.int .i64 C.args.length) (.int .i64 i) (.sl (VT.css ks) .none) (.int .i64 ks.length) (.int .i64 0)
      (H++[.cells (zaH (bs.set i b0)),.cells [.int .i64 k,.int .i64 n,.sl (VT.css ks) .none]]) (Out H.length K) Kb:=by
    intro b0 hb0;refine zQu (Inv:=λq t80 H'=>∃(j:Nat) (b:Bool),j≤ks.length∧q=ks.length-j∧t80=.int .i64 j∧(b && zcJ (ks.drop j) j)=zcb d D.vars C.args[i]∧H'=H++[.cells (zaH (bs.set i b)),.cells [.int .i64 k,.int .i64 n,.sl (VT.css ks) .none]]) ks.length ?_ ?_
    ·intro _;exact⟨0,b0,by omega,by omega,rfl,by simp[hx,zcb,hb0],rfl⟩
    ·rintro q t80 H' ⟨j,b,hj,rfl,rfl,hob,rfl⟩ hsc1 hlen1 hsF1 Kb1 hKb1;have hsc0:∀ b:Bool,HSc (H++[.cells (zaH (bs.set i b))]):=λb=>hs.snoc (by simp[AB.sc,zgT]);have hsc2:∀ b:Bool,HSc (H++[.cells (zaH (bs.set i b)),.cells [.int .i64 k,.int .i64 n,.sl (VT.css ks) .none]]):=λb=>hs.append (by simp[AB.sc,zgT]);by_cases hjl:j<ks.length
     ·obtain⟨k',n',ks',hx'⟩:∃ k' n' ks',ks[j]=.mk k' n' ks':=by cases h:ks[j] with | mk a b c=>exact⟨a,b,c,rfl⟩
      have hib:i<bs.length:=by omega
      rw[af hjl,zcJ,hx',zie]at hob;have hback:∀ (b':Bool) J,(b' && zcJ (ks.drop (j+1)) (j+1))=zcb d D.vars C.args[i]→ztO (.sl (data.map Dat.cs) .none) (.int .i64 d) (.ms H.length 0 C.args.length C.args.length) (.int .i64 i) (.sl (VT.css C.args) .none) (.int .i64 C.args.length) (.int .i64 i) (.sl (VT.css ks) .none) (.int .i64 ks.length) (.int .i64 j)
        (H++.cells (zaH (bs.set i b'))::.cells [.int .i64 k,.int .i64 n,.sl (VT.css ks) .none]::J) (Out H.length K) Kb Kb1:=by
       intro b' J hb';simp[ztO];rw[zaz (by omega) (by omega)];refine hKb1 _ _ ⟨ks.length-(j+1),by omega,Back.at (J:=J) (H2:=H++[.cells (zaH (bs.set i b')),.cells [.int .i64 k,.int .i64 n,.sl (VT.css ks) .none]]) (by simp) (by simp) (hsc2 _) ?_ ⟨_,rfl,j+1,b',by omega,rfl,by simp,hb',rfl⟩⟩;simp[zm6,AV.sc,AV.scV,AV.scA,AV.scB]
      have hstore:∀l,List.take i (zaH (bs.set i b))++.bool false::List.drop (i+1) (zaH (bs.set i b))=l→l=zaH (bs.set i false):=by rintro _ rfl;rw[zjF (by simpa using hib)];simp
      cases g1:(k' == 4) with
      |false=>
       have:(k' != 4)=true:=by simp[bne,g1]
       rw[g1]at hob;simp[zhF,zhG,hjl,hx',VT.cs,this,hlt,hbl,hstore _ rfl];refine⟨by omega,hback _ _ ?_⟩;simpa using hob.symm
      |true=>
      have g1':(k' != 4)=false:=by simp[bne,g1]
      cases g2:(n' == (j:Int)) with
      |false=>
       have:(n' != (j:Int))=true:=by simp[bne,g2]
       rw[g1,g2]at hob;simp[zhF,zhG,hjl,hx',VT.cs,g1',this,hlt,hbl,hstore _ rfl];refine⟨by omega,hback _ _ ?_⟩;simpa using hob.symm
      |true=>
      have g2':(n' != (j:Int))=false:=by simp[bne,g2]
      by_cases g3:ks'.length=0
      ·have g3':¬ (0:Int)<ks'.length:=by omega
       have g3'':¬ 0<ks'.length:=by omega
       simp[zhF,zhG,hjl,hx',VT.cs,g1',g2',g3',g3''];refine hback _ _ ?_;simpa[g1,g2,g3]using hob
      ·have g3':(0:Int)<ks'.length:=by omega
       have g3'':0<ks'.length:=by omega
       have g4:(ks'.length == 0)=false:=by simpa using g3
       rw[g4]at hob;simp[zhF,zhG,hjl,hx',VT.cs,g1',g2',g3',g3'',hlt,hbl,hstore _ rfl];refine⟨by omega,hback _ _ ?_⟩;simpa using hob.symm
     ·obtain rfl:j=ks.length:=by omega
      rw[au,zcJ,bW]at hob;simp[zhF];rw[zaz (by omega) (by omega)];refine hKb _ _ ⟨C.args.length-(i+1),by omega,Back.at (J:=[.cells [.int .i64 k,.int .i64 n,.sl (VT.css ks) .none]]) (H2:=H++[.cells (zaH (bs.set i b))]) (by simp) (by simp) (hsc0 _) ?_ ⟨_,rfl,i+1,bs.set i b,by omega,rfl,by simp,by simpa using hbl,?_,rfl⟩⟩
      ·simp[zm7,AV.sc,AV.scV,AV.scA,AV.scB]
      ·intro j hj h';by_cases hji:j=i
       ·subst hji;rw[←hob];simp[hbl,hlt]
       ·rw[List.getElem?_set_ne (by omega)];exact hbs j (by omega) h'
   have hstore:∀b l,List.take i (zaH bs)++.bool b::List.drop (i+1) (zaH bs)=l→l=zaH (bs.set i b):=by rintro b _ rfl;rw[zjF (by omega)]
   cases h5:(k == 5) with
   |false=>simp[zjd,hlt,hx,VT.cs,e1,hd,hD,Dat.cs,h5,hbl,hstore _ _ rfl];refine⟨by omega,inner _ ?_⟩;simp[h5]
   |true=>
   cases hn:(n == (d:Int)) with
   |false=>simp[zjd,hlt,hx,VT.cs,e1,hd,hD,Dat.cs,h5,hn,hbl,hstore _ _ rfl];refine⟨by omega,inner _ ?_⟩;simp[h5,hn]
   |true=>simp[zjd,hlt,hx,VT.cs,e1,hd,hD,Dat.cs,h5,hn,hbl,hstore _ _ rfl];refine⟨by omega,inner _ ?_⟩;simp[h5,hn]
  ·obtain rfl:i=C.args.length:=by omega
   simp[zjd];have hbe:bs=C.args.map (zcb d D.vars):=by refine bT (by simpa using hbl) λj h1 h2=>?_;have:=hbs j (by omega) (by omega);rw[List.getElem?_eq_getElem h1]at this;simpa using this
   subst hbe;refine⟨_,H,_,rfl,aa _,hs,.one (.frz H.length 0 _ _ 1 (zaH (C.args.map (zcb d D.vars))) (C.args.map λt=>[.bool (zcb d D.vars t)]) (aa _) (by simp) (by simp) ?_ (by simp) (by simp) (aa _)),hK⟩;rw[aU,ak (by simp),zyx,cK];rfl
theorem zP6(data:List Dat)(d:Nat)(c:Nat)(hd:d<data.length)(hc:c<(data[d]).cons.length)(hl:data.length≤1000000)(hcl:(data[d]).cons.length≤1000000)(hal:((data[d]).cons[c]).args.length≤1000000)(hb:∀ x∈((data[d]).cons[c]).args,zbw x)(H:zaa)(K:AV→zaa→Prop)(hK:K (.bool (decide (((data[d]).cons[c]).args.length≤6) && ((data[d]).cons[c]).args.all (zc6 data d (data[d]).vars))) H):
  ACalls tP zqA [.sl (data.map Dat.cs) .none,.int .i64 d,.int .i64 c] H K:=by
 refine ACalls.out (zQa λhs=>?_);have e1:(data.map Dat.cs)[d]?=some (data[d]).cs:=by simp[hd]
 have e2:((data[d]).cons.map Con.cs)[c]?=some ((data[d]).cons[c]).cs:=by simp[hc]
 have hrec:=zQs data d c hd hc hl hcl hal hb;generalize hD:data[d]=D at *;generalize hA:D.cons[c]=C at *;have hO:∀J,Out H.length K (.bool (decide (C.args.length≤6) && C.args.all (zc6 data d D.vars))) (H++J):=λJ=>Out.bool rfl (aa _) hs hK;simp[zCo,e1,e2,Dat.cs,Con.cs,hd,hD,hc,hA];by_cases h6:C.args.length≤6
 ·have h6':¬ (6:Int)<C.args.length:=by omega
  have h6'':¬ 6<C.args.length:=by omega
  simp[h6',h6''];refine hrec _ _ ?_;simp[h6]at hO;refine zP8 (Inv:=λq t29 H'=>∃i:Nat,i≤C.args.length∧q=C.args.length-i∧t29=.int .i64 i∧(C.args.drop i).all (zc6 data d D.vars)=C.args.all (zc6 data d D.vars)∧H=H') C.args.length ?_ ?_
  ·intro _;exact⟨0,by omega,by omega,rfl,by simp,rfl⟩
  ·rintro q t29 H' ⟨i,hi,rfl,rfl,ho,rfl⟩ hsc hlen hsF Kb hKb;by_cases hlt:i<C.args.length
   ·rw[af hlt,List.all_cons]at ho;have hnb:=hb _ (ae hlt);obtain⟨x1,x2,x3,hvx,hx1,hx2,hx3⟩:=zaO C.args[i];simp[ztD,hlt,hvx,e1,hd,hD,Dat.cs];refine⟨⟨hx1,hx2,hx3⟩,?_⟩;rw[zaz (by omega) (by omega),show ((d:Int)+1).toNat=d+1 by omega,←bX];refine⟨by omega,by omega,?_⟩;rw[←hvx];refine zaC (.bool (zaD (data.take (d+1)) D.vars C.args[i])) (λJ=>zE4 (data.take (d+1)) D.vars _ hnb _ _ ⟨rfl,rfl⟩) ?_;have hao:zc6 data d D.vars C.args[i]=(zaD (data.take (d+1)) D.vars C.args[i] && (zcb d D.vars C.args[i] || !zcv d C.args[i])):=rfl;rw[hao]at ho;cases hv:zaD (data.take (d+1)) D.vars C.args[i] with
    |false=>rw[hv]at ho;simp only[aL]at ho;rw[←ho]at hO;simp;exact hO _
    |true=>
    rw[hv]at ho;cases hsf:zcb d D.vars C.args[i] with
    |true=>rw[hsf]at ho;simp[hlt,hsf];rw[zaz (by omega) (by omega)];refine hKb _ _ ⟨C.args.length-(i+1),by omega,Back.same (by simp) hs ?_ ⟨_,rfl,i+1,by omega,rfl,by simp,by simpa using ho,rfl⟩⟩;simp[zjc,AV.sc,AV.scV,AV.scA,AV.scB]
    |false=>
     rw[hsf]at ho;simp[hlt,hsf];refine zaC (.bool (zcv d C.args[i])) (λJ=>zQC d _ _ (aa _) (by have:=zfB hv;omega) _ _ ⟨rfl,rfl⟩) ?_;cases hm:zcv d C.args[i] with
     |true=>rw[hm]at ho;simp only[dz,cr,bn,aL]at ho;rw[←ho]at hO;simp;exact hO _
     |false=>rw[hm]at ho;simp;rw[zaz (by omega) (by omega)];refine hKb _ _ ⟨C.args.length-(i+1),by omega,Back.same (by simp) hs ?_ ⟨_,rfl,i+1,by omega,rfl,by simp,by simpa using ho,rfl⟩⟩;simp[zjc,AV.sc,AV.scV,AV.scA,AV.scB]
   ·obtain rfl:i=C.args.length:=by omega
    rw[au,List.all_nil]at ho;rw[←ho]at hO;simp[ztD];simpa using hO []
 ·have h6':(6:Int)<C.args.length:=by omega
  have h6'':6<C.args.length:=by omega
  simp[h6',h6''];simp[h6]at hO;simpa using hO []
def zdW(data:List Dat):Prop:=∀D∈data,D.cons.length≤1000000∧∀c∈D.cons,c.args.length≤1000000∧∀x∈c.args,zbw x
theorem zMY(data:List Dat)(hB:zdW data)(hl:data.length≤1000000)(H:zaa)(K:AV→zaa→Prop)(hK:K (.bool (zaB data)) H):ACalls tP zqk [.sl (data.map Dat.cs) .none] H K:=by
 refine ACalls.out (zM3 λhs=>?_);have hO:∀J,Out H.length K (.bool (zaB data)) (H++J):=λJ=>Out.bool rfl (aa _) hs hK;by_cases h12:data.length≤12
 ·have h12':¬ (12:Int)<data.length:=by omega
  have h12'':¬ 12<data.length:=by omega
  have hD0:zck data data 0=false→∀J,Out H.length K (.bool false) (H++J):=λh J=>by have:=hO J;rwa [show zaB data=false by simp[zaB,h]]at this
  have hD1:zcf (zbo data)=true→∀J,Out H.length K (.bool false) (H++J):=λh J=>by have:=hO J;rwa [show zaB data=false by simp[zaB,h]]at this
  have hD2:zcf (za2 data)=true→∀J,Out H.length K (.bool false) (H++J):=λh J=>by have:=hO J;rwa [show zaB data=false by simp[zaB,h]]at this
  simp[zsM,h12',h12''];refine zM1 (Inv:=λq t15 H'=>∃i:Nat,i≤data.length∧q=data.length-i∧t15=.int .i64 i∧zck data (data.drop i) i=zck data data 0∧(zbo (data.take i)).Nodup∧(za2 (data.take i)).Nodup∧H'=H++[.map (zbP (zbo (data.take i))),.map (zbP (za2 (data.take i)))]) data.length ?_ ?_
  ·intro _;exact⟨0,by omega,by omega,rfl,by simp,by simp[zbo],by simp[za2],by simp[zbo,za2,zbP]⟩
  ·rintro q t15 H' ⟨i,hi,rfl,rfl,ho,hdn,hcn,rfl⟩ hsc hlen hsF Kb hKb;by_cases hlt:i<data.length
   ·have e1:(data.map Dat.cs)[i]?=some (data[i]).cs:=by simp[hlt]
    obtain⟨hB1,hB2⟩:=hB _ (ae hlt);have hargs:=λc hc=>zP6 data i c hlt hc hl hB1 (hB2 _ (ae hc)).1 (hB2 _ (ae hc)).2;rw[af hlt,zck]at ho;have htk:data.take (i+1)=data.take i++[data[i]]:=by rw[cC hlt]
    have hsplit:data=data.take i++data[i]::data.drop (i+1):=by rw[dl,aN]
    generalize hD:data[i]=D at *;have hbad:zca data i D=false→zck data data 0=false:=λh=>by rw[←ho,h,aL]
    have hno:∀J,zca data i D=false→Out H.length K (.bool false) (H++[.map (zbP (zbo (data.take i))),.map (zbP (za2 (data.take i)))]++J):=λJ h=>by rw[ah];exact hD0 (hbad h) _
    simp[zsO,hlt,e1,hD,Dat.cs];refine zCn _ _ _ ?_;cases hu:zcg D.name with
    |false=>simp;exact hD0 (hbad (by simp[zca,hu])) _
    |true=>
    by_cases hmem:D.name∈zbo (data.take i)
    ·simp[hlt,e1,hD,Dat.cs,zgg,hmem];refine hD1 ?_ _;rw[hsplit];simp only[zbo,bj,aA];exact zyR hmem
    by_cases hv0:D.vars<0
    ·simp[hlt,e1,hD,Dat.cs,zgg,hmem,hv0];exact hD0 (hbad (by simp[zca,show ¬ 0≤D.vars by omega])) _
    by_cases hv6:6<D.vars
    ·simp[hlt,e1,hD,Dat.cs,zgg,hmem,hv0,hv6];exact hD0 (hbad (by simp[zca,show ¬D.vars≤6 by omega])) _
    simp[hlt,e1,hD,Dat.cs,zgg,hmem,hv0,hv6,zrs _ _ hmem];by_cases hc1:D.cons.length<1
    ·have hc1':(D.cons.length:Int)<1:=by omega
     simp[hc1'];exact hD0 (hbad (by simp[zca,show ¬ 1≤D.cons.length by omega])) _
    have hc1':¬(D.cons.length:Int)<1:=by omega
    by_cases hc8:8<D.cons.length
    ·have hc8':(8:Int)<D.cons.length:=by omega
     simp[hlt,e1,hD,Dat.cs,hc1',hc8',hc8];exact hD0 (hbad (by simp[zca,show ¬D.cons.length≤8 by omega])) _
    have hc8':¬(8:Int)<D.cons.length:=by omega
    have hdat:zca data i D=D.cons.all (zcU data i D.vars):=by simp[zca,hu,show 0≤D.vars by omega,show D.vars≤6 by omega,show 1≤D.cons.length by omega,show D.cons.length≤8 by omega]
    simp[hlt,e1,hD,Dat.cs,hc1',hc8',hc8];have hdn':(zbo (data.take (i+1))).Nodup:=by rw[htk];simp only[zbo,bj,aA,cm];exact zyg hdn hmem
    have hde:zbo (data.take i)++[D.name]=zbo (data.take (i+1)):=by rw[htk];simp[zbo]
    rw[hde];refine zM0 (Inv:=λq t78 H'=>∃j:Nat,j≤D.cons.length∧q=D.cons.length-j∧t78=.int .i64 j∧(D.cons.drop j).all (zcU data i D.vars)=D.cons.all (zcU data i D.vars)∧(za2 (data.take i)++(D.cons.take j).map Con.name).Nodup∧H'=H++[.map (zbP (zbo (data.take (i+1)))),.map (zbP (za2 (data.take i)++(D.cons.take j).map Con.name))]) D.cons.length ?_ ?_
    ·intro _;exact⟨0,by omega,by omega,rfl,by simp,by simpa using hcn,by simp⟩
    ·rintro q t78 H' ⟨j,hj,rfl,rfl,hoc,hcj,rfl⟩ hsc1 hlen1 hsF1 Kb1 hKb1;have hscH:∀ A B,HSc (H++[.map (zbP A),.map (zbP B)]):=λA B=>hs.append (by simp[zIZ]);by_cases hjl:j<D.cons.length
     ·have e2:(D.cons.map Con.cs)[j]?=some (D.cons[j]).cs:=by simp[hjl]
      have hargs':=hargs j hjl;rw[af hjl,List.all_cons]at hoc;have htj:za2 (data.take i)++(D.cons.take (j+1)).map Con.name=(za2 (data.take i)++(D.cons.take j).map Con.name)++[(D.cons[j]).name]:=by rw[←cC hjl,bj,ah];rfl
      have hcs:za2 data=(za2 (data.take i)++(D.cons.take j).map Con.name)++(D.cons[j]).name::((D.cons.drop (j+1)).map Con.name++za2 (data.drop (i+1))):=by
       have h1:D.cons.map Con.name=(D.cons.take j).map Con.name++(D.cons[j]).name::(D.cons.drop (j+1)).map Con.name:=by rw[←aA (f:=Con.name),dl,←bj,aN]
       conv=>lhs;rw[hsplit]
       simp only[za2,bt,bg,ah,h1,List.cons_append]
      generalize hC:D.cons[j]=C at *;have hbad':zcU data i D.vars C=false→zck data data 0=false:=λh=>hbad (by rw[hdat,←hoc,h,aL]);generalize hA:za2 (data.take i)++(D.cons.take j).map Con.name=A at *;simp only[zsN];simp[hjl,hC,Con.cs,ag];refine zCn _ _ _ ?_;cases hu2:zcg C.name with
      |false=>simp;exact hD0 (hbad' (by simp[zcU,hu2])) _
      |true=>
      by_cases hm2:C.name∈A
      ·simp[zgg,hm2];exact hD2 (by rw[hcs];exact zyR hm2) _
      ·simp[zgg,hm2];refine hargs' _ _ ?_;have hce:zcU data i D.vars C=(decide (C.args.length≤6) && C.args.all (zc6 data i D.vars)):=by simp[zcU,hu2]
       rw[←hce];cases hco:zcU data i D.vars C with
       |false=>simp;exact hD0 (hbad' hco) _
       |true=>
        rw[hco,aR]at hoc;simp[zrs _ _ hm2];rw[zaz (by omega) (by omega)];refine hKb1 _ _ ⟨D.cons.length-(j+1),by omega,Back.at (J:=[.cells [.str C.name,.sl (VT.css C.args) .none]]) (H2:=H++[.map (zbP (zbo (data.take (i+1)))),.map (zbP (A++[C.name]))]) (by simp) (by simp) (hscH _ _) ?_ ⟨_,rfl,j+1,by omega,rfl,by simp,hoc,?_,?_⟩⟩
        ·simp[zmh,AV.sc,AV.scV,AV.scA,AV.scB]
        ·rw[htj];exact zyg hcj hm2
        ·rw[htj]
     ·obtain rfl:j=D.cons.length:=by omega
      rw[au,List.all_nil]at hoc;rw[aw]at *;simp[zsN];rw[zaz (by omega) (by omega)];have hce:za2 (data.take i)++D.cons.map Con.name=za2 (data.take (i+1)):=by rw[htk];simp[za2]
      rw[hce]at hcj ⊢;refine hKb _ _ ⟨data.length-(i+1),by omega,Back.at (J:=[]) (by simp) (by simp) (hscH _ _) ?_ ⟨_,rfl,i+1,by omega,rfl,by simp,?_,hdn',hcj,rfl⟩⟩
      ·simp[zmi,AV.sc,AV.scV,AV.scA,AV.scB]
      ·rw[←ho,hdat,←hoc,aR]
   ·obtain rfl:i=data.length:=by omega
    rw[au,zck]at ho;rw[aw]at *;simp[zsO];have:=hO [.map (zbP (zbo data)),.map (zbP (za2 data))];rwa [show zaB data=true by simp[zaB,h12,←ho,zrl hdn,zrl hcn]]at this
 ·have h12':(12:Int)<data.length:=by omega
  have h12'':12<data.length:=by omega
  rw[show zaB data=false by simp[zaB,h12]]at hO;simp[zsM,h12',h12''];simpa using hO []
section
variable {H:zaa} {K:Kt} (data:List Dat)
theorem zWY(hB:zdW data)(hl:data.length≤1000000)(hK:K (.bool (zaB data)) H):ACalls tP zqZ [d4 data] H K:=by
 refine ACalls.out (zW0 λhs=>?_);simp[zE3,d4];refine zMY data hB hl _ _ ?_;cases hd:zaB data with
 |false=>rw[hd]at hK;simp;exact Out.bool rfl (aa _) hs hK
 |true=>rw[hd]at hK;simp;refine zKG data ?_;simp;refine zGv data ?_;simp;refine zKh data ?_;simp;refine zF6 data ?_;simp;refine zIY data ?_;simp;refine zG0 data ?_;exact Out.bool rfl (aa _) hs hK
theorem zTQ(hB:zdW data)(hl:data.length≤1000000)(t:VT)(ht:zbw t)(hK:K (.bool (zcW data t)) H):ACalls tP zqT [.sl (data.map Dat.cs) .none,.agg t.cs] H K:=by
 refine ACalls.out (zTS λhs=>?_);obtain⟨a,b,c,hv,ha,hb,hc⟩:=zaO t;simp[zDR,zar,zaL,hv];refine zWY data hB hl ?_;unfold zcW at hK;cases hd:zaB data with
 |false=>rw[hd]at hK;simp;exact Out.bool rfl (aa _) hs hK
 |true=>rw[hd,aR]at hK;simp;rw[←hv];refine zE4 data 0 t ht _ _ ?_;exact Out.bool rfl (aa _) hs hK
end
def foL(g:VT→List Bool→Bool × List Bool):List VT→List Bool→Bool × List Bool
 |[],s=>(true,s)
 |v::vs,s=>if (g v s).1=true then foL g vs (g v s).2 else (false,(g v s).2)
def foC(g:VT→List Bool→Bool × List Bool):List Con→List Bool→Bool × List Bool
 |[],s=>(true,s)
 |c::cs,s=>if (foL g c.args s).1=true then foC g cs (foL g c.args s).2 else (false,(foL g c.args s).2)
def zba(data:List Dat)(n:Int):List Con:=(data.getD n.toNat ⟨[],0,[]⟩).cons
def foD(g:VT→List Bool→Bool×List Bool)(data:List Dat)(k n:Int)(s:List Bool):Bool×List Bool:=
 if k=5∧s.getD n.toNat false=false then foC g (zba data n) (s.set n.toNat true) else (true,s)
def fo(data:List Dat):Nat→VT→List Bool→Bool × List Bool
 |0,_,s=>(false,s)
 | f+1,.mk k n ks,s=>if k=9 then (false,s) else
  if (foD (fo data f) data k n s).1=true then foL (fo data f) ks (foD (fo data f) data k n s).2 else (false,(foD (fo data f) data k n s).2)
def uns(s:List Bool):Nat:=s.countP (· == false)
def ze3(g:VT→List Bool→Bool×List Bool):Prop:=∀v s,(g v s).2.length=s.length∧uns (g v s).2≤uns s
theorem zg1{g:VT→List Bool→Bool × List Bool}(hg:ze3 g):∀ vs s,(foL g vs s).2.length=s.length∧uns (foL g vs s).2≤uns s
 |[],s=>⟨rfl,aa _⟩
 |v::vs,s=>by
  obtain⟨h1,h2⟩:=hg v s;obtain⟨h3,h4⟩:=zg1 hg vs (g v s).2;rw[foL];split
  ·exact⟨by omega,by omega⟩
  ·exact⟨h1,h2⟩
theorem zw1{g:VT→List Bool→Bool × List Bool}(hg:ze3 g):∀ cs s,(foC g cs s).2.length=s.length∧uns (foC g cs s).2≤uns s
 |[],s=>⟨rfl,aa _⟩
 |c::cs,s=>by
  obtain⟨h1,h2⟩:=zg1 hg c.args s;obtain⟨h3,h4⟩:=zw1 hg cs (foL g c.args s).2;rw[foC];split
  ·exact⟨by omega,by omega⟩
  ·exact⟨h1,h2⟩
theorem zlr:∀ (s:List Bool) (i:Nat),i<s.length→s.getD i false=false→uns (s.set i true)+1=uns s
 |[],i,h,_=>by simp at h
 |b::s,0,_,h=>by simp at h;subst h;simp[uns]
 |b::s,i+1,h,h0=>by have:=zlr s i (by simpa using h) (by simpa using h0);simp only[uns,List.set_cons_succ,dg]at this ⊢;omega
theorem zKv(s:List Bool)(i:Nat):uns (s.set i true)≤uns s:=by
 induction s generalizing i with
 |nil=>simp
 |cons b s ih=>
  cases i with
  |zero=>cases b <;> simp[uns]
  |succ i=>have:=ih i;simp only[uns,List.set_cons_succ,dg]at this ⊢;omega
theorem zpG{g:VT→List Bool→Bool×List Bool}(hg:ze3 g)(data:List Dat)(k n:Int)(s:List Bool):(foD g data k n s).2.length=s.length∧uns (foD g data k n s).2≤uns s:=by
 unfold foD;split
 ·obtain⟨h1,h2⟩:=zw1 hg (zba data n) (s.set n.toNat true);have:=zKv s n.toNat;exact⟨by simpa using h1,by omega⟩
 ·exact⟨rfl,aa _⟩
theorem zpH(data:List Dat):∀ f,ze3 (fo data f)
 |0,_,s=>⟨rfl,aa _⟩
 |f+1,.mk k n ks,s=>by
  have hg:=zpH data f;obtain⟨h1,h2⟩:=zpG hg data k n s;obtain⟨h3,h4⟩:=zg1 hg ks (foD (fo data f) data k n s).2;rw[fo];split
  ·exact⟨rfl,aa _⟩
  ·split
   ·exact⟨by omega,by omega⟩
   ·exact⟨h1,h2⟩
def TyIn(data:List Dat)(t:VT):Prop:=t.nodes≤200∧∃vars,zaG data vars t=true
theorem zlp{data:List Dat}{vars:Int}:∀ {ts:List VT},zaV data vars ts=true→∀ x∈ts,zaG data vars x=true
 |[],_,x,hx=>by simp at hx
 |t::ts,h,x,hx=>by
  simp[zaV]at h;rcases aZ.1 hx with rfl|hx
  ·exact h.1
  ·exact zlp h.2 x hx
theorem TyIn.kid{data:List Dat}{k n:Int}{ks:List VT}(h:TyIn data (.mk k n ks)):∀x∈ks,TyIn data x∧x.nodes<(VT.mk k n ks).nodes:=λx hx=>by
 obtain⟨h1,vars,h2⟩:=h;have hlt:x.nodes<(VT.mk k n ks).nodes:=by obtain⟨i,hi,rfl⟩:=aO.1 hx;exact VT.kid_lt hi
 simp[zaG]at h2;exact⟨⟨by omega,vars,zlp h2.2 x hx⟩,hlt⟩
theorem TyIn.num{data:List Dat}{n:Int}{ks:List VT}(h:TyIn data (.mk 5 n ks)):0≤n∧n.toNat<data.length:=by
 obtain⟨h1,vars,h2⟩:=h;simp[zaG,zaK]at h2;obtain⟨⟨h3,h4⟩,_⟩:=h2;refine⟨h3,?_⟩;cases hd:data[n.toNat]? with
 |none=>rw[hd]at h4;simp at h4
 |some d=>exact(List.getElem?_eq_some_iff.1 hd).1
theorem zI6{data:List Dat}{vars k n:Int}{m len:Nat}(h:zaK (data.take m) vars k n len=true):zaK data vars k n len=true:=by
 by_cases h5:k=5
 ·subst h5;have e:∀ D:List Dat,zaK D vars 5 n len=(decide (0≤n) && (match D[n.toNat]? with | some d=>(len:Int) == d.vars | none=>false)):=λ_=>rfl;rw[e]at h ⊢;cases hd:(data.take m)[n.toNat]? with
  |none=>rw[hd]at h;simp at h
  |some d=>
   rw[hd]at h;have hd2:data[n.toNat]?=some d:=by
    rw[List.getElem?_take]at hd;split at hd
    ·exact hd
    ·cases hd
   rw[hd2];exact h
 ·have b5:(k == 5)=false:=by simpa using h5
  have e:∀D D':List Dat,zaK D vars k n len=zaK D' vars k n len:=λD D'=>by unfold zaK;rw[b5];rfl
  rw[e data (data.take m)];exact h
theorem zzW{data:List Dat}{vars:Int}{m:Nat}:∀ (f:Nat) (t:VT),t.nodes≤f→zaG (data.take m) vars t=true→zaG data vars t=true
 |0,t,h,_=>by have:=t.nodes_pos;omega
 |f+1,.mk k n ks,h,ho=>by
  simp only[zaG,ac]at ho ⊢;refine⟨zI6 ho.1,?_⟩;have hL:∀l:List VT,VT.nodesL l≤f→zaV (data.take m) vars l=true→zaV data vars l=true:=by
   intro l;induction l with
   |nil=>intro _ _;rfl
   |cons a l ih=>intro hn hl;simp only[VT.nodesL]at hn;simp only[zaV,ac]at hl ⊢;exact⟨zzW f a (by omega) hl.1,ih (by omega) hl.2⟩
  exact hL ks (by simp only[VT.nodes]at h;omega) ho.2
theorem zjM{data:List Dat}:∀ (l:List Dat) (d i:Nat) (h:i<l.length),zck data l d=true→zca data (d+i) l[i]=true
 |[],_,i,h,_=>by simp at h
 |D::l,d,0,_,ho=>by simp[zck]at ho;exact ho.1
 |D::l,d,i+1,h,ho=>by simp[zck]at ho;have:=zjM l (d+1) i (by simpa using h) ho.2;rw[show d+(i+1)=d+1+i by omega];exact this
theorem zfc{data:List Dat}(hD:zaB data=true){i:Nat}(hi:i<data.length):∀c∈(data[i]).cons,c.args.length≤6∧∀x∈c.args,TyIn data x:=λc hc=>by
 have h1:zck data data 0=true:=by simp[zaB]at hD;exact hD.1.1.2
 have h2:=zjM data 0 i hi h1;rw[aF]at h2;simp only[zca,ac]at h2;have h3:=am.1 h2.2 c hc;simp only[zcU,ac,aH]at h3;refine⟨h3.2.1,λx hx=>?_⟩;have h4:=am.1 h3.2.2 x hx;simp only[zc6,ac]at h4;have h5:=h4.1;have hn:=zfB h5;simp[zaD]at h5;exact⟨hn,_,zzW _ x (aa _) h5.2⟩
section
variable (t0 t1 t2 t3 t4 t5 t34 t35 t36 t41 t42 t43:AV) (H:zaa) (K:Kt) (Kb6 Kb9:Lt)
def zR6:Nat→List Bool|200001=>rl false [0,1]|_=>[]
noncomputable def zR7:=Tryz.f34.body.getD .skip
def zC7:=zaw t1 H λt3 H=>apm H t0 λt5=>apu H (zan true 3 t3 H) λt6=>zbl .w false H (λK'=>ACalls tP zqT [t5,t6] H K') λt7 H=>apm H t7 λt8=>zac t8 true H (λK'=>zad H (λK''=>K'' t0 H) (K' · H)) λt9 H=>zac t8 true H (λK'=>zad H (λK''=>zan true 3 t3 H (K'' · H)) (K' · H)) λt10 H=>zac t8 true H (λK'=>zad H (λK''=>K'' t0 H) (K' · H)) λt11 H=>zac t8 true H (λK'=>zad H (λK''=>zah 1 t11 (K'' · H)) (K' · H)) λt12 H=>zac t8 true H (λK'=>zbl .w false H (λK''=>za9 1 [(.bool false)] t12 t12 H K'') K') λt13 H=>zac t8 true H (λK'=>zbl .w false H (λK''=>ACalls tP zhf [t9,t10,t13] H K'') K') λt14 H=>apu H (zak t8 t14 (.bool false)) λt15=>apm H t15 λt4=>K t4 H
def zgx:Nat→List Bool|6=>rl false [3,3,28,3,22]|9=>rl false [3,3,28,3,4,3,15]|_=>[]
noncomputable def zuT:=Tryz.f71.body.getD .skip
noncomputable def zUS:=Tryz.f71.results.toList
def zod:=ux 3 (t3::t4::t5::ux 28 (t34::t35::t36::ux 22 []))
def zEd:=zgx 6
noncomputable def zuU:=zas [1,1,0,1,0,1,1,0,0] zuT
def zEa:=zat tP zgx [1,1,0,1,0,1,1,0] zuT (zaA tP zUS K)
def zEb:=ALoop tP zuU (zEa K) (zod t3 t4 t5 t34 t35 t36) H
def zoe:=ux 3 (t3::t4::t5::ux 28 (t34::t35::t36::ux 4 (t41::t42::t43::ux 15 [])))
def zUQ:=zgx 9
noncomputable def zUN:=zas [1,1,0,0,1,1,0,0] zuU
def zUM:=zat tP zgx [1,1,0,0,1,1,0] zuU (zbp zEd Kb6 (zEa K))
def zEc:=ALoop tP zUN (zUM K Kb6) (zoe t3 t4 t5 t34 t35 t36 t41 t42 t43) H
def zuS:=zab .lss false t43 t42 λt44=>zag t44 (zai 3 t41 t43 λt45=>zae true 3 t45 H λt46=>zay [(.int .i64 0),(.int .i64 0),.snil] H λt10 H=>zam 3 t10 t46 H λH=>zae false 1 t3 H λt47=>zae true 3 t10 H λt48=>zae false 1 t5 H λt49=>ACalls tP zhf [t47,t48,t49] H λt50 H=>aUn .not t50 λt51=>zag t51 (K (.bool false) H) (zab .add false t43 (.int .i64 1) λt52=>Kb9 (zoe t3 t4 t5 t34 t35 t36 t41 t42 t52) H)) (zab .add false t36 (.int .i64 1) λt53=>Kb6 (zod t3 t4 t5 t34 t35 t53) H)
def zof:=zaf 2 t4 λt54=>zae false 1 t54 H λt55=>zci zqc [t3,t5] λt56=>ACalls tP zed [t55,t56] H λt57 H=>aUn .not t57 λt58=>K t58 H
def zuR:=zab .lss false t36 t35 λt37=>zag t37 (zai 2 t34 t36 λt38=>zae true 2 t38 H λt39=>zay [(.str []),.snil] H λt8 H=>zam 2 t8 t39 H λH=>zaf 1 t8 λt40=>zae false 1 t40 H λt41=>zah 1 t41 λt42=>zEc t3 t4 t5 t34 t35 t36 t41 t42 (.int .i64 0) H K Kb6) (zof t3 t4 t5 H K)
def zuQ:=zaw t0 H λt3 H=>zaw t1 H λt4 H=>zaw t2 H λt5 H=>zaf 0 t4 λt11=>zae false 1 t11 H λt12=>zab .eql false t12 (.int .i64 9) λt13=>zag t13 (K (.bool false) H) (zaf 0 t4 λt14=>zae false 1 t14 H λt15=>zab .eql false t15 (.int .i64 5) λt16=>zac t16 true H (λK'=>zae false 1 t5 H (K' · H)) λt18 H=>zac t16 true H (λK'=>zaf 1 t4 (K' · H)) λt19 H=>zac t16 true H (λK'=>zae false 1 t19 H (K' · H)) λt20 H=>zac t16 true H (λK'=>zai 1 t18 t20 (K' · H)) λt21 H=>zac t16 true H (λK'=>zae false 1 t21 H (K' · H)) λt22 H=>zac t16 true H (λK'=>aUn .not t22 (K' · H)) λt23 H=>zak t16 t23 (.bool false) λt24=>zag t24 (zae false 1 t5 H λt25=>zaf 1 t4 λt26=>zae false 1 t26 H λt27=>zai 1 t25 t27 λt28=>zam 1 t28 (.bool true) H λH=>zae false 1 t3 H λt29=>zaf 1 t4 λt30=>zae false 1 t30 H λt31=>zai 3 t29 t31 λt32=>zaf 2 t32 λt33=>zae false 1 t33 H λt34=>zah 1 t34 λt35=>zEb t3 t4 t5 t34 t35 (.int .i64 0) H K) (zof t3 t4 t5 H K))
def zLn(_:Nat):List Bool:=[]
noncomputable def zLo:=Tryz.f106.body.getD .skip
def zAq:=zaw t0 H λt3 H=>zae false 1 t1 H λt5=>zae true 3 t3 H λt6=>zae false 1 t2 H λt7=>ACalls tP zhf [t5,t6,t7] H λt8 H=>aUn .not t8 λt9=>K t9 H
variable {t0 t1 t2 t3 t4 t5 t34 t35 t36 t41 t42 t43} {H} {K} {Kb6 Kb9}
theorem zR8(h:HSc H→zC7 t0 t1 H K):ACalls tP zkD [t0,t1] H K:=
 acb zR6 Tryz.func34 zR7 h
theorem zUP:Lo1 (λt43=>zoe t3 t4 t5 t34 t35 t36 t41 t42 t43) (λt43 H Kb9=>zuS t3 t4 t5 t34 t35 t36 t41 t42 t43 H K Kb6 Kb9) t43 H (zEc t3 t4 t5 t34 t35 t36 t41 t42 t43 H K Kb6):=lq1 zgx zUQ
theorem zUO:Lo1 (λt36=>zod t3 t4 t5 t34 t35 t36) (λt36 H Kb6=>zuR t3 t4 t5 t34 t35 t36 H K Kb6) t36 H (zEb t3 t4 t5 t34 t35 t36 H K):=lq1 zgx zEd
theorem zUR(h:HSc H→zuQ t0 t1 t2 H K):ACalls tP zhf [t0,t1,t2] H K:=
 acb zgx Tryz.func71 zuT h
theorem zLp(h:HSc H→zAq t0 t1 t2 H K):ACalls tP zqc [t0,t1,t2] H K:=
 acb zLn Tryz.func106 zLo h
end
theorem zGi:zdE tP zqc=true:=by kernel_rfl
theorem zfW{data:List Dat}(h:zaB data=true):data.length≤12:=by simp[zaB]at h;exact h.1.1.1
theorem zh0{data:List Dat}(hD:zaB data=true){i:Nat}(hi:i<data.length):(data[i]).cons.length≤8:=by
 have h1:zck data data 0=true:=by simp[zaB]at hD;exact hD.1.1.2
 have h2:=zjM data 0 i hi h1;simp only[zca,ac,aH]at h2;exact h2.1.2
theorem zG2{data:List Dat}(hD:zaB data=true):∀ (f:Nat) (t:VT) (s:List Bool),TyIn data t→s.length=data.length→uns s*201+t.nodes≤f→∀ (H:zaa) (id:Nat),H[id]?=some (.cells (zaH s))→∀ K:Kt,
  K (.bool (fo data f t s).1) (H.set id (.cells (zaH (fo data f t s).2)))→ACalls tP zhf [.sl (data.map Dat.cs) .none,.agg t.cs,.ms id 0 data.length data.length] H K:=by
 intro f;induction f with
 |zero=>intro t s _ _ h;have:=t.nodes_pos;omega
 |succ f ih=>
  intro t s ht hsl hm H id hid K hK;obtain⟨k,n,ks⟩:=t;have hlt:=zf1 hid;have hdl:=zfW hD;have hll:=VT.len_le ks;have hnn:(VT.mk k n ks).nodes=VT.nodesL ks+1:=by simp[VT.nodes]
  have hn200:=ht.1;refine ACalls.out (zUR λhs=>?_);obtain⟨J,hJ⟩:∃J:zaa,J=[.cells [.sl (data.map Dat.cs) .none],.cells [.int .i64 k,.int .i64 n,.sl (VT.css ks) .none],.cells [.ms id 0 data.length data.length]]:=⟨_,rfl⟩;obtain⟨G,hG⟩:∃G:List Bool→zaa,G=λs'=>H.set id (.cells (zaH s'))++J:=⟨_,rfl⟩;have hGl:∀s',(G s').length=H.length+3:=λs'=>by rw[hG,hJ];simp
  have hG0:H++J=G s:=by
   rw[hG];have:H.set id (.cells (zaH s))=H:=by
    apply aI;intro j;by_cases hj:id=j
    ·subst hj;rw[List.getElem?_set_self hlt];exact hid.symm
    ·rw[List.getElem?_set_ne hj]
   simp only[this]
  have g0:∀s',(G s')[H.length]?=some (.cells [.sl (data.map Dat.cs) .none]):=λs'=>by rw[hG,hJ];simp[List.getElem?_append]
  have g1:∀s',(G s')[H.length+1]?=some (.cells [.int .i64 k,.int .i64 n,.sl (VT.css ks) .none]):=λs'=>by rw[hG,hJ];simp[List.getElem?_append]
  have g2:∀s',(G s')[H.length+2]?=some (.cells [.ms id 0 data.length data.length]):=λs'=>by rw[hG,hJ];simp[List.getElem?_append]
  have g0e:∀s' (h:H.length<(G s').length),(G s')[H.length]=.cells [.sl (data.map Dat.cs) .none]:=λs' h=>by have:=g0 s';rw[List.getElem?_eq_getElem h]at this;simpa using this
  have g2e:∀s' (h:H.length+1+1<(G s').length),(G s')[H.length+1+1]=.cells [.ms id 0 data.length data.length]:=λs' h=>by have:=g2 s';rw[List.getElem?_eq_getElem h]at this;simpa using this
  have wi:∀j:Nat,j≤1000000→IntKind.i64.wrap ((j:Int)+1)=((j+1:Nat):Int):=λj hj=>by rw[zaz (by omega) (by omega)];rfl
  have gi:∀s',(G s')[id]?=some (.cells (zaH s')):=λs'=>by rw[hG];exact zcB (zem _ hid)
  have hset:∀s' s'' J',(G s'++J').set id (.cells (zaH s''))=G s''++J':=λs' s'' J'=>by
   have hi1:id<(G s').length:=by rw[hGl];omega
   rw[a6 _ _ hi1,hG];simp only;rw[a6 _ _ (by simpa using hlt),cy]
  have hGs:∀s',HSc (G s'):=λs'=>by rw[hG,hJ];refine(hs.set (by simp[AB.sc,zgT])).append (by simp[AB.sc,AV.scA,AV.scB];omega)
  have hout:∀J',Out H.length K (.bool (fo data (f+1) (.mk k n ks) s).1) (G (fo data (f+1) (.mk k n ks) s).2++J'):=λJ'=>by rw[hG,ah];exact Out.bool rfl (by simp) (hs.set (by simp[AB.sc,zgT])) hK
  -- one type further
  have one:∀(x:VT),TyIn data x→∀s',s'.length=data.length→uns s'*201+x.nodes≤f→∀J' (K':Kt),K' (.bool (fo data f x s').1) (G (fo data f x s').2++J')→ACalls tP zhf [.sl (data.map Dat.cs) .none,.agg x.cs,.ms id 0 data.length data.length] (G s'++J') K':=λx hx s' hs' hm' J' K' hK'=>by refine ih x s' hx hs' hm' _ id (zcB (gi s')) K' ?_;rw[hset];exact hK'
  have keep:=zpH data f;have args:∀ s1,s1.length=data.length→uns s1≤uns s→(fo data (f+1) (.mk k n ks) s)=foL (fo data f) ks s1 →
    zof (.ptr H.length 0) (.ptr (H.length+1) 0) (.ptr (H.length+2) 0) (G s1) (Out H.length K):=by
   intro s1 hs1 hu1 hres;rw[hres]at hout;simp[zof,g1 s1];refine⟨⟨rfl,rfl⟩,?_⟩;refine zjH ks (by omega) _ _ _ (by simp[AV.sc,AV.scV,AV.scA,AV.scB,hGl]) (λi H'=>∃s',s'.length=data.length∧uns s'≤uns s1∧foL (fo data f) (ks.drop i) s'=foL (fo data f) ks s1∧H'=G s') ⟨s1,hs1,aa _,by simp,rfl⟩ ?_ ?_
   ·rintro i hi H' hle ⟨s',hs',hu',hrem,rfl⟩;obtain⟨hx1,hx2⟩:=ht.kid _ (ae hi);obtain⟨x1,x2,x3,hvx,hxa,hxb,hxc⟩:=zaO ks[i];rw[af hi,foL]at hrem;simp only[aCallV,zGi,List.singleton_append];refine ACalls.out (zLp λhs1=>?_);simp[zAq,hvx,zcB (g0 s'),zcB (g2 s')];rw[←hvx];obtain⟨k1,k2⟩:=keep ks[i] s';refine one ks[i] hx1 s' hs' (by have:=aq 201 (aC hu' hu1);omega) _ _ ?_;cases hr:(fo data f ks[i] s').1 with
    |true=>rw[hr,aB rfl]at hrem;simp;exact Out.bool rfl (by simp[hGl]) (hGs _) (.inl ⟨rfl,_,by omega,by omega,hrem,rfl⟩)
    |false=>rw[hr,ap (by simp)]at hrem;simp;refine Out.bool rfl (by simp[hGl]) (hGs _) (.inr ⟨rfl,?_⟩);have:=hout [];rw[←hrem,aE]at this;simpa using this
   ·rintro H' ⟨s',hs',hu',hrem,rfl⟩;rw[au,foL]at hrem;have:=hout [];rw[←hrem,aE]at this;simpa using this
  by_cases h9:k=9
  ·have hr:fo data (f+1) (.mk k n ks) s=(false,s):=by rw[fo,aB h9]
   rw[hr]at hout;simp[zuQ,VT.cs,h9];rw[h9]at hJ;rw[←hJ,hG0];simpa using hout []
  have hr9:fo data (f+1) (.mk k n ks) s=if (foD (fo data f) data k n s).1=true then foL (fo data f) ks (foD (fo data f) data k n s).2 else (false,(foD (fo data f) data k n s).2):=by rw[fo,ap h9]
  have b9:(k == 9)=false:=by simpa using h9
  simp[zuQ,VT.cs,b9];rw[←hJ,hG0];by_cases h5:k=5
  ·subst h5;obtain⟨n0,nl⟩:=ht.num;obtain⟨m,rfl⟩:∃ m:Nat,n=m:=⟨n.toNat,by omega⟩;rw[Int.toNat_natCast]at nl;have hcl:=zh0 hD nl;have hms:m<s.length:=by omega
   have hbm:(zaH s)[m]?=some (.bool (s.getD m false)):=by simp[zaH,List.getD_eq_getElem?_getD,hms]
   simp[g1 s,g2 s,gi s,nl,zc4 _ hbm];rw[zjF hms];have hG1:(G s).set id (.cells (zaH (s.set m true)))=G (s.set m true):=by have:=hset s (s.set m true) [];simpa using this
   rw[hG1];have hgd:s.getD m false=s[m]?.getD false:=List.getD_eq_getElem?_getD ..;cases hseen:s[m]?.getD false with
   |true=>
    simp;refine args s hsl (aa _) ?_;rw[hr9];have:foD (fo data f) data 5 m s=(true,s):=by unfold foD;rw[ap (by rw[Int.toNat_natCast,hgd,hseen];simp)]
    rw[this];simp
   |false=>
    have hu1:=zlr s m hms (by rw[hgd,hseen]);have hfd:foD (fo data f) data 5 m s=foC (fo data f) (zba data m) (s.set m true):=by unfold foD;rw[aB (by rw[Int.toNat_natCast,hgd,hseen];simp),Int.toNat_natCast]
    rw[hfd]at hr9;have hca:zba data m=(data[m]).cons:=by simp[zba,List.getD_eq_getElem?_getD,nl]
    rw[hca]at hr9;obtain⟨S1,hS1⟩:∃S1,S1=s.set m true:=⟨_,rfl⟩;have hS1l:S1.length=data.length:=by rw[hS1];simpa using hsl
    rw[←hS1]at hr9 hu1 ⊢;have e1:(data.map Dat.cs)[m]?=some (data[m]).cs:=by simp[nl]
    have htyp:=zfc hD nl;generalize hDm:data[m]=D at *;simp[g0 S1,g1 S1,nl,e1,hDm,Dat.cs];refine⟨by omega,?_⟩;refine zUO (Inv:=λq t36 H'=>∃(i:Nat) (s':List Bool),i≤D.cons.length∧D.cons.length-i=q∧t36=.int .i64 i∧s'.length=data.length∧uns s'≤uns S1∧foC (fo data f) (D.cons.drop i) s'=foC (fo data f) D.cons S1∧H'=G s') D.cons.length ?_ ?_
    ·intro _;exact⟨0,S1,by omega,rfl,rfl,hS1l,aa _,by simp,rfl⟩
    ·rintro q t36 H' ⟨i,s',hi,rfl,rfl,hs',hu',hrem,rfl⟩ hsc6 hlen6 hsF6 Kb6 hKb6;by_cases hil:i<D.cons.length
     ·obtain⟨hal,hat⟩:=htyp _ (ae hil);rw[af hil,foC]at hrem;generalize hCi:D.cons[i]=C at *;simp[zuR,hil,hCi,Con.cs,hGl];refine zUP (Inv:=λq t43 H'=>∃(j:Nat) (s2:List Bool),j≤C.args.length∧C.args.length-j=q∧t43=.int .i64 j∧s2.length=data.length∧uns s2≤uns s'∧foL (fo data f) (C.args.drop j) s2=foL (fo data f) C.args s'∧H'=G s2++[.cells [.str C.name,.sl (VT.css C.args) .none]]) C.args.length ?_ ?_
      ·intro _;exact⟨0,s',by omega,rfl,rfl,hs',aa _,by simp,rfl⟩
      ·rintro q t43 H' ⟨j,s2,hj,rfl,rfl,hs2,hu2,hrem2,rfl⟩ hsc9 hlen9 hsF9 Kb9 hKb9;by_cases hjl:j<C.args.length
       ·have hx:=hat _ (ae hjl);obtain⟨x1,x2,x3,hvx,hxa,hxb,hxc⟩:=zaO C.args[j];rw[af hjl,foL]at hrem2;simp[zuS,hjl,hvx,hGl,zcB (g0 s2),zcB (g2 s2),g0e,g2e];refine⟨⟨hxa,hxb,hxc⟩,?_⟩;rw[←hvx];obtain⟨k1,k2⟩:=keep C.args[j] s2;have hx2:=hx.1;refine one C.args[j] hx s2 hs2 (by have:=aq 201 (aC hu2 hu');omega) _ _ ?_;cases hr:(fo data f C.args[j] s2).1 with
        |true=>rw[hr,aB rfl]at hrem2;simp;rw[wi j (by omega)];exact hKb9 _ _ ⟨C.args.length-(j+1),by omega,Back.at (J:=[.cells (C.args[j]).cs]) (H2:=G (fo data f C.args[j] s2).2++[.cells [.str C.name,.sl (VT.css C.args) .none]]) (by simp) (by simp[hGl]) ((hGs _).append (by simp[AB.sc,AV.scA,AV.scB])) (by simp[zoe,ux,AV.sc,AV.scA,AV.scB,AV.scV,hGl];omega) ⟨_,rfl,j+1,_,by omega,rfl,rfl,by omega,by omega,hrem2,rfl⟩⟩
        |false=>rw[hr,ap (by simp)]at hrem2;rw[←hrem2,ap (by simp)]at hrem;rw[←hrem,ap (by simp)]at hr9;simp;have:=hout [.cells [.str C.name,.sl (VT.css C.args) .none],.cells (C.args[j]).cs];rw[hr9]at this;simpa using this
       ·obtain rfl:j=C.args.length:=by omega
        rw[au,foL]at hrem2;rw[←hrem2,aB rfl]at hrem;simp[zuS];rw[wi i (by omega)];exact hKb6 _ _ ⟨D.cons.length-(i+1),by omega,Back.at (J:=[.cells [.str C.name,.sl (VT.css C.args) .none]]) (H2:=G s2) rfl (by simp[hGl]) (hGs _) (by simp[zod,ux,AV.sc,AV.scA,AV.scB,AV.scV,hGl]) ⟨_,rfl,i+1,s2,by omega,rfl,rfl,hs2,by omega,hrem,rfl⟩⟩
     ·obtain rfl:i=D.cons.length:=by omega
      rw[au,foC]at hrem;rw[←hrem,aB rfl]at hr9;simp[zuR];exact args s' hs' (by omega) hr9
  ·have b5:(k == 5)=false:=by simpa using h5
   simp[b5,g1 s];refine args s hsl (aa _) ?_;rw[hr9];simp[foD,h5]
def zb4(data:List Dat)(t:VT):Bool:=zcW data t && (fo data 3000 t (List.replicate data.length false)).1
theorem zcn{H:zaa}{p:(AV→zaa→Prop)→Prop}{k:AV→zaa→Prop}(r:AV)(H':zaa)(h:p λv H2=>v=r∧H2=H')(hk:k r H'):zbl .w false H p k:=⟨r,H',h,(λh=>by cases h),hk⟩
theorem zjR{data:List Dat}{t:VT}(h:zcW data t=true):zaB data=true∧zaD data 0 t=true:=by unfold zcW at h;simpa using h
theorem zpD{data:List Dat}{t:VT}(h:zcW data t=true):TyIn data t:=by have h2:=(zjR h).2;have hn:=zfB h2;simp[zaD]at h2;exact⟨hn,0,h2.2⟩
theorem zC8{data:List Dat}(hF:zdW data)(hl:data.length≤1000000)(t:VT)(ht:zbw t)(H:zaa)(K:Kt)(hK:K (.bool (zb4 data t)) H):
  ACalls tP zkD [.sl (data.map Dat.cs) .none,.agg t.cs] H K:=by
 refine ACalls.out (zR8 λhs=>?_);obtain⟨x,y,z,hvx,hx,hy,hz⟩:=zaO t;simp[zC7,hvx];rw[←hvx];refine zcn (.bool (zcW data t)) _ (zTQ data hF hl t ht ⟨rfl,rfl⟩) ?_;have hO:∀b J,zb4 data t=b→Out H.length K (.bool b) (H++J):=λb J h=>Out.bool rfl (aa _) hs (h ▸ hK);cases hf:zcW data t with
 |false=>simp;exact hO _ _ (by simp[zb4,hf])
 |true=>
  have hD:=(zjR hf).1;have hdl:=zfW hD;have hti:=zpD hf;simp[za9,zpk];refine zcn (.ms (H++[AB.cells t.cs]).length 0 data.length data.length) (H++[.cells t.cs,.cells (zaH (List.replicate data.length false))]) ⟨⟨by omega,by omega⟩,by simp[zaH]⟩ ?_;have hg:(H++[AB.cells t.cs,.cells (zaH (List.replicate data.length false))])[(H++[AB.cells t.cs]).length]?=some (.cells (zaH (List.replicate data.length false))):=by simp[List.getElem?_append]
  refine zcn _ _ (zG2 hD 3000 t (List.replicate data.length false) hti (by simp) (by have h1:uns (List.replicate data.length false)≤data.length:=by { unfold uns;exact aC List.countP_le_length (by simp) };have:=hti.1;omega) _ _ hg _ ⟨rfl,rfl⟩) ?_;simp;have hr:=hO (fo data 3000 t (List.replicate data.length false)).1 [.cells t.cs,.cells (zaH (fo data 3000 t (List.replicate data.length false)).2)] (by simp[zb4,hf]);simpa[ai]using hr
theorem zjX(data:List Dat):∀ vs ts:List VT,zcs data vs ts=zbY (zaE data) vs ts
 |[],[]=>by simp[zcs,zbY]
 |[],_::_=>by simp[zcs,zbY]
 |_::_,[]=>by simp[zcs,zbY]
 |v::vs,t::ts=>by simp[zcs,zbY,zjX data vs ts]
theorem zGk:zdE tP zqu=true:=by kernel_rfl
theorem zGj:zdE tP zqa=true:=by kernel_rfl
theorem zzY{data:List Dat}{k n:Int}{ks:List VT}(h:zaG data 0 (.mk k n ks)=true):(k=1∧ks=[])∨(k=2∧ks=[])∨(k=3∧ks=[])∨k=5∨(k=6∧2≤ks.length)∨(k=7∧ks.length=1)∨(k=8∧ks.length=1)∨(k=9∧1≤ks.length):=by
 rw[zaG,ac]at h;have h:=h.1;unfold zaK at h;by_cases h1:k=1
 ·subst h1;simp at h;simp[h.2]
 by_cases h2:k=2
 ·subst h2;simp at h;simp[h.2]
 by_cases h3:k=3
 ·subst h3;simp at h;simp[h.2]
 by_cases h4:k=4
 ·subst h4;simp at h;omega
 by_cases h5:k=5
 ·subst h5;simp
 by_cases h6:k=6
 ·subst h6;simp at h;simp;omega
 by_cases h7:k=7
 ·subst h7;simp at h;simp;omega
 by_cases h8:k=8
 ·subst h8;simp at h;simp;omega
 by_cases h9:k=9
 ·subst h9;simp at h;simp;omega
 simp[h1,h2,h3,h4,h5,h6,h7,h8,h9]at h
structure DOk (data:List Dat):Prop where
 ok:zaB data=true
theorem zj4{data:List Dat}(h:zaB data=true):data.length≤1000000∧(∀d∈data,∀c∈d.cons,c.args.length≤1000∧∀x∈c.args,x.nodes≤1000)∧∀d∈data,d.cons.length≤1000000:=by
 refine⟨by have:=zfW h;omega,λD hD c hc=>?_,λD hD=>?_⟩
 ·obtain⟨i,hi,rfl⟩:=aO.1 hD;obtain⟨h1,h2⟩:=zfc h hi c hc;exact⟨by omega,λx hx=>by have:=(h2 x hx).1;omega⟩
 ·obtain⟨i,hi,rfl⟩:=aO.1 hD;have:=zh0 h hi;omega
section
variable {data:List Dat} (hD:DOk data)
def zo0(data:List Dat)(v:VT):Prop:=∀(t:VT),zaD data 0 t=true→∀(H:zaa) (K:AV→zaa→Prop),K (.bool (zaE data v t)) H→ACalls tP zkI [.sl (data.map Dat.cs) .none,.agg v.cs,.agg t.cs] H K
theorem zvF(vs ts:List VT)(hl:vs.length≤1000000)(hv:∀ v∈vs,zo0 data v)(ht:∀ t∈ts,zaD data 0 t=true)(H:zaa)(K:AV→zaa→Prop)(hK:K (.bool (zcs data vs ts)) H):
  ACalls tP ziG [.sl (data.map Dat.cs) .none,.sl (VT.css vs) .none,.sl (VT.css ts) .none] H K:=by
 refine ACalls.out (zW9 λhs=>?_);simp[zE7];refine⟨rfl,zGZ (zaE data) _ vs ts _ (by simp[AV.sc,AV.scV,AV.scA,AV.scB]) ?_ (by omega) _ ?_⟩
 ·intro i h1 h2 hle J K' hK';simp[aCallV,zGk];refine ACalls.out (zOd λhs1=>?_);obtain⟨x,y,z,hvx,hx,hy,hz⟩:=zaO vs[i];obtain⟨x2,y2,z2,hvx2,hx2,hy2,hz2⟩:=zaO ts[i];simp[zBO,hvx,hvx2];rw[←hvx,←hvx2];refine hv _ (ae h1) _ (ht _ (ae h2)) _ _ ?_;refine Out.bool (H2:=H++[.cells [.sl (data.map Dat.cs) .none]]++J) (J:=[.cells (vs[i]).cs,.cells (ts[i]).cs]) (by simp) (by simp) (by simpa using hs1) (by simpa using hK')
 ·rw[←zjX];exact Out.bool rfl (aa _) hs hK
theorem i0(n:Nat):((n:Int) == 0)=(n == 0):=by rw[bN];simp
theorem zxb{ks:List VT}(h:0<ks.length):ks.getD 0 (.mk 0 0 [])=ks[0]:=by simp[List.getD_eq_getElem?_getD,h]
theorem zxg{data:List Dat}{t:VT}{vs:List VT}{i:Nat}(h:i<vs.length):zcI data (vs.drop i) t=(zaE data vs[i] t && zcI data (vs.drop (i+1)) t):=by rw[af h,zcI]
include hD in
theorem ya4:∀(m:Nat) (v:VT),v.nodes≤m→v.nodes≤1000000→zo0 data v:=by
 intro m;induction m with
 |zero=>intro v h;have:=v.nodes_pos;omega
 |succ m ih=>
  intro v hm hb t ht H K hK;obtain⟨vk,vn,vks⟩:=v;obtain⟨k,n,ks⟩:=t;refine ACalls.out (zTV λhs=>?_);have hO:∀b J,zaE data (.mk vk vn vks) (.mk k n ks)=b→Out H.length K (.bool b) (H++J):=λb J h=>Out.bool rfl (aa _) hs (h ▸ hK);have hll:=VT.len_le vks;have hnn:(VT.mk vk vn vks).nodes=VT.nodesL vks+1:=by simp[VT.nodes]
  have hkids:∀x∈vks,zo0 data x:=λx hx=>ih x (by have:=zj5 (k:=vk) (n:=vn) x hx;omega) (by have:=zg3 (k:=vk) (n:=vn) x hx;omega);have htk:=zfA ht;have hto:zaG data 0 (.mk k n ks)=true:=by rw[zaD,ac]at ht;exact ht.2
  have htn:(VT.mk k n ks).nodes≤200:=by rw[zaD,ac]at ht;exact ct ht.1
  obtain⟨f1,f2,f3⟩:=zj4 hD.ok;rcases zzY hto with ⟨rfl,rfl⟩|⟨rfl,rfl⟩|⟨rfl,rfl⟩|rfl|⟨rfl,hk⟩|⟨rfl,hk⟩|⟨rfl,hk⟩|⟨rfl,hk⟩
  ·simp[ze2,VT.cs,ag];cases h1:(vk == 3) <;> simp
   ·exact hO _ _ (by simp[zaE,h1])
   by_cases h2:-1099511627776≤vn <;> simp[h2]
   ·by_cases h3:vn≤1099511627776 <;> simp[h3]
    ·exact hO _ _ (by simp[zaE,h1,h2,h3,i0])
    ·exact hO _ _ (by simp[zaE,h1,h2,h3])
   ·exact hO _ _ (by simp[zaE,h1,h2])
  ·simp[ze2,VT.cs,ag];cases h1:(vk == 2) <;> simp
   ·exact hO _ _ (by simp[zaE,h1])
   cases h2:(vn == 0) <;> simp[ag]
   ·cases h3:(vn == 1) <;> simp
    ·exact hO _ _ (by simp[zaE,h1,h2,h3])
    ·exact hO _ _ (by simp[zaE,h1,h2,h3,i0])
   ·exact hO _ _ (by simp[zaE,h1,h2,i0])
  ·simp[ze2,VT.cs,ag];cases h1:(vk == 1) <;> simp
   ·exact hO _ _ (by simp[zaE,h1])
   cases h2:(vn == 0) <;> simp[ag]
   ·exact hO _ _ (by simp[zaE,h1,h2])
   ·exact hO _ _ (by simp[zaE,h1,h2,i0])
  ·-- a data type
   simp[ze2,VT.cs,ag];cases h1:(vk == 5) with
   |false=>
    have:(vk != 5)=true:=by simp[bne,h1]
    simp[this];exact hO _ _ (by simp[zaE,h1])
   |true=>
   have h1':(vk != 5)=false:=by simp[bne,h1]
   by_cases h2:vn<0
   ·simp[h1',h2];exact hO _ _ (by simp[zaE,h1];omega)
   by_cases h3:8≤vn
   ·simp[h1',h2,h3];exact hO _ _ (by simp[zaE,h1];omega)
   simp[h1',h2,h3,ag];have e:∀o,za7 data (.mk 5 n ks) vn=o→zaE data (.mk vk vn vks) (.mk 5 n ks)=zfj data vks o:=λo ho=>by
    have q1:0≤vn:=by omega
    have q2:vn<8:=by omega
    simp[zaE,h1,q1,q2,ho]
   have hcs:(VT.mk 5 n ks).cs=[.int .i64 5,.int .i64 n,.sl (VT.css ks) .none]:=rfl;rw[←hcs];refine zFb data f1 f2 f3 (.mk 5 n ks) (by omega) vn _ _ ?_;cases hf:za7 data (.mk 5 n ks) vn with
   |none=>simp[zcV];exact hO _ _ (by rw[e _ hf,zxh])
   |some l=>simp[zcV,hcs];refine zvF vks l (by omega) hkids (zjQ hD.ok hto hf) _ _ ?_;exact hO _ _ (by rw[e _ hf,zxi])
  ·simp[ze2,VT.cs,ag];cases h1:(vk == 4) <;> simp
   ·exact hO _ _ (by simp[zaE,h1])
   cases h2:(vn == 0) <;> simp[ag]
   ·exact hO _ _ (by simp[zaE,h1,h2])
   refine zvF vks ks (by omega) hkids htk _ _ ?_;exact hO _ _ (by simp[zaE,h1,h2])
  ·-- an array
   simp[ze2,VT.cs,ag];cases h1:(vk == 6) <;> simp
   ·exact hO _ _ (by simp[zaE,h1])
   cases h2:(vn == 0) <;> simp[ag]
   ·exact hO _ _ (by simp[zaE,h1,h2])
   by_cases h3:vks.length≤4096;case neg=>
    have h3':¬(vks.length:Int)≤4096:=by omega
    simp[h3,h3'];exact hO _ _ (by simp[zaE,h1,h2,h3])
   have h3':(vks.length:Int)≤4096:=by omega
   simp[h3,h3'];refine⟨⟨rfl,rfl⟩,?_⟩;have hk0:0<ks.length:=by omega
   have e:zaE data (.mk vk vn vks) (.mk 7 n ks)=zcI data vks ks[0]:=by have:=zxb hk0;simp[zaE,h1,h2,h3,this,hk0]
   refine zGE vks (by omega) _ _ _ (by simp[AV.sc,AV.scV,AV.scA,AV.scB]) (λi H'=>H'=H++[.cells [.sl (data.map Dat.cs) .none],.cells [.int .i64 vk,.int .i64 vn,.sl (VT.css vks) .none],.cells [.int .i64 7,.int .i64 n,.sl (VT.css ks) .none]]∧zcI data (vks.drop i) ks[0]=zcI data vks ks[0]) ⟨rfl,by simp⟩ ?_ ?_
   ·rintro i hi H' hle ⟨rfl,ho⟩;rw[zxg hi]at ho;simp[aCallV,zGj];refine ACalls.out (zKY λhs1=>?_);obtain⟨x,y,z,hvx,hx,hy,hz⟩:=zaO vks[i];obtain⟨x2,y2,z2,hvx2,hx2,hy2,hz2⟩:=zaO ks[0];simp[zAn,hvx,hk0,hvx2,ag];rw[←hvx,←hvx2];refine zaC (.bool (zaE data vks[i] ks[0])) (λJ=>hkids _ (ae hi) ks[0] (htk _ (ae hk0)) _ _ ⟨rfl,rfl⟩) ?_;simp;cases hb:zaE data vks[i] ks[0] with
    |true=>rw[hb,aR]at ho;exact Out.bool (H2:=H++[.cells [.sl (data.map Dat.cs) .none],.cells [.int .i64 vk,.int .i64 vn,.sl (VT.css vks) .none],.cells [.int .i64 7,.int .i64 n,.sl (VT.css ks) .none]]) (J:=[_]) (by simp;rfl) (by simp) hs1 (.inl ⟨rfl,rfl,ho⟩)
    |false=>rw[hb,aL]at ho;refine Out.bool (H2:=H++[.cells [.sl (data.map Dat.cs) .none],.cells [.int .i64 vk,.int .i64 vn,.sl (VT.css vks) .none],.cells [.int .i64 7,.int .i64 n,.sl (VT.css ks) .none]]) (J:=[_]) (by simp;rfl) (by simp) hs1 (.inr ⟨rfl,?_⟩);exact hO _ _ (by rw[e,←ho])
   ·rintro H' ⟨rfl,ho⟩;rw[au,zcI]at ho;simp;exact hO _ _ (by rw[e,←ho])
  ·simp[ze2,VT.cs,ag];cases h1:(vk == 7) <;> simp
   ·exact hO _ _ (by simp[zaE,h1])
   cases h2:(vn == 0) <;> simp[ag]
   ·exact hO _ _ (by simp[zaE,h1,h2])
   refine zvF vks ks (by omega) hkids htk _ _ ?_;exact hO _ _ (by simp[zaE,h1,h2])
  ·simp[ze2,VT.cs,ag];cases h1:(vk == 8) <;> simp
   ·exact hO _ _ (by simp[zaE,h1])
   by_cases h2:0≤vn <;> simp[h2]
   ·by_cases h3:vn<64 <;> simp[h3]
    ·exact hO _ _ (by simp[zaE,h1,h2,h3,i0])
    ·exact hO _ _ (by simp[zaE,h1,h2,h3])
   ·exact hO _ _ (by simp[zaE,h1,h2])
end
def zpW:VT→List VT
 |.mk _ _ ks=>ks
inductive Trm (data:List Dat):VT→Prop
 |mk (t:VT) (hk:∀x∈zpW t,Trm data x) (hf:∀c l,za7 data t c=some l→∀u∈l,u≠t→Trm data u):Trm data t
theorem zGy{data:List Dat}(hD:zaB data=true){d c:Nat}(hd:d<data.length)(hc:c<data[d].cons.length):∀x∈(data[d].cons[c]).args,zc6 data d data[d].vars x=true:=by simp only[zaB,ac,zjN,aF]at hD;have h1:=hD.1.1.2 d hd;simp only[zca,ac]at h1;have h2:=am.1 h1.2 _ (ae hc);simp only[zcU,ac]at h2;exactλx hx=>am.1 h2.2.2 x hx
theorem zKl{data:List Dat}(hD:zaB data=true):∀(m:Nat),m≤data.length→∀(vars:Int) (ks:List VT),(∀x∈ks,Trm data x)→(ks.length:Int)=vars→∀(s:Nat) (a:VT),a.nodes≤s→zaG (data.take m) vars a=true→Trm data (subst ks a):=by
 intro m;induction m using Nat.strongRecOn with
 |_ m ihm=>
 intro hm vars ks hks hl s;induction s with
 |zero=>intro a h;have:=a.nodes_pos;omega
 |succ s ih=>
  intro a hs ha;obtain⟨k,n,al⟩:=a;have ha0:=ha;rw[zaG,ac]at ha;unfold subst;by_cases h4:k=4
  ·have h1:=ha.1;subst h4;simp[zaK]at h1;rw[aB ⟨rfl,by omega,by omega⟩];have hn:n.toNat<ks.length:=by omega
   rw[List.getElem?_eq_getElem hn];exact hks _ (ae hn)
  ·rw[ap (λh=>h4 h.1)];have hkids:∀ x∈zaR ks al,Trm data x:=λx hx=>by rw[zen]at hx;obtain⟨y,hy,rfl⟩:=aV.1 hx;have:=zj5 (k:=k) (n:=n) y hy;exact ih y (by omega) (zrR ha0 y hy)
   refine .mk _ hkids λc l hf u hu hne=>?_;obtain⟨rfl,hn0,hc0,hn,hc,hv,rfl,_⟩:=zgY hf;obtain⟨b,hb,rfl⟩:=aV.1 hu;have hb2:=zGy hD hn hc b hb;simp only[zc6,zaD,ac,bB,bY]at hb2;have hnn:((n.toNat:Nat):Int)=n:=by omega
   rcases hb2.2 with hself|hment
   ·rw[hnn]at hself;exact absurd (zI0 hself hv) hne
   ·have h3:=hb2.1.2;rw[zrS data _ _ b (by simpa using hment)]at h3;have hlt:n.toNat<m:=by
     have h1:=ha.1;by_cases hc2:n.toNat<m
     ·exact hc2
     ·simp[zaK,ziS,hc2]at h1
    exact ihm n.toNat hlt (by omega) _ _ hkids hv b.nodes b (aa _) h3
theorem zKm{data:List Dat}(hD:zaB data=true){t:VT}(ht:zaG data 0 t=true):Trm data t:=by have:=zKl hD data.length (aa _) 0 [] (λx hx=>by simp at hx) rfl t.nodes t (aa _) (by rw[aw];exact ht);rwa [zrz]at this
section
open Go.Lib
open Go.RowKit
variable {P:Program} {B:Nat} {w:World}
end
section
open Go.Lib
open Go.RowKit
variable {P:Program} {B:Nat} {w:World} {G:Gh} {H:zaa}
theorem HRel.dead(h:HRel B w G H){id e s n:Nat}(hH:H[id]?=some (.perm e s n)):HRel B w G (H.set id .dead):=by
 refine⟨by simp[h.len],?_,h.dist,h.fresh,h.lt,h.base⟩;intro i ab gi h1 h2;by_cases hi:i=id
 ·subst hi;rw[List.getElem?_set_self (List.getElem?_eq_some_iff.1 hH).1]at h1;cases h1;have hok:=h.ok i _ _ hH h2;cases gi with
  |blk b=>exact hok.elim
  |gap=>exact hok.elim
  |own v s' n'=>
   obtain⟨rfl,rfl,⟨xs,hl,⟨rfl,_⟩|⟨g,cap,cur,rfl,k1,k2,k3,k4,k5,k6⟩⟩,hL⟩:=hok
   ·intro b hb;cases hb
   ·intro b hb;simp[Value.ownBlock]at hb;subst hb;exact⟨cur,e,_,k2,by rw[hL g rfl,k5];exact aq _ k3⟩
 ·rw[List.getElem?_set_ne (λh=>hi h.symm)]at h1;exact h.ok i ab gi h1 h2
theorem HRel.other(h:HRel B w G H)(o:Obj):Ext B w G (w.alloc o) G∧HRel B (w.alloc o) G H:=by have he:=Ext.alloc h o G.L (λ_ _=>rfl) [];simp only[aE]at he;refine⟨he,h.keep he rfl (λid gi b h1 h2=>⟨zdp (h.lt id gi b h1 h2),rfl⟩) (λb hb=>?_)⟩;rw[zcj]at hb;exact h.fresh b (by omega)
end
section
open Go.RowKit
open Go.Sort
variable {P:Program} {B:Nat} {w:World} {G:Gh} {H:zaa}
end
section
open Go.RowKit
variable {P:Program} {B:Nat} {w:World} {G:Gh} {H:zaa}
theorem HRel.newVec(h:HRel B w G H)(e size:Nat):Ext B w G w ⟨G.L,G.μ++[.own (.slice none 0 0) size 0]⟩∧HRel B w ⟨G.L,G.μ++[.own (.slice none 0 0) size 0]⟩ (H++[.vec e size 0 []]):=by
 obtain⟨hE,hH⟩:=h.newOwn e size;refine⟨hE,by simpa using hH.len,λid ab gi h1 h2=>?_,hH.dist,hH.fresh,hH.lt,hH.base⟩;by_cases hlt:id<H.length
 ·rw[List.getElem?_append_left hlt]at h1;exact hH.ok id ab gi (by rw[List.getElem?_append_left hlt];exact h1) h2
 ·have hlt2:=(List.getElem?_eq_some_iff.1 h2).1;simp[h.len]at hlt2;obtain rfl:id=H.length:=by omega
  simp at h1;have h2:(G.μ++[GI.own (.slice none 0 0) size 0])[H.length]?=some gi:=h2;rw[←h.len]at h2;simp at h2;subst h1 h2;exact⟨rfl,rfl,⟨[],World.ownsRow_nil w B e size,trivial⟩,λb hb=>by simp[Value.ownBlock]at hb⟩
theorem HRel.ovCell(h:HRel B w G H){id j:Nat}{cs:List AV}(e size:Nat)(hid:H[id]?=some (.cells cs))(hj:cs[j]?=some .snil):
  ∃G',Ext B w G w G'∧HRel B w G' (H.set id (.cells (cs.set j (.ov H.length 0)))++[.vec e size 0 []]):=by
 obtain⟨hE,hH'⟩:=h.newVec e size;refine⟨_,hE,?_⟩;have hlt:=(List.getElem?_eq_some_iff.1 hid).1;have:=hH'.reCell (id:=id) (cs:=cs) (cs':=cs.set j (.ov H.length 0)) (by rw[List.getElem?_append_left hlt];exact hid) (λvs hvs=>by
  obtain⟨v,h1,h2⟩:=All2.get hvs hj;have h2:v=.slice none 0 0:=h2;subst h2;have hset:vs=vs.set j (.slice none 0 0):=by
   apply aI;intro k;by_cases hk:k=j
   ·subst hk;rw[List.getElem?_set_self (List.getElem?_eq_some_iff.1 h1).1];exact h1
   ·rw[List.getElem?_set_ne (λh=>hk h.symm)]
  rw[hset];refine All2.set j hvs ?_;refine⟨⟨none,0,rfl,λh=>absurd h (by omega),aa _⟩,.slice none 0 0,size,0,?_,aa _,λ_=>rfl⟩;rw[←h.len];simp)
 rwa [a6 _ _ hlt]at this
theorem ACalls.ovC{f:FuncId}{args:List AV}{K:AV→zaa→Prop}{id j:Nat}{cs:List AV}(e size:Nat)(hid:H[id]?=some (.cells cs))(hj:cs[j]?=some .snil)(h:ACalls P f args (H.set id (.cells (cs.set j (.ov H.length 0)))++[.vec e size 0 []]) K):ACalls P f args H K:=by
 intro B w G vs hH hv;obtain⟨G',hE,hH'⟩:=hH.ovCell e size hid hj;refine(h B w G' vs hH' (hv.mono λ_ _=>hE.trel)).mono λe' w' hp=>?_;obtain⟨v,r,H',G'',h1,h2,h3⟩:=hp;exact⟨v,r,H',G'',h1,hE.trans h2,h3⟩
end
section
open Go.RowKit
open Go.Shelf
def zAl:Go.Shelf.Ren:=⟨λ| 156=>158|165=>183|166=>184|169=>185|240=>201|241=>202|276=>210|277=>211|n=>n,λ| 31=>94|9=>9|3=>3|4=>4|0=>0|20=>20|72=>225|76=>229|70=>222|37=>223|75=>228|127=>248|164=>255|5=>5|80=>231|n=>n,λ| n=>n⟩
theorem zAj:Go.Proofs.Lays.n156 tP zAl:={
 mixed:=by kernel_rfl
 f156:=Tryz.func158.trans (congrArg some (by kernel_rfl))
 f165:=Tryz.func183.trans (congrArg some (by kernel_rfl))
 f166:=Tryz.func184.trans (congrArg some (by kernel_rfl))
 f169:=Tryz.func185.trans (congrArg some (by kernel_rfl))
 f240:=Tryz.func201.trans (congrArg some (by kernel_rfl))
 f241:=Tryz.func202.trans (congrArg some (by kernel_rfl))
 f276:=Tryz.func210.trans (congrArg some (by kernel_rfl))
 f277:=Tryz.func211.trans (congrArg some (by kernel_rfl))
 t0:=Tryz.underlying0
 a0:=Tryz.isAgg0
 z0:=Tryz.sizeOf0
 v0:=Tryz.zeroValue0
 t3:=Tryz.underlying3
 a3:=Tryz.isAgg3
 z3:=Tryz.sizeOf3
 v3:=Tryz.zeroValue3
 t4:=Tryz.underlying4
 a4:=Tryz.isAgg4
 z4:=Tryz.sizeOf4
 v4:=Tryz.zeroValue4
 t9:=Tryz.underlying9
 a9:=Tryz.isAgg9
 z9:=Tryz.sizeOf9
 v9:=Tryz.zeroValue9
 t20:=Tryz.underlying20
 a20:=Tryz.isAgg20
 z20:=Tryz.sizeOf20
 v20:=Tryz.zeroValue20
 t31:=Tryz.underlying94
 a31:=Tryz.isAgg94
 z31:=Tryz.sizeOf94
 v31:=Tryz.zeroValue94
 t37:=Tryz.underlying223
 a37:=Tryz.isAgg223
 z37:=Tryz.sizeOf223
 v37:=Tryz.zeroValue223
 t70:=Tryz.underlying222
 a70:=Tryz.isAgg222
 z70:=Tryz.sizeOf222
 v70:=Tryz.zeroValue222
 t72:=Tryz.underlying225
 a72:=Tryz.isAgg225
 z72:=Tryz.sizeOf225
 v72:=Tryz.zeroValue225
 t75:=Tryz.underlying228
 a75:=Tryz.isAgg228
 z75:=Tryz.sizeOf228
 v75:=Tryz.zeroValue228
 t76:=Tryz.underlying229
 a76:=Tryz.isAgg229
 z76:=Tryz.sizeOf229
 v76:=Tryz.zeroValue229
 t127:=Tryz.underlying248
 a127:=Tryz.isAgg248
 z127:=Tryz.sizeOf248
 v127:=Tryz.zeroValue248
 t164:=Tryz.underlying255
 a164:=Tryz.isAgg255
 z164:=Tryz.sizeOf255
 v164:=Tryz.zeroValue255 }
theorem zAk:Go.Proofs.Builder.Extra tP zAl:={
 sizeBuilder:=by kernel_rfl
 liesBuilder:=by kernel_rfl
 t5:=Tryz.underlying5
 a5:=Tryz.isAgg5
 z5:=Tryz.sizeOf5
 v5:=Tryz.zeroValue5
 infoByte:=by kernel_rfl
 cellsByte:=by kernel_rfl
 sizeByte:=by kernel_rfl
 neB5:=by decide }
theorem zIc{B:Nat}{w:World}{G:Gh}{H:zaa}(h:HRel B w G H)(h0:H[0]?=some .nodr):ze4 G:=by
 have hl:0<G.μ.length:=by rw[h.len];exact(List.getElem?_eq_some_iff.1 h0).1
 have hok:=h.ok 0 _ _ h0 (List.getElem?_eq_getElem hl);cases hg:G.μ[0] with
 |blk b=>rw[hg]at hok;exact hok.elim
 |gap=>rw[hg]at hok;exact hok.elim
 |own v s n=>rw[hg]at hok;have hv:v=.nilFunc:=hok;subst hv;exact⟨s,n,by rw[List.getElem?_eq_getElem hl,hg]⟩
theorem zxo{B:Nat}{w w':World}{G:Gh}{H:zaa}(h:HRel B w G H)(h0:H[0]?=some .nodr)(hb:Below w.heap.size w w'):Ext B w G w' G∧HRel B w' G H:=by have he:Ext B w G w' G:=⟨⟨λk=>absurd (zIc h h0) k,λk=>k⟩,hb.mono h.base,λ_=>aa _,λb off ho=>hb.cell (p:=⟨b,off,none⟩) (zhS h ho),λ_ gi hg=>⟨gi,hg,gi.le_refl⟩⟩;exact⟨he,h.keep he rfl (λid gi b h1 h2=>⟨hb.block b (h.lt id gi b h1 h2),rfl⟩) λb hbb=>h.fresh b (aC hb.size hbb)⟩
def zbH(l:List (List UInt8)):List (List AV):=l.map λs=>[.str s]
@[simp] theorem zJ2(l:List (List UInt8)):(zbH l).length=l.length:=by simp[zbH]
theorem zB5(l:List (List UInt8))(sep:List UInt8)(hn:l.length≤1000000)(hl:(Lib.join l sep).length≤1000000000)(H:zaa)(h0:H[0]?=some .nodr)(K:AV→zaa→Prop)(hK:K (.str (Lib.join l sep)) H):
  ACalls tP zqy [.sl (zbH l) .none,.str sep] H K:=by
 intro B w G ⟨vs⟩ hH hv
 match vs,hv with
 |[v0,v1],⟨e0,e1,_⟩=>
  have e0:DRel w G.L v0 (.sl (zbH l) .none):=e0;have e1:v1=.string ⟨sep.toArray⟩:=e1;subst e1;have hmap:(l.map λs=>(⟨s.toArray⟩:ByteArray)).map (λb=>b.data.toList)=l:=by simp[cK,Function.comp_def]
  generalize hx:AV.sl (zbH l) .none=x at e0;cases e0 with
  |slE a cap=>
   have hl0:l=[]:=by
    injection hx with h1
    simpa[zbH]using h1
   subst hl0;refine((Any.strings_Join_none zAj zAk a cap ⟨sep.toArray⟩ w:Calls tP 158 _ _ _)).mono ?_;rintro e w' ⟨rfl,rfl⟩;obtain⟨h1,h2⟩:=zxo hH h0 (Below.refl _ _);exact⟨_,.str (Lib.join [] sep),H,G,rfl,h1,h2,rfl,hK⟩
  |sl b off cap esz es vs hne hcap hL hsz hc hd=>
   injection hx with h1
   subst h1;have hpos:0<l.length:=by
    cases l with
    |nil=>simp[zbH]at hne
    |cons a l=>simp
   have hesz:esz=1:=by have:=hsz 0 (by simpa using hpos);simp[zbH]at this;exact this.symm
   subst hesz;have hcell:∀(j:Nat) x,(l.map λs=>(⟨s.toArray⟩:ByteArray))[j]?=some x→w.cell? ⟨b,off+j,none⟩=some (.string x):=λj x hj=>by
    rw[List.getElem?_map]at hj;cases hs:l[j]? with
    |none=>rw[hs]at hj;cases hj
    |some s=>
     rw[hs]at hj;cases hj;obtain⟨hj1,hs1⟩:=List.getElem?_eq_some_iff.1 hs;have hj2:j<(zbH l).length:=by simpa using hj1
     have hlen1:0<((zbH l)[j]).length:=by rw[hsz j hj2];omega
     have h3:=hc j 0 hj2 hlen1;have h4:=hd j 0 hj2 hlen1;have h5:((zbH l)[j])[0]=.str s:=by simp[zbH,hs1]
     rw[h5]at h4;generalize vs j 0=u at h3 h4;cases h4;simpa using h3
   have hbk:b<w.heap.size:=by
    have h3:=hcell 0 ⟨(l[0]).toArray⟩ (by simp[hpos]);by_cases hb:b<w.heap.size
    ·exact hb
    ·have:w.cell? ⟨b,off+0,none⟩=none:=by unfold World.cell?;simp[Array.getElem?_eq_none (cx hb)]
     rw[this]at h3;cases h3
   have hj:=(Any.strings_Join zAj zAk b off cap (l.map λs=>(⟨s.toArray⟩:ByteArray)) ⟨sep.toArray⟩ w hcell hbk (by simp;omega) (by simpa using hcap) (by rw[hmap];simp;omega));rw[hmap]at hj;simp only[aS]at hj;rw[zJ2];refine(show Calls tP 158 #[.slice (some ⟨b,off,none⟩) l.length cap,.string ⟨sep.toArray⟩] w _ from hj).mono ?_;rintro e w' ⟨rfl,hb⟩;obtain⟨h1,h2⟩:=zxo hH h0 hb;exact⟨_,.str (Lib.join l sep),H,G,rfl,h1,h2,rfl,hK⟩
  |_=>cases hx
end
section
variable (t0 t1 t3 t5 t11 t12 t13:AV) (H:zaa) (K:Kt) (Kb3:Lt)
def zVi(_:Nat):List Bool:=[]
noncomputable def zVj:=Tryz.f78.body.getD .skip
def zEp:=zaw t1 H λt3 H=>zae true 3 t3 H λt6=>ACalls tP zga [t0,t6,(.int .i64 101)] H λt7 H=>aUn .not t7 λt8=>zag t8 (K (.str []) H) (zae true 3 t3 H λt10=>ACalls tP zkg [t0,t10] H λt11 H=>K t11 H)
def zlO:Nat→List Bool|3=>rl false [0,1,2,1,1,1,5,3,72]|_=>[]
noncomputable def zsn:=Tryz.f111.body.getD .skip
noncomputable def zLN:=Tryz.f111.results.toList
def zlP:=t0::ux 2 (t3::ux 1 (t5::ux 5 (t11::t12::t13::ux 72 [])))
def zLL:=zlO 3
noncomputable def zLJ:=zas [1,1,0,1,0,0] zsn
def zLI:=zat tP zlO [1,1,0,1,0] zsn (zaA tP zLN K)
def zlQ:=ALoop tP zLJ (zLI K) (zlP t0 t3 t5 t11 t12 t13) H
def zsm:=zab .lss false t13 t12 λt14=>zag t14 (zai 3 t11 t13 λt15=>zae true 3 t15 H λt16=>zay [(.int .i64 0),(.int .i64 0),.snil] H λt7 H=>zam 3 t7 t16 H λH=>zae true 3 t7 H λt19=>ACalls tP zkg [t0,t19] H λt20 H=>zau 1 [(.str [])] 1 [(0,t20)] λt21=>zax zbx 1 16 t5 t21 H λt22 H=>zab .add false t13 (.int .i64 1) λt23=>Kb3 (zlP t0 t3 t22 t11 t12 t23) H) (ACalls tP zqy [t5,(.str [44,32])] H λt25 H=>zab .add false (.str [40]) t25 λt26=>zab .add false t26 (.str [41]) λt27=>zaf 0 t3 λt28=>zae false 1 t28 H λt29=>zab .eql false t29 (.int .i64 1) λt31=>zag t31 (K (.str [105,110,116]) H) (zab .eql false t29 (.int .i64 2) λt33=>zag t33 (K (.str [98,111,111,108]) H) (zab .eql false t29 (.int .i64 3) λt35=>zag t35 (K (.str [117,110,105,116]) H) (zab .eql false t29 (.int .i64 4) λt37=>zag t37 (zaf 1 t3 λt38=>zae false 1 t38 H λt39=>ACalls tP zH0 [t39] H λt40 H=>zab .add false (.str [97]) t40 λt41=>K t41 H) (zab .eql false t29 (.int .i64 7) λt43=>zag t43 (zab .add false (.str [97,114,114,97,121]) t27 λt45=>K t45 H) (zab .eql false t29 (.int .i64 8) λt47=>zag t47 (zab .add false (.str [114,101,102]) t27 λt49=>K t49 H) (zab .eql false t29 (.int .i64 9) λt51=>zag t51 (zah 1 t5 λt53=>zab .sub false t53 (.int .i64 1) λt54=>apm H t5 λt55=>apm H t54 λt56=>apu H (za1 1 1 t55 none (some t56)) λt57=>zaF H (λH K'=>ACalls tP zqy [t57,(.str [44,32])] H K') λt58=>apu H (zab .add false (.str [102,110,40]) t58) λt59=>apu H (zab .add false t59 (.str [41,32,45,62,32])) λt60=>apm H t5 λt61=>apm H t54 λt62=>apu H (zai 1 t61 t62) λt63=>apu H (zan false 1 t63 H) λt64=>apu H (zab .add false t60 t64) λt65=>apm H t65 λt4=>K t4 H) (zab .eql false t29 (.int .i64 5) λt67=>zag t67 (zah 1 t5 λt69=>zab .eql false t69 (.int .i64 0) λt70=>zag t70 (zaf 1 t3 λt72=>zae false 1 t72 H λt73=>zai 3 t0 t73 λt74=>zaf 0 t74 λt75=>zae false 1 t75 H λt76=>K t76 H) (zaf 1 t3 λt78=>zae false 1 t78 H λt79=>zai 3 t0 t79 λt80=>zaf 0 t80 λt81=>zae false 1 t81 H λt82=>zab .add false t82 t27 λt84=>K t84 H)) (K t27 H)))))))))
def zAv:=zaw t1 H λt3 H=>zaf 2 t3 λt10=>zae false 1 t10 H λt11=>zah 1 t11 λt12=>zlQ t0 t3 .snil t11 t12 (.int .i64 0) H K
variable {t0 t1 t3 t5 t11 t12 t13} {H} {K} {Kb3}
theorem zVk(h:HSc H→zEp t0 t1 H K):ACalls tP zqW [t0,t1] H K:=
 acb zVi Tryz.func78 zVj h
theorem zLK:Lo2 (λt5 t13=>zlP t0 t3 t5 t11 t12 t13) (λt5 t13 H Kb3=>zsm t0 t3 t5 t11 t12 t13 H K Kb3) t5 t13 H (zlQ t0 t3 t5 t11 t12 t13 H K):=lq2 zlO zLL
theorem zLM(h:HSc H→zAv t0 t1 H K):ACalls tP zkg [t0,t1] H K:=
 acb zlO Tryz.func111 zsn h
end
end Go.Proofs.YtaifokkaaahdoaaGreatDoor
