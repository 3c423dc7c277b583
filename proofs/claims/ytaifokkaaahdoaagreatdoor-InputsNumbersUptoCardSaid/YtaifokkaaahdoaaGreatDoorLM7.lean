import Derived.Test.YtaifokkaaahdoaaGreatDoorKNum
import Derived.Test.YtaifokkaaahdoaaGreatDoorProg
import Derived.KernelRfl
import Derived.Test.YtaifokkaaahdoaaGreatDoorLI9
import Derived.Test.YtaifokkaaahdoaaGreatDoorLA1
import Derived.Test.YtaifokkaaahdoaaGreatDoorLE3
import Derived.Test.YtaifokkaaahdoaaGreatDoorKGL6
set_option linter.unusedSectionVars false
set_option linter.unusedSimpArgs false
set_option linter.unusedVariables false
set_option maxRecDepth 100000
namespace Go.Proofs.YtaifokkaaahdoaaGreatDoor
section
variable (t0 t1 t2 t3 t7 t8 t31 t32 t46 t47 t48 t59 t60:AV) (H:zaa) (K:Kt) (Kb3 Kb4 Kb9 Kb16:Lt)
def zTW(_:Nat):List Bool:=[]
noncomputable def zTX:=Tryz.f7.body.getD .skip
def zq5:=zar [(.int .i64 0),(.int .i64 0),.snil] [(0,1),(1,1),(2,1)] [(0,(.int .i64 1))] λt8=>zau 3 [(.int .i64 0),(.int .i64 0),.snil] 1 [(0,t8)] λt9=>zar [(.int .i64 0),(.int .i64 0),.snil] [(0,1),(1,1),(2,1)] [(0,(.int .i64 5)),(2,t9)] λt10=>zay [(.int .i64 0),(.int .i64 0),.snil] H λt1 H=>zam 3 t1 t10 H λH=>zaF H (λH K'=>ACalls tP ziu [] H K') λt12=>apu H (zan true 3 t1 H) λt13=>zad H (λK'=>zau 1 [(.int .i64 0)] 2 [(0,(.int .i64 0)),(1,(.int .i64 1))] (K' · H)) λt14=>zaF H (λH K'=>ACalls tP zf3 [t12,t13,(.int .i64 1),t14] H K') λt15=>apm H t15 λt11=>apu H (zaI t11 0) λt16=>apu H (zaI t11 1) λt17=>apm H t16 λt2=>apm H t17 λt3=>zaF H (λH K'=>ACalls tP ziu [] H K') λt19=>apu H (zan true 3 t1 H) λt20=>zad H (λK'=>zau 1 [(.int .i64 0)] 2 [(0,(.int .i64 0)),(1,(.int .i64 1))] (K' · H)) λt21=>zaF H (λH K'=>ACalls tP zf3 [t19,t20,(.int .i64 2),t21] H K') λt22=>apm H t22 λt18=>apu H (zaI t18 0) λt23=>apu H (zaI t18 1) λt24=>apm H t23 λt4=>apm H t24 λt5=>zaF H (λH K'=>ACalls tP ziu [] H K') λt26=>apu H (zan true 3 t1 H) λt27=>zad H (λK'=>zau 1 [(.int .i64 0)] 2 [(0,(.int .i64 0)),(1,(.int .i64 1))] (K' · H)) λt28=>zaF H (λH K'=>ACalls tP zf3 [t26,t27,(.int .i64 5),t28] H K') λt29=>apm H t29 λt25=>apu H (zaI t25 0) λt30=>apu H (zaI t25 1) λt31=>apm H t30 λt6=>apm H t31 λt7=>zab .eql false t3 (.int .i64 0) λt33=>zac t33 true H (λK'=>K' t5 H) λt35 H=>zac t33 true H (λK'=>zab .eql false t35 (.int .i64 0) (K' · H)) λt36 H=>zak t33 t36 (.bool false) λt37=>zac t37 true H (λK'=>K' t7 H) λt39 H=>zac t37 true H (λK'=>zab .eql false t39 (.int .i64 0) (K' · H)) λt40 H=>zak t37 t40 (.bool false) λt41=>zac t41 true H (λK'=>K' t2 H) λt43 H=>zac t41 true H (λK'=>zah 1 t43 (K' · H)) λt44 H=>zac t41 true H (λK'=>zab .eql false t44 (.int .i64 1) (K' · H)) λt45 H=>zak t41 t45 (.bool false) λt46=>zac t46 true H (λK'=>K' t4 H) λt48 H=>zac t46 true H (λK'=>zah 1 t48 (K' · H)) λt49 H=>zac t46 true H (λK'=>zab .eql false t49 (.int .i64 0) (K' · H)) λt50 H=>zak t46 t50 (.bool false) λt51=>zac t51 true H (λK'=>K' t6 H) λt53 H=>zac t51 true H (λK'=>zah 1 t53 (K' · H)) λt54 H=>zac t51 true H (λK'=>zab .eql false t54 (.int .i64 4) (K' · H)) λt55 H=>zak t51 t55 (.bool false) λt56=>K t56 H
def zev:Nat→List Bool|4=>rl false [0,2,29,2,37]|9=>rl false [0,2,29,2,13,3,21]|16=>rl false [1,1,57,2,9]|_=>[]
noncomputable def zjr:=Tryz.f9.body.getD .skip
noncomputable def zED:=Tryz.f9.results.toList
def zot:=t0::t1::ux 29 (t31::t32::ux 37 [])
def zEC:=zev 4
noncomputable def zvc:=zas [1,1,0,1,0,0] zjr
def zEy:=zat tP zev [1,1,0,1,0] zjr (zaA tP zED K)
def zEA:=ALoop tP zvc (zEy K) (zot t0 t1 t31 t32) H
def zou:=t0::t1::ux 29 (t31::t32::ux 13 (t46::t47::t48::ux 21 []))
def zVM:=zev 9
noncomputable def zVH:=zas [1,1,0,0,1,1,1,0,0] zvc
def zVF:=zat tP zev [1,1,0,0,1,1,1,0] zvc (zbp zEC Kb4 (zEy K))
def zEB:=ALoop tP zVH (zVF K Kb4) (zou t0 t1 t31 t32 t46 t47 t48) H
def zor:=zab .lss false t48 t47 λt49=>zag t49 (zai 2 t46 t48 λt50=>zae true 2 t50 H λt51=>zay [(.str []),.snil] H λt11 H=>zam 2 t11 t51 H λH=>zaf 1 t11 λt52=>zae false 1 t52 H λt53=>zah 1 t53 λt54=>zab .gtr false t54 (.int .i64 3) λt55=>zag t55 (K (.bool false) H) (zab .add false t48 (.int .i64 1) λt56=>Kb9 (zou t0 t1 t31 t32 t46 t47 t56) H)) (zab .add false t32 (.int .i64 1) λt57=>Kb4 (zot t0 t1 t31 t57) H)
def zos:=ux 1 (t1::ux 57 (t59::t60::ux 9 []))
def zVL:=zev 16
noncomputable def zVG:=zas [1,1,1,0,1,0,0] zjr
def zVE:=zat tP zev [1,1,1,0,1,0] zjr (zaA tP zED K)
def zEz:=ALoop tP zVG (zVE K) (zos t1 t59 t60) H
def zvb:=zab .lss false t60 t59 λt61=>zag t61 (zai 3 t1 t60 λt65=>zae true 3 t65 H λt66=>ACalls tP zky [t66] H λt67 H=>zab .gtr false t67 (.int .i64 8) λt68=>zag t68 (K (.bool false) H) (zab .add false t60 (.int .i64 1) λt69=>Kb16 (zos t1 t59 t69) H)) (K (.bool true) H)
def zoq:=zab .lss false t32 t31 λt33=>zag t33 (zai 3 t0 t32 λt37=>zaf 2 t37 λt38=>zae false 1 t38 H λt39=>zah 1 t39 λt40=>zab .gtr false t40 (.int .i64 3) λt41=>zag t41 (K (.bool false) H) (zai 3 t0 t32 λt44=>zaf 2 t44 λt45=>zae false 1 t45 H λt46=>zah 1 t46 λt47=>zEB t0 t1 t31 t32 t46 t47 (.int .i64 0) H K Kb4)) (zah 1 t1 λt59=>zEz t1 t59 (.int .i64 0) H K)
def zq7:=zah 1 t0 λt14=>zab .gtr false t14 (.int .i64 2) λt15=>zac t15 false H (λK'=>K' t1 H) λt17 H=>zac t15 false H (λK'=>zah 1 t17 (K' · H)) λt18 H=>zac t15 false H (λK'=>zab .gtr false t18 (.int .i64 3) (K' · H)) λt19 H=>zak t15 (.bool true) t19 λt20=>zac t20 false H (λK'=>K' t2 H) λt22 H=>zac t20 false H (λK'=>zab .gtr false t22 (.int .i64 9) (K' · H)) λt23 H=>zak t20 (.bool true) t23 λt24=>zac t24 false H (λK'=>K' t3 H) λt26 H=>zac t24 false H (λK'=>zah 1 t26 (K' · H)) λt27 H=>zac t24 false H (λK'=>zab .gtr false t27 (.int .i64 9) (K' · H)) λt28 H=>zak t24 (.bool true) t28 λt29=>zag t29 (K (.bool false) H) (zah 1 t0 λt31=>zEA t0 t1 t31 (.int .i64 0) H K)
def zRj(_:Nat):List Bool:=[]
noncomputable def zRk:=Tryz.f24.body.getD .skip
def zCP:=zar [(.int .i64 0),(.int .i64 0),.snil] [(0,1),(1,1),(2,1)] [(0,(.int .i64 4))] λt2=>zay [(.int .i64 0),(.int .i64 0),.snil] H λt1 H=>zam 3 t1 t2 H λH=>zar [(.str []),.snil] [(0,1),(1,1)] [(0,(.str [78]))] λt3=>zae true 3 t1 H λt4=>zae true 3 t1 H λt5=>zau 3 [(.int .i64 0),(.int .i64 0),.snil] 1 [(0,t5)] λt6=>zar [(.int .i64 0),(.int .i64 0),.snil] [(0,1),(1,1),(2,1)] [(0,(.int .i64 5)),(2,t6)] λt7=>zau 3 [(.int .i64 0),(.int .i64 0),.snil] 2 [(0,t4),(1,t7)] λt8=>zar [(.str []),.snil] [(0,1),(1,1)] [(0,(.str [67])),(1,t8)] λt9=>zau 2 [(.str []),.snil] 2 [(0,t3),(1,t9)] λt10=>zar [(.str []),(.int .i64 0),.snil] [(0,1),(1,1),(2,1)] [(0,(.str [76])),(1,(.int .i64 1)),(2,t10)] λt11=>zau 3 [(.str []),(.int .i64 0),.snil] 1 [(0,t11)] λt12=>K t12 H
def zne:Nat→List Bool|3=>rl false [1,1,1,1,3,2,14]|_=>[]
noncomputable def ztW:=Tryz.f25.body.getD .skip
noncomputable def zRr:=Tryz.f25.results.toList
def zng:=ux 1 (t1::ux 1 (t3::ux 3 (t7::t8::ux 14 [])))
def zRp:=zne 3
noncomputable def zRn:=zas [1,1,0,1,0,0] ztW
def zRm:=zat tP zne [1,1,0,1,0] ztW (zaA tP zRr K)
def zCR:=ALoop tP zRn (zRm K) (zng t1 t3 t7 t8) H
def znf:=zab .lss false t8 t7 λt9=>zag t9 (zab .gtr false t3 (.int .i64 8) λt12=>zag t12 (K (.int .i64 9) H) (zaf 2 t1 λt14=>zae false 1 t14 H λt15=>zai 3 t15 t8 λt17=>zae true 3 t17 H λt18=>ACalls tP zky [t18] H λt19 H=>zab .add false t3 t19 λt20=>zab .add false t8 (.int .i64 1) λt21=>Kb3 (zng t1 t20 t7 t21) H)) (K t3 H)
def zCQ:=zaw t0 H λt1 H=>zaf 2 t1 λt5=>zae false 1 t5 H λt6=>zah 1 t6 λt7=>zCR t1 (.int .i64 1) t7 (.int .i64 0) H K
variable {t0 t1 t2 t3 t7 t8 t31 t32 t46 t47 t48 t59 t60} {H} {K} {Kb3 Kb4 Kb9 Kb16}
theorem zTY(h:HSc H→zq5 H K):ACalls tP zqR [] H K:=
 acb zTW Tryz.func7 zTX h
theorem zVK:Lo1 (λt48=>zou t0 t1 t31 t32 t46 t47 t48) (λt48 H Kb9=>zor t0 t1 t31 t32 t46 t47 t48 H K Kb4 Kb9) t48 H (zEB t0 t1 t31 t32 t46 t47 t48 H K Kb4):=lq1 zev zVM
theorem zVI:Lo1 (λt60=>zos t1 t59 t60) (λt60 H Kb16=>zvb t1 t59 t60 H K Kb16) t60 H (zEz t1 t59 t60 H K):=lq1 zev zVL
theorem zVJ:Lo1 (λt32=>zot t0 t1 t31 t32) (λt32 H Kb4=>zoq t0 t1 t31 t32 H K Kb4) t32 H (zEA t0 t1 t31 t32 H K):=lq1 zev zEC
theorem zVN(h:HSc H→zq7 t0 t1 t2 t3 H K):ACalls tP zqV [t0,t1,t2,t3] H K:=
 acb zev Tryz.func9 zjr h
theorem zRl(h:HSc H→zCP H K):ACalls tP ziu [] H K:=
 acb zRj Tryz.func24 zRk h
theorem zRo:Lo2 (λt3 t8=>zng t1 t3 t7 t8) (λt3 t8 H Kb3=>znf t1 t3 t7 t8 H K Kb3) t3 t8 H (zCR t1 t3 t7 t8 H K):=lq2 zne zRp
theorem zRq(h:HSc H→zCQ t0 H K):ACalls tP zky [t0] H K:=
 acb zne Tryz.func25 ztW h
end
theorem wrM{n:Nat}(h:n<9223372036854775807):IntKind.i64.wrap ((n:Int)+1)=((n+1:Nat):Int):=by rw[zaz (by omega) (by omega)];rfl
theorem zRs:∀(m:Nat) (t:VT),t.nodes≤m→zbw t→∀(H:zaa) (K:Kt),(∀r:Int,K (.int .i64 r) H)→ACalls tP zky [.agg t.cs] H K:=by
 intro m;induction m with
 |zero=>intro t h;have:=t.nodes_pos;omega
 |succ m ih=>
  intro t hm hf H K hK;obtain⟨k,n,ks⟩:=t;have hfit:ks.length≤9223372036854775807∧zdS ks:=by rw[zbw]at hf;exact hf
  refine ACalls.out (zRq λhs=>?_);have hO:∀(r:Int) J,Out H.length K (.int .i64 r) (H++J):=λr J=>Out.int rfl (aa _) hs (hK r);simp[zCQ,VT.cs];obtain⟨A,hA⟩:∃A,A=H++[AB.cells [.int .i64 k,.int .i64 n,.sl (VT.css ks) .none]]:=⟨_,rfl⟩;have hAl:A.length=H.length+1:=by rw[hA];simp
  have hAs:HSc A:=by rw[hA];exact hs.snoc (by simp[AB.sc,AV.scA,AV.scB])
  have hg:A[H.length]?=some (.cells [.int .i64 k,.int .i64 n,.sl (VT.css ks) .none]):=by rw[hA];simp
  rw[←hA];refine zRo (Inv:=λq t3 t8 H'=>∃(i:Nat) (r:Int),i≤ks.length∧ks.length-i=q∧t8=.int .i64 i∧t3=.int .i64 r∧H'=A) ks.length ?_ ?_
  ·intro _;exact⟨0,1,by omega,rfl,rfl,rfl,rfl⟩
  ·rintro q t3 t8 H' ⟨i,r,hi,rfl,rfl,rfl,rfl⟩ hsc hlen hsF Kb hKb;have hE:∀ r:Int,Out H.length K (.int .i64 r) H':=λr=>by rw[hA];exact hO r _
   by_cases hlt:i<ks.length
   ·obtain⟨x,y,z,hvx,hx,hy,hz⟩:=zaO ks[i];by_cases h8:8<r
    ·simp[znf,hlt,h8];exact hE 9
    ·simp[znf,hlt,h8,hg,hvx];rw[←hvx];have hkn:=VT.kid_lt (k:=k) (n:=n) hlt;refine ih ks[i] (by omega) (zjT hfit.2 _ (ae hlt)) _ _ λr'=>?_;simp;rw[wrM (by omega)];refine hKb _ _ ⟨ks.length-(i+1),by omega,Back.here (aa _) hAs ?_ ⟨_,_,rfl,i+1,_,by omega,rfl,rfl,rfl,rfl⟩⟩;simp[zng,ux,AV.sc,AV.scA,AV.scB,AV.scV,hAl]
   ·obtain rfl:i=ks.length:=by omega
    simp[znf];exact hE r
def KpD(D:Dat):Prop:=D.cons.length≤3∧∀c∈D.cons,c.args.length≤3
theorem zVO(data:List Dat)(hl:data.length≤9223372036854775807)(l:List VT)(hll:l.length≤1000000)(ht:∀t∈l,zbw t)(n:Int)(xs:List Int)(H:zaa)(K:Kt)(hK:∀b:Bool,(b=true→data.length≤2∧n≤9∧xs.length≤9∧Kpt data)→K (.bool b) H):ACalls tP zqV [.sl (data.map Dat.cs) .none,.sl (VT.css l) .none,.int .i64 n,.sl (ints xs) .none] H K:=by
 refine ACalls.out (zVN λhs=>?_);have hF:∀J,Out H.length K (.bool false) (H++J):=λJ=>Out.bool rfl (aa _) hs (hK false λh=>by cases h);have hF0:Out H.length K (.bool false) H:=zbB hs rfl rfl (hK false λh=>by cases h);by_cases c1:2<data.length
 ·have:(2:Int)<data.length:=by omega
  simp[zq7,this];exact hF0
 have c1':¬(2:Int)<data.length:=by omega
 by_cases c2:3<l.length
 ·have:(3:Int)<l.length:=by omega
  simp[zq7,c1',this];exact hF0
 have c2':¬(3:Int)<l.length:=by omega
 by_cases c3:9<n
 ·simp[zq7,c1',c2',c3];exact hF0
 by_cases c4:9<xs.length
 ·have:(9:Int)<xs.length:=by omega
  simp[zq7,c1',c2',c3,zfl,this];exact hF0
 have c4':¬(9:Int)<xs.length:=by omega
 simp[zq7,c1',c2',c3,zfl,c4'];refine zVJ (Inv:=λq t32 H'=>∃i:Nat,i≤data.length∧data.length-i=q∧t32=.int .i64 i∧(∀D∈data.take i,KpD D)∧H'=H) data.length ?_ ?_
 ·intro _;exact⟨0,by omega,rfl,rfl,by simp,rfl⟩
 ·rintro q t32 H' ⟨i,hi,rfl,rfl,hk,rfl⟩ hsc4 hlen4 hsF4 Kb4 hKb4;by_cases hlt:i<data.length
  ·obtain⟨⟨nm,vs,cons⟩,hv⟩:∃ u,u=data[i]:=⟨_,rfl⟩;have hcl:Dat.cs (data[i])=[.str nm,.int .i64 vs,.sl (cons.map Con.cs) .none]:=by rw[←hv];rfl
   by_cases h3:3<cons.length
   ·have:(3:Int)<cons.length:=by omega
    simp[zoq,hlt,hcl,this];exact hF0
   have h3':¬(3:Int)<cons.length:=by omega
   simp[zoq,hlt,hcl,h3'];refine zVK (Inv:=λq t48 H2=>∃j:Nat,j≤cons.length∧cons.length-j=q∧t48=.int .i64 j∧(∀c∈cons.take j,c.args.length≤3)∧H2=H') cons.length ?_ ?_
   ·intro _;exact⟨0,by omega,rfl,rfl,by simp,rfl⟩
   ·rintro q t48 H2 ⟨j,hj,rfl,rfl,hc,rfl⟩ hsc9 hlen9 hsF9 Kb9 hKb9;by_cases hlj:j<cons.length
    ·obtain⟨⟨cn,ca⟩,hu⟩:∃ u,u=cons[j]:=⟨_,rfl⟩;have hcc:Con.cs (cons[j])=[.str cn,.sl (VT.css ca) .none]:=by rw[←hu];rfl
     by_cases h3a:3<ca.length
     ·have:(3:Int)<ca.length:=by omega
      simp[zor,hlj,hcc,AV.known,this];exact hF _
     ·have h3a':¬ (3:Int)<ca.length:=by omega
      simp[zor,hlj,hcc,AV.known,h3a'];rw[wr (by omega)];refine hKb9 _ _ ⟨cons.length-(j+1),by omega,Back.at (J:=[.cells [.str cn,.sl (VT.css ca) .none]]) (H2:=H2) rfl (aa _) hs ?_ ⟨_,rfl,j+1,by omega,rfl,rfl,λc hcm=>?_,rfl⟩⟩
      ·simp[zou,ux,AV.sc,AV.scA,AV.scB,AV.scV]
      ·rw[aj hlj]at hcm;rcases aP.1 hcm with h | h
       ·exact hc c h
       ·simp at h;rw[h,←hu];show ca.length≤3;omega
    ·obtain rfl:j=cons.length:=by omega
     rw[aw]at hc;simp[zor];rw[wr (by omega)];refine hKb4 _ _ ⟨data.length-(i+1),by omega,Back.here (aa _) hs ?_ ⟨_,rfl,i+1,by omega,rfl,rfl,λD hDm=>?_,rfl⟩⟩
     ·simp[zot,ux,AV.sc,AV.scA,AV.scB,AV.scV]
     ·rw[aj hlt]at hDm;rcases aP.1 hDm with h | h
      ·exact hk D h
      ·simp at h;rw[h,←hv];exact⟨by show cons.length≤3;omega,hc⟩
  ·obtain rfl:i=data.length:=by omega
   rw[aw]at hk;simp[zoq];refine zVI (Inv:=λq t60 H2=>∃j:Nat,j≤l.length∧l.length-j=q∧t60=.int .i64 j∧H2=H') l.length ?_ ?_
   ·intro _;exact⟨0,by omega,rfl,rfl,rfl⟩
   ·rintro q t60 H2 ⟨j,hj,rfl,rfl,rfl⟩ hsc9 hlen9 hsF9 Kb9 hKb9;by_cases hlj:j<l.length
    ·obtain⟨x,y,z,hvx,hx,hy,hz⟩:=zaO l[j];simp[zvb,hlj,hvx];rw[←hvx];refine zRs _ _ (aa _) (ht _ (ae hlj)) _ _ λr=>?_;by_cases h8:8<r
     ·simp[h8];exact hF0
     ·simp[h8];rw[wr (by omega)];refine hKb9 _ _ ⟨l.length-(j+1),by omega,Back.here (aa _) hs ?_ ⟨_,rfl,j+1,by omega,rfl,rfl,rfl⟩⟩;simp[zos,ux,AV.sc,AV.scA,AV.scB,AV.scV]
    ·obtain rfl:j=l.length:=by omega
     simp[zvb];exact zbB hs rfl rfl (hK true λ_=>⟨by omega,by omega,by omega,hk⟩)
theorem zGr{v w:VT}(h:VT.cmp v w=0):v=w:=(zk7 v w).1 ((VT.cmp_zero v w).1 h)
theorem zKH(a b:VT)(h1:vle a b)(h2:vle b a):a=b:=by unfold vle at h1 h2;have:=VT.cmp_anti a b;exact zGr (by omega)
theorem zKI{a b c:VT}(h1:vle a b)(h2:vle b c):vle a c:=by unfold vle at *;have:=VT.cmp_tri a b c;have a1:=VT.cmp_anti a b;have a2:=VT.cmp_anti b c;have a3:=VT.cmp_anti a c;unfold Tri at this;omega
def leB(a b:VT):Bool:=!decide (VT.cmp b a<0)
theorem zj6(a b:VT):leB a b=true↔vle a b:=by simp[leB,vle]
def srt(W:List VT):List VT:=W.mergeSort leB
theorem zzs(W:List VT):(srt W).Perm W:=List.mergeSort_perm W leB
theorem zJZ(W:List VT):(srt W).Pairwise vle:=
 (List.pairwise_mergeSort (le:=leB) (λa b c h1 h2=>(zj6 a c).2 (zKI ((zj6 a b).1 h1) ((zj6 b c).1 h2))) (λa b=>by
  have:=VT.cmp_anti a b;simp[leB];omega) W).imp λh=>(zj6 _ _).1 h
theorem zJ0{V W:List VT}(hp:V.Perm W)(hs:V.Pairwise vle):V=srt W:=
 List.Perm.eq_of_pairwise (le:=vle) (λa b _ _=>zKH a b) hs (zJZ W) (hp.trans (zzs W).symm)
def zfU(data:List Dat)(t:VT)(n:Int)(xs:List Int):List VT:=srt (vV data xs t n.toNat)
theorem zLW{data:List Dat}(hF:zdW data)(hl:data.length≤1000000)(hk:Kpt data)(t:VT)(ht:zbw t)(xs:List Int)(hxl:xs.length≤1000000)(n:Int)(hn:n≤14∨24<n)(H:zaa)(h0:H[0]?=some .nodr)(K:Kt)(hE:zbU data [t] n xs≠0→K (.tup [.sl [] .none,.int .i64 (zbU data [t] n xs)]) H)(hK:zbU data [t] n xs=0→K (.tup [.sl (VT.css (zfU data t n xs)) .none,.int .i64 0]) H):
  ACalls tP zf3 [.sl (data.map Dat.cs) .none,.agg t.cs,.int .i64 n,.sl (ints xs) .none] H K:=
 zLV hF hl hk t ht xs hxl n hn H h0 K hE λh V hp hs=>by rw[zJ0 hp hs];exact hK h
def tA:VT:=.mk 4 0 []
def tL:VT:=.mk 5 0 [tA]
def lstD:List Dat:=[⟨[76],1,[⟨[78],[]⟩,⟨[67],[tA,tL]⟩]⟩]
def tLI:VT:=.mk 5 0 [.mk 1 0 []]
theorem ztV(H:zaa)(K:Kt)(hK:K (.sl (lstD.map Dat.cs) .none) H):ACalls tP ziu [] H K:=by refine ACalls.out (zRl λhs=>?_);simp[zCP,zar,zaL,AV.known,zau,za4,plain,AV.pd];exact Out.at (H2:=H) (J:=_) rfl (aa _) hs (.atom (.sl _ _)) rfl rfl hK
theorem zHM:zb4 lstD tLI=true:=by decide +kernel
theorem zxO:cV lstD 2 tLI 1=1:=by decide +kernel
theorem zxP:cV lstD 2 tLI 2=0:=by decide +kernel
theorem zxQ:cV lstD 2 tLI 5=4:=by decide +kernel
theorem zHP:zgF [0,1]:=by
 refine⟨by decide,λi hi=>?_⟩;simp at hi
 match i,hi with
 |0,_=>exact⟨by decide,by decide,λh=>absurd h (by omega)⟩
 |1,_=>exact⟨by decide,by decide,λ_=>by decide⟩
theorem zGb(g:VT→Nat→Nat)(t:VT)(n:Nat)(h0:g t 0=0):cL g [t] n=g t n:=by
 rw[cL];simp only[cL];rw[sm,bU,aB rfl,bK];have:sm n (λs=>g t s*if n-s=0 then 1 else 0)=sm n λ_=>0:=zb8 λs hs=>by rw[ap (by omega),Nat.mul_zero]
 rw[this,zrx,aF]
theorem zHL{n:Nat}(hn:n≤24)(hc:cV lstD 2 tLI n≤2000):zbU lstD [tLI] n [0,1]=0:=by
 unfold zbU;have h1:¬ ∃t∈[tLI],zb4 lstD t=false:=λ⟨t,ht,h⟩=>by simp at ht;subst ht;rw[zHM]at h;cases h
 rw[ap (by decide),ap h1,ap (λh=>h.elim (λh=>by omega) λh=>h.elim (λh=>by omega) λh=>h zHP),ap];show ¬ 2000<cL (cV lstD 2) [tLI] n;rw[zGb _ _ _ (zb3 lstD 2 tLI)];show ¬ 2000<cV lstD 2 tLI n;omega
theorem zHN:zdW lstD:=λD hD=>by
 simp[lstD]at hD;subst hD;refine⟨by decide,λc hc=>?_⟩;simp at hc;rcases hc with rfl|rfl
 ·exact⟨by decide,by simp⟩
 ·refine⟨by decide,λx hx=>?_⟩;simp at hx;rcases hx with rfl|rfl <;> simp[tA,tL,zbw,zdS]
theorem zHQ:Kpt lstD:=λD hD=>by simp[lstD]at hD;subst hD;refine⟨by decide,λc hc=>?_⟩;simp at hc;rcases hc with rfl|rfl <;> decide
theorem zpb(data:List Dat)(t:VT)(n:Nat)(xs:List Int):(zfU data t n xs).length=cV data xs.length t n:=by unfold zfU;rw[(zzs _).length_eq,zeX];rfl
theorem zpc(n:Nat)(hn:n≤14)(hc:cV lstD 2 tLI n≤2000)(H:zaa)(h0:H[0]?=some .nodr)(K:Kt)(hK:K (.tup [.sl (VT.css (zfU lstD tLI n [0,1])) .none,.int .i64 0]) H):
  ACalls tP zf3 [.sl (lstD.map Dat.cs) .none,.agg [.int .i64 5,.int .i64 0,.sl [[.int .i64 1,.int .i64 0,.sl [] .none]] .full],.int .i64 n,.sl [[.int .i64 0],[.int .i64 1]] .full] H K:=by
 refine ACalls.wk (args':=[.sl (lstD.map Dat.cs) .none,.agg tLI.cs,.int .i64 n,.sl (ints [0,1]) .none]) ?_ ⟨.atom (.refl _),.agg ⟨.refl _,.refl _,.sl _ _,trivial⟩,.atom (.refl _),.atom (.sl _ _),trivial⟩;exact zLW zHN (by decide) zHQ tLI (by simp[tLI,zbw,zdS]) [0,1] (by decide) n (by omega) H h0 K (λh=>absurd (zHL (by omega) hc) h) λ_=>hK
theorem zTZ(H:zaa)(h0:H[0]?=some .nodr)(K:Kt)(hK:K (.bool true) H):ACalls tP zqR [] H K:=by
 refine ACalls.out (zTY λhs=>?_);have hlt0:0<H.length:=(List.getElem?_eq_some_iff.1 h0).1;have g0:∀J:zaa,(H++J)[0]?=some .nodr:=λJ=>by rw[List.getElem?_append_left hlt0];exact h0
 simp[zq5,zar,zaL,AV.known,zau,za4,plain,AV.pd];refine zaC _ (λJ=>ztV _ _ ⟨rfl,rfl⟩) ?_;refine zaC _ (λJ=>zpc 1 (by omega) (by rw[zxO];omega) _ (by rw[ah];exact g0 _) _ ⟨rfl,rfl⟩) ?_;simp;refine zaC _ (λJ=>ztV _ _ ⟨rfl,rfl⟩) ?_;refine zaC _ (λJ=>zpc 2 (by omega) (by rw[zxP];omega) _ (by rw[ah];exact g0 _) _ ⟨rfl,rfl⟩) ?_;simp;refine zaC _ (λJ=>ztV _ _ ⟨rfl,rfl⟩) ?_;refine zaC _ (λJ=>zpc 5 (by omega) (by rw[zxQ];omega) _ (by rw[ah];exact g0 _) _ ⟨rfl,rfl⟩) ?_;have l1:(zfU lstD tLI 1 [0,1]).length=1:=(zpb lstD tLI 1 [0,1]).trans zxO;have l2:(zfU lstD tLI 2 [0,1]).length=0:=(zpb lstD tLI 2 [0,1]).trans zxP;have l5:(zfU lstD tLI 5 [0,1]).length=4:=(zpb lstD tLI 5 [0,1]).trans zxQ;simp[l1,l2,l5];exact Out.at (H2:=H) (J:=_) rfl (aa _) hs .rfl' rfl rfl hK
def chs:Nat→Nat→Nat
 |_,0=>1
 |0,_+1=>0
 |n+1,k+1=>chs n k+chs n (k+1)
@[simp] theorem yad(n:Nat):chs n 0=1:=by cases n <;> rfl
theorem zzg{n:Nat}(h:n<1000000000 ^ 30):Sm (n:Int):=by unfold Sm;rwa [Int.natAbs_natCast]
theorem zPe(a b:Nat)(ha:a<1000000000 ^ 30)(hb:b<1000000000 ^ 30)(H:zaa)(K:Kt)(hK:K (.int .i64 ((a:Int)-b).sign) H):ACalls tP zin [.agg (zaq a),.agg (zaq b)] H K:=by refine ACalls.out (zBZ λhs=>?_);simp only[zs8,zcN];simp;rw[←zcN,←zcN];refine zSC a b (zzg ha) (zzg hb) _ _ ?_;refine znv _ (by unfold Sm;omega) _ _ ?_;exact Out.int rfl (aa _) hs hK
theorem zzi{a b:Nat}(h:a≤b)(f:Nat→Nat):sm a f≤sm b f:=by
 induction b with
 |zero=>
  obtain rfl:a=0:=by omega
  exact aa _
 |succ b ih=>
  by_cases e:a=b+1
  ·subst e;exact aa _
  ·have:=ih (by omega);rw[sm];omega
theorem zG4{data:List Dat}(hT:∀D∈data,∀c∈D.cons,∀x∈c.args,zbw x)(hk:Kpt data):zdW data:=λD hD=>by obtain⟨h1,h2⟩:=hk D hD;exact⟨by omega,λc hc=>⟨by have:=h2 c hc;omega,hT D hD c hc⟩⟩
section
variable (t0 t1 t2 t3 t4 t5 t6 t7 t8 t9 t10 t13 t14 t15 t16 t17 t18 t19 t20 t31 t32 t33 t45 t46 t47 t49 t50 t51 t56 t57 t58 t77 t78 t79 t86 t87 t88:AV) (H:zaa) (K:Kt) (Kb3 Kb4 Kb6 Kb10 Kb12 Kb15 Kb19 Kb22:Lt)
def zOe(_:Nat):List Bool:=[]
noncomputable def zOg:=Tryz.f15.body.getD .skip
def zBa:=zaw t1 H λt5 H=>zay [(.bool false),.snil,.snil] H λt8 H=>zae true 3 t5 H λt11=>ACalls tP zqM [t0,t11] H λt12 H=>aUn .not t12 λt13=>zag t13 (zar [(.bool false),.snil,.snil] [(0,1),(1,1),(2,1)] [] λt14=>zam 3 t8 t14 H λH=>zae true 3 t8 H λr0=>zaX [r0,(.int .i64 6)] (K · H)) (zab .lss false t2 (.int .i64 0) λt16=>zac t16 false H (λK'=>K' t2 H) λt18 H=>zac t16 false H (λK'=>zab .gtr false t18 (.int .i64 24) (K' · H)) λt19 H=>zak t16 (.bool true) t19 λt20=>zac t20 false H (λK'=>K' t3 H) λt22 H=>zac t20 false H (λK'=>zab .lss false t22 (.int .i64 0) (K' · H)) λt23 H=>zak t20 (.bool true) t23 λt24=>zac t24 false H (λK'=>K' t3 H) λt26 H=>zac t24 false H (λK'=>zab .gtr false t26 (.int .i64 8) (K' · H)) λt27 H=>zak t24 (.bool true) t27 λt28=>zag t28 (zar [(.bool false),.snil,.snil] [(0,1),(1,1),(2,1)] [] λt29=>zam 3 t8 t29 H λH=>zae true 3 t8 H λr0=>zaX [r0,(.int .i64 8)] (K · H)) (zae true 3 t5 H λt31=>ACalls tP zqN [t0,t31,t2,t3] H λt34 H=>zam 3 t8 t34 H λH=>zae true 3 t8 H λr0=>zaX [r0,(.int .i64 0)] (K · H)))
def zSo:Nat→List Bool|200003=>rl false [0,1]|_=>[]
noncomputable def zSp:=Tryz.f39.body.getD .skip
def zDe:=zaw t1 H λt3 H=>ACalls tP zqI [t0] H λt6 H=>aUn .not t6 λt7=>zac t7 false H (λK'=>K' t0 H) λt9 H=>zac t7 false H (λK'=>zae true 3 t3 H (K' · H)) λt10 H=>zac t7 false H (λK'=>ACalls tP zkz [t9,t10,(.int .i64 0)] H K') λt11 H=>zac t7 false H (λK'=>aUn .not t11 (K' · H)) λt12 H=>zak t7 (.bool true) t12 λt13=>zag t13 (K (.bool false) H) (apm H t0 λt14=>apu H (zan true 3 t3 H) λt15=>apm H t0 λt16=>apu H (zah 1 t16) λt17=>zbl .w false H (λK'=>za9 1 [(.bool false)] t17 t17 H K') λt18 H=>zbl .w false H (λK'=>ACalls tP zhi [t14,t15,t18] H K') λt19 H=>apm H t19 λt4=>K t4 H)
def zeu:Nat→List Bool|4=>rl false [0,1,1,1,1,1,12,3,49]|12=>rl false [0,1,1,1,46,3,17]|15=>rl false [0,1,1,1,46,3,4,3,10]|_=>[]
noncomputable def zjn:=Tryz.f79.body.getD .skip
noncomputable def zEv:=Tryz.f79.results.toList
def zop:=t0::ux 1 (t2::ux 1 (t4::ux 12 (t17::t18::t19::ux 49 [])))
def zVu:=zeu 4
noncomputable def zVp:=zas [1,1,0,1,0,0] zjn
def zVn:=zat tP zeu [1,1,0,1,0] zjn (zaA tP zEv K)
def zEt:=ALoop tP zVp (zVn K) (zop t0 t2 t4 t17 t18 t19) H
def zon:=t0::ux 1 (t2::ux 46 (t49::t50::t51::ux 17 []))
def zEu:=zeu 12
noncomputable def zu9:=zas [1,1,1,0,1,0,1,1,0,0] zjn
def zEq:=zat tP zeu [1,1,1,0,1,0,1,1,0] zjn (zaA tP zEv K)
def zEr:=ALoop tP zu9 (zEq K) (zon t0 t2 t49 t50 t51) H
def zoo:=t0::ux 1 (t2::ux 46 (t49::t50::t51::ux 4 (t56::t57::t58::ux 10 [])))
def zVt:=zeu 15
noncomputable def zVo:=zas [1,1,0,0,1,1,0,0] zu9
def zVm:=zat tP zeu [1,1,0,0,1,1,0] zu9 (zbp zEu Kb12 (zEq K))
def zEs:=ALoop tP zVo (zVm K Kb12) (zoo t0 t2 t49 t50 t51 t56 t57 t58) H
def zu8:=zab .lss false t58 t57 λt59=>zag t59 (zai 3 t56 t58 λt60=>zae true 3 t60 H λt61=>zay [(.int .i64 0),(.int .i64 0),.snil] H λt12 H=>zam 3 t12 t61 H λH=>zae true 3 t12 H λt63=>ACalls tP zhi [t0,t63,t2] H λt65 H=>aUn .not t65 λt66=>zag t66 (K (.bool false) H) (zab .add false t58 (.int .i64 1) λt67=>Kb15 (zoo t0 t2 t49 t50 t51 t56 t57 t67) H)) (zab .add false t51 (.int .i64 1) λt68=>Kb12 (zon t0 t2 t49 t50 t68) H)
def zjo:=K (.bool true) H
def zu7:=zab .lss false t51 t50 λt52=>zag t52 (zai 2 t49 t51 λt53=>zae true 2 t53 H λt54=>zay [(.str []),.snil] H λt10 H=>zam 2 t10 t54 H λH=>zaf 1 t10 λt55=>zae false 1 t55 H λt56=>zah 1 t56 λt57=>zEs t0 t2 t49 t50 t51 t56 t57 (.int .i64 0) H K Kb12) (zjo H K)
def zom:=zab .lss false t19 t18 λt20=>zag t20 (zai 3 t17 t19 λt21=>zae true 3 t21 H λt22=>zay [(.int .i64 0),(.int .i64 0),.snil] H λt8 H=>zam 3 t8 t22 H λH=>zae true 3 t8 H λt24=>ACalls tP zhi [t0,t24,t2] H λt26 H=>aUn .not t26 λt27=>zag t27 (K (.bool false) H) (zab .add false t19 (.int .i64 1) λt28=>Kb4 (zop t0 t2 t4 t17 t18 t28) H)) (zaf 0 t4 λt29=>zae false 1 t29 H λt30=>zab .eql false t30 (.int .i64 5) λt31=>zac t31 true H (λK'=>K' t2 H) λt33 H=>zac t31 true H (λK'=>zaf 1 t4 (K' · H)) λt34 H=>zac t31 true H (λK'=>zae false 1 t34 H (K' · H)) λt35 H=>zac t31 true H (λK'=>zai 1 t33 t35 (K' · H)) λt36 H=>zac t31 true H (λK'=>zae false 1 t36 H (K' · H)) λt37 H=>zac t31 true H (λK'=>aUn .not t37 (K' · H)) λt38 H=>zak t31 t38 (.bool false) λt39=>zag t39 (zaf 1 t4 λt41=>zae false 1 t41 H λt42=>zai 1 t2 t42 λt43=>zam 1 t43 (.bool true) H λH=>zaf 1 t4 λt45=>zae false 1 t45 H λt46=>zai 3 t0 t46 λt47=>zaf 2 t47 λt48=>zae false 1 t48 H λt49=>zah 1 t49 λt50=>zEr t0 t2 t49 t50 (.int .i64 0) H K) (zjo H K))
def zu6:=zaw t1 H λt4 H=>zaf 0 t4 λt13=>zae false 1 t13 H λt14=>zab .eql false t14 (.int .i64 9) λt15=>zag t15 (K (.bool false) H) (zaf 2 t4 λt16=>zae false 1 t16 H λt17=>zah 1 t17 λt18=>zEt t0 t2 t4 t17 t18 (.int .i64 0) H K)
def zSs(_:Nat):List Bool:=[]
noncomputable def zSt:=Tryz.f40.body.getD .skip
def zDf:=zaw t1 H λt5 H=>zay [(.bool false),.snil,.snil] H λt8 H=>zae true 3 t5 H λt10=>ACalls tP zf9 [t0,t10,t2,t3] H λt13 H=>zai 3 t13 t2 λt15=>zae true 3 t15 H λt16=>zam 3 t8 t16 H λH=>zae true 3 t8 H λr0=>K r0 H
def zVx(_:Nat):List Bool:=[]
noncomputable def zVy:=Tryz.f80.body.getD .skip
def zjp:=K t9 H
def zdU:=zjp t9 H K
def zjq:=zag t33 (apm H t9 λt36=>zad H (λK'=>za1 1 3 t36 (some (.int .i64 1)) none (K' · H)) λt37=>apm H t0 λt38=>apu H (zaf 2 t5) λt39=>apu H (zan false 1 t39 H) λt40=>apm H t2 λt41=>apu H (zab .sub false t41 (.int .i64 1)) λt42=>apm H t3 λt43=>zaF H (λH K'=>ACalls tP zqf [t38,t40,t42,t43] H K') λt44=>zez 3 t37 t44 H λt45 H=>zdU t9 H K) (zab .eql false t16 (.int .i64 7) λt47=>zag t47 (apm H t9 λt48=>zad H (λK'=>za1 1 3 t48 (some (.int .i64 1)) none (K' · H)) λt49=>apm H t0 λt50=>apu H (zaf 2 t5) λt51=>apu H (zan false 1 t51 H) λt52=>apu H (zai 3 t52 (.int .i64 0)) λt53=>apu H (zan true 3 t53 H) λt54=>apm H t2 λt55=>apu H (zab .sub false t55 (.int .i64 1)) λt56=>apm H t3 λt57=>zaF H (λH K'=>ACalls tP zf9 [t50,t54,t56,t57] H K') λt58=>apm H t2 λt59=>apu H (zab .sub false t59 (.int .i64 1)) λt60=>zaF H (λH K'=>ACalls tP zqg [t58,t60] H K') λt61=>zez 3 t49 t61 H λt62 H=>zdU t9 H K) (zab .eql false t16 (.int .i64 5) λt64=>zag t64 (zae true 3 t5 H λt66=>ACalls tP zqh [t0,t66,t2,t3] H λt69 H=>K t69 H) (zdU t9 H K)))
def zEw:=zaw t1 H λt5 H=>ACalls tP zg8 [t2] H λt11 H=>zab .lss false t2 (.int .i64 1) λt13=>zag t13 (K t11 H) (zaf 0 t5 λt15=>zae false 1 t15 H λt16=>zab .eql false t16 (.int .i64 1) λt18=>zag t18 (ACalls tP zf4 [t3] H λt21 H=>zai 3 t11 (.int .i64 1) λt22=>zam 3 t22 t21 H λH=>zdU t11 H K) (zab .eql false t16 (.int .i64 2) λt24=>zag t24 (ACalls tP zf4 [(.int .i64 2)] H λt26 H=>zai 3 t11 (.int .i64 1) λt27=>zam 3 t27 t26 H λH=>zdU t11 H K) (zab .eql false t16 (.int .i64 3) λt29=>zag t29 (ACalls tP zf4 [(.int .i64 1)] H λt31 H=>zai 3 t11 (.int .i64 1) λt32=>zam 3 t32 t31 H λH=>zdU t11 H K) (zab .eql false t16 (.int .i64 6) λt34=>zag t34 (zjq t0 t2 t3 t5 t11 t16 t34 H K) (zab .eql false t16 (.int .i64 8) λt35=>zjq t0 t2 t3 t5 t11 t16 t35 H K)))))
def zlT:Nat→List Bool|3=>rl false [3,1,5,2,8]|_=>[]
noncomputable def zss:=Tryz.f112.body.getD .skip
noncomputable def zL2:=Tryz.f112.results.toList
def zlU:=ux 3 (t3::ux 5 (t9::t10::ux 8 []))
def zL0:=zlT 3
noncomputable def zLY:=zas [1,1,0,1,0,0] zss
def zLX:=zat tP zlT [1,1,0,1,0] zss (zaA tP zL2 K)
def zAy:=ALoop tP zLY (zLX K) (zlU t3 t9 t10) H
def zsr:=zab .lss false t10 t9 λt11=>zag t11 (ACalls tP zf4 [(.int .i64 0)] H λt15 H=>zai 3 t3 t10 λt16=>zam 3 t16 t15 H λH=>zab .add false t10 (.int .i64 1) λt17=>Kb3 (zlU t3 t9 t17) H) (K t3 H)
def zAx:=zab .add false t0 (.int .i64 1) λt6=>za9 56 [(.bool false),.snil,.snil] t6 t6 H λt7 H=>zah 1 t7 λt9=>zAy t7 t9 (.int .i64 0) H K
def zlV:Nat→List Bool|3=>rl false [0,1,1,2,5,1,4,3,13]|_=>[]
noncomputable def zsu:=Tryz.f113.body.getD .skip
noncomputable def zL8:=Tryz.f113.results.toList
def zlW:=t0::ux 1 (t2::t3::ux 5 (t9::ux 4 (t14::t15::t16::ux 13 [])))
def zL6:=zlV 3
noncomputable def zL4:=zas [1,1,0,1,0,0] zsu
def zL3:=zat tP zlV [1,1,0,1,0] zsu (zaA tP zL8 K)
def zAA:=ALoop tP zL4 (zL3 K) (zlW t0 t2 t3 t9 t14 t15 t16) H
def zst:=zab .lss false t16 t15 λt17=>zag t17 (zai 3 t14 t16 λt18=>zae true 3 t18 H λt19=>zay [(.int .i64 0),(.int .i64 0),.snil] H λt11 H=>zam 3 t11 t19 H λH=>zae true 3 t11 H λt22=>ACalls tP zf9 [t0,t22,t2,t3] H λt25 H=>ACalls tP zkq [t9,t25,t2] H λt27 H=>zab .add false t16 (.int .i64 1) λt28=>Kb3 (zlW t0 t2 t3 t27 t14 t15 t28) H) (K t9 H)
def zAz:=ACalls tP zhc [t2] H λt13 H=>zah 1 t1 λt15=>zAA t0 t2 t3 t13 t1 t15 (.int .i64 0) H K
def zgl:Nat→List Bool|3=>rl false [0,2,3,2,33]|6=>rl false [0,2,3,3,32]|_=>[]
noncomputable def zsv:=Tryz.f114.body.getD .skip
noncomputable def zMg:=Tryz.f114.results.toList
def zlX:=t0::t1::ux 3 (t5::t6::ux 33 [])
def zAH:=zgl 3
noncomputable def zsw:=zas [1,1,0,1,0,0] zsv
def zAC:=zat tP zgl [1,1,0,1,0] zsv (zaA tP zMg K)
def zAF:=ALoop tP zsw (zAC K) (zlX t0 t1 t5 t6) H
def zlY:=t0::t1::ux 3 (t5::t6::t7::ux 32 [])
def zMe:=zgl 6
noncomputable def zMb:=zas [1,0,0,1,0,0] zsw
def zMa:=zat tP zgl [1,0,0,1,0] zsw (zbp zAH Kb3 (zAC K))
def zAG:=ALoop tP zMb (zMa K Kb3) (zlY t0 t1 t5 t6 t7) H
def zAE(t0 t1 t5 t6 t7:AV)(H:zaa)(K:Kt)(Kb3:Lt)(Kb6:Lt):Prop:=zab .leq false t7 t6 λt17=>zag t17 (apm H t5 λt20=>apm H t6 λt21=>apm H t5 λt22=>apm H t6 λt23=>apu H (zai 3 t22 t23) λt24=>apu H (zan true 3 t24 H) λt25=>apm H t0 λt26=>apm H t7 λt27=>apu H (zai 3 t26 t27) λt28=>apu H (zan true 3 t28 H) λt29=>apm H t5 λt30=>apm H t6 λt31=>apm H t7 λt32=>apu H (zab .sub false t31 t32) λt33=>apu H (zai 3 t30 t33) λt34=>apu H (zan true 3 t34 H) λt35=>zaF H (λH K'=>ACalls tP zkt [t29,t35] H K') λt36=>zaF H (λH K'=>ACalls tP zf5 [t25,t36] H K') λt37=>apu H (zai 3 t20 t21) λt38=>zam 3 t38 t37 H λH=>zab .add false t7 (.int .i64 1) λt19=>Kb6 (zlY t0 t1 t5 t6 t19) H) (zab .add false t6 (.int .i64 1) λt14=>Kb3 (zlX t0 t1 t5 t14) H)
def zAD:=zab .leq false t6 t1 λt12=>zag t12 (zAG t0 t1 t5 t6 (.int .i64 1) H K Kb3) (K t5 H)
def zAB:=ACalls tP zhc [t1] H λt9 H=>zAF t0 t1 t9 (.int .i64 1) H K
def zcE:Nat→List Bool|4=>rl false [0,1,1,2,1,1,3,2,20,2,80]|10=>rl false [0,1,1,2,1,1,3,2,3,1,16,2,12,3,65]|300013=>rl false [0,1]|300014=>rl false [0,1]|300016=>rl false [0,1]|19=>rl false [2,1,6,2,6,1,95]|22=>rl false [2,1,6,2,6,1,59,3,33]|26=>rl false [2,1,6,2,6,1,2,1,56,3,6,3,24]|_=>[]
noncomputable def ziZ:=Tryz.f115.body.getD .skip
noncomputable def zAX:=Tryz.f115.results.toList
def zi0:=t0::ux 1 (t2::t3::ux 1 (t5::ux 3 (t9::t10::ux 20 (t31::t32::ux 80 []))))
def zAW:=zcE 4
noncomputable def zsB:=zas [1,1,1,0,1,0,0] ziZ
def zAL:=zat tP zcE [1,1,1,0,1,0] ziZ (zaA tP zAX K)
def zAT:=ALoop tP zsB (zAL K) (zi0 t0 t2 t3 t5 t9 t10 t31 t32) H
def zsC(t0 t2 t3 t5 t9 t10 t31 t32:AV)(H:zaa)(K:Kt)(Kb4:Lt):Prop:=zab .add false t32 (.int .i64 1) λt71=>Kb4 (zi0 t0 t2 t3 t5 t9 t10 t31 t71) H
def zl3:=zsC t0 t2 t3 t5 t9 t10 t31 t32 H K Kb4
def zlZ:=t0::ux 1 (t2::t3::ux 1 (t5::ux 3 (t9::t10::ux 3 (t14::ux 16 (t31::t32::ux 12 (t45::t46::t47::ux 65 []))))))
def zMr:=zcE 10
noncomputable def zMk:=zas [1,1,0,0,1,1,1,1,0,1,0,0] zsB
def zMi:=zat tP zcE [1,1,0,0,1,1,1,1,0,1,0] zsB (zbp zAW Kb4 (zAL K))
def zAQ:=ALoop tP zMk (zMi K Kb4) (zlZ t0 t2 t3 t5 t9 t10 t14 t31 t32 t45 t46 t47) H
def zAP(t0 t2 t3 t5 t9 t10 t14 t31 t32 t45 t46 t47:AV)(H:zaa)(K:Kt)(Kb4:Lt)(Kb10:Lt):Prop:=zab .add false t47 (.int .i64 1) λt66=>Kb10 (zlZ t0 t2 t3 t5 t9 t10 t14 t31 t32 t45 t46 t66) H
def zl4:=zAP t0 t2 t3 t5 t9 t10 t14 t31 t32 t45 t46 t47 H K Kb4 Kb10
def zsx:=zab .lss false t47 t46 λt48=>zag t48 (zai 3 t45 t47 λt49=>zae true 3 t49 H λt50=>zay [(.int .i64 0),(.int .i64 0),.snil] H λt16 H=>zam 3 t16 t50 H λH=>zae true 3 t16 H λt51=>zae true 3 t5 H λt52=>ACalls tP zkr [t51,t52] H λt53 H=>zag t53 (zfN zdG 1 1 [(0,t9)] H λt56 H=>zax zdG 1 24 t14 t56 H λt57 H=>zl4 t0 t2 t3 t5 t9 t10 t57 t31 t32 t45 t46 t47 H K Kb4 Kb10) (zae true 3 t16 H λt60=>ACalls tP zf9 [t0,t60,t2,t3] H λt63 H=>zfN zdG 1 1 [(0,t63)] H λt64 H=>zax zdG 1 24 t14 t64 H λt65 H=>zl4 t0 t2 t3 t5 t9 t10 t65 t31 t32 t45 t46 t47 H K Kb4 Kb10)) (zfN zgX 1 1 [(0,t14)] H λt69 H=>zax zgX 1 24 t10 t69 H λt70 H=>zl3 t0 t2 t3 t5 t9 t70 t31 t32 H K Kb4)
def zl0:=ux 2 (t2::ux 6 (t9::t10::ux 6 (t17::ux 95 [])))
def zAU:=zcE 19
noncomputable def zsz:=zas [1,1,1,1,0,1,0,0] ziZ
def zAJ:=zat tP zcE [1,1,1,1,0,1,0] ziZ (zaA tP zAX K)
def zl5:=ALoop tP zsz (zAJ K) (zl0 t2 t9 t10 t17) H
def zl1:=ux 2 (t2::ux 6 (t9::t10::ux 6 (t17::ux 59 (t77::t78::t79::ux 33 []))))
def zAV:=zcE 22
noncomputable def zsA:=zas [1,0,0,1,0,0] zsz
def zAK:=zat tP zcE [1,0,0,1,0] zsz (zbp zAU Kb19 (zAJ K))
def zAR:=ALoop tP zsA (zAK K Kb19) (zl1 t2 t9 t10 t17 t77 t78 t79) H
def zl2:=ux 2 (t2::ux 6 (t9::t10::ux 6 (t17::ux 2 (t20::ux 56 (t77::t78::t79::ux 6 (t86::t87::t88::ux 24 []))))))
def zMs:=zcE 26
noncomputable def zMl:=zas [1,1,0,0,1,1,0,1,0,0] zsA
def zMj:=zat tP zcE [1,1,0,0,1,1,0,1,0] zsA (zbp zAV Kb22 (zAK K Kb19))
def zAS:=ALoop tP zMl (zMj K Kb19 Kb22) (zl2 t2 t9 t10 t17 t20 t77 t78 t79 t86 t87 t88) H
def zAO(t2 t9 t10 t17 t20 t77 t78 t79 t86 t87 t88:AV)(H:zaa)(K:Kt)(Kb19:Lt)(Kb22:Lt)(Kb26:Lt):Prop:=zab .lss false t88 t87 λt89=>zag t89 (zai 1 t86 t88 λt90=>zae false 1 t90 H λt91=>zab .sub false t17 (.int .i64 1) λt95=>ACalls tP zkq [t20,t91,t95] H λt96 H=>zab .add false t88 (.int .i64 1) λt97=>Kb26 (zl2 t2 t9 t10 t17 t96 t77 t78 t79 t86 t87 t97) H) (apm H t9 λt98=>apm H t17 λt99=>apm H t9 λt100=>apm H t17 λt101=>apu H (zai 3 t100 t101) λt102=>apu H (zan true 3 t102 H) λt103=>apm H t20 λt104=>apm H t17 λt105=>apu H (zab .sub false t105 (.int .i64 1)) λt106=>apu H (zai 3 t104 t106) λt107=>apu H (zan true 3 t107 H) λt108=>zaF H (λH K'=>ACalls tP zf5 [t103,t108] H K') λt109=>apu H (zai 3 t98 t99) λt110=>zam 3 t110 t109 H λH=>zab .add false t79 (.int .i64 1) λt111=>Kb22 (zl1 t2 t9 t10 t17 t77 t78 t111) H)
def zAN:=zab .lss false t79 t78 λt80=>zag t80 (zai 1 t77 t79 λt81=>zae false 1 t81 H λt82=>zab .sub false t17 (.int .i64 1) λt84=>ACalls tP zhc [t84] H λt85 H=>zah 1 t82 λt87=>zAS t2 t9 t10 t17 t85 t77 t78 t79 t82 t87 (.int .i64 0) H K Kb19 Kb22) (zab .add false t17 (.int .i64 1) λt76=>Kb19 (zl0 t2 t9 t10 t76) H)
def zAM:=zab .leq false t17 t2 λt74=>zag t74 (zah 1 t10 λt78=>zAR t2 t9 t10 t17 t10 t78 (.int .i64 0) H K Kb19) (K t9 H)
def zsy:=zab .lss false t32 t31 λt33=>zag t33 (zae true 3 t5 H λt37=>ACalls tP zqz [t0,t37,t32] H λt39 H=>zaI t39 0 λt40=>zaI t39 1 λt41=>aUn .not t41 λt43=>zag t43 (zl3 t0 t2 t3 t5 t9 t10 t31 t32 H K Kb4) (zau 1 [.snil] 0 [] λt44=>zah 1 t40 λt46=>zAQ t0 t2 t3 t5 t9 t10 t44 t31 t32 t40 t46 (.int .i64 0) H K Kb4)) (zl5 t2 t9 t10 (.int .i64 1) H K)
def zAI:=zaw t1 H λt5 H=>ACalls tP zg8 [t2] H λt24 H=>zaf 1 t5 λt26=>zae false 1 t26 H λt27=>zai 3 t0 t27 λt28=>zaf 2 t28 λt29=>zae false 1 t29 H λt30=>zah 1 t30 λt31=>zAT t0 t2 t3 t5 t24 .snil t31 (.int .i64 0) H K
def zPt(_:Nat):List Bool:=[]
noncomputable def zPu:=Tryz.f160.body.getD .skip
def ztv:=ACalls tP zg8 [t0] H λt5 H=>ACalls tP zf4 [(.int .i64 1)] H λt7 H=>zai 3 t5 (.int .i64 0) λt8=>zam 3 t8 t7 H λH=>K t5 H
def zgp:Nat→List Bool|3=>rl false [0,3,4,1,5,2,52]|6=>rl false [0,3,4,3,3,2,52]|_=>[]
noncomputable def ztw:=Tryz.f161.body.getD .skip
noncomputable def zPC:=Tryz.f161.results.toList
def zja:=t0::t1::t2::ux 4 (t7::ux 5 (t13::t14::ux 52 []))
def zCf:=zgp 3
noncomputable def ztx:=zas [1,1,0,1,0,0] ztw
def zB9:=zat tP zgp [1,1,0,1,0] ztw (zaA tP zPC K)
def zCd:=ALoop tP ztx (zB9 K) (zja t0 t1 t2 t7 t13 t14) H
def zmS:=t0::t1::t2::ux 4 (t7::t8::t9::ux 3 (t13::t14::ux 52 []))
def zPA:=zgp 6
noncomputable def zPx:=zas [1,1,0,0,1,1,0,0] ztx
def zPw:=zat tP zgp [1,1,0,0,1,1,0] ztx (zbp zCf Kb3 (zB9 K))
def zCe:=ALoop tP zPx (zPw K Kb3) (zmS t0 t1 t2 t7 t8 t9 t13 t14) H
def zCc(t0 t1 t2 t7 t8 t9 t13 t14:AV)(H:zaa)(K:Kt)(Kb3:Lt)(Kb6:Lt):Prop:=zab .add false t9 (.int .i64 1) λt29=>Kb6 (zmS t0 t1 t2 t7 t8 t29 t13 t14) H
def zmT:=zCc t0 t1 t2 t7 t8 t9 t13 t14 H K Kb3 Kb6
def zCb:=zah 1 t1 λt19=>zab .lss false t9 t19 λt20=>zac t20 true H (λK'=>K' t8 H) λt22 H=>zac t20 true H (λK'=>K' t9 H) λt23 H=>zac t20 true H (λK'=>zab .add false t22 t23 (K' · H)) λt24 H=>zac t20 true H (λK'=>K' t2 H) λt25 H=>zac t20 true H (λK'=>zab .leq false t24 t25 (K' · H)) λt26 H=>zak t20 t26 (.bool false) λt27=>zag t27 (zai 3 t0 t8 λt32=>zae true 3 t32 H λt33=>ACalls tP ziv [t33] H λt34 H=>zab .neq false t34 (.int .i64 0) λt35=>zac t35 true H (λK'=>K' t1 H) λt37 H=>zac t35 true H (λK'=>K' t9 H) λt38 H=>zac t35 true H (λK'=>zai 3 t37 t38 (K' · H)) λt39 H=>zac t35 true H (λK'=>zae true 3 t39 H (K' · H)) λt40 H=>zac t35 true H (λK'=>ACalls tP ziv [t40] H K') λt41 H=>zac t35 true H (λK'=>zab .neq false t41 (.int .i64 0) (K' · H)) λt42 H=>zak t35 t42 (.bool false) λt43=>zag t43 (apm H t7 λt44=>apm H t8 λt45=>apm H t9 λt46=>apu H (zab .add false t45 t46) λt47=>apm H t7 λt48=>apm H t8 λt49=>apm H t9 λt50=>apu H (zab .add false t49 t50) λt51=>apu H (zai 3 t48 t51) λt52=>apu H (zan true 3 t52 H) λt53=>apm H t0 λt54=>apm H t8 λt55=>apu H (zai 3 t54 t55) λt56=>apu H (zan true 3 t56 H) λt57=>apm H t1 λt58=>apm H t9 λt59=>apu H (zai 3 t58 t59) λt60=>apu H (zan true 3 t60 H) λt61=>zaF H (λH K'=>ACalls tP zkt [t57,t61] H K') λt62=>zaF H (λH K'=>ACalls tP zf5 [t53,t62] H K') λt63=>apu H (zai 3 t44 t47) λt64=>zam 3 t64 t63 H λH=>zmT t0 t1 t2 t7 t8 t9 t13 t14 H K Kb3 Kb6) (zmT t0 t1 t2 t7 t8 t9 t13 t14 H K Kb3 Kb6)) (zab .add false t14 (.int .i64 1) λt65=>Kb3 (zja t0 t1 t2 t7 t13 t65) H)
def zCa:=zab .lss false t14 t13 λt15=>zag t15 (zCe t0 t1 t2 t7 t14 (.int .i64 0) t13 t14 H K Kb3) (K t7 H)
def zB8:=ACalls tP zg8 [t2] H λt11 H=>zah 1 t0 λt13=>zCd t0 t1 t2 t11 t13 (.int .i64 0) H K
def zPR(_:Nat):List Bool:=[]
noncomputable def zPS:=Tryz.f162.body.getD .skip
def zCj:=zaw t1 H λt4 H=>zae true 3 t4 H λt9=>ACalls tP zkM [t0,t9,t2] H λt11 H=>zaI t11 0 λt12=>zaI t11 1 λt13=>zaX [t12,t13] (K · H)
def zmZ:Nat→List Bool|4=>rl false [2,2,1,1,40]|_=>[]
noncomputable def ztC:=Tryz.f163.body.getD .skip
noncomputable def zP0:=Tryz.f163.results.toList
def zm0:=ux 2 (t2::t3::ux 1 (t5::ux 40 []))
def zPY:=zmZ 4
noncomputable def zPW:=zas [1,1,0,1,0,0] ztC
def zPV:=zat tP zmZ [1,1,0,1,0] ztC (zaA tP zP0 K)
def zCl:=ALoop tP zPW (zPV K) (zm0 t2 t3 t5) H
def ztB:=zaf 2 t2 λt28=>zae false 1 t28 H λt29=>zah 1 t29 λt30=>zab .lss false t5 t30 λt31=>zag t31 (apu H (zaf 2 t2) λt34=>apu H (zan false 1 t34 H) λt35=>apm H t5 λt36=>apu H (zai 3 t35 t36) λt37=>apu H (zan true 3 t37 H) λt38=>apu H (zaf 2 t3) λt39=>apu H (zan false 1 t39 H) λt40=>apm H t5 λt41=>apu H (zai 3 t40 t41) λt42=>apu H (zan true 3 t42 H) λt43=>zaF H (λH K'=>ACalls tP zkr [t38,t43] H K') λt44=>apu H (aUn .not t44) λt45=>zag t45 (K (.bool false) H) (zab .add false t5 (.int .i64 1) λt33=>Kb4 (zm0 t2 t3 t33) H)) (K (.bool true) H)
def zCk:=zaw t0 H λt2 H=>zaw t1 H λt3 H=>zaf 0 t2 λt6=>zae false 1 t6 H λt7=>zaf 0 t3 λt8=>zae false 1 t8 H λt9=>zab .neq false t7 t9 λt10=>zac t10 false H (λK'=>zaf 1 t2 (K' · H)) λt12 H=>zac t10 false H (λK'=>zae false 1 t12 H (K' · H)) λt13 H=>zac t10 false H (λK'=>zaf 1 t3 (K' · H)) λt14 H=>zac t10 false H (λK'=>zae false 1 t14 H (K' · H)) λt15 H=>zac t10 false H (λK'=>zab .neq false t13 t15 (K' · H)) λt16 H=>zak t10 (.bool true) t16 λt17=>zac t17 false H (λK'=>zaf 2 t2 (K' · H)) λt19 H=>zac t17 false H (λK'=>zae false 1 t19 H (K' · H)) λt20 H=>zac t17 false H (λK'=>zah 1 t20 (K' · H)) λt21 H=>zac t17 false H (λK'=>zaf 2 t3 (K' · H)) λt22 H=>zac t17 false H (λK'=>zae false 1 t22 H (K' · H)) λt23 H=>zac t17 false H (λK'=>zah 1 t23 (K' · H)) λt24 H=>zac t17 false H (λK'=>zab .neq false t21 t24 (K' · H)) λt25 H=>zak t17 (.bool true) t25 λt26=>zag t26 (K (.bool false) H) (zCl t2 t3 (.int .i64 0) H K)
variable {t0 t1 t2 t3 t4 t5 t6 t7 t8 t9 t10 t13 t14 t15 t16 t17 t18 t19 t20 t31 t32 t33 t45 t46 t47 t49 t50 t51 t56 t57 t58 t77 t78 t79 t86 t87 t88} {H} {K} {Kb3 Kb4 Kb6 Kb10 Kb12 Kb15 Kb19 Kb22}
theorem zOh(h:HSc H→zBa t0 t1 t2 t3 H K):ACalls tP zql [t0,t1,t2,t3] H K:=
 acb zOe Tryz.func15 zOg h
theorem zSq(h:HSc H→zDe t0 t1 H K):ACalls tP zqM [t0,t1] H K:=
 acb zSo Tryz.func39 zSp h
theorem zVr:Lo1 (λt58=>zoo t0 t2 t49 t50 t51 t56 t57 t58) (λt58 H Kb15=>zu8 t0 t2 t49 t50 t51 t56 t57 t58 H K Kb12 Kb15) t58 H (zEs t0 t2 t49 t50 t51 t56 t57 t58 H K Kb12):=lq1 zeu zVt
theorem zVq:Lo1 (λt51=>zon t0 t2 t49 t50 t51) (λt51 H Kb12=>zu7 t0 t2 t49 t50 t51 H K Kb12) t51 H (zEr t0 t2 t49 t50 t51 H K):=lq1 zeu zEu
theorem zVs:Lo1 (λt19=>zop t0 t2 t4 t17 t18 t19) (λt19 H Kb4=>zom t0 t2 t4 t17 t18 t19 H K Kb4) t19 H (zEt t0 t2 t4 t17 t18 t19 H K):=lq1 zeu zVu
theorem zVv(h:HSc H→zu6 t0 t1 t2 H K):ACalls tP zhi [t0,t1,t2] H K:=
 acb zeu Tryz.func79 zjn h
theorem zSu(h:HSc H→zDf t0 t1 t2 t3 H K):ACalls tP zqN [t0,t1,t2,t3] H K:=
 acb zSs Tryz.func40 zSt h
theorem zVz(h:HSc H→zEw t0 t1 t2 t3 H K):ACalls tP zf9 [t0,t1,t2,t3] H K:=
 acb zVx Tryz.func80 zVy h
theorem zLZ:Lo1 (λt10=>zlU t3 t9 t10) (λt10 H Kb3=>zsr t3 t9 t10 H K Kb3) t10 H (zAy t3 t9 t10 H K):=lq1 zlT zL0
theorem zL1(h:HSc H→zAx t0 H K):ACalls tP zg8 [t0] H K:=
 acb zlT Tryz.func112 zss h
theorem zL5:Lo2 (λt9 t16=>zlW t0 t2 t3 t9 t14 t15 t16) (λt9 t16 H Kb3=>zst t0 t2 t3 t9 t14 t15 t16 H K Kb3) t9 t16 H (zAA t0 t2 t3 t9 t14 t15 t16 H K):=lq2 zlV zL6
theorem zL7(h:HSc H→zAz t0 t1 t2 t3 H K):ACalls tP zqf [t0,t1,t2,t3] H K:=
 acb zlV Tryz.func113 zsu h
theorem zMd:Lo1 (λt7=>zlY t0 t1 t5 t6 t7) (λt7 H Kb6=>zAE t0 t1 t5 t6 t7 H K Kb3 Kb6) t7 H (zAG t0 t1 t5 t6 t7 H K Kb3):=lq1 zgl zMe
theorem zMc:Lo1 (λt6=>zlX t0 t1 t5 t6) (λt6 H Kb3=>zAD t0 t1 t5 t6 H K Kb3) t6 H (zAF t0 t1 t5 t6 H K):=lq1 zgl zAH
theorem zMf(h:HSc H→zAB t0 t1 H K):ACalls tP zqg [t0,t1] H K:=
 acb zgl Tryz.func114 zsv h
theorem zMm:Lo2 (λt14 t47=>zlZ t0 t2 t3 t5 t9 t10 t14 t31 t32 t45 t46 t47) (λt14 t47 H Kb10=>zsx t0 t2 t3 t5 t9 t10 t14 t31 t32 t45 t46 t47 H K Kb4 Kb10) t14 t47 H (zAQ t0 t2 t3 t5 t9 t10 t14 t31 t32 t45 t46 t47 H K Kb4):=lq2 zcE zMr
theorem zMp:Lo2 (λt20 t88=>zl2 t2 t9 t10 t17 t20 t77 t78 t79 t86 t87 t88) (λt20 t88 H Kb26=>zAO t2 t9 t10 t17 t20 t77 t78 t79 t86 t87 t88 H K Kb19 Kb22 Kb26) t20 t88 H (zAS t2 t9 t10 t17 t20 t77 t78 t79 t86 t87 t88 H K Kb19 Kb22):=lq2 zcE zMs
theorem zMo:Lo1 (λt79=>zl1 t2 t9 t10 t17 t77 t78 t79) (λt79 H Kb22=>zAN t2 t9 t10 t17 t77 t78 t79 H K Kb19 Kb22) t79 H (zAR t2 t9 t10 t17 t77 t78 t79 H K Kb19):=lq1 zcE zAV
theorem zMn:Lo1 (λt17=>zl0 t2 t9 t10 t17) (λt17 H Kb19=>zAM t2 t9 t10 t17 H K Kb19) t17 H (zl5 t2 t9 t10 t17 H K):=lq1 zcE zAU
theorem zMq:Lo2 (λt10 t32=>zi0 t0 t2 t3 t5 t9 t10 t31 t32) (λt10 t32 H Kb4=>zsy t0 t2 t3 t5 t9 t10 t31 t32 H K Kb4) t10 t32 H (zAT t0 t2 t3 t5 t9 t10 t31 t32 H K):=lq2 zcE zAW
theorem zMt(h:HSc H→zAI t0 t1 t2 t3 H K):ACalls tP zqh [t0,t1,t2,t3] H K:=
 acb zcE Tryz.func115 ziZ h
theorem zB6(h:HSc H→ztv t0 H K):ACalls tP zhc [t0] H K:=
 acb zPt Tryz.func160 zPu h
theorem zPz:Lo1 (λt9=>zmS t0 t1 t2 t7 t8 t9 t13 t14) (λt9 H Kb6=>zCb t0 t1 t2 t7 t8 t9 t13 t14 H K Kb3 Kb6) t9 H (zCe t0 t1 t2 t7 t8 t9 t13 t14 H K Kb3):=lq1 zgp zPA
theorem zPy:Lo1 (λt14=>zja t0 t1 t2 t7 t13 t14) (λt14 H Kb3=>zCa t0 t1 t2 t7 t13 t14 H K Kb3) t14 H (zCd t0 t1 t2 t7 t13 t14 H K):=lq1 zgp zCf
theorem zPB(h:HSc H→zB8 t0 t1 t2 H K):ACalls tP zkq [t0,t1,t2] H K:=
 acb zgp Tryz.func161 ztw h
theorem zPT(h:HSc H→zCj t0 t1 t2 H K):ACalls tP zqz [t0,t1,t2] H K:=
 acb zPR Tryz.func162 zPS h
theorem zPX:Lo1 (λt5=>zm0 t2 t3 t5) (λt5 H Kb4=>ztB t2 t3 t5 H K Kb4) t5 H (zCl t2 t3 t5 H K):=lq1 zmZ zPY
theorem zPZ(h:HSc H→zCk t0 t1 H K):ACalls tP zkr [t0,t1] H K:=
 acb zmZ Tryz.func163 ztC h
end
def rtA(l:List Nat):List (List AV):=l.map λn:Nat=>zaq (n:Int)
@[simp] theorem zIN(l:List Nat):(rtA l).length=l.length:=by simp[rtA]
theorem zro(l:List Nat):(rtA l).flatten=zav (l.map some):=by unfold rtA zav;rw[cK];rfl
theorem zrn{l:List Nat}:∀c∈rtA l,c.length=3:=λc hc=>by obtain⟨n,_,rfl⟩:=aV.1 hc;rfl
theorem zIM(l:List Nat):(rtA l).flatten.all AV.known=true:=by
 induction l with
 |nil=>rfl
 |cons n l ih=>unfold rtA at ih ⊢;rw[aA,List.flatten_cons,bZ,ih];simp
theorem zre:∀ l:List Nat,plain (zav (l.map some))=some (zav (l.map some))
 |[]=>rfl
 |n::l=>by have ih:=zre l;unfold zav at ih ⊢;rw[aA,aA,List.flatten_cons];exact zrd (show plain (zaq (n:Int))=some (zaq (n:Int)) from rfl) ih
def RowAt(H:zaa)(b:AV)(l:List Nat):Prop:=b=.sl (rtA l) .none∨∃id,b=.ms id 0 l.length l.length∧H[id]?=some (.cells (zav (l.map some)))
theorem RowAt.len{H:zaa}{b:AV}{l:List Nat}(h:RowAt H b l){K:AV→Prop}(hk:K (.int .i64 l.length)):zah 1 b K:=by
 rcases h with rfl|⟨id,rfl,_⟩
 ·simpa using hk
 ·simpa using hk
theorem RowAt.app{H J:zaa}{b:AV}{l:List Nat}(h:RowAt H b l):RowAt (H++J) b l:=by
 rcases h with rfl|⟨id,rfl,h⟩
 ·exact .inl rfl
 ·exact .inr ⟨id,rfl,by rw[List.getElem?_append_left (List.getElem?_eq_some_iff.1 h).1];exact h⟩
theorem getD_some{l:List Nat}{j:Nat}(h:j<l.length):(l.map some).getD j none=some (l.getD j 0):=by simp[List.getD_eq_getElem?_getD,h]
theorem RowAt.at{H:zaa}{b:AV}{l:List Nat}(h:RowAt H b l){j:Nat}(hj:j<l.length){K:AV→Prop}(hk:K (.agg (zaj (some (l.getD j 0))))):zai 3 b (.int .i64 j) λp=>zae true 3 p H K:=by
 rcases h with rfl|⟨id,rfl,h⟩
 ·have hg:(rtA l)[j]'(by simpa using hj)=zaq ((l.getD j 0:Nat):Int):=by simp[rtA,List.getD_eq_getElem?_getD,hj]
  have hr:zaq ((l.getD j 0:Nat):Int)=zaj (some (l.getD j 0)):=rfl;rw[←hr]at hk;rw[zeA];have hgd:(rtA l).getD ((j:Nat):Int).toNat []=zaq ((l.getD j 0:Nat):Int):=by simp[rtA,List.getD_eq_getElem?_getD,hj]
  simp only[hgd];refine⟨⟨by omega,by simpa using hj⟩,by simp,?_⟩;have ht:∀z:Int,(zaq z).take 3=zaq z:=λ_=>rfl;simpa[ht]using hk
 ·exact zfY hj (zeb h (by simpa using hj) (by rw[getD_some hj];exact hk))
theorem RowAt.atC{H:zaa}{b:AV}{l:List Nat}(h:RowAt H b l){j:Nat}(hj:j<l.length){K:AV→Prop}(hk:K (.agg (zaj (some (l.getD j 0))))):zai 3 b (.int .i64 j) λp=>zan true 3 p H K:=by
 rcases h with rfl|⟨id,rfl,h⟩
 ·have hr:zaq ((l.getD j 0:Nat):Int)=zaj (some (l.getD j 0)):=rfl;rw[←hr]at hk;rw[zeA];have hgd:(rtA l).getD ((j:Nat):Int).toNat []=zaq ((l.getD j 0:Nat):Int):=by simp[rtA,List.getD_eq_getElem?_getD,hj]
  simp only[hgd];refine⟨⟨by omega,by simpa using hj⟩,by simp,?_⟩;have ht:∀z:Int,(zaq z).take 3=zaq z:=λ_=>rfl;simpa[ht]using hk
 ·refine zfY hj ?_;simp only[zFy];exact zeb h (by simpa using hj) (by rw[getD_some hj];exact hk)
theorem zHW(l:List Nat)(i n:Nat):(l.map some).set i (some n)=(l.set i n).map some:=by rw[dC]
theorem zgc(l:List (Option Nat))(n:Nat):(AB.cells (zav l)).sc n=true:=by simp[AB.sc,ziL]
theorem zJ1{id h:Nat}{r:List (Option Nat)}{o:Option Nat}{H:zaa}{K:zaa→Prop}(hid:H[id]?=some (.cells (zav r)))(hl:h<r.length)(hk:K (H.set id (.cells (zav (r.set h o))))):zcH 3 (h*3) id (AV.agg (zaj o)).cs? H[id]? H K:=by have:=zfy hid hl hk;rwa [zgM]at this
theorem ziY(n:Nat)(hn:n≤1000)(H:zaa)(K:Kt)(hK:K (.ms H.length 0 (n+1) (n+1)) (H++[.cells (zav ((List.replicate (n+1) 0).map some))])):ACalls tP zg8 [.int .i64 n] H K:=by
 refine ACalls.out (zL1 λhs=>?_);have hw:IntKind.i64.wrap ((n:Int)+1)=((n+1:Nat):Int):=wr (by omega);simp only[zAx,zgG,hw,za9];refine⟨by omega,?_⟩;rw[Int.toNat_natCast,zk5];simp only[zah];obtain⟨L,hL⟩:∃L,L=H.length:=⟨_,rfl⟩;have hr:∀i,i≤n+1→(List.replicate i (some 0)++List.replicate (n+1-i) (none:Option Nat)).length=n+1:=λi hi=>by simp;omega
 rw[←hL]at hK ⊢;refine zLZ (Inv:=λq t10 H'=>∃i:Nat,i≤n+1∧n+1-i=q∧t10=.int .i64 i∧H'=H++[.cells (zav (List.replicate i (some 0)++List.replicate (n+1-i) none))]) (n+1) ?_ ?_
 ·intro _;exact⟨0,by omega,rfl,rfl,rfl⟩
 ·rintro q t10 H' ⟨i,hi,rfl,rfl,rfl⟩ hsc hlen hsF Kb hKb;by_cases hlt:i<n+1
  ·have hli:(i:Int)<(n:Int)+1:=by omega
   simp[zsr,hli];refine zhC 0 (by omega) _ _ ?_;have e0:zaq ((0:Nat):Int)=zaj (some 0):=rfl;rw[e0];refine zJ1 (h:=i) (r:=List.replicate i (some 0)++List.replicate (n+1-i) none) (by rw[hL];simp) (by rw[hr i (by omega)];exact hlt) ?_;have hset:(H++[AB.cells (zav (List.replicate i (some 0)++List.replicate (n+1-i) none))]).set L (.cells (zav ((List.replicate i (some 0)++List.replicate (n+1-i) none).set i (some 0))))=H++[.cells (zav (List.replicate (i+1) (some 0)++List.replicate (n+1-(i+1)) none))]:=by
    rw[hL,ai _ _ (aa _)];have:(List.replicate i (some 0)++List.replicate (n+1-i) (none:Option Nat)).set i (some 0)=List.replicate (i+1) (some 0)++List.replicate (n+1-(i+1)) none:=by
     rw[ai _ _ (by simp)];obtain⟨m,hm⟩:∃m,n+1-i=m+1:=⟨n-i,by omega⟩;have hm2:n+1-(i+1)=m:=by omega
     rw[hm,hm2,List.length_replicate,bU,List.replicate_succ' (n:=i),List.replicate_succ (n:=m),ah];rfl
    rw[this];simp
   rw[hset];have hwi:IntKind.i64.wrap ((i:Int)+1)=((i+1:Nat):Int):=wr (by omega);simp only[zgG,hwi];refine hKb _ _ ⟨n+1-(i+1),by omega,Back.here (by simp) (hs.snoc (zgc _ _)) ?_ ⟨_,rfl,i+1,by omega,rfl,rfl,rfl⟩⟩;simp[zlU,ux,AV.sc,AV.scA,AV.scB,AV.scV,hL]
  ·obtain rfl:i=n+1:=by omega
   have hli:¬((n+1:Nat):Int)<(n:Int)+1:=by omega
   simp[zsr];exact Out.at (H2:=H++[.cells (zav ((List.replicate (n+1) 0).map some))]) (J:=[]) (by simp) (by simp[hL]) (hs.snoc (zgc _ _)) .rfl' rfl (by simp[AV.scV,AV.scA,AV.scB,hL]) hK
def zeP(n:Nat):List Nat:=1::List.replicate n 0
theorem zPv(n:Nat)(hn:n≤1000)(H:zaa)(K:Kt)(hK:K (.ms H.length 0 (n+1) (n+1)) (H++[.cells (zav ((zeP n).map some))])):ACalls tP zhc [.int .i64 n] H K:=by
 refine ACalls.out (zB6 λhs=>?_);simp only[ztv];refine ziY n hn _ _ ?_;refine zhC 1 (by omega) _ _ ?_;have e0:zaq ((1:Nat):Int)=zaj (some 1):=rfl;rw[e0];have hz:((0:Int))=((0:Nat):Int):=rfl;rw[hz];refine zfY (h:=0) (by omega) ?_;refine zfy (h:=0) (r:=(List.replicate (n+1) 0).map some) (by simp) (by simp) ?_;have hset:(H++[AB.cells (zav ((List.replicate (n+1) 0).map some))]).set H.length (.cells (zav (((List.replicate (n+1) 0).map some).set 0 (some 1))))=H++[.cells (zav ((zeP n).map some))]:=by rw[ai _ _ (aa _)];simp[zeP,List.replicate_succ]
 rw[hset];exact Out.at (H2:=H++[.cells (zav ((zeP n).map some))]) (J:=[]) (by simp) (by simp) (hs.snoc (zgc _ _)) .rfl' rfl (by simp[AV.scV,AV.scA,AV.scB]) hK
theorem zw8{l:List Nat}{H:zaa}{L n:Nat}{K:Kt}(hs:HSc H)(hL:L=H.length)(hn:n=l.length)(J:zaa)(hK:K (.sl (rtA l) .none) H):Out H.length K (.ms L 0 n n) (H++.cells (zav (l.map some))::J):=by subst hL hn;refine⟨.sl (rtA l) .none,H,.cells (zav (l.map some))::J,rfl,aa _,hs,.one (.frz H.length 0 l.length l.length 3 (zav (l.map some)) (rtA l) (aa _) (by simp) (by rw[zei];simp;omega) ?_ (by simp) zrn (aa _)),hK⟩;rw[aU,ak (by rw[zei];simp;omega),zre,zro]
theorem zB7(n:Nat)(hn:n≤1000)(H:zaa)(K:Kt)(hK:K (.sl (rtA (zeP n)) .none) H):ACalls tP zhc [.int .i64 n] H K:=by
 refine ACalls.out (zB6 λhs=>?_);simp only[ztv];refine ziY n hn _ _ ?_;refine zhC 1 (by omega) _ _ ?_;have e0:zaq ((1:Nat):Int)=zaj (some 1):=rfl;rw[e0];have hz:((0:Int))=((0:Nat):Int):=rfl;rw[hz];refine zfY (h:=0) (by omega) ?_;refine zfy (h:=0) (r:=(List.replicate (n+1) 0).map some) (by simp) (by simp) ?_;have hset:(H++[AB.cells (zav ((List.replicate (n+1) 0).map some))]).set H.length (.cells (zav (((List.replicate (n+1) 0).map some).set 0 (some 1))))=H++[.cells (zav ((zeP n).map some))]:=by rw[ai _ _ (aa _)];simp[zeP,List.replicate_succ]
 rw[hset];exact zw8 hs rfl (by simp[zeP]) [] hK
def tab(f:Nat→Nat)(n:Nat):List Nat:=(List.range (n+1)).map f
@[simp] theorem zgi(f:Nat→Nat)(n:Nat):(tab f n).length=n+1:=by simp[tab]
theorem zdR(f:Nat→Nat){n k:Nat}(h:k≤n):(tab f n).getD k 0=f k:=by unfold tab;rw[List.getD_eq_getElem?_getD,List.getElem?_map,List.getElem?_range (by omega)];rfl
theorem zc3{f g:Nat→Nat}{n:Nat}(h:∀k,k≤n→f k=g k):tab f n=tab g n:=bc λk hk=>h k (by simp at hk;omega)
@[simp] theorem zlg(f:Nat→Nat)(n x:Nat)(h:x<(tab f n).length):(tab f n)[x]=f x:=by simp[tab]
theorem zKa{f g:Nat→Nat}{n k v:Nat}(h:∀x,x≤n→g x=if x=k then v else f x):(tab f n).set k v=tab g n:=by
 refine bT (by simp) λx h1 h2=>?_;simp only[cc,zgi]at h1 h2;rw[List.getElem_set,zlg,zlg,h x (by omega)];by_cases e:k=x
 ·rw[aB e,aB e.symm]
 ·rw[ap e,ap λe'=>e e'.symm]
theorem zlh(n:Nat):List.replicate (n+1) 0=tab (λ_=>0) n:=by unfold tab;rw[List.map_const'];simp
theorem zrF(n:Nat):zeP n=tab zeh n:=by
 show 1::List.replicate n 0=tab zeh n;refine bT (by simp) λx h1 h2=>?_;rw[zlg];cases x with
 |zero=>rfl
 |succ x=>simp[zeh]
theorem RowAt.sc{H:zaa}{b:AV}{l:List Nat}(h:RowAt H b l){n:Nat}(hn:H.length≤n):b.sc n=true:=by
 rcases h with rfl|⟨id,rfl,h⟩
 ·simp[AV.sc,AV.scV,AV.scA,AV.scB]
 ·have:=(List.getElem?_eq_some_iff.1 h).1;simp[AV.sc,AV.scV,AV.scA,AV.scB];omega
theorem RowAt.here(A:zaa)(l:List Nat)(J:zaa):RowAt (A++.cells (zav (l.map some))::J) (.ms A.length 0 l.length l.length) l:=.inr ⟨_,rfl,by simp⟩
theorem zdP(k:IntKind)(z:Int)(n:Nat):(AV.int k z).sc n=true:=rfl
theorem zdQ(n:Nat):AV.unk.sc n=true:=rfl
def prT(f g:Nat→Nat)(i k:Nat):Nat:=sm i λh=>if h≤k then f h*g (k-h) else 0
def prS(f g:Nat→Nat)(i j k:Nat):Nat:=prT f g i k+if i≤k∧k<i+j then f i*g (k-i) else 0
theorem zyF(f g:Nat→Nat)(k:Nat):∀ d:Nat,prT f g (k+1+d) k=cvR g f k
 |0=>zb8 λh hh=>by rw[aB (by omega)]
 |d+1=>by have ih:=zyF f g k d;unfold prT at ih ⊢;rw[show k+1+(d+1)=(k+1+d)+1 from rfl,sm,ih,ap (by omega),Nat.add_zero]
theorem zyE(f g:Nat→Nat){k m:Nat}(h:k≤m):prT f g (m+1) k=cvR g f k:=by have:=zyF f g k (m-k);rwa [show k+1+(m-k)=m+1 from by omega]at this
theorem zIH(f g:Nat→Nat){i k m:Nat}(hi:i≤m+1)(h:k≤m):prT f g i k≤cvR g f k:=by rw[←zyE f g h];exact zzi hi _
theorem zIG(f g:Nat→Nat)(i k:Nat):prS f g i 0 k=prT f g i k:=by unfold prS;rw[ap (by omega),Nat.add_zero]
theorem zyD(f g:Nat→Nat){i j k m:Nat}(hk:k≤m)(h:m<i+j):prS f g i j k=prT f g (i+1) k:=by
 unfold prS prT;rw[sm];congr 1;by_cases hc:i≤k
 ·rw[aB ⟨hc,by omega⟩,aB hc]
 ·rw[ap (by omega),ap hc]
theorem zk1(f g:Nat→Nat)(i j k:Nat):prS f g i (j+1) k=if k=i+j then prS f g i j (i+j)+f i*g j else prS f g i j k:=by
 unfold prS;by_cases e:k=i+j
 ·subst e;rw[aB ⟨by omega,by omega⟩,aB rfl,ap (by omega),Nat.add_zero,cD]
 ·rw[ap e];congr 1;by_cases hc:i≤k∧k<i+j
  ·rw[aB hc,aB ⟨hc.1,by omega⟩]
  ·rw[ap hc,ap (by omega)]
theorem zIF(f g:Nat→Nat){i j k m:Nat}(hi:i≤m)(hk:k≤m):prS f g i j k≤cvR g f k:=by
 refine aC ?_ (zIH f g (i:=i+1) (by omega) hk);unfold prS prT;rw[sm];refine Nat.add_le_add_left ?_ _;by_cases hc:i≤k
 ·rw[aB hc];split <;> omega
 ·rw[ap (by omega),ap hc];omega
theorem zlf{H J:zaa}{F G:Nat→Nat}{m s v:Nat}{o:AV}{K:zaa→Prop}(ho:o=.ms H.length 0 (m+1) (m+1))(hs:s≤m)(h:∀ x,x≤m→G x=if x=s then v else F x)(hk:K (H++.cells (zav ((tab G m).map some))::J)):
  zai 3 o (.int .i64 s) λp=>zam 3 p (.agg (zaq (v:Nat))) (H++.cells (zav ((tab F m).map some))::J) K:=by
 subst ho;refine zfY (by omega) ?_;refine zfy (h:=s) (r:=(tab F m).map some) (o:=some v) (by simp) (by simp;omega) ?_;rw[ai _ _ (aa _),bU,List.set_cons_zero,zHW,zKa h];exact hk
theorem zzG{H J:zaa}{F G:Nat→Nat}{m:Nat}{o:AV}{K:Kt}(ho:o=.ms H.length 0 (m+1) (m+1))(hs:HSc H)(h:∀x,x≤m→F x=G x)(hk:K (.sl (rtA (tab G m)) .none) H):Out H.length K o (H++.cells (zav ((tab F m).map some))::J):=by subst ho;rw[zc3 h];exact zw8 hs rfl (by simp) J hk
theorem smP{n:Nat}(h:n<1000000000 ^ 30):Sm (n:Int):=by unfold Sm;rwa [Int.natAbs_natCast]
theorem zCg(f g:Nat→Nat)(m N:Nat)(hm:m≤1000)(hN:m≤N)(hN2:N≤1000)(hf:∀k,k≤m→f k<1000000000 ^ 30)(hg:∀k,k≤m→g k<1000000000 ^ 30)(hB:∀k,k≤m→cvR g f k<1000000000 ^ 30)(a b:AV)(H:zaa)(ha:RowAt H a (tab f m))(hb:RowAt H b (tab g N))(K:Kt)(hK:K (.sl (rtA (tab (cvR g f) m)) .none) H):ACalls tP zkq [a,b,.int .i64 m] H K:=by
 refine ACalls.out (zPB λhs=>?_);unfold zB8;refine ziY m hm _ _ ?_;rw[zlh];refine ha.len ?_;rw[zgi];obtain⟨o,ho⟩:∃o,o=AV.ms H.length 0 (m+1) (m+1):=⟨_,rfl⟩;rw[←ho];have hrow:∀(F:Nat→Nat) (J:zaa),RowAt (H++.cells (zav ((tab F m).map some))::J) o (tab F m):=λF J=>by have:=RowAt.here H (tab F m) J;rw[zgi]at this;rwa [ho]
 have hoc:∀n,H.length<n→o.sc n=true:=λn hn=>by rw[ho];simp[AV.sc,AV.scV,AV.scA,AV.scB,hn]
 have hH:∀F:Nat→Nat,HSc (H++[AB.cells (zav ((tab F m).map some))]):=λF=>hs.snoc (zgc _ _);have hAs:∀n,H.length≤n→a.sc n=true:=λn hn=>ha.sc hn;have hBs:∀n,H.length≤n→b.sc n=true:=λn hn=>hb.sc hn;refine zPy (Inv:=λq t14 H'=>∃i:Nat,i≤m+1∧q=m+1-i∧t14=.int .i64 i∧H'=H++[.cells (zav ((tab (prT f g i) m).map some))]) (m+1) ?_ ?_
 ·intro _;exact⟨0,by omega,rfl,rfl,rfl⟩
 ·rintro q t14 H' ⟨i,hi,rfl,rfl,rfl⟩ hsc hlen hsF Kb hKb;unfold zCa;by_cases hlt:i<m+1
  ·have hli:(i:Int)<(m:Int)+1:=by omega
   simp[hli];refine zPz (Inv:=λq t9 H'=>∃j:Nat,j≤N+1∧q=N+1-j∧t9=.int .i64 j∧H'=H++[.cells (zav ((tab (prS f g i j) m).map some))]) (N+1) ?_ ?_
   ·intro _;exact⟨0,by omega,rfl,rfl,by rw[zc3 λk _=>zIG f g i k]⟩
   ·rintro q t9 H' ⟨j,hj,rfl,rfl,rfl⟩ hsc6 hlen6 hsF6 Kb6 hKb6;unfold zCb;refine hb.len ?_;rw[zgi];obtain⟨s,hse⟩:∃ s,s=i+j:=⟨_,rfl⟩;have hw:IntKind.i64.wrap ((i:Int)+j)=(s:Int):=by rw[zaz (by omega) (by omega)];omega
    have hwj:IntKind.i64.wrap ((j:Int)+1)=((j+1:Nat):Int):=wr (by omega);have hwi:IntKind.i64.wrap ((i:Int)+1)=((i+1:Nat):Int):=wr (by omega);by_cases hc:s≤m
    ·have hjN:(j:Int)<(N:Int)+1:=by omega
     have next:∀F:Nat→Nat,(∀k,k≤m→F k=prS f g i (j+1) k)→zmT a b (.int .i64 m) o (.int .i64 i) (.int .i64 j) (.int .i64 (m+1)) (.int .i64 i) (H++[.cells (zav ((tab F m).map some))]) (Out H.length K) Kb Kb6:=λF hF=>by unfold zmT zCc;simp only[zgG,hwj];refine hKb6 _ _ ⟨N+1-(j+1),by omega,Back.here (by simp) (hH _) ?_ ⟨_,rfl,j+1,by omega,rfl,rfl,by rw[zc3 hF]⟩⟩;simp[zmS,ux,zdP,zdQ,hAs,hBs,hoc]
     simp[hjN,hw,hc];have hst:∀F:Nat→Nat,RowAt (H++[.cells (zav ((tab F m).map some))]) o (tab F m):=λF=>hrow F [];refine ha.app.at (by simp;omega) ?_;rw[zdR f (by omega)];refine znv (f i:Nat) (smP (hf i (by omega))) _ _ ?_;by_cases hfi:f i=0
     ·simp[hfi];exact next _ λk hk=>by rw[zk1,hfi,bx,Nat.add_zero];split <;> simp[*]
     ·have hsi:((f i:Nat):Int).sign=1:=cF (by omega);simp[hsi];refine hb.app.at (by simp;omega) ?_;rw[zdR g (by omega)];refine znv (g j:Nat) (smP (hg j (by omega))) _ _ ?_;by_cases hgj:g j=0
      ·simp[hgj];exact next _ λk hk=>by rw[zk1,hgj,Nat.mul_zero,Nat.add_zero];split <;> simp[*]
      ·have hsj:((g j:Nat):Int).sign=1:=cF (by omega);have b1:prS f g i (j+1) s≤cvR g f s:=zIF f g (by omega) hc;have b0:=hB s hc;rw[zk1,aB hse,←hse]at b1;simp[hsj,hw];refine(hst _).atC (by simp;omega) ?_;rw[zdR _ hc];refine ha.app.atC (by simp;omega) ?_;rw[zdR f (by omega)];refine hb.app.atC (by simp;omega) ?_;rw[zdR g (by omega)];refine zaC _ (λJ=>zCC (f i:Nat) (g j:Nat) (smP (hf i (by omega))) (smP (hg j (by omega))) _ _ ⟨rfl,rfl⟩) ?_;rw[show ((f i:Nat):Int)*(g j:Nat)=((f i*g j:Nat):Int) from by simp];refine zaC _ (λJ=>zm2 (prS f g i j s:Nat) (f i*g j:Nat) (smP (by omega)) (smP (by omega)) _ _ ⟨rfl,rfl⟩) ?_;rw[show ((prS f g i j s:Nat):Int)+(f i*g j:Nat)=((prS f g i j s+f i*g j:Nat):Int) from by simp];exact zlf ho hc (G:=prS f g i (j+1)) (λx hx=>by rw[zk1,←hse]) (next _ λk hk=>rfl)
    ·by_cases hjN:(j:Int)<(N:Int)+1
     ·simp[hjN,hw,hc];refine hKb _ _ ⟨m+1-(i+1),by omega,Back.here (by simp) (hH _) ?_ ⟨_,rfl,i+1,by omega,rfl,by simp[hwi],by rw[zc3 λk hk=>zyD f g (j:=j) hk (by omega)]⟩⟩;simp[zja,ux,zdP,zdQ,hAs,hBs,hoc]
     ·simp[hjN];refine hKb _ _ ⟨m+1-(i+1),by omega,Back.here (by simp) (hH _) ?_ ⟨_,rfl,i+1,by omega,rfl,by simp[hwi],by rw[zc3 λk hk=>zyD f g (j:=j) hk (by omega)]⟩⟩;simp[zja,ux,zdP,zdQ,hAs,hBs,hoc]
  ·obtain rfl:i=m+1:=by omega
   have hli:¬(m:Int)+1<(m:Int)+1:=by omega
   simp;exact zzG ho hs (λx hx=>zyE f g hx) hK
theorem zP1:∀(m:Nat) (v u:VT),v.nodes≤m→v.nodes≤1000000000→∀(H:zaa) (K:Kt),K (.bool (v.same u)) H→ACalls tP zkr [.agg v.cs,.agg u.cs] H K:=by
 intro m;induction m with
 |zero=>intro v u h;have:=v.nodes_pos;omega
 |succ m ih=>
  intro v u hv hb H K hK;obtain⟨k,n,ks⟩:=v;obtain⟨k',n',ks'⟩:=u;have hnl:VT.nodesL ks+1≤1000000000:=by simpa[VT.nodes]using hb
  have hll:=VT.len_le ks;refine ACalls.out (zPZ λhs=>?_);have hO:∀J,Out H.length K (.bool ((VT.mk k n ks).same (.mk k' n' ks'))) (H++J):=λJ=>Out.bool rfl (aa _) hs hK;simp only[VT.same]at hO;simp only[VT.cs,zCk];by_cases hk:k=k';case neg=>
   rw[show (k == k')=false from by simpa using hk,aL,aL]at hO;have hk2:(k != k')=true:=by simpa using hk
   simp[hk2];exact hO _
  by_cases hn:n=n';case neg=>
   rw[show (n == n')=false from by simpa using hn,bn,aL]at hO;have hk2:(n != n')=true:=by simpa using hn
   simp[hk,hk2];exact hO _
  subst hk hn;rw[show (k == k)=true from by simp,show (n == n)=true from by simp,aR,aR]at hO;by_cases hlen:ks.length=ks'.length;case neg=>
   rw[show VT.sameL ks ks'=false from by cases hc:VT.sameL ks ks' with
    |false=>rfl
    |true=>exact absurd (VT.sameL_len _ _ hc) hlen]at hO
   have hk2:((ks.length:Int) != ks'.length)=true:=by simp;omega
   simp[hk2];exact hO _
  simp[hlen];obtain⟨B,hB⟩:∃B:zaa,B=H++[AB.cells [.int .i64 k,.int .i64 n,.sl (VT.css ks) .none],AB.cells [.int .i64 k,.int .i64 n,.sl (VT.css ks') .none]]:=⟨_,rfl⟩;have hBs:HSc B:=by rw[hB];exact hs.append (by simp[AB.sc,AV.scA,AV.scB])
  have hBl:B.length=H.length+2:=by rw[hB];simp
  have g0:B[H.length]?=some (.cells [.int .i64 k,.int .i64 n,.sl (VT.css ks) .none]):=by rw[hB];simp
  have g1:B[H.length+1]?=some (.cells [.int .i64 k,.int .i64 n,.sl (VT.css ks') .none]):=by rw[hB];simp[List.getElem?_append]
  rw[←hB];refine zPX (Inv:=λq t5 H'=>∃i:Nat,i≤ks.length∧q=ks.length-i∧t5=.int .i64 i∧VT.sameL (ks.drop i) (ks'.drop i)=VT.sameL ks ks'∧H'=B) ks.length ?_ ?_
  ·intro _;exact⟨0,by omega,by omega,rfl,by simp,rfl⟩
  ·rintro q t5 H' ⟨i,hi,rfl,rfl,ho,rfl⟩ hsc4 hlen2 hsF Kb hKb;have hfin:∀ b:Bool,b=VT.sameL ks ks'→Out H.length K (.bool b) H':=λb e=>by rw[hB,e];exact hO _
   by_cases hlt:i<ks.length
   ·have hlt':i<ks'.length:=by omega
    rw[VT.sameL_drop hlt hlt']at ho;obtain⟨x1,x2,x3,hvx,hx1,hx2,hx3⟩:=zaO ks[i];obtain⟨y1,y2,y3,hvy,hy1,hy2,hy3⟩:=zaO ks'[i];simp[ztB,g0,g1,hlt,hlt',hvx,hx1,hx2,hx3,hvy,hy1,hy2,hy3];rw[←hvx,←hvy];have hkl:=zj5 (k:=k) (n:=n) ks[i] (ae hlt);refine zaC _ (λJ=>ih ks[i] ks'[i] (by omega) (by omega) _ _ ⟨rfl,rfl⟩) ?_;cases hb:(ks[i]).same ks'[i] with
    |false=>rw[hb,aL]at ho;simp;exact hfin _ ho
    |true=>rw[hb,aR]at ho;simp;rw[zaz (by omega) (by omega)];refine hKb _ _ ⟨ks.length-(i+1),by omega,Back.here (by omega) hBs ?_ ⟨_,rfl,i+1,by omega,rfl,rfl,ho,rfl⟩⟩;simp[zm0,ux,AV.sc,AV.scV,AV.scA,AV.scB];omega
   ·have hlt':¬ i<ks'.length:=by omega
    obtain rfl:i=ks.length:=by omega
    rw[au,hlen,au]at ho;simp[ztB,g0,hlt'];exact hfin _ ho
def sqS(g:Nat→Nat)(s j x:Nat):Nat:=if x<s then cA g x else if x=s then sm j λd=>g d*cA g (s-d) else 0
theorem zJX{g:Nat→Nat}(h0:g 0=0)(s x:Nat):sqS g s 1 x=if x<s then cA g x else 0:=by unfold sqS;simp[sm,h0]
theorem zJV{g:Nat→Nat}(h0:g 0=0){s:Nat}(hs:1≤s)(x:Nat):sqS g s (s+1) x=if x<s+1 then cA g x else 0:=by
 unfold sqS;by_cases h:x<s
 ·rw[aB h,aB (by omega)]
 ·rw[ap h];by_cases e:x=s
  ·obtain⟨m,rfl⟩:∃m,s=m+1:=⟨s-1,by omega⟩;rw[aB e,aB (by omega),e,zgU h0]
  ·rw[ap e,ap (by omega)]
theorem zzr(g:Nat→Nat)(s j x:Nat):sqS g s (j+1) x=if x=s then sqS g s j s+g j*cA g (s-j) else sqS g s j x:=by
 unfold sqS;by_cases e:x=s
 ·subst e;rw[ap (by omega),aB rfl,aB rfl,ap (by omega),aB rfl,sm]
 ·simp only[ap e]
theorem zJW{g:Nat→Nat}(h0:g 0=0){s j:Nat}(hs:1≤s)(hj:j≤s+1):sqS g s j s≤cA g s:=by unfold sqS;rw[ap (by omega),aB rfl];obtain⟨m,rfl⟩:∃m,s=m+1:=⟨s-1,by omega⟩;rw[zgU h0];exact zzi hj _
theorem zMh(g:Nat→Nat)(h0:g 0=0)(n:Nat)(hn:n≤1000)(hg:∀k,k≤n→g k<1000000000 ^ 30)(hB:∀k,k≤n→cA g k<1000000000 ^ 30)(c:AV)(H:zaa)(hc:RowAt H c (tab g n))(K:Kt)(hK:K (.sl (rtA (tab (cA g) n)) .none) H):ACalls tP zqg [c,.int .i64 n] H K:=by
 refine ACalls.out (zMf λhs=>?_);unfold zAB;refine zPv n hn _ _ ?_;rw[zrF];obtain⟨o,ho⟩:∃o,o=AV.ms H.length 0 (n+1) (n+1):=⟨_,rfl⟩;rw[←ho];have hst:∀(F:Nat→Nat),RowAt (H++[.cells (zav ((tab F n).map some))]) o (tab F n):=λF=>by have:=RowAt.here H (tab F n) [];rw[zgi]at this;rwa [ho]
 have hoc:∀m,H.length<m→o.sc m=true:=λm hm=>by rw[ho];simp[AV.sc,AV.scV,AV.scA,AV.scB,hm]
 have hH:∀F:Nat→Nat,HSc (H++[AB.cells (zav ((tab F n).map some))]):=λF=>hs.snoc (zgc _ _);have hcs:∀m,H.length≤m→c.sc m=true:=λm hm=>hc.sc hm;have hrow1:tab zeh n=tab (λx=>if x<1 then cA g x else 0) n:=zc3 λk _=>by
  cases k with
  |zero=>rfl
  |succ k=>simp[zeh]
 rw[hrow1];refine zMc (Inv:=λq t6 H'=>∃s:Nat,1≤s∧s≤n+1∧q=n+1-s∧t6=.int .i64 s∧H'=H++[.cells (zav ((tab (λx=>if x<s then cA g x else 0) n).map some))]) n ?_ ?_
 ·intro _;exact⟨1,by omega,by omega,by omega,rfl,rfl⟩
 ·rintro q t6 H' ⟨s,hs1,hs2,rfl,rfl,rfl⟩ hsc hlen hsF Kb hKb;unfold zAD;by_cases hlt:s≤n
  ·simp[hlt];have hws:IntKind.i64.wrap ((s:Int)+1)=((s+1:Nat):Int):=wr (by omega);refine zMd (Inv:=λq t7 H'=>∃j:Nat,1≤j∧j≤s+1∧q=s+1-j∧t7=.int .i64 j∧H'=H++[.cells (zav ((tab (sqS g s j) n).map some))]) s ?_ ?_
   ·intro _;exact⟨1,by omega,by omega,by omega,rfl,by rw[zc3 λk _=>zJX h0 s k]⟩
   ·rintro q t7 H' ⟨j,hj1,hj2,rfl,rfl,rfl⟩ hsc6 hlen6 hsF6 Kb6 hKb6;unfold zAE;by_cases hjs:j≤s
    ·have hwj:IntKind.i64.wrap ((j:Int)+1)=((j+1:Nat):Int):=wr (by omega);have hwd:IntKind.i64.wrap ((s:Int)-j)=((s-j:Nat):Int):=by rw[zaz (by omega) (by omega)];omega
     obtain⟨d,hd⟩:∃d,d=s-j:=⟨_,rfl⟩;rw[←hd]at hwd;have b1:=zJW h0 (j:=j+1) hs1 (by omega);have b0:=hB s hlt;rw[zzr,aB rfl,←hd]at b1;simp[hjs,hwd];refine(hst _).atC (by simp;omega) ?_;rw[zdR _ hlt];refine hc.app.atC (by simp;omega) ?_;rw[zdR g (by omega)];refine(hst _).atC (by simp;omega) ?_;rw[zdR _ (by omega)];have e1:sqS g s j d=cA g d:=by unfold sqS;rw[aB (by omega)]
     rw[e1];refine zaC _ (λJ=>zCC (g j:Nat) (cA g d:Nat) (smP (hg j (by omega))) (smP (hB d (by omega))) _ _ ⟨rfl,rfl⟩) ?_;rw[show ((g j:Nat):Int)*(cA g d:Nat)=((g j*cA g d:Nat):Int) from by simp];refine zaC _ (λJ=>zm2 (sqS g s j s:Nat) (g j*cA g d:Nat) (smP (by omega)) (smP (by omega)) _ _ ⟨rfl,rfl⟩) ?_;rw[show ((sqS g s j s:Nat):Int)+(g j*cA g d:Nat)=((sqS g s j s+g j*cA g d:Nat):Int) from by simp];refine zlf ho hlt (G:=sqS g s (j+1)) (λx hx=>by rw[zzr,←hd]) ?_;refine hKb6 _ _ ⟨s+1-(j+1),by omega,Back.here (by simp) (hH _) ?_ ⟨_,rfl,j+1,by omega,by omega,rfl,by simp[hwj],rfl⟩⟩;simp[zlY,ux,zdP,zdQ,hcs,hoc]
    ·simp[hjs];obtain rfl:j=s+1:=by omega
     refine hKb _ _ ⟨n+1-(s+1),by omega,Back.here (by simp) (hH _) ?_ ⟨_,rfl,s+1,by omega,by omega,rfl,by simp[hws],by rw[zc3 λk _=>zJV h0 hs1 k]⟩⟩;simp[zlX,ux,zdP,zdQ,hcs,hoc]
  ·obtain rfl:s=n+1:=by omega
   simp[show ¬((n:Int)+1≤n) by omega];exact zzG ho hs (λx hx=>by rw[aB (by omega)]) hK
theorem zL9{data:List Dat}(hk:Kpt data){kk:Nat}(hkk:kk≤8)(ts:List VT)(n:Nat)(hn:n≤14)(hl:ts.length≤1000)(ih:∀t∈ts,∀(H:zaa) (K:Kt),K (.sl (rtA (tab (cV data kk t) n)) .none) H→ACalls tP zf9 [.sl (data.map Dat.cs) .none,.agg t.cs,.int .i64 n,.int .i64 kk] H K)(H:zaa)(K:Kt)(hK:K (.sl (rtA (tab (cL (cV data kk) ts) n)) .none) H):ACalls tP zqf [.sl (data.map Dat.cs) .none,.sl (VT.css ts) .none,.int .i64 n,.int .i64 kk] H K:=by
 refine ACalls.out (zL7 λhs=>?_);unfold zAz;refine zB7 n (by omega) _ _ ?_;rw[zrF];simp;refine zL5 (Inv:=λq t9 t16 H'=>∃i:Nat,i≤ts.length∧q=ts.length-i∧t9=.sl (rtA (tab (zbv (cV data kk) ts i) n)) .none∧t16=.int .i64 i∧H'=H) ts.length ?_ ?_
 ·intro _;exact⟨0,by omega,rfl,rfl,rfl,rfl⟩
 ·rintro q t9 t16 H' ⟨i,hi,rfl,rfl,rfl,rfl⟩ hsc hlen hsF Kb hKb;by_cases hlt:i<ts.length
  ·obtain⟨x1,x2,x3,hvx,hx1,hx2,hx3⟩:=zaO ts[i];simp[zst,hlt,hvx,hx1,hx2,hx3];rw[←hvx];refine ih _ (ae hlt) _ _ ?_;have b1:∀ j,j≤ts.length→∀ k,k≤n→zbv (cV data kk) ts j k<1000000000 ^ 30:=λj _ k hk2=>by rw[zgd];exact zhZ hk hkk _ (by omega)
   refine zCg (zbv (cV data kk) ts i) (cV data kk ts[i]) n n (by omega) (aa _) (by omega) (b1 i hi) (λk hk2=>zdD hk hkk _ (by omega)) (λk hk2=>by rw[←zhp _ hlt];exact b1 (i+1) hlt k hk2) _ _ _ (.inl rfl) (.inl rfl) _ ?_;rw[←zhp _ hlt];rw[zaz (by omega) (by omega)];refine hKb _ _ ⟨ts.length-(i+1),by omega,Back.same (aa _) hs ?_ ⟨_,_,rfl,i+1,by omega,rfl,rfl,rfl,rfl⟩⟩;simp[zlW,ux,AV.sc,AV.scV,AV.scA,AV.scB]
  ·obtain rfl:i=ts.length:=by omega
   simp[zst];rw[zc3 λk _=>show zbv (cV data kk) ts ts.length k=cL (cV data kk) ts k from by rw[zgd,aw]];exact Out.at (J:=[]) (by simp) (aa _) hs .rfl' rfl (by simp[AV.scV,AV.scA,AV.scB]) hK
end Go.Proofs.YtaifokkaaahdoaaGreatDoor
