import Derived.Test.YtaifokkaaahdoaaGreatDoorKNum
import Derived.Test.YtaifokkaaahdoaaGreatDoorProg
import Derived.KernelRfl
import Derived.Test.YtaifokkaaahdoaaGreatDoorAbsO4
import Derived.Test.YtaifokkaaahdoaaGreatDoorLE4
import Derived.Test.YtaifokkaaahdoaaGreatDoorKGT1
set_option linter.unusedSectionVars false
set_option linter.unusedSimpArgs false
set_option linter.unusedVariables false
set_option maxRecDepth 8000
namespace Go.Proofs.YtaifokkaaahdoaaGreatDoor
open Go Go.Abs
set_option maxRecDepth 100000
def zMN:Nat→List Bool
 |200001=>rl false [0,1]
 |_=>[]
noncomputable def zMO:Code:=Tryz.f34.body.getD .skip
def zzI(t0 t1:AV)(H:zaa)(K:Kt):Prop:=
 zaw t1 H λt3 H=>
 zad H (λK'=>K' t0 H) λt5=>
 zad H (λK'=>zam true 3 t3 H (K' · H)) λt6=>
 zbl .w false H (λK'=>ACalls tP zpk [t5,t6] H K') λt7 H=>
 zad H (λK'=>K' t7 H) λt8=>
 zab t8 true H (λK'=>zad H (λK''=>K'' t0 H) (K' · H)) λt9 H=>
 zab t8 true H (λK'=>zad H (λK''=>zam true 3 t3 H (K'' · H)) (K' · H)) λt10 H=>
 zab t8 true H (λK'=>zad H (λK''=>K'' t0 H) (K' · H)) λt11 H=>
 zab t8 true H (λK'=>zad H (λK''=>zah 1 t11 (K'' · H)) (K' · H)) λt12 H=>
 zab t8 true H (λK'=>zbl .w false H (λK''=>zbu 1 [(.bool false)] t12 t12 H K'') K') λt13 H=>
 zab t8 true H (λK'=>zbl .w false H (λK''=>ACalls tP zgF [t9,t10,t13] H K'') K') λt14 H=>
 zad H (λK'=>zai t8 t14 (.bool false) (K' · H)) λt15=>
 zad H (λK'=>K' t15 H) λt4=>
 K t4 H
theorem zMP{t0 t1:AV}{H:zaa}{K:Kt}(h:HSc H→zzI t0 t1 H K):ACalls tP zpe [t0,t1] H K:=
 zan (M:=zMN) Tryz.func34 (c:=zMO) (by kernel_rfl) (λhs=>Eq.mpr (by kernel_rfl) (h hs))
def zf5:Nat→List Bool
 |6=>rl false [3,3,28,3,22]
 |9=>rl false [3,3,28,3,4,3,15]
 |_=>[]
noncomputable def zsF:Code:=Tryz.f71.body.getD .skip
noncomputable def zOz:List ResultVar:=Tryz.f71.results.toList
def zmY(t3 t4 t5 t34 t35 t36:AV):List AV:=ux 3 (t3::t4::t5::ux 28 (t34::t35::t36::ux 22 []))
def zAz:List Bool:=zf5 6
noncomputable def zsG:Code:=zaq [1,1,0,1,0,1,1,0,0] zsF
def zAw(K:Kt):AExit→List AV→zaa→Prop:=zar tP zf5 [1,1,0,1,0,1,1,0] zsF (zaB tP zOz K)
def zAx(t3 t4 t5 t34 t35 t36:AV)(H:zaa)(K:Kt):Prop:=ALoop tP zsG (zAw K) (zmY t3 t4 t5 t34 t35 t36) H
def zmZ(t3 t4 t5 t34 t35 t36 t41 t42 t43:AV):List AV:=ux 3 (t3::t4::t5::ux 28 (t34::t35::t36::ux 4 (t41::t42::t43::ux 15 [])))
def zOx:List Bool:=zf5 9
noncomputable def zOu:Code:=zaq [1,1,0,0,1,1,0,0] zsG
def zOt(K:Kt)(Kb6:Lt):AExit→List AV→zaa→Prop:=zar tP zf5 [1,1,0,0,1,1,0] zsG (zbK zAz Kb6 (zAw K))
def zAy(t3 t4 t5 t34 t35 t36 t41 t42 t43:AV)(H:zaa)(K:Kt)(Kb6:Lt):Prop:=ALoop tP zOu (zOt K Kb6) (zmZ t3 t4 t5 t34 t35 t36 t41 t42 t43) H
def zsE(t3 t4 t5 t34 t35 t36 t41 t42 t43:AV)(H:zaa)(K:Kt)(Kb6:Lt)(Kb9:Lt):Prop:=
 zac .lss false t43 t42 λt44=>
 zag t44
 (zaj 3 t41 t43 λt45=>
 zae true 3 t45 H λt46=>
 zay [(.int .i64 0),(.int .i64 0),.snil] H λt10 H=>
 zak 3 t10 t46 H λH=>
 zae false 1 t3 H λt47=>
 zae true 3 t10 H λt48=>
 zae false 1 t5 H λt49=>
 ACalls tP zgF [t47,t48,t49] H λt50 H=>
 aUn .not t50 λt51=>
 zag t51
 (K (.bool false) H)
 (zac .add false t43 (.int .i64 1) λt52=>
 Kb9 (zmZ t3 t4 t5 t34 t35 t36 t41 t42 t52) H))
 (zac .add false t36 (.int .i64 1) λt53=>
 Kb6 (zmY t3 t4 t5 t34 t35 t53) H)
def zm0(t3 t4 t5:AV)(H:zaa)(K:Kt):Prop:=
 zaf 2 t4 λt54=>
 zae false 1 t54 H λt55=>
 zcb zoO [t3,t5] λt56=>
 ACalls tP zd5 [t55,t56] H λt57 H=>
 aUn .not t57 λt58=>
 K t58 H
def zsD(t3 t4 t5 t34 t35 t36:AV)(H:zaa)(K:Kt)(Kb6:Lt):Prop:=
 zac .lss false t36 t35 λt37=>
 zag t37
 (zaj 2 t34 t36 λt38=>
 zae true 2 t38 H λt39=>
 zay [(.str []),.snil] H λt8 H=>
 zak 2 t8 t39 H λH=>
 zaf 1 t8 λt40=>
 zae false 1 t40 H λt41=>
 zah 1 t41 λt42=>
 zAy t3 t4 t5 t34 t35 t36 t41 t42 (.int .i64 0) H K Kb6)
 (zm0 t3 t4 t5 H K)
def zsC(t0 t1 t2:AV)(H:zaa)(K:Kt):Prop:=
 zaw t0 H λt3 H=>
 zaw t1 H λt4 H=>
 zaw t2 H λt5 H=>
 zaf 0 t4 λt11=>
 zae false 1 t11 H λt12=>
 zac .eql false t12 (.int .i64 9) λt13=>
 zag t13
 (K (.bool false) H)
 (zaf 0 t4 λt14=>
 zae false 1 t14 H λt15=>
 zac .eql false t15 (.int .i64 5) λt16=>
 zab t16 true H (λK'=>zae false 1 t5 H (K' · H)) λt18 H=>
 zab t16 true H (λK'=>zaf 1 t4 (K' · H)) λt19 H=>
 zab t16 true H (λK'=>zae false 1 t19 H (K' · H)) λt20 H=>
 zab t16 true H (λK'=>zaj 1 t18 t20 (K' · H)) λt21 H=>
 zab t16 true H (λK'=>zae false 1 t21 H (K' · H)) λt22 H=>
 zab t16 true H (λK'=>aUn .not t22 (K' · H)) λt23 H=>
 zai t16 t23 (.bool false) λt24=>
 zag t24
 (zae false 1 t5 H λt25=>
 zaf 1 t4 λt26=>
 zae false 1 t26 H λt27=>
 zaj 1 t25 t27 λt28=>
 zak 1 t28 (.bool true) H λH=>
 zae false 1 t3 H λt29=>
 zaf 1 t4 λt30=>
 zae false 1 t30 H λt31=>
 zaj 3 t29 t31 λt32=>
 zaf 2 t32 λt33=>
 zae false 1 t33 H λt34=>
 zah 1 t34 λt35=>
 zAx t3 t4 t5 t34 t35 (.int .i64 0) H K)
 (zm0 t3 t4 t5 H K))
theorem zOw{t3 t4 t5 t34 t35 t36 t41 t42 t43:AV}{H:zaa}{K:Kt}{Kb6:Lt}(Inv:Nat→AV→zaa→Prop)(n:Nat)(h0:HSc H→Inv n t43 H)(round:Rd1 (λt43=>zmZ t3 t4 t5 t34 t35 t36 t41 t42 t43) (λt43=>λH Kb9=>zsE t3 t4 t5 t34 t35 t36 t41 t42 t43 H K Kb6 Kb9) H Inv):zAy t3 t4 t5 t34 t35 t36 t41 t42 t43 H K Kb6:=
 lp1 (M:=zf5) zOx t43 (by kernel_rfl) Inv n h0 round
theorem zOv{t3 t4 t5 t34 t35 t36:AV}{H:zaa}{K:Kt}(Inv:Nat→AV→zaa→Prop)(n:Nat)(h0:HSc H→Inv n t36 H)(round:Rd1 (λt36=>zmY t3 t4 t5 t34 t35 t36) (λt36=>λH Kb6=>zsD t3 t4 t5 t34 t35 t36 H K Kb6) H Inv):zAx t3 t4 t5 t34 t35 t36 H K:=
 lp1 (M:=zf5) zAz t36 (by kernel_rfl) Inv n h0 round
theorem zOy{t0 t1 t2:AV}{H:zaa}{K:Kt}(h:HSc H→zsC t0 t1 t2 H K):ACalls tP zgF [t0,t1,t2] H K:=
 zan (M:=zf5) Tryz.func71 (c:=zsF) (by kernel_rfl) (λhs=>Eq.mpr (by kernel_rfl) (h hs))
def zHp(_:Nat):List Bool:=[]
noncomputable def zHq:Code:=Tryz.f106.body.getD .skip
def zxC(t0 t1 t2:AV)(H:zaa)(K:Kt):Prop:=
 zaw t0 H λt3 H=>
 zae false 1 t1 H λt5=>
 zae true 3 t3 H λt6=>
 zae false 1 t2 H λt7=>
 ACalls tP zgF [t5,t6,t7] H λt8 H=>
 aUn .not t8 λt9=>
 K t9 H
theorem zHr{t0 t1 t2:AV}{H:zaa}{K:Kt}(h:HSc H→zxC t0 t1 t2 H K):ACalls tP zoO [t0,t1,t2] H K:=
 zan (M:=zHp) Tryz.func106 (c:=zHq) (by kernel_rfl) (λhs=>Eq.mpr (by kernel_rfl) (h hs))
end Go.Proofs.YtaifokkaaahdoaaGreatDoor
namespace Go.Proofs.YtaifokkaaahdoaaGreatDoor
open Go Go.Abs
theorem zCn:zdD tP zoO=true:=by kernel_rfl
theorem zjw{data:List Dat}(h:zaD data=true):data.length≤12:=by simp[zaD]at h;exact h.1.1.1
theorem zjr{data:List Dat}(hD:zaD data=true){i:Nat}(hi:i<data.length):(data[i]).cons.length≤8:=by
 have h1:zcd data data 0=true:=by simp[zaD]at hD;exact hD.1.1.2
 have h2:=zjx data 0 i hi h1;simp only[zb8,Bool.and_eq_true,decide_eq_true_eq]at h2;exact h2.1.2
theorem zC6{data:List Dat}(hD:zaD data=true):∀ (f:Nat) (t:VT) (s:List Bool),TyIn data t→s.length=data.length→uns s*201+t.nodes≤f→∀ (H:zaa) (id:Nat),H[id]?=some (.cells (zaJ s))→∀ K:Kt,
  K (.bool (fo data f t s).1) (H.set id (.cells (zaJ (fo data f t s).2)))→ACalls tP zgF [.sl (data.map Dat.cs) .none,.agg t.cs,.ms id 0 data.length data.length] H K:=by
 intro f;induction f with
 |zero=>intro t s _ _ h;have:=t.nodes_pos;omega
 |succ f ih=>
  intro t s ht hsl hm H id hid K hK;obtain⟨k,n,ks⟩:=t;have hlt:=zfL hid;have hdl:=zjw hD;have hll:=VT.len_le ks;have hnn:(VT.mk k n ks).nodes=VT.nodesL ks+1:=by simp[VT.nodes]
  have hn200:=ht.1;refine ACalls.out (zOy λhs=>?_);obtain⟨J,hJ⟩:∃J:zaa,J=[.cells [.sl (data.map Dat.cs) .none],.cells [.int .i64 k,.int .i64 n,.sl (VT.css ks) .none],.cells [.ms id 0 data.length data.length]]:=⟨_,rfl⟩;obtain⟨G,hG⟩:∃G:List Bool→zaa,G=λs'=>H.set id (.cells (zaJ s'))++J:=⟨_,rfl⟩;have hGl:∀s',(G s').length=H.length+3:=λs'=>by rw[hG,hJ];simp
  have hG0:H++J=G s:=by
   rw[hG];have:H.set id (.cells (zaJ s))=H:=by
    apply List.ext_getElem?;intro j;by_cases hj:id=j
    ·subst hj;rw[List.getElem?_set_self hlt];exact hid.symm
    ·rw[List.getElem?_set_ne hj]
   simp only[this]
  have g0:∀s',(G s')[H.length]?=some (.cells [.sl (data.map Dat.cs) .none]):=λs'=>by rw[hG,hJ];simp[List.getElem?_append]
  have g1:∀s',(G s')[H.length+1]?=some (.cells [.int .i64 k,.int .i64 n,.sl (VT.css ks) .none]):=λs'=>by rw[hG,hJ];simp[List.getElem?_append]
  have g2:∀s',(G s')[H.length+2]?=some (.cells [.ms id 0 data.length data.length]):=λs'=>by rw[hG,hJ];simp[List.getElem?_append]
  have g0e:∀s' (h:H.length<(G s').length),(G s')[H.length]=.cells [.sl (data.map Dat.cs) .none]:=λs' h=>by have:=g0 s';rw[List.getElem?_eq_getElem h]at this;simpa using this
  have g2e:∀s' (h:H.length+1+1<(G s').length),(G s')[H.length+1+1]=.cells [.ms id 0 data.length data.length]:=λs' h=>by have:=g2 s';rw[List.getElem?_eq_getElem h]at this;simpa using this
  have wi:∀j:Nat,j≤1000000→IntKind.i64.wrap ((j:Int)+1)=((j+1:Nat):Int):=λj hj=>by rw[zav (by omega) (by omega)];rfl
  have gi:∀s',(G s')[id]?=some (.cells (zaJ s')):=λs'=>by rw[hG];exact zcm (zc7 _ hid)
  have hset:∀s' s'' J',(G s'++J').set id (.cells (zaJ s''))=G s''++J':=λs' s'' J'=>by
   have hi1:id<(G s').length:=by rw[hGl];omega
   rw[List.set_append_left _ _ hi1,hG];simp only;rw[List.set_append_left _ _ (by simpa using hlt),List.set_set]
  have hGs:∀s',HSc (G s'):=λs'=>by rw[hG,hJ];refine(hs.set (by simp[AB.sc,zjm])).append (by simp[AB.sc,AV.scA,AV.scB];omega)
  have hout:∀J',Out H.length K (.bool (fo data (f+1) (.mk k n ks) s).1) (G (fo data (f+1) (.mk k n ks) s).2++J'):=λJ'=>by rw[hG,List.append_assoc];exact Out.bool rfl (by simp) (hs.set (by simp[AB.sc,zjm])) hK
  -- one type further
  have one:∀(x:VT),TyIn data x→∀s',s'.length=data.length→uns s'*201+x.nodes≤f→∀J' (K':Kt),K' (.bool (fo data f x s').1) (G (fo data f x s').2++J')→ACalls tP zgF [.sl (data.map Dat.cs) .none,.agg x.cs,.ms id 0 data.length data.length] (G s'++J') K':=λx hx s' hs' hm' J' K' hK'=>by refine ih x s' hx hs' hm' _ id (zcm (gi s')) K' ?_;rw[hset];exact hK'
  have keep:=zuA data f;have args:∀ s1,s1.length=data.length→uns s1≤uns s→(fo data (f+1) (.mk k n ks) s)=foL (fo data f) ks s1 →
    zm0 (.ptr H.length 0) (.ptr (H.length+1) 0) (.ptr (H.length+2) 0) (G s1) (Out H.length K):=by
   intro s1 hs1 hu1 hres;rw[hres]at hout;simp[zm0,g1 s1];refine⟨⟨rfl,rfl⟩,?_⟩;refine zjs ks (by omega) _ _ _ (by simp[AV.sc,AV.scV,AV.scA,AV.scB,hGl]) (λi H'=>∃s',s'.length=data.length∧uns s'≤uns s1∧foL (fo data f) (ks.drop i) s'=foL (fo data f) ks s1∧H'=G s') ⟨s1,hs1,Nat.le_refl _,by simp,rfl⟩ ?_ ?_
   ·rintro i hi H' hle ⟨s',hs',hu',hrem,rfl⟩;obtain⟨hx1,hx2⟩:=ht.kid _ (List.getElem_mem hi);obtain⟨x1,x2,x3,hvx,hxa,hxb,hxc⟩:=zaL ks[i];rw[List.drop_eq_getElem_cons hi,foL]at hrem;simp only[aCallV,zCn,List.singleton_append];refine ACalls.out (zHr λhs1=>?_);simp[zxC,hvx,zcm (g0 s'),zcm (g2 s')];rw[←hvx];obtain⟨k1,k2⟩:=keep ks[i] s';refine one ks[i] hx1 s' hs' (by have:=Nat.mul_le_mul_right 201 (Nat.le_trans hu' hu1);omega) _ _ ?_;cases hr:(fo data f ks[i] s').1 with
    |true=>rw[hr,if_pos rfl]at hrem;simp;exact Out.bool rfl (by simp[hGl]) (hGs _) (.inl ⟨rfl,_,by omega,by omega,hrem,rfl⟩)
    |false=>rw[hr,if_neg (by simp)]at hrem;simp;refine Out.bool rfl (by simp[hGl]) (hGs _) (.inr ⟨rfl,?_⟩);have:=hout [];rw[←hrem,List.append_nil]at this;simpa using this
   ·rintro H' ⟨s',hs',hu',hrem,rfl⟩;rw[List.drop_length,foL]at hrem;have:=hout [];rw[←hrem,List.append_nil]at this;simpa using this
  by_cases h9:k=9
  ·have hr:fo data (f+1) (.mk k n ks) s=(false,s):=by rw[fo,if_pos h9]
   rw[hr]at hout;simp[zsC,VT.cs,h9];rw[h9]at hJ;rw[←hJ,hG0];simpa using hout []
  have hr9:fo data (f+1) (.mk k n ks) s=if (foD (fo data f) data k n s).1=true then foL (fo data f) ks (foD (fo data f) data k n s).2 else (false,(foD (fo data f) data k n s).2):=by rw[fo,if_neg h9]
  have b9:(k == 9)=false:=by simpa using h9
  simp[zsC,VT.cs,b9];rw[←hJ,hG0];by_cases h5:k=5
  ·subst h5;obtain⟨n0,nl⟩:=ht.num;obtain⟨m,rfl⟩:∃ m:Nat,n=m:=⟨n.toNat,by omega⟩;rw[Int.toNat_natCast]at nl;have hcl:=zjr hD nl;have hms:m<s.length:=by omega
   have hbm:(zaJ s)[m]?=some (.bool (s.getD m false)):=by simp[zaJ,List.getD_eq_getElem?_getD,hms]
   simp[g1 s,g2 s,gi s,nl,zdc _ hbm];rw[znR hms];have hG1:(G s).set id (.cells (zaJ (s.set m true)))=G (s.set m true):=by have:=hset s (s.set m true) [];simpa using this
   rw[hG1];have hgd:s.getD m false=s[m]?.getD false:=List.getD_eq_getElem?_getD ..;cases hseen:s[m]?.getD false with
   |true=>
    simp;refine args s hsl (Nat.le_refl _) ?_;rw[hr9];have:foD (fo data f) data 5 m s=(true,s):=by unfold foD;rw[if_neg (by rw[Int.toNat_natCast,hgd,hseen];simp)]
    rw[this];simp
   |false=>
    have hu1:=zxh s m hms (by rw[hgd,hseen]);have hfd:foD (fo data f) data 5 m s=foC (fo data f) (zbv data m) (s.set m true):=by unfold foD;rw[if_pos (by rw[Int.toNat_natCast,hgd,hseen];simp),Int.toNat_natCast]
    rw[hfd]at hr9;have hca:zbv data m=(data[m]).cons:=by simp[zbv,List.getD_eq_getElem?_getD,nl]
    rw[hca]at hr9;obtain⟨S1,hS1⟩:∃S1,S1=s.set m true:=⟨_,rfl⟩;have hS1l:S1.length=data.length:=by rw[hS1];simpa using hsl
    rw[←hS1]at hr9 hu1 ⊢;have e1:(data.map Dat.cs)[m]?=some (data[m]).cs:=by simp[nl]
    have htyp:=zhq hD nl;generalize hDm:data[m]=D at *;simp[g0 S1,g1 S1,nl,e1,hDm,Dat.cs];refine⟨by omega,?_⟩;refine zOv (Inv:=λq t36 H'=>∃(i:Nat) (s':List Bool),i≤D.cons.length∧D.cons.length-i=q∧t36=.int .i64 i∧s'.length=data.length∧uns s'≤uns S1∧foC (fo data f) (D.cons.drop i) s'=foC (fo data f) D.cons S1∧H'=G s') D.cons.length ?_ ?_
    ·intro _;exact⟨0,S1,by omega,rfl,rfl,hS1l,Nat.le_refl _,by simp,rfl⟩
    ·rintro q t36 H' ⟨i,s',hi,rfl,rfl,hs',hu',hrem,rfl⟩ hsc6 hlen6 hsF6 Kb6 hKb6;by_cases hil:i<D.cons.length
     ·obtain⟨hal,hat⟩:=htyp _ (List.getElem_mem hil);rw[List.drop_eq_getElem_cons hil,foC]at hrem;generalize hCi:D.cons[i]=C at *;simp[zsD,hil,hCi,Con.cs,hGl];refine zOw (Inv:=λq t43 H'=>∃(j:Nat) (s2:List Bool),j≤C.args.length∧C.args.length-j=q∧t43=.int .i64 j∧s2.length=data.length∧uns s2≤uns s'∧foL (fo data f) (C.args.drop j) s2=foL (fo data f) C.args s'∧H'=G s2++[.cells [.str C.name,.sl (VT.css C.args) .none]]) C.args.length ?_ ?_
      ·intro _;exact⟨0,s',by omega,rfl,rfl,hs',Nat.le_refl _,by simp,rfl⟩
      ·rintro q t43 H' ⟨j,s2,hj,rfl,rfl,hs2,hu2,hrem2,rfl⟩ hsc9 hlen9 hsF9 Kb9 hKb9;by_cases hjl:j<C.args.length
       ·have hx:=hat _ (List.getElem_mem hjl);obtain⟨x1,x2,x3,hvx,hxa,hxb,hxc⟩:=zaL C.args[j];rw[List.drop_eq_getElem_cons hjl,foL]at hrem2;simp[zsE,hjl,hvx,hGl,zcm (g0 s2),zcm (g2 s2),g0e,g2e];refine⟨⟨hxa,hxb,hxc⟩,?_⟩;rw[←hvx];obtain⟨k1,k2⟩:=keep C.args[j] s2;have hx2:=hx.1;refine one C.args[j] hx s2 hs2 (by have:=Nat.mul_le_mul_right 201 (Nat.le_trans hu2 hu');omega) _ _ ?_;cases hr:(fo data f C.args[j] s2).1 with
        |true=>rw[hr,if_pos rfl]at hrem2;simp;rw[wi j (by omega)];exact hKb9 _ _ ⟨C.args.length-(j+1),by omega,Back.at (J:=[.cells (C.args[j]).cs]) (H2:=G (fo data f C.args[j] s2).2++[.cells [.str C.name,.sl (VT.css C.args) .none]]) (by simp) (by simp[hGl]) ((hGs _).append (by simp[AB.sc,AV.scA,AV.scB])) (by simp[zmZ,ux,AV.sc,AV.scA,AV.scB,AV.scV,hGl];omega) ⟨_,rfl,j+1,_,by omega,rfl,rfl,by omega,by omega,hrem2,rfl⟩⟩
        |false=>rw[hr,if_neg (by simp)]at hrem2;rw[←hrem2,if_neg (by simp)]at hrem;rw[←hrem,if_neg (by simp)]at hr9;simp;have:=hout [.cells [.str C.name,.sl (VT.css C.args) .none],.cells (C.args[j]).cs];rw[hr9]at this;simpa using this
       ·obtain rfl:j=C.args.length:=by omega
        rw[List.drop_length,foL]at hrem2;rw[←hrem2,if_pos rfl]at hrem;simp[zsE];rw[wi i (by omega)];exact hKb6 _ _ ⟨D.cons.length-(i+1),by omega,Back.at (J:=[.cells [.str C.name,.sl (VT.css C.args) .none]]) (H2:=G s2) rfl (by simp[hGl]) (hGs _) (by simp[zmY,ux,AV.sc,AV.scA,AV.scB,AV.scV,hGl]) ⟨_,rfl,i+1,s2,by omega,rfl,rfl,hs2,by omega,hrem,rfl⟩⟩
     ·obtain rfl:i=D.cons.length:=by omega
      rw[List.drop_length,foC]at hrem;rw[←hrem,if_pos rfl]at hr9;simp[zsD];exact args s' hs' (by omega) hr9
  ·have b5:(k == 5)=false:=by simpa using h5
   simp[b5,g1 s];refine args s hsl (Nat.le_refl _) ?_;rw[hr9];simp[foD,h5]
def zce(data:List Dat)(t:VT):Bool:=zdm data t && (fo data 3000 t (List.replicate data.length false)).1
theorem zcF{H:zaa}{p:(AV→zaa→Prop)→Prop}{k:AV→zaa→Prop}(r:AV)(H':zaa)(h:p λv H2=>v=r∧H2=H')(hk:k r H'):zbl .w false H p k:=⟨r,H',h,(λh=>by cases h),hk⟩
theorem zhw{data:List Dat}{t:VT}(h:zdm data t=true):zaD data=true∧zaA data 0 t=true:=by unfold zdm at h;simpa using h
theorem zut{data:List Dat}{t:VT}(h:zdm data t=true):TyIn data t:=by have h2:=(zhw h).2;have hn:=zfU h2;simp[zaA]at h2;exact⟨hn,0,h2.2⟩
theorem zMQ{data:List Dat}(hF:zek data)(hl:data.length≤1000000)(t:VT)(ht:zaW t)(H:zaa)(K:Kt)(hK:K (.bool (zce data t)) H):
  ACalls tP zpe [.sl (data.map Dat.cs) .none,.agg t.cs] H K:=by
 refine ACalls.out (zMP λhs=>?_);obtain⟨x,y,z,hvx,hx,hy,hz⟩:=zaL t;simp[zzI,hvx];rw[←hvx];refine zcF (.bool (zdm data t)) _ (zND data hF hl t ht ⟨rfl,rfl⟩) ?_;have hO:∀b J,zce data t=b→Out H.length K (.bool b) (H++J):=λb J h=>Out.bool rfl (Nat.le_refl _) hs (h ▸ hK);cases hf:zdm data t with
 |false=>simp;exact hO _ _ (by simp[zce,hf])
 |true=>
  have hD:=(zhw hf).1;have hdl:=zjw hD;have hti:=zut hf;simp[zbu,ztV];refine zcF (.ms (H++[AB.cells t.cs]).length 0 data.length data.length) (H++[.cells t.cs,.cells (zaJ (List.replicate data.length false))]) ⟨⟨by omega,by omega⟩,by simp[zaJ]⟩ ?_;have hg:(H++[AB.cells t.cs,.cells (zaJ (List.replicate data.length false))])[(H++[AB.cells t.cs]).length]?=some (.cells (zaJ (List.replicate data.length false))):=by simp[List.getElem?_append]
  refine zcF _ _ (zC6 hD 3000 t (List.replicate data.length false) hti (by simp) (by have h1:uns (List.replicate data.length false)≤data.length:=by { unfold uns;exact Nat.le_trans List.countP_le_length (by simp) };have:=hti.1;omega) _ _ hg _ ⟨rfl,rfl⟩) ?_;simp;have hr:=hO (fo data 3000 t (List.replicate data.length false)).1 [.cells t.cs,.cells (zaJ (fo data 3000 t (List.replicate data.length false)).2)] (by simp[zce,hf]);simpa[List.set_append_right]using hr
def mkS(S:SS)(i:Nat):SS:=⟨S.types,S.made.set i true,S.cons,S.cnt⟩
def zeb(S:SS)(i:Nat)(l:List (Int×List Nat)):SS:=⟨S.types,S.made,S.cons.set i l,S.cnt⟩
def zbg(data:List Dat):SS→List (Int × List VT)→List (Int × List Nat) × SS
 |S,[]=>([],S)
 |S,w::ws=>((w.1,(zaK data S w.2).1)::(zbg data (zaK data S w.2).2 ws).1,(zbg data (zaK data S w.2).2 ws).2)
theorem zxm(data:List Dat)(w:Int × List VT):∀ (ws:List (Int × List VT)) (S:SS),zbg data S (ws++[w])=((zbg data S ws).1++[(w.1,(zaK data (zbg data S ws).2 w.2).1)],(zaK data (zbg data S ws).2 w.2).2)
 |[],S=>rfl
 |u::ws,S=>by rw[List.cons_append,zbg,zbg,zxm data w ws];rfl
def zdy(data:List Dat)(S:SS)(i:Nat):List (Int×List Nat)×SS:=
 if S.made.getD i false=true then (S.cons.getD i [],S) else
  ((zbg data (mkS S i) (zaU data (S.types.getD i (.mk 0 0 [])))).1,zeb (zbg data (mkS S i) (zaU data (S.types.getD i (.mk 0 0 [])))).2 i (zbg data (mkS S i) (zaU data (S.types.getD i (.mk 0 0 [])))).1)
theorem ztI{data:List Dat}{i:Nat}:∀ (ts:List VT) (S:SS),S.made[i]?=some true→(zaK data S ts).2.made[i]?=some true
 |[],S,h=>h
 |t::ts,S,h=>by
  rw[zaK];refine ztI ts _ ?_;unfold idS;split
  ·exact h
  ·simp only[zcl];rw[List.getElem?_append_left (List.getElem?_eq_some_iff.1 h).1];exact h
theorem zqi{data:List Dat}(hD:zaD data=true){kk:Nat}{X:List VT}{ex:Nat→Prop}:∀ (ws:List (Int × List VT)) (S:SS),Inv data kk X ex S→(∀ w∈ws,∀ t∈w.2,zaA data 0 t=true∧t∈X)→Inv data kk X ex (zbg data S ws).2∧S.types <+: (zbg data S ws).2.types∧ConOk (zbg data S ws).2.types ws (zbg data S ws).1∧∀ i:Nat,S.made[i]?=some true→(zbg data S ws).2.made[i]?=some true
 |[],S,h,_=>⟨h,List.prefix_rfl,trivial,λi h=>h⟩
 |w::ws,S,h,hv=>by obtain⟨h1,h2,h3⟩:=zhl hD w.2 S h (hv w (by simp));obtain⟨h4,h5,h6,h7⟩:=zqi hD ws (zaK data S w.2).2 h1 λu hu=>hv u (by simp[hu]);exact⟨h4,h2.trans h5,⟨⟨rfl,h3.mono h5⟩,h6⟩,λi hi=>h7 i (ztI w.2 S hi)⟩
section
variable {data:List Dat} (hD:zaD data=true) {kk:Nat} {X:List VT} {S:SS} {i:Nat}
include hD
theorem zvr(h:Inv data kk X (λ_=>False) S)(i:Nat):Inv data kk X (λj=>j=i) (mkS S i):=
 ⟨by simp[mkS,h.ml],h.cl,h.nd,h.vd,h.sub,λj t hj ht hm c hc=>h.con j t id ht (by
  simp only[mkS]at hm;rwa [List.getElem?_set_ne (λe=>hj e.symm)]at hm) c hc,h.cn⟩
theorem zFa{T:SS}(h:Inv data kk X (λj=>j=i) T){t:VT}(ht:T.types[i]?=some t){l:List (Int×List Nat)}(hl:ConOk T.types (zaU data t) l):Inv data kk X (λ_=>False) (zeb T i l):=
 ⟨h.ml,by simp[zeb,h.cl],h.nd,h.vd,h.sub,λj u _ hu hm c hc=>by
  simp only[zeb]at hu hm hc ⊢;by_cases e:i=j
  ·subst e;rw[List.getElem?_set_self (by rw[h.cl];exact(List.getElem?_eq_some_iff.1 ht).1)]at hc;cases hc;rw[ht]at hu;cases hu;exact hl
  ·rw[List.getElem?_set_ne e]at hc;exact h.con j u (λk=>e k.symm) hu hm c hc,h.cn⟩
theorem zxo(h:Inv data kk X (λ_=>False) S){t:VT}(ht:S.types[i]?=some t)(hX:∀ w∈zaU data t,∀ x∈w.2,x∈X):
  Inv data kk X (λ_=>False) (zdy data S i).2∧S.types <+: (zdy data S i).2.types∧ConOk (zdy data S i).2.types (zaU data t) (zdy data S i).1:=by
 have hil:=(List.getElem?_eq_some_iff.1 ht).1;have ht':S.types.getD i (.mk 0 0 [])=t:=by rw[List.getD_eq_getElem?_getD,ht];rfl
 have hv:=h.vd t (List.mem_of_getElem? ht);unfold zdy;rw[ht'];split
 ·rename_i hm;refine⟨h,List.prefix_rfl,?_⟩;have hm2:S.made[i]?=some true:=by
   rw[List.getD_eq_getElem?_getD]at hm;cases e:S.made[i]? with
   |none=>rw[e]at hm;cases hm
   |some b=>rw[e]at hm;simp at hm;rw[hm]
  have hcl:i<S.cons.length:=by rw[h.cl];exact hil
  rw[List.getD_eq_getElem?_getD,List.getElem?_eq_getElem hcl];exact h.con i t id ht hm2 _ (List.getElem?_eq_getElem hcl)
 ·obtain⟨h1,h2,h3,h4⟩:=zqi hD (zaU data t) (mkS S i) (zvr hD h i) λw hw x hx=>⟨zqk hD hv hw x hx,hX w hw x hx⟩;refine⟨zFa hD h1 ?_ h3,h2,h3⟩;obtain⟨E,hE⟩:=h2;rw[←hE,List.getElem?_append_left (show i<(mkS S i).types.length from hil)];exact ht
end
theorem ztG:∀ (l:List AV),All2 WkA l l
 |[]=>trivial
 |a::l=>⟨.refl a,ztG l⟩
theorem ztH{a b:AV}(h:WkA a b):∀ (l:List AV) (i:Nat),All2 WkA (l.set i a) (l.set i b)
 |[],_=>trivial
 |x::l,0=>⟨h,ztG l⟩
 |x::l,i+1=>⟨.refl x,ztH h l i⟩
theorem zwU{α:Type}(l:List α)(i:Nat)(a:α)(h:i<l.length):l.take i++[a]++l.drop (i+1)=l.set i a:=by rw[List.set_eq_take_append_cons_drop,if_pos h];simp
section
variable {data:List Dat} {kk:Int} {I:SI} {T:SS} {H J:zaa}
theorem zql(hT:ShS data kk I T H)(hs:HSc H){i:Nat}(hi:i<T.types.length){l:AV}{cs:List (Int×List Nat)}(hl:WkA l (zco cs))(hlc:l.cs?=some [l])(hlk:l.known=true){n:Nat}(hn:n=H.length){K:Kt}(hK:K (zco cs) (shS data kk I (zeb T i cs) H)):zsQ (.ptr I.p 0) (.int .i64 i) l (H++J) (zeS n K):=by
 subst hn;have hp:=(hT.app (J:=J)).hp;have hic:=(hT.app (J:=J)).hic;have lic:=(List.getElem?_eq_some_iff.1 hT.hic).1;unfold zsQ;have hcl:i<(T.cons.map zco).length:=by rw[List.length_map,hT.cl];exact hi
 simp[hp,hi];rw[←ztB];refine zwL (n:=1) (off:=i) (cs:=T.cons.map zco) (xs:=[l]) hlc hic rfl (by omega) (by simp[hlk]) ?_;rw[zwU _ _ _ hcl];rw[List.set_append_left _ _ lic];refine⟨zco cs,_,shS data kk I (zeb T i cs) H,J,rfl,by simp,?_,by simp,hT.scs hs,.one (.wk (.atom hl) rfl rfl),hK⟩;have hset:shS data kk I (zeb T i cs) H=H.set I.ic (.vec zfz 1 T.types.length ((T.cons.map zco).set i (zco cs))):=by
  symm
  refine hT.set_one (S':=zeb T i cs) (x:=I.ic) ?_ ?_
  ·simp[za3,hT.ok.a4.symm,hT.ok.b3.symm,hT.ok.c2.symm,hT.ok.d1.symm,zeb,List.map_set]
  ·intro y hy;unfold za3;simp only[zeb,if_neg hy]
 rw[hset];intro x a b ha hb;by_cases e:I.ic=x
 ·subst e;rw[List.getElem?_set_self lic]at ha hb;cases ha;cases hb;exact .vec (ztH hl _ _)
 ·rw[List.getElem?_set_ne e]at ha hb;rw[ha]at hb;cases hb;exact .refl _
end
theorem zfg:∀ (ts:List VT) (i:Nat) (t:VT),ts[i]?=some t→((zbN ts).drop (i*3)).take 3=t.cs
 |[],i,t,h=>by simp at h
 |u::ts,0,t,h=>by simp at h;subst h;simp only[zbN,List.map_cons,List.flatten_cons,Nat.zero_mul,List.drop_zero];rw[List.take_left' (by simp)]
 |u::ts,i+1,t,h=>by have:=zfg ts i t (by simpa using h);simp only[zbN,List.map_cons,List.flatten_cons]at this ⊢;rw[show (i+1)*3=u.cs.length+i*3 from by rw[VT.cs_len];omega,List.drop_append,List.drop_eq_nil_of_le (by omega),List.nil_append,show u.cs.length+i*3-u.cs.length=i*3 from by omega];exact this
theorem zCC(l:List (Int×List Nat))(c:Int)(is:List Nat):zbW (l++[(c,is)])=zbW l++[[.int .i64 c,.sl (za6 is) .none]]:=by simp[zbW,za6]
section
variable {data:List Dat} (hD:zaD data=true) {kk:Nat} {X:List VT} (hX:X.length≤1000000000000) {I:SI} {S:SS} {H:zaa}
include hD hX
theorem zwz(hS:ShS data kk I S H)(hI:Inv data kk X (λ_=>False) S)(h0:H[0]?=some .nodr){i:Nat}{t:VT}(ht:S.types[i]?=some t)(htX:∀w∈zaU data t,∀x∈w.2,x∈X)(K:Kt)(hK:K (zco (zdy data S i).1) (shS data kk I (zdy data S i).2 H)):ACalls tP zh6 [.ptr I.p 0,.int .i64 i] H K:=by
 refine ACalls.outH (zO1 λhs=>?_);have hil:=(List.getElem?_eq_some_iff.1 ht).1;have hlt0:0<H.length:=(List.getElem?_eq_some_iff.1 h0).1;have lp:=(List.getElem?_eq_some_iff.1 hS.hp).1;have lia:=(List.getElem?_eq_some_iff.1 hS.hia).1;have htg:S.types.getD i (.mk 0 0 [])=t:=by rw[List.getD_eq_getElem?_getD,ht];rfl
 have hv:=hI.vd t (List.mem_of_getElem? ht);have hml:i<S.made.length:=by rw[hI.ml];exact hil
 have hcl:i<S.cons.length:=by rw[hI.cl];exact hil
 obtain⟨bm,hbm⟩:∃bm,S.made[i]?=some bm:=⟨_,List.getElem?_eq_getElem hml⟩;have hbg:(zaJ S.made)[i]?=some (.bool bm):=by simp[zaJ,hbm]
 simp[zAK,hS.hp,hS.hia,hS.hit,hil,zdc _ hbg];unfold zdy at hK;rw[htg,List.getD_eq_getElem?_getD,hbm]at hK;cases bm with
 |true=>
  simp[List.getD_eq_getElem?_getD,List.getElem?_eq_getElem hcl]at hK;have hcg:(S.cons.map zco)[i]?=some (zco S.cons[i]):=by simp[hcl]
  simp[hS.hic,zdc _ hcg];exact Out.toH (Out.at (J:=[]) (by simp) (Nat.le_refl _) hs .rfl' rfl rfl (by rw[hS.self]at hK;exact hK))
 |false=>
  simp only[Option.getD_some,Bool.false_eq_true,if_false]at hK;simp;refine⟨by omega,?_⟩;have hbs:(zaJ S.made).take i++AV.bool true::(zaJ S.made).drop (i+1)=zaJ (S.made.set i true):=by have:=zwU (zaJ S.made) i (AV.bool true) (by simpa[zaJ]using hml);simp at this;rw[this];simp[zaJ,List.map_set]
  have hset:H.set I.ia (.vec zfA 1 S.types.length (zaJ (S.made.set i true)))=shS data kk I (mkS S i) H:=by
   refine hS.set_one (S':=mkS S i) (x:=I.ia) ?_ ?_
   ·simp[za3,hS.ok.a3.symm,hS.ok.b2.symm,hS.ok.c1.symm,mkS]
   ·intro y hy;unfold za3;simp only[mkS,if_neg hy]
  rw[hbs,hset];have hM:=zvr hD hI i;have hMS:ShS data kk I (mkS S i) (shS data kk I (mkS S i) H):=hS.next hM.ml hM.cl;obtain⟨A,hA⟩:∃A,A=shS data kk I (mkS S i) H:=⟨_,rfl⟩;have hAl:A.length=H.length:=by rw[hA];simp
  have h0A:A[0]?=some .nodr:=by rw[hA];exact hS.nodr h0
  have hAs:HSc A:=by rw[hA];exact hS.scs hs
  rw[←hA]at hMS ⊢;have hshA:∀T,shS data kk I T A=shS data kk I T H:=λT=>by rw[hA,zdv]
  have htM:(mkS S i).types=S.types:=rfl;have hta:=zfg S.types i t ht;have htl:=zfh S.types;obtain⟨k,n,ks⟩:=t;have hkn:=VT.cs_known (.mk k n ks);obtain⟨A2,hA2⟩:∃A2,A2=A++[.cells (VT.cs (.mk k n ks))]:=⟨_,rfl⟩;have hset2:(A++[AB.cells [AV.int .i64 0,AV.int .i64 0,AV.snil]]).set H.length (.cells (VT.cs (.mk k n ks)))=A2:=by rw[hA2,←hAl];simp
  have hg2:A2[H.length]?=some (.cells (VT.cs (.mk k n ks))):=by rw[hA2,←hAl];simp
  have hA2s:HSc A2:=by rw[hA2];exact hAs.snoc (by simp[AB.sc])
  have h0A2:A2[0]?=some .nodr:=by rw[hA2,List.getElem?_append_left (by omega)];exact h0A
  have hMS2:ShS data kk I (mkS S i) A2:=by rw[hA2];exact hMS.app
  have hvk:=zed hv;have hnod:=zfU hv;have hll:=VT.len_le ks;have hA2l:A2.length=H.length+1:=by rw[hA2];simp[hAl]
  have tup:k=6∨k=8→zf7 (.ptr I.p 0) (.int .i64 i) (.ptr H.length 0) .snil (.int .i64 k) (.bool true) A2 (zeS H.length K):=by
   intro h68;have hw:zaU data (.mk k n ks)=[(0,ks)]:=by rw[zaU,if_pos h68]
   rw[hw]at hK htX;unfold zf7;simp[hg2,VT.cs];have hts:∀t∈ks,zaA data 0 t=true∧t∈X:=λt ht=>⟨hvk t ht,htX (0,ks) (by simp) t ht⟩;have hok:=zhl hD ks (mkS S i) hM hts;refine zwx hD hX hMS2 hM h0A2 ks (by simp[VT.nodes]at hnod;omega) hts _ ?_;simp[zao,zaM,zas,zbh,plain,AV.pd,zd4,AV.known];unfold zhd;rw[hA2,hMS.shS_app];have hfin:=hMS.next (S':=(zaK data (mkS S i) ks).2) hok.1.ml hok.1.cl;refine zql hfin (hMS.scs hAs) (i:=i) (cs:=[(0,(zaK data (mkS S i) ks).1)]) ?_ (.sl _ _) rfl rfl (by simp[hAl]) ?_
   ·exact Nat.lt_of_lt_of_le hil hok.2.1.length_le
   ·rw[zdv,hshA];exact hK
  have oth:k≠6→k≠8→zf7 (.ptr I.p 0) (.int .i64 i) (.ptr H.length 0) .snil (.int .i64 k) (.bool false) A2 (zeS H.length K):=by
   intro h6 h8;have h68:¬(k=6∨k=8):=by omega
   unfold zf7;by_cases h5:k=5
   ·subst h5;have hw:zaU data (.mk 5 n ks)=(List.range (zbv data n).length).filterMap λc:Nat=>(zbq data (.mk 5 n ks) (c:Int)).map λl=>((c:Int),l):=by rw[zaU,if_neg h68,if_pos rfl]
    obtain⟨hn0,hnl⟩:0≤n∧n.toNat<data.length:=by
     rcases zex (zdN hv) with ⟨h,_⟩|⟨_,h,hl⟩|⟨h,_⟩|⟨h,_⟩
     ·omega
     ·exact⟨h,hl.1⟩
     ·omega
     ·omega
    have hdl:=zjw hD;have hcon:zbv data n=(data[n.toNat]).cons:=by unfold zbv;rw[List.getD_eq_getElem?_getD,List.getElem?_eq_getElem hnl];rfl
    have hcl8:=zjr hD hnl;rw[←hcon]at hcl8;simp;have hdg:(data.map Dat.cs)[n.toNat]?.getD []=(data[n.toNat]).cs:=by simp[hnl]
    simp[hMS2.hp,hg2,VT.cs,hn0,hnl,Dat.cs,Con.cs];refine⟨by omega,?_⟩;rw[←hcon];refine ALoop.own 6 zjz 2 rfl ?_;rw[hA2l];obtain⟨W,hW⟩:∃W:Nat→List (Int×List VT),W=λj=>(List.range j).filterMap λc:Nat=>(zbq data (.mk 5 n ks) (c:Int)).map λl=>((c:Int),l):=⟨_,rfl⟩;have hWs:∀j,W (j+1)=W j++((zbq data (.mk 5 n ks) (j:Int)).map λl=>((j:Int),l)).toList:=λj=>by rw[hW];simp only[List.range_succ,List.filterMap_append,List.filterMap_cons,List.filterMap_nil];cases zbq data (.mk 5 n ks) (j:Int) <;> rfl
    have hWl:∀j,(W j).length≤j:=λj=>by rw[hW];exact Nat.le_trans (List.length_filterMap_le _ _) (by simp)
    have hWv:∀j,j≤(zbv data n).length→∀w∈W j,∀t∈w.2,zaA data 0 t=true∧t∈X:=λj hj w hwm t ht=>by
     have:w∈zaU data (.mk 5 n ks):=by rw[hw];rw[hW]at hwm;obtain⟨c,hc1,hc2⟩:=List.mem_filterMap.1 hwm;exact List.mem_filterMap.2 ⟨c,List.mem_range.2 (by have:=List.mem_range.1 hc1;omega),hc2⟩
     exact⟨zqk hD hv this t ht,htX w this t ht⟩
    have hok:=λj hj=>zqi hD (W j) (mkS S i) hM (hWv j hj);obtain⟨G,hG⟩:∃G:Nat→zaa,G=λj=>shS data kk I (zbg data (mkS S i) (W j)).2 A++[.cells (VT.cs (.mk 5 n ks)),.perm zjz 2 (zbg data (mkS S i) (W j)).1.length]:=⟨_,rfl⟩;have hGl:∀j,(G j).length=H.length+2:=λj=>by rw[hG];simp[hAl]
    have hGs:∀j,HSc (G j):=λj=>by rw[hG];exact(hMS.scs hAs).append (by simp[AB.sc])
    have hfl:∀j,(zbg data (mkS S i) (W j)).1.length≤j:=λj=>by
     have:∀(ws:List (Int×List VT)) (S:SS),(zbg data S ws).1.length=ws.length:=by
      intro ws;induction ws with
      |nil=>intro S;rfl
      |cons w ws ih=>intro S;rw[zbg,List.length_cons,List.length_cons,ih]
     rw[this];exact hWl j
    have hW0:W 0=[]:=by rw[hW];rfl
    show zsS _ _ _ (.sl [] (.own (H.length+1))) _ _ _ _;refine zOZ (Inv:=λq t6 t60 H'=>∃j:Nat,j≤(zbv data n).length∧(zbv data n).length-j=q∧t60=.int .i64 j∧t6=.sl (zbW (zbg data (mkS S i) (W j)).1) (.own (H.length+1))∧H'=G j) (zbv data n).length ?_ ?_
    ·intro _;refine⟨0,by omega,rfl,rfl,by rw[hW0];rfl,?_⟩;rw[hG,hA2];simp only[hW0,zbg];rw[hMS.self,List.append_assoc];rfl
    ·rintro q t6 t60 H' ⟨j,hj,rfl,rfl,rfl,rfl⟩ hsc' hlen hsF Kb hKb;have hjS:=hMS.next (S':=(zbg data (mkS S i) (W j)).2) (hok j hj).1.ml (hok j hj).1.cl;have hGS:ShS data kk I (zbg data (mkS S i) (W j)).2 (G j):=by rw[hG];exact hjS.app
     have hgG:(G j)[H.length]?=some (.cells (VT.cs (.mk 5 n ks))):=by rw[hG,←hAl];simp
     have h0G:(G j)[0]?=some .nodr:=by rw[hG];simp only;rw[List.getElem?_append_left (by simp;omega)];exact hMS.nodr h0A
     by_cases hlt:j<(zbv data n).length
     ·simp[zsO,hlt,hGS.hp,hgG,VT.cs];refine zaV (zdl (zbq data (.mk 5 n ks) (j:Int))) (λJ=>zBk data (by omega) (λd hd c hc=>?_) (λd hd=>?_) (.mk 5 n ks) (by omega) _ _ _ ⟨rfl,rfl⟩) ?_
      ·obtain⟨i',hi',rfl⟩:=List.mem_iff_getElem.1 hd;obtain⟨h1,h2⟩:=zhq hD hi' c hc;exact⟨by omega,λx hx=>by have:=(h2 x hx).1;omega⟩
      ·obtain⟨i',hi',rfl⟩:=List.mem_iff_getElem.1 hd;have:=zjr hD hi';omega
      ·cases hf:zbq data (.mk 5 n ks) (j:Int) with
       |none=>
        have hWj:W (j+1)=W j:=by rw[hWs,hf];simp
        simp[zdl];unfold zm8 zsR;simp;rw[wr (by omega)];refine hKb _ _ ⟨(zbv data n).length-(j+1),by omega,Back.here (by simp[hGl,hA2l]) hsc' ?_ ⟨_,_,rfl,j+1,by omega,rfl,rfl,by rw[hWj],by rw[hG];simp only[hWj]⟩⟩;rw[hGl];simp[zi2,ux,AV.sc,AV.scA,AV.scB,AV.scV];omega
       |some l=>
        simp[zdl];have hWj:W (j+1)=W j++[((j:Int),l)]:=by rw[hWs,hf];simp
        have hlv:∀t∈l,zaA data 0 t=true∧t∈X:=hWv (j+1) (by omega) ((j:Int),l) (by rw[hWj];simp);have hl6:l.length≤6:=by obtain⟨_,_,_,hn1,hc1,_,rfl,_⟩:=zjA hf;rw[List.length_map];exact(zhq hD hn1 _ (List.getElem_mem hc1)).1
        refine zwx hD hX hGS (hok j hj).1 h0G l (by omega) hlv _ ?_;have hwf:zbg data (mkS S i) (W (j+1))=((zbg data (mkS S i) (W j)).1++[((j:Int),(zaK data (zbg data (mkS S i) (W j)).2 l).1)],(zaK data (zbg data (mkS S i) (W j)).2 l).2):=by rw[hWj,zxm]
        have hfin:shS data kk I (zaK data (zbg data (mkS S i) (W j)).2 l).2 (G j)=shS data kk I (zbg data (mkS S i) (W (j+1))).2 A++[.cells (VT.cs (.mk 5 n ks)),.perm zjz 2 (zbg data (mkS S i) (W j)).1.length]:=by rw[hG];simp only;rw[hjS.shS_app,zdv,hwf]
        rw[hfin];simp[zao,zaM,zas,zbh,plain,AV.pd,zd4,AV.known];simp only[zax,zbc,za2];have hcl2:(zbW (zbg data (mkS S i) (W j)).1).length=(zbg data (mkS S i) (W j)).1.length:=by simp[zbW]
        have:=hfl j;simp[List.set_append_right,hAl,hcl2];refine⟨⟨by omega,by omega⟩,?_⟩;unfold zm8 zsR;simp;rw[wr (by omega)];have hst:zbW (zbg data (mkS S i) (W j)).1++[[AV.int .i64 j,AV.sl (za6 (zaK data (zbg data (mkS S i) (W j)).2 l).1) .none]]=zbW (zbg data (mkS S i) (W (j+1))).1:=by rw[hwf,zCC]
        rw[hst];refine hKb _ _ ⟨(zbv data n).length-(j+1),by omega,Back.at (J:=[]) (H2:=G (j+1)) (by rw[hG];simp[hwf]) (by simp[hGl,hA2l]) (hGs _) ?_ ⟨_,_,rfl,j+1,by omega,rfl,rfl,rfl,rfl⟩⟩;rw[hGl];simp[zi2,ux,AV.sc,AV.scA,AV.scB,AV.scV];omega
     ·obtain rfl:j=(zbv data n).length:=by omega
      simp[zsO];unfold zhd;have hWe:W (zbv data n).length=zaU data (.mk 5 n ks):=by rw[hw,hW]
      rw[hWe]at hjS;have hokE:=hok _ hj;rw[hWe]at hokE;rw[hG];simp only[hWe];refine zql hjS (hMS.scs hAs) (i:=i) (cs:=(zbg data (mkS S i) (zaU data (.mk 5 n ks))).1) ?_ (.sl _ _) rfl rfl (by simp[hAl]) ?_
      ·exact Nat.lt_of_lt_of_le hil hokE.2.1.length_le
      ·rw[zdv,hshA];exact hK
   ·have hw:zaU data (.mk k n ks)=[]:=by rw[zaU,if_neg h68,if_neg h5]
    rw[hw]at hK;have hb:(k == 5)=false:=by simpa using h5
    simp[hb];unfold zhd;rw[hA2];refine zql hMS hAs (i:=i) (cs:=[]) hil .snil rfl rfl hAl.symm ?_;rw[hshA];exact hK
  have fin:∀b8:Bool,b8=(k == 8)→(k≠6)→zf7 (.ptr I.p 0) (.int .i64 i) (.ptr H.length 0) .snil (.int .i64 k) (.bool b8) A2 (zeS H.length K):=by
   intro b8 h8 h6;by_cases e8:k=8
   ·rw[h8,show (k == 8)=true from by simpa using e8];exact tup (.inr e8)
   ·rw[h8,show (k == 8)=false from by simpa using e8];exact oth h6 e8
  by_cases h6:k=6
  ·subst h6;simp[hMS.hp,hMS.hit,htM,hil,hta,hkn,hset2,hg2];refine⟨by omega,?_⟩;simp[VT.cs];exact tup (.inl rfl)
  ·have hb6:(k == 6)=false:=by simpa using h6
   simp[hMS.hp,hMS.hit,htM,hil,hta,hkn,hset2,hg2];refine⟨by omega,?_⟩;simp[VT.cs];generalize (k == 6)=b6 at hb6 ⊢;subst hb6;exact fin _ rfl h6
end
theorem zCB(a b:Nat)(ha:(lim a).length≤1000)(hb:(lim b).length≤1000)(H:zaa)(K:Kt)(hK:K (.int .i64 (zbS a b)) H):
  ACalls tP zh9 [.sl (zap (lim a)) .none,.sl (zap (lim b)) .none] H K:=by
 refine ACalls.out (zPs λhs=>?_);have hO:∀r,r=zbS a b→Out H.length K (.int .i64 r) H:=λr hr=>Out.int (J:=[]) (by simp) (Nat.le_refl _) hs (by rw[hr];exact hK);have lA:=zdH a;have lB:=zdH b;have vA:=zc3 a;have vB:=zc3 b;by_cases hne:(lim a).length=(lim b).length
 ·simp[zne,hne];generalize hLA:lim a=A at *;generalize hLB:lim b=B at *;have hstart:IntKind.i64.wrap ((B.length:Int)-1)=(B.length:Int)-1:=zav (by omega) (by omega);rw[hstart];refine zPq (Inv:=λq t5 H'=>∃i:Nat,i≤B.length∧i=q∧t5=.int .i64 ((i:Int)-1)∧H'=H∧A.drop i=B.drop i) B.length ?_ ?_
  ·intro _;exact⟨B.length,by omega,rfl,rfl,rfl,by rw[List.drop_of_length_le (by omega),List.drop_of_length_le (by omega)]⟩
  ·rintro q t5 H' ⟨i,hi,rfl,rfl,rfl,hd⟩ hsc' hlen hsF Kb hKb;by_cases h0:i=0
   ·subst h0;simp[zi4];refine hO _ ?_;simp at hd;rw[←vA,←vB,hd];simp[zbS]
   ·obtain⟨j,rfl⟩:∃ j,i=j+1:=⟨i-1,by omega⟩;have hja:j<A.length:=by omega
    have hjb:j<B.length:=by omega
    have ej:((j+1:Nat):Int)-1=(j:Int):=by omega
    have hstep:IntKind.i64.wrap ((j:Int)-1)=(j:Int)-1:=zav (by omega) (by omega);rw[ej];rcases Nat.lt_trichotomy A[j] B[j] with h|h|h
    ·have:=zvo hne lA j hja hd h;simp[zi4,hja,hjb,h];exact hO _ (by rw[←vA,←vB];simp[zbS,this])
    ·simp[zi4,hja,hjb,h,hstep];refine hKb _ _ ⟨j,by omega,Back.here (by simp) hs (by simp[zng,ux,AV.sc,AV.scA,AV.scB,AV.scV]) ⟨_,rfl,j,by omega,rfl,rfl,rfl,?_⟩⟩;rw[List.drop_eq_getElem_cons hja,List.drop_eq_getElem_cons hjb,hd,h]
    ·have:=zvo hne.symm lB j hjb hd.symm h;simp[zi4,hja,hjb,h,Nat.le_of_lt h,Nat.not_lt.2 (Nat.le_of_lt h)];exact hO _ (by rw[←vA,←vB];simp[zbS,this,Nat.not_lt.2 (Nat.le_of_lt this)])
 ·have hnb:(((lim a).length:Int) != ((lim b).length:Int))=true:=by simp;omega
  by_cases hlt:(lim a).length<(lim b).length
  ·have:=zvn hlt;simp[zne,hnb,hlt];exact hO (-1) (by simp[zbS,this])
  ·have:=zvn (show (lim b).length<(lim a).length by omega);simp[zne,hnb,hlt];exact hO 1 (by simp[zbS,this,Nat.not_lt.2 (Nat.le_of_lt this)])
theorem zvX{H:zaa}{K:Kt}(R:List Nat)(hs:HSc H)(hK:K (.sl (zap R) .none) H):Out H.length K (.ov H.length R.length) (H++[.vec zbX 1 R.length (us R)]):=
 ⟨.sl (zap R) .none,H,[.vec zbX 1 R.length (us R)],rfl,Nat.le_refl _,hs,.one (.vfz H.length zbX 1 R.length (us R) (zap R) (Nat.le_refl _) (by simp) (by rw[zqf,zkZ]) (by simp) (zim R)),hK⟩
theorem ztE(A B:List Nat)(lA:∀x∈A,x<1000000000)(lB:∀x∈B,x<1000000000)(ha:A.length≤1000)(hb:B.length≤A.length)(cA:lim (zau A)=A)(H:zaa)(K:Kt)(hs:HSc H)(hK:K (.sl (zap (lim (zau A+zau B))) .none) H):zl3 (.sl (zap A) .none) (.sl (zap B) .none) H (Out H.length K):=by
 have hsc:∀ R:List Nat,HSc (H++[.vec zbX 1 R.length (us R)]):=λA=>hs.append (by simp[AB.sc,us,AV.scA,AV.scB]);simp[zl3,wi A.length (by omega)];refine⟨⟨by omega,by omega,by omega⟩,?_⟩;refine zKu (Inv:=λq t5 t6 t22 H'=>∃ (i c:Nat) (R:List Nat),i≤A.length∧A.length-i=q∧t22=.int .i64 i∧t6=.int .u32 c∧t5=.ov H.length R.length∧R.length=i∧(∀ x∈R,x<1000000000)∧c≤1 ∧
  zau R+1000000000 ^ i*c=zau (A.take i)+zau (B.take i)∧H'=H++[.vec zbX 1 R.length (us R)]) A.length ?_ ?_
 ·intro _;exact⟨0,0,[],by omega,rfl,rfl,rfl,rfl,rfl,by simp,by omega,by simp[zau],rfl⟩
 ·rintro q t5 t6 t22 H' ⟨i,c,R,hi,rfl,rfl,rfl,rfl,hRl,hR,hc,hv,rfl⟩ hsc' hlen hsF Kb hKb;by_cases hlt:i<A.length
  ·have hbit : ∀ (s : Nat), s ≤ 2 * 999999999 + 1 → s = c + A[i] + (if h : i < B.length then B[i] else 0) →
     zl4 (.sl (zap A) .none) (.sl (zap B) .none) (.ov H.length R.length) (.int .u32 s) (.int .i64 A.length) (.int .i64 i) (H++[.vec zbX 1 R.length (us R)]) (Out H.length K) Kb:=by
    intro s hs1 hs2;obtain⟨x,c',hx1,hx2,e1,e2⟩:=zCY s (by omega);simp only[zl4];simp[e1,e2,zas,zbh,plain,AV.pd,zax,zbc,za2,wi i (by omega)];refine⟨⟨by omega,by omega⟩,?_⟩;have e3:us R++[AV.int .u32 (x:Int)]=us (R++[x]):=by simp[us]
    rw[e3];refine hKb _ _ ⟨A.length-(i+1),by omega,Back.here (by simp) (by simpa using hsc (R++[x])) (by simp[zl2,ux,AV.sc,AV.scA,AV.scB,AV.scV]) ⟨_,_,_,rfl,i+1,c',R++[x],by omega,rfl,rfl,rfl,by simp,by simp[hRl],?_,by omega,?_,by simp⟩⟩
    ·intro y hy;rcases List.mem_append.1 hy with hy | hy
     ·exact hR y hy
     ·simp at hy;omega
    ·have tk:zau (B.take (i+1))=zau (B.take i)+(if h:i<B.length then B[i] else 0)*1000000000 ^ i:=by
      by_cases h:i<B.length
      ·rw[dif_pos h,zhM B i h]
      ·rw[dif_neg h,List.take_of_length_le (by omega),List.take_of_length_le (by omega)];simp
     rw[zhL,tk,zhM A i hlt,hRl,Nat.pow_succ];generalize (if h:i<B.length then B[i] else 0)=v at *;grind
   have hxa:=lA A[i] (List.getElem_mem hlt);obtain⟨s1,hs1⟩:∃s,s=A[i]+c:=⟨_,rfl⟩;have w1:IntKind.u32.wrap (((A[i]:Nat):Int)+(c:Int))=(s1:Int):=by rw[hs1,←Int.natCast_add];exact zgY (by omega)
   by_cases hB:i<B.length
   ·have hxb:=lB B[i] (List.getElem_mem hB);obtain⟨s2,hs2⟩:∃ s,s=s1+B[i]:=⟨_,rfl⟩;have w2:IntKind.u32.wrap ((s1:Int)+(B[i]:Nat))=(s2:Int):=by rw[hs2,←Int.natCast_add];exact zgY (by omega)
    simp[ziD,hlt,hB,w1,w2];exact hbit s2 (by omega) (by simp[hB];omega)
   ·simp[ziD,hlt,hB,w1];exact hbit s1 (by omega) (by simp[hB];omega)
  ·obtain rfl:i=A.length:=by omega
   rw[List.take_length,List.take_of_length_le hb]at hv;by_cases h0:c=0
   ·subst h0;simp[ziD,zl5];have hv':zau R=zau A+zau B:=by simpa using hv
    rw[←hv']at hK;have hcan:R=lim (zau R):=by
     refine zt3 hR ?_;by_cases hA0:A.length=0
     ·omega
     ·have h3:=zvc (n:=zau A) (by intro h;have hl0:=congrArg List.length cA;rw[h]at hl0;simp at hl0;omega);rw[cA]at h3;have:=zvb (n:=zau R) (k:=A.length-1) (by omega);omega
    rw[←hcan]at hK;exact zvX R hs hK
   ·obtain rfl:c=1:=by omega
    simp[ziD,zl5,zas,zbh,plain,AV.pd,zax,zbc,za2];refine⟨⟨by omega,by omega⟩,?_⟩;have e3:us R++[AV.int .u32 1]=us (R++[1]):=by simp[us]
    rw[e3];have hv':zau (R++[1])=zau A+zau B:=by rw[zhL,hRl];omega
    rw[←hv']at hK;have hcan:R++[1]=lim (zau (R++[1])):=by
     refine zt3 (λy hy=>?_) ?_
     ·rcases List.mem_append.1 hy with hy | hy
      ·exact hR y hy
      ·simp at hy;omega
     ·have:=zvb (n:=zau (R++[1])) (k:=A.length) (by rw[zhL,hRl];omega);simp;omega
    rw[←hcan]at hK;have:=zvX (R++[1]) hs hK;simpa using this
theorem zKy(a b:Nat)(ha:(lim a).length≤1000)(hb:(lim b).length≤1000)(H:zaa)(K:Kt)(hK:K (.sl (zap (lim (a+b))) .none) H):
  ACalls tP zo3 [.sl (zap (lim a)) .none,.sl (zap (lim b)) .none] H K:=by
 refine ACalls.out (zKw λhs=>?_);by_cases h:(lim a).length<(lim b).length
 ·have h':((lim a).length:Int)<((lim b).length:Int):=by omega
  simp[zrA,h];refine ztE (lim b) (lim a) (zdH b) (zdH a) hb (by omega) (by rw[zc3]) _ _ hs ?_;rw[zc3,zc3,Nat.add_comm];exact hK
 ·have h':¬ ((lim a).length:Int)<((lim b).length:Int):=by omega
  simp[zrA,h];refine ztE (lim a) (lim b) (zdH a) (zdH b) ha (by omega) (by rw[zc3]) _ _ hs ?_;rw[zc3,zc3];exact hK
theorem zjN(a:Nat)(ha:a<1000000000 ^ 30)(H:zaa)(K:Kt)(hK:K (.sl (zap (lim a)) .none) H):ACalls tP zcQ [.sl (zap (lim a)) .none,.sl (zap [1]) .none] H K:=by have:=zoK a 1 ha zps H K (by rw[Nat.mul_one];exact hK);rwa [zjJ]at this
theorem zER(a b:Nat)(ha:a<1000000000 ^ 30)(hb:b<1000000000 ^ 30)(H:zaa)(K:Kt)(hK:K (.agg (zaY ((a+b:Nat):Int))) H):
  ACalls tP zoQ [.agg (zaY (a:Int)),.agg (zaY (b:Int))] H K:=by
 refine ACalls.out (zHJ λhs=>?_);have la:=zdo ha;have lb:=zdo hb;have d0:∀n:Nat,decide ((n:Int)<0)=false:=λn=>by simp
 simp[zxG,zaY,d0,Nat.add_assoc];refine zaV (.sl (zap (lim a)) .none) (λJ=>zjN a ha _ _ ⟨rfl,rfl⟩) ?_;try simp[Nat.add_assoc]
 refine zaV (.sl (zap (lim b)) .none) (λJ=>zjN b hb _ _ ⟨rfl,rfl⟩) ?_;try simp[Nat.add_assoc]
 refine zvt _ _ ?_;simp[Nat.add_assoc];refine zaV (.sl (zap (lim (a+b))) .none) (λJ=>zKy a b (by omega) (by omega) _ _ ⟨rfl,rfl⟩) ?_;simp[zao,zaM,zd4,AV.known,Nat.add_assoc];have e1:zaY ((a+b:Nat):Int)=[.bool false,.sl (zap (lim (a+b))) .none,.sl (zap [1]) .none]:=by simp only[zaY,d0,Int.natAbs_natCast]
 have:=zgJ (H:=H) (K:=K) (z:=((a+b:Nat):Int)) (J:=[.cells [.bool false,.sl (zap (lim a)) .none,.sl (zap [1]) .none],.cells [.bool false,.sl (zap (lim b)) .none,.sl (zap [1]) .none],.cells (zaY ((a+b:Nat):Int))]) hs hK;rw[e1]at this;simpa using this
theorem zpR(a:Nat)(H:zaa)(K:Kt)(hK:K (.int .i64 (if a=0 then 0 else 1)) H):ACalls tP zh8 [.agg (zaY (a:Int))] H K:=by
 refine ACalls.out (zPn λhs=>?_);have d0:∀n:Nat,decide ((n:Int)<0)=false:=λn=>by simp
 have hO:∀z J,z=(if a=0 then (0:Int) else 1)→Out H.length K (.int .i64 z) (H++J):=λz J h=>Out.int rfl (Nat.le_refl _) hs (by rw[h];exact hK);by_cases h:a=0
 ·subst h;simp[zsW,zaY];exact hO 0 _ (by simp)
 ·have hp:0<(lim a).length:=by rw[zc2 h];simp
  have hb:(((lim a).length:Int) == 0)=false:=by generalize (lim a).length=q at hp;simp;omega
  simp[zsW,zaY,d0,hb];exact hO 1 _ (by simp[h])
end Go.Proofs.YtaifokkaaahdoaaGreatDoor
namespace Go.Proofs.YtaifokkaaahdoaaGreatDoor
open Go Go.Abs
set_option maxRecDepth 100000
def zM9(_:Nat):List Bool:=[]
noncomputable def zNb:Code:=Tryz.f44.body.getD .skip
def zzP(t0 t1:AV)(H:zaa)(K:Kt):Prop:=
 zaw t0 H λt2 H=>
 zaw t1 H λt3 H=>
 zad H (λK'=>zam true 3 t2 H (K' · H)) λt9=>
 zaQ H (λH K'=>ACalls tP zd6 [t9] H K') λt10=>
 zad H (λK'=>zam true 3 t3 H (K' · H)) λt11=>
 zaQ H (λH K'=>ACalls tP zd6 [t11] H K') λt12=>
 zay [(.bool false),.snil,.snil] H λt5 H=>
 zay [(.bool false),.snil,.snil] H λt6 H=>
 zak 3 t5 t10 H λH=>
 zak 3 t6 t12 H λH=>
 zad H (λK'=>zam true 3 t5 H (K' · H)) λt13=>
 zaQ H (λH K'=>ACalls tP zh8 [t13] H K') λt14=>
 zad H (λK'=>zam true 3 t6 H (K' · H)) λt15=>
 zaQ H (λH K'=>ACalls tP zh8 [t15] H K') λt16=>
 zad H (λK'=>K' t14 H) λt7=>
 zad H (λK'=>K' t16 H) λt8=>
 zac .lss false t7 t8 λt20=>
 zag t20
 (K (.int .i64 (-1)) H)
 (zac .gtr false t7 t8 λt24=>
 zag t24
 (K (.int .i64 1) H)
 (zad H (λK'=>K' t7 H) λt25=>
 zad H (λK'=>zaf 1 t5 (K' · H)) λt26=>
 zad H (λK'=>zam false 1 t26 H (K' · H)) λt27=>
 zad H (λK'=>zaf 2 t6 (K' · H)) λt28=>
 zad H (λK'=>zam false 1 t28 H (K' · H)) λt29=>
 zaQ H (λH K'=>ACalls tP zcQ [t27,t29] H K') λt30=>
 zad H (λK'=>zaf 1 t6 (K' · H)) λt31=>
 zad H (λK'=>zam false 1 t31 H (K' · H)) λt32=>
 zad H (λK'=>zaf 2 t5 (K' · H)) λt33=>
 zad H (λK'=>zam false 1 t33 H (K' · H)) λt34=>
 zaQ H (λH K'=>ACalls tP zcQ [t32,t34] H K') λt35=>
 zaQ H (λH K'=>ACalls tP zh9 [t30,t35] H K') λt36=>
 zad H (λK'=>zac .mul false t25 t36 (K' · H)) λt37=>
 zad H (λK'=>K' t37 H) λt4=>
 K t4 H))
theorem zNc{t0 t1:AV}{H:zaa}{K:Kt}(h:HSc H→zzP t0 t1 H K):ACalls tP zph [t0,t1] H K:=
 zan (M:=zM9) Tryz.func44 (c:=zNb) (by kernel_rfl) (λhs=>Eq.mpr (by kernel_rfl) (h hs))
def zmD:Nat→List Bool
 |2=>rl false [0,1,4,3,27]
 |_=>[]
noncomputable def zsd:Code:=Tryz.f43.body.getD .skip
noncomputable def zM7:List ResultVar:=Tryz.f43.results.toList
def ziR(t0 t5 t6 t7:AV):List AV:=t0::ux 4 (t5::t6::t7::ux 27 [])
def zM5:List Bool:=zmD 2
noncomputable def zM3:Code:=zaq [1,0,1,0,0] zsd
def zM2(K:Kt):AExit→List AV→zaa→Prop:=zar tP zmD [1,0,1,0] zsd (zaB tP zM7 K)
def zzO(t0 t5 t6 t7:AV)(H:zaa)(K:Kt):Prop:=ALoop tP zM3 (zM2 K) (ziR t0 t5 t6 t7) H
def zsc(t0 t5 t6 t7:AV)(H:zaa)(K:Kt)(Kb2:Lt):Prop:=
 zac .lss false t7 t6 λt8=>
 zag t8
 (zaj 1 t5 t7 λt10=>
 zae false 1 t10 H λt11=>
 zac .lss false t11 (.int .i64 (-1099511627776)) λt13=>
 zab t13 false H (λK'=>K' t11 H) λt15 H=>
 zab t13 false H (λK'=>zac .gtr false t15 (.int .i64 1099511627776) (K' · H)) λt16 H=>
 zai t13 (.bool true) t16 λt17=>
 zab t17 false H (λK'=>K' t7 H) λt19 H=>
 zab t17 false H (λK'=>zac .gtr false t19 (.int .i64 0) (K' · H)) λt20 H=>
 zab t17 false H (λK'=>K' t20 H) λt21 H=>
 zab t21 true H (λK'=>K' t11 H) λt22 H=>
 zab t21 true H (λK'=>K' t0 H) λt23 H=>
 zab t21 true H (λK'=>K' t7 H) λt24 H=>
 zab t21 true H (λK'=>zac .sub false t24 (.int .i64 1) (K' · H)) λt25 H=>
 zab t21 true H (λK'=>zaj 1 t23 t25 (K' · H)) λt26 H=>
 zab t21 true H (λK'=>zae false 1 t26 H (K' · H)) λt27 H=>
 zab t21 true H (λK'=>zac .leq false t22 t27 (K' · H)) λt28 H=>
 zab t17 false H (λK'=>zai t21 t28 (.bool false) (K' · H)) λt29 H=>
 zai t17 (.bool true) t29 λt30=>
 zag t30
 (K (.bool false) H)
 (zac .add false t7 (.int .i64 1) λt31=>
 Kb2 (ziR t0 t5 t6 t31) H))
 (zah 1 t0 λt33=>
 zac .leq false t33 (.int .i64 8) λt34=>
 K t34 H)
def zzN(t0:AV)(H:zaa)(K:Kt):Prop:=
 zah 1 t0 λt6=>
 zzO t0 t0 t6 (.int .i64 0) H K
theorem zM4{t0 t5 t6 t7:AV}{H:zaa}{K:Kt}(Inv:Nat→AV→zaa→Prop)(n:Nat)(h0:HSc H→Inv n t7 H)(round:Rd1 (λt7=>ziR t0 t5 t6 t7) (λt7=>λH Kb2=>zsc t0 t5 t6 t7 H K Kb2) H Inv):zzO t0 t5 t6 t7 H K:=
 lp1 (M:=zmD) zM5 t7 (by kernel_rfl) Inv n h0 round
theorem zM6{t0:AV}{H:zaa}{K:Kt}(h:HSc H→zzN t0 H K):ACalls tP zpg [t0] H K:=
 zan (M:=zmD) Tryz.func43 (c:=zsd) (by kernel_rfl) (λhs=>Eq.mpr (by kernel_rfl) (h hs))
end Go.Proofs.YtaifokkaaahdoaaGreatDoor
namespace Go.Proofs.YtaifokkaaahdoaaGreatDoor
open Go Go.Abs
def vO(o:Option Nat):Nat:=o.getD 0
theorem zeC(n:Nat):zaY (n:Int)=[.bool false,.sl (zap (lim n)) .none,.sl (zap [1]) .none]:=by simp[zaY]
theorem zfR(o:Option Nat):∃x y z,zal o=[x,y,z]∧x.known=true∧y.known=true∧z.known=true:=by
 cases o with
 |none=>exact⟨_,_,_,rfl,rfl,rfl,rfl⟩
 |some n=>exact⟨_,_,_,zeC n,rfl,rfl,rfl⟩
theorem zfK(o:Option Nat)(h:vO o<1000000000 ^ 30)(H:zaa)(K:Kt)(hK:K (.agg (zaY (vO o:Int))) H):ACalls tP zd6 [.agg (zal o)] H K:=by
 cases o with
 |some n=>have la:=zdo h;exact zDW (n:Int) (by simpa[vO]using by simp only[vO,Option.getD_some]at la;omega) H K hK
 |none=>
  refine ACalls.out (zAB λhs=>?_);simp[zsJ,zal,Nat.add_assoc];have e0:(AV.sl [] .none)=.sl (zap []) .none:=rfl;have nz:∀(J:zaa) (v:AV),WkV v (.sl [] .none)→ACalls tP zhP [v] J λr H'=>r=.sl (zap []) .none∧H'=J:=λJ v hv=>
   ACalls.wk (args':=[.sl (zap []) .none]) (zpq [] (by simp) (by simp) _ _ (by simp[zau,zDP,zap])) ⟨hv,trivial⟩
  refine zaV (.sl (zap []) .none) (λJ=>nz _ _ (by first|exact .rfl'|exact .atom .snil)) ?_;refine zaV (.sl (zap []) .none) (λJ=>nz _ _ (by first|exact .rfl'|exact .atom .snil)) ?_;have e1:zaY ((vO none:Nat):Int)=[.bool false,.sl [] .none,.sl [[.int .u32 1]] .none]:=by simp[zaY,zap,vO]
  rw[e1]at hK;simp[zas,zbh,plain,AV.pd,zao,zaM,zd4,Nat.add_assoc,zap];exact Out.one hs (WkV.agg (ds:=[.bool false,.sl [] .none,.sl [[.int .u32 1]] .none]) ⟨.refl _,.snil,.sl _ _,trivial⟩) rfl (by simp[AV.scV,AV.scA,AV.scB]) hK
theorem zhe(o:Option Nat)(h:vO o<1000000000 ^ 30)(H:zaa)(K:Kt)(hK:K (.int .i64 (if vO o=0 then 0 else 1)) H):ACalls tP ze9 [.agg (zal o)] H K:=by refine ACalls.out (zPD λhs=>?_);obtain⟨x,y,z,e,hx,hy,hz⟩:=zfR o;simp[zAY,e,hx,hy,hz,Nat.add_assoc];simp only[←e];refine zfK o h _ _ ?_;refine zpR (vO o) _ _ ?_;exact Out.int rfl (Nat.le_refl _) hs hK
theorem zsT(a b:Option Nat)(ha:vO a<1000000000 ^ 30)(hb:vO b<1000000000 ^ 30)(H:zaa)(K:Kt)(hK:K (.agg (zal (some (vO a+vO b)))) H):ACalls tP zh7 [.agg (zal a),.agg (zal b)] H K:=by
 refine ACalls.out (zO5 λhs=>?_);have lc:(lim (vO a+vO b)).length≤31:=zdo (by omega);obtain⟨x,y,z,e,hx,hy,hz⟩:=zfR a;obtain⟨x',y',z',e',hx',hy',hz'⟩:=zfR b;simp[zAL,e,e',hx,hy,hz,hx',hy',hz',Nat.add_assoc];simp only[←e,←e'];refine zaV (.agg (zaY (vO a:Int))) (λJ=>zfK a ha _ _ ⟨rfl,rfl⟩) ?_;refine zaV (.agg (zaY (vO b:Int))) (λJ=>zfK b hb _ _ ⟨rfl,rfl⟩) ?_;refine zaV (.agg (zaY ((vO a+vO b:Nat):Int))) (λJ=>zER _ _ ha hb _ _ ⟨rfl,rfl⟩) ?_;refine zaV (.agg (zaY ((vO a+vO b:Nat):Int))) (λJ=>by
  rw[zeC];exact zpW false _ (by omega) (z:=((vO a+vO b:Nat):Int)) (by simp) _ _ ⟨by rw[zeC],rfl⟩) ?_
 rw[zeC];simp[Nat.add_assoc];have:=zgJ (H:=H) (K:=K) (z:=((vO a+vO b:Nat):Int)) (J:=[.cells (zal a),.cells (zal b),.cells (zaY ((vO a+vO b:Nat):Int))]) hs hK;rw[zeC]at this;simpa using this
theorem zA0(a b:Option Nat)(ha:vO a<1000000000 ^ 30)(hb:vO b<1000000000 ^ 30)(H:zaa)(K:Kt)(hK:K (.agg (zal (some (vO a*vO b)))) H):ACalls tP zkh [.agg (zal a),.agg (zal b)] H K:=by
 refine ACalls.out (zPG λhs=>?_);have sa:Sm (vO a:Int):=by simpa[Sm]using ha
 have sb:Sm (vO b:Int):=by simpa[Sm]using hb
 have hm:=zdo (zEb sa sb);simp only[Int.natAbs_natCast]at hm;obtain⟨x,y,z,e,hx,hy,hz⟩:=zfR a;obtain⟨x',y',z',e',hx',hy',hz'⟩:=zfR b;simp[zAZ,e,e',hx,hy,hz,hx',hy',hz',Nat.add_assoc];simp only[←e,←e'];refine zaV (.agg (zaY (vO a:Int))) (λJ=>zfK a ha _ _ ⟨rfl,rfl⟩) ?_;refine zaV (.agg (zaY (vO b:Int))) (λJ=>zfK b hb _ _ ⟨rfl,rfl⟩) ?_;simp[zeC,AV.known,Nat.add_assoc];refine zaV (.sl (zap (lim (vO a*vO b))) .none) (λJ=>zoK _ _ ha hb _ _ ⟨rfl,rfl⟩) ?_;refine zaV (.sl (zap [1]) .none) (λJ=>zvt _ _ ⟨rfl,rfl⟩) ?_;simp[zao,zaM,zd4,AV.known,Nat.add_assoc];refine zaV (.agg (zaY ((vO a*vO b:Nat):Int))) (λJ=>zpW _ _ (by omega) (by simp) _ _ ⟨rfl,rfl⟩) ?_;have e3:∀z:Int,(zaY z).take 3=zaY z:=λz=>rfl;simp[AV.known,Nat.add_assoc,e3];refine zgJ hs ?_;rw[←Int.natCast_mul];exact hK
theorem zNa(a b:Option Nat)(ha:vO a<1000000000 ^ 30)(hb:vO b<1000000000 ^ 30)(H:zaa)(K:Kt)(hK:K (.int .i64 (zbS (vO a) (vO b))) H):ACalls tP zph [.agg (zal a),.agg (zal b)] H K:=by
 refine ACalls.out (zNc λhs=>?_);have la:=zdo ha;have lb:=zdo hb;obtain⟨x,y,z,e,hx,hy,hz⟩:=zfR a;obtain⟨x',y',z',e',hx',hy',hz'⟩:=zfR b;simp[zzP,e,e',hx,hy,hz,hx',hy',hz',Nat.add_assoc];simp only[←e,←e'];refine zaV (.agg (zaY (vO a:Int))) (λJ=>zfK a ha _ _ ⟨rfl,rfl⟩) ?_;refine zaV (.agg (zaY (vO b:Int))) (λJ=>zfK b hb _ _ ⟨rfl,rfl⟩) ?_;simp[zeC,AV.known,Nat.add_assoc];simp only[←zeC];have hO:∀r J,r=zbS (vO a) (vO b)→Out H.length K (.int .i64 r) (H++J):=λr J hr=>Out.int rfl (Nat.le_refl _) hs (by rw[hr];exact hK);generalize hA:vO a=A at *;generalize hB:vO b=B at *;refine zaV (.int .i64 (if A=0 then 0 else 1)) (λJ=>zpR A _ _ ⟨rfl,rfl⟩) ?_;refine zaV (.int .i64 (if B=0 then 0 else 1)) (λJ=>zpR B _ _ ⟨rfl,rfl⟩) ?_;have fin:∀(s1:Int),s1=0∨s1=1→(s1=0→A=0∧B=0)→∀J,zaQ (H++J) (λH K'=>ACalls tP zcQ [.sl (zap (lim A)) .none,.sl (zap [1]) .none] H K') λt30=>zaQ (H++J) (λH K'=>ACalls tP zcQ [.sl (zap (lim B)) .none,.sl (zap [1]) .none] H K') λt35=>zaQ (H++J) (λH K'=>ACalls tP zh9 [t30,t35] H K') λt36=>zac .mul false (.int .i64 s1) t36 λt4=>Out H.length K t4 (H++J):=by
  intro s1 h1 h2 J;refine zaV (.sl (zap (lim A)) .none) (λJ=>zjN A ha _ _ ⟨rfl,rfl⟩) ?_;refine zaV (.sl (zap (lim B)) .none) (λJ=>zjN B hb _ _ ⟨rfl,rfl⟩) ?_;refine zaV (.int .i64 (zbS A B)) (λJ=>zCB A B (by omega) (by omega) _ _ ⟨rfl,rfl⟩) ?_;rcases h1 with rfl|rfl
  ·obtain⟨rfl,rfl⟩:=h2 rfl;simp[zbS];exact hO 0 _ (by simp[zbS])
  ·have hc:zbS A B=-1∨zbS A B=0∨zbS A B=1:=by
    unfold zbS;split
    ·exact .inl rfl
    ·split
     ·exact .inr (.inr rfl)
     ·exact .inr (.inl rfl)
   simp;refine hO _ _ ?_;rcases hc with h|h|h <;> rw[h] <;> rfl
 simp only[zeC];by_cases h1:A=0
 ·by_cases h2:B=0
  ·simp[h1,h2];have:=fin 0 (.inl rfl) (λ_=>⟨h1,h2⟩);simp[h1,h2]at this;exact this _
  ·simp[h1,h2];refine hO _ _ ?_;unfold zbS;rw[if_pos (by omega)]
 ·by_cases h2:B=0
  ·simp[h1,h2];refine hO _ _ ?_;unfold zbS;rw[if_neg (by omega),if_pos (by omega)]
  ·simp[h1,h2];exact fin 1 (.inr rfl) (λh=>by cases h) _
end Go.Proofs.YtaifokkaaahdoaaGreatDoor
