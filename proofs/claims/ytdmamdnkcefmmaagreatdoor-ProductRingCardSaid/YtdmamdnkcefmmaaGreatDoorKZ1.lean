import Derived.Test.YtdmamdnkcefmmaaGreatDoorKQD
import Derived.Shelf.Spec.SlicesGrow
import Derived.Test.YtdmamdnkcefmmaaGreatDoorProg
import Derived.Test.YtdmamdnkcefmmaaGreatDoorKNum
import Derived.KernelRfl
import Derived.Test.YtdmamdnkcefmmaaGreatDoorKMG
import Derived.Test.YtdmamdnkcefmmaaGreatDoorKV5
set_option linter.unusedSimpArgs false
set_option linter.unusedVariables false
set_option maxRecDepth 100000
namespace Go.Proofs.YtdmamdnkcefmmaaGreatDoor
theorem zkj{dU:List Dat}:∀ (vs:List IT) (ts:List VT) (a:Int),0≤a→vs.length=ts.length→0≤rdA dU vs ts a→∀ k,k<ts.length→0≤rdV dU (vs.getD k d0) (ts.getD k tz)∧a+rdV dU (vs.getD k d0) (ts.getD k tz)≤rdA dU vs ts a
 |[],[],_,_,_,_,k,hk=>by simp at hk
 |[],_::_,_,_,hl,_,_,_=>by simp at hl
 |_::_,[],_,_,hl,_,_,_=>by simp at hl
 |v::vs,t::ts,a,h,hl,hd,k,hk=>by
  rw[zqw]at hd ⊢;split at hd
  ·omega
  ·rename_i hc;rw[ap hc];have hg:=zkk vs ts (a+rdV dU v t) (by omega) hd;cases k with
   |zero=>simp;omega
   |succ k=>have:=zkj vs ts (a+rdV dU v t) (by omega) (by simpa using hl) hd k (by simpa using hk);simp only[List.getD_cons_succ];omega
def zoh(dU:List Dat)(f:Nat):Prop:=∀(t:VT) (i j k:IT),i.nodes+j.nodes+k.nodes≤f→0≤rdV dU i t→0≤rdV dU j t→0≤rdV dU k t→rdV dU i t+rdV dU j t+rdV dU k t≤6→∀g:IT→Nat,zah (λu=>zah g (zaA dU f t u k)) (zaA dU f t i j)=zah (λu=>zah g (zaA dU f t i u)) (zaA dU f t j k)
def ziR(dU:List Dat)(f:Nat):Prop:=∀(ts:List VT) (l m n:List IT),IT.nodesL l+IT.nodesL m+IT.nodesL n+1≤f→l.length=ts.length→m.length=ts.length→n.length=ts.length→0≤rdA dU l ts 0→0≤rdA dU m ts 0→0≤rdA dU n ts 0→rdA dU l ts 0+rdA dU m ts 0+rdA dU n ts 0≤6→∀g:List IT→Nat,zah (λu=>zah g (zbp dU f ts u n)) (zbp dU f ts l m)=zah (λu=>zah g (zbp dU f ts l u)) (zbp dU f ts m n)
def ziQ(dU:List Dat)(f:Nat):Prop:=∀(t:VT) (l m n:List IT),IT.nodesL l+IT.nodesL m+IT.nodesL n+1≤f→0≤rdE dU l t 0→0≤rdE dU m t 0→0≤rdE dU n t 0→rdE dU l t 0+rdE dU m t 0+rdE dU n t 0≤6→∀g:List IT→Nat,zah (λu=>zah g (zaE dU f t u n)) (zaE dU f t l m)=zah (λu=>zah g (zaE dU f t l u)) (zaE dU f t m n)
theorem zGy{dU:List Dat}{f:Nat}{t:VT}(h:t.kind=6)(i j:IT):zaA dU (f+1) t i j=(zbp dU f t.kids (zaF i) (zaF j)).map λr=>(.mk 0 r.1,r.2):=by rw[zaA,aA h]
theorem zGz{dU:List Dat}{f:Nat}{t:VT}(h:t.kind=7)(i j:IT):zaA dU (f+1) t i j=(za4 (zaI i).toNat (zaI j).toNat).filter λp=>p.2 != 0:=by rw[zaA,ap (by omega),aA h]
theorem zGx{dU:List Dat}{f:Nat}{t:VT}(h:t.kind=5)(i j:IT):zaA dU (f+1) t i j=(zaE dU f t (zaF i) (zaF j)).map λr=>(.mk 0 r.1,r.2):=by rw[zaA,ap (by omega),ap (by omega),aA h]
theorem zGw{dU:List Dat}{f:Nat}{t:VT}(h:t.kind≠6)(h7:t.kind≠7)(h5:t.kind≠5)(i j:IT):zaA dU (f+1) t i j=[(.mk 0 [],1)]:=by rw[zaA,ap h,ap h7,ap h5]
theorem zj7(a:IT)(l:List IT):IT.nodesL (a::l)=a.nodes+IT.nodesL l:=rfl
theorem zEN{dU:List Dat}(h8:∀D∈dU,D.cons.length≤8){f:Nat}(hQ:ziR dU f)(hM:ziQ dU f):ziQ dU (f+1):=by
 intro t l m n h hl hm hn h6 g;cases l with
 |nil=>rw[zpk];simp only[zfJ,zpk]
 |cons a l=>
  cases m with
  |nil=>rw[zw6,zpk,zfJ,zfJ]
  |cons b m=>
   cases n with
   |nil=>simp only[zw6,zfJ]
   |cons c n=>
    obtain⟨a1,l1,e1⟩:=zdP h8 t a l hl;obtain⟨b1,m1,e2⟩:=zdP h8 t b m hm;obtain⟨c1,n1,e3⟩:=zdP h8 t c n hn;simp only[zj7]at h;have pa:=a.nodes_pos;have pb:=b.nodes_pos;have pc:=c.nodes_pos;have o1:=zj7 a l;have o2:=zj7 b m;have o3:=zj7 c n;refine zES (num:=zaI) (kids:=zaF) (mk:=.mk) (λ_ _=>rfl) (λ_ _=>rfl) (M:=zaE dU f t) (R:=λk=>zbp dU f ((zbb dU t k).getD [])) (λg a b l m=>zpj g a b l m)
     (zo0 h8 hl hm (by omega) (by omega)) (zo0 h8 hm hn (by omega) (by omega))
     (hM t l (b::m) (c::n) (by omega) l1 hm hn (by omega)) (hM t (a::l) m (c::n) (by omega) hl m1 hn (by omega)) (hM t (a::l) (b::m) n (by omega) hl hm n1 (by omega))
     (hM t l m (c::n) (by omega) l1 m1 hn (by omega)) (hM t l (b::m) n (by omega) l1 hm n1 (by omega)) (hM t (a::l) m n (by omega) hl m1 n1 (by omega)) (hM t l m n (by omega) l1 m1 n1 (by omega)) ?_ g
    intro x1 x2 G;obtain⟨na,ka⟩:=a;obtain⟨nb,kb⟩:=b;obtain⟨nc,kc⟩:=c;simp only[zaI]at x1 x2;subst x1 x2;obtain⟨_,_,ps,hp,ha,ra,ea⟩:=zdy a1;obtain⟨_,_,ps2,kK,hb,rb,eb⟩:=zdy b1;obtain⟨_,_,ps3,nA,hc,rc,ec⟩:=zdy c1;rw[hp]at kK nA;cases kK;cases nA;simp only[zaI,zaF,hp,Option.getD_some];simp only[IT.nodes]at h pa pb pc;exact hQ ps ka kb kc (by omega) ha.symm hb.symm hc.symm ra rb rc (by omega) G
theorem zEO{dU:List Dat}{f:Nat}(hT:zoh dU f):ziR dU (f+1):=by
 intro ts l m n h hl hm hn il im n1 h6 g;simp only[zdz];refine zye ts.length (λq hq g=>?_) g;have h1:q<l.length:=by omega
 have h2:q<m.length:=by omega
 have h3:q<n.length:=by omega
 have n1:=zck h1;have n2:=zck h2;have n3:=zck h3;have e1:l.getD q d0=l[q]:=by simp[List.getD_eq_getElem?_getD,h1]
 have e2:m.getD q d0=m[q]:=by simp[List.getD_eq_getElem?_getD,h2]
 have e3:n.getD q d0=n[q]:=by simp[List.getD_eq_getElem?_getD,h3]
 have k1:=zkj l ts 0 (by omega) hl il q hq;have k2:=zkj m ts 0 (by omega) hm im q hq;have k3:=zkj n ts 0 (by omega) hn (by assumption) q hq;exact hT _ _ _ _ (by rw[e1,e2,e3];omega) k1.1 k2.1 k3.1 (by omega) g
theorem zEP{dU:List Dat}{f:Nat}(hQ:ziR dU f)(hM:ziQ dU f):zoh dU (f+1):=by
 rintro⟨kd,tn,tks⟩ ⟨ni,l⟩ ⟨nj,m⟩ ⟨nk,n⟩ h hi hj hk hs g;simp only[IT.nodes]at h;by_cases h6:kd=6
 ·subst h6;rw[zdi]at hi hj hk;simp only[aV]at hi hj hk;rw[zdi,zdi,zdi]at hs;simp only[aV]at hs;by_cases zi:ni=0;case neg=>rw[ap zi]at hi;omega
  by_cases zj:nj=0;case neg=>rw[ap zj]at hj;omega
  by_cases zk:nk=0;case neg=>rw[ap zk]at hk;omega
  rw[aA zi]at hi hs;rw[aA zj]at hj hs;rw[aA zk]at hk hs;by_cases yi:tks.length=l.length;case neg=>rw[ap yi]at hi;omega
  by_cases yj:tks.length=m.length;case neg=>rw[ap yj]at hj;omega
  by_cases yk:tks.length=n.length;case neg=>rw[ap yk]at hk;omega
  rw[aA yi]at hi hs;rw[aA yj]at hj hs;rw[aA yk]at hk hs;simp only[zGy (show (VT.mk 6 tn tks).kind=6 from rfl),zb9 (λx=>_) (λr=>IT.mk 0 r),zb9 g (λr=>IT.mk 0 r),zaF];exact hQ tks l m n (by omega) yi.symm yj.symm yk.symm hi hj hk hs _
 ·by_cases h7:kd=7
  ·subst h7;rw[zdi]at hi hj hk;simp only[ap (show ¬ (7:Int)=6 by omega),aV]at hi hj hk;rw[zdi,zdi,zdi]at hs;simp only[ap (show ¬ (7:Int)=6 by omega),aV]at hs;split at hi;case isFalse=>omega
   split at hj;case isFalse=>omega
   split at hk;case isFalse=>omega
   rename_i x1 x2 x3;rw[aA x1,aA x2,aA x3]at hs;simp only[zGz (show (VT.mk 7 tn tks).kind=7 from rfl),zil,zaI];exact zEL (by omega) g
  ·by_cases h5:kd=5
   ·subst h5;rw[zey]at hi hj hk;rw[zey,zey,zey]at hs;split at hi;case isFalse=>omega
    split at hj;case isFalse=>omega
    split at hk;case isFalse=>omega
    rename_i x1 x2 x3;rw[aA x1,aA x2,aA x3]at hs;simp only[zGx (show (VT.mk 5 tn tks).kind=5 from rfl),zb9 (λx=>_) (λr=>IT.mk 0 r),zb9 g (λr=>IT.mk 0 r),zaF];exact hM (.mk 5 tn tks) l m n (by omega) hi hj hk hs _
   ·simp only[zGw (t:=.mk kd tn tks) (f:=f) h6 h7 h5,zfJ]
theorem zvL{dU:List Dat}(h8:∀ D∈dU,D.cons.length≤8):∀ f,zoh dU f∧ziR dU f∧ziQ dU f
 |0=>⟨λt i j k h=>by have:=i.nodes_pos;omega,λts l m n h=>by omega,λt l m n h=>by omega⟩
 |f+1=>by obtain⟨hT,hQ,hM⟩:=zvL h8 f;exact⟨zEP hQ hM,zEO hT,zEN h8 hQ hM⟩
section
open Go.Shelf
def zJL:Go.Shelf.Ren:=⟨λ| 4=>176|n=>n,λ| 22=>26|25=>28|n=>n,λ| n=>n⟩
theorem zJK:Go.Proofs.Lays8.n4 tP zJL:={
 mixed:=by kernel_rfl
 f4:=⟨Tryz.f176.name,by decide,Tryz.func176.trans (congrArg some (by kernel_rfl))⟩
 t0:=Tryz.underlying0
 a0:=Tryz.isAgg0
 z0:=Tryz.sizeOf0
 v0:=Tryz.zeroValue0
 t3:=Tryz.underlying3
 a3:=Tryz.isAgg3
 z3:=Tryz.sizeOf3
 v3:=Tryz.zeroValue3
 t4:=Tryz.underlying4
 a4:=Tryz.isAgg4
 z4:=Tryz.sizeOf4
 v4:=Tryz.zeroValue4
 t9:=Tryz.underlying9
 a9:=Tryz.isAgg9
 z9:=Tryz.sizeOf9
 v9:=Tryz.zeroValue9
 t20:=Tryz.underlying20
 a20:=Tryz.isAgg20
 z20:=Tryz.sizeOf20
 v20:=Tryz.zeroValue20
 t22:=Tryz.underlying26
 a22:=Tryz.isAgg26
 z22:=Tryz.sizeOf26
 v22:=Tryz.zeroValue26 }
def zJP:Go.Shelf.Ren:=⟨λ| 4=>141|n=>n,λ| 22=>31|25=>55|n=>n,λ| n=>n⟩
theorem zJO:Go.Proofs.Lays8.n4 tP zJP:={
 mixed:=by kernel_rfl
 f4:=⟨Tryz.f141.name,by decide,Tryz.func141.trans (congrArg some (by kernel_rfl))⟩
 t0:=Tryz.underlying0
 a0:=Tryz.isAgg0
 z0:=Tryz.sizeOf0
 v0:=Tryz.zeroValue0
 t3:=Tryz.underlying3
 a3:=Tryz.isAgg3
 z3:=Tryz.sizeOf3
 v3:=Tryz.zeroValue3
 t4:=Tryz.underlying4
 a4:=Tryz.isAgg4
 z4:=Tryz.sizeOf4
 v4:=Tryz.zeroValue4
 t9:=Tryz.underlying9
 a9:=Tryz.isAgg9
 z9:=Tryz.sizeOf9
 v9:=Tryz.zeroValue9
 t20:=Tryz.underlying20
 a20:=Tryz.isAgg20
 z20:=Tryz.sizeOf20
 v20:=Tryz.zeroValue20
 t22:=Tryz.underlying31
 a22:=Tryz.isAgg31
 z22:=Tryz.sizeOf31
 v22:=Tryz.zeroValue31 }
end
section
variable (t0 t3 t6 t9 t10 t11 t25 t26 t27:AV) (H:zaa) (K:Kt) (Kb3 Kb11:Lt)
def zfM:Nat→List Bool|3=>rl false [0,1,2,1,5,3,24]|11=>rl false [6,1,18,3,8]|_=>[]
noncomputable def ziu:=Tryz.f134.body.getD .skip
noncomputable def zAo:=Tryz.f134.results.toList
def zlp:=t0::ux 2 (t3::ux 5 (t9::t10::t11::ux 24 []))
def zL4:=zfM 3
noncomputable def zL0:=zas [1,1,0,1,0,0] ziu
def zLY:=zat tP zfM [1,1,0,1,0] ziu (zaB tP zAo K)
def zAn:=ALoop tP zL0 (zLY K) (zlp t0 t3 t9 t10 t11) H
def zAl(t0 t3 t9 t10 t11:AV)(H:zaa)(K:Kt)(Kb3:Lt):Prop:=zad .add false t11 (.int .i64 1) λt22=>Kb3 (zlp t0 t3 t9 t10 t22) H
def zAk:=zAl t0 t3 t9 t10 t11 H K Kb3
def zlo:=ux 6 (t6::ux 18 (t25::t26::t27::ux 8 []))
def zL3:=zfM 11
noncomputable def zLZ:=zas [1,1,1,1,0,1,0,0] ziu
def zLX:=zat tP zfM [1,1,1,1,0,1,0] ziu (zaB tP zAo K)
def zAm:=ALoop tP zLZ (zLX K) (zlo t6 t25 t26 t27) H
def zrY:=zad .lss false t27 t26 λt28=>zag t28 (zaj 1 t25 t27 λt29=>zae false 1 t29 H λt30=>zax zba 2 32 t6 t30 H λt33 H=>zad .add false t27 (.int .i64 1) λt34=>Kb11 (zlo t33 t25 t26 t34) H) (K t6 H)
def zrZ:=zad .lss false t11 t10 λt12=>zag t12 (zaj 1 t9 t11 λt13=>zae false 1 t13 H λt14=>zai 1 t14 λt17=>zad .add false t3 t17 λt18=>zad .lss false t18 (.int .i64 0) λt20=>zag t20 (False) (zAk t0 t18 t9 t10 t11 H K Kb3)) (ACalls tP zxg [.snil,t3] H λt24 H=>zai 1 t0 λt26=>zAm t24 t0 t26 (.int .i64 0) H K)
def zAj:=zai 1 t0 λt10=>zAn t0 (.int .i64 0) t0 t10 (.int .i64 0) H K
def zf1:Nat→List Bool|3=>rl false [0,1,2,1,5,3,24]|11=>rl false [6,1,18,3,8]|_=>[]
noncomputable def ziO:=Tryz.f87.body.getD .skip
noncomputable def zDL:=Tryz.f87.results.toList
def zn3:=t0::ux 2 (t3::ux 5 (t9::t10::t11::ux 24 []))
def zVP:=zf1 3
noncomputable def zVL:=zas [1,1,0,1,0,0] ziO
def zVJ:=zat tP zf1 [1,1,0,1,0] ziO (zaB tP zDL K)
def zDK:=ALoop tP zVL (zVJ K) (zn3 t0 t3 t9 t10 t11) H
def zDI(t0 t3 t9 t10 t11:AV)(H:zaa)(K:Kt)(Kb3:Lt):Prop:=zad .add false t11 (.int .i64 1) λt22=>Kb3 (zn3 t0 t3 t9 t10 t22) H
def zDH:=zDI t0 t3 t9 t10 t11 H K Kb3
def zn2:=ux 6 (t6::ux 18 (t25::t26::t27::ux 8 []))
def zVO:=zf1 11
noncomputable def zVK:=zas [1,1,1,1,0,1,0,0] ziO
def zVI:=zat tP zf1 [1,1,1,1,0,1,0] ziO (zaB tP zDL K)
def zDJ:=ALoop tP zVK (zVI K) (zn2 t6 t25 t26 t27) H
def zuK:=zad .lss false t27 t26 λt28=>zag t28 (zaj 1 t25 t27 λt29=>zae false 1 t29 H λt30=>zax zaC 5 88 t6 t30 H λt33 H=>zad .add false t27 (.int .i64 1) λt34=>Kb11 (zn2 t33 t25 t26 t34) H) (K t6 H)
def zuL:=zad .lss false t11 t10 λt12=>zag t12 (zaj 1 t9 t11 λt13=>zae false 1 t13 H λt14=>zai 1 t14 λt17=>zad .add false t3 t17 λt18=>zad .lss false t18 (.int .i64 0) λt20=>zag t20 (False) (zDH t0 t18 t9 t10 t11 H K Kb3)) (ACalls tP zxc [.snil,t3] H λt24 H=>zai 1 t0 λt26=>zDJ t24 t0 t26 (.int .i64 0) H K)
def zDG:=zai 1 t0 λt10=>zDK t0 (.int .i64 0) t0 t10 (.int .i64 0) H K
variable {t0 t3 t6 t9 t10 t11 t25 t26 t27} {H} {K} {Kb3 Kb11}
theorem zL1:Lo2 (λt6 t27=>zlo t6 t25 t26 t27) (λt6 t27 H Kb11=>zrY t6 t25 t26 t27 H K Kb11) t6 t27 H (zAm t6 t25 t26 t27 H K):=lq2 zfM zL3
theorem zL2:Lo2 (λt3 t11=>zlp t0 t3 t9 t10 t11) (λt3 t11 H Kb3=>zrZ t0 t3 t9 t10 t11 H K Kb3) t3 t11 H (zAn t0 t3 t9 t10 t11 H K):=lq2 zfM zL4
theorem zL5(h:HSc H→zAj t0 H K):ACalls tP zpB [t0] H K:=
 acb zfM Tryz.func134 ziu h
theorem zVM:Lo2 (λt6 t27=>zn2 t6 t25 t26 t27) (λt6 t27 H Kb11=>zuK t6 t25 t26 t27 H K Kb11) t6 t27 H (zDJ t6 t25 t26 t27 H K):=lq2 zf1 zVO
theorem zVN:Lo2 (λt3 t11=>zn3 t0 t3 t9 t10 t11) (λt3 t11 H Kb3=>zuL t0 t3 t9 t10 t11 H K Kb3) t3 t11 H (zDK t0 t3 t9 t10 t11 H K):=lq2 zf1 zVP
theorem zVQ(h:HSc H→zDG t0 H K):ACalls tP zqh [t0] H K:=
 acb zf1 Tryz.func87 ziO h
end
section
variable (t0 t1 t2 t3 t4 t5 t6 t7 t8 t9 t10 t11 t12 t15 t16 t17 t18 t19 t20 t23 t24 t25 t57 t58 t59:AV) (H:zaa) (K:Kt) (Kb1 Kb3 Kb4 Kb5 Kb14:Lt)
def zSV(_:Nat):List Bool:=[]
noncomputable def zSW:=Tryz.f41.body.getD .skip
def zCM:=zaw t1 H λt3 H=>zae true 3 t3 H λt6=>zdY H λt7 H=>zar [.snil,(.int .i64 0),(.int .i64 0),.snil,.unk,.snil] [(0,1),(1,3),(4,1),(5,1)] [(0,t0),(1,t6),(2,t7)] λt8=>zaw t8 H λt9 H=>K t9 H
def zng:Nat→List Bool|1=>rl false [0,1,8,3,55]|400007=>rl false [0,1]|_=>[]
noncomputable def zt0:=Tryz.f42.body.getD .skip
noncomputable def zS3:=Tryz.f42.results.toList
def ziG:=t0::ux 8 (t9::t10::t11::ux 55 [])
def zS1:=zng 1
noncomputable def zSZ:=zas [1,0,0] zt0
def zSY:=zat tP zng [1,0] zt0 (zaB tP zS3 K)
def zCO:=ALoop tP zSZ (zSY K) (ziG t0 t9 t10 t11) H
def zt1(t0 t9 t10 t11:AV)(H:zaa)(K:Kt)(Kb1:Lt):Prop:=zad .add false t11 (.int .i64 1) λt66=>Kb1 (ziG t0 t9 t10 t66) H
def znh:=zt1 t0 t9 t10 t11 H K Kb1
def ztZ:=zad .lss false t11 t10 λt12=>zag t12 (zaj 5 t9 t11 λt13=>zae true 5 t13 H λt14=>zaz [(.int .i64 0),.snil,(.bool false),.snil,.snil] H λt5 H=>zao 5 t5 t14 H λH=>zot 112 [.nilp,.snil] H λt6 H=>zaf 0 t5 λt15=>zae true 2 t15 H λt16=>ACalls tP zjX [t6,t16] H λt17 H=>apm H t0 λt19=>apu H (zbe t19) λt20=>apu H (zaf 4 t20) λt21=>apu H (zal false 1 t21 H) λt22=>zaJ H (λH K'=>ACalls tP zh1 [t6] H K') λt23=>apu H (zdI (.int .i64 0) true t22 t23 H) λt24=>apm H t24 λt18=>apu H (zay t18 0) λt25=>apu H (zay t18 1) λt26=>apm H t25 λt7=>apm H t26 λt8=>zag t8 (apm H t0 λt28=>apu H (zbe t28) λt29=>apu H (zaf 5 t29) λt30=>apu H (zae false 1 t30 H) λt31=>apm H t7 λt32=>apm H t0 λt33=>apu H (zbe t33) λt34=>apu H (zaf 5 t34) λt35=>apu H (zae false 1 t35 H) λt36=>apm H t7 λt37=>apu H (zaj 5 t36 t37) λt38=>apu H (zaf 2 t38) λt39=>apu H (zae true 3 t39 H) λt40=>apu H (zaf 2 t5) λt41=>apu H (zae true 3 t41 H) λt42=>zaJ H (λH K'=>ACalls tP zqd [t40,t42] H K') λt43=>apu H (zaj 5 t31 t32) λt44=>apu H (zaf 2 t44) λt45=>zao 3 t45 t43 H λH=>znh t0 t9 t10 t11 H K Kb1) (apm H t0 λt46=>apu H (zbe t46) λt47=>apu H (zaf 4 t47) λt48=>apu H (zal false 1 t48 H) λt49=>zaJ H (λH K'=>ACalls tP zh1 [t6] H K') λt50=>apm H t0 λt51=>apu H (zbe t51) λt52=>apu H (zaf 5 t52) λt53=>apu H (zal false 1 t53 H) λt54=>apu H (zai 1 t54) λt55=>zcT t49 t50 t55 H λH=>apm H t0 λt56=>apm H t0 λt57=>apu H (zbe t57) λt58=>apu H (zaf 5 t58) λt59=>apu H (zal false 1 t59 H) λt60=>apu H (zal true 5 t5 H) λt61=>apu H (zau 5 [(.int .i64 0),.snil,(.bool false),.snil,.snil] 1 [(0,t61)]) λt62=>zax zaC 5 88 t60 t62 H λt63 H=>apu H (zbe t56) λt64=>apu H (zaf 5 t64) λt65=>zao 1 t65 t63 H λH=>znh t0 t9 t10 t11 H K Kb1)) (zaG [] (K · H))
def zCN:=zai 1 t1 λt10=>zCO t0 t1 t10 (.int .i64 0) H K
def zfZ:Nat→List Bool|4=>rl false [0,1,3,2,9,3,50]|14=>rl false [4,1,52,3,8]|_=>[]
noncomputable def ziJ:=Tryz.f44.body.getD .skip
noncomputable def zCS:=Tryz.f44.results.toList
def znr:=t0::ux 3 (t4::t5::ux 9 (t15::t16::t17::ux 50 []))
def zTo:=zfZ 4
noncomputable def zTk:=zas [1,1,1,0,1,0,0] ziJ
def zTi:=zat tP zfZ [1,1,1,0,1,0] ziJ (zaB tP zCS K)
def zns:=ALoop tP zTk (zTi K) (znr t0 t4 t5 t15 t16 t17) H
def zCQ(t0 t4 t5 t15 t16 t17:AV)(H:zaa)(K:Kt)(Kb4:Lt):Prop:=zad .add false t17 (.int .i64 1) λt54=>Kb4 (znr t0 t4 t5 t15 t16 t54) H
def zt8:=zCQ t0 t4 t5 t15 t16 t17 H K Kb4
def znq:=ux 4 (t4::ux 52 (t57::t58::t59::ux 8 []))
def zTn:=zfZ 14
noncomputable def zTj:=zas [1,1,1,1,1,0,1,0,0] ziJ
def zTh:=zat tP zfZ [1,1,1,1,1,0,1,0] ziJ (zaB tP zCS K)
def zCR:=ALoop tP zTj (zTh K) (znq t4 t57 t58 t59) H
def zt7:=zad .lss false t59 t58 λt60=>zag t60 (zaj 1 t57 t59 λt61=>zae false 1 t61 H λt62=>ACalls tP zxj [t62,(.fn zj1 [])] H λt64 H=>zad .add false t59 (.int .i64 1) λt65=>Kb14 (znq t4 t57 t58 t65) H) (ACalls tP zqh [t4] H λt67 H=>zaG [t67,(.int .i64 0)] (K · H))
def znp:=zad .lss false t17 t16 λt18=>zag t18 (zaj 5 t15 t17 λt19=>zae true 5 t19 H λt20=>zaz [(.int .i64 0),.snil,(.bool false),.snil,.snil] H λt7 H=>zao 5 t7 t20 H λH=>zaf 2 t7 λt21=>zae true 3 t21 H λt22=>ACalls tP zjZ [t22] H λt23 H=>zad .neq false t23 (.int .i64 0) λt24=>zag t24 (apm H t0 λt25=>apu H (zbe t25) λt26=>apu H (zaf 0 t26) λt27=>apu H (zal false 1 t27 H) λt28=>apm H t0 λt29=>apu H (zbe t29) λt30=>apu H (zaf 1 t30) λt31=>apu H (zal true 3 t31 H) λt32=>apu H (zaf 0 t7) λt33=>apu H (zal true 2 t33 H) λt34=>zaJ H (λH K'=>ACalls tP ze1 [t28,t32,t34] H K') λt35=>apm H t35 λt8=>apm H t4 λt36=>apm H t8 λt37=>apm H t4 λt38=>apm H t8 λt39=>apu H (zaj 1 t38 t39) λt40=>apu H (zal false 1 t40 H) λt41=>apu H (zaf 0 t7) λt42=>apu H (zal true 2 t42 H) λt43=>zaJ H (λH K'=>ACalls tP zj0 [t43] H K') λt44=>apu H (zaf 2 t7) λt45=>apu H (zal true 3 t45 H) λt46=>zaJ H (λH K'=>ACalls tP zqg [t46] H K') λt47=>apu H (zar [(.int .i64 0),.snil,(.bool false),.snil,.snil] [(0,2),(2,3)] [(0,t44),(1,t47)]) λt48=>apu H (zau 5 [(.int .i64 0),.snil,(.bool false),.snil,.snil] 1 [(0,t48)]) λt49=>zax zaC 5 88 t41 t49 H λt50 H=>apu H (zaj 1 t36 t37) λt51=>zao 1 t51 t50 H λH=>zad .add false t5 (.int .i64 1) λt53=>zt8 t0 t4 t53 t15 t16 t17 H K Kb4) (zt8 t0 t4 t5 t15 t16 t17 H K Kb4)) (zad .gtr false t5 (.int .i64 1000) λt56=>zag t56 (zaG [.snil,(.int .i64 9)] (K · H)) (zai 1 t4 λt58=>zCR t4 t4 t58 (.int .i64 0) H K))
def zCP:=zbu 24 [.snil] (.int .i64 7) (.int .i64 7) H λt11 H=>zbe t0 λt13=>zaf 5 t13 λt14=>zae false 1 t14 H λt15=>zai 1 t15 λt16=>zns t0 t11 (.int .i64 0) t15 t16 (.int .i64 0) H K
def znR:Nat→List Bool|5=>rl false [0,1,17,3,11]|_=>[]
noncomputable def zuz:=Tryz.f75.body.getD .skip
noncomputable def zUX:=Tryz.f75.results.toList
def znS:=t0::ux 17 (t18::t19::t20::ux 11 [])
def zUV:=znR 5
noncomputable def zUT:=zas [1,1,1,0,1,0,1,0,0] zuz
def zUS:=zat tP znR [1,1,1,0,1,0,1,0] zuz (zaB tP zUX K)
def zDp:=ALoop tP zUT (zUS K) (znS t0 t18 t19 t20) H
def zuy:=zad .lss false t20 t19 λt21=>zag t21 (zaj 2 t18 t20 λt22=>zae true 2 t22 H λt23=>zaz [(.int .i64 0),.snil] H λt5 H=>zao 2 t5 t23 H λH=>zae true 2 t5 H λt25=>ACalls tP zjX [t0,t25] H λt26 H=>ACalls tP zgl [t0,(.int .u8 44)] H λt28 H=>zad .add false t20 (.int .i64 1) λt29=>Kb5 (znS t0 t18 t19 t29) H) (ACalls tP zgl [t0,(.int .u8 41)] H λt31 H=>zaG [] (K · H))
def zDo:=zaw t1 H λt3 H=>zaf 0 t3 λt7=>zae false 1 t7 H λt8=>ACalls tP zpw [t8] H λt9 H=>ACalls tP zjp [t0,t9] H λt10 H=>zaf 1 t3 λt11=>zae false 1 t11 H λt12=>zai 1 t12 λt13=>zad .gtr false t13 (.int .i64 0) λt14=>zag t14 (ACalls tP zgl [t0,(.int .u8 40)] H λt16 H=>zaf 1 t3 λt17=>zae false 1 t17 H λt18=>zai 1 t18 λt19=>zDp t0 t18 t19 (.int .i64 0) H K) (zaG [] (K · H))
def znZ:Nat→List Bool|3=>rl false [2,2,6,3,12]|_=>[]
noncomputable def zuJ:=Tryz.f82.body.getD .skip
noncomputable def zVw:=Tryz.f82.results.toList
def zn0:=ux 2 (t2::t3::ux 6 (t10::t11::t12::ux 12 []))
def zVu:=znZ 3
noncomputable def zVs:=zas [1,1,0,1,0,0] zuJ
def zVr:=zat tP znZ [1,1,0,1,0] zuJ (zaB tP zVw K)
def zn1:=ALoop tP zVs (zVr K) (zn0 t2 t3 t10 t11 t12) H
def zuI:=zad .lss false t12 t11 λt13=>zag t13 (zaj 2 t10 t12 λt14=>zae true 2 t14 H λt15=>zaz [(.int .i64 0),.snil] H λt5 H=>zao 2 t5 t15 H λH=>apu H (zaf 1 t3) λt16=>apu H (zal false 1 t16 H) λt17=>apu H (zal true 2 t5 H) λt18=>zaJ H (λH K'=>ACalls tP zj0 [t18] H K') λt19=>apu H (zau 2 [(.int .i64 0),.snil] 1 [(0,t19)]) λt20=>zax zba 2 32 t17 t20 H λt21 H=>apu H (zaf 1 t3) λt22=>zao 1 t22 t21 H λH=>zad .add false t12 (.int .i64 1) λt23=>Kb3 (zn0 t2 t3 t10 t11 t23) H) (zae true 2 t3 H λt24=>zao 2 t2 t24 H λH=>zae true 2 t2 H λr0=>K r0 H)
def zDC:=zaw t0 H λt1 H=>zaz [(.int .i64 0),.snil] H λt2 H=>zaf 0 t1 λt6=>zae false 1 t6 H λt7=>zar [(.int .i64 0),.snil] [(0,1),(1,1)] [(0,t7)] λt8=>zaz [(.int .i64 0),.snil] H λt3 H=>zao 2 t3 t8 H λH=>zaf 1 t1 λt9=>zae false 1 t9 H λt10=>zai 1 t10 λt11=>zn1 t2 t3 t10 t11 (.int .i64 0) H K
def zVy(_:Nat):List Bool:=[]
noncomputable def zVz:=Tryz.f83.body.getD .skip
def zDD:=zaw t0 H λt1 H=>zaz [(.bool false),.snil,.snil] H λt2 H=>zae true 3 t1 H λt3=>ACalls tP zes [t3] H λt4 H=>ACalls tP ze0 [t4] H λt5 H=>zao 3 t2 t5 H λH=>zae true 3 t2 H λr0=>K r0 H
def zVC(_:Nat):List Bool:=[]
noncomputable def zVD:=Tryz.f85.body.getD .skip
def zDE:=zaw t0 H λt2 H=>zaw t1 H λt3 H=>zaf 0 t2 λt5=>zae true 2 t5 H λt6=>zaf 0 t3 λt7=>zae true 2 t7 H λt8=>ACalls tP zgt [t6,t8] H λt9 H=>K t9 H
def zVb(_:Nat):List Bool:=[]
noncomputable def zVc:=Tryz.f79.body.getD .skip
def zDy:=zad .lss false t0 (.int .i64 0) λt7=>zac t7 false H (λK'=>K' t0 H) λt9 H=>zac t7 false H (λK'=>zad .gtr false t9 (.int .i64 16) (K' · H)) λt10 H=>zak t7 (.bool true) t10 λt11=>zac t11 false H (λK'=>K' t1 H) λt13 H=>zac t11 false H (λK'=>zad .lss false t13 (.int .i64 0) (K' · H)) λt14 H=>zak t11 (.bool true) t14 λt15=>zac t15 false H (λK'=>K' t1 H) λt17 H=>zac t15 false H (λK'=>zad .gtr false t17 (.int .i64 16) (K' · H)) λt18 H=>zak t15 (.bool true) t18 λt19=>zag t19 (zaG [.snil,(.bool false)] (K · H)) (ACalls tP zpz [t0,t1] H λt22 H=>zaG [t22,(.bool true)] (K · H))
def zli:Nat→List Bool|3=>rl false [0,2,3,2,28]|_=>[]
noncomputable def zrR:=Tryz.f131.body.getD .skip
noncomputable def zLG:=Tryz.f131.results.toList
def zlj:=t0::t1::ux 3 (t5::t6::ux 28 [])
def zLE:=zli 3
noncomputable def zLC:=zas [1,1,0,1,0,0] zrR
def zLB:=zat tP zli [1,1,0,1,0] zrR (zaB tP zLG K)
def zAe:=ALoop tP zLC (zLB K) (zlj t0 t1 t5 t6) H
def zrQ:=zad .add false t0 t1 λt18=>zad .leq false t6 t18 λt19=>zag t19 (ACalls tP zjz [t6,t0] H λt26 H=>zad .sub false t6 t1 λt30=>ACalls tP zjz [t0,t30] H λt31 H=>ACalls tP zet [t26,t31] H λt32 H=>zaj 3 t5 t6 λt33=>zao 3 t33 t32 H λH=>zad .add false t6 (.int .i64 1) λt21=>Kb3 (zlj t0 t1 t5 t21) H) (K t5 H)
def zAd:=zad .add false t0 t1 λt9=>zad .add false t9 (.int .i64 1) λt10=>ACalls tP zpQ [t10] H λt11 H=>zf5 t0 t1 λt14=>zAe t0 t1 t11 t14 H K
def zmo:Nat→List Bool|3=>rl false [3,1,4,2,8]|_=>[]
noncomputable def zsV:=Tryz.f174.body.getD .skip
noncomputable def zPd:=Tryz.f174.results.toList
def zmp:=ux 3 (t3::ux 4 (t8::t9::ux 8 []))
def zPb:=zmo 3
noncomputable def zO9:=zas [1,1,0,1,0,0] zsV
def zO8:=zat tP zmo [1,1,0,1,0] zsV (zaB tP zPd K)
def zBy:=ALoop tP zO9 (zO8 K) (zmp t3 t8 t9) H
def zsU:=zad .lss false t9 t8 λt10=>zag t10 (ACalls tP zdv [(.int .i64 0)] H λt14 H=>zaj 3 t3 t9 λt15=>zao 3 t15 t14 H λH=>zad .add false t9 (.int .i64 1) λt16=>Kb3 (zmp t3 t8 t16) H) (K t3 H)
def zBx:=zbu 56 [(.bool false),.snil,.snil] t0 t0 H λt6 H=>zai 1 t6 λt8=>zBy t6 t8 (.int .i64 0) H K
def zlq:Nat→List Bool|4=>rl false [7,1,1,1,13,3,15]|_=>[]
noncomputable def zr0:=Tryz.f135.body.getD .skip
noncomputable def zMb:=Tryz.f135.results.toList
def zls:=ux 7 (t7::ux 1 (t9::ux 13 (t23::t24::t25::ux 15 [])))
def zL9:=zlq 4
noncomputable def zL7:=zas [1,1,1,0,1,0,0] zr0
def zL6:=zat tP zlq [1,1,1,0,1,0] zr0 (zaB tP zMb K)
def zlu:=ALoop tP zL7 (zL6 K) (zls t7 t9 t23 t24 t25) H
def zAq(t7 t9 t23 t24 t25:AV)(H:zaa)(K:Kt)(Kb4:Lt):Prop:=zad .add false t25 (.int .i64 1) λt39=>Kb4 (zls t7 t9 t23 t24 t39) H
def zlt:=zAq t7 t9 t23 t24 t25 H K Kb4
def zlr:=zad .lss false t25 t24 λt26=>zag t26 (zaj 1 t23 t25 λt28=>zae false 1 t28 H λt29=>aUn .not t29 λt31=>zag t31 (zaj 3 t7 t25 λt35=>zae true 3 t35 H λt36=>zau 3 [(.int .i64 0),(.int .i64 0),.snil] 1 [(0,t36)] λt37=>zax za2 3 40 t9 t37 H λt38 H=>zlt t7 t38 t23 t24 t25 H K Kb4) (zlt t7 t9 t23 t24 t25 H K Kb4)) (K t9 H)
def zAp:=zaw t1 H λt4 H=>zae true 3 t4 H λt14=>ACalls tP zjx [t0,t14,t2] H λt16 H=>zay t16 0 λt17=>zay t16 1 λt18=>zaf 1 t4 λt20=>zae false 1 t20 H λt21=>ACalls tP zfx [t0,t21,t2] H λt23 H=>zai 1 t23 λt24=>zlu t17 .snil t23 t24 (.int .i64 0) H K
variable {t0 t1 t2 t3 t4 t5 t6 t7 t8 t9 t10 t11 t12 t15 t16 t17 t18 t19 t20 t23 t24 t25 t57 t58 t59} {H} {K} {Kb1 Kb3 Kb4 Kb5 Kb14}
theorem zSX(h:HSc H→zCM t0 t1 H K):ACalls tP zhT [t0,t1] H K:=
 acb zSV Tryz.func41 zSW h
theorem zS0:Lo1 (λt11=>ziG t0 t9 t10 t11) (λt11 H Kb1=>ztZ t0 t9 t10 t11 H K Kb1) t11 H (zCO t0 t9 t10 t11 H K):=lq1 zng zS1
theorem zS2(h:HSc H→zCN t0 t1 H K):ACalls tP zhU [t0,t1] H K:=
 acb zng Tryz.func42 zt0 h
theorem zTl:Lo1 (λt59=>znq t4 t57 t58 t59) (λt59 H Kb14=>zt7 t4 t57 t58 t59 H K Kb14) t59 H (zCR t4 t57 t58 t59 H K):=lq1 zfZ zTn
theorem zTm:Lo2 (λt5 t17=>znr t0 t4 t5 t15 t16 t17) (λt5 t17 H Kb4=>znp t0 t4 t5 t15 t16 t17 H K Kb4) t5 t17 H (zns t0 t4 t5 t15 t16 t17 H K):=lq2 zfZ zTo
theorem zTp(h:HSc H→zCP t0 H K):ACalls tP zhW [t0] H K:=
 acb zfZ Tryz.func44 ziJ h
theorem zUU:Lo1 (λt20=>znS t0 t18 t19 t20) (λt20 H Kb5=>zuy t0 t18 t19 t20 H K Kb5) t20 H (zDp t0 t18 t19 t20 H K):=lq1 znR zUV
theorem zUW(h:HSc H→zDo t0 t1 H K):ACalls tP zjX [t0,t1] H K:=
 acb znR Tryz.func75 zuz h
theorem zVt:Lo1 (λt12=>zn0 t2 t3 t10 t11 t12) (λt12 H Kb3=>zuI t2 t3 t10 t11 t12 H K Kb3) t12 H (zn1 t2 t3 t10 t11 t12 H K):=lq1 znZ zVu
theorem zVv(h:HSc H→zDC t0 H K):ACalls tP zj0 [t0] H K:=
 acb znZ Tryz.func82 zuJ h
theorem zVA(h:HSc H→zDD t0 H K):ACalls tP zqg [t0] H K:=
 acb zVy Tryz.func83 zVz h
theorem zVE(h:HSc H→zDE t0 t1 H K):ACalls tP zj1 [t0,t1] H K:=
 acb zVC Tryz.func85 zVD h
theorem zVd(h:HSc H→zDy t0 t1 H K):ACalls tP zqe [t0,t1] H K:=
 acb zVb Tryz.func79 zVc h
theorem zLD:Lo1 (λt6=>zlj t0 t1 t5 t6) (λt6 H Kb3=>zrQ t0 t1 t5 t6 H K Kb3) t6 H (zAe t0 t1 t5 t6 H K):=lq1 zli zLE
theorem zLF(h:HSc H→zAd t0 t1 H K):ACalls tP zpz [t0,t1] H K:=
 acb zli Tryz.func131 zrR h
theorem zPa:Lo1 (λt9=>zmp t3 t8 t9) (λt9 H Kb3=>zsU t3 t8 t9 H K Kb3) t9 H (zBy t3 t8 t9 H K):=lq1 zmo zPb
theorem zPc(h:HSc H→zBx t0 H K):ACalls tP zpQ [t0] H K:=
 acb zmo Tryz.func174 zsV h
theorem zL8:Lo2 (λt9 t25=>zls t7 t9 t23 t24 t25) (λt9 t25 H Kb4=>zlr t7 t9 t23 t24 t25 H K Kb4) t9 t25 H (zlu t7 t9 t23 t24 t25 H K):=lq2 zlq zL9
theorem zMa(h:HSc H→zAp t0 t1 t2 H K):ACalls tP zpC [t0,t1,t2] H K:=
 acb zlq Tryz.func135 zr0 h
end
section
variable (t0 t1 t3 t4 t5 t6 t7 t8 t9 t10 t11 t12 t13 t21 t22 t25 t26 t30 t31:AV) (H:zaa) (K:Kt) (Kb1 Kb2 Kb3 Kb4 Kb5 Kb6:Lt)
def zT7(_:Nat):List Bool:=[]
noncomputable def zT8:=Tryz.f61.body.getD .skip
def zC9:=zaz [(.bool false),.snil,.snil] H λt2 H=>zad .lss false t0 (.int .i64 0) λt4=>ACalls tP zhG [t0] H λt6 H=>zau 1 [(.int .u32 0)] 1 [(0,(.int .u32 1))] λt7=>zar [(.bool false),.snil,.snil] [(0,1),(1,1),(2,1)] [(0,t4),(1,t6),(2,t7)] λt8=>ACalls tP ze0 [t8] H λt9 H=>zao 3 t2 t9 H λH=>zae true 3 t2 H λr0=>K r0 H
def zUu(_:Nat):List Bool:=[]
noncomputable def zUv:=Tryz.f70.body.getD .skip
def zur:=zaw t0 H λt2 H=>zaw t1 H λt3 H=>zaz [(.bool false),.snil,.snil] H λt4 H=>apu H (zal true 3 t2 H) λt7=>zaJ H (λH K'=>ACalls tP zes [t7] H K') λt8=>apu H (zal true 3 t3 H) λt9=>zaJ H (λH K'=>ACalls tP zes [t9] H K') λt10=>zaz [(.bool false),.snil,.snil] H λt5 H=>zaz [(.bool false),.snil,.snil] H λt6 H=>zao 3 t5 t8 H λH=>zao 3 t6 t10 H λH=>apu H (zaf 0 t5) λt11=>apu H (zal false 1 t11 H) λt12=>apu H (zaf 0 t6) λt13=>apu H (zal false 1 t13 H) λt14=>apu H (zad .neq true t12 t14) λt15=>apu H (zaf 1 t5) λt16=>apu H (zal false 1 t16 H) λt17=>apu H (zaf 1 t6) λt18=>apu H (zal false 1 t18 H) λt19=>zaJ H (λH K'=>ACalls tP zdK [t17,t19] H K') λt20=>apu H (zaf 2 t5) λt21=>apu H (zal false 1 t21 H) λt22=>apu H (zaf 2 t6) λt23=>apu H (zal false 1 t23 H) λt24=>zaJ H (λH K'=>ACalls tP zdK [t22,t24] H K') λt25=>apu H (zar [(.bool false),.snil,.snil] [(0,1),(1,1),(2,1)] [(0,t15),(1,t20),(2,t25)]) λt26=>zaJ H (λH K'=>ACalls tP ze0 [t26] H K') λt27=>zao 3 t4 t27 H λH=>zae true 3 t4 H λr0=>K r0 H
def zUZ(_:Nat):List Bool:=[]
noncomputable def zU0:=Tryz.f77.body.getD .skip
def zDq:=zaw t0 H λt2 H=>zaw t1 H λt3 H=>zaz [(.bool false),.snil,.snil] H λt4 H=>apu H (zal true 3 t2 H) λt5=>zaJ H (λH K'=>ACalls tP zes [t5] H K') λt6=>apu H (zal true 3 t3 H) λt7=>zaJ H (λH K'=>ACalls tP zes [t7] H K') λt8=>zaJ H (λH K'=>ACalls tP zpx [t6,t8] H K') λt9=>zaJ H (λH K'=>ACalls tP ze0 [t9] H K') λt10=>zao 3 t4 t10 H λH=>zae true 3 t4 H λr0=>K r0 H
def zKJ(_:Nat):List Bool:=[]
noncomputable def zKK:=Tryz.f113.body.getD .skip
def zzU:=zad .lss false t0 (.int .i64 0) λt4=>zag t4 (za9 .u64 t0 λt6=>aUn .neg t6 λt7=>ACalls tP zgm [t7] H λt8 H=>K t8 H) (za9 .u64 t0 λt10=>ACalls tP zgm [t10] H λt11 H=>K t11 H)
def zKM(_:Nat):List Bool:=[]
noncomputable def zKN:=Tryz.f114.body.getD .skip
def zrE:=zaw t0 H λt1 H=>zaz [(.bool false),.snil,.snil] H λt2 H=>zae true 3 t1 H λt4=>ACalls tP zju [t4] H λt5 H=>zaz [(.bool false),.snil,.snil] H λt3 H=>zao 3 t3 t5 H λH=>zaf 0 t3 λt6=>zae false 1 t6 H λt7=>zaf 1 t3 λt8=>zae false 1 t8 H λt9=>zaf 2 t3 λt10=>zae false 1 t10 H λt11=>zar [(.bool false),.snil,.snil] [(0,1),(1,1),(2,1)] [(0,t7),(1,t9),(2,t11)] λt12=>zao 3 t2 t12 H λH=>zae true 3 t2 H λr0=>K r0 H
def zKY(_:Nat):List Bool:=[]
noncomputable def zKZ:=Tryz.f120.body.getD .skip
def zrF:=zaw t0 H λt1 H=>zaz [(.bool false),.snil,.snil] H λt2 H=>apu H (zaf 1 t1) λt5=>apu H (zal false 1 t5 H) λt6=>zaJ H (λH K'=>ACalls tP zjv [t6] H K') λt7=>apu H (zaf 2 t1) λt8=>apu H (zal false 1 t8 H) λt9=>zaJ H (λH K'=>ACalls tP zjv [t9] H K') λt10=>apm H t7 λt3=>apm H t10 λt4=>zai 1 t3 λt12=>zad .eql false t12 (.int .i64 0) λt13=>zac t13 false H (λK'=>K' t4 H) λt15 H=>zac t13 false H (λK'=>zai 1 t15 (K' · H)) λt16 H=>zac t13 false H (λK'=>zad .eql false t16 (.int .i64 0) (K' · H)) λt17 H=>zak t13 (.bool true) t17 λt18=>zag t18 (zau 1 [(.int .u32 0)] 1 [(0,(.int .u32 1))] λt19=>zar [(.bool false),.snil,.snil] [(0,1),(1,1),(2,1)] [(2,t19)] λt20=>zao 3 t2 t20 H λH=>zae true 3 t2 H λr0=>K r0 H) (zaf 0 t1 λt21=>zae false 1 t21 H λt22=>zar [(.bool false),.snil,.snil] [(0,1),(1,1),(2,1)] [(0,t22),(1,t3),(2,t4)] λt25=>zao 3 t2 t25 H λH=>zae true 3 t2 H λr0=>K r0 H)
def zfL:Nat→List Bool|5=>rl false [0,2,3,1,19,2,50]|9=>rl false [0,2,3,3,17,2,3,2,45]|_=>[]
noncomputable def zrI:=Tryz.f121.body.getD .skip
noncomputable def zK6:=Tryz.f121.results.toList
def zlb:=t0::t1::ux 3 (t5::ux 19 (t25::t26::ux 50 []))
def zz3:=zfL 5
noncomputable def zrJ:=zas [1,1,1,0,1,0,0] zrI
def zz0:=zat tP zfL [1,1,1,0,1,0] zrI (zaB tP zK6 K)
def zz1:=ALoop tP zrJ (zz0 K) (zlb t0 t1 t5 t25 t26) H
def zit:=t0::t1::ux 3 (t5::t6::t7::ux 17 (t25::t26::ux 3 (t30::t31::ux 45 [])))
def zK4:=zfL 9
noncomputable def zK1:=zas [1,1,0,0,1,1,0,1,0,0] zrJ
def zK0:=zat tP zfL [1,1,0,0,1,1,0,1,0] zrJ (zbR zz3 Kb5 (zz0 K))
def zz2:=ALoop tP zK1 (zK0 K Kb5) (zit t0 t1 t5 t6 t7 t25 t26 t30 t31) H
def zrH(t0 t1 t5 t6 t7 t25 t26 t30 t31:AV)(H:zaa)(K:Kt)(Kb5:Lt)(Kb9:Lt):Prop:=zad .lss false t31 t30 λt32=>zag t32 (apm H t0 λt34=>apm H t6 λt35=>apu H (zaj 1 t34 t35) λt36=>apu H (zal false 1 t36 H) λt37=>apu H (za9 .u64 t37) λt38=>apm H t1 λt39=>apm H t31 λt40=>apu H (zaj 1 t39 t40) λt41=>apu H (zal false 1 t41 H) λt42=>apu H (za9 .u64 t42) λt43=>apu H (zad .mul false t38 t43) λt44=>apm H t5 λt45=>apm H t6 λt46=>apm H t31 λt47=>apu H (zad .add false t46 t47) λt48=>apu H (zaj 1 t45 t48) λt49=>apu H (zal false 1 t49 H) λt50=>apu H (za9 .u64 t50) λt51=>apu H (zad .add false t44 t51) λt52=>apm H t7 λt53=>apu H (zad .add false t52 t53) λt54=>apm H t54 λt9=>zad .add false t6 t31 λt58=>zad .rem false t9 (.int .u64 1000000000) λt60=>za9 .u32 t60 λt61=>zaj 1 t5 t58 λt62=>zao 1 t62 t61 H λH=>zad .quo false t9 (.int .u64 1000000000) λt64=>zad .add false t31 (.int .i64 1) λt65=>Kb9 (zit t0 t1 t5 t6 t64 t25 t26 t30 t65) H) (zai 1 t1 λt69=>zad .add false t6 t69 λt70=>za9 .u32 t7 λt72=>zaj 1 t5 t70 λt73=>zao 1 t73 t72 H λH=>zad .add false t26 (.int .i64 1) λt74=>Kb5 (zlb t0 t1 t5 t25 t74) H)
def zrG:=zad .lss false t26 t25 λt27=>zag t27 (zai 1 t1 λt30=>zz2 t0 t1 t5 t26 (.int .u64 0) t25 t26 t30 (.int .i64 0) H K Kb5) (ACalls tP zfw [t5] H λt76 H=>K t76 H)
def zla:=zai 1 t0 λt11=>zad .eql false t11 (.int .i64 0) λt12=>zac t12 false H (λK'=>K' t1 H) λt14 H=>zac t12 false H (λK'=>zai 1 t14 (K' · H)) λt15 H=>zac t12 false H (λK'=>zad .eql false t15 (.int .i64 0) (K' · H)) λt16 H=>zak t12 (.bool true) t16 λt17=>zag t17 (K .snil H) (zai 1 t0 λt19=>zai 1 t1 λt21=>zad .add false t19 t21 λt22=>zbu 4 [(.int .u32 0)] t22 t22 H λt23 H=>zai 1 t0 λt25=>zz1 t0 t1 t23 t25 (.int .i64 0) H K)
def zLv(_:Nat):List Bool:=[]
noncomputable def zLw:=Tryz.f129.body.getD .skip
def zAc:=zaw t0 H λt2 H=>zaw t1 H λt3 H=>zaz [(.bool false),.snil,.snil] H λt4 H=>apu H (zaf 1 t2) λt8=>apu H (zal false 1 t8 H) λt9=>apu H (zaf 2 t3) λt10=>apu H (zal false 1 t10 H) λt11=>zaJ H (λH K'=>ACalls tP zdK [t9,t11] H K') λt12=>apu H (zaf 1 t3) λt13=>apu H (zal false 1 t13 H) λt14=>apu H (zaf 2 t2) λt15=>apu H (zal false 1 t15 H) λt16=>zaJ H (λH K'=>ACalls tP zdK [t14,t16] H K') λt17=>apm H t12 λt5=>apm H t17 λt6=>zaf 2 t2 λt18=>zae false 1 t18 H λt19=>zaf 2 t3 λt20=>zae false 1 t20 H λt21=>ACalls tP zdK [t19,t21] H λt22 H=>zaf 0 t2 λt23=>zae false 1 t23 H λt24=>zaf 0 t3 λt25=>zae false 1 t25 H λt26=>zad .eql true t24 t26 λt27=>zag t27 (apu H (zaf 0 t2) λt28=>apu H (zal false 1 t28 H) λt29=>apm H t5 λt30=>apm H t6 λt31=>zaJ H (λH K'=>ACalls tP zpP [t30,t31] H K') λt32=>apm H t22 λt33=>apu H (zar [(.bool false),.snil,.snil] [(0,1),(1,1),(2,1)] [(0,t29),(1,t32),(2,t33)]) λt34=>zao 3 t4 t34 H λH=>zae true 3 t4 H λr0=>K r0 H) (ACalls tP zjy [t5,t6] H λt37 H=>zad .geq false t37 (.int .i64 0) λt38=>zag t38 (apu H (zaf 0 t2) λt39=>apu H (zal false 1 t39 H) λt40=>apm H t5 λt41=>apm H t6 λt42=>zaJ H (λH K'=>ACalls tP zxf [t41,t42] H K') λt43=>apm H t22 λt44=>apu H (zar [(.bool false),.snil,.snil] [(0,1),(1,1),(2,1)] [(0,t40),(1,t43),(2,t44)]) λt45=>zao 3 t4 t45 H λH=>zae true 3 t4 H λr0=>K r0 H) (apu H (zaf 0 t3) λt46=>apu H (zal false 1 t46 H) λt47=>apm H t6 λt48=>apm H t5 λt49=>zaJ H (λH K'=>ACalls tP zxf [t48,t49] H K') λt50=>apm H t22 λt51=>apu H (zar [(.bool false),.snil,.snil] [(0,1),(1,1),(2,1)] [(0,t47),(1,t50),(2,t51)]) λt52=>zao 3 t4 t52 H λH=>zae true 3 t4 H λr0=>K r0 H))
def zLO(_:Nat):List Bool:=[]
noncomputable def zLP:=Tryz.f132.body.getD .skip
def zrV:=zaw t0 H λt1 H=>zaf 1 t1 λt4=>zae false 1 t4 H λt5=>zai 1 t5 λt6=>zad .eql false t6 (.int .i64 0) λt7=>zag t7 (K (.int .i64 0) H) (zaf 0 t1 λt9=>zae false 1 t9 H λt10=>zag t10 (K (.int .i64 (-1)) H) (K (.int .i64 1) H))
def zmm:Nat→List Bool|6=>rl false [0,2,3,1,37]|_=>[]
noncomputable def zsT:=Tryz.f172.body.getD .skip
noncomputable def zO7:=Tryz.f172.results.toList
def zmn:=t0::t1::ux 3 (t5::ux 37 [])
def zO5:=zmm 6
noncomputable def zO3:=zas [1,1,0,1,0,0] zsT
def zO2:=zat tP zmm [1,1,0,1,0] zsT (zaB tP zO7 K)
def zBw:=ALoop tP zO3 (zO2 K) (zmn t0 t1 t5) H
def ziC:=zad .geq false t5 (.int .i64 0) λt20=>zag t20 (apm H t0 λt24=>apm H t5 λt25=>apu H (zaj 1 t24 t25) λt26=>apu H (zal false 1 t26 H) λt27=>apm H t1 λt28=>apm H t5 λt29=>apu H (zaj 1 t28 t29) λt30=>apu H (zal false 1 t30 H) λt31=>apu H (zad .lss false t27 t31) λt32=>apm H t32 λt23=>zag t23 (K (.int .i64 (-1)) H) (apm H t0 λt34=>apm H t5 λt35=>apu H (zaj 1 t34 t35) λt36=>apu H (zal false 1 t36 H) λt37=>apm H t1 λt38=>apm H t5 λt39=>apu H (zaj 1 t38 t39) λt40=>apu H (zal false 1 t40 H) λt41=>apu H (zad .gtr false t37 t41) λt42=>apm H t42 λt33=>zag t33 (K (.int .i64 1) H) (zad .sub false t5 (.int .i64 1) λt22=>Kb6 (zmn t0 t1 t22) H))) (K (.int .i64 0) H)
def zml:=zai 1 t0 λt7=>zai 1 t1 λt9=>zad .neq false t7 t9 λt10=>zag t10 (zai 1 t0 λt12=>zai 1 t1 λt14=>zad .lss false t12 t14 λt15=>zag t15 (K (.int .i64 (-1)) H) (K (.int .i64 1) H)) (zai 1 t0 λt17=>zad .sub false t17 (.int .i64 1) λt18=>zBw t0 t1 t18 H K)
def zlQ:Nat→List Bool|2=>rl false [0,1,2,1,11]|_=>[]
noncomputable def zsj:=Tryz.f152.body.getD .skip
noncomputable def zNa:=Tryz.f152.results.toList
def zlR:=t0::ux 2 (t3::ux 11 [])
def zM8:=zlQ 2
noncomputable def zM6:=zas [1,1,0,0,0] zsj
def zM5:=zat tP zlQ [1,1,0,0] zsj (zaB tP zNa K)
def zlS:=ALoop tP zM6 (zM5 K) (zlR t0 t3) H
def zsi:=zad .gtr false t0 (.int .u64 0) λt5=>zag t5 (zad .rem false t0 (.int .u64 1000000000) λt10=>za9 .u32 t10 λt11=>zau 1 [(.int .u32 0)] 1 [(0,t11)] λt12=>zax zbo 1 4 t3 t12 H λt13 H=>zad .quo false t0 (.int .u64 1000000000) λt7=>Kb2 (zlR t7 t13) H) (K t3 H)
def zAB:=zlS t0 .snil H K
def zNb(_:Nat):List Bool:=[]
noncomputable def zNc:=Tryz.f153.body.getD .skip
def zlT:=zaw t0 H λt1 H=>zaz [(.bool false),.snil,.snil] H λt2 H=>zaf 1 t1 λt8=>zae false 1 t8 H λt9=>zai 1 t9 λt10=>zad .eql false t10 (.int .i64 0) λt11=>zag t11 (zau 1 [(.int .u32 0)] 1 [(0,(.int .u32 1))] λt12=>zar [(.bool false),.snil,.snil] [(0,1),(1,1),(2,1)] [(2,t12)] λt13=>zao 3 t2 t13 H λH=>zae true 3 t2 H λr0=>K r0 H) (zaf 2 t1 λt14=>zae false 1 t14 H λt15=>ACalls tP zjE [t15] H λt16 H=>zag t16 (zae true 3 t1 H λt17=>zao 3 t2 t17 H λH=>zae true 3 t2 H λr0=>K r0 H) (zaf 1 t1 λt18=>zae false 1 t18 H λt19=>zaf 2 t1 λt20=>zae false 1 t20 H λt21=>ACalls tP zpS [t19,t21] H λt22 H=>ACalls tP zjE [t22] H λt24 H=>zag t24 (zae true 3 t1 H λt25=>zao 3 t2 t25 H λH=>zae true 3 t2 H λr0=>K r0 H) (zaf 1 t1 λt27=>zae false 1 t27 H λt28=>ACalls tP zhM [t28,t22] H λt30 H=>zay t30 0 λt31=>zay t30 1 λt32=>zaf 2 t1 λt34=>zae false 1 t34 H λt35=>ACalls tP zhM [t35,t22] H λt37 H=>zay t37 0 λt38=>zay t37 1 λt39=>zaf 0 t1 λt40=>zae false 1 t40 H λt41=>zar [(.bool false),.snil,.snil] [(0,1),(1,1),(2,1)] [(0,t41),(1,t31),(2,t38)] λt44=>zao 3 t2 t44 H λH=>zae true 3 t2 H λr0=>K r0 H)))
def zlW:Nat→List Bool|300000=>rl false [0,1]|300001=>rl false [0,1]|300002=>rl false [0,1]|300003=>rl false [0,1]|4=>rl false [0,1,2,2,7,2,27]|_=>[]
noncomputable def zsm:=Tryz.f157.body.getD .skip
noncomputable def zNo:=Tryz.f157.results.toList
def zlY:=t0::ux 2 (t3::t4::ux 7 (t12::t13::ux 27 []))
def zNm:=zlW 4
noncomputable def zNk:=zas [1,1,1,0,1,0,0] zsm
def zNj:=zat tP zlW [1,1,1,0,1,0] zsm (zaB tP zNo K)
def zAG:=ALoop tP zNk (zNj K) (zlY t0 t3 t4 t12 t13) H
def zlZ:=ACalls tP zfw [t3] H λt40 H=>K t40 H
def zlX:=zad .lss false t13 t12 λt14=>zag t14 (zaj 1 t0 t13 λt18=>zae false 1 t18 H λt19=>za9 .u64 t19 λt20=>zad .add false t20 t4 λt22=>zad .rem false t22 (.int .u64 1000000000) λt25=>za9 .u32 t25 λt26=>zau 1 [(.int .u32 0)] 1 [(0,t26)] λt27=>zax zbo 1 4 t3 t27 H λt28 H=>zad .quo false t22 (.int .u64 1000000000) λt30=>zad .add false t13 (.int .i64 1) λt31=>Kb4 (zlY t0 t28 t30 t12 t31) H) (zad .gtr false t4 (.int .u64 0) λt33=>zag t33 (za9 .u32 t4 λt36=>zau 1 [(.int .u32 0)] 1 [(0,t36)] λt37=>zax zbo 1 4 t3 t37 H λt38 H=>zlZ t38 H K) (zlZ t3 H K))
def zAF:=zai 1 t0 λt8=>zad .add false t8 (.int .i64 1) λt9=>zeM zbo 1 4 t9 H λt10 H=>zai 1 t0 λt12=>zAG t0 t10 (.int .u64 0) t12 (.int .i64 0) H K
def zl0:Nat→List Bool|2=>rl false [0,1,2,1,17]|_=>[]
noncomputable def zsn:=Tryz.f158.body.getD .skip
noncomputable def zNu:=Tryz.f158.results.toList
def zl2:=t0::ux 2 (t3::ux 17 [])
def zNs:=zl0 2
noncomputable def zNq:=zas [1,1,0,0,0] zsn
def zNp:=zat tP zl0 [1,1,0,0] zsn (zaB tP zNu K)
def zAI:=ALoop tP zNq (zNp K) (zl2 t0 t3) H
def zl1:=zad .gtr false t3 (.int .i64 0) λt7=>zac t7 true H (λK'=>K' t0 H) λt9 H=>zac t7 true H (λK'=>K' t3 H) λt10 H=>zac t7 true H (λK'=>zad .sub false t10 (.int .i64 1) (K' · H)) λt11 H=>zac t7 true H (λK'=>zaj 1 t9 t11 (K' · H)) λt12 H=>zac t7 true H (λK'=>zae false 1 t12 H (K' · H)) λt13 H=>zac t7 true H (λK'=>zad .eql false t13 (.int .u32 0) (K' · H)) λt14 H=>zak t7 t14 (.bool false) λt15=>zag t15 (zad .sub false t3 (.int .i64 1) λt17=>Kb2 (zl2 t0 t17) H) (zaS 1 1 t0 none (some t3) λt20=>K t20 H)
def zAH:=zai 1 t0 λt5=>zAI t0 t5 H K
def zmg:Nat→List Bool|300000=>rl false [0,1]|300001=>rl false [0,1]|300002=>rl false [0,1]|300003=>rl false [0,1]|300004=>rl false [0,1]|6=>rl false [0,2,3,2,14,2,33]|_=>[]
noncomputable def zsS:=Tryz.f171.body.getD .skip
noncomputable def zO0:=Tryz.f171.results.toList
def zmh:=t0::t1::ux 3 (t5::t6::ux 14 (t21::t22::ux 33 []))
def zOY:=zmg 6
noncomputable def zOW:=zas [1,1,1,1,0,1,0,0] zsS
def zOV:=zat tP zmg [1,1,1,1,0,1,0] zsS (zaB tP zO0 K)
def zBv:=ALoop tP zOW (zOV K) (zmh t0 t1 t5 t6 t21 t22) H
def zmj(t0 t1 t5 t8 t21 t22:AV)(H:zaa)(K:Kt)(Kb6:Lt):Prop:=zad .quo false t8 (.int .u32 1000000000) λt42=>zad .rem false t8 (.int .u32 1000000000) λt45=>zau 1 [(.int .u32 0)] 1 [(0,t45)] λt46=>zax zbo 1 4 t5 t46 H λt47 H=>zad .add false t22 (.int .i64 1) λt48=>Kb6 (zmh t0 t1 t47 t42 t21 t48) H
def zmk:=K t5 H
def ziB:=zad .lss false t22 t21 λt23=>zag t23 (zaj 1 t0 t22 λt27=>zae false 1 t27 H λt28=>zad .add false t28 t6 λt30=>zai 1 t1 λt33=>zad .lss false t22 t33 λt34=>zag t34 (zaj 1 t1 t22 λt38=>zae false 1 t38 H λt39=>zad .add false t30 t39 λt40=>zmj t0 t1 t5 t40 t21 t22 H K Kb6) (zmj t0 t1 t5 t30 t21 t22 H K Kb6)) (zad .gtr false t6 (.int .u32 0) λt50=>zag t50 (zau 1 [(.int .u32 0)] 1 [(0,t6)] λt53=>zax zbo 1 4 t5 t53 H λt54 H=>zmk t54 H K) (zmk t5 H K))
def zmi:=zai 1 t0 λt17=>zad .add false t17 (.int .i64 1) λt18=>zeM zbo 1 4 t18 H λt19 H=>zai 1 t0 λt21=>zBv t0 t1 t19 (.int .u32 0) t21 (.int .i64 0) H K
def zsR:=zai 1 t0 λt10=>zai 1 t1 λt12=>zad .lss false t10 t12 λt13=>zag t13 (zmi t1 t0 H K) (zmi t0 t1 H K)
def zP0(_:Nat):List Bool:=[]
noncomputable def zP1:=Tryz.f197.body.getD .skip
def zmG:=zai 1 t0 λt4=>zad .eql false t4 (.int .i64 1) λt5=>zac t5 true H (λK'=>K' t0 H) λt7 H=>zac t5 true H (λK'=>zaj 1 t7 (.int .i64 0) (K' · H)) λt8 H=>zac t5 true H (λK'=>zae false 1 t8 H (K' · H)) λt9 H=>zac t5 true H (λK'=>zad .eql false t9 (.int .u32 1) (K' · H)) λt10 H=>zak t5 t10 (.bool false) λt11=>K t11 H
def zfT:Nat→List Bool|1=>rl false [0,2,47]|5=>rl false [5,1,1,1,41]|_=>[]
noncomputable def zs9:=Tryz.f198.body.getD .skip
noncomputable def zP9:=Tryz.f198.results.toList
def ztb:=t0::t1::ux 47 []
def zBR:=zfT 1
noncomputable def zta:=zas [1,0,0,0] zs9
def zBO:=zat tP zfT [1,0,0] zs9 (zaB tP zP9 K)
def zBP:=ALoop tP zta (zBO K) (ztb t0 t1) H
def zmH:=ux 5 (t5::ux 1 (t7::ux 41 []))
def zP7:=zfT 5
noncomputable def zP4:=zas [1,0,0,1,0,1,1,0,0,0] zta
def zP3:=zat tP zfT [1,0,0,1,0,1,1,0,0] zta (zbR zBR Kb1 (zBO K))
def zBQ:=ALoop tP zP4 (zP3 K Kb1) (zmH t5 t7) H
def zs8(t5 t7:AV)(H:zaa)(K:Kt)(Kb1:Lt)(Kb5:Lt):Prop:=zad .gtr false t7 (.int .u64 0) λt33=>zag t33 (apm H t7 λt34=>apm H t5 λt35=>apm H t7 λt36=>apu H (zad .rem false t35 t36) λt37=>apm H t34 λt5=>apm H t37 λt7=>Kb5 (zmH t5 t7) H) (ACalls tP zgm [t5] H λt39 H=>K t39 H)
def zs7:=zai 1 t1 λt12=>zad .gtr false t12 (.int .i64 0) λt13=>zag t13 (zai 1 t0 λt15=>zad .leq false t15 (.int .i64 2) λt16=>zac t16 true H (λK'=>K' t1 H) λt18 H=>zac t16 true H (λK'=>zai 1 t18 (K' · H)) λt19 H=>zac t16 true H (λK'=>zad .leq false t19 (.int .i64 2) (K' · H)) λt20 H=>zak t16 t20 (.bool false) λt21=>zag t21 (ACalls tP zjJ [t0] H λt24 H=>zay t24 0 λt25=>zay t24 1 λt26=>ACalls tP zjJ [t1] H λt29 H=>zay t29 0 λt30=>zay t29 1 λt31=>zBQ t25 t30 H K Kb1) (ACalls tP zhM [t0,t1] H λt43 H=>zay t43 0 λt44=>zay t43 1 λt45=>Kb1 (ztb t1 t45) H)) (K t0 H)
def zBN:=zBP t0 t1 H K
def zBT:Nat→List Bool|12=>rl false [8,6,77]|_=>[]
noncomputable def ztc:=Tryz.f199.body.getD .skip
noncomputable def zQf:=Tryz.f199.results.toList
def zQc:=ux 8 (t8::t9::t10::t11::t12::t13::ux 77 [])
noncomputable def zQb:=zas [1,1,1,1,1,1,1,1,0,1,0,0] ztc
def zQa:=zat tP zBT [1,1,1,1,1,1,1,1,0,1,0] ztc (zaB tP zQf K)
def zQd:=ALoop tP zQb (zQa K) (zQc t8 t9 t10 t11 t12 t13) H
def zBS:=ACalls tP zjy [t0,t1] H λt18 H=>zad .lss false t18 (.int .i64 0) λt19=>zag t19 (zax zbo 1 4 .snil t0 H λt21 H=>zaG [.snil,t21] (K · H)) (zai 1 t1 λt23=>zad .eql false t23 (.int .i64 1) λt24=>zag t24 (zaj 1 t1 (.int .i64 0) λt28=>zae false 1 t28 H λt29=>za9 .u64 t29 λt30=>ACalls tP zpW [t0,t30] H λt31 H=>zay t31 0 λt32=>zay t31 1 λt33=>ACalls tP zgm [t33] H λt36 H=>zaG [t32,t36] (K · H)) (zai 1 t1 λt38=>zad .sub false t38 (.int .i64 1) λt41=>zaj 1 t1 t41 λt42=>zae false 1 t42 H λt43=>za9 .u64 t43 λt44=>zad .add false t44 (.int .u64 1) λt45=>zad .quo false (.int .u64 1000000000) t45 λt46=>ACalls tP zxi [t0,t46] H λt49 H=>ACalls tP zxi [t1,t46] H λt52 H=>zaS 1 1 t52 none (some t38) λt54=>zai 1 t0 λt56=>zad .sub false t56 t38 λt58=>zad .add false t58 (.int .i64 1) λt59=>zbu 4 [(.int .u32 0)] t59 t59 H λt60 H=>zai 1 t0 λt62=>zad .sub false t62 t38 λt64=>zQd t38 t46 t49 t54 t60 t64 H K))
def zQU(_:Nat):List Bool:=[]
noncomputable def zQV:=Tryz.f216.body.getD .skip
def zB3:=zaz [(.bool false),.snil,.snil] H λt4 H=>zad .eql false t1 (.int .i64 0) λt6=>zag t6 (ACalls tP zdv [(.int .i64 0)] H λt7 H=>zao 3 t4 t7 H λH=>zae true 3 t4 H λr0=>K r0 H) (zad .lss false t0 (.int .i64 0) λt9=>zad .lss false t1 (.int .i64 0) λt11=>zad .neq true t9 t11 λt12=>ACalls tP zhG [t0] H λt14 H=>ACalls tP zhG [t1] H λt16 H=>zar [(.bool false),.snil,.snil] [(0,1),(1,1),(2,1)] [(0,t12),(1,t14),(2,t16)] λt17=>ACalls tP ze0 [t17] H λt18 H=>zao 3 t4 t18 H λH=>zae true 3 t4 H λr0=>K r0 H)
def zmQ:Nat→List Bool|3=>rl false [0,1,3,1,3,2,22]|_=>[]
noncomputable def zts:=Tryz.f223.body.getD .skip
noncomputable def zQ6:=Tryz.f223.results.toList
def zmR:=t0::ux 3 (t4::ux 3 (t8::t9::ux 22 []))
def zQ4:=zmQ 3
noncomputable def zQ2:=zas [1,1,0,1,0,0] zts
def zQ1:=zat tP zmQ [1,1,0,1,0] zts (zaB tP zQ6 K)
def zB5:=ALoop tP zQ2 (zQ1 K) (zmR t0 t4 t8 t9) H
def ztr:=zad .lss false t9 t8 λt10=>zag t10 (zai 1 t0 λt14=>zad .sub false t14 (.int .i64 1) λt15=>zad .sub false t15 t9 λt17=>zaj 1 t0 t17 λt18=>zae false 1 t18 H λt19=>za9 .u64 t19 λt20=>zad .sub false (.int .u64 18446744073709551615) t20 λt23=>zad .quo false t23 (.int .u64 1000000000) λt24=>zad .gtr false t4 t24 λt25=>zag t25 (zaG [(.int .u64 0),(.bool false)] (K · H)) (zad .mul false t4 (.int .u64 1000000000) λt27=>zad .add false t27 t20 λt29=>zad .add false t9 (.int .i64 1) λt30=>Kb3 (zmR t0 t29 t8 t30) H)) (zaG [t4,(.bool true)] (K · H))
def zB4:=zai 1 t0 λt8=>zB5 t0 (.int .u64 0) t8 (.int .i64 0) H K
def zmS:Nat→List Bool|4=>rl false [0,2,4,3,32]|_=>[]
noncomputable def ztu:=Tryz.f224.body.getD .skip
noncomputable def zRc:=Tryz.f224.results.toList
def zmT:=t0::t1::ux 4 (t6::t7::t8::ux 32 [])
def zRa:=zmS 4
noncomputable def zQ8:=zas [1,1,1,0,1,0,0] ztu
def zQ7:=zat tP zmS [1,1,1,0,1,0] ztu (zaB tP zRc K)
def zB7:=ALoop tP zQ8 (zQ7 K) (zmT t0 t1 t6 t7 t8) H
def ztt:=zad .geq false t8 (.int .i64 0) λt17=>zag t17 (zad .mul false t7 (.int .u64 1000000000) λt21=>zaj 1 t0 t8 λt24=>zae false 1 t24 H λt25=>za9 .u64 t25 λt26=>zad .add false t21 t26 λt27=>zad .quo false t27 t1 λt32=>za9 .u32 t32 λt33=>zaj 1 t6 t8 λt34=>zao 1 t34 t33 H λH=>zad .rem false t27 t1 λt37=>zad .sub false t8 (.int .i64 1) λt19=>Kb4 (zmT t0 t1 t6 t37 t19) H) (ACalls tP zfw [t6] H λt39 H=>zaG [t39,t7] (K · H))
def zB6:=zai 1 t0 λt11=>zbu 4 [(.int .u32 0)] t11 t11 H λt12 H=>zai 1 t0 λt14=>zad .sub false t14 (.int .i64 1) λt15=>zB7 t0 t1 t12 (.int .u64 0) t15 H K
def zVf(_:Nat):List Bool:=[]
noncomputable def zVg:=Tryz.f80.body.getD .skip
def zDz:=zaw t0 H λt1 H=>zae true 3 t1 H λt3=>ACalls tP zes [t3] H λt4 H=>ACalls tP zpA [t4] H λt5 H=>K t5 H
def zmq:Nat→List Bool|3=>rl false [0,1,3,2,2,2,16]|_=>[]
noncomputable def zsW:=Tryz.f175.body.getD .skip
noncomputable def zPj:=Tryz.f175.results.toList
def zms:=t0::ux 3 (t4::t5::ux 2 (t8::t9::ux 16 []))
def zPh:=zmq 3
noncomputable def zPf:=zas [1,1,0,1,0,0] zsW
def zPe:=zat tP zmq [1,1,0,1,0] zsW (zaB tP zPj K)
def zBA:=ALoop tP zPf (zPe K) (zms t0 t4 t5 t8 t9) H
def zmr:=zad .lss false t9 t8 λt10=>zag t10 (zad .eql false t0 t9 λt14=>zag t14 (ACalls tP zdv [(.int .i64 0)] H λt15 H=>zao 3 t4 t15 H λH=>zae true 3 t4 H λr0=>K r0 H) (apu H (zal true 3 t5 H) λt16=>apm H t0 λt17=>apm H t9 λt18=>apu H (zad .sub false t17 t18) λt19=>apm H t9 λt20=>apu H (zad .add false t20 (.int .i64 1)) λt21=>zaJ H (λH K'=>ACalls tP zpV [t19,t21] H K') λt22=>zaJ H (λH K'=>ACalls tP zet [t16,t22] H K') λt23=>zao 3 t5 t23 H λH=>zad .add false t9 (.int .i64 1) λt24=>Kb3 (zms t0 t4 t5 t8 t24) H)) (zae true 3 t5 H λt25=>zao 3 t4 t25 H λH=>zae true 3 t4 H λr0=>K r0 H)
def zBz:=zaz [(.bool false),.snil,.snil] H λt4 H=>ACalls tP zdv [(.int .i64 1)] H λt7 H=>zaz [(.bool false),.snil,.snil] H λt5 H=>zao 3 t5 t7 H λH=>zBA t0 t4 t5 t1 (.int .i64 0) H K
variable {t0 t1 t3 t4 t5 t6 t7 t8 t9 t10 t11 t12 t13 t21 t22 t25 t26 t30 t31} {H} {K} {Kb1 Kb2 Kb3 Kb4 Kb5 Kb6}
theorem zT9(h:HSc H→zC9 t0 H K):ACalls tP zdv [t0] H K:=
 acb zT7 Tryz.func61 zT8 h
theorem zDf(h:HSc H→zur t0 t1 H K):ACalls tP zet [t0,t1] H K:=
 acb zUu Tryz.func70 zUv h
theorem zU1(h:HSc H→zDq t0 t1 H K):ACalls tP zqd [t0,t1] H K:=
 acb zUZ Tryz.func77 zU0 h
theorem zKL(h:HSc H→zzU t0 H K):ACalls tP zhG [t0] H K:=
 acb zKJ Tryz.func113 zKK h
theorem zzV(h:HSc H→zrE t0 H K):ACalls tP ze0 [t0] H K:=
 acb zKM Tryz.func114 zKN h
theorem zzZ(h:HSc H→zrF t0 H K):ACalls tP zes [t0] H K:=
 acb zKY Tryz.func120 zKZ h
theorem zK3:Lo2 (λt7 t31=>zit t0 t1 t5 t6 t7 t25 t26 t30 t31) (λt7 t31 H Kb9=>zrH t0 t1 t5 t6 t7 t25 t26 t30 t31 H K Kb5 Kb9) t7 t31 H (zz2 t0 t1 t5 t6 t7 t25 t26 t30 t31 H K Kb5):=lq2 zfL zK4
theorem zK2:Lo1 (λt26=>zlb t0 t1 t5 t25 t26) (λt26 H Kb5=>zrG t0 t1 t5 t25 t26 H K Kb5) t26 H (zz1 t0 t1 t5 t25 t26 H K):=lq1 zfL zz3
theorem zK5(h:HSc H→zla t0 t1 H K):ACalls tP zdK [t0,t1] H K:=
 acb zfL Tryz.func121 zrI h
theorem zLx(h:HSc H→zAc t0 t1 H K):ACalls tP zpx [t0,t1] H K:=
 acb zLv Tryz.func129 zLw h
theorem zLQ(h:HSc H→zrV t0 H K):ACalls tP zpA [t0] H K:=
 acb zLO Tryz.func132 zLP h
theorem zO4:Lo1 (λt5=>zmn t0 t1 t5) (λt5 H Kb6=>ziC t0 t1 t5 H K Kb6) t5 H (zBw t0 t1 t5 H K):=lq1 zmm zO5
theorem zO6(h:HSc H→zml t0 t1 H K):ACalls tP zjy [t0,t1] H K:=
 acb zmm Tryz.func172 zsT h
theorem zM7:Lo2 (λt0 t3=>zlR t0 t3) (λt0 t3 H Kb2=>zsi t0 t3 H K Kb2) t0 t3 H (zlS t0 t3 H K):=lq2 zlQ zM8
theorem zM9(h:HSc H→zAB t0 H K):ACalls tP zgm [t0] H K:=
 acb zlQ Tryz.func152 zsj h
theorem zAC(h:HSc H→zlT t0 H K):ACalls tP zju [t0] H K:=
 acb zNb Tryz.func153 zNc h
theorem zNl:Lo3 (λt3 t4 t13=>zlY t0 t3 t4 t12 t13) (λt3 t4 t13 H Kb4=>zlX t0 t3 t4 t12 t13 H K Kb4) t3 t4 t13 H (zAG t0 t3 t4 t12 t13 H K):=lq3 zlW zNm
theorem zNn(h:HSc H→zAF t0 H K):ACalls tP zjv [t0] H K:=
 acb zlW Tryz.func157 zsm h
theorem zNr:Lo1 (λt3=>zl2 t0 t3) (λt3 H Kb2=>zl1 t0 t3 H K Kb2) t3 H (zAI t0 t3 H K):=lq1 zl0 zNs
theorem zNt(h:HSc H→zAH t0 H K):ACalls tP zfw [t0] H K:=
 acb zl0 Tryz.func158 zsn h
theorem zOX:Lo3 (λt5 t6 t22=>zmh t0 t1 t5 t6 t21 t22) (λt5 t6 t22 H Kb6=>ziB t0 t1 t5 t6 t21 t22 H K Kb6) t5 t6 t22 H (zBv t0 t1 t5 t6 t21 t22 H K):=lq3 zmg zOY
theorem zOZ(h:HSc H→zsR t0 t1 H K):ACalls tP zpP [t0,t1] H K:=
 acb zmg Tryz.func171 zsS h
theorem zP2(h:HSc H→zmG t0 H K):ACalls tP zjE [t0] H K:=
 acb zP0 Tryz.func197 zP1 h
theorem zP6:Lo2 (λt5 t7=>zmH t5 t7) (λt5 t7 H Kb5=>zs8 t5 t7 H K Kb1 Kb5) t5 t7 H (zBQ t5 t7 H K Kb1):=lq2 zfT zP7
theorem zP5:Lo2 (λt0 t1=>ztb t0 t1) (λt0 t1 H Kb1=>zs7 t0 t1 H K Kb1) t0 t1 H (zBP t0 t1 H K):=lq2 zfT zBR
theorem zP8(h:HSc H→zBN t0 t1 H K):ACalls tP zpS [t0,t1] H K:=
 acb zfT Tryz.func198 zs9 h
theorem zQe(h:HSc H→zBS t0 t1 H K):ACalls tP zhM [t0,t1] H K:=
 acb zBT Tryz.func199 ztc h
theorem zQW(h:HSc H→zB3 t0 t1 H K):ACalls tP zpV [t0,t1] H K:=
 acb zQU Tryz.func216 zQV h
theorem zQ3:Lo2 (λt4 t9=>zmR t0 t4 t8 t9) (λt4 t9 H Kb3=>ztr t0 t4 t8 t9 H K Kb3) t4 t9 H (zB5 t0 t4 t8 t9 H K):=lq2 zmQ zQ4
theorem zQ5(h:HSc H→zB4 t0 H K):ACalls tP zjJ [t0] H K:=
 acb zmQ Tryz.func223 zts h
theorem zQ9:Lo2 (λt7 t8=>zmT t0 t1 t6 t7 t8) (λt7 t8 H Kb4=>ztt t0 t1 t6 t7 t8 H K Kb4) t7 t8 H (zB7 t0 t1 t6 t7 t8 H K):=lq2 zmS zRa
theorem zRb(h:HSc H→zB6 t0 t1 H K):ACalls tP zpW [t0,t1] H K:=
 acb zmS Tryz.func224 ztu h
theorem zVh(h:HSc H→zDz t0 H K):ACalls tP zjZ [t0] H K:=
 acb zVf Tryz.func80 zVg h
theorem zPg:Lo1 (λt9=>zms t0 t4 t5 t8 t9) (λt9 H Kb3=>zmr t0 t4 t5 t8 t9 H K Kb3) t9 H (zBA t0 t4 t5 t8 t9 H K):=lq1 zmq zPh
theorem zPi(h:HSc H→zBz t0 t1 H K):ACalls tP zjz [t0,t1] H K:=
 acb zmq Tryz.func175 zsW h
end
theorem zxl(L:List Nat)(hL:L.length≤1000000)(H:zaa)(K:Kt)(hK:K (.sl (zan (zbF L)) .none) H):
  ACalls tP zfw [.sl (zan L) .none] H K:=by
 refine ACalls.out (zNt λhs=>?_);simp[zAH];refine zNr (Inv:=λq t3 H'=>∃n:Nat,n≤L.length∧n=q∧t3=.int .i64 n∧H'=H∧zbF L=zbF (L.take n)) L.length ?_ ?_
 ·intro _;exact⟨L.length,by omega,rfl,by simp,rfl,by simp⟩
 ·rintro q t3 H' ⟨n,hn,rfl,rfl,rfl,eD⟩ eA d8 eC Kb ee;have fm:∀ (l:List Nat),l=zbF L→Out (List.length H') K (AV.sl (zan l) .none) H':=λl hl=>Out.one0 hs (.atom (.sl _ _)) rfl rfl (by rw[hl];exact hK);by_cases h0:n=0
  ·subst h0;simp[zl1];exact⟨zeb L,fm [] (by simpa[zbF]using eD.symm)⟩
  ·have hw:IntKind.i64.wrap ((n:Int)-1)=((n-1:Nat):Int):=by rw[zav (by omega) (by omega)];omega
   have d7:n-1<L.length:=by omega
   by_cases hz:L[n-1]=0
   ·simp[zl1,show 0<n by omega,hw,d7,hz];exact ee _ _ ⟨n-1,by omega,Back.here (by simp) hs (by simp[zl2,AV.sc,AV.scA,AV.scB,AV.scV]) ⟨_,rfl,n-1,by omega,rfl,rfl,rfl,by rw[eD,zyH (by omega) hn hz]⟩⟩
   ·have nW:(((L[n-1]:Nat):Int) == 0)=false:=by simp;omega
    simp[zl1,show 0<n by omega,hw,d7,nW];refine⟨⟨hn,zeb L⟩,?_⟩;rw[zzh];exact fm _ (by rw[eD,zyF (by omega) hn hz])
theorem zoY(n:Nat)(hn:n<18446744073709551616)(H:zaa)(K:Kt)(hK:K (.sl (zan (lim n)) .none) H):
  ACalls tP zgm [.int .u64 n] H K:=by
 refine ACalls.out (zM9 λhs=>?_);unfold zAB zlS;refine ALoop.own 3 zbo 1 rfl ?_;show zlS (.int .u64 n) (.sl [] (.own H.length)) (H++[.perm zbo 1 0]) (Out H.length K);refine zM7 (Inv:=λq t0 t3 H'=>∃ (m:Nat) (A:List Nat),m=q∧t0=.int .u64 m∧t3=.sl (zan A) (.own H.length)∧lim n=A++lim m∧m<18446744073709551616 ∧
  H'=H++[.perm zbo 1 A.length]) n ?_ ?_
 ·intro _;exact⟨n,[],rfl,rfl,rfl,by simp,hn,rfl⟩
 ·rintro q t0 t3 H' ⟨m,A,rfl,rfl,rfl,hA,hm,rfl⟩ eA d8 eC Kb ee;by_cases h0:m=0
  ·subst h0;simp[zsi];exact Out.one hs (.atom (.sl _ _)) rfl rfl (by simpa[hA]using hK)
  ·have hlA:A.length+1≤1000:=by have h1:=congrArg List.length hA;have h2:=zbW (n:=n) (k:=3) (by omega);rw[zcd h0]at h1;simp at h1;omega
   obtain⟨x,c,fF,e8,fC,e1,e2⟩:=zhm m hm;simp only[zsi];simp[show 0<m by omega,e1,e2,fC,zau,zaU,plain,AV.pd,zax,zaO,zaK];refine⟨⟨by omega,by omega⟩,?_⟩;rw[sN];refine ee _ _ ⟨c,by omega,Back.here (by simp) (hs.append (by simp[AB.sc])) (by simp[zlR,ux,AV.sc,AV.scA,AV.scB,AV.scV]) ⟨_,_,rfl,c,A++[x],rfl,rfl,rfl,?_,by omega,by simp⟩⟩;rw[hA,zcd h0,show m % 1000000000=x by omega,show m / 1000000000=c by omega];simp
theorem ACalls.frzV1{P:Program}{H:zaa}{f:FuncId}{K:Kt}(id e size n:Nat)(cs:List AV)(es:List (List AV))(hH:H[id]?=some (.vec e size n cs))(hp:plain cs=some es.flatten)(d8:es.length=n)(ep:∀c∈es,c.length=size)(h:ACalls P f [.sl es .none] (H.set id .dead) K):ACalls P f [.ov id n] H K:=by
 intro B w G vs hR hv;obtain⟨G',hE,iN,hd⟩:=hR.frzV hH hp d8 ep;refine(h B w G' vs iN ?_).mono λe w' ⟨v,r,H',G'',k1,k2,k3,k4,k5⟩=>⟨v,r,H',G'',k1,hE.trans k2,k3,k4,k5⟩;generalize vs.toList=l at *
 match l,hv with
 |[v],⟨h1,_⟩=>exact⟨hd v h1,trivial⟩
theorem zJq(L:List Nat)(hL:∀ x∈L,x<1000000000)(hl:L.length≤100000){id:Nat}{H:zaa}{K:Kt}(d9:H[id]?=some (.vec zbo 1 L.length (us L)))(hK:K (.sl (zan (lim (zaq L))) .none) (H.set id .dead)):
  ACalls tP zfw [.ov id L.length] H K:=by
 refine ACalls.frzV1 id zbo 1 L.length (us L) (zan L) d9 (by rw[zkJ,ziq]) (by simp) (zeb L) ?_;refine zxl L (by omega) _ _ ?_;rw[zfH L hL];exact hK
theorem zy4(L:List Nat)(hL:∀ x∈L,x<1000000000)(hl:L.length≤100000){id:Nat}{H:zaa}{K:Kt}(d9:H[id]?=some (.cells (us L)))(hK:K (.sl (zan (lim (zaq L))) .none) (H.set id .dead)):
  ACalls tP zfw [.ms id 0 L.length L.length] H K:=by
 refine ACalls.frz id 0 L.length L.length 1 (us L) (zan L) d9 (by simp) ?_ (by simp) (zeb L) (aa _) (args':=[.sl (zan L) .none]) ⟨.one .ms,trivial⟩ ?_
 ·rw[br,am (by simp),zkJ,ziq]
 ·refine zxl L (by omega) _ _ ?_;rw[zfH L hL];exact hK
theorem zj6(L:List Nat)(ma:∀ x∈L,x<4294967296)(hL:L.length≤50000)(H:zaa)(K:Kt)(hK:K (.sl (zan (lim (zaq L))) .none) H):
  ACalls tP zjv [.sl (zan L) .none] H K:=by
 refine ACalls.out (zNn λhs=>?_);have hsc:∀A:List Nat,HSc (H++[.vec zbo 1 A.length (us A)]):=λA=>hs.append (by simp[AB.sc,us,AV.scA,AV.scB]);simp[zAF,wi L.length (by omega)];refine⟨⟨by omega,by omega,by omega⟩,?_⟩;have kN:∀A:List Nat,(∀x∈A,x<1000000000)→zaq A=zaq L→A.length≤100000→zlZ (.ov H.length A.length) (H++[.vec zbo 1 A.length (us A)]) (Out H.length K):=by intro A hA he hl;unfold zlZ;refine zJq A hA hl (by simp) ?_;rw[he];simp;exact Out.one hs (.atom (.sl _ _)) rfl rfl hK
 refine zNl (Inv:=λq t3 t4 t13 H'=>∃ (i c:Nat) (A:List Nat),i≤L.length∧L.length-i=q∧t13=.int .i64 i∧t4=.int .u64 c∧t3=.ov H.length A.length∧A.length=i∧(∀ x∈A,x<1000000000)∧c≤5 ∧
  zaq A+1000000000 ^ i*c=zaq (L.take i)∧H'=H++[.vec zbo 1 A.length (us A)]) L.length ?_ ?_
 ·intro _;exact⟨0,0,[],by omega,rfl,rfl,rfl,rfl,rfl,by simp,by omega,by simp[zaq],rfl⟩
 ·rintro q t3 t4 t13 H' ⟨i,c,A,hi,rfl,rfl,rfl,rfl,js,hA,hc,hv,rfl⟩ eA d8 eC Kb ee;by_cases d7:i<L.length
  ·have hx:=ma L[i] (ah d7);have w1:IntKind.u64.wrap ((L[i]:Nat):Int)=L[i]:=zbL (by omega);obtain⟨s,fx⟩:∃ s,s=L[i]+c:=⟨_,rfl⟩;have w2:IntKind.u64.wrap (((L[i]:Nat):Int)+(c:Int))=(s:Int):=by rw[fx,←Int.natCast_add];exact zbL (by omega)
   obtain⟨x,c',fF,e8,fC,e1,e2⟩:=zhm s (by omega);simp only[zlX];simp[d7,w1,w2,e1,e2,fC,zau,zaU,plain,AV.pd,zax,zaO,zaK,wi i (by omega)];refine⟨⟨by omega,by omega⟩,?_⟩;have e3:us A++[AV.int .u32 (x:Int)]=us (A++[x]):=by simp[us]
   rw[e3];refine ee _ _ ⟨L.length-(i+1),by omega,Back.here (by simp) (by simpa using hsc (A++[x])) (by simp[zlY,ux,AV.sc,AV.scA,AV.scB,AV.scV]) ⟨_,_,_,rfl,i+1,c',A++[x],by omega,rfl,rfl,rfl,by simp,by simp[js],?_,by omega,?_,by simp⟩⟩
   ·intro y hy;rcases aX.1 hy with hy | hy
    ·exact hA y hy
    ·simp at hy;omega
   ·rw[zft,zgh L i d7,←hv,js,Nat.pow_succ];grind
  ·obtain rfl:i=L.length:=by omega
   rw[aq]at hv;by_cases h0:c=0
   ·subst h0;simp[zlX];exact kN A hA (by simpa using hv) (by omega)
   ·simp only[zlX];simp[show 0<c by omega,zec (show c<4294967296 by omega),zau,zaU,plain,AV.pd,zax,zaO,zaK];refine⟨⟨by omega,by omega⟩,?_⟩;have e3:us A++[AV.int .u32 (c:Int)]=us (A++[c]):=by simp[us]
    rw[e3];have:=kN (A++[c]) (λy hy=>by
     rcases aX.1 hy with hy|hy
     ·exact hA y hy
     ·simp at hy;omega) (by rw[zft,js];exact hv) (by simp;omega)
    simpa using this
end Go.Proofs.YtdmamdnkcefmmaaGreatDoor
