import Derived.Test.YtaifokkaaahdoaaGreatDoorKNum
import Derived.Test.YtaifokkaaahdoaaGreatDoorProg
import Derived.KernelRfl
import Derived.Test.YtaifokkaaahdoaaGreatDoorKGL7
import Derived.Test.YtaifokkaaahdoaaGreatDoorAbsQ1
import Derived.Test.YtaifokkaaahdoaaGreatDoorLF3
import Derived.Test.YtaifokkaaahdoaaGreatDoorKZ2
import Derived.Shelf.SlSortCmp.NoneTotal
import Derived.Test.YtaifokkaaahdoaaGreatDoorKGL6
import Derived.Test.YtaifokkaaahdoaaGreatDoorKGT
import Derived.Test.YtaifokkaaahdoaaGreatDoorKGL2
set_option linter.unusedSectionVars false
set_option linter.unusedSimpArgs false
set_option linter.unusedVariables false
set_option maxRecDepth 100000
namespace Go.Proofs.YtaifokkaaahdoaaGreatDoor
section
variable (t0 t1 t2 t3 t6 t7 t8 t11 t12 t13:AV) (H:zaa) (K:Kt) (Kb2 Kb3:Lt)
def zMM(_:Nat):List Bool:=[]
noncomputable def zMN:=Tryz.f13.body.getD .skip
def zAw:=zaw t0 H λt2 H=>zaw t1 H λt3 H=>apu H (zaf 0 t2) λt6=>apu H (zan false 1 t6 H) λt7=>apu H (zaf 0 t3) λt8=>apu H (zan false 1 t8 H) λt9=>zaF H (λH K'=>ACalls tP zkB [t7,t9] H K') λt10=>apu H (zaf 1 t2) λt11=>apu H (zan false 1 t11 H) λt12=>apu H (zaf 1 t3) λt13=>apu H (zan false 1 t13 H) λt14=>zaF H (λH K'=>ACalls tP zqK [t12,t14] H K') λt15=>apu H (zaf 2 t2) λt16=>apu H (zan false 1 t16 H) λt17=>apu H (zah 1 t17) λt18=>apu H (zaf 2 t3) λt19=>apu H (zan false 1 t19 H) λt20=>apu H (zah 1 t20) λt21=>zaF H (λH K'=>ACalls tP zkB [t18,t21] H K') λt22=>apu H (zau 1 [(.int .i64 0)] 3 [(0,t10),(1,t15),(2,t22)]) λt23=>zaF H (λH K'=>ACalls tP zqJ [t23] H K') λt24=>apm H t24 λt5=>zab .neq false t5 (.int .i64 0) λt26=>zag t26 (K t5 H) (zaf 2 t2 λt28=>zae false 1 t28 H λt29=>zaf 2 t3 λt30=>zae false 1 t30 H λt31=>ACalls tP zkC [t29,t31,(.fn zg7 [])] H λt32 H=>K t32 H)
def zno:Nat→List Bool|3=>rl false [3,1,2,3,9]|_=>[]
noncomputable def zt6:=Tryz.f30.body.getD .skip
noncomputable def zRQ:=Tryz.f30.results.toList
def znq:=ux 3 (t3::ux 2 (t6::t7::t8::ux 9 []))
def zRO:=zno 3
noncomputable def zRM:=zas [1,1,0,1,0,0] zt6
def zRL:=zat tP zno [1,1,0,1,0] zt6 (zaA tP zRQ K)
def zC2:=ALoop tP zRM (zRL K) (znq t3 t6 t7 t8) H
def znp:=zab .lss false t8 t7 λt9=>zag t9 (zai 1 t6 t8 λt10=>zae false 1 t10 H λt11=>zab .neq false t11 t3 λt14=>zag t14 (K t11 H) (zab .add false t8 (.int .i64 1) λt16=>Kb3 (znq t3 t6 t7 t16) H)) (K t3 H)
def zC1:=zah 1 t0 λt7=>zC2 (.int .i64 0) t0 t7 (.int .i64 0) H K
def zRR(_:Nat):List Bool:=[]
noncomputable def zRS:=Tryz.f31.body.getD .skip
def zC3:=ACalls tP zkN [t0] H λt8 H=>ACalls tP zkN [t1] H λt10 H=>zag t8 (zag t10 (K (.int .i64 0) H) (K (.int .i64 (-1)) H)) (zag t10 (K (.int .i64 1) H) (zab .lss false t0 t1 λt16=>zag t16 (K (.int .i64 (-1)) H) (zab .gtr false t0 t1 λt19=>zag t19 (K (.int .i64 1) H) (K (.int .i64 0) H))))
def zRX(_:Nat):List Bool:=[]
noncomputable def zRY:=Tryz.f32.body.getD .skip
def zC4:=ACalls tP zkO [t0] H λt8 H=>ACalls tP zkO [t1] H λt10 H=>zag t8 (zag t10 (K (.int .i64 0) H) (K (.int .i64 (-1)) H)) (zag t10 (K (.int .i64 1) H) (zab .lss false t0 t1 λt16=>zag t16 (K (.int .i64 (-1)) H) (zab .gtr false t0 t1 λt19=>zag t19 (K (.int .i64 1) H) (K (.int .i64 0) H))))
def znr:Nat→List Bool|2=>rl false [0,3,8,3,25]|_=>[]
noncomputable def zt7:=Tryz.f33.body.getD .skip
noncomputable def zR5:=Tryz.f33.results.toList
def zns:=t0::t1::t2::ux 8 (t11::t12::t13::ux 25 [])
def zR3:=znr 2
noncomputable def zR1:=zas [1,0,1,0,0] zt7
def zR0:=zat tP znr [1,0,1,0] zt7 (zaA tP zR5 K)
def zC6:=ALoop tP zR1 (zR0 K) (zns t0 t1 t2 t11 t12 t13) H
def zjf:=zab .lss false t13 t12 λt14=>zag t14 (zai 3 t11 t13 λt16=>zae true 3 t16 H λt17=>zay [(.int .i64 0),(.int .i64 0),.snil] H λt8 H=>zam 3 t8 t17 H λH=>zah 1 t1 λt20=>zab .geq false t13 t20 λt21=>zag t21 (K (.int .i64 1) H) (zai 3 t1 t13 λt24=>zae true 3 t24 H λt25=>zay [(.int .i64 0),(.int .i64 0),.snil] H λt9 H=>zam 3 t9 t25 H λH=>zae true 3 t8 H λt27=>zae true 3 t9 H λt28=>aCallV tP t2 [t27,t28] H λt29 H=>zab .neq false t29 (.int .i64 0) λt31=>zag t31 (K t29 H) (zab .add false t13 (.int .i64 1) λt33=>Kb2 (zns t0 t1 t2 t11 t12 t33) H))) (zah 1 t0 λt35=>zah 1 t1 λt37=>zab .lss false t35 t37 λt38=>zag t38 (K (.int .i64 (-1)) H) (K (.int .i64 0) H))
def zC5:=zah 1 t0 λt12=>zC6 t0 t1 t2 t0 t12 (.int .i64 0) H K
def zPb(_:Nat):List Bool:=[]
noncomputable def zPc:=Tryz.f16.body.getD .skip
def zs8:=zaw t0 H λt2 H=>zaw t1 H λt3 H=>zae true 3 t2 H λt5=>zae true 3 t3 H λt6=>ACalls tP zkF [t5,t6] H λt7 H=>ACalls tP ziv [t7] H λt8 H=>K t8 H
variable {t0 t1 t2 t3 t6 t7 t8 t11 t12 t13} {H} {K} {Kb2 Kb3}
theorem zMO(h:HSc H→zAw t0 t1 H K):ACalls tP zg7 [t0,t1] H K:=
 acb zMM Tryz.func13 zMN h
theorem zRN:Lo1 (λt8=>znq t3 t6 t7 t8) (λt8 H Kb3=>znp t3 t6 t7 t8 H K Kb3) t8 H (zC2 t3 t6 t7 t8 H K):=lq1 zno zRO
theorem zRP(h:HSc H→zC1 t0 H K):ACalls tP zqJ [t0] H K:=
 acb zno Tryz.func30 zt6 h
theorem zRT(h:HSc H→zC3 t0 t1 H K):ACalls tP zkB [t0,t1] H K:=
 acb zRR Tryz.func31 zRS h
theorem zRZ(h:HSc H→zC4 t0 t1 H K):ACalls tP zqK [t0,t1] H K:=
 acb zRX Tryz.func32 zRY h
theorem zR2:Lo1 (λt13=>zns t0 t1 t2 t11 t12 t13) (λt13 H Kb2=>zjf t0 t1 t2 t11 t12 t13 H K Kb2) t13 H (zC6 t0 t1 t2 t11 t12 t13 H K):=lq1 znr zR3
theorem zR4(h:HSc H→zC5 t0 t1 t2 H K):ACalls tP zkC [t0,t1,t2] H K:=
 acb znr Tryz.func33 zt7 h
theorem zBZ(h:HSc H→zs8 t0 t1 H K):ACalls tP zin [t0,t1] H K:=
 acb zPb Tryz.func16 zPc h
end
section
variable (t0:AV) (H:zaa) (K:Kt)
def zUG(_:Nat):List Bool:=[]
noncomputable def zUH:=Tryz.f69.body.getD .skip
def zD8:=zab .neq false t0 t0 λt5=>K t5 H
def zUJ(_:Nat):List Bool:=[]
noncomputable def zUK:=Tryz.f70.body.getD .skip
def zD9:=zab .neq false t0 t0 λt5=>K t5 H
variable {t0} {H} {K}
theorem zUI(h:HSc H→zD8 t0 H K):ACalls tP zkN [t0] H K:=
 acb zUG Tryz.func69 zUH h
theorem zUL(h:HSc H→zD9 t0 H K):ACalls tP zkO [t0] H K:=
 acb zUJ Tryz.func70 zUK h
end
theorem zx4(a:Int)(H:zaa)(K:AV→zaa→Prop)(hK:K (.bool false) H):ACalls tP zkN [.int .i64 a] H K:=by refine ACalls.out (zUI λhs=>?_);simp[zD8];exact zbB hs rfl rfl hK
theorem zx5(a:Int)(H:zaa)(K:AV→zaa→Prop)(hK:K (.bool false) H):ACalls tP zkO [.int .i64 a] H K:=by refine ACalls.out (zUL λhs=>?_);simp[zD9];exact zbB hs rfl rfl hK
theorem zwA(a b:Int)(H:zaa)(K:AV→zaa→Prop)(hK:K (.int .i64 (icmp a b)) H):ACalls tP zkB [.int .i64 a,.int .i64 b] H K:=by
 refine ACalls.out (zRT λhs=>?_);unfold zC3;refine zx4 _ _ _ (zx4 _ _ _ ?_);have hO:=zbB (K:=K) (H:=H) (r:=.int .i64 (icmp a b)) hs rfl rfl hK;by_cases h1:a<b
 ·simp[h1];simpa[icmp,h1]using hO
 ·by_cases h2:b<a
  ·simp[h1,h2];simpa[icmp,h1,h2]using hO
  ·simp[h1,h2];simpa[icmp,h1,h2]using hO
theorem zGq(a b:Int)(H:zaa)(K:AV→zaa→Prop)(hK:K (.int .i64 (icmp a b)) H):ACalls tP zqK [.int .i64 a,.int .i64 b] H K:=by
 refine ACalls.out (zRZ λhs=>?_);unfold zC4;refine zx5 _ _ _ (zx5 _ _ _ ?_);have hO:=zbB (K:=K) (H:=H) (r:=.int .i64 (icmp a b)) hs rfl rfl hK;by_cases h1:a<b
 ·simp[h1];simpa[icmp,h1]using hO
 ·by_cases h2:b<a
  ·simp[h1,h2];simpa[icmp,h1,h2]using hO
  ·simp[h1,h2];simpa[icmp,h1,h2]using hO
def orL:List Int→Int
 |[]=>0
 |a::l=>cor a (orL l)
theorem orI(l:List Int)(tok:Tok)(hl:l.length≤1000000)(H:zaa)(K:AV→zaa→Prop)(hK:K (.int .i64 (orL l)) H):ACalls tP zqJ [.sl (l.map λx=>[.int .i64 x]) tok] H K:=by
 refine ACalls.out (zRP λhs=>?_);simp[zC1];refine zRN (Inv:=λq t8 H'=>∃i:Nat,i≤l.length∧q=l.length-i∧t8=.int .i64 i∧orL (l.drop i)=orL l∧H'=H) l.length ?_ ?_
 ·intro _;exact⟨0,by omega,by omega,rfl,by simp,rfl⟩
 ·rintro q t8 H' ⟨i,hi,rfl,rfl,ho,rfl⟩ hsc hlen hsF Kb hKb;by_cases hlt:i<l.length
  ·rw[af hlt,orL]at ho;by_cases hz:l[i]=0
   ·rw[zwG hz]at ho;simp[znp,hlt,hz];rw[zaz (by omega) (by omega)];refine hKb _ _ ⟨l.length-(i+1),by omega,Back.here (aa _) hs ?_ ⟨_,rfl,i+1,by omega,rfl,by simp,ho,rfl⟩⟩;simpa[znq,AV.sc,AV.scV,AV.scA,AV.scB]using hsF
   ·rw[zwF hz]at ho;have hz:(l[i] != 0)=true:=by simpa using hz
    simp[znp,hlt,hz];rw[←ho]at hK;exact zbB hs rfl rfl hK
  ·simp[znp,hlt];obtain rfl:i=l.length:=by omega
   rw[au]at ho;rw[←ho]at hK;exact zbB hs rfl rfl hK
theorem zwB(ks ks':List VT)(hb:ks.length≤1000000)(hc:∀(i:Nat) (h:i<ks.length) (h':i<ks'.length) (H:zaa) (K:AV→zaa→Prop),K (.int .i64 (VT.cmp ks[i] ks'[i])) H→ACalls tP zg7 [.agg ks[i].cs,.agg ks'[i].cs] H K)(H:zaa)(K:AV→zaa→Prop)(hK:K (.int .i64 (VT.cmpL ks ks')) H):ACalls tP zkC [.sl (VT.css ks) .none,.sl (VT.css ks') .none,.fn zg7 []] H K:=by
 refine ACalls.out (zR4 λhs=>?_);simp[zC5];refine zR2 (Inv:=λq t13 H'=>∃i:Nat,i≤ks.length∧i≤ks'.length∧q=ks.length-i∧t13=.int .i64 i∧VT.cmpL (ks.drop i) (ks'.drop i)=VT.cmpL ks ks'∧H'=H) ks.length ?_ ?_
 ·intro _;exact⟨0,by omega,by omega,by omega,rfl,by simp,rfl⟩
 ·rintro q t8 H' ⟨i,hi,hi',rfl,rfl,ho,rfl⟩ hsc hlen hsF Kb hKb;by_cases hlt:i<ks.length
  ·obtain⟨x,y,z,hvx,hx,hy,hz⟩:=zaO ks[i];by_cases hlt':i<ks'.length
   ·have hle:¬ ks'.length≤i:=by omega
    obtain⟨x',y',z',hvx',hx',hy',hz'⟩:=zaO ks'[i];rw[VT.cmpL_drop hlt hlt']at ho;simp[zjf,hlt,hlt',hle,hvx,hvx',hx,hy,hz,hx',hy',hz'];rw[←hvx,←hvx'];refine hc i hlt hlt' _ _ ?_;by_cases hz:VT.cmp ks[i] ks'[i]=0
    ·rw[zwG hz]at ho;simp[hz];rw[zaz (by omega) (by omega)];refine hKb _ _ ⟨ks.length-(i+1),by omega,Back.same (aa _) hs ?_ ⟨_,rfl,i+1,by omega,by omega,rfl,by simp,ho,rfl⟩⟩;simp[zns,AV.sc,AV.scV,AV.scA,AV.scB]
    ·rw[zwF hz]at ho;have hz:(VT.cmp ks[i] ks'[i] != 0)=true:=by simpa using hz
     simp[hz];rw[←ho]at hK;exact Out.same rfl hs rfl rfl hK
   ·obtain rfl:i=ks'.length:=by omega
    rw[au,af hlt,VT.cmpL]at ho;simp[zjf,hlt,hvx,hx,hy,hz];rw[←ho]at hK;exact Out.same rfl hs rfl rfl hK
  ·obtain rfl:i=ks.length:=by omega
   rw[au]at ho;by_cases hnl:ks.length<ks'.length
   ·rw[af hnl,VT.cmpL]at ho;simp[zjf,hnl];rw[←ho]at hK;exact zbB hs rfl rfl hK
   ·have he:ks.length=ks'.length:=by omega
    rw[he,au,VT.cmpL]at ho;simp[zjf,hnl];rw[←ho]at hK;exact zbB hs rfl rfl hK
theorem zMP:∀(m:Nat) (v w:VT),v.nodes≤m→v.nodes≤1000000→∀(H:zaa) (K:AV→zaa→Prop),K (.int .i64 (VT.cmp v w)) H→ACalls tP zg7 [.agg v.cs,.agg w.cs] H K:=by
 intro m;induction m with
 |zero=>intro v w h;have:=v.nodes_pos;omega
 |succ m ih=>
  intro v w hv hb H K hK;obtain⟨k,n,ks⟩:=v;obtain⟨k',n',ks'⟩:=w;have hnl:VT.nodesL ks+1≤1000000:=by simpa[VT.nodes]using hb
  have hll:=VT.len_le ks;refine ACalls.out (zMO λhs=>?_);simp[VT.cs,zAw];refine zaC _ (λJ=>zwA _ _ _ _ ⟨rfl,rfl⟩) ?_;refine zaC _ (λJ=>zGq _ _ _ _ ⟨rfl,rfl⟩) ?_;refine zaC _ (λJ=>zwA _ _ _ _ ⟨rfl,rfl⟩) ?_;simp[zau,za4,plain,List.replicate];refine zaC _ (λJ=>orI [icmp k k',icmp n n',icmp ks.length ks'.length] _ (by simp) _ _ ⟨rfl,rfl⟩) ?_;by_cases hz:orL [icmp k k',icmp n n',icmp ks.length ks'.length]=0
  ·have hz':=hz;simp only[orL,zpt]at hz;simp[hz'];refine zwB ks ks' (by omega) (λi h h' H K hK=>?_) _ _ ?_
   ·have:=VT.kid_lt (k:=k) (n:=n) h;exact ih _ _ (by omega) (by omega) H K hK
   ·refine Out.same rfl hs rfl rfl ?_;simpa[VT.cmp,hz,cor]using hK
  ·have hzb:(orL [icmp k k',icmp n n',icmp ks.length ks'.length] != 0)=true:=by simpa using hz
   simp[hzb];refine Out.same rfl hs rfl rfl ?_;have e:VT.cmp (.mk k n ks) (.mk k' n' ks')=orL [icmp k k',icmp n n',icmp ks.length ks'.length]:=by simp only[VT.cmp,orL,cor]at hz ⊢;split <;> (try split) <;> (try split) <;> simp_all
   rwa [e]at hK
theorem zTc(a b:List VT)(ha:a.length≤1000000)(hb:∀v∈a,v.nodes≤1000000)(H:zaa)(K:Kt)(hK:K (.int .i64 (VT.cmpL a b)) H):ACalls tP zqQ [.sl (VT.css a) .none,.sl (VT.css b) .none] H K:=by refine ACalls.out (zTb λhs=>?_);unfold zDA;refine zwB a b ha (λi h h' H K hK=>zMP _ _ _ (aa _) (hb _ (ae h)) H K hK) _ _ ?_;exact zbB hs rfl rfl hK
theorem zrd:∀ {a b c d:List AV},plain a=some c→plain b=some d→plain (a++b)=some (c++d)
 |[],b,c,d,h,h'=>by simp[plain]at h;subst h;simpa using h'
 |x::a,b,c,d,h,h'=>by
  simp only[plain]at h;split at h
  ·rename_i p q hp hq;cases h;simp only[List.cons_append,plain];rw[hp,zrd hq h']
  ·cases h
theorem zID(v:VT):plain v.cs=some v.cs:=by obtain⟨k,n,ks⟩:=v;simp[VT.cs,plain,AV.pd]
theorem zyy:∀ l:List VT,plain (VT.css l).flatten=some (VT.css l).flatten
 |[]=>rfl
 |v::l=>by rw[VT.css,List.flatten_cons];exact zrd (zID v) (zyy l)
theorem zGN{l:List VT}:∀c∈VT.css l,c.length=3:=λc hc=>by rw[VT.css_map]at hc;obtain⟨v,_,rfl⟩:=aV.1 hc;simp
theorem zq1:∀ {l:List VT} {x:VT},x∈l→x.nodes≤VT.nodesL l
 |[],_,h=>by simp at h
 |v::l,x,h=>by
  rw[VT.nodesL];rcases aZ.1 h with rfl|h
  ·omega
  ·have:=zq1 h;omega
theorem zGO(l:List VT)(v:VT):VT.css (l++[v])=VT.css l++[v.cs]:=by simp[VT.css_map]
theorem zS8:∀(m:Nat) (l:List VT),VT.nodesL l≤m→VT.nodesL l≤1000000→∀(H:zaa) (K:Kt),K (.sl (VT.css l) .none) H→ACalls tP zkG [.sl (VT.css l) .none] H K:=by
 intro m;induction m with
 |zero=>
  intro l hm hb H K hK;cases l with
  |cons v l=>have:=v.nodes_pos;simp[VT.nodesL]at hm;omega
  |nil=>refine ACalls.out (zDz λhs=>?_);simp[zun,VT.css];refine zDy (Inv:=λq t3 t11 H'=>t11=.int .i64 0∧t3=.ov H.length 0∧H'=H++[.vec zaP 3 0 []]) 0 (λ_=>⟨rfl,rfl,rfl⟩) ?_;rintro q t3 t11 H' ⟨rfl,rfl,rfl⟩ hsc hlen hsF Kb hKb;simp[znF];exact⟨.sl [] .none,H,[.vec zaP 3 0 []],rfl,aa _,hs,.one (.vfz H.length zaP 3 0 [] [] (aa _) (by simp) rfl rfl (by simp)),hK⟩
 |succ m ih=>
  intro l hm hb H K hK;have hll:=VT.len_le l;obtain⟨L,hL⟩:∃L,L=H.length:=⟨_,rfl⟩;refine ACalls.out (zDz λhs=>?_);simp[zun];refine⟨by omega,?_⟩;rw[←hL];have hG:∀k,HSc (H++[.vec zaP 3 k (VT.css (l.take k)).flatten]):=λk=>hs.snoc (by
   simp only[AB.sc];rw[List.all_flatten,VT.css_map,List.all_map];simp[am])
  refine zDy (Inv:=λq t3 t11 H'=>∃i:Nat,i≤l.length∧l.length-i=q∧t11=.int .i64 i∧t3=.ov L i∧H'=H++[.vec zaP 3 i (VT.css (l.take i)).flatten]) l.length ?_ ?_
  ·intro _;exact⟨0,by omega,rfl,rfl,rfl,rfl⟩
  ·rintro q t3 t11 H' ⟨i,hi,rfl,rfl,rfl,rfl⟩ hsc hlen hsF Kb hKb;by_cases hlt:i<l.length
   ·obtain⟨C,hC⟩:∃C,C=(l[i]).cs:=⟨_,rfl⟩;have fin:∀J:zaa,znH (.ov L i) (.ptr (L+1) 0) (.sl (VT.css l) .none) (.int .i64 l.length) (.int .i64 i) (H++(.vec zaP 3 i (VT.css (l.take i)).flatten::.cells C::J)) (Out L K) Kb:=by
     intro J;have hg:(H++(AB.vec zaP 3 i (VT.css (l.take i)).flatten::.cells C::J))[L+1]?=some (.cells C):=by rw[hL];simp[List.getElem?_append]
     have hg0:(H++(AB.vec zaP 3 i (VT.css (l.take i)).flatten::.cells C::J))[L]?=some (.vec zaP 3 i (VT.css (l.take i)).flatten):=by rw[hL];simp[List.getElem?_append]
     unfold znH;simp only[zc5,hg,zfQ,zfO,aU];rw[hC,VT.cs_len,VT.cs_take];refine⟨by omega,?_⟩;rw[zd4];simp only[zax,za6,zaZ];rw[hC]at hg0;simp only[hg0];refine⟨by simp,⟨⟨trivial,trivial,trivial⟩,by simp;omega,by simp;omega⟩,?_⟩;simp;rw[wr (by omega)];have hst:(VT.css (l.take i)).flatten++(l[i]).cs=(VT.css (l.take (i+1))).flatten:=by rw[aj hlt,zGO,cR];simp
     have hset:∀x:AB,(H++(AB.vec zaP 3 i (VT.css (l.take i)).flatten::.cells (l[i]).cs::J)).set L x=(H++[x])++(.cells (l[i]).cs::J):=λx=>by rw[hL,ai _ _ (aa _)];simp
     rw[hst,hset];refine hKb _ _ ⟨l.length-(i+1),by omega,Back.at (J:=.cells (l[i]).cs::J) rfl (by simp) (hG _) ?_ ⟨_,_,rfl,i+1,by omega,rfl,rfl,rfl,rfl⟩⟩;simp[znG,ux,AV.sc,AV.scA,AV.scB,AV.scV,hL]
    obtain⟨⟨k,n,ks⟩,hv⟩:∃u,u=l[i]:=⟨_,rfl⟩;have hCe:C=[.int .i64 k,.int .i64 n,.sl (VT.css ks) .none]:=by rw[hC,←hv];rfl
    have hcl:VT.cs (l[i])=[.int .i64 k,.int .i64 n,.sl (VT.css ks) .none]:=by rw[←hv];rfl
    have hnd:=VT.nodesL_take hlt;have hnd2:=VT.nodesL_take_le l (i+1);have hkn:VT.nodesL ks<(l[i]).nodes:=by rw[←hv];simp[VT.nodes]
    have hgc:(H++[AB.vec zaP 3 i (VT.css (l.take i)).flatten,.cells [.int .i64 k,.int .i64 n,.sl (VT.css ks) .none]])[L+1]?=some (.cells [.int .i64 k,.int .i64 n,.sl (VT.css ks) .none]):=by rw[hL];simp[List.getElem?_append]
    simp[znF,hlt,hcl,AV.known];rw[←hL];by_cases hks:0<ks.length
    ·simp[hks];refine ih ks (by omega) (by omega) _ _ ?_;have hset:(H++[AB.vec zaP 3 i (VT.css (l.take i)).flatten,.cells [.int .i64 k,.int .i64 n,.sl (VT.css ks) .none]]).set (L+1) (.cells [.int .i64 k,.int .i64 n,.sl (VT.css ks) .none])=H++[AB.vec zaP 3 i (VT.css (l.take i)).flatten,.cells [.int .i64 k,.int .i64 n,.sl (VT.css ks) .none]]:=by rw[hL,ai _ _ (by omega)];simp
     rw[hgc];simp;rw[hset];have:=fin [];rw[hCe]at this;exact this
    ·simp[hks];have:=fin [];rw[hCe]at this;exact this
   ·obtain rfl:i=l.length:=by omega
    simp[znF];refine⟨.sl (VT.css l) .none,H,[.vec zaP 3 l.length (VT.css l).flatten],rfl,by omega,hs,.one (.vfz L zaP 3 l.length _ (VT.css l) (by omega) (by rw[hL];simp) (zyy l) (by simp) zGN),hK⟩
def zjx(xs:List Int)(i:Nat):Prop:=-1099511627776≤xs.getD i 0∧xs.getD i 0≤1099511627776∧(0<i→xs.getD (i-1) 0<xs.getD i 0)
def zgF(xs:List Int):Prop:=xs.length≤8∧∀i,i<xs.length→zjx xs i
theorem zxx{xs:List Int}{i:Nat}(h:i<xs.length):∀h':i<(ints xs).length,(ints xs)[i]'h'=[.int .i64 (xs.getD i 0)]:=λh'=>by simp[ints,List.getD_eq_getElem?_getD,h]
theorem zflq(xs:List Int):(ints xs).length=xs.length:=by simp[ints]
theorem zSJ(xs:List Int)(hl:xs.length≤1000000)(H:zaa)(K:Kt)(hK:∀b:Bool,(b=true↔zgF xs)→K (.bool b) H):ACalls tP zqO [.sl (ints xs) .none] H K:=by
 refine ACalls.out (zSH λhs=>?_);simp only[zDi,zeB,zflq];have bad:∀i,i<xs.length→¬zjx xs i→Out H.length K (.bool false) H:=λi hi h=>zbB hs rfl rfl (hK false ⟨(λhh=>by cases hh),(λh2=>absurd (h2.2 i hi) h)⟩);refine zSF (Inv:=λq t7 H'=>∃i:Nat,i≤xs.length∧xs.length-i=q∧t7=.int .i64 i∧(∀j,j<i→zjx xs j)∧H'=H) xs.length ?_ ?_
 ·intro _;exact⟨0,by omega,rfl,rfl,by omega,rfl⟩
 ·rintro q t7 H' ⟨i,hi,rfl,rfl,ha,rfl⟩ hsc hlen hsF Kb hKb;by_cases hlt:i<xs.length
  ·obtain⟨x,hx⟩:∃x,x=xs.getD i 0:=⟨_,rfl⟩;have g1:=zxx hlt;rw[←hx]at g1;have next:zjx xs i→Kb (zjh (.sl (ints xs) .none) (.sl (ints xs) .none) (.int .i64 xs.length) (.int .i64 (i+1:Nat))) H':=λh=>by
    refine hKb _ _ ⟨xs.length-(i+1),by omega,Back.here (aa _) hs (by simp[zjh,AV.sc,AV.scA,AV.scB,AV.scV,ux]) ⟨_,rfl,i+1,by omega,rfl,rfl,λj hj=>?_,rfl⟩⟩;by_cases e:j=i
    ·rw[e];exact h
    ·exact ha j (by omega)
   simp[zub,hlt,g1,zflq];by_cases c1:x < -1099511627776
   ·simp[c1];exact bad i hlt λh=>by have:=h.1;omega
   ·by_cases c2:1099511627776<x
    ·simp[c1,c2];exact bad i hlt λh=>by have:=h.2.1;omega
    ·by_cases c3:0<i
     ·have hi1:((i:Int)-1)=((i-1:Nat):Int):=by omega
      have hw:IntKind.i64.wrap ((i:Int)-1)=((i-1:Nat):Int):=by rw[zaz (by omega) (by omega)];omega
      obtain⟨y,hy⟩:∃y,y=xs.getD (i-1) 0:=⟨_,rfl⟩;have hlt1:i-1<xs.length:=by omega
      have g2:=zxx hlt1;rw[←hy]at g2;simp[c1,c2,c3,hw,g2,hlt1,zflq];by_cases c4:x≤y
      ·simp[c4];exact bad i hlt λh=>by have:=h.2.2 c3;omega
      ·simp[c4];rw[wr (by omega)];exact next ⟨by omega,by omega,λ_=>by omega⟩
     ·simp[c1,c2,c3];rw[wr (by omega)];exact next ⟨by omega,by omega,λh=>absurd h c3⟩
  ·obtain rfl:i=xs.length:=by omega
   simp[zub,zflq];refine zbB hs rfl rfl (hK _ ?_);simp only[aH];exact⟨λh=>⟨by omega,λj hj=>ha j hj⟩,λh=>by have:=h.1;omega⟩
section
open Go.Proofs (sortWorld ltOf CmpLays1)
open Go.RowKit
open Go.Sort (grow putRow putCells mapBlock onCells ahead SWO PermIn SortedIn Holds)
variable {P:Program} {B:Nat} {w:World} {G:Gh} {H:zaa}
theorem zHf{W w':World}(hd:W.drawn≤w'.drawn)(hb:Below W.heap.size W w'):∃q os,w'=grow (W.drewN q) os:=by
 refine⟨w'.drawn-W.drawn,w'.heap.extract W.heap.size w'.heap.size,?_⟩;obtain⟨h1,h2,h3,h4,h5⟩:=hb;obtain⟨heap,tape,drawn,os,output⟩:=W;obtain⟨heap',tape',drawn',os',output'⟩:=w';simp only at *;subst h1 h2 h3;have e1:heap'=heap++heap'.extract heap.size heap'.size:=by
  refine Array.ext_getElem? λi=>?_;by_cases hi:i<heap.size
  ·rw[Array.getElem?_append_left hi,h5 i hi]
  ·rw[Array.getElem?_append_right (by omega),Array.getElem?_extract];by_cases h:i<heap'.size
   ·rw[aB (by omega),show heap.size+(i-heap.size)=i by omega]
   ·rw[ap (by omega),Array.getElem?_eq_none (by omega)]
 have e2:drawn'=drawn+(drawn'-drawn):=by omega
 simp only[grow,World.drewN];rw[←e1,←e2]
theorem HRel.alone(h:HRel B w G H)(o:Obj):Ext B w G (w.alloc o) G∧HRel B (w.alloc o) G H:=by have he:=Ext.alloc h o G.L (λ_ _=>rfl) [];simp only[aE]at he;refine⟨he,h.keep he rfl (λid gi b h1 h2=>⟨zdp (h.lt id gi b h1 h2),rfl⟩) (λb hb=>?_)⟩;rw[zcj]at hb;exact h.fresh b (by omega)
theorem HRel.grown:∀ (os:List Obj) {w:World},HRel B w G H→Ext B w G (grow w os.toArray) G∧HRel B (grow w os.toArray) G H
 |[],w,h=>by
  have:grow w #[]=w:=by simp[grow]
  rw[show ([]:List Obj).toArray=#[] from rfl,this];exact⟨Ext.refl _ _ _,h⟩
 |o::l,w,h=>by
  obtain⟨h1,h2⟩:=h.alone o;obtain⟨h3,h4⟩:=HRel.grown l h2;have:grow w (o::l).toArray=grow (w.alloc o) l.toArray:=by rw[Go.Sort.alloc_eq_grow,Go.Sort.grow_grow];simp
  rw[this];exact⟨h1.trans h3,h4⟩
theorem zIJ{α:Type}[Inhabited α](vals:α→Value)(d:Array α)(cur:Array Value)(h:d.size≤cur.size):(putCells vals 0 d cur).toList.take d.size=d.toList.map vals:=by refine bT (by simp[putCells];omega) λi h1 h2=>?_;simp at h2;simp[putCells,h2]
theorem HRel.sorted{α:Type}[Inhabited α](h:HRel B w G H){id e n g cap:Nat}{cs cs':List AV}(hH:H[id]?=some (.vec e 1 n cs))(hμ:G.μ[id]?=some (.own (.slice (some ⟨g,0,none⟩) n cap) 1 n))(vals:α→Value)(d:Array α)(hd:d.size=n)(hc:All2 (ARel w G) (d.toList.map vals) cs')(m:Nat)(os:Array Obj):
  Ext B w G (sortWorld vals w g 0 m d os) G∧HRel B (sortWorld vals w g 0 m d os) G (H.set id (.vec e 1 n cs')):=by
 obtain⟨_,_,⟨xs,⟨hxl,ho⟩,hxc⟩,hL0⟩:=h.ok id _ _ hH hμ;rcases ho with ⟨h1,_⟩|⟨g',cap',cur,h1,hB,hw,hcap,hcm,hsz,htk⟩
 ·cases h1
 cases h1;have h1:=h.storeV (cur':=putCells vals 0 d cur) (xs':=d.toList.map vals) hH hμ hw hB hcap hcm (by simp[putCells,hsz]) (by rw[bK,←hd];exact zIJ vals d cur (by omega)) (by simp[hd]) hc;obtain⟨hE1,hR1⟩:=h1;have hE2:=Ext.drew B (w.setRow g (putCells vals 0 d cur)) G ((w.setRow g (putCells vals 0 d cur)).drawn+m) (cM _ _);have hR2:=hR1.drew ((w.setRow g (putCells vals 0 d cur)).drawn+m) (cM _ _);obtain⟨hE3,hR3⟩:=HRel.grown os.toList hR2;have heq:sortWorld vals w g 0 m d os=grow { w.setRow g (putCells vals 0 d cur) with drawn:=(w.setRow g (putCells vals 0 d cur)).drawn+m } os.toList.toArray:=by
  have hh:w.heap.modify g (onCells (putCells vals 0 d))=(w.setRow g (putCells vals 0 d cur)).heap:=by
   unfold World.setRow;refine Array.ext_getElem? λi=>?_;simp only[Array.getElem?_modify];by_cases hi:g=i
   ·subst hi;simp[hw,onCells]
   ·simp[hi]
  have e:sortWorld vals w g 0 m d os=grow { w with heap:=w.heap.modify g (onCells (putCells vals 0 d)),drawn:=w.drawn+m } os:=rfl;rw[e,hh,Array.toArray_toList];rfl
 rw[heq];exact⟨(hE1.trans hE2).trans hE3,hR3⟩
def Lx(w:World)(G:Gh)(blk b:Nat):Nat:=if b=blk then 0 else max (G.L b) (zbO w b)
def Rd(H:zaa)(id0:Nat)(a:AV)(row:List (List AV)):Prop:=
 a=.sl row .none ∨
 (∃id off len cap size cs,a=.ms id off len cap∧H[id]?=some (.cells cs)∧off+len*size≤cs.length∧plain ((cs.drop off).take (len*size))=some row.flatten∧row.length=len∧(∀c∈row,c.length=size)∧len≤cap) ∨
 (∃id e size m cs,a=.ov id m∧id≠id0∧H[id]?=some (.vec e size m cs)∧plain cs=some row.flatten∧row.length=m∧∀c∈row,c.length=size)
theorem Rd.rel(h:HRel B w G H){id e n g cap:Nat}{cs:List AV}(hH:H[id]?=some (.vec e 1 n cs))(hμ:G.μ[id]?=some (.own (.slice (some ⟨g,0,none⟩) n cap) 1 n)){a:AV}{row:List (List AV)}(hr:Rd H id a row){v:Value}(hv:ARel w G v a):
  DRel w (Lx w G g) v (.sl row .none):=by
 obtain⟨_,_,_,hL0⟩:=h.ok id _ _ hH hμ;have hLg:G.L g=0:=hL0 g rfl;have hlev:∀b,G.L b≤Lx w G g b:=λb=>by
  unfold Lx;split
  ·rename_i hb;rw[hb,hLg];exact aa _
  ·exact Nat.le_max_left _ _
 have hmono:∀{v:Value} {a:AV},DRel w G.L v a→DRel w (Lx w G g) v a:=λh=>h.mono hlev λ_ _ _=>rfl;rcases hr with rfl|⟨i2,off,len,cap2,size,cs2,rfl,hH2,hfit,hp,hlen,hsz,hcap⟩|⟨i2,e2,size,m,cs2,rfl,hne,hH2,hp,hlen,hsz⟩
 ·exact hmono hv
 ·obtain⟨b,hb,rfl⟩:=hv;obtain⟨_,_,vs,_,hw,hcs⟩:=h.ok i2 _ _ hH2 hb;have hbg:b≠g:=λhbg=>by have:=h.dist i2 id _ _ b hb hμ rfl (by rw[hbg];rfl);subst this;rw[hH]at hH2;cases hH2
  subst hlen;by_cases hes:row=[]
  ·subst hes;exact .slE _ _
  ·have hl:=hcs.length;refine DRel.of_flat_at (zs:=(vs.toList.drop off).take (row.length*size)) hsz hes hcap ?_ ((zeL ((hcs.drop off).take _) hp).mono λ_ _=>hmono) ?_
   ·unfold Lx;rw[ap hbg];refine aC ?_ (Nat.le_max_right _ _);simp[zbO,hw];simp at hl;omega
   ·intro j u hj;rw[List.getElem?_take]at hj;split at hj
    ·simp only[World.cell?,hw];simpa using hj
    ·cases hj
 ·obtain⟨⟨a,cap0,rfl,_⟩,v',s0,n',hμ2,_,heq⟩:=hv;obtain⟨rfl,rfl,⟨xs,hown,hcs⟩,_⟩:=h.ok i2 _ _ hH2 hμ2;obtain rfl:=heq rfl;subst hlen;by_cases hes:row=[]
  ·subst hes;exact .slE _ _
  ·have hown2:=hown;obtain⟨hl,hrow⟩:=hown2;rcases hrow with ⟨h1,h2⟩ | ⟨g2,cap2,cur,h1,h2,h3,h4,h5,h6,h7⟩
   ·cases row <;> simp_all
   ·simp at h1;obtain⟨rfl,rfl⟩:=h1;obtain⟨_,_,_,hcell⟩:=zdL hown;have hbg:g2≠g:=λhbg=>hne (h.dist i2 id _ _ g2 hμ2 hμ rfl (by rw[hbg];rfl));refine DRel.of_flat_at (zs:=xs) hsz hes h4 ?_ ((zeL hcs hp).mono λ_ _=>hmono) ?_
    ·unfold Lx;rw[ap hbg];refine aC ?_ (Nat.le_max_right _ _);simp only[zbO,h3,h6,aF];exact aq _ h4
    ·intro j u hj;rw[aF,hcell j (by rw[←hl];exact(List.getElem?_eq_some_iff.1 hj).1)];exact hj
theorem zwT{α:Type}(d:Array α){k:Nat}(h:d.size=k):d.extract 0 k=d:=by subst h;exact Array.extract_size
theorem zIf(n:Nat):((Array.ofFn λi:Fin n=>i).toList.map Fin.val)=List.range n:=
 bT (by simp) λi h1 h2=>by simp only[di,Array.getElem_toList,Array.getElem_ofFn,List.getElem_range]
theorem zJj{α:Type}[Inhabited α](vals:α→Value)(w:World)(g m:Nat)(d:Array α)(os:Array Obj):w.heap.size≤(sortWorld vals w g 0 m d os).heap.size:=by unfold sortWorld;simp[grow]
theorem zJi{α:Type}[Inhabited α](vals:α→Value)(w:World)(g m:Nat)(d:Array α)(os:Array Obj)(a:Addr)(h1:a.block≠g)(h2:a.block<w.heap.size):(sortWorld vals w g 0 m d os).cell? a=w.cell? a:=by unfold sortWorld;rw[Go.Sort.cell?_grow _ _ _ (by rw[Go.Sort.size_putRow];exact h2),Go.Sort.cell?_putRow_other vals _ g 0 d a (Or.inl h1)];rfl
theorem zJk(h:HRel B w G H){n g f:Nat}{vals:Fin n→Value}[Inhabited (Fin n)]{rows:Nat→List (List AV)}{cf:Nat→Nat→Int}(hd:∀i:Fin n,DRel w (Lx w G g) (vals i) (.sl (rows i) .none))(hcmp:∀i j,i<n→j<n→ACalls P f [.sl (rows i) .none,.sl (rows j) .none] [] λr _=>r=.int .i64 (cf i j)):CmpLays1 P f #[] vals (λi j=>cf i j) g 0 n w:=by
 intro m os dk hdk x y;have hL:∀b,(sortWorld vals w g 0 m dk os).heap.size≤b→Lx w G g b=0:=λb hb=>by
  have:=zJj vals w g m dk os;unfold Lx;split
  ·rfl
  ·rw[h.fresh b (by omega)];simp only[zbO];rw[Array.getElem?_eq_none (by omega)];rfl
 have hmono:∀{v:Value} {a:AV},DRel w (Lx w G g) v a→DRel (sortWorld vals w g 0 m dk os) (Lx w G g) v a:=λhx=>hx.mono (λ_=>aa _) λb off ho=>by
  refine zJi vals w g m dk os ⟨b,off,none⟩ ?_ ?_
  ·intro hb;have hb:b=g:=hb;simp[Lx,hb]at ho
  ·show b<w.heap.size;refine cw λhb=>?_;unfold Lx at ho;split at ho
   ·omega
   ·rw[h.fresh b (by omega)]at ho;simp only[zbO]at ho;rw[Array.getElem?_eq_none (by omega)]at ho;simp at ho
 refine (hcmp x y x.2 y.2 (sortWorld vals w g 0 m dk os).heap.size (sortWorld vals w g 0 m dk os) ⟨Lx w G g,[]⟩ #[vals x,vals y]
  ⟨rfl,λ_ _ _ h=>by simp at h,λ_ _ _ _ _ h=>by simp at h,hL,λ_ _ _ h=>by simp at h,aa _⟩ ⟨hmono (hd x),hmono (hd y),trivial⟩).mono ?_
 rintro e w' ⟨v,r,H',G',rfl,h2,_,h4,rfl⟩;have h4:v=.int .i64 (cf x y):=h4;subst h4;exact⟨rfl,zHf (h2.dr.le (by simp[ze4])) h2.below⟩
theorem ACalls.sortFunc{ρ:Go.Shelf.Ren}(L:Go.Proofs.SlLaysF.n6 P ρ){id e n f:Nat}{cs:List AV}(hH:H[id]?=some (.vec e 1 n cs))(hn:n<4611686018427387904)(rows:Nat→List (List AV))(cf:Nat→Nat→Int)(hrd:∀ i (h:i<cs.length),Rd H id cs[i] (rows i))(eg:∀ args w,(callFunc f args).run P w=.ok (.enter f args) w)(hcmp:∀ i j,i<n→j<n→ACalls P f [.sl (rows i) .none,.sl (rows j) .none] [] λr _=>r=.int .i64 (cf i j))(hO1:∀ i,i<n→¬ cf i i<0)(hO2:∀ i j k,i<n→j<n→k<n→cf i j<0→cf j k<0→cf i k<0)(hO3:∀ i j k,i<n→j<n→k<n→¬ cf i j<0→¬ cf j k<0→¬ cf i k<0){K:Kt}(hK:∀ p:List Nat,p.Perm (List.range n)→(∀ a b (ha:a<p.length) (hb:b<p.length),a<b→¬ cf p[b] p[a]<0)→K (.tup []) (H.set id (.vec e 1 n (p.map λi=>cs.getD i .unk)))):
  ACalls P (ρ.f 6) [.ov id n,.fn f []] H K:=by
 rintro B w G ⟨vs⟩ hR hv
 match vs,hv with
 |[v1,v2],⟨h1,h2,_⟩=>
 obtain⟨⟨a0,cap0,rfl,_⟩,v',s0,n',hμ,hle,heq⟩:=h1;obtain⟨ws,rfl,hws⟩:=h2;have hws:ws=#[]:=by
  cases hwl:ws.toList with
  |nil=>exact Array.toList_inj.1 hwl
  |cons x l=>rw[hwl]at hws;exact hws.elim
 subst hws;obtain⟨rfl,rfl,⟨xs,hown,hcs⟩,hL0⟩:=hR.ok id _ _ hH hμ;obtain rfl:=heq rfl;have hxl:=hown.1;have hcl:=hcs.length;rw[bK]at hxl
 match n,hxl,hH,hn,hcmp,hO1,hO2,hO3,hK,hμ,hown with
 |0,hxl,hH,hn,hcmp,hO1,hO2,hO3,hK,hμ,hown=>
  refine(Go.Proofs.AnyF.slices_SortFunc_none (P:=P) (ρ:=ρ) { L with } a0 cap0 _ w).mono ?_;rintro e' w' ⟨rfl,rfl⟩;have hc:cs=[]:=by
   cases cs with
   |nil=>rfl
   |cons x l=>simp at hcl;omega
  subst hc;have:=hK [] (by simp) (by simp);refine⟨_,.tup [],_,G,rfl,Ext.refl _ _ _,?_,⟨#[],rfl,trivial⟩,this⟩;have hs:H.set id (.vec e 1 0 [])=H:=by
   refine aI λi=>?_;rw[List.getElem?_set];split
   ·rename_i hi;subst hi;rw[aB (List.getElem?_eq_some_iff.1 hH).1,hH]
   ·rfl
  simpa[hs]using hR
 |n+1,hxl,hH,hn,hcmp,hO1,hO2,hO3,hK,hμ,hown=>
  obtain⟨_,ho⟩:=hown;rcases ho with ⟨h1,h0⟩|⟨g,cap,cur,h1,hB,hw,hcap,hcm,hsz,htk⟩
  ·omega
  cases h1;have hwl:g<w.heap.size:=(Array.getElem?_eq_some_iff.1 hw).1;let vals:Fin (n+1)→Value:=λi=>xs[i.1]'(by rw[hxl];exact i.2);have hval:∀i:Fin (n+1),ARel w G (vals i) (cs[i.1]'(by rw[←hcl,hxl];exact i.2)):=λi=>by obtain⟨x,hx,hr⟩:=All2.get hcs (List.getElem?_eq_getElem (by rw[←hcl,hxl];exact i.2:i.1<cs.length));rw[List.getElem?_eq_getElem (by rw[hxl];exact i.2)]at hx;cases hx;exact hr
  have hdr:∀i:Fin (n+1),DRel w (Lx w G g) (vals i) (.sl (rows i) .none):=λi=>(hrd i.1 (by rw[←hcl,hxl];exact i.2)).rel hR hH hμ (hval i);have hone:Go.Proofs.OneCell vals:=λi=>by have:=hdr i;generalize vals i=v at *;generalize rows i.1=r at *;cases this <;> rfl
  have hlays:=zJk (P:=P) (f:=f) (n:=n+1) hR hdr hcmp;let d:Array (Fin (n+1)):=Array.ofFn λi=>i
  have hds:d.size=n+1:=by simp[d]
  have hholds:Holds vals w g 0 d:=by
   intro j hj;rw[hds]at hj;have hc:cur[j]?=some (vals ⟨j,hj⟩):=by have:xs[j]?=some (vals ⟨j,hj⟩):=List.getElem?_eq_getElem _;rw[←htk,bK,List.getElem?_take,aB hj]at this;simpa using this
   refine⟨?_,?_⟩
   ·rw[aF];have hdj:d[j]! = ⟨j,hj⟩:=by rw[getElem!_pos d j (by rw[hds];exact hj)];simp[d]
    rw[hdj];simp[World.cell?,hw,hc]
   ·simp[World.frozen?,hw]
  have hO:SWO (ltOf λi j:Fin (n+1)=>cf i j):=⟨λx=>by simp only[ltOf,bv];exact hO1 x x.2,
   λx y z h1 h2=>by simp only[ltOf,aH]at *;exact hO2 x y z x.2 y.2 z.2 h1 h2,
   λx y z h1 h2=>by simp only[ltOf,bv]at *;exact hO3 x y z x.2 y.2 z.2 h1 h2⟩
  have hmain:=Go.Proofs.Any.slices_SortFunc (P:=P) (ρ:=ρ) L vals hone (λi j=>cf i j) hO f #[] g 0 cap0 d w eg (by rw[hds];exact hlays) hholds hwl (by rw[hds];exact hn);rw[hds]at hmain;refine hmain.mono ?_;rintro e' w' ⟨rfl,d',m,os,hp,hsrt,rfl⟩;obtain⟨hp1,_,hp3⟩:=hp;have hds':d'.size=n+1:=hp1.trans hds;have hpm:(d'.toList.map Fin.val).Perm (List.range (n+1)):=by
   have h1:d'.toList.Perm d.toList:=by have e1:(d'.extract 0 (n+1))=d':=zwT d' hds';have e2:(d.extract 0 (n+1))=d:=zwT d hds;rwa [e1,e2]at hp3
   exact(h1.map Fin.val).trans (List.Perm.of_eq (zIf _))
  have hS:=hR.sorted hH hμ vals d' hds' (cs':=(d'.toList.map Fin.val).map λi=>cs.getD i .unk) (All2.of_get (by simp) λi x y hx hy=>by
   simp only[cK,List.getElem?_map,Option.map_eq_some_iff]at hx hy;obtain⟨k,hk,rfl⟩:=hx;obtain⟨k',hk',rfl⟩:=hy;rw[hk]at hk';cases hk';have hlt:k.1<cs.length:=by rw[←hcl,hxl];exact k.2
   have:=hval k;simp only[Function.comp_def,List.getD_eq_getElem?_getD,List.getElem?_eq_getElem hlt,Option.getD_some];exact this) m os
  refine⟨_,.tup [],_,G,rfl,hS.1,hS.2,⟨#[],rfl,trivial⟩,hK _ hpm λa b ha hb hab=>?_⟩;simp only[aS,Array.length_toList]at ha hb;have:=hsrt a b (bz _) hab (by omega);rw[getElem!_pos d' a ha,getElem!_pos d' b hb]at this;simp only[ltOf,bv]at this;simpa using this
end
section
open Go.Shelf
def zKV:Go.Shelf.Ren:=⟨λ| 6=>49|15=>91|14=>90|28=>127|29=>128|20=>119|21=>120|22=>121|23=>122|24=>123|25=>124|26=>125|27=>126|46=>164|47=>165|48=>166|49=>167|50=>168|57=>187|n=>n,λ| 22=>47|24=>26|25=>86|3=>3|39=>133|0=>0|53=>90|55=>89|4=>4|46=>166|45=>165|50=>122|5=>5|9=>9|66=>197|70=>64|76=>232|77=>233|n=>n,λ| n=>n⟩
theorem zKU:Go.Proofs.SlLaysF.n6 tP zKV:={
 mixed:=by kernel_rfl
 f6:=⟨Tryz.f49.name,by decide,Tryz.func49.trans (congrArg some (by kernel_rfl))⟩
 f14:=⟨Tryz.f90.name,by decide,Tryz.func90.trans (congrArg some (by kernel_rfl))⟩
 f15:=Tryz.func91.trans (congrArg some (by kernel_rfl))
 f20:=⟨Tryz.f119.name,by decide,Tryz.func119.trans (congrArg some (by kernel_rfl))⟩
 f21:=⟨Tryz.f120.name,by decide,Tryz.func120.trans (congrArg some (by kernel_rfl))⟩
 f22:=⟨Tryz.f121.name,by decide,Tryz.func121.trans (congrArg some (by kernel_rfl))⟩
 f23:=⟨Tryz.f122.name,by decide,Tryz.func122.trans (congrArg some (by kernel_rfl))⟩
 f24:=⟨Tryz.f123.name,by decide,Tryz.func123.trans (congrArg some (by kernel_rfl))⟩
 f25:=⟨Tryz.f124.name,by decide,Tryz.func124.trans (congrArg some (by kernel_rfl))⟩
 f26:=⟨Tryz.f125.name,by decide,Tryz.func125.trans (congrArg some (by kernel_rfl))⟩
 f27:=⟨Tryz.f126.name,by decide,Tryz.func126.trans (congrArg some (by kernel_rfl))⟩
 f28:=Tryz.func127.trans (congrArg some (by kernel_rfl))
 f29:=Tryz.func128.trans (congrArg some (by kernel_rfl))
 f46:=⟨Tryz.f164.name,by decide,Tryz.func164.trans (congrArg some (by kernel_rfl))⟩
 f47:=Tryz.func165.trans (congrArg some (by kernel_rfl))
 f48:=Tryz.func166.trans (congrArg some (by kernel_rfl))
 f49:=⟨Tryz.f167.name,by decide,Tryz.func167.trans (congrArg some (by kernel_rfl))⟩
 f50:=⟨Tryz.f168.name,by decide,Tryz.func168.trans (congrArg some (by kernel_rfl))⟩
 f57:=⟨Tryz.f187.name,by decide,Tryz.func187.trans (congrArg some (by kernel_rfl))⟩
 t0:=Tryz.underlying0
 a0:=Tryz.isAgg0
 z0:=Tryz.sizeOf0
 v0:=Tryz.zeroValue0
 t3:=Tryz.underlying3
 a3:=Tryz.isAgg3
 z3:=Tryz.sizeOf3
 v3:=Tryz.zeroValue3
 t4:=Tryz.underlying4
 a4:=Tryz.isAgg4
 z4:=Tryz.sizeOf4
 v4:=Tryz.zeroValue4
 t5:=Tryz.underlying5
 a5:=Tryz.isAgg5
 z5:=Tryz.sizeOf5
 v5:=Tryz.zeroValue5
 t9:=Tryz.underlying9
 a9:=Tryz.isAgg9
 z9:=Tryz.sizeOf9
 v9:=Tryz.zeroValue9
 t22:=Tryz.underlying47
 a22:=Tryz.isAgg47
 z22:=Tryz.sizeOf47
 v22:=Tryz.zeroValue47
 a24:=Tryz.isAgg26
 z24:=Tryz.sizeOf26
 t25:=Tryz.underlying86
 a25:=Tryz.isAgg86
 z25:=Tryz.sizeOf86
 v25:=Tryz.zeroValue86
 t39:=Tryz.underlying133
 a39:=Tryz.isAgg133
 z39:=Tryz.sizeOf133
 v39:=Tryz.zeroValue133
 t45:=Tryz.underlying165
 a45:=Tryz.isAgg165
 z45:=Tryz.sizeOf165
 v45:=Tryz.zeroValue165
 t46:=Tryz.underlying166
 a46:=Tryz.isAgg166
 z46:=Tryz.sizeOf166
 v46:=Tryz.zeroValue166
 t50:=Tryz.underlying122
 a50:=Tryz.isAgg122
 z50:=Tryz.sizeOf122
 v50:=Tryz.zeroValue122
 t53:=Tryz.underlying90
 a53:=Tryz.isAgg90
 z53:=Tryz.sizeOf90
 v53:=Tryz.zeroValue90
 t55:=Tryz.underlying89
 a55:=Tryz.isAgg89
 z55:=Tryz.sizeOf89
 v55:=Tryz.zeroValue89
 t66:=Tryz.underlying197
 a66:=Tryz.isAgg197
 z66:=Tryz.sizeOf197
 v66:=Tryz.zeroValue197
 t70:=Tryz.underlying64
 a70:=Tryz.isAgg64
 z70:=Tryz.sizeOf64
 v70:=Tryz.zeroValue64
 t76:=Tryz.underlying232
 a76:=Tryz.isAgg232
 z76:=Tryz.sizeOf232
 v76:=Tryz.zeroValue232
 t77:=Tryz.underlying233
 a77:=Tryz.isAgg233
 z77:=Tryz.sizeOf233
 v77:=Tryz.zeroValue233 }
end
def cle(a b:List VT):Prop:=¬VT.cmpL b a<0
def llC(l:List (List VT)):List AV:=l.map λr=>.sl (VT.css r) .none
theorem zHF(l:List (List VT)):(llA l).flatten=llC l:=by
 unfold llA llC;induction l with
 |nil=>rfl
 |cons r l ih=>rw[aA,List.flatten_cons,ih];rfl
@[simp] theorem yaH(l:List (List VT)):(llC l).length=l.length:=by simp[llC]
theorem zHG(a b:List (List VT)):llC (a++b)=llC a++llC b:=by simp[llC]
theorem zyA:∀ l:List (List VT),plain (llC l)=some (llC l)
 |[]=>rfl
 |r::l=>by have ih:=zyA l;unfold llC at ih ⊢;rw[aA,plain,ih];rfl
theorem zHH(m:Nat)(l:List (List VT)):(llC l).all (AV.scA m)=true:=by simp[llC,AV.scA,AV.scB]
theorem zHE{l:List (List VT)}:∀c∈llA l,c.length=1:=λc hc=>by obtain⟨r,_,rfl⟩:=aV.1 hc;rfl
theorem zHC{l:List (List VT)}(hl:l.length≤1000000)(hr:∀ r∈l,VT.nodesL r≤1000000){H J:zaa}(hs:HSc H)(hJ:HSc (H++J)){K:Kt}(hK:∀ L,L.Perm l→L.Pairwise cle→K (.tup [.sl (llA L) .none,.int .i64 0]) H):
  zmY .snil (.sl (llA l) .none) (.int .i64 l.length) (.int .i64 0) (H++J) (Out H.length K):=by
 refine ALoop.vec 16 zbj 1 rfl ?_;obtain⟨A,hA⟩:∃A,A=H++J:=⟨_,rfl⟩;have hAH:H.length≤A.length:=by rw[hA];simp
 rw[←hA]at hJ ⊢;obtain⟨N,hN⟩:∃N,N=A.length:=⟨_,rfl⟩;rw[←hN];show zmY (.ov N 0) (.sl (llA l) .none) (.int .i64 l.length) (.int .i64 0) (A++[.vec zbj 1 0 []]) (Out H.length K);have hg:∀k cs J',(A++(AB.vec zbj 1 k cs::J'))[N]?=some (.vec zbj 1 k cs):=λk cs J'=>by rw[hN];simp
 have hset:∀k cs J' (x:AB),(A++(AB.vec zbj 1 k cs::J')).set N x=A++(x::J'):=λk cs J' x=>by rw[hN,ai _ _ (aa _)];simp
 have hG:∀k,HSc (A++[.vec zbj 1 k (llC (l.take k))]):=λk=>hJ.snoc (by simp[AB.sc,zHH]);refine zPK (Inv:=λq t16 t83 H'=>∃i:Nat,i≤l.length∧l.length-i=q∧t83=.int .i64 i∧t16=.ov N i∧H'=A++[.vec zbj 1 i (llC (l.take i))]) l.length ?_ ?_
 ·intro _;exact⟨0,by omega,rfl,rfl,rfl,rfl⟩
 ·rintro q t16 t83 H' ⟨i,hi,rfl,rfl,rfl,rfl⟩ hsc hlen hsF Kb hKb;by_cases hlt:i<l.length
  ·have hgi:∀ h:i<(llA l).length,(llA l)[i]'h=[.sl (VT.css l[i]) .none]:=λh=>by simp[llA]
   simp[ztz,hlt,hgi];refine zS8 _ _ (aa _) (hr _ (ae hlt)) _ _ ?_;rw[zwr];simp only[zax,za6,zaZ,hg];refine⟨by simp,⟨⟨trivial,trivial,trivial⟩,by simp;omega,by simp;omega⟩,?_⟩;rw[hset];have hst:llC (l.take i)++[[AV.sl (VT.css l[i]) .none]].flatten=llC (l.take (i+1)):=by rw[aj hlt,zHG];rfl
   rw[hst];simp;rw[wr (by omega)];refine hKb _ _ ⟨l.length-(i+1),by omega,Back.here (by simp) (hG _) ?_ ⟨_,_,rfl,i+1,by omega,rfl,rfl,rfl,rfl⟩⟩;simp[zmV,ux,AV.sc,AV.scA,AV.scB,AV.scV,hN]
  ·obtain rfl:i=l.length:=by omega
   simp[ztz];refine ACalls.sortFunc zKU (hg _ _ _) (by omega) (λi=>VT.css (l.getD i [])) (λi j=>VT.cmpL (l.getD i []) (l.getD j [])) (λi hi=>?_) (λargs w=>rfl) (λi j hi hj=>?_) (λi hi=>?_) (λi j k hi hj hk h1 h2=>?_) (λi j k hi hj hk h1 h2=>?_) (λp hp hsort=>?_)
   ·have hil:i<l.length:=by simpa using hi
    have:(llC l)[i]'(by simpa using hil)=.sl (VT.css (l.getD i [])) .none:=by simp[llC,List.getD_eq_getElem?_getD,hil]
    refine .inl ?_;rw[←this]
   ·have ei:l.getD i []=l[i]:=by simp[List.getD_eq_getElem?_getD,hi]
    have ej:l.getD j []=l[j]:=by simp[List.getD_eq_getElem?_getD,hj]
    rw[ei,ej];have m1:=hr _ (ae hi);have hll:=VT.len_le l[i];refine zTc _ _ (by omega) (λx hx=>?_) _ _ rfl;have:=zq1 hx;omega
   ·have:=VT.cmpL_anti (l.getD i []) (l.getD i []);omega
   ·have:=VT.cmpL_tri (l.getD i []) (l.getD j []) (l.getD k []);unfold Tri at this;omega
   ·have:=VT.cmpL_tri (l.getD k []) (l.getD j []) (l.getD i []);have a1:=VT.cmpL_anti (l.getD i []) (l.getD j []);have a2:=VT.cmpL_anti (l.getD j []) (l.getD k []);have a3:=VT.cmpL_anti (l.getD i []) (l.getD k []);unfold Tri at this;omega
   ·have hplen:p.length=l.length:=by simpa using hp.length_eq
    have hpm:∀i∈p,i<l.length:=λi hi=>by simpa using hp.subset hi
    have hrs:(p.map λi=>l.getD i []).Perm l:=by
     have h1:=hp.map λi=>l.getD i [];have h2:(List.range l.length).map (λi=>l.getD i [])=l:=bT (by simp) λi h1 h2=>by simp[List.getD_eq_getElem?_getD,h2]
     rwa [h2]at h1
    have hpw:(p.map λi=>l.getD i []).Pairwise cle:=by rw[cu];intro a b ha hb hab;simp only[di];exact hsort a b (by simpa using ha) (by simpa using hb) hab
    obtain⟨L,hL⟩:∃L,L=p.map λi=>l.getD i []:=⟨_,rfl⟩;rw[←hL]at hrs hpw;have hcs:(p.map λi=>(llC l).getD i .unk)=llC L:=by rw[hL];unfold llC;rw[cK];refine bc λi hi=>?_;have:=hpm i hi;simp[List.getD_eq_getElem?_getD,this]
    rw[hcs,hset];have hLl:L.length=l.length:=by rw[hL];simp[hplen]
    refine⟨⟨rfl,rfl⟩,?_⟩;exact⟨.tup [.sl (llA L) .none,.int .i64 0],H,J++[.vec zbj 1 l.length (llC L)],by rw[hA];simp,aa _,hs,.tup ⟨.vfz N zbj 1 l.length (llC L) (llA L) (by omega) (by rw[hN];simp) (by rw[zHF,zyA]) (by simp[hLl]) zHE,.wk .rfl' rfl rfl,trivial⟩,hK L hrs hpw⟩
theorem joinL_iff{a:List VT}{b:List (List VT)}{r:List VT}:r∈zbc a b↔∃v∈a,∃s∈b,r=v::s:=by
 unfold zbc;simp only[bD,aV];constructor
 ·rintro⟨v,hv,s,hs,rfl⟩;exact⟨v,hv,s,hs,rfl⟩
 ·rintro⟨v,hv,s,hs,rfl⟩;exact⟨v,hv,s,hs,rfl⟩
theorem lsL_cons{g:VT→Nat→List VT}{t:VT}{ts:List VT}{n:Nat}{r:List VT}:r∈lsL g (t::ts) n↔∃s,s<n∧∃v∈g t (s+1),∃q∈lsL g ts (n-(s+1)),r=v::q:=by
 rw[lsL,bD];constructor
 ·rintro⟨s,hs,hr⟩;obtain⟨v,hv,q,hq,rfl⟩:=joinL_iff.1 hr;exact⟨s,be.1 hs,v,hv,q,hq,rfl⟩
 ·rintro⟨s,hs,v,hv,q,hq,rfl⟩;exact⟨s,be.2 hs,joinL_iff.2 ⟨v,hv,q,hq,rfl⟩⟩
theorem arL_iff{g:Nat→List VT}{n:Nat}{r:List VT}:r∈arL g (n+1)↔∃s,s<n+1∧∃v∈g (s+1),∃q∈arL g (n+1-(s+1)),r=v::q:=by
 rw[zjC,bD];constructor
 ·rintro⟨s,hs,hr⟩;obtain⟨v,hv,q,hq,rfl⟩:=joinL_iff.1 hr;exact⟨s,be.1 hs,v,hv,q,hq,rfl⟩
 ·rintro⟨s,hs,v,hv,q,hq,rfl⟩;exact⟨s,be.2 hs,joinL_iff.2 ⟨v,hv,q,hq,rfl⟩⟩
theorem zp4{g:VT→Nat→List VT}{N:Nat}(hg:∀ t s,s≤N→∀ v∈g t s,v.nodes=s):∀ (ts:List VT) (n:Nat),n≤N→∀ r∈lsL g ts n,VT.nodesL r=n
 |[],n,_,r,hr=>by
  rw[lsL]at hr;split at hr
  ·simp at hr;subst hr;simp[VT.nodesL];omega
  ·simp at hr
 |t::ts,n,hn,r,hr=>by obtain⟨s,hs,v,hv,q,hq,rfl⟩:=lsL_cons.1 hr;rw[VT.nodesL,hg t (s+1) (by omega) v hv,zp4 hg ts _ (by omega) q hq];omega
theorem zFY{g:Nat→List VT}{N:Nat}(hg:∀s,s≤N→∀v∈g s,v.nodes=s):∀(n:Nat),n≤N→∀r∈arL g n,VT.nodesL r=n:=by
 intro n;induction n using Nat.strongRecOn with
 |ind n ih=>
  intro hn r hr;cases n with
  |zero=>rw[zwh]at hr;simp at hr;subst hr;rfl
  |succ n=>obtain⟨s,hs,v,hv,q,hq,rfl⟩:=arL_iff.1 hr;rw[VT.nodesL,hg (s+1) (by omega) v hv,ih _ (by omega) (by omega) q hq];omega
theorem zKy(data:List Dat)(xs:List Int):∀(n:Nat) (t:VT),∀v∈vV data xs t n,v.nodes=n:=by
 intro n;induction n using Nat.strongRecOn with
 |ind n ih=>
  intro t v hv;cases n with
  |zero=>rw[zrY]at hv;simp at hv
  |succ n=>
   rw[ziU]at hv;split at hv
   ·split at hv
    ·simp at hv;subst hv;simp[VT.nodes,VT.nodesL];omega
    ·simp at hv
   ·split at hv
    ·split at hv
     ·simp at hv;rcases hv with rfl|rfl <;> simp[VT.nodes,VT.nodesL] <;> omega
     ·simp at hv
    ·split at hv
     ·split at hv
      ·obtain⟨x,_,rfl⟩:=aV.1 hv;simp[VT.nodes,VT.nodesL];omega
      ·simp at hv
     ·split at hv
      ·obtain⟨r,hr,rfl⟩:=aV.1 hv;have:=zFY (N:=n) (λs hs v hv=>ih s (by omega) _ v hv) n (aa _) r hr;simp[VT.nodes,this]
      ·obtain⟨w,hw,hv⟩:=bD.1 hv;obtain⟨r,hr,rfl⟩:=aV.1 hv;have:=zp4 (N:=n) (λt s hs v hv=>ih s (by omega) t v hv) w.2 n (aa _) r hr;simp[VT.nodes,this]
def zbK(data:List Dat)(t:VT)(n k:Int):Int:=if zb4 data t=false then 6 else if n<0∨24<n∨k<0∨8<k then 8 else 0
def zcw(data:List Dat)(t:VT)(n k:Int):List AV:=if zbK data t n k=0 then zaq (cV data k.toNat t n.toNat:Int) else zaj none
theorem zG7{n:Nat}(h:n≤14):gB n≤1000000000000:=aC (zfi h) (by decide)
theorem zjS{data:List Dat}{t:VT}(h:zb4 data t=true):zaB data=true∧zaD data 0 t=true:=by unfold zb4 at h;rw[ac]at h;exact zjR h.1
theorem zx7{data:List Dat}{kk:Int}{S:SS}{A J:zaa}{L M:Nat}(hL:L=A.length)(hM:L≤M):∃J',shS data kk (zcM L M) S (A++J)=A++J'∧J'.length=J.length:=by
 refine⟨(shS data kk (zcM L M) S (A++J)).drop A.length,?_,by simp⟩
 conv=>lhs;rw[←aN A.length (shS data kk (zcM L M) S (A++J))]
 congr 1;apply aI;intro x;rw[List.getElem?_take];split
 ·rename_i hx;rw[zcx,List.getElem?_append_left hx,List.getElem?_eq_getElem hx];have:za3 data kk (zcM L M) S x=none:=by
   unfold za3 zcM;simp only
   repeat rw[ap (by omega)]
  rw[this];rfl
 ·rw[List.getElem?_eq_none (by omega)]
theorem zM8{data:List Dat}(hF:zdW data)(hl:data.length≤1000000)(hk:Kpt data)(t:VT)(ht:zbw t)(n k:Int)(hn:n≤14∨24<n)(H:zaa)(h0:H[0]?=some .nodr)(K:Kt)(hK:K (.tup [.agg (zcw data t n k),.int .i64 (zbK data t n k)]) H):ACalls tP zqi [.sl (data.map Dat.cs) .none,.agg t.cs,.int .i64 n,.int .i64 k] H K:=by
 refine ACalls.out (zM7 λhs=>?_);have hlt0:0<H.length:=(List.getElem?_eq_some_iff.1 h0).1;obtain⟨x,y,z,hvx,hx,hy,hz⟩:=zaO t;have hout:∀(o:Option Nat) (e:Int) J,zaj o=zcw data t n k→e=zbK data t n k→Out H.length K (.tup [.agg (zaj o),.int .i64 e]) (H++J):=λo e J h1 h2=>by refine Out.tup hs (bs:=[.agg (zcw data t n k),.int .i64 (zbK data t n k)]) hK ⟨⟨by rw[h1];exact .rfl',rfl,?_⟩,⟨by rw[h2];exact .rfl',rfl,rfl⟩,trivial⟩;rw[←h1];simpa[AV.scV]using zc0 _ _
 simp only[zA3,zrO];simp[hvx,hx,hy,hz];rw[←hvx];refine zC8 hF hl t ht _ _ ?_;cases hf:zb4 data t with
 |false=>
  simp[zar,zaL,AV.known,zrO,ai];have he:zbK data t n k=6:=by simp[zbK,hf]
  exact⟨⟨rfl,rfl⟩,hout none 6 _ (by simp[zcw,he]) he.symm⟩
 |true=>
  simp;have bad:(n<0∨24<n∨k<0∨8<k)→zbK data t n k=8:=λh=>by simp[zbK,hf,h]
  have hr8 : (n < 0 ∨ 24 < n ∨ k < 0 ∨ 8 < k) → zar (zaj none) [(0, 1), (1, 1), (2, 1)] [] λt30 =>
                      zcH 3 0 (List.length H+1) t30.cs? (some (AB.cells (zaj none))) (H++[AB.cells t.cs,AB.cells (zaj none)]) λH_7=>
                       ze7 true 3 0 H_7[List.length H+1]? λr0=>
                        (r0.isV=true∧(AV.int IntKind.i64 8).isV=true) ∧
                         Out (List.length H) K (AV.tup [r0,AV.int IntKind.i64 8]) H_7:=λh=>by
   rw[←zrO];simp[zar,zaL,AV.known,zrO,ai];exact⟨⟨rfl,rfl⟩,hout none 8 _ (by simp[zcw,bad h]) (bad h).symm⟩
  by_cases h1:n<0
  ·simp[h1];exact hr8 (.inl h1)
  by_cases h2:24<n
  ·simp[h1,h2];exact hr8 (.inr (.inl h2))
  by_cases h3:k<0
  ·simp[h1,h2,h3];exact hr8 (.inr (.inr (.inl h3)))
  by_cases h4:8<k
  ·simp[h1,h2,h3,h4];exact hr8 (.inr (.inr (.inr h4)))
  have hn14:n≤14:=by omega
  simp[h1,h2,h3,h4];obtain⟨N,rfl⟩:∃N:Nat,n=N:=⟨n.toNat,by omega⟩;obtain⟨kk,rfl⟩:∃kk:Nat,k=kk:=⟨k.toNat,by omega⟩;obtain⟨hD,htv⟩:=zjS hf;have hkk:kk≤8:=by omega
  obtain⟨X,hXl,hR⟩:=zyO hD hk N t htv;have hX:X.length≤1000000000000:=aC hXl (zG7 (by omega));have hI0:=zvL data kk X;have hI1:=zjZ hD hI0 htv hR.mem;have hg1:=zjY hD hI0 htv;refine zx9 data kk _ _ ?_;obtain⟨A,hA⟩:∃A,A=H++[AB.cells t.cs,AB.cells (zaj none)]:=⟨_,rfl⟩;have hAl:A.length=H.length+2:=by rw[hA];simp
  have gt:∀J:zaa,(A++J)[H.length]?=some (.cells t.cs):=λJ=>by rw[hA];simp
  have gr:∀J:zaa,(A++J)[H.length+1]?=some (.cells (zaj none)):=λJ=>by rw[hA];simp[List.getElem?_append]
  have gA0:∀J:zaa,(A++J)[0]?=some .nodr:=λJ=>by rw[List.getElem?_append_left (by omega),hA,List.getElem?_append_left hlt0];exact h0
  have hsetA:∀J o,(A++J).set (H.length+1) (.cells (zaj o))=H++(.cells t.cs::.cells (zaj o)::J):=λJ o=>by rw[hA,ah,ai _ _ (by omega)];simp
  rw[←hA];simp[gt,hvx];rw[←hvx];obtain⟨L,hL⟩:∃L,L=A.length:=⟨_,rfl⟩;rw[←hL,show newB data (kk:Int) L=newB data (kk:Int) L++[] from (aE _).symm];refine zIo hL (V:=[]) (M:=L+3) rfl ?_;have hS0:=zx8 (data:=data) (kk:=(kk:Int)) hL [] (L+3) rfl;refine ziO hD hS0 (gA0 _) t htv (by simp[S0]) _ ?_;have hS1:=hS0.next (S':=idS data S0 t) hI1.ml hI1.cl;obtain⟨S2,o,hI2,_,ho,hc⟩:=zjK (I:=zcM L (L+3)) hD hk hkk hX N (by omega) _ _ t hI1 hg1 hR;have h01:(shS data kk (zcM L (L+3)) (idS data S0 t) (A++(zb0 data kk L (L+3)++[]++zce)))[0]?=some .nodr:=hS0.nodr (gA0 _);refine hc _ hS1 h01 _ ?_;rw[zdh];obtain⟨J',hJ',hJl⟩:=zx7 (data:=data) (kk:=(kk:Int)) (S:=S2) (J:=zb0 data kk L (L+3)++[]++zce) hL (show L≤L+3 by omega);rw[hJ'];have hov:vO o<1000000000 ^ 30:=by rw[ho];exact zdD hk hkk t (by omega)
  refine zSd o hov _ _ ?_;have he0:zbK data t N kk=0:=by simp[zbK,hf];omega
  have hr:zaj (some (vO o))=zcw data t N kk:=by simp[zcw,he0,ho];rfl
  change zcH 3 0 (H.length+1) (some (zaj (some (vO o)))) _ _ _;rw[gr,zo7,hsetA];have g2:(H++(AB.cells t.cs::.cells (zaj (some (vO o)))::J'))[H.length+1]?=some (.cells (zaj (some (vO o)))):=by simp[List.getElem?_append]
  simp only[g2,zvV];exact⟨⟨rfl,rfl⟩,hout _ 0 _ hr he0.symm⟩
theorem zzh{f:Nat→Nat}{B:Nat}(h:∀ i,f i≤B):∀ k,sm k f≤k*B
 |0=>by simp[sm]
 |k+1=>by have:=zzh h k;have:=h k;rw[sm,cp];omega
def zds(xs:List Int)(L:Nat):zaa:=[.mapP [],.cells [.ptr (L+2) 0,.sl (ints xs) .none,.map (L+3)]]
theorem zwp{data:List Dat}{kk:Int}{L x:Nat}(h1:L≤x)(h:x=L+3∨x=L+4):za3 data kk (zcM L (L+5)) S0 x=none:=by
 unfold za3 zcM;simp only
 repeat rw[ap (by omega)]
theorem zIa(data:List Dat)(xs:List Int)(A:zaa):ShB data xs.length xs ⟨zcM A.length (A.length+5),A.length+4,A.length+3⟩ ⟨S0,[]⟩ (A++(zb0 data xs.length A.length (A.length+5)++zds xs A.length++zce)):=by
 have gA:∀(k:Nat),(A++(zb0 data xs.length A.length (A.length+5)++zds xs A.length++zce))[A.length+k]?=(zb0 data xs.length A.length (A.length+5)++zds xs A.length++zce)[k]?:=λk=>by rw[List.getElem?_append_right (by omega)];congr 1;omega
 have g3:=gA 3;have g4:=gA 4;exact⟨zx8 rfl (zds xs A.length) (A.length+5) rfl,g4,g3,zwp (cM _ _) (.inr rfl),zwp (cM _ _) (.inl rfl),by simp⟩
theorem zI4{data:List Dat}{kk:Int}{B:BS}{A J:zaa}:∃J',shB data kk ⟨zcM A.length (A.length+5),A.length+4,A.length+3⟩ B (A++J)=A++J'∧J'.length=J.length:=by obtain⟨J1,h1,h2⟩:=zx7 (data:=data) (kk:=kk) (S:=B.s) (A:=A) (J:=J) (L:=A.length) (M:=A.length+5) rfl (by omega);refine⟨J1.set 3 (.mapP (zdJ B.m)),?_,by simpa using h2⟩;unfold shB;rw[h1,ai _ _ (by simp)];simp
section
variable {data:List Dat} (hD:zaB data=true) (hk:Kpt data) {xs:List Int} (hxs:xs.length≤8) {ts:List VT} (htv:∀t∈ts,zaD data 0 t=true) (htl:ts.length≤6) {n:Nat} (hn:n≤14)
include hD hk hxs htv htl hn
theorem zHD{H:zaa}(hs:HSc H)(h0:H[0]?=some .nodr){K:Kt}(hE:2000<cL (cV data xs.length) ts n→K (.tup [.sl [] .none,.int .i64 9]) H)(hK:cL (cV data xs.length) ts n≤2000→∀ L,L.Perm (lsL (vV data xs) ts n)→L.Pairwise cle→K (.tup [.sl (llA L) .none,.int .i64 0]) H):
  zmX (.int .i64 n) (.ptr (H.length+4) 0) .snil (.sl (VT.css ts) .none) (.int .i64 ts.length) (.int .i64 0) (H++(newB data xs.length H.length++zds xs H.length)) (Out H.length K):=by
 obtain⟨X,hXl,hR⟩:=zk3 (data:=data) (n:=n) (λm _ t ht=>zyO hD hk m t ht) ts 0 htv;have hR:∀(p:Nat) (h:p<ts.length),Rch data X (n-p) ts[p]:=λp h=>by have:=hR p h;rwa [aF]at this
 have hX:X.length≤1000000000000:=by
  have h1:=zzh (f:=λp=>gB (n-(0+p))) (B:=gB 14) (λi=>zfi (by omega)) ts.length;have h2:gB 14≤1000000000:=by decide
  have h3:=bI htl h2;omega
 have htX:∀t∈ts,zaD data 0 t=true∧t∈X:=λt ht=>⟨htv t ht,by
  obtain⟨p,hp,rfl⟩:=aO.1 ht;exact(hR p hp).mem⟩
 have hlt0:0<H.length:=(List.getElem?_eq_some_iff.1 h0).1;refine zIp (L:=H.length) rfl (V:=zds xs H.length) (M:=H.length+5) rfl ?_;obtain⟨Z,hZ⟩:∃Z:BI,Z=⟨zcM H.length (H.length+5),H.length+4,H.length+3⟩:=⟨_,rfl⟩;obtain⟨A0,hA0⟩:∃A0,A0=H++(zb0 data xs.length H.length (H.length+5)++zds xs H.length++zce):=⟨_,rfl⟩;have hA0l:A0.length=H.length+8:=by rw[hA0];simp[zb0,zds,zce]
 have hB0:ShB data xs.length xs Z ⟨S0,[]⟩ A0:=by rw[hZ,hA0];exact zIa data xs H
 have hA0s:HSc A0:=by rw[hA0];refine hs.append ?_;simp[zb0,zds,zce,AB.sc,AV.scA,AV.scB,zaH,zbQ]
 have h00:A0[0]?=some .nodr:=by rw[hA0,List.getElem?_append_left hlt0];exact h0
 have hsp:∀(B:BS),∃J',shB data xs.length Z B A0=H++J'∧J'.length=8:=λB=>by obtain⟨J',h1,h2⟩:=zI4 (data:=data) (kk:=xs.length) (B:=B) (A:=H) (J:=zb0 data xs.length H.length (H.length+5)++zds xs H.length++zce);exact⟨J',by rw[hZ,hA0];exact h1,by rw[h2];simp[zb0,zds,zce]⟩
 have hbp:Z.bp=H.length+4:=by rw[hZ]
 rw[←hA0,←hbp];refine ALoop.own 13 zc9 1 rfl ?_;rw[hA0l];show zmX (.int .i64 n) (.ptr Z.bp 0) (.sl (za5 (zaN data S0 (ts.take 0)).1) (.own (H.length+8))) (.sl (VT.css ts) .none) (.int .i64 ts.length) (.int .i64 0) (A0++[.perm zc9 1 0]) (Out H.length K);have hok:=λj=>zhV hD (ts.take j) S0 (zvL data xs.length X) λt ht=>htX t (aW ht);obtain⟨G,hG⟩:∃G:BS→Nat→zaa,G=λB' k=>shB data xs.length Z B' A0++[.perm zc9 1 k]:=⟨_,rfl⟩;have hGl:∀B' k,(G B' k).length=H.length+9:=λB' k=>by rw[hG];simp[hA0l]
 have hGs:∀B' k,HSc (G B' k):=λB' k=>by rw[hG];exact(hB0.scs hA0s).snoc rfl
 have hGS:∀B' k,za0 data xs.length X B'.s→ShB data xs.length xs Z B' (G B' k):=λB' k hB'=>by rw[hG];exact(hB0.next hB'.ml hB'.cl).app
 have hG0:∀B' k,(G B' k)[0]?=some .nodr:=λB' k=>by rw[hG];simp only;rw[List.getElem?_append_left (by simp[hA0l])];exact hB0.nodr h00
 have hGm:∀B' B'' k J,za0 data xs.length X B'.s→shB data xs.length Z B'' (G B' k++J)=G B'' k++J:=λB' B'' k J hB'=>by rw[hG];simp only;rw[ah,(hB0.next hB'.ml hB'.cl).shB_app,hB0.shB_shB,ah]
 have hGn:∀B' S' k J,za0 data xs.length X B'.s→shS data xs.length Z.i S' (G B' k++J)=G ⟨S',B'.m⟩ k++J:=λB' S' k J hB'=>by rw[((hGS B' k hB').app).shS_eq,hGm _ _ _ _ hB']
 have hGp:∀B' k J,(G B' k++J)[H.length+8]?=some (.perm zc9 1 k):=λB' k J=>by rw[hG];simp[List.getElem?_append,hA0l]
 have hGset:∀B' k k' J,(G B' k++J).set (H.length+8) (.perm zc9 1 k')=G B' k'++J:=λB' k k' J=>by rw[hG];simp only;rw[ah,ai _ _ (by simp[hA0l]),ah];simp[hA0l]
 have hlk:=λj=>zpa data (ts.take j) S0;refine zPJ (Inv:=λq t13 t54 H'=>∃j:Nat,j≤ts.length∧ts.length-j=q∧t54=.int .i64 j∧t13=.sl (za5 (zaN data S0 (ts.take j)).1) (.own (H.length+8))∧H'=G ⟨(zaN data S0 (ts.take j)).2,[]⟩ j) ts.length ?_ ?_
 ·intro _;refine⟨0,by omega,rfl,rfl,rfl,?_⟩;rw[hG];simp only[List.take_zero,zaN];rw[hB0.self]
 ·rintro q t13 t54 H' ⟨j,hj,rfl,rfl,rfl,rfl⟩ hsc' hlen hsF Kb hKb;obtain⟨S,hSd⟩:∃ S,S=(zaN data S0 (ts.take j)).2:=⟨_,rfl⟩;have hokj:=hok j;have hIj:=hokj.1;rw[←hSd]at hIj;have hsl:(za5 (zaN data S0 (ts.take j)).1).length=j:=by rw[zxt,hlk,aM];omega
  rw[←hSd];by_cases hlt:j<ts.length
  ·obtain⟨x1,x2,x3,hvx,hxa,hxb,hxc⟩:=zaO ts[j];have hv:=htX ts[j] (ae hlt);have hst:za5 (zaN data S0 (ts.take j)).1++[[AV.int .i64 (idN data S ts[j]:Nat)]]=za5 (zaN data S0 (ts.take (j+1))).1:=by rw[zjA hlt,←hSd];simp[za5]
   have hS1:(zaN data S0 (ts.take (j+1))).2=idS data S ts[j]:=by rw[zjA hlt,←hSd]
   have hgc:∀B' k C,(G B' k++[AB.cells C])[H.length+9]?=some (.cells C):=λB' k C=>by rw[List.getElem?_append_right (by rw[hGl];omega),hGl];simp
   have hbp':=((hGS ⟨S,[]⟩ j hIj).app (J:=[.cells (ts[j]).cs])).bpa;rw[hvx]at hbp';simp[zty,hlt,hvx,hGl,hbp',hgc];refine⟨⟨hxa,hxb,hxc⟩,?_⟩;rw[←hvx];have hAp:ShS data xs.length Z.i S (G ⟨S,[]⟩ j++[.cells (ts[j]).cs]):=((hGS ⟨S,[]⟩ j hIj).sh).app;refine zcn (.int .i64 (idN data S ts[j]:Nat)) (G ⟨idS data S ts[j],[]⟩ j++[.cells (ts[j]).cs]) (ziO hD hAp (by rw[List.getElem?_append_left (by rw[hGl];omega)];exact hG0 _ _) ts[j] hv.1 (aC hIj.len hX) _ ⟨rfl,hGn _ _ _ _ hIj⟩) ?_;simp[zau,za4,plain,AV.pd];refine zcn (.sl (za5 (zaN data S0 (ts.take (j+1))).1) (.own (H.length+8))) (G ⟨idS data S ts[j],[]⟩ (j+1)++[.cells (ts[j]).cs]) ?_ ?_
   ·simp only[zax,za6,zaZ,hsl,hGp];refine⟨by simp,trivial,⟨by simp;omega,by simp;omega⟩,?_,?_⟩
    ·rw[hst]
    ·exact hGset _ _ _ _
   ·rw[wr (by omega)];refine hKb _ _ ⟨ts.length-(j+1),by omega,Back.at (J:=[.cells (ts[j]).cs]) (H2:=G ⟨idS data S ts[j],[]⟩ (j+1)) rfl (by rw[hGl];simp[hA0l]) (hGs _ _) (by rw[hGl];simp[zmU,ux,AV.sc,AV.scA,AV.scB,AV.scV,hbp]) ⟨_,_,rfl,j+1,by omega,rfl,rfl,rfl,by rw[hS1]⟩⟩
  ·obtain rfl:j=ts.length:=by omega
   rw[aw]at hokj hSd hsl;have hix:=hokj.2.2;rw[←hSd]at hix;obtain⟨is,his⟩:∃is,is=(zaN data S0 ts).1:=⟨_,rfl⟩;rw[←his]at hix hsl;rw[aw,←his];have hB1:=hGS ⟨S,[]⟩ ts.length hIj;simp[zty,hB1.bpa];obtain⟨S2,o,hI2,he2,ho,hc⟩:=zru (I:=Z.i) hD hk hxs hX (show n≤14 from hn) (λm hm=>zjK hD hk hxs hX m (by omega)) (show ts.length≤1000 by omega) hIj hix hR;refine ACalls.wk (args':=[.ptr Z.i.p 0,.sl (za5 is) .none,.int .i64 n]) ?_ ⟨.atom (.refl _),.atom (.sl _ _),.atom (.refl _),trivial⟩;refine hc _ hB1.sh (hG0 _ _) _ ?_;have hgn0:=hGn ⟨S,[]⟩ S2 ts.length [] hIj;simp only[aE]at hgn0;rw[hgn0];refine zfJ 2000 (by omega) _ _ ?_;have hov:vO o<1000000000 ^ 30:=by rw[ho];exact zhZ hk hxs ts hn
   have h2000:zaq ((2000:Nat):Int)=zaj (some 2000):=rfl;rw[h2000];refine zSL o (some 2000) hov (by decide) _ _ ?_;have hB2:=hGS ⟨S2,[]⟩ ts.length hI2;have hcm:(0<zbm (vO o) (vO (some 2000)))↔2000<cL (cV data xs.length) ts n:=by
    rw[←ho];simp only[vO,zbm,Option.getD_some]
    repeat' split
    all_goals omega
   by_cases hbig:2000<cL (cV data xs.length) ts n
   ·have h2:0<zbm (vO o) (vO (some 2000)):=hcm.2 hbig;simp[h2];obtain⟨J',hJ',_⟩:=hsp ⟨S2,[]⟩;have hGe:G ⟨S2,[]⟩ ts.length=H++(J'++[.perm zc9 1 ts.length]):=by rw[hG];simp only;rw[hJ',ah]
    rw[hGe];exact⟨⟨rfl,rfl⟩,@Out.tup H _ K [.snil,.int .i64 9] _ hs (hE hbig) ⟨⟨.atom .snil,rfl,rfl⟩,⟨.rfl',rfl,rfl⟩,trivial⟩⟩
   ·have h2:¬ 0<zbm (vO o) (vO (some 2000)):=λh=>hbig (hcm.1 h);simp[h2];obtain⟨B',hI3,he3,hc3⟩:=zxI hD hk hxs hX (Z:=Z) (N:=n) hn (λm hm=>zKD hD hk hxs hX m (by omega)) ts is (by omega) n ⟨S2,[]⟩ (aa _) ⟨hI2,by simp⟩ (hix.mono he2) hR (by omega);refine ACalls.wk (args':=[.ptr Z.bp 0,.sl (za5 is) .none,.int .i64 n]) ?_ ⟨.atom (.refl _),.atom (.sl _ _),.atom (.refl _),trivial⟩;refine hc3 _ hB2 (hG0 _ _) _ ?_;have hgm0:=hGm ⟨S2,[]⟩ B' ts.length [] hI2;simp only[aE]at hgm0;rw[hgm0];obtain⟨J',hJ',_⟩:=hsp B';have hGe:G B' ts.length=H++(J'++[.perm zc9 1 ts.length]):=by rw[hG];simp only;rw[hJ',ah]
    have hGsc:=hGs B' ts.length;rw[hGe]at hGsc ⊢;simp only[zeB,zg5];have hll:=zii hD hk hxs hX ts n;refine zHC (by rw[hll];omega) (λr hr=>?_) hs hGsc (hK (by omega));rw[zp4 (N:=n) (λt s _=>zKy data xs s t) ts n (aa _) r hr];omega
end
open Classical in
noncomputable def zbU(data:List Dat)(ts:List VT)(n:Int)(xs:List Int):Int:=
 if 6<ts.length then 5 else if ∃t∈ts,zb4 data t=false then 6 else if n<0∨24<n∨¬zgF xs then 8 else if 2000<cL (cV data xs.length) ts n.toNat then 9 else 0
theorem zHB{data:List Dat}{ts:List VT}{n:Int}{xs:List Int}(h:zbU data ts n xs=0):ts.length≤6∧(∀t∈ts,zb4 data t=true)∧0≤n∧n≤24∧zgF xs∧cL (cV data xs.length) ts n.toNat≤2000:=by
 unfold zbU at h;split at h
 ·omega
 ·split at h
  ·omega
  ·rename_i h1 h2;split at h
   ·omega
   ·rename_i h3;split at h
    ·omega
    ·refine⟨by omega,λt ht=>?_,by omega,by omega,?_,by omega⟩
     ·cases hb:zb4 data t with
      |true=>rfl
      |false=>exact absurd ⟨t,ht,hb⟩ h2
     ·exact c5 λhc=>h3 (.inr (.inr hc))
theorem zPQ{data:List Dat}(hF:zdW data)(hl:data.length≤1000000)(hk:Kpt data)(ts:List VT)(hts:ts≠[])(htl:ts.length≤1000000)(ht:∀ t∈ts,zbw t)(xs:List Int)(hxl:xs.length≤1000000)(n:Int)(hn:n≤14∨24<n)(H:zaa)(h0:H[0]?=some .nodr)(K:Kt)(hE:zbU data ts n xs≠0→K (.tup [.sl [] .none,.int .i64 (zbU data ts n xs)]) H)(hK:zbU data ts n xs=0→∀ L,L.Perm (lsL (vV data xs) ts n.toNat)→L.Pairwise cle→K (.tup [.sl (llA L) .none,.int .i64 0]) H):
  ACalls tP zqw [.sl (data.map Dat.cs) .none,.sl (VT.css ts) .none,.int .i64 n,.sl (ints xs) .none] H K:=by
 refine ACalls.out (zPP λhs=>?_);simp only[zB0,zeB,VT.css_len];have hout:∀(e:Int) J,zbU data ts n xs=e→e≠0→Out H.length K (.tup [.snil,.int .i64 e]) (H++J):=λe J h he=>by subst h;exact @Out.tup H _ K [.snil,.int .i64 _] _ hs (hE he) ⟨⟨.atom .snil,rfl,rfl⟩,⟨.rfl',rfl,rfl⟩,trivial⟩
 have hout0:∀(e:Int),zbU data ts n xs=e→e≠0→Out H.length K (.tup [.snil,.int .i64 e]) H:=λe h he=>by have:=hout e [] h he;simpa using this
 by_cases h6:6<ts.length
 ·have h6':(6:Int)<ts.length:=by omega
  simp[h6'];exact⟨⟨rfl,rfl⟩,hout0 5 (by unfold zbU;rw[aB h6]) (by omega)⟩
 have h6':¬(6:Int)<ts.length:=by omega
 simp[h6'];refine zPL (Inv:=λq t24 H'=>∃i:Nat,i≤ts.length∧ts.length-i=q∧t24=.int .i64 i∧(∀t∈ts.take i,zb4 data t=true)∧H'=H) ts.length ?_ ?_
 ·intro _;exact⟨0,by omega,rfl,rfl,by simp,rfl⟩
 ·rintro q t24 H' ⟨i,hi,rfl,rfl,hf,rfl⟩ hsc hlen hsF Kb hKb;by_cases hlt:i<ts.length
  ·obtain⟨x,y,z,hvx,hx,hy,hz⟩:=zaO ts[i];simp[zjb,hlt,hvx,hx,hy,hz];rw[←hvx];refine zC8 hF hl ts[i] (ht _ (ae hlt)) _ _ ?_;cases hb:zb4 data ts[i] with
   |false=>simp;exact⟨⟨rfl,rfl⟩,hout 6 _ (by unfold zbU;rw[ap h6,aB ⟨ts[i],ae hlt,hb⟩]) (by omega)⟩
   |true=>
    simp;rw[wr (by omega)];refine hKb _ _ ⟨ts.length-(i+1),by omega,Back.at (J:=[.cells (ts[i]).cs]) (H2:=H') rfl (aa _) hs ?_ ⟨_,rfl,i+1,by omega,rfl,rfl,λt htm=>?_,rfl⟩⟩
    ·simp[zmW,ux,AV.sc,AV.scA,AV.scB,AV.scV]
    ·rw[aj hlt]at htm;rcases aP.1 htm with h | h
     ·exact hf t h
     ·simp at h;rw[h];exact hb
  ·obtain rfl:i=ts.length:=by omega
   rw[aw]at hf;have hne:¬ ∃t∈ts,zb4 data t=false:=λ⟨t,h1,h2⟩=>by rw[hf t h1]at h2;cases h2
   have bad8:(n<0∨24<n∨¬zgF xs)→zbU data ts n xs=8:=λh=>by unfold zbU;rw[ap h6,ap hne,aB h]
   by_cases c1:n<0
   ·simp[zjb,c1];exact⟨⟨rfl,rfl⟩,hout0 8 (bad8 (.inl c1)) (by omega)⟩
   by_cases c2:24<n
   ·simp[zjb,c1,c2];exact⟨⟨rfl,rfl⟩,hout0 8 (bad8 (.inr (.inl c2))) (by omega)⟩
   have hn14:n≤14:=by omega
   obtain⟨N,rfl⟩:∃N:Nat,n=N:=⟨n.toNat,by omega⟩;simp only[zjb];simp[c1,c2];refine zSJ xs hxl _ _ λb hb=>?_;cases b with
   |false=>
    have hni:¬zgF xs:=λh=>by have:=hb.2 h;cases this
    simp;exact⟨⟨rfl,rfl⟩,hout0 8 (bad8 (.inr (.inr hni))) (by omega)⟩
   |true=>
    have hix:=hb.1 rfl;simp[zflq];refine zx9 data xs.length _ _ ?_;simp[zeE,zar,zaL,AV.known,newB];have hlE:zbU data ts N xs=if 2000<cL (cV data xs.length) ts N then 9 else 0:=by unfold zbU;rw[ap h6,ap hne,ap (λh=>h.elim c1 λh=>h.elim c2 λh=>h hix)];simp
    have hgo:∀t∈ts,zaD data 0 t=true:=λt h=>(zjS (hf t h)).2;have hD:zaB data=true:=by obtain⟨t,h⟩:=List.exists_mem_of_ne_nil ts hts;exact(zjS (hf t h)).1
    have:=zHD hD hk hix.1 hgo (by omega) (n:=N) (by omega) hs h0 (K:=K) (λh=>by
     have:=hE (by rw[hlE,aB h];omega);rwa [hlE,aB h]at this) (λh=>by
     have:=hK (by rw[hlE,ap (by omega)]);simpa using this)
    simpa[newB,zds]using this
def vle(a b:VT):Prop:=¬VT.cmp b a<0
theorem zxN(g:VT→Nat→List VT)(t:VT)(h0:g t 0=[]):∀ n,lsL g [t] n=(g t n).map λv=>[v]
 |0=>by rw[h0];rfl
 |n+1=>by
  have h1:∀s,s<n→zbc (g t (s+1)) (lsL g [] (n+1-(s+1)))=[]:=λs hs=>by
   rw[lsL,ap (by omega)];unfold zbc;induction g t (s+1) with
   |nil=>rfl
   |cons a l ih=>rw[bg,ih];rfl
  have h2:(List.range n).flatMap (λs=>zbc (g t (s+1)) (lsL g [] (n+1-(s+1))))=[]:=by
   rw[zfX (g:=λ_=>[]) λs hs=>h1 s (be.1 hs)];induction List.range n with
   |nil=>rfl
   |cons a l ih=>rw[bg,ih];rfl
  rw[lsL,cb,bt,h2,List.nil_append,bg,List.flatMap_nil,aE,bU,lsL,aB rfl];unfold zbc;induction g t (n+1) with
  |nil=>rfl
  |cons a l ih=>rw[bg,ih];rfl
def hd0(r:List VT):VT:=r.getD 0 (.mk 0 0 [])
theorem zHh{L:List (List VT)}{W:List VT}(hp:L.Perm (W.map λv=>[v]))(hs:L.Pairwise cle):(∀r∈L,r=[hd0 r])∧(L.map hd0).Perm W∧(L.map hd0).Pairwise vle:=by
 have h1:∀r∈L,r=[hd0 r]:=λr hr=>by obtain⟨v,_,rfl⟩:=aV.1 (hp.subset hr);rfl
 refine⟨h1,?_,?_⟩
 ·have:=hp.map hd0;rw[cK]at this;have e:(hd0 ∘ λv=>[v])=id:=rfl;rw[e,List.map_id]at this;exact this
 ·rw[List.pairwise_map];refine hs.imp_of_mem λ{a b} ha hb h=>?_;rw[h1 a ha,h1 b hb]at h;unfold cle at h;rw[VT.cmpL,VT.cmpL]at h;have:cor (VT.cmp (hd0 b) (hd0 a)) 0=VT.cmp (hd0 b) (hd0 a):=by unfold cor;split <;> omega
  rw[this]at h;exact h
theorem zLV{data:List Dat}(hF:zdW data)(hl:data.length≤1000000)(hk:Kpt data)(t:VT)(ht:zbw t)(xs:List Int)(hxl:xs.length≤1000000)(n:Int)(hn:n≤14∨24<n)(H:zaa)(h0:H[0]?=some .nodr)(K:Kt)(hE:zbU data [t] n xs≠0→K (.tup [.sl [] .none,.int .i64 (zbU data [t] n xs)]) H)(hK:zbU data [t] n xs=0→∀ V,V.Perm (vV data xs t n.toNat)→V.Pairwise vle→K (.tup [.sl (VT.css V) .none,.int .i64 0]) H):
  ACalls tP zf3 [.sl (data.map Dat.cs) .none,.agg t.cs,.int .i64 n,.sl (ints xs) .none] H K:=by
 refine ACalls.out (zLT λhs=>?_);have hlt0:0<H.length:=(List.getElem?_eq_some_iff.1 h0).1;obtain⟨x,y,z,hvx,hx,hy,hz⟩:=zaO t;have hc3:=VT.cs_take t;have hcl:=VT.cs_len t;obtain⟨C,hC⟩:∃C,C=t.cs:=⟨_,rfl⟩;rw[←hC]at hc3 hcl;simp only[zAm];rw[←hC];simp[hcl,hc3];rw[hC,zd4];refine ACalls.wk (args':=[.sl (data.map Dat.cs) .none,.sl (VT.css [t]) .none,.int .i64 n,.sl (ints xs) .none]) ?_ ⟨.atom (.refl _),.atom (.sl _ _),.atom (.refl _),.atom (.refl _),trivial⟩;refine zPQ hF hl hk [t] (by simp) (by simp) (by simpa using ht) xs hxl n hn _ (by rw[List.getElem?_append_left hlt0];exact h0) _ (λhe=>?_) (λhe L hp hsrt=>?_)
 ·have hb:(zbU data [t] n xs != 0)=true:=by simpa using he
  simp[hb];exact⟨⟨rfl,rfl⟩,@Out.tup H _ K [.snil,.int .i64 _] _ hs (hE he) ⟨⟨.atom .snil,rfl,rfl⟩,⟨.rfl',rfl,rfl⟩,trivial⟩⟩
 ·rw[zxN _ _ (zrY data xs t)]at hp;obtain⟨q1,q2,q3⟩:=zHh hp hsrt;simp;obtain⟨hok1,_,_,_,_,hok6⟩:=zHB he;have hLl:L.length≤2000:=by have h1:=hp.length_eq;rw[aS,zeX]at h1;have h2:=zj9 (g:=vV data xs) (zb3 data xs.length) [t] n.toNat λt _ s _=>zeX data xs s t;rw[zxN _ _ (zrY data xs t),aS,zeX]at h2;omega
  have hgi:∀(i:Nat) (hi:i<L.length),∀h:i<(llA L).length,(llA L)[i]'h=[.sl (VT.css [hd0 L[i]]) .none]:=λi hi h=>by have:=q1 _ (ae hi);rw[←this];simp[llA]
  refine ALoop.own 12 zaP 3 rfl ?_;obtain⟨A,hA⟩:∃A,A=H++[AB.cells t.cs]:=⟨_,rfl⟩;have hAl:A.length=H.length+1:=by rw[hA];simp
  have hAs:HSc A:=by rw[hA];exact hs.snoc (by simp[AB.sc])
  rw[←hA];show zsq (.sl [] (.own A.length)) (.sl (llA L) .none) (.int .i64 L.length) (.int .i64 0) (A++[.perm zaP 3 0]) _;refine zLR (Inv:=λq t12 t29 H'=>∃i:Nat,i≤L.length∧L.length-i=q∧t29=.int .i64 i∧t12=.sl (VT.css ((L.map hd0).take i)) (.own A.length)∧H'=A++[.perm zaP 3 i]) L.length ?_ ?_
  ·intro _;exact⟨0,by omega,rfl,rfl,rfl,rfl⟩
  ·rintro q t12 t29 H' ⟨i,hi,rfl,rfl,rfl,rfl⟩ hsc hlen hsF Kb hKb;by_cases hlt:i<L.length
   ·obtain⟨x1,y1,z1,hvx1,hx1,hy1,hz1⟩:=zaO (hd0 L[i]);have hcs1:VT.css [hd0 L[i]]=[[x1,y1,z1]]:=by rw[VT.css,VT.css,hvx1]
    simp[zso,hlt,hgi i hlt,hcs1];rw[←hvx1,zd4];refine zjB (k:=i) (by rw[aM,aS];omega) (by simp) (by omega) ?_;have hst:(L.map hd0).take i++[hd0 L[i]]=(L.map hd0).take (i+1):=by rw[aj (by simpa using hlt)];simp
    rw[hst,wr (by omega)];have hset:(A++[AB.perm zaP 3 i]).set A.length (.perm zaP 3 (i+1))=A++[.perm zaP 3 (i+1)]:=by rw[ai _ _ (aa _)];simp
    rw[hset];refine hKb _ _ ⟨L.length-(i+1),by omega,Back.here (by simp) (hAs.snoc rfl) ?_ ⟨_,_,rfl,i+1,by omega,rfl,rfl,rfl,rfl⟩⟩;simp[zlS,ux,AV.sc,AV.scA,AV.scB,AV.scV]
   ·obtain rfl:i=L.length:=by omega
    simp[zso];rw[ak (by simp),hA,ah];exact⟨⟨rfl,rfl⟩,@Out.tup H _ K [.sl (VT.css (L.map hd0)) _,.int .i64 0] _ hs (hK he _ q2 q3) ⟨⟨.atom (.sl _ _),rfl,rfl⟩,⟨.rfl',rfl,rfl⟩,trivial⟩⟩
end Go.Proofs.YtaifokkaaahdoaaGreatDoor
