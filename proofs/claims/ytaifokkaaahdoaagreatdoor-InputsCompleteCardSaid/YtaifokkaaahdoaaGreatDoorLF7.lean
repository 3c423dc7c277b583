import Derived.Test.YtaifokkaaahdoaaGreatDoorKNum
import Derived.Test.YtaifokkaaahdoaaGreatDoorProg
import Derived.KernelRfl
import Derived.Test.YtaifokkaaahdoaaGreatDoorLE7
set_option linter.unusedSectionVars false
set_option linter.unusedSimpArgs false
set_option linter.unusedVariables false
set_option maxRecDepth 8000
namespace Go.Proofs.YtaifokkaaahdoaaGreatDoor
open Go Go.Abs
set_option maxRecDepth 100000
def zeg:Nat→List Bool
 |4=>rl false [0,1,1,1,3,2,11,3,52]
 |8=>rl false [0,1,1,1,3,2,1,2,8,3,7,2,43]
 |12=>rl false [0,1,1,1,3,2,1,4,6,3,7,2,43]
 |500014=>rl false [0,1]
 |_=>[]
noncomputable def zsh:Code:=Tryz.f45.body.getD .skip
noncomputable def zNk:List ResultVar:=Tryz.f45.results.toList
def zmF(t0 t2 t6 t7 t19 t20 t21:AV):List AV:=t0::ux 1 (t2::ux 3 (t6::t7::ux 11 (t19::t20::t21::ux 52 [])))
def zzX:List Bool:=zeg 4
noncomputable def zsi:Code:=zaq [1,1,1,0,1,0,0] zsh
def zzR(K:Kt):AExit→List AV→zaa→Prop:=zar tP zeg [1,1,1,0,1,0] zsh (zaB tP zNk K)
def zzV(t0 t2 t6 t7 t19 t20 t21:AV)(H:zaa)(K:Kt):Prop:=ALoop tP zsi (zzR K) (zmF t0 t2 t6 t7 t19 t20 t21) H
def zmG(t0 t2 t6 t7 t9 t10 t19 t20 t21 t29 t30:AV):List AV:=t0::ux 1 (t2::ux 3 (t6::t7::ux 1 (t9::t10::ux 8 (t19::t20::t21::ux 7 (t29::t30::ux 43 [])))))
def zzY:List Bool:=zeg 8
noncomputable def zsj:Code:=zaq [1,1,0,0,1,1,0,1,0,0] zsi
def zzS(K:Kt)(Kb4:Lt):AExit→List AV→zaa→Prop:=zar tP zeg [1,1,0,0,1,1,0,1,0] zsi (zbK zzX Kb4 (zzR K))
def zzW(t0 t2 t6 t7 t9 t10 t19 t20 t21 t29 t30:AV)(H:zaa)(K:Kt)(Kb4:Lt):Prop:=ALoop tP zsj (zzS K Kb4) (zmG t0 t2 t6 t7 t9 t10 t19 t20 t21 t29 t30) H
def zzT(t0 t2 t6 t7 t9 t10 t19 t20 t21 t29 t30:AV)(H:zaa)(K:Kt)(Kb4:Lt)(Kb8:Lt):Prop:=
 zac .add false t30 (.int .i64 1) λt67=>
 Kb8 (zmG t0 t2 t6 t7 t9 t10 t19 t20 t21 t29 t67) H
def zmH(t0 t2 t6 t7 t9 t10 t19 t20 t21 t29 t30:AV)(H:zaa)(K:Kt)(Kb4:Lt)(Kb8:Lt):Prop:=
 zzT t0 t2 t6 t7 t9 t10 t19 t20 t21 t29 t30 H K Kb4 Kb8
def zmE(t0 t2 t6 t7 t9 t10 t11 t12 t19 t20 t21 t29 t30:AV):List AV:=t0::ux 1 (t2::ux 3 (t6::t7::ux 1 (t9::t10::t11::t12::ux 6 (t19::t20::t21::ux 7 (t29::t30::ux 43 [])))))
def zNi:List Bool:=zeg 12
noncomputable def zNe:Code:=zaq [1,1,0,0,1,1,1,0,0] zsj
def zNd(K:Kt)(Kb4:Lt)(Kb8:Lt):AExit→List AV→zaa→Prop:=zar tP zeg [1,1,0,0,1,1,1,0] zsj (zbK zzY Kb8 (zzS K Kb4))
def zzU(t0 t2 t6 t7 t9 t10 t11 t12 t19 t20 t21 t29 t30:AV)(H:zaa)(K:Kt)(Kb4:Lt)(Kb8:Lt):Prop:=ALoop tP zNe (zNd K Kb4 Kb8) (zmE t0 t2 t6 t7 t9 t10 t11 t12 t19 t20 t21 t29 t30) H
def zse(t0 t2 t6 t7 t9 t10 t11 t12 t19 t20 t21 t29 t30:AV)(H:zaa)(K:Kt)(Kb4:Lt)(Kb8:Lt)(Kb12:Lt):Prop:=
 zac .add false t11 t12 λt41=>
 zac .leq false t41 t2 λt43=>
 zag t43
 (zad H (λK'=>K' t10 H) λt46=>
 zad H (λK'=>K' t11 H) λt47=>
 zad H (λK'=>K' t12 H) λt48=>
 zad H (λK'=>zac .add false t47 t48 (K' · H)) λt49=>
 zad H (λK'=>K' t10 H) λt50=>
 zad H (λK'=>K' t11 H) λt51=>
 zad H (λK'=>K' t12 H) λt52=>
 zad H (λK'=>zac .add false t51 t52 (K' · H)) λt53=>
 zad H (λK'=>zaj 3 t50 t53 (K' · H)) λt54=>
 zad H (λK'=>zam true 3 t54 H (K' · H)) λt55=>
 zad H (λK'=>K' t7 H) λt56=>
 zad H (λK'=>K' t11 H) λt57=>
 zad H (λK'=>zaj 3 t56 t57 (K' · H)) λt58=>
 zad H (λK'=>zam true 3 t58 H (K' · H)) λt59=>
 zad H (λK'=>K' t0 H) λt60=>
 zad H (λK'=>K' t9 H) λt61=>
 zad H (λK'=>K' t12 H) λt62=>
 zbl .l false H (λK'=>ACalls tP zgB [t60,t61,t62] H K') λt63 H'=>
 zd2 true [t54,t58] H H' ((λH=>
 zbl .l false H (λK'=>ACalls tP zkh [t59,t63] H K') λt64 H'=>
 zd2 true [t54,t58] H H' ((λH=>
 zbl .l false H (λK'=>ACalls tP zh7 [t55,t64] H K') λt65 H'=>
 zd2 true [t54,t58] H H' ((λH=>
 zad H (λK'=>zaj 3 t46 t49 (K' · H)) λt66=>
 zbl .l false H (λK'=>zak 3 t66 t65 H (K' (.tup []))) λ_ H=>
 zac .add false t12 (.int .i64 1) λt45=>
 Kb12 (zmE t0 t2 t6 t7 t9 t10 t11 t45 t19 t20 t21 t29 t30) H) H')) H')) H'))
 (zmH t0 t2 t6 t7 t9 t10 t19 t20 t21 t29 t30 H K Kb4 Kb8)
def zsg(t0 t2 t6 t7 t9 t10 t19 t20 t21 t29 t30:AV)(H:zaa)(K:Kt)(Kb4:Lt)(Kb8:Lt):Prop:=
 zac .lss false t30 t29 λt31=>
 zag t31
 (zaj 3 t7 t30 λt35=>
 zae true 3 t35 H λt36=>
 ACalls tP ze9 [t36] H λt37 H=>
 zac .eql false t37 (.int .i64 0) λt38=>
 zag t38
 (zmH t0 t2 t6 t7 t9 t10 t19 t20 t21 t29 t30 H K Kb4 Kb8)
 (zzU t0 t2 t6 t7 t9 t10 t30 (.int .i64 1) t19 t20 t21 t29 t30 H K Kb4 Kb8))
 (zac .add false t21 (.int .i64 1) λt69=>
 Kb4 (zmF t0 t2 t6 t10 t19 t20 t69) H)
def zsf(t0 t2 t6 t7 t19 t20 t21:AV)(H:zaa)(K:Kt)(Kb4:Lt):Prop:=
 zac .lss false t21 t20 λt22=>
 zag t22
 (zaj 1 t19 t21 λt23=>
 zae false 1 t23 H λt24=>
 zac .add false t2 (.int .i64 1) λt26=>
 zbu 56 [(.bool false),.snil,.snil] t26 t26 H λt27 H=>
 zah 1 t7 λt29=>
 zzW t0 t2 t6 t7 t24 t27 t19 t20 t21 t29 (.int .i64 0) H K Kb4)
 (zaj 3 t7 t2 λt72=>
 zae true 3 t72 H λt73=>
 zak 3 t6 t73 H λH=>
 zae true 3 t6 H λr0=>
 K r0 H)
def zzQ(t0 t1 t2:AV)(H:zaa)(K:Kt):Prop:=
 zay [(.bool false),.snil,.snil] H λt6 H=>
 zac .add false t2 (.int .i64 1) λt14=>
 zbu 56 [(.bool false),.snil,.snil] t14 t14 H λt15 H=>
 ACalls tP ze8 [(.int .i64 1)] H λt17 H=>
 zaj 3 t15 (.int .i64 0) λt18=>
 zak 3 t18 t17 H λH=>
 zah 1 t1 λt20=>
 zzV t0 t2 t6 t15 t1 t20 (.int .i64 0) H K
theorem zNf{t0 t2 t6 t7 t9 t10 t11 t12 t19 t20 t21 t29 t30:AV}{H:zaa}{K:Kt}{Kb4:Lt}{Kb8:Lt}(Inv:Nat→AV→zaa→Prop)(n:Nat)(h0:HSc H→Inv n t12 H)(round:Rd1 (λt12=>zmE t0 t2 t6 t7 t9 t10 t11 t12 t19 t20 t21 t29 t30) (λt12=>λH Kb12=>zse t0 t2 t6 t7 t9 t10 t11 t12 t19 t20 t21 t29 t30 H K Kb4 Kb8 Kb12) H Inv):zzU t0 t2 t6 t7 t9 t10 t11 t12 t19 t20 t21 t29 t30 H K Kb4 Kb8:=
 lp1 (M:=zeg) zNi t12 (by kernel_rfl) Inv n h0 round
theorem zNh{t0 t2 t6 t7 t9 t10 t19 t20 t21 t29 t30:AV}{H:zaa}{K:Kt}{Kb4:Lt}(Inv:Nat→AV→zaa→Prop)(n:Nat)(h0:HSc H→Inv n t30 H)(round:Rd1 (λt30=>zmG t0 t2 t6 t7 t9 t10 t19 t20 t21 t29 t30) (λt30=>λH Kb8=>zsg t0 t2 t6 t7 t9 t10 t19 t20 t21 t29 t30 H K Kb4 Kb8) H Inv):zzW t0 t2 t6 t7 t9 t10 t19 t20 t21 t29 t30 H K Kb4:=
 lp1 (M:=zeg) zzY t30 (by kernel_rfl) Inv n h0 round
theorem zNg{t0 t2 t6 t7 t19 t20 t21:AV}{H:zaa}{K:Kt}(Inv:Nat→AV→AV→zaa→Prop)(n:Nat)(h0:HSc H→Inv n t7 t21 H)(round:Rd2 (λt7=>λt21=>zmF t0 t2 t6 t7 t19 t20 t21) (λt7=>λt21=>λH Kb4=>zsf t0 t2 t6 t7 t19 t20 t21 H K Kb4) H Inv):zzV t0 t2 t6 t7 t19 t20 t21 H K:=
 lp2 (M:=zeg) zzX t7 t21 (by kernel_rfl) Inv n h0 round
theorem zNj{t0 t1 t2:AV}{H:zaa}{K:Kt}(h:HSc H→zzQ t0 t1 t2 H K):ACalls tP zgD [t0,t1,t2] H K:=
 zan (M:=zeg) Tryz.func45 (c:=zsh) (by kernel_rfl) (λhs=>Eq.mpr (by kernel_rfl) (h hs))
def zf6:Nat→List Bool
 |4=>rl false [0,3,3,2,9,2,41]
 |8=>rl false [0,3,3,4,7,2,41]
 |500010=>rl false [0,1]
 |_=>[]
noncomputable def zsM:Code:=Tryz.f75.body.getD .skip
noncomputable def zOW:List ResultVar:=Tryz.f75.results.toList
def zm4(t0 t1 t2 t6 t7 t17 t18:AV):List AV:=t0::t1::t2::ux 3 (t6::t7::ux 9 (t17::t18::ux 41 []))
def zAJ:List Bool:=zf6 4
noncomputable def zsN:Code:=zaq [1,1,1,0,1,0,0] zsM
def zAF(K:Kt):AExit→List AV→zaa→Prop:=zar tP zf6 [1,1,1,0,1,0] zsM (zaB tP zOW K)
def zAH(t0 t1 t2 t6 t7 t17 t18:AV)(H:zaa)(K:Kt):Prop:=ALoop tP zsN (zAF K) (zm4 t0 t1 t2 t6 t7 t17 t18) H
def zAG(t0 t1 t2 t6 t7 t17 t18:AV)(H:zaa)(K:Kt)(Kb4:Lt):Prop:=
 zac .add false t18 (.int .i64 1) λt55=>
 Kb4 (zm4 t0 t1 t2 t6 t7 t17 t55) H
def zm6(t0 t1 t2 t6 t7 t17 t18:AV)(H:zaa)(K:Kt)(Kb4:Lt):Prop:=
 zAG t0 t1 t2 t6 t7 t17 t18 H K Kb4
def zm5(t0 t1 t2 t6 t7 t8 t9 t17 t18:AV):List AV:=t0::t1::t2::ux 3 (t6::t7::t8::t9::ux 7 (t17::t18::ux 41 []))
def zOU:List Bool:=zf6 8
noncomputable def zOR:Code:=zaq [1,1,0,0,1,1,1,0,0] zsN
def zOQ(K:Kt)(Kb4:Lt):AExit→List AV→zaa→Prop:=zar tP zf6 [1,1,0,0,1,1,1,0] zsN (zbK zAJ Kb4 (zAF K))
def zAI(t0 t1 t2 t6 t7 t8 t9 t17 t18:AV)(H:zaa)(K:Kt)(Kb4:Lt):Prop:=ALoop tP zOR (zOQ K Kb4) (zm5 t0 t1 t2 t6 t7 t8 t9 t17 t18) H
def zsL(t0 t1 t2 t6 t7 t8 t9 t17 t18:AV)(H:zaa)(K:Kt)(Kb4:Lt)(Kb8:Lt):Prop:=
 zac .add false t8 t9 λt29=>
 zac .leq false t29 t2 λt31=>
 zag t31
 (zad H (λK'=>K' t7 H) λt34=>
 zad H (λK'=>K' t8 H) λt35=>
 zad H (λK'=>K' t9 H) λt36=>
 zad H (λK'=>zac .add false t35 t36 (K' · H)) λt37=>
 zad H (λK'=>K' t7 H) λt38=>
 zad H (λK'=>K' t8 H) λt39=>
 zad H (λK'=>K' t9 H) λt40=>
 zad H (λK'=>zac .add false t39 t40 (K' · H)) λt41=>
 zad H (λK'=>zaj 3 t38 t41 (K' · H)) λt42=>
 zad H (λK'=>zam true 3 t42 H (K' · H)) λt43=>
 zad H (λK'=>K' t7 H) λt44=>
 zad H (λK'=>K' t8 H) λt45=>
 zad H (λK'=>zaj 3 t44 t45 (K' · H)) λt46=>
 zad H (λK'=>zam true 3 t46 H (K' · H)) λt47=>
 zad H (λK'=>K' t0 H) λt48=>
 zad H (λK'=>K' t1 H) λt49=>
 zad H (λK'=>K' t9 H) λt50=>
 zbl .l false H (λK'=>ACalls tP zgB [t48,t49,t50] H K') λt51 H'=>
 zd2 true [t42,t46] H H' ((λH=>
 zbl .l false H (λK'=>ACalls tP zkh [t47,t51] H K') λt52 H'=>
 zd2 true [t42,t46] H H' ((λH=>
 zbl .l false H (λK'=>ACalls tP zh7 [t43,t52] H K') λt53 H'=>
 zd2 true [t42,t46] H H' ((λH=>
 zad H (λK'=>zaj 3 t34 t37 (K' · H)) λt54=>
 zbl .l false H (λK'=>zak 3 t54 t53 H (K' (.tup []))) λ_ H=>
 zac .add false t9 (.int .i64 1) λt33=>
 Kb8 (zm5 t0 t1 t2 t6 t7 t8 t33 t17 t18) H) H')) H')) H'))
 (zm6 t0 t1 t2 t6 t7 t17 t18 H K Kb4)
def zsK(t0 t1 t2 t6 t7 t17 t18:AV)(H:zaa)(K:Kt)(Kb4:Lt):Prop:=
 zac .lss false t18 t17 λt19=>
 zag t19
 (zaj 3 t7 t18 λt23=>
 zae true 3 t23 H λt24=>
 ACalls tP ze9 [t24] H λt25 H=>
 zac .eql false t25 (.int .i64 0) λt26=>
 zag t26
 (zm6 t0 t1 t2 t6 t7 t17 t18 H K Kb4)
 (zAI t0 t1 t2 t6 t7 t18 (.int .i64 1) t17 t18 H K Kb4))
 (zaj 3 t7 t2 λt58=>
 zae true 3 t58 H λt59=>
 zak 3 t6 t59 H λH=>
 zae true 3 t6 H λr0=>
 K r0 H)
def zAE(t0 t1 t2:AV)(H:zaa)(K:Kt):Prop:=
 zay [(.bool false),.snil,.snil] H λt6 H=>
 zac .add false t2 (.int .i64 1) λt11=>
 zbu 56 [(.bool false),.snil,.snil] t11 t11 H λt12 H=>
 ACalls tP ze8 [(.int .i64 1)] H λt14 H=>
 zaj 3 t12 (.int .i64 0) λt15=>
 zak 3 t15 t14 H λH=>
 zah 1 t12 λt17=>
 zAH t0 t1 t2 t6 t12 t17 (.int .i64 0) H K
theorem zOT{t0 t1 t2 t6 t7 t8 t9 t17 t18:AV}{H:zaa}{K:Kt}{Kb4:Lt}(Inv:Nat→AV→zaa→Prop)(n:Nat)(h0:HSc H→Inv n t9 H)(round:Rd1 (λt9=>zm5 t0 t1 t2 t6 t7 t8 t9 t17 t18) (λt9=>λH Kb8=>zsL t0 t1 t2 t6 t7 t8 t9 t17 t18 H K Kb4 Kb8) H Inv):zAI t0 t1 t2 t6 t7 t8 t9 t17 t18 H K Kb4:=
 lp1 (M:=zf6) zOU t9 (by kernel_rfl) Inv n h0 round
theorem zOS{t0 t1 t2 t6 t7 t17 t18:AV}{H:zaa}{K:Kt}(Inv:Nat→AV→zaa→Prop)(n:Nat)(h0:HSc H→Inv n t18 H)(round:Rd1 (λt18=>zm4 t0 t1 t2 t6 t7 t17 t18) (λt18=>λH Kb4=>zsK t0 t1 t2 t6 t7 t17 t18 H K Kb4) H Inv):zAH t0 t1 t2 t6 t7 t17 t18 H K:=
 lp1 (M:=zf6) zAJ t18 (by kernel_rfl) Inv n h0 round
theorem zOV{t0 t1 t2:AV}{H:zaa}{K:Kt}(h:HSc H→zAE t0 t1 t2 H K):ACalls tP zh5 [t0,t1,t2] H K:=
 zan (M:=zf6) Tryz.func75 (c:=zsM) (by kernel_rfl) (λhs=>Eq.mpr (by kernel_rfl) (h hs))
def zmB:Nat→List Bool
 |9=>rl false [0,3,3,1,2,1,29,3,55]
 |500011=>rl false [0,1]
 |_=>[]
noncomputable def zsb:Code:=Tryz.f37.body.getD .skip
noncomputable def zMY:List ResultVar:=Tryz.f37.results.toList
def zzK(t0 t1 t2 t6 t9:AV)(H:zaa)(K:Kt):Prop:=
 zad H (λK'=>K' t0 H) λt88=>
 zad H (λK'=>zaG t88 (K' · H)) λt89=>
 zad H (λK'=>zaf 6 t89 (K' · H)) λt90=>
 zad H (λK'=>zam false 1 t90 H (K' · H)) λt91=>
 zad H (λK'=>K' t1 H) λt92=>
 zad H (λK'=>K' t2 H) λt93=>
 zad H (λK'=>zao [(.int .i64 0),(.int .i64 0)] [(0,1),(1,1)] [(0,t92),(1,t93)] (K' · H)) λt94=>
 zad H (λK'=>zam true 3 t9 H (K' · H)) λt95=>
 zdg t91 t94 t95 H λH=>
 zae true 3 t9 H λt96=>
 zak 3 t6 t96 H λH=>
 zae true 3 t6 H λr0=>
 K r0 H
def zeO(t0 t1 t2 t6 t9:AV)(H:zaa)(K:Kt):Prop:=
 zzK t0 t1 t2 t6 t9 H K
def zmC(t0 t1 t2 t6 t9 t39 t40 t41:AV):List AV:=t0::t1::t2::ux 3 (t6::ux 2 (t9::ux 29 (t39::t40::t41::ux 55 [])))
def zMX:List Bool:=zmB 9
noncomputable def zMV:Code:=zaq [1,1,1,1,0,1,0,1,1,1,1,1,1,1,1,1,0,0] zsb
def zMU(K:Kt):AExit→List AV→zaa→Prop:=zar tP zmB [1,1,1,1,0,1,0,1,1,1,1,1,1,1,1,1,0] zsb (zaB tP zMY K)
def zzL(t0 t1 t2 t6 t9 t39 t40 t41:AV)(H:zaa)(K:Kt):Prop:=ALoop tP zMV (zMU K) (zmC t0 t1 t2 t6 t9 t39 t40 t41) H
def zsa(t0 t1 t2 t6 t9 t39 t40 t41:AV)(H:zaa)(K:Kt)(Kb9:Lt):Prop:=
 zac .lss false t41 t40 λt42=>
 zag t42
 (zaj 2 t39 t41 λt43=>
 zae true 2 t43 H λt44=>
 zay [(.int .i64 0),.snil] H λt11 H=>
 zak 2 t11 t44 H λH=>
 zad H (λK'=>zam true 3 t9 H (K' · H)) λt45=>
 zad H (λK'=>K' t0 H) λt46=>
 zad H (λK'=>zaf 1 t11 (K' · H)) λt47=>
 zad H (λK'=>zam false 1 t47 H (K' · H)) λt48=>
 zad H (λK'=>K' t2 H) λt49=>
 zad H (λK'=>zac .sub false t49 (.int .i64 1) (K' · H)) λt50=>
 zbl .l false H (λK'=>ACalls tP zgD [t46,t48,t50] H K') λt51 H'=>
 zd2 true [t9,t47] H H' ((λH=>
 zbl .l false H (λK'=>ACalls tP zh7 [t45,t51] H K') λt52 H'=>
 zd2 true [t9,t47] H H' ((λH=>
 zbl .l false H (λK'=>zak 3 t9 t52 H (K' (.tup []))) λ_ H=>
 zac .add false t41 (.int .i64 1) λt53=>
 Kb9 (zmC t0 t1 t2 t6 t9 t39 t40 t53) H) H')) H'))
 (zeO t0 t1 t2 t6 t9 H K)
def zhb(t0 t1 t2:AV)(H:zaa)(K:Kt):Prop:=
 zay [(.bool false),.snil,.snil] H λt6 H=>
 zac .lss false t2 (.int .i64 1) λt13=>
 zag t13
 (ACalls tP ze8 [(.int .i64 0)] H λt14 H=>
 zak 3 t6 t14 H λH=>
 zae true 3 t6 H λr0=>
 K r0 H)
 (zaG t0 λt17=>
 zaf 6 t17 λt18=>
 zae false 1 t18 H λt19=>
 zao [(.int .i64 0),(.int .i64 0)] [(0,1),(1,1)] [(0,t1),(1,t2)] λt22=>
 zeo (.agg [(.bool false),.snil,.snil]) true t19 t22 H λt23=>
 zaN t23 0 λt24=>
 zaN t23 1 λt25=>
 zay [(.bool false),.snil,.snil] H λt7 H=>
 zak 3 t7 t24 H λH=>
 zag t25
 (zae true 3 t7 H λt27=>
 zak 3 t6 t27 H λH=>
 zae true 3 t6 H λr0=>
 K r0 H)
 (ACalls tP ze8 [(.int .i64 0)] H λt28 H=>
 zay [(.bool false),.snil,.snil] H λt9 H=>
 zak 3 t9 t28 H λH=>
 zaG t0 λt30=>
 zaf 3 t30 λt31=>
 zae false 1 t31 H λt32=>
 zaj 3 t32 t1 λt34=>
 zaf 0 t34 λt35=>
 zae false 1 t35 H λt36=>
 zac .eql false t36 (.int .i64 3) λt55=>
 zag t55
 (ACalls tP zgG [(.int .i64 1),t2] H λt57 H=>
 zak 3 t9 t57 H λH=>
 zeO t0 t1 t2 t6 t9 H K)
 (zac .eql false t36 (.int .i64 2) λt59=>
 zag t59
 (ACalls tP zgG [(.int .i64 2),t2] H λt61 H=>
 zak 3 t9 t61 H λH=>
 zeO t0 t1 t2 t6 t9 H K)
 (zac .eql false t36 (.int .i64 1) λt63=>
 zag t63
 (zaG t0 λt65=>
 zaf 1 t65 λt66=>
 zae false 1 t66 H λt67=>
 ACalls tP zgG [t67,t2] H λt69 H=>
 zak 3 t9 t69 H λH=>
 zeO t0 t1 t2 t6 t9 H K)
 (zac .eql false t36 (.int .i64 7) λt71=>
 zag t71
 (zaG t0 λt75=>
 zaf 3 t75 λt76=>
 zae false 1 t76 H λt77=>
 zaj 3 t77 t1 λt79=>
 zaf 2 t79 λt80=>
 zae false 1 t80 H λt81=>
 zaj 3 t81 (.int .i64 0) λt82=>
 zae true 3 t82 H λt83=>
 ACalls tP zgC [t0,t83] H λt84 H=>
 zac .sub false t2 (.int .i64 1) λt86=>
 ACalls tP zh5 [t0,t84,t86] H λt87 H=>
 zak 3 t9 t87 H λH=>
 zeO t0 t1 t2 t6 t9 H K)
 (ACalls tP zh6 [t0,t1] H λt39 H=>
 zah 1 t39 λt40=>
 zzL t0 t1 t2 t6 t9 t39 t40 (.int .i64 0) H K))))))
theorem zMW{t0 t1 t2 t6 t9 t39 t40 t41:AV}{H:zaa}{K:Kt}(Inv:Nat→AV→zaa→Prop)(n:Nat)(h0:HSc H→Inv n t41 H)(round:Rd1 (λt41=>zmC t0 t1 t2 t6 t9 t39 t40 t41) (λt41=>λH Kb9=>zsa t0 t1 t2 t6 t9 t39 t40 t41 H K Kb9) H Inv):zzL t0 t1 t2 t6 t9 t39 t40 t41 H K:=
 lp1 (M:=zmB) zMX t41 (by kernel_rfl) Inv n h0 round
theorem ziQ{t0 t1 t2:AV}{H:zaa}{K:Kt}(h:HSc H→zhb t0 t1 t2 H K):ACalls tP zgB [t0,t1,t2] H K:=
 zan (M:=zmB) Tryz.func37 (c:=zsb) (by kernel_rfl) (λhs=>Eq.mpr (by kernel_rfl) (h hs))
end Go.Proofs.YtaifokkaaahdoaaGreatDoor
namespace Go.Proofs.YtaifokkaaahdoaaGreatDoor
open Go Go.Abs
theorem zdY{α:Type}(P:Nat→α→Prop)(R:Nat→α→α→Prop):∀ (n:Nat),(∀ k<n,∀ a,P k a→∃ a',R k a a'∧P (k+1) a')→∀ a0,P 0 a0→∃ σ:Nat→α,σ 0=a0∧(∀ k≤n,P k (σ k))∧∀ k<n,R k (σ k) (σ (k+1))
 |0,_,a0,h0=>by
  refine⟨λ_=>a0,rfl,λk hk=>?_,λk hk=>by omega⟩;have hk0:k=0:=by omega
  rw[hk0];exact h0
 |n+1,h,a0,h0=>by
  obtain⟨σ,h1,h2,h3⟩:=zdY P R n (λk hk=>h k (by omega)) a0 h0;obtain⟨a',h4,h5⟩:=h n (by omega) (σ n) (h2 n (Nat.le_refl _));refine⟨λk=>if k≤n then σ k else a',by simp[h1],λk hk=>?_,λk hk=>?_⟩
  ·by_cases e:k≤n
   ·simp only[if_pos e];exact h2 k e
   ·simp only[if_neg e];obtain rfl:k=n+1:=by omega
    exact h5
  ·by_cases e:k+1≤n
   ·simp only[if_pos e,if_pos (show k≤n by omega)];exact h3 k (by omega)
   ·obtain rfl:k=n:=by omega
    simp only[if_neg e,if_pos (Nat.le_refl _)];exact h4
def za1(r:List (Option Nat)):List AV:=(r.map zal).flatten
def zaR(r:List (Option Nat))(h:Nat):Nat:=vO (r.getD h none)
theorem zbE(o:Option Nat):(zal o).length=3:=by cases o <;> rfl
theorem zie(o:Option Nat):(zal o).all AV.known=true:=by cases o <;> rfl
theorem zwi(r:List (Option Nat)):(za1 r).length=3*r.length:=by
 induction r with
 |nil=>rfl
 |cons o r ih=>unfold za1 at ih ⊢;simp only[List.map_cons,List.flatten_cons,List.length_append,zbE,ih,List.length_cons];omega
theorem zwh:∀ (r:List (Option Nat)) (h:Nat),h<r.length→((za1 r).drop (h*3)).take 3=zal (r.getD h none)
 |[],h,hl=>by simp at hl
 |o::r,0,_=>by simp only[za1,List.map_cons,List.flatten_cons,Nat.zero_mul,List.drop_zero];rw[List.take_left' (zbE o)];rfl
 |o::r,h+1,hl=>by have:=zwh r h (by simpa using hl);simp only[za1,List.map_cons,List.flatten_cons]at this ⊢;rw[show (h+1)*3=(zal o).length+h*3 from by rw[zbE];omega,List.drop_append,List.drop_eq_nil_of_le (by omega),List.nil_append,show (zal o).length+h*3-(zal o).length=h*3 from by omega,this];rfl
theorem zwj:∀ (r:List (Option Nat)) (h:Nat) (o:Option Nat),h<r.length→(za1 r).take (h*3)++zal o++(za1 r).drop (h*3+3)=za1 (r.set h o)
 |[],h,_,hl=>by simp at hl
 |x::r,0,o,_=>by simp only[za1,List.map_cons,List.flatten_cons,Nat.zero_mul,List.take_zero,List.nil_append,Nat.zero_add,List.set_cons_zero];rw[List.drop_left' (zbE x)]
 |x::r,h+1,o,hl=>by have:=zwj r h o (by simpa using hl);simp only[za1,List.map_cons,List.flatten_cons,List.set_cons_succ]at this ⊢;rw[←this];rw[show (h+1)*3=(zal x).length+h*3 from by rw[zbE];omega,show (zal x).length+h*3+3=(zal x).length+(h*3+3) from by omega];rw[List.take_append,List.take_of_length_le (by omega),List.drop_append,List.drop_eq_nil_of_le (by omega),List.nil_append];rw[show (zal x).length+h*3-(zal x).length=h*3 from by omega,show (zal x).length+(h*3+3)-(zal x).length=h*3+3 from by omega];simp only[List.append_assoc]
theorem zpF(n:Nat):(List.replicate n [AV.bool false,.snil,.snil]).flatten=za1 (List.replicate n none):=by unfold za1;rw[List.map_replicate];rfl
theorem zkz(m:Nat)(r:List (Option Nat)):(za1 r).all (AV.scA m)=true:=by
 unfold za1;induction r with
 |nil=>rfl
 |cons o r ih=>simp only[List.map_cons,List.flatten_cons,List.all_append,zdt,ih];rfl
theorem zwk(r:List (Option Nat))(h m:Nat)(o:Option Nat)(hl:h<r.length):zaR (r.set h o) m=if m=h then vO o else zaR r m:=by
 unfold zaR;rw[List.getD_eq_getElem?_getD,List.getD_eq_getElem?_getD];by_cases e:h=m
 ·subst e;rw[List.getElem?_set_self hl];simp
 ·rw[List.getElem?_set_ne e,if_neg (λk=>e k.symm)]
theorem zpG(n m:Nat):zaR (List.replicate n none) m=0:=by unfold zaR;rw[List.getD_eq_getElem?_getD,List.getElem?_replicate];split <;> rfl
section
variable {P:AV→Prop}
theorem ze5{id h:Nat}{r:List (Option Nat)}{H:zaa}{K:AV→Prop}(hid:H[id]?=some (.cells (za1 r)))(hl:h<r.length)(hk:K (.agg (zal (r.getD h none)))):zae true 3 (.ptr id (h*3)) H K:=by simp only[zcW,hid,zfu,zfr];exact⟨by rw[zwi];omega,by rw[zwh r h hl];exact hk⟩
theorem zkH{id h:Nat}{r:List (Option Nat)}{o:Option Nat}{H:zaa}{K:zaa→Prop}(hid:H[id]?=some (.cells (za1 r)))(hl:h<r.length)(hk:K (H.set id (.cells (za1 (r.set h o))))):zak 3 (.ptr id (h*3)) (.agg (zal o)) H K:=by simp only[zhk,hid,AV.cs?,zdW];exact⟨⟨zbE o,by rw[zwi];omega,zie o⟩,by rw[zwj r h o hl];exact hk⟩
theorem zuY{id h n c:Nat}{K:AV→Prop}(hl:h<n)(hk:K (.ptr id (h*3))):zaj 3 (.ms id 0 n c) (.int .i64 h) K:=by rw[zft];exact⟨⟨by omega,by omega⟩,by simpa using hk⟩
end
section
variable (data:List Dat) (kk:Nat) (X:List VT) (I:SI)
abbrev zaZ(S:SS):Prop:=Inv data kk X (λ_=>False) S
def zej(S S':SS)(i m:Nat)(o:Option Nat):Prop:=∀H,ShS data kk I S H→H[0]?=some .nodr→∀K:Kt,K (.agg (zal o)) (shS data kk I S' H)→ACalls tP zgB [.ptr I.p 0,.int .i64 i,.int .i64 m] H K
def zcD(m:Nat):Prop:=∀(S:SS) (i:Nat) (t:VT),zaZ data kk X S→S.types[i]?=some t→Rch data X m t→∃S' o,zaZ data kk X S'∧S.types <+: S'.types∧vO o=cV data kk t m∧zej data kk I S S' i m o
end
theorem zc6{T T':List VT}(h:T <+: T'){i:Nat}{t:VT}(ht:T[i]?=some t):T'[i]?=some t:=by obtain⟨E,rfl⟩:=h;rw[List.getElem?_append_left (List.getElem?_eq_some_iff.1 ht).1];exact ht
theorem zwC:∀ (n:Nat) (f:Nat→Nat),sm n f=sm n λi=>f (n-1-i)
 |0,_=>rfl
 |n+1,f=>by
  rw[zfd,zwC n]
  conv=>rhs;rw[sm]
  rw[show n+1-1-n=0 from by omega,Nat.add_comm];congr 1;exact zch λi hi=>by rw[show n-1-i+1=n+1-1-i from by omega]
theorem zkG{a b:Nat}(h:a≤b)(f:Nat→Nat):sm a f≤sm b f:=by
 induction b with
 |zero=>
  obtain rfl:a=0:=by omega
  exact Nat.le_refl _
 |succ b ih=>
  by_cases e:a=b+1
  ·subst e;exact Nat.le_refl _
  ·have:=ih (by omega);rw[sm];omega
def zdr(g:Nat→Nat)(k m:Nat):Nat:=(if m=0 then 1 else 0)+sm (min k m) λh=>cA g h*g (m-h)
theorem zEK(g:Nat→Nat)(m:Nat):zdr g 0 m=if m=0 then 1 else 0:=by simp[zdr,sm]
theorem zgK{g:Nat→Nat}(h0:g 0=0){k m:Nat}(h:m≤k):zdr g k m=cA g m:=by
 unfold zdr;rw[Nat.min_eq_right h];cases m with
 |zero=>rfl
 |succ m=>
  rw[if_neg (by omega),Nat.zero_add,zjo h0]
  conv=>rhs;rw[zfd,h0,Nat.zero_mul,Nat.zero_add]
  rw[zwC (m+1)];refine zch λi hi=>?_;rw[show m+1-1-i=m-i from by omega,show m+1-(m-i)=i+1 from by omega,show m+1-(i+1)=m-i from by omega,Nat.mul_comm]
theorem zpx(g:Nat→Nat)(k m:Nat):zdr g (k+1) m=zdr g k m+if k<m then cA g k*g (m-k) else 0:=by
 unfold zdr;by_cases h:k<m
 ·rw[if_pos h,Nat.min_eq_left (by omega),Nat.min_eq_left (by omega),sm];omega
 ·rw[if_neg h,Nat.min_eq_right (by omega),Nat.min_eq_right (by omega)];rfl
theorem zEJ{g:Nat→Nat}(h0:g 0=0)(k m:Nat):zdr g k m≤cA g m:=by rw[←zgK h0 (Nat.le_refl m)];unfold zdr;have:=zkG (show min k m≤min m m by omega) λh=>cA g h*g (m-h);omega
section
variable {data:List Dat} (hD:zaD data=true) (hk:Kpt data) {kk:Nat} (hkk:kk≤8) {X:List VT} (hX:X.length≤1000000000000) {I:SI}
def QA(data:List Dat)(kk:Nat)(X:List VT)(S:SS)(t:VT)(n k s:Nat)(b:SS×List (Option Nat)):Prop:=
 zaZ data kk X b.1∧S.types <+: b.1.types∧b.2.length=n+1∧∀m,m≤n→zaR b.2 m=zdr (cV data kk t) k m+if k<m∧m≤k+s then cA (cV data kk t) k*cV data kk t (m-k) else 0
def RA(data:List Dat)(kk:Nat)(I:SI)(t:VT)(i k s:Nat)(b b':SS×List (Option Nat)):Prop:=
 ∃o,vO o=cV data kk t (s+1)∧zej data kk I b.1 b'.1 i (s+1) o∧b'.2=b.2.set (k+(s+1)) (some (zaR b.2 (k+(s+1))+zaR b.2 k*cV data kk t (s+1)))
include hD hk hkk hX
theorem zCb{S:SS}{i n:Nat}{t:VT}(hC:∀ m,m≤n→zcD data kk X I m)(hti:S.types[i]?=some t)(hR:Rch data X n t){k:Nat}(hkn:k≤n){a:SS × List (Option Nat)}(ha:QA data kk X S t n k 0 a):
  ∃ τ:Nat→SS×List (Option Nat),τ 0=a∧(∀s≤n-k,QA data kk X S t n k s (τ s))∧∀s<n-k,RA data kk I t i k s (τ s) (τ (s+1)):=by
 refine zdY _ _ (n-k) (λs hs b hb=>?_) a ha;obtain⟨h1,h2,h3,h4⟩:=hb;obtain⟨S',o,h5,h6,h7,h8⟩:=hC (s+1) (by omega) b.1 i t h1 (zc6 h2 hti) (hR.le _ (by omega));refine⟨(S',b.2.set (k+(s+1)) (some (zaR b.2 (k+(s+1))+zaR b.2 k*cV data kk t (s+1)))),⟨o,h7,h8,rfl⟩,h5,h2.trans h6,by simp[h3],λm hm=>?_⟩;simp only;rw[zwk _ _ _ _ (by omega)];by_cases e:m=k+(s+1)
 ·subst e;rw[if_pos rfl,if_pos ⟨by omega,by omega⟩,h4 _ hm,if_neg (by omega),h4 k (by omega),if_neg (by omega),zgK (zb2 data kk t) (Nat.le_refl k),show k+(s+1)-k=s+1 from by omega];rfl
 ·rw[if_neg e,h4 m hm];congr 1;by_cases e2:k<m∧m≤k+s
  ·rw[if_pos e2,if_pos ⟨e2.1,by omega⟩]
  ·rw[if_neg e2,if_neg (by omega)]
theorem zCc{S:SS}{i n:Nat}{t:VT}(hC:∀ m,m≤n→zcD data kk X I m)(hI:zaZ data kk X S)(hti:S.types[i]?=some t)(hR:Rch data X n t):
  ∃ σ:Nat→SS×List (Option Nat),σ 0=(S,some 1::List.replicate n none)∧(∀k≤n+1,QA data kk X S t n k 0 (σ k))∧∀k<n+1,(zaR (σ k).2 k=0∧σ (k+1)=σ k)∨(zaR (σ k).2 k≠0∧∃ τ:Nat→SS×List (Option Nat),τ 0=σ k∧τ (n-k)=σ (k+1)∧(∀s≤n-k,QA data kk X S t n k s (τ s))∧∀s<n-k,RA data kk I t i k s (τ s) (τ (s+1))):=by
 refine zdY _ (λk a a'=>(zaR a.2 k=0∧a'=a)∨(zaR a.2 k≠0∧∃ τ:Nat→SS×List (Option Nat),τ 0=a∧τ (n-k)=a'∧(∀s≤n-k,QA data kk X S t n k s (τ s))∧∀s<n-k,RA data kk I t i k s (τ s) (τ (s+1)))) (n+1) (λk hkn a ha=>?_) _ ⟨hI,List.prefix_rfl,by simp,λm hm=>?_⟩
 ·have hk0:zaR a.2 k=cA (cV data kk t) k:=by rw[ha.2.2.2 k (by omega),if_neg (by omega),zgK (zb2 data kk t) (Nat.le_refl k)];rfl
  by_cases e:zaR a.2 k=0
  ·refine⟨a,.inl ⟨e,rfl⟩,ha.1,ha.2.1,ha.2.2.1,λm hm=>?_⟩;rw[ha.2.2.2 m hm,if_neg (by omega),if_neg (by omega),zpx,←hk0,e];split <;> simp
  ·obtain⟨τ,h1,h2,h3⟩:=zCb hD hk hkk hX hC hti hR (show k≤n by omega) ha;refine⟨τ (n-k),.inr ⟨e,τ,h1,rfl,h2,h3⟩,?_⟩;obtain⟨h4,h5,h6,h7⟩:=h2 (n-k) (Nat.le_refl _);refine⟨h4,h5,h6,λm hm=>?_⟩;rw[h7 m hm,if_neg (show ¬(k+1<m∧m≤k+1+0) by omega),zpx];by_cases e2:k<m
   ·rw[if_pos ⟨e2,by omega⟩,if_pos e2];rfl
   ·rw[if_neg (by omega),if_neg e2]
 ·simp only;rw[if_neg (by omega),zEK];unfold zaR;cases m with
  |zero=>rfl
  |succ m=>have:=zpG n m;unfold zaR at this;simpa using this
end
theorem zoy{A J:zaa}{A':zaa}{l:Nat}(hl:A.length=l)(hl':A'.length=l){la:List AV}(has:∀a∈la,∀id off,a=.ptr id off→l≤id):zdR la (A++J) (A'++J):=by intro a ha id off e cs hcs;have:=has a ha id off e;rw[List.getElem?_append_right (by omega)]at hcs ⊢;rw[hl]at hcs;rw[hl'];exact hcs
theorem zhF(la:List AV)(H:zaa):zdR la H H:=λ_ _ _ _ _ _ h=>h
theorem zdB{H:zaa}{p:(AV→zaa→Prop)→Prop}{k:AV→zaa→Prop}(r:AV)(H':zaa)(h:p λv H2=>v=r∧H2=H')(hk:k r H'):zbl .l false H p k:=⟨r,H',h,(λh=>by cases h),hk⟩
@[congr] theorem zRj{m:WM}{g:Bool}{H:zaa}{p:(AV→zaa→Prop)→Prop}{k:AV→zaa→Prop}:zbl m g H p k=zbl m g H p k:=rfl
section
variable {data:List Dat} (hD:zaD data=true) (hk:Kpt data) {kk:Nat} (hkk:kk≤8) {X:List VT} (hX:X.length≤1000000000000) {I:SI}
include hD hk hkk hX
theorem zwy{n:Nat}(hn:n≤14)(hC:∀ m,m≤n→zcD data kk X I m){S:SS}{i:Nat}{t:VT}(hI:zaZ data kk X S)(hti:S.types[i]?=some t)(hR:Rch data X n t):
  ∃S' o,zaZ data kk X S'∧S.types <+: S'.types∧vO o=cA (cV data kk t) n∧∀H,ShS data kk I S H→H[0]?=some .nodr→∀K:Kt,K (.agg (zal o)) (shS data kk I S' H)→ACalls tP zh5 [.ptr I.p 0,.int .i64 i,.int .i64 n] H K:=by
 obtain⟨σ,hσ0,hσQ,hσR⟩:=zCc (I:=I) hD hk hkk hX hC hI hti hR;have hlast:=hσQ (n+1) (Nat.le_refl _);have hgz:=zb2 data kk t;refine⟨(σ (n+1)).1,(σ (n+1)).2.getD n none,hlast.1,hlast.2.1,?_,λH hS h0 K hK=>?_⟩
 ·have:=hlast.2.2.2 n (Nat.le_refl _);rw[if_neg (by omega),zgK hgz (by omega)]at this;exact this
 refine ACalls.out (zOV λhs=>?_);have hlt0:0<H.length:=(List.getElem?_eq_some_iff.1 h0).1;have lp:=(List.getElem?_eq_some_iff.1 hS.hp).1;obtain⟨Hp,hHp⟩:∃Hp:SS×List (Option Nat)→zaa,Hp=λa=>shS data kk I a.1 H++[.cells (zal none),.cells (za1 a.2)]:=⟨_,rfl⟩;have hpl:∀a,(Hp a).length=H.length+2:=λa=>by rw[hHp];simp
 have hps:∀a,HSc (Hp a):=λa=>by rw[hHp];refine(hS.scs hs).append ?_;simp only[List.all_cons,List.all_nil,AB.sc,zkz,zdt,Bool.and_true]
 have hp0:∀a,(Hp a)[0]?=some .nodr:=λa=>by rw[hHp];simp only;rw[List.getElem?_append_left (by simpa using hlt0)];exact hS.nodr h0
 have hp1:∀a,(Hp a)[H.length+1]?=some (.cells (za1 a.2)):=λa=>by rw[hHp];simp[List.getElem?_append]
 have hpr:∀a,(Hp a)[H.length]?=some (.cells (zal none)):=λa=>by rw[hHp];simp[List.getElem?_append]
 have hpS:∀a,zaZ data kk X a.1→ShS data kk I a.1 (Hp a):=λa ha=>by rw[hHp];exact(hS.next ha.ml ha.cl).app
 have hset:∀a r,(Hp a).set (H.length+1) (.cells (za1 r))=Hp (a.1,r):=λa r=>by rw[hHp];simp only;rw[List.set_append_right _ _ (by simp)];simp
 have hmv:∀a S',zaZ data kk X a.1→shS data kk I S' (Hp a)=Hp (S',a.2):=λa S' ha=>by rw[hHp];simp only;rw[(hS.next ha.ml ha.cl).shS_app,zdv]
 have glim:∀m,m≤n→cV data kk t m<1000000000 ^ 30:=λm hm=>zhp hk hkk t (by omega);have alim:∀m,m≤n→cA (cV data kk t) m<1000000000 ^ 30:=λm hm=>zt0 hk hkk t (by omega);simp[zAE];obtain⟨N,hN⟩:∃N:Nat,N=n+1:=⟨_,rfl⟩;have hwn:IntKind.i64.wrap ((n:Int)+1)=(N:Int):=by rw[hN];exact wr (by omega)
 rw[hwn];simp only[zbu];refine⟨by omega,?_⟩;refine zfo 1 (by omega) _ _ ?_;simp only[Int.toNat_natCast,List.length_append,List.length_cons,List.length_nil,List.append_assoc,List.cons_append,List.nil_append];refine zuY (h:=0) (by omega) ?_;have e11:H.length+(0+1)=H.length+1:=by omega
 rw[zpF,e11];have hH1:(H++[AB.cells [AV.bool false,AV.snil,AV.snil],AB.cells (za1 (List.replicate N none))])[H.length+1]?=some (.cells (za1 (List.replicate N none))):=by simp[List.getElem?_append]
 refine zkH (o:=some 1) hH1 (by simp;omega) ?_;have hst0:(H++[AB.cells [AV.bool false,AV.snil,AV.snil],AB.cells (za1 (List.replicate N none))]).set (H.length+1) (.cells (za1 ((List.replicate N none).set 0 (some 1))))=Hp (σ 0):=by rw[hσ0,hHp];simp only;rw[hS.self,List.set_append_right _ _ (by simp)];simp[hN,List.replicate_succ];rfl
 rw[hst0,zBH];have hrow:∀k,k≤N→(σ k).2.length=N:=λk hk=>by rw[hN]at hk ⊢;exact(hσQ k hk).2.2.1
 refine zOS (Inv:=λq t18 H'=>∃k:Nat,k≤N∧N-k=q∧t18=.int .i64 k∧H'=Hp (σ k)) N ?_ ?_
 ·intro _;exact⟨0,by omega,rfl,rfl,rfl⟩
 ·rintro q t18 H' ⟨k,hkn,rfl,rfl,rfl⟩ hsc' hlen hsF Kb4 hKb4;have hQ:=hσQ k (by omega);by_cases hlt:k<N
  ·-- a round
   have hkn':k<n+1:=by omega
   have hcur:zaR (σ k).2 k=cA (cV data kk t) k:=by rw[hQ.2.2.2 k (by omega),if_neg (by omega),zgK hgz (Nat.le_refl k)];rfl
   have hj:zm6 (.ptr I.p 0) (.int .i64 i) (.int .i64 n) (.ptr H.length 0) (.ms (H.length+1) 0 N N) (.int .i64 N) (.int .i64 k) (Hp (σ (k+1))) (Out H.length K) Kb4:=by unfold zm6 zAG;simp;rw[wr (by omega)];refine hKb4 _ _ ⟨N-(k+1),by omega,Back.here (by rw[hpl,hpl];omega) (hps _) ?_ ⟨_,rfl,k+1,by omega,rfl,rfl,rfl⟩⟩;rw[hpl];simp[zm4,ux,AV.sc,AV.scA,AV.scB,AV.scV];omega
   simp[zsK,hlt];rw[←zcW];refine ze5 (hp1 _) (by rw[hrow k hkn];exact hlt) ?_;have hcl:=alim k (by omega);rw[←hcur]at hcl;refine zhe _ hcl _ _ ?_;change zac .eql false (.int .i64 (if zaR (σ k).2 k=0 then 0 else 1)) _ _;rcases hσR k hkn' with ⟨e,hst⟩|⟨e,τ,hτ0,hτ1,hτQ,hτR⟩
   ·simp[e];rw[←hst];exact hj
   ·simp[e];rw[←hτ0];refine zOT (Inv:=λq t9 H'=>∃s s1:Nat,s1=s+1∧s≤n-k∧n-k-s=q∧t9=.int .i64 s1∧H'=Hp (τ s)) (n-k) ?_ ?_
    ·intro _;exact⟨0,1,rfl,by omega,rfl,rfl,rfl⟩
    ·rintro q t9 H' ⟨s,s1,hs1,hsn,rfl,rfl,rfl⟩ hsc8 hlen8 hsF8 Kb8 hKb8;have hS2:=hτQ s hsn;obtain⟨p,hp⟩:∃ p:Nat,p=k+s1:=⟨_,rfl⟩;have hw1:IntKind.i64.wrap ((k:Int)+(s1:Int))=(p:Int):=by rw[zav (by omega) (by omega)];omega
     by_cases hs8:s<n-k
     ·have hle:p≤n:=by omega
      have hpN:p<N:=by omega
      obtain⟨o,hov,hcc,hrw⟩:=hτR s hs8;rw[←hs1]at hov hcc hrw;rw[←hp]at hrw;have hl2:(τ s).2.length=N:=by rw[hS2.2.2.1,hN]
      have v1:zaR (τ s).2 k=cA (cV data kk t) k:=by rw[hS2.2.2.2 k (by omega),if_neg (by omega),zgK hgz (Nat.le_refl k)];rfl
      have vp:zaR (τ s).2 p=zdr (cV data kk t) k p:=by rw[hS2.2.2.2 p hle,if_neg (by omega)];rfl
      have hsum:zdr (cV data kk t) k p+cA (cV data kk t) k*cV data kk t s1≤cA (cV data kk t) p:=by have h1:=zEJ hgz (k+1) p;rw[zpx,if_pos (by omega),show p-k=s1 from by omega]at h1;exact h1
      have hpl':=alim p hle;have b1:zaR (τ s).2 k<1000000000 ^ 30:=by rw[v1];exact alim k (by omega)
      have b2:vO o<1000000000 ^ 30:=by rw[hov];exact glim s1 (by omega)
      have b3:zaR (τ s).2 p<1000000000 ^ 30:=by rw[vp];omega
      have b4:zaR (τ s).2 k*vO o<1000000000 ^ 30:=by rw[v1,hov];omega
      unfold zsL;simp[hw1,hle,hpN];rw[←zcW];refine ze5 (hp1 _) (by omega) ?_;refine⟨by omega,?_⟩;rw[←zcW];refine ze5 (hp1 _) (by omega) ?_;refine zdB (.agg (zal o)) (Hp ((τ s1).1,(τ s).2)) (hcc _ (hpS _ hS2.1) (hp0 _) _ ⟨rfl,hmv _ _ hS2.1⟩) ?_;have kp:∀(a b:SS×List (Option Nat)),a.2=b.2→zdR [AV.ptr (H.length+1) (p*3),AV.ptr (H.length+1) (k*3)] (Hp a) (Hp b):=λa b e=>by rw[hHp];simp only[e];exact zoy (l:=H.length) (by simp) (by simp) (by simp)
      refine⟨kp _ _ rfl,?_⟩;refine zdB (.agg (zal (some (zaR (τ s).2 k*vO o)))) _ (zA0 _ _ b1 b2 _ _ ⟨rfl,rfl⟩) ?_;refine⟨zhF _ _,?_⟩;refine zdB (.agg (zal (some (zaR (τ s).2 p+zaR (τ s).2 k*vO o)))) _ (zsT ((τ s).2.getD p none) (some (zaR (τ s).2 k*vO o)) b3 b4 _ _ ⟨rfl,rfl⟩) ?_;refine⟨zhF _ _,?_⟩;simp[hpN];rw[hov];have hst8:Hp ((τ s1).1,(τ s).2.set p (some (zaR (τ s).2 p+zaR (τ s).2 k*cV data kk t s1)))=Hp (τ s1):=by rw[←hrw]
      refine zdB (.tup []) (Hp (τ s1)) ?_ ?_
      ·refine(zhk (H:=Hp ((τ s1).1,(τ s).2)) 3 (H.length+1) (p*3) (.agg (zal (some (zaR (τ s).2 p+zaR (τ s).2 k*cV data kk t s1))))) ▸ ?_;refine zkH (hp1 _) (by simp only;omega) ?_;rw[hset];exact⟨rfl,hst8⟩
      ·rw[wr (by omega)];refine hKb8 _ _ ⟨n-k-(s+1),by omega,Back.here (by rw[hpl,hpl];omega) (hps _) ?_ ⟨_,rfl,s+1,s1+1,by omega,by omega,rfl,rfl,by rw[hs1]⟩⟩;rw[hpl];simp[zm5,ux,AV.sc,AV.scA,AV.scB,AV.scV];omega
     ·obtain rfl:s=n-k:=by omega
      have hgt:¬p≤n:=by omega
      unfold zsL;simp[hw1,hgt];rw[hτ1];exact hj
  ·obtain rfl:k=N:=by omega
   have hnk:n<k:=by omega
   simp[zsK,hnk];rw[←zcW];refine ze5 (hp1 _) (by rw[hrow _ (by omega)];omega) ?_;have htk:∀o:Option Nat,(zal o).take 3=zal o:=λo=>List.take_of_length_le (by rw[zbE];omega);have hd3:(zal none).drop (0+3)=[]:=rfl;simp only[hpr,AV.cs?,zdW,hd3,List.take_zero,List.nil_append,List.append_nil];refine⟨⟨zbE _,by rw[zbE];omega,zie _⟩,?_⟩;rw[List.getElem?_set_self (by rw[hpl];omega)];simp only[zfu,zfr,List.drop_zero,htk];refine⟨by rw[zbE];omega,?_⟩;have hfin:(Hp (σ k)).set H.length (.cells (zal ((σ k).2.getD n none)))=shS data kk I (σ k).1 H++[.cells (zal ((σ k).2.getD n none)),.cells (za1 (σ k).2)]:=by rw[hHp];simp only;rw[List.set_append_right _ _ (by simp)];simp
   rw[hN]at hfin ⊢;exact Out.at hfin (by simp) (hS.scs hs) .rfl' rfl (by simpa[AV.scV]using zdt _ _) hK
end
def zds(g R:Nat→Nat)(h m:Nat):Nat:=sm (min h (m+1)) λa=>R a*g (m-a)
theorem zEN(g R:Nat→Nat)(m:Nat):zds g R 0 m=0:=by simp[zds,sm]
theorem zEL(g R:Nat→Nat){h m:Nat}(hm:m<h):zds g R h m=cvR g R m:=by unfold zds cvR;rw[Nat.min_eq_right (by omega)]
theorem zpy{g R:Nat→Nat}(h0:g 0=0)(h m:Nat):zds g R (h+1) m=zds g R h m+if h<m then R h*g (m-h) else 0:=by
 unfold zds;by_cases e:h<m
 ·rw[if_pos e,Nat.min_eq_left (by omega),Nat.min_eq_left (by omega),sm]
 ·rw[if_neg e];by_cases e2:h=m
  ·subst e2;rw[Nat.min_eq_left (by omega),Nat.min_eq_left (by omega),sm,Nat.sub_self,h0,Nat.mul_zero]
  ·rw[Nat.min_eq_right (by omega),Nat.min_eq_right (by omega)];rfl
theorem zEM(g R:Nat→Nat)(h m:Nat):zds g R h m≤cvR g R m:=by unfold zds cvR;exact zkG (by omega) _
def zcS(g:VT→Nat→Nat)(ts:List VT)(j:Nat):Nat→Nat:=(ts.take j).foldl (λr t=>cvR (g t) r) zif
theorem zpH(g:VT→Nat→Nat){ts:List VT}{j:Nat}(h:j<ts.length):zcS g ts (j+1)=cvR (g ts[j]) (zcS g ts j):=by unfold zcS;rw[List.take_succ_eq_append_getElem h,List.foldl_append];rfl
theorem zwl(g:VT→Nat→Nat)(ts:List VT)(j m:Nat):zcS g ts j m=cL g (ts.take j) m:=by rw[zCm];rfl
theorem zwm{g:VT→Nat→Nat}(h0:∀ t,g t 0=0){ts:List VT}:∀ (j:Nat),j≤ts.length→∀ m,zcS g ts j m≠0→j≤m
 |0,_,m,_=>by omega
 |j+1,hj,m,h=>by rw[zpH g (show j<ts.length by omega)]at h;obtain⟨a,ha,hne⟩:=zFn h;have h1:zcS g ts j a≠0:=λe=>hne (by rw[e,Nat.zero_mul]);have h2:m-a≠0:=λe=>hne (by rw[e,h0,Nat.mul_zero]);have:=zwm h0 j (by omega) a h1;omega
section
variable (data:List Dat) (kk:Nat) (X:List VT) (I:SI) (S:SS) (n:Nat)
def QI(t:VT)(R:Nat→Nat)(h s:Nat)(b:SS×List (Option Nat)):Prop:=
 zaZ data kk X b.1∧S.types <+: b.1.types∧b.2.length=n+1∧∀m,m≤n→zaR b.2 m=zds (cV data kk t) R h m+if h<m∧m≤h+s then R h*cV data kk t (m-h) else 0
def RI(t:VT)(i:Nat)(R:Nat→Nat)(h s:Nat)(b b':SS×List (Option Nat)):Prop:=
 ∃o,vO o=cV data kk t (s+1)∧zej data kk I b.1 b'.1 i (s+1) o∧b'.2=b.2.set (h+(s+1)) (some (zaR b.2 (h+(s+1))+R h*cV data kk t (s+1)))
def RM(t:VT)(i:Nat)(R:Nat→Nat)(h:Nat)(b b':SS×List (Option Nat)):Prop:=
 (R h=0∧b'=b)∨(R h≠0∧∃ τ:Nat→SS×List (Option Nat),τ 0=b∧τ (n-h)=b'∧(∀s≤n-h,QI data kk X S n t R h s (τ s))∧∀s<n-h,RI data kk I t i R h s (τ s) (τ (s+1)))
abbrev AO:=SS×List (Option Nat)×zaa
def QO(ts:List VT)(j:Nat)(a:AO):Prop:=
 zaZ data kk X a.1∧S.types <+: a.1.types∧a.2.1.length=n+1∧(∀m,m≤n→zaR a.2.1 m=zcS (cV data kk) ts j m)∧a.2.2.length=j∧∀b∈a.2.2,∃r,b=.cells (za1 r)
def RO(ts:List VT)(is:List Nat)(j:Nat)(a a':AO):Prop:=
 ∃ μ:Nat→SS×List (Option Nat),μ 0=(a.1,List.replicate (n+1) none)∧μ (n+1)=(a'.1,a'.2.1)∧a'.2.2=a.2.2++[.cells (za1 a.2.1)]∧(∀h≤n+1,QI data kk X S n (ts.getD j (.mk 0 0 [])) (zcS (cV data kk) ts j) h 0 (μ h))∧∀h<n+1,RM data kk X I S n (ts.getD j (.mk 0 0 [])) (is.getD j 0) (zcS (cV data kk) ts j) h (μ h) (μ (h+1))
end
section
variable {data:List Dat} {kk:Nat} {X:List VT} {I:SI} {S:SS} {n:Nat}
theorem zD2{i:Nat}{t:VT}{R:Nat→Nat}{h:Nat}(hh:h≤n)(hC:∀ m,m≤n→zcD data kk X I m)(hti:S.types[i]?=some t)(hR:Rch data X (n-h) t){a:SS × List (Option Nat)}(ha:QI data kk X S n t R h 0 a):
  ∃ τ:Nat→SS×List (Option Nat),τ 0=a∧(∀s≤n-h,QI data kk X S n t R h s (τ s))∧∀s<n-h,RI data kk I t i R h s (τ s) (τ (s+1)):=by
 refine zdY _ _ (n-h) (λs hs b hb=>?_) a ha;obtain⟨h1,h2,h3,h4⟩:=hb;obtain⟨S',o,h5,h6,h7,h8⟩:=hC (s+1) (by omega) b.1 i t h1 (zc6 h2 hti) (hR.le _ (by omega));refine⟨(S',b.2.set (h+(s+1)) (some (zaR b.2 (h+(s+1))+R h*cV data kk t (s+1)))),⟨o,h7,h8,rfl⟩,h5,h2.trans h6,by simp[h3],λm hm=>?_⟩;simp only;rw[zwk _ _ _ _ (by omega)];by_cases e:m=h+(s+1)
 ·subst e;rw[if_pos rfl,if_pos ⟨by omega,by omega⟩,h4 _ hm,if_neg (by omega),show h+(s+1)-h=s+1 from by omega];rfl
 ·rw[if_neg e,h4 m hm];congr 1;by_cases e2:h<m∧m≤h+s
  ·rw[if_pos e2,if_pos ⟨e2.1,by omega⟩]
  ·rw[if_neg e2,if_neg (by omega)]
theorem zD5{i j:Nat}{t:VT}{R:Nat→Nat}(hC:∀ m,m≤n→zcD data kk X I m)(hti:S.types[i]?=some t)(hR:Rch data X (n-j) t)(hge:∀ m,R m≠0→j≤m){S1:SS}(hI:zaZ data kk X S1)(hp:S.types <+: S1.types):
  ∃ μ:Nat→SS×List (Option Nat),μ 0=(S1,List.replicate (n+1) none)∧(∀h≤n+1,QI data kk X S n t R h 0 (μ h))∧∀h<n+1,RM data kk X I S n t i R h (μ h) (μ (h+1)):=by
 have hg0:=zb2 data kk t;refine zdY _ _ (n+1) (λh hh b hb=>?_) _ ⟨hI,hp,by simp,λm hm=>?_⟩
 ·by_cases e:R h=0
  ·refine⟨b,.inl ⟨e,rfl⟩,hb.1,hb.2.1,hb.2.2.1,λm hm=>?_⟩;rw[hb.2.2.2 m hm,if_neg (by omega),if_neg (by omega),zpy hg0,e];split <;> simp
  ·obtain⟨τ,h1,h2,h3⟩:=zD2 (show h≤n by omega) hC hti (hR.le _ (by have:=hge h e;omega)) hb;refine⟨τ (n-h),.inr ⟨e,τ,h1,rfl,h2,h3⟩,?_⟩;obtain⟨h4,h5,h6,h7⟩:=h2 (n-h) (Nat.le_refl _);refine⟨h4,h5,h6,λm hm=>?_⟩;rw[h7 m hm,if_neg (show ¬(h+1<m∧m≤h+1+0) by omega),zpy hg0];by_cases e2:h<m
   ·rw[if_pos ⟨e2,by omega⟩,if_pos e2];rfl
   ·rw[if_neg (by omega),if_neg e2]
 ·simp only;rw[if_neg (by omega),zEN,zpG]
theorem zD6{ts:List VT}{is:List Nat}(hC:∀ m,m≤n→zcD data kk X I m)(hI:zaZ data kk X S)(hix:IdxOk S.types ts is)(hR:∀ (p:Nat) (h:p<ts.length),Rch data X (n-p) ts[p]):
  ∃ σ:Nat→AO,σ 0=(S,some 1::List.replicate n none,[])∧(∀j≤ts.length,QO data kk X S n ts j (σ j))∧∀j<ts.length,RO data kk X I S n ts is j (σ j) (σ (j+1)):=by
 refine zdY _ _ ts.length (λj hj a ha=>?_) _ ⟨hI,List.prefix_rfl,by simp,λm hm=>?_,rfl,by simp⟩
 ·obtain⟨h1,h2,h3,h4,h5,h6⟩:=ha;have hl:=hix.len;have hti:S.types[is.getD j 0]?=some ts[j]:=by have:=congrArg (λl=>l[j]?) hix;simp only[List.getElem?_map,List.getElem?_eq_getElem hj,List.getElem?_eq_getElem (show j<is.length by omega),Option.map_some,Option.some.injEq]at this;rw[List.getD_eq_getElem?_getD,List.getElem?_eq_getElem (show j<is.length by omega)];exact this
  have htg:ts.getD j (.mk 0 0 [])=ts[j]:=by rw[List.getD_eq_getElem?_getD,List.getElem?_eq_getElem hj];rfl
  obtain⟨μ,hm0,hm1,hm2⟩:=zD5 (j:=j) hC hti (hR j hj) (zwm (ts:=ts) (zb2 data kk) j (by omega)) h1 h2;refine⟨((μ (n+1)).1,(μ (n+1)).2,a.2.2++[.cells (za1 a.2.1)]),⟨μ,hm0,rfl,rfl,by rw[htg];exact hm1,by rw[htg];exact hm2⟩,?_⟩;obtain⟨k1,k2,k3,k4⟩:=hm1 (n+1) (Nat.le_refl _);refine⟨k1,k2,k3,λm hm=>?_,by simp[h5],λb hb=>?_⟩
  ·rw[k4 m hm,if_neg (by omega),zEL _ _ (by omega),zpH _ hj];rfl
  ·simp only[List.mem_append,List.mem_singleton]at hb;rcases hb with hb | rfl
   ·exact h6 b hb
   ·exact⟨_,rfl⟩
 ·unfold zaR;cases m with
  |zero=>rfl
  |succ m=>have:=zpG n m;unfold zaR at this;have e0:zcS (cV data kk) ts 0 (m+1)=0:=rfl;rw[e0];simpa using this
end
section
variable {data:List Dat} (hD:zaD data=true) (hk:Kpt data) {kk:Nat} (hkk:kk≤8) {X:List VT} (hX:X.length≤1000000000000) {I:SI}
include hD hk hkk hX
theorem zpQ{n:Nat}(hn:n≤14)(hC:∀ m,m≤n→zcD data kk X I m){S:SS}{ts:List VT}{is:List Nat}(htl:ts.length≤1000)(hI:zaZ data kk X S)(hix:IdxOk S.types ts is)(hR:∀ (p:Nat) (h:p<ts.length),Rch data X (n-p) ts[p]):
  ∃S' o,zaZ data kk X S'∧S.types <+: S'.types∧vO o=cL (cV data kk) ts n∧∀H,ShS data kk I S H→H[0]?=some .nodr→∀K:Kt,K (.agg (zal o)) (shS data kk I S' H)→ACalls tP zgD [.ptr I.p 0,.sl (za6 is) .none,.int .i64 n] H K:=by
 obtain⟨σ,hσ0,hσQ,hσR⟩:=zD6 (I:=I) hC hI hix hR;have hlast:=hσQ ts.length (Nat.le_refl _);have hgz:=zb2 data kk;have hil:=hix.len;refine⟨(σ ts.length).1,(σ ts.length).2.1.getD n none,hlast.1,hlast.2.1,?_,λH hS h0 K hK=>?_⟩
 ·have:=hlast.2.2.2.1 n (Nat.le_refl _);rw[zwl,List.take_length]at this;exact this
 refine ACalls.out (zNj λhs=>?_);have hlt0:0<H.length:=(List.getElem?_eq_some_iff.1 h0).1;have lp:=(List.getElem?_eq_some_iff.1 hS.hp).1;obtain⟨L,hL⟩:∃L,L=H.length:=⟨_,rfl⟩;obtain⟨N,hN⟩:∃N:Nat,N=n+1:=⟨_,rfl⟩;obtain⟨Ho,hHo⟩:∃Ho:AO→zaa,Ho=λa=>shS data kk I a.1 H++(.cells (zal none)::a.2.2++[.cells (za1 a.2.1)]):=⟨_,rfl⟩;obtain⟨Hm,hHm⟩:∃Hm:AO→SS×List (Option Nat)→zaa,Hm=λa b=>shS data kk I b.1 H++(.cells (zal none)::a.2.2++[.cells (za1 a.2.1)]++[.cells (za1 b.2)]):=⟨_,rfl⟩;have hol:∀a,(Ho a).length=L+a.2.2.length+2:=λa=>by rw[hHo,hL];simp;omega
 have hml:∀a b,(Hm a b).length=L+a.2.2.length+3:=λa b=>by rw[hHm,hL];simp;omega
 have gsc:∀j,j≤ts.length→∀M,(σ j).2.2.all (AB.sc M)=true:=λj hj M=>List.all_eq_true.2 λb hb=>by obtain⟨r,rfl⟩:=(hσQ j hj).2.2.2.2.2 b hb;exact zkz M r
 have hos:∀j,j≤ts.length→HSc (Ho (σ j)):=λj hj=>by rw[hHo];refine(hS.scs hs).append ?_;simp only[List.all_cons,List.all_append,List.all_nil,AB.sc,zkz,zdt,gsc j hj,List.cons_append,Bool.and_true]
 have hms:∀j,j≤ts.length→∀b,HSc (Hm (σ j) b):=λj hj b=>by rw[hHm];refine(hS.scs hs).append ?_;simp only[List.all_cons,List.all_append,List.all_nil,AB.sc,zkz,zdt,gsc j hj,List.cons_append,Bool.and_true]
 have hm0:∀a b,(Hm a b)[0]?=some .nodr:=λa b=>by rw[hHm];simp only;rw[List.getElem?_append_left (by simpa using hlt0)];exact hS.nodr h0
 have ho1:∀a,(Ho a)[L+1+a.2.2.length]?=some (.cells (za1 a.2.1)):=λa=>by rw[hHo,hL];simp only;rw[List.getElem?_append_right (by simp;omega)];simp[show H.length+1+a.2.2.length-H.length=a.2.2.length+1 by omega]
 have hor:∀a,(Ho a)[L]?=some (.cells (zal none)):=λa=>by rw[hHo,hL];simp[List.getElem?_append]
 have hm1:∀a b,(Hm a b)[L+1+a.2.2.length]?=some (.cells (za1 a.2.1)):=λa b=>by rw[hHm,hL];simp only;rw[List.getElem?_append_right (by simp;omega)];simp[show H.length+1+a.2.2.length-H.length=a.2.2.length+1 by omega]
 have hm2:∀a b,(Hm a b)[L+2+a.2.2.length]?=some (.cells (za1 b.2)):=λa b=>by rw[hHm,hL];simp only;rw[List.getElem?_append_right (by simp;omega)];simp[show H.length+2+a.2.2.length-H.length=a.2.2.length+1+1 by omega]
 have hmS:∀a b,zaZ data kk X b.1→ShS data kk I b.1 (Hm a b):=λa b hb=>by rw[hHm];exact(hS.next hb.ml hb.cl).app
 have hset:∀a b r,(Hm a b).set (L+2+a.2.2.length) (.cells (za1 r))=Hm a (b.1,r):=λa b r=>by rw[hHm,hL];simp only;rw[List.set_append_right _ _ (by simp;omega)];simp only[zkC,show H.length+2+a.2.2.length-H.length=(a.2.2.length+1)+1 by omega,List.cons_append,List.set_cons_succ,List.append_assoc];rw[List.set_append_right _ _ (by simp)];simp
 have hmv:∀a b S',zaZ data kk X b.1→shS data kk I S' (Hm a b)=Hm a (S',b.2):=λa b S' hb=>by rw[hHm];simp only;rw[(hS.next hb.ml hb.cl).shS_app,zdv]
 have hnew:∀a,Ho a++[.cells (za1 (List.replicate N none))]=Hm a (a.1,List.replicate N none):=λa=>by rw[hHo,hHm];simp
 have hend:∀a S' r,Hm a (S',r)=Ho (S',r,a.2.2++[.cells (za1 a.2.1)]):=λa S' r=>by rw[hHo,hHm];simp
 have glim:∀t m,m≤n→cV data kk t m<1000000000 ^ 30:=λt m hm=>zhp hk hkk t (by omega);have rlim:∀j m,m≤n→zcS (cV data kk) ts j m<1000000000 ^ 30:=λj m hm=>by rw[zwl];exact znV hk hkk _ (by omega)
 simp[zzQ];have hwn:IntKind.i64.wrap ((n:Int)+1)=(N:Int):=by rw[hN];exact wr (by omega)
 rw[hwn];simp only[zbu];refine⟨by omega,?_⟩;refine zfo 1 (by omega) _ _ ?_;simp only[Int.toNat_natCast,List.length_append,List.length_cons,List.length_nil,List.append_assoc,List.cons_append,List.nil_append];refine zuY (h:=0) (by omega) ?_;have e11:H.length+(0+1)=L+1:=by omega
 rw[zpF,e11];have hH1:(H++[AB.cells [AV.bool false,AV.snil,AV.snil],AB.cells (za1 (List.replicate N none))])[L+1]?=some (.cells (za1 (List.replicate N none))):=by rw[hL];simp[List.getElem?_append]
 refine zkH (o:=some 1) hH1 (by simp;omega) ?_;have hst0:(H++[AB.cells [AV.bool false,AV.snil,AV.snil],AB.cells (za1 (List.replicate N none))]).set (L+1) (.cells (za1 ((List.replicate N none).set 0 (some 1))))=Ho (σ 0):=by rw[hσ0,hHo,hL];simp only;rw[hS.self,List.set_append_right _ _ (by simp)];simp[hN,List.replicate_succ];rfl
 rw[hst0,←hL];have hgl:∀j,j≤ts.length→(σ j).2.2.length=j:=λj hj=>(hσQ j hj).2.2.2.2.1;have hrl:∀j,j≤ts.length→(σ j).2.1.length=N:=λj hj=>by rw[hN];exact(hσQ j hj).2.2.1
 refine zNg (Inv:=λq t7 t21 H'=>∃j:Nat,j≤ts.length∧ts.length-j=q∧t21=.int .i64 j∧t7=.ms (L+1+j) 0 N N∧H'=Ho (σ j)) ts.length ?_ ?_
 ·intro _;exact⟨0,by omega,rfl,rfl,rfl,rfl⟩
 ·rintro q t7 t21 H' ⟨j,hj,rfl,rfl,rfl,rfl⟩ hsc' hlen hsF Kb4 hKb4;have hQ:=hσQ j hj;by_cases hlt:j<ts.length
  ·have hlt':j<is.length:=by omega
   obtain⟨μ,hμ0,hμ1,hμg,hμQ,hμR⟩:=hσR j hlt;have hget:∀h:j<(za6 is).length,(za6 is)[j]'h=[AV.int .i64 (is[j]:Nat)]:=λh=>by simp[za6]
   simp[zsf,hlt',hget];rw[hwn];simp only[zbu];refine⟨by omega,?_⟩;rw[hol,hgl j hj];simp only[Int.toNat_natCast];rw[zpF,hnew];obtain⟨R,hRd⟩:∃R,R=zcS (cV data kk) ts j:=⟨_,rfl⟩;obtain⟨t,htd⟩:∃t,t=ts.getD j (.mk 0 0 []):=⟨_,rfl⟩;have hid:is.getD j 0=is[j]:=by rw[List.getD_eq_getElem?_getD,List.getElem?_eq_getElem hlt'];rfl
   rw[←hRd,←htd]at hμQ hμR;rw[hid]at hμR;have hRs:cvR (cV data kk t) R=zcS (cV data kk) ts (j+1):=by rw[zpH _ hlt,hRd,htd,List.getD_eq_getElem?_getD,List.getElem?_eq_getElem hlt];rfl
   have hRv:∀h,h≤n→zaR (σ j).2.1 h=R h:=λh hh=>by rw[hQ.2.2.2.1 h hh,hRd]
   have hμ0':μ 0=((σ j).1,List.replicate N none):=by rw[hμ0,hN]
   rw[←hμ0',show L+j+2=L+2+j from by omega];have hmul:∀h,h≤N→(μ h).2.length=N:=λh hh=>by rw[hN]at hh ⊢;exact(hμQ h hh).2.2.1
   refine zNh (Inv:=λq t30 H'=>∃h:Nat,h≤N∧N-h=q∧t30=.int .i64 h∧H'=Hm (σ j) (μ h)) N ?_ ?_
   ·intro _;exact⟨0,by omega,rfl,rfl,rfl⟩
   ·rintro q t30 H' ⟨h,hhN,rfl,rfl,rfl⟩ hsc8 hlen8 hsF8 Kb8 hKb8;by_cases hh:h<N
    ·have hhn:h≤n:=by omega
     have hj1:zmH (.ptr I.p 0) (.int .i64 n) (.ptr L 0) (.ms (L+1+j) 0 N N) (.int .i64 is[j]) (.ms (L+2+j) 0 N N) (.sl (za6 is) .none) (.int .i64 is.length) (.int .i64 j) (.int .i64 N) (.int .i64 h) (Hm (σ j) (μ (h+1))) (Out L K) Kb4 Kb8:=by unfold zmH zzT;simp;rw[wr (by omega)];refine hKb8 _ _ ⟨N-(h+1),by omega,Back.here (by rw[hml,hml];omega) (hms j hj _) ?_ ⟨_,rfl,h+1,by omega,rfl,rfl,rfl⟩⟩;rw[hml,hgl j hj];simp[zmG,ux,AV.sc,AV.scA,AV.scB,AV.scV];omega
     have g1:(Hm (σ j) (μ h))[L+1+j]?=some (.cells (za1 (σ j).2.1)):=by have:=hm1 (σ j) (μ h);rwa [hgl j hj]at this
     simp[zsg,hh];rw[←zcW];refine ze5 g1 (by rw[hrl j hj];exact hh) ?_;have hb0:zaR (σ j).2.1 h<1000000000 ^ 30:=by rw[hRv h hhn,hRd];exact rlim j h hhn
     refine zhe _ hb0 _ _ ?_;change zac .eql false (.int .i64 (if zaR (σ j).2.1 h=0 then 0 else 1)) _ _;rw[hRv h hhn];rcases hμR h (by omega) with ⟨e,hst⟩|⟨e,τ,hτ0,hτ1,hτQ,hτR⟩
     ·simp[e];rw[←hst];exact hj1
     ·simp[e];rw[←hτ0];refine zNf (Inv:=λq t12 H'=>∃s s1:Nat,s1=s+1∧s≤n-h∧n-h-s=q∧t12=.int .i64 s1∧H'=Hm (σ j) (τ s)) (n-h) ?_ ?_
      ·intro _;exact⟨0,1,rfl,by omega,rfl,rfl,rfl⟩
      ·rintro q t12 H' ⟨s,s1,hs1,hsn,rfl,rfl,rfl⟩ hsc12 hlen12 hsF12 Kb12 hKb12;have hS2:=hτQ s hsn;obtain⟨p,hp⟩:∃ p:Nat,p=h+s1:=⟨_,rfl⟩;have hw1:IntKind.i64.wrap ((h:Int)+(s1:Int))=(p:Int):=by rw[zav (by omega) (by omega)];omega
       by_cases hs8:s<n-h
       ·have hle:p≤n:=by omega
        have hpN:p<N:=by omega
        obtain⟨o,hov,hcc,hrw⟩:=hτR s hs8;rw[←hs1]at hov hcc hrw;rw[←hp]at hrw;have hl2:(τ s).2.length=N:=by rw[hS2.2.2.1,hN]
        have vp:zaR (τ s).2 p=zds (cV data kk t) R h p:=by rw[hS2.2.2.2 p hle,if_neg (by omega)];rfl
        have hsum:zds (cV data kk t) R h p+R h*cV data kk t s1≤zcS (cV data kk) ts (j+1) p:=by have h1:=zEM (cV data kk t) R (h+1) p;rw[zpy (hgz t),if_pos (by omega),show p-h=s1 from by omega,hRs]at h1;exact h1
        have hpl':=rlim (j+1) p hle;have b1:zaR (σ j).2.1 h<1000000000 ^ 30:=hb0;have b2:vO o<1000000000 ^ 30:=by rw[hov];exact glim t s1 (by omega)
        have b3:zaR (τ s).2 p<1000000000 ^ 30:=by rw[vp];omega
        have b4:zaR (σ j).2.1 h*vO o<1000000000 ^ 30:=by rw[hRv h hhn,hov];omega
        have g3:∀b,(Hm (σ j) b)[L+1+j]?=some (.cells (za1 (σ j).2.1)):=λb=>by have:=hm1 (σ j) b;rwa [hgl j hj]at this
        have g4:∀b,(Hm (σ j) b)[L+2+j]?=some (.cells (za1 b.2)):=λb=>by have:=hm2 (σ j) b;rwa [hgl j hj]at this
        have hset':∀b r,(Hm (σ j) b).set (L+2+j) (.cells (za1 r))=Hm (σ j) (b.1,r):=λb r=>by have:=hset (σ j) b r;rwa [hgl j hj]at this
        unfold zse;simp[hw1,hle,hpN];rw[←zcW];refine ze5 (g4 _) (by omega) ?_;refine⟨by omega,?_⟩;rw[←zcW];refine ze5 (g3 _) (by rw[hrl j hj];omega) ?_;refine zdB (.agg (zal o)) (Hm (σ j) ((τ s1).1,(τ s).2)) (hcc _ (hmS _ _ hS2.1) (hm0 _ _) _ ⟨rfl,hmv _ _ _ hS2.1⟩) ?_;have kp:∀(b c:SS×List (Option Nat)),b.2=c.2→zdR [AV.ptr (L+2+j) (p*3),AV.ptr (L+1+j) (h*3)] (Hm (σ j) b) (Hm (σ j) c):=λb c e=>by rw[hHm];simp only[e];exact zoy (l:=H.length) (by simp) (by simp) (by simp;omega)
        refine⟨kp _ _ rfl,?_⟩;refine zdB (.agg (zal (some (zaR (σ j).2.1 h*vO o)))) _ (zA0 ((σ j).2.1.getD h none) o b1 b2 _ _ ⟨rfl,rfl⟩) ?_;refine⟨zhF _ _,?_⟩;refine zdB (.agg (zal (some (zaR (τ s).2 p+zaR (σ j).2.1 h*vO o)))) _ (zsT ((τ s).2.getD p none) (some (zaR (σ j).2.1 h*vO o)) b3 b4 _ _ ⟨rfl,rfl⟩) ?_;refine⟨zhF _ _,?_⟩;simp[hpN];rw[hov,hRv h hhn];have hst8:Hm (σ j) ((τ s1).1,(τ s).2.set p (some (zaR (τ s).2 p+R h*cV data kk t s1)))=Hm (σ j) (τ s1):=by rw[←hrw]
        refine zdB (.tup []) (Hm (σ j) (τ s1)) ?_ ?_
        ·refine(zhk (H:=Hm (σ j) ((τ s1).1,(τ s).2)) 3 (L+2+j) (p*3) (.agg (zal (some (zaR (τ s).2 p+R h*cV data kk t s1))))) ▸ ?_;refine zkH (g4 _) (by simp only;omega) ?_;rw[hset'];exact⟨rfl,hst8⟩
        ·rw[wr (by omega)];refine hKb12 _ _ ⟨n-h-(s+1),by omega,Back.here (by rw[hml,hml];omega) (hms j hj _) ?_ ⟨_,rfl,s+1,s1+1,by omega,by omega,rfl,rfl,by rw[hs1]⟩⟩;rw[hml,hgl j hj];simp[zmE,ux,AV.sc,AV.scA,AV.scB,AV.scV];omega
       ·obtain rfl:s=n-h:=by omega
        have hgt:¬p≤n:=by omega
        unfold zse;simp[hw1,hgt];rw[hτ1];exact hj1
    ·obtain rfl:h=N:=by omega
     simp[zsg];rw[wr (by omega)];have hσ1:Hm (σ j) (μ h)=Ho (σ (j+1)):=by rw[hN,hμ1,hend,←hμg]
     rw[hσ1];refine hKb4 _ _ ⟨ts.length-(j+1),by omega,Back.here (by rw[hol,hol,hgl (j+1) (by omega),hgl 0 (by omega)];omega) (hos _ (by omega)) ?_ ⟨_,_,rfl,j+1,by omega,rfl,rfl,by rw[show L+2+j=L+1+(j+1) from by omega],rfl⟩⟩;rw[hol,hgl (j+1) (by omega)];simp[zmF,ux,AV.sc,AV.scA,AV.scB,AV.scV];omega
  ·obtain rfl:j=ts.length:=by omega
   have hnN:n<N:=by omega
   simp[zsf,hil,hnN];have g1:(Ho (σ ts.length))[L+1+ts.length]?=some (.cells (za1 (σ ts.length).2.1)):=by have:=ho1 (σ ts.length);rwa [hgl _ hj]at this
   rw[←zcW];refine ze5 g1 (by rw[hrl _ hj];omega) ?_;have htk:∀o:Option Nat,(zal o).take 3=zal o:=λo=>List.take_of_length_le (by rw[zbE];omega);have hd3:(zal none).drop (0+3)=[]:=rfl;simp only[hor,AV.cs?,zdW,hd3,List.take_zero,List.nil_append,List.append_nil];refine⟨⟨zbE _,by rw[zbE];omega,zie _⟩,?_⟩;rw[List.getElem?_set_self (by rw[hol];omega)];simp only[zfu,zfr,List.drop_zero,htk];refine⟨by rw[zbE];omega,?_⟩;have hfin:(Ho (σ ts.length)).set L (.cells (zal ((σ ts.length).2.1.getD n none)))=shS data kk I (σ ts.length).1 H++(.cells (zal ((σ ts.length).2.1.getD n none))::(σ ts.length).2.2++[.cells (za1 (σ ts.length).2.1)]):=by rw[hHo,hL];simp only;rw[List.set_append_right _ _ (by simp)];simp
   exact Out.at hfin (by simp[hL]) (hS.scs hs) .rfl' rfl (by simpa[AV.scV]using zdt _ _) hK
end
theorem zpD(o:Option Nat):(zal o).take 3=zal o:=List.take_of_length_le (by rw[zbE];omega)
theorem zoC{id:Nat}{o:Option Nat}{H:zaa}{K:AV→Prop}(h:H[id]?=some (.cells (zal o)))(hk:K (.agg (zal o))):zae true 3 (.ptr id 0) H K:=by simp only[zcW,h,zfu,zfr,List.drop_zero,zpD];exact⟨by rw[zbE];omega,hk⟩
theorem zwM{id:Nat}{o o':Option Nat}{H:zaa}{K:zaa→Prop}(h:H[id]?=some (.cells (zal o')))(hk:K (H.set id (.cells (zal o)))):zak 3 (.ptr id 0) (.agg (zal o)) H K:=by simp only[zhk,h,AV.cs?,zdW,List.take_zero,List.nil_append];refine⟨⟨zbE o,by rw[zbE];omega,zie o⟩,?_⟩;rw[List.drop_eq_nil_of_le (by rw[zbE];omega),List.append_nil];exact hk
theorem zOP(k n:Nat)(hk:k<1000000)(H:zaa)(K:Kt)(hK:K (.agg (zal (some (if n=1 then k else 0)))) H):ACalls tP zgG [.int .i64 k,.int .i64 n] H K:=by
 refine ACalls.out (zOO λhs=>?_);simp[zAD];have key:∀v:Nat,v<1000000→v=(if n=1 then k else 0)→zm3 (.int .i64 v) (.ptr H.length 0) (H++[.cells (zal none)]) (Out H.length K):=by
  intro v hv he;unfold zm3;refine zfo v (by omega) _ _ ?_;have hg:(H++[AB.cells (zal none)])[H.length]?=some (.cells (zal none)):=by simp
  refine zwM (o:=some v) hg ?_;refine zoC (by rw[List.getElem?_set_self (by simp)]) ?_;rw[List.set_append_right _ _ (Nat.le_refl _)];rw[he];exact Out.at rfl (Nat.le_refl _) hs .rfl' rfl (by simpa[AV.scV]using zdt _ _) hK
 by_cases h1:n=1
 ·have:=key k hk (by rw[if_pos h1]);subst h1;simp;exact this
 ·have:=key 0 (by omega) (by rw[if_neg h1]);have hb:((n:Int) != 1)=true:=by simp;omega
  simp[hb];exact this
def zeB:List ((Int × Int) × Option Nat)→Int × Int→Option Nat→List ((Int × Int) × Option Nat)
 |[],s,x=>[(s,x)]
 | p::l,s,x=>match p.1 == s with
  |true=>(s,x)::l
  |false=>p::zeB l s x
def zd0:List ((Int × Int) × Option Nat)→Int × Int→Option (Option Nat)
 |[],_=>none
 | p::l,s=>match p.1 == s with
  |true=>some p.2
  |false=>zd0 l s
theorem zwb(s:Int × Int)(x:Option Nat):∀ l:List ((Int × Int) × Option Nat),zcG (zdE l) s (.agg (zal x))=zdE (zeB l s x)
 |[]=>rfl
 |p::l=>by
  have ih:=zwb s x l;unfold zdE at ih ⊢;rw[List.map_cons,zcG,zeB];simp only;cases p.1 == s with
  |true=>rfl
  |false=>simp only[List.map_cons];rw[ih]
theorem zhB(s:Int × Int):∀ l:List ((Int × Int) × Option Nat),zb9 (zdE l) s=(zd0 l s).map λo=>.agg (zal o)
 |[]=>rfl
 |p::l=>by
  have ih:=zhB s l;unfold zdE at ih ⊢;rw[List.map_cons,zb9,zd0];simp only;cases p.1 == s with
  |true=>rfl
  |false=>exact ih
theorem zuH{s:Int × Int}{o:Option Nat}:∀ {l:List ((Int × Int) × Option Nat)},zd0 l s=some o→(s,o)∈l
 |[],h=>by cases h
 |p::l,h=>by
  rw[zd0]at h;cases hb:p.1 == s with
  |true=>rw[hb]at h;simp at h hb;subst h hb;simp
  |false=>rw[hb]at h;exact List.mem_cons_of_mem _ (zuH h)
theorem zwc{s:Int × Int}{o:Option Nat}{e:(Int × Int) × Option Nat}:∀ {l:List ((Int × Int) × Option Nat)},e∈zeB l s o→e=(s,o)∨e∈l
 |[],h=>by simp[zeB]at h;exact .inl h
 |p::l,h=>by
  rw[zeB]at h;cases hb:p.1 == s with
  |true=>
   rw[hb]at h;rcases List.mem_cons.1 h with h|h
   ·exact .inl h
   ·exact .inr (List.mem_cons_of_mem _ h)
  |false=>
   rw[hb]at h;rcases List.mem_cons.1 h with rfl|h
   ·exact .inr (by simp)
   ·rcases zwc h with h | h
    ·exact .inl h
    ·exact .inr (List.mem_cons_of_mem _ h)
def zdL(S:SS)(k:Int×Int)(o:Option Nat):SS:=⟨S.types,S.made,S.cons,zeB S.cnt k o⟩
section
variable {data:List Dat} {kk:Nat} {X:List VT} {I:SI}
theorem zpC{S:SS}(h:zaZ data kk X S){i m:Nat}{t:VT}{o:Option Nat}(ht:S.types[i]?=some t)(ho:vO o=cV data kk t m):zaZ data kk X (zdL S ((i:Int),(m:Int)) o):=
 ⟨h.ml,h.cl,h.nd,h.vd,h.sub,h.con,λe he=>by
  rcases zwc he with rfl|he
  ·exact⟨i,m,t,rfl,ht,ho⟩
  ·exact h.cn e he⟩
theorem zn0{T:SS}{H J:zaa}(hT:ShS data kk I T H)(hs:HSc H){i m:Nat}{o x7:Option Nat}{L:Nat}(hL:L=H.length){K:Kt}(hK:K (.agg (zal o)) (shS data kk I (zdL T ((i:Int),(m:Int)) o) H)):
  zeO (.ptr I.p 0) (.int .i64 i) (.int .i64 m) (.ptr L 0) (.ptr (L+2) 0) (H++(.cells (zal none)::.cells (zal x7)::.cells (zal o)::J)) (Out L K):=by
 obtain⟨A,hA⟩:∃A,A=H++(.cells (zal none)::.cells (zal x7)::.cells (zal o)::J):=⟨_,rfl⟩;have lmc:=(List.getElem?_eq_some_iff.1 hT.hmc).1;have hp:=(hT.app (J:=.cells (zal none)::.cells (zal x7)::.cells (zal o)::J)).hp;have hmc:=(hT.app (J:=.cells (zal none)::.cells (zal x7)::.cells (zal o)::J)).hmc;rw[←hA]at hp hmc;have g9:A[L+2]?=some (.cells (zal o)):=by rw[hA,hL];simp[List.getElem?_append]
 have g6:A[L]?=some (.cells (zal none)):=by rw[hA,hL];simp[List.getElem?_append]
 have hAl:A.length=L+3+J.length:=by rw[hA,hL];simp;omega
 rw[←hA];unfold zeO zzK;simp[hp,g9,zpD,zbE,zao,zaM,AV.known,hmc];have lt1:I.mc<A.length:=by omega
 have hne:I.mc≠L+2:=by omega
 have hne2:I.mc≠L:=by omega
 rw[zwb];obtain⟨A1,hA1⟩:∃A1,A1=A.set I.mc (.mapP (zdE (zeB T.cnt ((i:Int),(m:Int)) o))):=⟨_,rfl⟩;rw[←hA1];have g9':=zbd hA1 hne g9;have g6':=zbd hA1 hne2 g6;have hA1l:A1.length=L+3+J.length:=by rw[hA1];simp[hAl]
 rw[←zcW];refine zoC g9' ?_;refine(zhk (H:=A1) 3 L 0 (.agg (zal o))) ▸ ?_;refine zwM (o:=o) g6' ?_;rw[←zcW];refine zoC (by rw[List.getElem?_set_self (by omega)]) ?_;have hset:H.set I.mc (.mapP (zdE (zeB T.cnt ((i:Int),(m:Int)) o)))=shS data kk I (zdL T ((i:Int),(m:Int)) o) H:=by
  refine hT.set_one (S':=zdL T ((i:Int),(m:Int)) o) (x:=I.mc) ?_ ?_
  ·simp[za3,hT.ok.a5.symm,hT.ok.b4.symm,hT.ok.c3.symm,hT.ok.d2.symm,hT.ok.e1.symm,zdL]
  ·intro y hy;unfold za3;simp only[zdL,if_neg hy]
 have hfin:A1.set L (.cells (zal o))=shS data kk I (zdL T ((i:Int),(m:Int)) o) H++(.cells (zal o)::.cells (zal x7)::.cells (zal o)::J):=by rw[hA1,hA,List.set_append_left _ _ lmc,hset,hL,List.set_append_right _ _ (by simp)];simp
 exact Out.at hfin (by simp[hL]) (hT.scs hs) .rfl' rfl (by simpa[AV.scV]using zdt _ _) hK
end
theorem zrO:[AV.bool false,AV.snil,AV.snil]=zal none:=rfl
@[simp high] theorem zBP(id:Nat)(o o':Option Nat)(H:zaa)(K:zaa→Prop):zdV 3 0 id (some (zal o)) (some (.cells (zal o'))) H K=K (H.set id (.cells (zal o))):=by
 refine propext ⟨λh=>?_,λh=>?_⟩
 ·simp only[zdW,List.take_zero,List.nil_append]at h;have:=h.2;rwa [List.drop_eq_nil_of_le (by rw[zbE];omega),List.append_nil]at this
 ·simp only[zdW,List.take_zero,List.nil_append];refine⟨⟨zbE o,by rw[zbE];omega,zie o⟩,?_⟩;rw[List.drop_eq_nil_of_le (by rw[zbE];omega),List.append_nil];exact h
@[simp high] theorem zR7(o:Option Nat)(k:AV→Prop):zgi true 3 0 (some (.cells (zal o))) k=k (.agg (zal o)):=by simp only[zfu,zfr,List.drop_zero,zpD];exact propext ⟨λh=>h.2,λh=>⟨by rw[zbE];omega,h⟩⟩
theorem zjF(k:IntKind)(n:Int):AV.known (.int k n)=true:=rfl
theorem zku:zaY 0=zal (some 0):=rfl
section
variable {data:List Dat} (hD:zaD data=true) (hk:Kpt data) {kk:Nat} (hkk:kk≤8) {X:List VT} (hX:X.length≤1000000000000) {I:SI}
include hD hk hkk hX
theorem zCP:zcD data kk X I 0:=by intro S i t hI hti hR;refine⟨S,some 0,hI,List.prefix_rfl,rfl,λH hS h0 K hK=>?_⟩;refine ACalls.out (ziQ λhs=>?_);simp only[zhb,zrO];simp;refine zfo 0 (by omega) _ _ ?_;simp[zku,List.set_append_right];rw[hS.self]at hK;exact Out.at rfl (Nat.le_refl _) hs .rfl' rfl (by simpa[AV.scV]using zdt _ _) hK
theorem zCM{n:Nat}{S:SS}{i:Nat}{t:VT}(hI:zaZ data kk X S)(hti:S.types[i]?=some t){o:Option Nat}(hg:zd0 S.cnt ((i:Int),((n+1:Nat):Int))=some o):
  vO o=cV data kk t (n+1)∧zej data kk I S S i (n+1) o:=by
 obtain⟨N,hN⟩:∃N,N=n+1:=⟨_,rfl⟩;rw[←hN]at hg ⊢;refine⟨?_,λH hS h0 K hK=>?_⟩
 ·obtain⟨i',m',t',h1,h2,h3⟩:=hI.cn _ (zuH hg);simp only[Prod.mk.injEq]at h1;obtain⟨e1,e2⟩:=h1;have e1':i=i':=by omega
  have e2':N=m':=by omega
  subst e1' e2';rw[hti]at h2;cases h2;exact h3
 refine ACalls.out (ziQ λhs=>?_);have hnl:¬((N:Int)<1):=by omega
 have lp:=(List.getElem?_eq_some_iff.1 hS.hp).1;have lmc:=(List.getElem?_eq_some_iff.1 hS.hmc).1;have hp:=(hS.app (J:=[.cells (zal none)])).hp;have hmc:=(hS.app (J:=[.cells (zal none)])).hmc;simp only[zhb,zrO];simp[hp,hmc,hnl,zao,zaM,zjF,zhB,hg,List.set_append_right];rw[hS.self]at hK;exact Out.at rfl (Nat.le_refl _) hs .rfl' rfl (by simpa[AV.scV]using zdt _ _) hK
theorem zCN{n:Nat}{S:SS}{i:Nat}{t:VT}(hI:zaZ data kk X S)(hti:S.types[i]?=some t)(hg:zd0 S.cnt ((i:Int),((n+1:Nat):Int))=none)(hk123:t.kind=1∨t.kind=2∨t.kind=3):
  zej data kk I S (zdL S ((i:Int),((n+1:Nat):Int)) (some (cV data kk t (n+1)))) i (n+1) (some (cV data kk t (n+1))):=by
 obtain⟨N,hN⟩:∃N,N=n+1:=⟨_,rfl⟩;have hcv:cV data kk t N=if t.kind=3 then (if N=1 then 1 else 0) else if t.kind=2 then (if N=1 then 2 else 0) else (if N=1 then kk else 0):=by rw[hN,zeX];rcases hk123 with h|h|h <;> simp[h]
 rw[←hN]at hg ⊢;intro H hS h0 K hK;refine ACalls.out (ziQ λhs=>?_);have hnl:¬((N:Int)<1):=by omega
 have lp:=(List.getElem?_eq_some_iff.1 hS.hp).1;have hp:=(hS.app (J:=[.cells (zal none)])).hp;have hmc:=(hS.app (J:=[.cells (zal none)])).hmc;have hp3:=(hS.app (J:=[.cells (zal none),.cells (zal none),.cells (zal (some 0))])).hp;have hit3:=(hS.app (J:=[.cells (zal none),.cells (zal none),.cells (zal (some 0))])).hit;have hil:=(List.getElem?_eq_some_iff.1 hti).1;have hta:=zfg S.types i t hti;have htl:=zfh S.types;obtain⟨k,m,ks⟩:=t;have hk0:(zbN S.types)[i*3]?=some (.int .i64 k):=by have:=congrArg (λl=>l[0]?) hta;simp only[VT.cs,List.getElem?_take,List.getElem?_drop]at this;simpa using this
 simp only[zhb,zrO];simp[hp,hmc,hnl,zao,zaM,zjF,zhB,hg];refine zfo 0 (by omega) _ _ ?_;simp[zku,List.set_append_right,Nat.add_assoc,hp3,hit3,hil,zdc _ hk0];change k=1∨k=2∨k=3 at hk123;have fin:∀v:Nat,v=cV data kk (.mk k m ks) N→zeO (.ptr I.p 0) (.int .i64 i) (.int .i64 N) (.ptr H.length 0) (.ptr (H.length+2) 0) (H++[.cells (zal none),.cells (zal none),.cells (zal (some v))]) (Out H.length K):=by rintro v rfl;exact zn0 hS hs rfl (J:=[]) hK
 have hkd:(VT.mk k m ks).kind=k:=rfl;rw[hkd]at hcv;have hleaf:∀v:Nat,v<1000000→(if N=1 then v else 0)=cV data kk (.mk k m ks) N→ACalls tP zgG [.int .i64 v,.int .i64 N] (H++[.cells (zal none),.cells (zal none),.cells (zal (some 0))]) λt57 H_3=>zdV 3 0 (H.length+2) t57.cs? H_3[H.length+2]? H_3 λH_4=>zeO (.ptr I.p 0) (.int .i64 i) (.int .i64 N) (.ptr H.length 0) (.ptr (H.length+2) 0) H_4 (Out H.length K):=by intro v hv he;refine zOP v N hv _ _ ?_;rw[he];simp[List.set_append_right];exact fin _ rfl
 rcases hk123 with rfl|rfl|rfl
 ·simp;refine hleaf kk (by omega) ?_;rw[hcv];simp
 ·simp;refine hleaf 2 (by omega) ?_;rw[hcv];simp
 ·simp;refine hleaf 1 (by omega) ?_;rw[hcv];simp
end
end Go.Proofs.YtaifokkaaahdoaaGreatDoor
