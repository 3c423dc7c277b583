import Derived.Test.YtdmamdnkcefmmaaGreatDoorKNum
import Derived.Test.YtdmamdnkcefmmaaGreatDoorProg
import Derived.KernelRfl
import Derived.Test.YtdmamdnkcefmmaaGreatDoorAbsQ1
import Derived.IntWalk
set_option linter.unusedSimpArgs false
set_option linter.unusedVariables false
set_option maxRecDepth 100000
namespace Go.Proofs.YtdmamdnkcefmmaaGreatDoor
section
variable (t0 t1 t2 t3 t4 t5 t6 t7 t8 t9 t10:AV) (H:zaa) (K:Kt) (Kb1 Kb2 Kb3 Kb4 Kb6 Kb7:Lt)
def zVC(_:Nat):List Bool:=[]
noncomputable def zVD:=Tryz.f36.body.getD .skip
def zE7:=zaz [(.bool false),.snil,.snil] H λt2 H=>zac .lss false t0 (.int .i64 0) λt4=>zag t4 (zac .add false t0 (.int .i64 1) λt6=>aUn .neg t6 λt7=>za8 .u64 t7 λt8=>zac .add false t8 (.int .u64 1) λt9=>ACalls tP ziq [t9] H λt10 H=>zaw 1 [(.int .u32 0)] 1 [(0,(.int .u32 1))] λt11=>ACalls tP zdK [(.bool true),t10,t11] H λt12 H=>zan 3 t2 t12 H λH=>zae true 3 t2 H λr0=>K r0 H) (za8 .u64 t0 λt14=>ACalls tP ziq [t14] H λt15 H=>zaw 1 [(.int .u32 0)] 1 [(0,(.int .u32 1))] λt16=>ACalls tP zdK [(.bool false),t15,t16] H λt17 H=>zan 3 t2 t17 H λH=>zae true 3 t2 H λr0=>K r0 H)
def zTA(_:Nat):List Bool:=[]
noncomputable def zTB:=Tryz.f22.body.getD .skip
def zEn:=zav t0 H λt2 H=>zav t1 H λt3 H=>zaz [(.bool false),.snil,.snil] H λt4 H=>apu H (zaj true 3 t2 H) λt5=>zaC H (λH K'=>ACalls tP zd0 [t5] H K') λt6=>apu H (zaj true 3 t3 H) λt7=>zaC H (λH K'=>ACalls tP zd0 [t7] H K') λt8=>zan 3 t2 t6 H λH=>zan 3 t3 t8 H λH=>apu H (zaf 0 t2) λt9=>apu H (zaj false 1 t9 H) λt10=>apu H (zaf 0 t3) λt11=>apu H (zaj false 1 t11 H) λt12=>apu H (zac .neq true t10 t12) λt13=>apu H (zaf 1 t2) λt14=>apu H (zaj false 1 t14 H) λt15=>apu H (zaf 1 t3) λt16=>apu H (zaj false 1 t16 H) λt17=>zaC H (λH K'=>ACalls tP zdu [t15,t17] H K') λt18=>apu H (zaf 2 t2) λt19=>apu H (zaj false 1 t19 H) λt20=>apu H (zaf 2 t3) λt21=>apu H (zaj false 1 t21 H) λt22=>zaC H (λH K'=>ACalls tP zdu [t20,t22] H K') λt23=>zaC H (λH K'=>ACalls tP zdK [t13,t18,t23] H K') λt24=>zan 3 t4 t24 H λH=>zae true 3 t4 H λr0=>K r0 H
def zXh(_:Nat):List Bool:=[]
noncomputable def zXi:=Tryz.f54.body.getD .skip
def zFE:=zav t0 H λt2 H=>zav t1 H λt3 H=>zaz [(.bool false),.snil,.snil] H λt4 H=>apu H (zaj true 3 t2 H) λt8=>zaC H (λH K'=>ACalls tP zd0 [t8] H K') λt9=>apu H (zaj true 3 t3 H) λt10=>zaC H (λH K'=>ACalls tP zd0 [t10] H K') λt11=>zan 3 t2 t9 H λH=>zan 3 t3 t11 H λH=>apu H (zaf 1 t2) λt12=>apu H (zaj false 1 t12 H) λt13=>apu H (zaf 2 t3) λt14=>apu H (zaj false 1 t14 H) λt15=>zaC H (λH K'=>ACalls tP zdu [t13,t15] H K') λt16=>apu H (zaf 1 t3) λt17=>apu H (zaj false 1 t17 H) λt18=>apu H (zaf 2 t2) λt19=>apu H (zaj false 1 t19 H) λt20=>zaC H (λH K'=>ACalls tP zdu [t18,t20] H K') λt21=>apm H t16 λt5=>apm H t21 λt6=>zaf 2 t2 λt22=>zae false 1 t22 H λt23=>zaf 2 t3 λt24=>zae false 1 t24 H λt25=>ACalls tP zdu [t23,t25] H λt26 H=>zaf 0 t2 λt27=>zae false 1 t27 H λt28=>zaf 0 t3 λt29=>zae false 1 t29 H λt30=>zac .eql true t28 t30 λt31=>zag t31 (apu H (zaf 0 t2) λt32=>apu H (zaj false 1 t32 H) λt33=>apm H t5 λt34=>apm H t6 λt35=>zaC H (λH K'=>ACalls tP zq3 [t34,t35] H K') λt36=>apm H t26 λt37=>zaC H (λH K'=>ACalls tP zdK [t33,t36,t37] H K') λt38=>zan 3 t4 t38 H λH=>zae true 3 t4 H λr0=>K r0 H) (ACalls tP zj3 [t5,t6] H λt41 H=>zac .geq false t41 (.int .i64 0) λt42=>zag t42 (apu H (zaf 0 t2) λt43=>apu H (zaj false 1 t43 H) λt44=>apm H t5 λt45=>apm H t6 λt46=>zaC H (λH K'=>ACalls tP zh7 [t45,t46] H K') λt47=>apm H t26 λt48=>zaC H (λH K'=>ACalls tP zdK [t44,t47,t48] H K') λt49=>zan 3 t4 t49 H λH=>zae true 3 t4 H λr0=>K r0 H) (apu H (zaf 0 t3) λt50=>apu H (zaj false 1 t50 H) λt51=>apm H t6 λt52=>apm H t5 λt53=>zaC H (λH K'=>ACalls tP zh7 [t52,t53] H K') λt54=>apm H t26 λt55=>zaC H (λH K'=>ACalls tP zdK [t51,t54,t55] H K') λt56=>zan 3 t4 t56 H λH=>zae true 3 t4 H λr0=>K r0 H))
def zo6:Nat→List Bool|2=>rl false [0,1,2,1,11]|_=>[]
noncomputable def zwv:=Tryz.f71.body.getD .skip
noncomputable def zYl:=Tryz.f71.results.toList
def zo7:=t0::ux 2 (t3::ux 11 [])
def zYj:=zo6 2
noncomputable def zYh:=zar [1,1,0,0,0] zwv
def zYg:=zas tP zo6 [1,1,0,0] zwv (zaB tP zYl K)
def zo8:=ALoop tP zYh (zYg K) (zo7 t0 t3) H
def zwu:=zac .gtr false t0 (.int .u64 0) λt5=>zag t5 (zac .rem false t0 (.int .u64 1000000000) λt8=>za8 .u32 t8 λt9=>zaw 1 [(.int .u32 0)] 1 [(0,t9)] λt10=>zax zbh 1 4 t3 t10 H λt11 H=>zac .quo false t0 (.int .u64 1000000000) λt13=>Kb2 (zo7 t13 t11) H) (K t3 H)
def zFZ:=zo8 t0 .snil H K
def zXr(_:Nat):List Bool:=[]
noncomputable def zXs:=Tryz.f56.body.getD .skip
def zFI:=zav t0 H λt1 H=>zaz [(.bool false),.snil,.snil] H λt2 H=>zaf 0 t1 λt3=>zae false 1 t3 H λt4=>zaf 1 t1 λt5=>zae false 1 t5 H λt6=>zaf 2 t1 λt7=>zae false 1 t7 H λt8=>ACalls tP zdK [t4,t6,t8] H λt9 H=>zan 3 t2 t9 H λH=>zae true 3 t2 H λr0=>K r0 H
def zgs:Nat→List Bool|3=>rl false [0,2,3,2,63]|7=>rl false [0,2,3,4,61]|_=>[]
noncomputable def zwj:=Tryz.f58.body.getD .skip
noncomputable def zXE:=Tryz.f58.results.toList
def zoU:=t0::t1::ux 3 (t5::t6::ux 63 [])
def zFO:=zgs 3
noncomputable def zwk:=zar [1,1,0,1,0,0] zwj
def zFL:=zas tP zgs [1,1,0,1,0] zwj (zaB tP zXE K)
def zFM:=ALoop tP zwk (zFL K) (zoU t0 t1 t5 t6) H
def zoV:=t0::t1::ux 3 (t5::t6::t7::t8::ux 61 [])
def zXC:=zgs 7
noncomputable def zXz:=zar [1,0,0,1,1,0,0] zwk
def zXy:=zas tP zgs [1,0,0,1,1,0] zwk (zbC zFO Kb3 (zFL K))
def zFN:=ALoop tP zXz (zXy K Kb3) (zoV t0 t1 t5 t6 t7 t8) H
def zoW(t0 t1 t5 t6 t7 t8:AV)(H:zaa)(K:Kt)(Kb3:Lt)(Kb7:Lt):Prop:=zac .add false t6 t8 λt61=>zac .rem false t7 (.int .u64 1000000000) λt63=>za8 .u32 t63 λt64=>zak 1 t5 t61 λt65=>zan 1 t65 t64 H λH=>zac .quo false t7 (.int .u64 1000000000) λt67=>zac .add false t8 (.int .i64 1) λt31=>Kb7 (zoV t0 t1 t5 t6 t67 t31) H
def zoT:=zah 1 t1 λt24=>zac .lss false t8 t24 λt25=>zad t25 false H (λK'=>K' t7 H) λt27 H=>zad t25 false H (λK'=>zac .gtr false t27 (.int .u64 0) (K' · H)) λt28 H=>zam t25 (.bool true) t28 λt29=>zag t29 (zac .add false t6 t8 λt36=>zak 1 t5 t36 λt37=>zae false 1 t37 H λt38=>za8 .u64 t38 λt39=>zac .add false t7 t39 λt40=>zah 1 t1 λt43=>zac .lss false t8 t43 λt44=>zag t44 (apm H t40 λt45=>apm H t0 λt46=>apm H t6 λt47=>apu H (zak 1 t46 t47) λt48=>apu H (zaj false 1 t48 H) λt49=>apu H (za8 .u64 t49) λt50=>apm H t1 λt51=>apm H t8 λt52=>apu H (zak 1 t51 t52) λt53=>apu H (zaj false 1 t53 H) λt54=>apu H (za8 .u64 t54) λt55=>apu H (zac .mul false t50 t55) λt56=>apu H (zac .add false t45 t56) λt57=>apm H t57 λt7=>zoW t0 t1 t5 t6 t7 t8 H K Kb3 Kb7) (zoW t0 t1 t5 t6 t40 t8 H K Kb3 Kb7)) (zac .add false t6 (.int .i64 1) λt21=>Kb3 (zoU t0 t1 t5 t21) H)
def zwi:=zah 1 t0 λt18=>zac .lss false t6 t18 λt19=>zag t19 (zFN t0 t1 t5 t6 (.int .u64 0) (.int .i64 0) H K Kb3) (ACalls tP zfg [t5] H λt69 H=>K t69 H)
def zFK:=zah 1 t0 λt10=>zah 1 t1 λt12=>zac .add false t10 t12 λt13=>zac .add false t13 (.int .i64 1) λt14=>zbp 4 [(.int .u32 0)] t14 t14 H λt15 H=>zFM t0 t1 t15 (.int .i64 0) H K
def zlF:Nat→List Bool|4=>rl false [0,2,3,3,46]|_=>[]
noncomputable def zs4:=Tryz.f104.body.getD .skip
noncomputable def zMq:=Tryz.f104.results.toList
def zlG:=t0::t1::ux 3 (t5::t6::t7::ux 46 [])
def zMo:=zlF 4
noncomputable def zMm:=zar [1,1,1,0,1,0,0] zs4
def zMl:=zas tP zlF [1,1,1,0,1,0] zs4 (zaB tP zMq K)
def zlI:=ALoop tP zMm (zMl K) (zlG t0 t1 t5 t6 t7) H
def zlH(t0 t1 t5 t7 t8:AV)(H:zaa)(K:Kt)(Kb4:Lt):Prop:=zac .quo false t8 (.int .u32 1000000000) λt47=>zac .rem false t8 (.int .u32 1000000000) λt50=>zaw 1 [(.int .u32 0)] 1 [(0,t50)] λt51=>zax zbh 1 4 t5 t51 H λt52 H=>zac .add false t7 (.int .i64 1) λt24=>Kb4 (zlG t0 t1 t52 t47 t24) H
def zhg:=zah 1 t1 λt38=>zac .lss false t7 t38 λt39=>zag t39 (zak 1 t1 t7 λt43=>zae false 1 t43 H λt44=>zac .add false t8 t44 λt45=>zlH t0 t1 t5 t7 t45 H K Kb4) (zlH t0 t1 t5 t7 t8 H K Kb4)
def zhf:=zah 1 t0 λt11=>zac .lss false t7 t11 λt12=>zad t12 false H (λK'=>K' t7 H) λt14 H=>zad t12 false H (λK'=>K' t1 H) λt15 H=>zad t12 false H (λK'=>zah 1 t15 (K' · H)) λt16 H=>zad t12 false H (λK'=>zac .lss false t14 t16 (K' · H)) λt17 H=>zam t12 (.bool true) t17 λt18=>zad t18 false H (λK'=>K' t6 H) λt20 H=>zad t18 false H (λK'=>zac .gtr false t20 (.int .u32 0) (K' · H)) λt21 H=>zam t18 (.bool true) t21 λt22=>zag t22 (zah 1 t0 λt28=>zac .lss false t7 t28 λt29=>zag t29 (zak 1 t0 t7 λt33=>zae false 1 t33 H λt34=>zac .add false t6 t34 λt35=>zhg t0 t1 t5 t7 t35 H K Kb4) (zhg t0 t1 t5 t7 t6 H K Kb4)) (K t5 H)
def zB1:=zlI t0 t1 .snil (.int .u32 0) (.int .i64 0) H K
def zlK:Nat→List Bool|6=>rl false [0,2,3,1,35]|_=>[]
noncomputable def zs5:=Tryz.f105.body.getD .skip
noncomputable def zMx:=Tryz.f105.results.toList
def zlL:=t0::t1::ux 3 (t5::ux 35 [])
def zMv:=zlK 6
noncomputable def zMt:=zar [1,1,0,1,0,0] zs5
def zMs:=zas tP zlK [1,1,0,1,0] zs5 (zaB tP zMx K)
def zB2:=ALoop tP zMt (zMs K) (zlL t0 t1 t5) H
def ziV:=zac .geq false t5 (.int .i64 0) λt20=>zag t20 (apm H t0 λt23=>apm H t5 λt24=>apu H (zak 1 t23 t24) λt25=>apu H (zaj false 1 t25 H) λt26=>apm H t1 λt27=>apm H t5 λt28=>apu H (zak 1 t27 t28) λt29=>apu H (zaj false 1 t29 H) λt30=>apu H (zac .lss false t26 t30) λt31=>zag t31 (K (.int .i64 (-1)) H) (apm H t0 λt32=>apm H t5 λt33=>apu H (zak 1 t32 t33) λt34=>apu H (zaj false 1 t34 H) λt35=>apm H t1 λt36=>apm H t5 λt37=>apu H (zak 1 t36 t37) λt38=>apu H (zaj false 1 t38 H) λt39=>apu H (zac .gtr false t35 t39) λt40=>zag t40 (K (.int .i64 1) H) (zac .sub false t5 (.int .i64 1) λt22=>Kb6 (zlL t0 t1 t22) H))) (K (.int .i64 0) H)
def zlJ:=zah 1 t0 λt7=>zah 1 t1 λt9=>zac .neq false t7 t9 λt10=>zag t10 (zah 1 t0 λt12=>zah 1 t1 λt14=>zac .lss false t12 t14 λt15=>zag t15 (K (.int .i64 (-1)) H) (K (.int .i64 1) H)) (zah 1 t0 λt17=>zac .sub false t17 (.int .i64 1) λt18=>zB2 t0 t1 t18 H K)
def zlM:Nat→List Bool|4=>rl false [0,2,3,3,48]|_=>[]
noncomputable def zs6:=Tryz.f106.body.getD .skip
noncomputable def zMD:=Tryz.f106.results.toList
def ziW:=t0::t1::ux 3 (t5::t6::t7::ux 48 [])
def zMB:=zlM 4
noncomputable def zMz:=zar [1,1,1,0,1,0,0] zs6
def zMy:=zas tP zlM [1,1,1,0,1,0] zs6 (zaB tP zMD K)
def zB5:=ALoop tP zMz (zMy K) (ziW t0 t1 t5 t6 t7) H
def zs7(t0 t1 t5 t6 t7:AV)(H:zaa)(K:Kt)(Kb4:Lt):Prop:=zac .add false t7 (.int .i64 1) λt17=>Kb4 (ziW t0 t1 t5 t6 t17) H
def zlO:=zs7 t0 t1 t5 t6 t7 H K Kb4
def ziX:=zak 1 t0 t7 λt31=>zae false 1 t31 H λt32=>zac .geq false t32 t8 λt34=>zag t34 (zak 1 t0 t7 λt39=>zae false 1 t39 H λt40=>zac .sub false t40 t8 λt42=>zak 1 t5 t7 λt43=>zan 1 t43 t42 H λH=>zlO t0 t1 t5 (.int .u32 0) t7 H K Kb4) (zak 1 t0 t7 λt48=>zae false 1 t48 H λt49=>zac .add false t49 (.int .u32 1000000000) λt50=>zac .sub false t50 t8 λt52=>zak 1 t5 t7 λt53=>zan 1 t53 t52 H λH=>zlO t0 t1 t5 (.int .u32 1) t7 H K Kb4)
def zlN:=zah 1 t0 λt14=>zac .lss false t7 t14 λt15=>zag t15 (zah 1 t1 λt21=>zac .lss false t7 t21 λt22=>zag t22 (zak 1 t1 t7 λt26=>zae false 1 t26 H λt27=>zac .add false t6 t27 λt28=>ziX t0 t1 t5 t7 t28 H K Kb4) (ziX t0 t1 t5 t7 t6 H K Kb4)) (ACalls tP zfg [t5] H λt55 H=>K t55 H)
def zB4:=zah 1 t0 λt10=>zbp 4 [(.int .u32 0)] t10 t10 H λt11 H=>zB5 t0 t1 t11 (.int .u32 0) (.int .i64 0) H K
def zUr(_:Nat):List Bool:=[]
noncomputable def zUs:=Tryz.f24.body.getD .skip
def zEv:=zav t0 H λt1 H=>zae true 3 t1 H λt3=>ACalls tP zd0 [t3] H λt4 H=>zan 3 t1 t4 H λH=>zaf 1 t1 λt6=>zae false 1 t6 H λt7=>zah 1 t7 λt8=>zac .eql false t8 (.int .i64 0) λt9=>zag t9 (K (.int .i64 0) H) (zaf 0 t1 λt11=>zae false 1 t11 H λt12=>zag t12 (K (.int .i64 (-1)) H) (K (.int .i64 1) H))
def zlP:Nat→List Bool|4=>rl false [0,1,2,3,30]|_=>[]
noncomputable def zs8:=Tryz.f107.body.getD .skip
noncomputable def zMK:=Tryz.f107.results.toList
def zlR:=t0::ux 2 (t3::t4::t5::ux 30 [])
def zMI:=zlP 4
noncomputable def zMG:=zar [1,1,1,0,1,0,0] zs8
def zMF:=zas tP zlP [1,1,1,0,1,0] zs8 (zaB tP zMK K)
def zlT:=ALoop tP zMG (zMF K) (zlR t0 t3 t4 t5) H
def zlS:=ACalls tP zfg [t3] H λt35 H=>K t35 H
def zlQ:=zah 1 t0 λt8=>zac .lss false t5 t8 λt9=>zag t9 (zak 1 t0 t5 λt15=>zae false 1 t15 H λt16=>za8 .u64 t16 λt17=>zac .add false t4 t17 λt18=>zac .rem false t18 (.int .u64 1000000000) λt21=>za8 .u32 t21 λt22=>zaw 1 [(.int .u32 0)] 1 [(0,t22)] λt23=>zax zbh 1 4 t3 t23 H λt24 H=>zac .quo false t18 (.int .u64 1000000000) λt26=>zac .add false t5 (.int .i64 1) λt11=>Kb4 (zlR t0 t24 t26 t11) H) (zac .gtr false t4 (.int .u64 0) λt28=>zag t28 (za8 .u32 t4 λt31=>zaw 1 [(.int .u32 0)] 1 [(0,t31)] λt32=>zax zbh 1 4 t3 t32 H λt33 H=>zlS t33 H K) (zlS t3 H K))
def zB6:=zlT t0 .snil (.int .u64 0) (.int .i64 0) H K
def zlU:Nat→List Bool|1=>rl false [0,2,17]|_=>[]
noncomputable def zta:=Tryz.f108.body.getD .skip
noncomputable def zMQ:=Tryz.f108.results.toList
def zlV:=t0::t1::ux 17 []
def zMO:=zlU 1
noncomputable def zMM:=zar [1,0,0,0] zta
def zML:=zas tP zlU [1,0,0] zta (zaB tP zMQ K)
def zB9:=ALoop tP zMM (zML K) (zlV t0 t1) H
def zs9:=zah 1 t1 λt8=>zac .gtr false t8 (.int .i64 0) λt9=>zag t9 (ACalls tP zh8 [t0,t1] H λt13 H=>zaE t13 0 λt14=>zaE t13 1 λt15=>Kb1 (zlV t1 t15) H) (K t0 H)
def zB8:=zB9 t0 t1 H K
def zlW:Nat→List Bool|2=>rl false [0,1,2,1,18]|_=>[]
noncomputable def ztd:=Tryz.f110.body.getD .skip
noncomputable def zM3:=Tryz.f110.results.toList
def zlY:=t0::ux 2 (t3::ux 18 [])
def zM1:=zlW 2
noncomputable def zMZ:=zar [1,1,0,0,0] ztd
def zMY:=zas tP zlW [1,1,0,0] ztd (zaB tP zM3 K)
def zCd:=ALoop tP zMZ (zMY K) (zlY t0 t3) H
def zlX:=zac .gtr false t3 (.int .i64 0) λt7=>zad t7 true H (λK'=>K' t0 H) λt9 H=>zad t7 true H (λK'=>K' t3 H) λt10 H=>zad t7 true H (λK'=>zac .sub false t10 (.int .i64 1) (K' · H)) λt11 H=>zad t7 true H (λK'=>zak 1 t9 t11 (K' · H)) λt12 H=>zad t7 true H (λK'=>zae false 1 t12 H (K' · H)) λt13 H=>zad t7 true H (λK'=>zac .eql false t13 (.int .u32 0) (K' · H)) λt14 H=>zam t7 t14 (.bool false) λt15=>zag t15 (zac .sub false t3 (.int .i64 1) λt17=>Kb2 (zlY t0 t17) H) (zaN 1 1 t0 none (some t3) λt20=>zax zbh 1 4 .snil t20 H λt21 H=>K t21 H)
def zCc:=zah 1 t0 λt5=>zCd t0 t5 H K
def zmP:Nat→List Bool|4=>rl false [0,2,4,3,31]|_=>[]
noncomputable def zt2:=Tryz.f150.body.getD .skip
noncomputable def zPU:=Tryz.f150.results.toList
def zmQ:=t0::t1::ux 4 (t6::t7::t8::ux 31 [])
def zPS:=zmP 4
noncomputable def zPQ:=zar [1,1,1,0,1,0,0] zt2
def zPP:=zas tP zmP [1,1,1,0,1,0] zt2 (zaB tP zPU K)
def zCY:=ALoop tP zPQ (zPP K) (zmQ t0 t1 t6 t7 t8) H
def zt1:=zac .geq false t8 (.int .i64 0) λt16=>zag t16 (zac .mul false t7 (.int .u64 1000000000) λt20=>zak 1 t0 t8 λt23=>zae false 1 t23 H λt24=>za8 .u64 t24 λt25=>zac .add false t20 t25 λt26=>zac .quo false t26 t1 λt31=>za8 .u32 t31 λt32=>zak 1 t6 t8 λt33=>zan 1 t33 t32 H λH=>zac .rem false t26 t1 λt36=>zac .sub false t8 (.int .i64 1) λt18=>Kb4 (zmQ t0 t1 t6 t36 t18) H) (ACalls tP zfg [t6] H λt38 H=>zaF [t38,t7] (K · H))
def zCX:=zah 1 t0 λt10=>zbp 4 [(.int .u32 0)] t10 t10 H λt11 H=>zah 1 t0 λt13=>zac .sub false t13 (.int .i64 1) λt14=>zCY t0 t1 t11 (.int .u64 0) t14 H K
def zPf(_:Nat):List Bool:=[]
noncomputable def zPg:=Tryz.f143.body.getD .skip
def zCT:=zav t0 H λt2 H=>zav t1 H λt3 H=>zaz [(.bool false),.snil,.snil] H λt4 H=>apu H (zaj true 3 t2 H) λt6=>zaC H (λH K'=>ACalls tP zd0 [t6] H K') λt7=>apu H (zaj true 3 t3 H) λt8=>zaC H (λH K'=>ACalls tP zd0 [t8] H K') λt9=>zan 3 t2 t7 H λH=>zan 3 t3 t9 H λH=>zaf 1 t3 λt10=>zae false 1 t10 H λt11=>zah 1 t11 λt12=>zac .eql false t12 (.int .i64 0) λt13=>zag t13 (ACalls tP zdJ [(.int .i64 0)] H λt14 H=>zan 3 t4 t14 H λH=>zae true 3 t4 H λr0=>zaF [r0,(.bool false)] (K · H)) (apu H (zaf 0 t2) λt15=>apu H (zaj false 1 t15 H) λt16=>apu H (zaf 0 t3) λt17=>apu H (zaj false 1 t17 H) λt18=>apu H (zac .neq true t16 t18) λt19=>apu H (zaf 1 t2) λt20=>apu H (zaj false 1 t20 H) λt21=>apu H (zaf 2 t3) λt22=>apu H (zaj false 1 t22 H) λt23=>zaC H (λH K'=>ACalls tP zdu [t21,t23] H K') λt24=>apu H (zaf 2 t2) λt25=>apu H (zaj false 1 t25 H) λt26=>apu H (zaf 1 t3) λt27=>apu H (zaj false 1 t27 H) λt28=>zaC H (λH K'=>ACalls tP zdu [t26,t28] H K') λt29=>zaC H (λH K'=>ACalls tP zdK [t19,t24,t29] H K') λt30=>zan 3 t4 t30 H λH=>apm H (.bool true) λt5=>zae true 3 t4 H λr0=>zaF [r0,t5] (K · H))
def zXu(_:Nat):List Bool:=[]
noncomputable def zXv:=Tryz.f57.body.getD .skip
def zoS:=zaq [(.bool false),.snil,.snil] [(0,1),(1,1),(2,1)] [(0,t0),(1,t1),(2,t2)] λt49=>zan 3 t6 t49 H λH=>zae true 3 t6 H λr0=>K r0 H
def zFJ:=zaz [(.bool false),.snil,.snil] H λt6 H=>ACalls tP zj4 [t1] H λt9 H=>ACalls tP zj4 [t2] H λt11 H=>zah 1 t9 λt13=>zac .eql false t13 (.int .i64 0) λt14=>zad t14 false H (λK'=>K' t11 H) λt16 H=>zad t14 false H (λK'=>zah 1 t16 (K' · H)) λt17 H=>zad t14 false H (λK'=>zac .eql false t17 (.int .i64 0) (K' · H)) λt18 H=>zam t14 (.bool true) t18 λt19=>zag t19 (zaw 1 [(.int .u32 0)] 1 [(0,(.int .u32 1))] λt20=>zaq [(.bool false),.snil,.snil] [(0,1),(1,1),(2,1)] [(2,t20)] λt21=>zan 3 t6 t21 H λH=>zae true 3 t6 H λr0=>K r0 H) (ACalls tP zq5 [t9,t11] H λt24 H=>zah 1 t24 λt26=>zac .neq false t26 (.int .i64 1) λt27=>zad t27 false H (λK'=>K' t24 H) λt29 H=>zad t27 false H (λK'=>zak 1 t29 (.int .i64 0) (K' · H)) λt30 H=>zad t27 false H (λK'=>zae false 1 t30 H (K' · H)) λt31 H=>zad t27 false H (λK'=>zac .neq false t31 (.int .u32 1) (K' · H)) λt32 H=>zam t27 (.bool true) t32 λt33=>zag t33 (ACalls tP zh8 [t9,t24] H λt37 H=>zaE t37 0 λt38=>zaE t37 1 λt39=>ACalls tP zh8 [t11,t24] H λt43 H=>zaE t43 0 λt44=>zaE t43 1 λt45=>zoS t0 t38 t44 t6 H K) (zoS t0 t9 t11 t6 H K))
def zCb:Nat→List Bool|9=>rl false [0,2,6,3,79]|13=>rl false [0,2,6,4,78]|16=>rl false [0,2,6,4,78]|_=>[]
noncomputable def ztb:=Tryz.f109.body.getD .skip
noncomputable def zMX:=Tryz.f109.results.toList
def zMU:=t0::t1::ux 6 (t8::t9::t10::ux 79 [])
noncomputable def zMT:=zar [1,1,1,1,1,0,1,0,0] ztb
def zMS:=zas tP zCb [1,1,1,1,1,0,1,0] ztb (zaB tP zMX K)
def zMV:=ALoop tP zMT (zMS K) (zMU t0 t1 t8 t9 t10) H
def zCa:=ACalls tP zj3 [t0,t1] H λt14 H=>zac .lss false t14 (.int .i64 0) λt15=>zag t15 (ACalls tP zfg [t0] H λt17 H=>zaF [.snil,t17] (K · H)) (zah 1 t1 λt19=>zac .eql false t19 (.int .i64 1) λt20=>zag t20 (zak 1 t1 (.int .i64 0) λt24=>zae false 1 t24 H λt25=>za8 .u64 t25 λt26=>ACalls tP zro [t0,t26] H λt27 H=>zaE t27 0 λt28=>zaE t27 1 λt29=>ACalls tP ziq [t29] H λt32 H=>zaF [t28,t32] (K · H)) (zah 1 t0 λt34=>zbp 4 [(.int .u32 0)] t34 t34 H λt35 H=>zah 1 t0 λt37=>zac .sub false t37 (.int .i64 1) λt38=>zMV t0 t1 t35 .snil t38 H K))
variable {t0 t1 t2 t3 t4 t5 t6 t7 t8 t9 t10} {H} {K} {Kb1 Kb2 Kb3 Kb4 Kb6 Kb7}
theorem zVE(h:HSc H→zE7 t0 H K):ACalls tP zdJ [t0] H K:=
 acb zVC Tryz.func36 zVD h
theorem zTC(h:HSc H→zEn t0 t1 H K):ACalls tP zfi [t0,t1] H K:=
 acb zTA Tryz.func22 zTB h
theorem zXj(h:HSc H→zFE t0 t1 H K):ACalls tP zrU [t0,t1] H K:=
 acb zXh Tryz.func54 zXi h
theorem zYi:Lo2 (λt0 t3=>zo7 t0 t3) (λt0 t3 H Kb2=>zwu t0 t3 H K Kb2) t0 t3 H (zo8 t0 t3 H K):=lq2 zo6 zYj
theorem zYk(h:HSc H→zFZ t0 H K):ACalls tP ziq [t0] H K:=
 acb zo6 Tryz.func71 zwv h
theorem zXt(h:HSc H→zFI t0 H K):ACalls tP zd0 [t0] H K:=
 acb zXr Tryz.func56 zXs h
theorem zXB:Lo2 (λt7 t8=>zoV t0 t1 t5 t6 t7 t8) (λt7 t8 H Kb7=>zoT t0 t1 t5 t6 t7 t8 H K Kb3 Kb7) t7 t8 H (zFN t0 t1 t5 t6 t7 t8 H K Kb3):=lq2 zgs zXC
theorem zXA:Lo1 (λt6=>zoU t0 t1 t5 t6) (λt6 H Kb3=>zwi t0 t1 t5 t6 H K Kb3) t6 H (zFM t0 t1 t5 t6 H K):=lq1 zgs zFO
theorem zXD(h:HSc H→zFK t0 t1 H K):ACalls tP zdu [t0,t1] H K:=
 acb zgs Tryz.func58 zwj h
theorem zMn:Lo3 (λt5 t6 t7=>zlG t0 t1 t5 t6 t7) (λt5 t6 t7 H Kb4=>zhf t0 t1 t5 t6 t7 H K Kb4) t5 t6 t7 H (zlI t0 t1 t5 t6 t7 H K):=lq3 zlF zMo
theorem zMp(h:HSc H→zB1 t0 t1 H K):ACalls tP zq3 [t0,t1] H K:=
 acb zlF Tryz.func104 zs4 h
theorem zMu:Lo1 (λt5=>zlL t0 t1 t5) (λt5 H Kb6=>ziV t0 t1 t5 H K Kb6) t5 H (zB2 t0 t1 t5 H K):=lq1 zlK zMv
theorem zMw(h:HSc H→zlJ t0 t1 H K):ACalls tP zj3 [t0,t1] H K:=
 acb zlK Tryz.func105 zs5 h
theorem zMA:Lo2 (λt6 t7=>ziW t0 t1 t5 t6 t7) (λt6 t7 H Kb4=>zlN t0 t1 t5 t6 t7 H K Kb4) t6 t7 H (zB5 t0 t1 t5 t6 t7 H K):=lq2 zlM zMB
theorem zMC(h:HSc H→zB4 t0 t1 H K):ACalls tP zh7 [t0,t1] H K:=
 acb zlM Tryz.func106 zs6 h
theorem zUt(h:HSc H→zEv t0 H K):ACalls tP zih [t0] H K:=
 acb zUr Tryz.func24 zUs h
theorem zMH:Lo3 (λt3 t4 t5=>zlR t0 t3 t4 t5) (λt3 t4 t5 H Kb4=>zlQ t0 t3 t4 t5 H K Kb4) t3 t4 t5 H (zlT t0 t3 t4 t5 H K):=lq3 zlP zMI
theorem zMJ(h:HSc H→zB6 t0 H K):ACalls tP zj4 [t0] H K:=
 acb zlP Tryz.func107 zs8 h
theorem zMN:Lo2 (λt0 t1=>zlV t0 t1) (λt0 t1 H Kb1=>zs9 t0 t1 H K Kb1) t0 t1 H (zB9 t0 t1 H K):=lq2 zlU zMO
theorem zMP(h:HSc H→zB8 t0 t1 H K):ACalls tP zq5 [t0,t1] H K:=
 acb zlU Tryz.func108 zta h
theorem zM0:Lo1 (λt3=>zlY t0 t3) (λt3 H Kb2=>zlX t0 t3 H K Kb2) t3 H (zCd t0 t3 H K):=lq1 zlW zM1
theorem zM2(h:HSc H→zCc t0 H K):ACalls tP zfg [t0] H K:=
 acb zlW Tryz.func110 ztd h
theorem zPR:Lo2 (λt7 t8=>zmQ t0 t1 t6 t7 t8) (λt7 t8 H Kb4=>zt1 t0 t1 t6 t7 t8 H K Kb4) t7 t8 H (zCY t0 t1 t6 t7 t8 H K):=lq2 zmP zPS
theorem zPT(h:HSc H→zCX t0 t1 H K):ACalls tP zro [t0,t1] H K:=
 acb zmP Tryz.func150 zt2 h
theorem zPh(h:HSc H→zCT t0 t1 H K):ACalls tP zrl [t0,t1] H K:=
 acb zPf Tryz.func143 zPg h
theorem zXw(h:HSc H→zFJ t0 t1 t2 H K):ACalls tP zdK [t0,t1,t2] H K:=
 acb zXu Tryz.func57 zXv h
theorem zMW(h:HSc H→zCa t0 t1 H K):ACalls tP zh8 [t0,t1] H K:=
 acb zCb Tryz.func109 ztb h
end
def zao:List Nat→Nat
 |[]=>0
 |x::l=>x+1000000000*zao l
def lim(n:Nat):List Nat:=if _h:n=0 then [] else n % 1000000000::lim (n / 1000000000)
termination_by n
decreasing_by exact cP (by omega) (by decide)
@[simp] theorem zza:lim 0=[]:=by rw[lim];rfl
theorem zcq{n:Nat}(h:n≠0):lim n=n % 1000000000::lim (n / 1000000000):=by rw[lim,dT h]
theorem zbq(n:Nat):zao (lim n)=n:=by
 induction n using Nat.strongRecOn with
 |_ n ih=>
  by_cases h:n=0
  ·subst h;simp[zao]
  ·rw[zcq h,zao,ih _ (cP (by omega) (by decide))];exact Nat.mod_add_div n 1000000000
theorem zb4(n:Nat):∀x∈lim n,x<1000000000:=by
 induction n using Nat.strongRecOn with
 |_ n ih=>
  by_cases h:n=0
  ·subst h;simp
  ·rw[zcq h];intro x hx;rcases aP.1 hx with rfl | hx
   ·exact ck _ (by decide)
   ·exact ih _ (cP (by omega) (by decide)) x hx
theorem lim_nil{n:Nat}:lim n=[]↔n=0:=by
 by_cases h:n=0
 ·simp[h]
 ·rw[zcq h];simp[h]
def zbP:List Nat→List Nat
 |[]=>[]
 |x::l=>if x=0∧zbP l=[] then [] else x::zbP l
theorem zh0:∀ (a b:List Nat),zao (a++b)=zao a+1000000000 ^ a.length*zao b
 |[],b=>by simp[zao]
 |x::a,b=>by simp only[List.cons_append,zao,zh0 a b,List.length_cons,Nat.pow_succ];grind
theorem zf1:∀ (l:List Nat),(∀ x∈l,x<1000000000)→zbP l=lim (zao l)
 |[],_=>by simp[zbP,zao]
 |x::l,h=>by
  have hx:=h x (by simp);have ih:=zf1 l (λy hy=>h y (by simp[hy]));rw[zbP,zao,ih];have e1:(x+1000000000*zao l) % 1000000000=x:=by rw[dA,bH hx]
  have e2:(x+1000000000*zao l) / 1000000000=zao l:=by rw[Nat.add_mul_div_left _ _ (by decide),bP hx];omega
  by_cases h0:x=0∧lim (zao l)=[]
  ·rw[az h0];have:=lim_nil.1 h0.2;rw[this,h0.1];simp
  ·rw[au h0];have:x+1000000000*zao l≠0:=by
    intro h1;refine h0 ⟨by omega,lim_nil.2 ?_⟩;have:1000000000*zao l=0:=by omega
    rcases Nat.mul_eq_zero.1 this with h2|h2
    ·cases h2
    ·exact h2
   rw[zcq this,e1,e2]
theorem zdW:∀ (l:List Nat),(∀ x∈l,x<1000000000)→zao l<1000000000 ^ l.length
 |[],_=>by simp[zao]
 |x::l,h=>by have hx:=h x (by simp);have ih:=zdW l (λy hy=>h y (by simp[hy]));simp only[zao,List.length_cons,Nat.pow_succ];have:1000000000*(zao l+1)≤1000000000*1000000000 ^ l.length:=bj _ ih;rw[bi (1000000000 ^ l.length)];rw[Nat.mul_succ]at this;omega
theorem zbT{n k:Nat}(h:n<1000000000 ^ k):(lim n).length≤k:=by
 induction k generalizing n with
 | zero => have : n = 0 := by simp at h; omega
           subst this;simp
 |succ k ih=>
  by_cases h0:n=0
  ·subst h0;simp
  ·rw[zcq h0,List.length_cons];have:=ih (n:=n / 1000000000) (Nat.div_lt_of_lt_mul (by rw[Nat.pow_succ,bi]at h;exact h));omega
theorem zjY{n:Nat}(h:n≠0):1000000000 ^ ((lim n).length-1)≤n:=by
 induction n using Nat.strongRecOn with
 |_ n ih=>
  rw[zcq h,List.length_cons,cp];by_cases h1:n / 1000000000=0
  ·rw[h1];simp;omega
  ·have:=ih (n / 1000000000) (cP (by omega) (by decide)) h1;have hl:0<(lim (n / 1000000000)).length:=by rw[zcq h1];simp
   have e:(lim (n / 1000000000)).length=(lim (n / 1000000000)).length-1+1:=by omega
   rw[e,Nat.pow_succ];calc _≤(n / 1000000000)*1000000000:=ar _ this
    _≤n:=Nat.div_mul_le_self _ _
theorem zfd{n:Nat}(h0:n≠0)(h:n<1000000000):lim n=[n]:=by rw[zcq h0,bH h,bP h];simp
theorem zj0:∀ (l:List Nat) (j:Nat) (x:Nat) (h:j<l.length),zao (l.set j x)+l[j]*1000000000 ^ j=zao l+x*1000000000 ^ j
 |[],j,x,h=>by simp at h
 |y::l,0,x,h=>by simp[zao];omega
 |y::l,j+1,x,h=>by have:=zj0 l j x (by simpa using h);simp only[List.set_cons_succ,zao,List.getElem_cons_succ,Nat.pow_succ];grind
theorem zdt(l:List Nat)(i:Nat)(h:i<l.length):zao (l.take (i+1))=zao (l.take i)+l[i]*1000000000 ^ i:=by rw[ae h,zh0];simp[zao,bc (bO h)];exact bi _ _
theorem zze(n:Nat):zao (List.replicate n 0)=0:=by
 induction n with
 |zero=>rfl
 |succ n ih=>rw[List.replicate_succ,zao,ih]
theorem zh2(l:List Nat)(i:Nat)(h:i<l.length):zao (l.drop i)=l[i]+1000000000*zao (l.drop (i+1)):=by rw[ag h,zao]
theorem zh1{a b:Nat}(h:(lim a).length<(lim b).length):a<b:=by
 by_cases hb:b=0
 ·subst hb;simp at h
 ·have h1:=zjY hb;have h2:=zdW (lim a) (zb4 a);rw[zbq]at h2;exact aV h2 (ap (a7 (by decide) (by omega)) h1)
section
open Go.RowKit

section
variable {H:zaa} {K:AV→zaa→Prop} {k:AV→Prop}
@[simp] theorem yb2(p q:Prop):aIf true p q=p:=propext aO
@[simp] theorem yb1(p q:Prop):aIf false p q=q:=propext aO
theorem zxH(b:Bool)(p q:Prop):zag (.bool b) p q=(if b=true then p else q):=rfl
@[simp] theorem ydw(p q:Prop):zag (.bool true) p q=p:=propext aO
@[simp] theorem ydv(p q:Prop):zag (.bool false) p q=q:=propext aO
@[simp] theorem ycU(x y:AV):zam (.bool true) x y k=k x:=propext aO
@[simp] theorem ycT(x y:AV):zam (.bool false) x y k=k y:=propext aO
@[simp] theorem ybS(p q:Prop):zdC (.bool true) true p q=p:=propext aO
@[simp] theorem ybP(p q:Prop):zdC (.bool false) false p q=p:=propext aO
@[simp] theorem ybR(p q:Prop):zdC (.bool true) false p q=q:=propext aO
@[simp] theorem ybQ(p q:Prop):zdC (.bool false) true p q=q:=propext aO
@[simp] theorem ybT(want:Bool)(p q:Prop):zdC (.tup []) want p q=q:=propext aO
@[simp] theorem ybM(p:(AV→zaa→Prop)→Prop)(J:AV→zaa→Prop):zad (.bool true) true H p J=p J:=propext aO
@[simp] theorem ybJ(p:(AV→zaa→Prop)→Prop)(J:AV→zaa→Prop):zad (.bool false) false H p J=p J:=propext aO
@[simp] theorem ybL(p:(AV→zaa→Prop)→Prop)(J:AV→zaa→Prop):zad (.bool true) false H p J=J (.tup []) H:=propext aO
@[simp] theorem ybK(p:(AV→zaa→Prop)→Prop)(J:AV→zaa→Prop):zad (.bool false) true H p J=J (.tup []) H:=propext aO
@[simp] theorem ybN(want:Bool)(p:(AV→zaa→Prop)→Prop)(J:AV→zaa→Prop):zad (.tup []) want H p J=J (.tup []) H:=propext aO
@[simp] theorem ydG(cs:List AV):(AV.agg cs).cs?=some cs:=rfl
@[simp] theorem ydJ(j:IntKind)(n:Int):(AV.int j n).cs?=some [.int j n]:=rfl
@[simp] theorem ydH(b:Bool):(AV.bool b).cs?=some [.bool b]:=rfl
@[simp] theorem ydU(s:List UInt8):(AV.str s).cs?=some [.str s]:=rfl
@[simp] theorem ydS(es:List (List AV))(t:Tok):(AV.sl es t).cs?=some [.sl es t]:=rfl
@[simp] theorem ydT:(AV.snil).cs?=some [.snil]:=rfl
@[simp] theorem ydR(i o:Nat):(AV.ptr i o).cs?=some [.ptr i o]:=rfl
@[simp] theorem ydL(i o l c:Nat):(AV.ms i o l c).cs?=some [.ms i o l c]:=rfl
@[simp] theorem ydI(f:Nat)(c:List AV):(AV.fn f c).cs?=some [.fn f c]:=rfl
@[simp] theorem ydO:(AV.nilp).cs?=some [.nilp]:=rfl
@[simp] theorem ydN:(AV.nili).cs?=some [.nili]:=rfl
@[simp] theorem ydQ(i n:Nat):(AV.ov i n).cs?=some [.ov i n]:=rfl
@[simp] theorem ydV(i n o:Nat):(AV.vp i n o).cs?=some [.vp i n o]:=rfl
@[simp] theorem ydM:(AV.nilfn).cs?=some [.nilfn]:=rfl
@[simp] theorem ycH(cs:List AV):zaz cs H K=K (.ptr H.length 0) (H++[.cells cs]):=propext aO
@[simp] theorem ya4(cs:List AV):zav (.agg cs) H K=K (.ptr H.length 0) (H++[.cells cs]):=propext aO
@[simp] theorem ya8(j:IntKind)(n:Int):zav (.int j n) H K=K (.ptr H.length 0) (H++[.cells [.int j n]]):=propext aO
@[simp] theorem ybf(s:List UInt8):zav (.str s) H K=K (.ptr H.length 0) (H++[.cells [.str s]]):=propext aO
@[simp] theorem ya5(b:Bool):zav (.bool b) H K=K (.ptr H.length 0) (H++[.cells [.bool b]]):=propext aO
@[simp] theorem ybd(es:List (List AV))(t:Tok):zav (.sl es t) H K=K (.ptr H.length 0) (H++[.cells [.sl es t]]):=propext aO
@[simp] theorem ybj(n off:Nat)(cs:List AV):zbA true n off cs k=(off+n≤cs.length∧k (.agg ((cs.drop off).take n))):=propext aO
theorem zdn{cs:List AV}{off:Nat}{c:AV}(n:Nat)(h:cs[off]?=some c):zbA false n off cs k=k c:=by simp[zbA,h]
@[simp] theorem ybm(n:Nat)(c:AV)(cs:List AV):zbA false n 0 (c::cs) k=k c:=propext aO
@[simp] theorem ybl(n i:Nat)(c:AV)(cs:List AV):zbA false n (i+1) (c::cs) k=zbA false n i cs k:=by simp[zbA]
@[simp] theorem ycm(g:Bool)(n:Nat)(cs:List AV):zae g n (.view cs) H k=zbA g n 0 cs k:=propext aO
def zgx(g:Bool)(n off:Nat)(b:Option AB)(k:AV→Prop):Prop:=
 match b with
 |some (.cells cs)=>zbA g n off cs k
 |_=>False
@[simp] theorem ycg(g:Bool)(n off:Nat)(cs:List AV):zgx g n off (some (.cells cs)) k=zbA g n off cs k:=propext aO
@[simp] theorem ycl(g:Bool)(n id off:Nat):zae g n (.ptr id off) H k=zgx g n off H[id]? k:=by rw[zhw];rfl
def zfD(n off id:Nat)(xs:Option (List AV))(b:Option AB)(H:zaa)(K:zaa→Prop):Prop:=
 match xs,b with
 |some xs,some (.cells cs)=>(xs.length=n∧off+n≤cs.length∧xs.all AV.known=true)∧K (H.set id (.cells (cs.take off++xs++cs.drop (off+n))))
 |_,_=>False
@[simp] theorem zHp{K':zaa→Prop}(n off id:Nat)(xs cs:List AV):zfD n off id (some xs) (some (.cells cs)) H K'=((xs.length=n∧off+n≤cs.length∧xs.all AV.known=true)∧K' (H.set id (.cells (cs.take off++xs++cs.drop (off+n))))):=propext aO
@[simp] theorem ydr{K':zaa→Prop}(n id off:Nat)(x:AV):zan n (.ptr id off) x H K'=zfD n off id x.cs? H[id]? H K':=by
 cases hx:x.cs? with
 |none=>simp[ze4,zfD,hx]
 | some xs=>cases hb:H[id]? with
  |none=>simp[ze4,zfD,hx,hb]
  |some b=>cases b <;> simp[ze4,zfD,hx,hb]
def zxC(g:Bool)(n m off:Nat)(b:Option AB)(k:AV→Prop):Prop:=
 match b with
 |some (.vec _ _ m' cs)=>m'=m∧zbA g n off cs k
 |_=>False
@[simp] theorem ycj(g:Bool)(n m off e s m':Nat)(cs:List AV):zxC g n m off (some (.vec e s m' cs)) k=(m'=m∧zbA g n off cs k):=propext aO
@[simp] theorem ycn(g:Bool)(n id m off:Nat):zae g n (.vp id m off) H k=zxC g n m off H[id]? k:=by rw[zhw];rfl
def zhy(n m off id:Nat)(xs:Option (List AV))(b:Option AB)(H:zaa)(K':zaa→Prop):Prop:=
 match xs,b with
 |some xs,some (.vec e s m' cs)=>(m'=m∧xs.length=n∧off+n≤cs.length∧xs.all AV.known=true)∧K' (H.set id (.vec e s m' (cs.take off++xs++cs.drop (off+n))))
 |_,_=>False
@[simp] theorem ydp{K':zaa→Prop}(n m off id e s m':Nat)(xs cs:List AV):zhy n m off id (some xs) (some (.vec e s m' cs)) H K'=((m'=m∧xs.length=n∧off+n≤cs.length∧xs.all AV.known=true)∧K' (H.set id (.vec e s m' (cs.take off++xs++cs.drop (off+n))))):=propext aO
@[simp] theorem yds{K':zaa→Prop}(n id m off:Nat)(x:AV):zan n (.vp id m off) x H K'=zhy n m off id x.cs? H[id]? H K':=by
 cases hx:x.cs? with
 |none=>simp[ze4,zhy,hx]
 | some xs=>cases hb:H[id]? with
  |none=>simp[ze4,zhy,hx,hb]
  |some b=>cases b <;> simp[ze4,zhy,hx,hb]
def zpY(e size bytes n id:Nat)(ys:List (List AV))(b:Option AB)(H:zaa)(K:AV→zaa→Prop):Prop:=
 match b with
 |some (.vec e' s' n' cs)=>((e'=e∧s'=size∧n'=n)∧(n+ys.length)*bytes≤140737488355328∧n+ys.length≤9223372036854775807)∧K (.ov id (n+ys.length)) (H.set id (.vec e size (n+ys.length) (cs++ys.flatten)))
 |_=>False
@[simp] theorem ya0(e size bytes n id e' s' n':Nat)(ys:List (List AV))(cs:List AV):zpY e size bytes n id ys (some (.vec e' s' n' cs)) H K=(((e'=e∧s'=size∧n'=n)∧(n+ys.length)*bytes≤140737488355328∧n+ys.length≤9223372036854775807)∧K (.ov id (n+ys.length)) (H.set id (.vec e size (n+ys.length) (cs++ys.flatten)))):=propext aO
@[simp] theorem yaZ(e size bytes id n:Nat)(ys:List (List AV)):zaK e size bytes (.ov id n) ys H K=zpY e size bytes n id ys H[id]? H K:=by unfold zaK zpY;rfl
@[simp] theorem ybW(ed id m:Nat)(j:IntKind)(n:Int):zak ed (.ov id m) (.int j n) k=((0≤n∧n<m)∧k (.vp id m (n.toNat*ed))):=zjB ..
@[simp] theorem yb5(id n:Nat):zah 1 (.ov id n) k=k (.int .i64 n):=propext aO
@[simp] theorem ybF(off i m o:Nat):zaf off (.vp i m o) k=k (.vp i m (o+off)):=propext aO
@[simp] theorem ycQ(i m o:Nat):zbf (.vp i m o) k=k (.vp i m o):=propext aO
@[simp] theorem ybb(i n:Nat):zav (.ov i n) H K=K (.ptr H.length 0) (H++[.cells [.ov i n]]):=propext aO
@[simp] theorem yee(i n:Nat):(AV.ov i n).known=true:=rfl
@[simp] theorem yez(m i n:Nat):(AV.ov i n).scA m=decide (i<m):=rfl
@[simp] theorem ycO(i o:Nat):zbf (.ptr i o) k=k (.ptr i o):=propext aO
@[simp] theorem ycP(cs:List AV):zbf (.view cs) k=k (.view cs):=propext aO
@[simp] theorem ycN(f:Nat)(c:List AV):zbf (.fn f c) k=k (.fn f c):=propext aO
@[simp] theorem ybD(off i o:Nat):zaf off (.ptr i o) k=k (.ptr i (o+off)):=propext aO
@[simp] theorem ybE(off:Nat)(cs:List AV):zaf off (.view cs) k=(off≤cs.length∧k (.view (cs.drop off))):=zxB ..
@[simp] theorem ybA(g:Bool)(n off:Nat)(cs:List AV):zeb g n off (.agg cs) k=zbA g n off cs k:=propext aO
@[simp] theorem ybX(ed:Nat)(es:List (List AV))(t:Tok)(j:IntKind)(n:Int):zak ed (.sl es t) (.int j n) k=((0≤n∧n<es.length)∧((es.getD n.toNat []).length=ed∧k (.view (es.getD n.toNat [])))):=zjB ..
@[simp] theorem ybV(ed id off len cap:Nat)(j:IntKind)(n:Int):zak ed (.ms id off len cap) (.int j n) k=((0≤n∧n<len)∧k (.ptr id (off+n.toNat*ed))):=zjB ..
@[simp] theorem ybZ(s:List UInt8)(j:IntKind)(n:Int):zbS (.str s) (.int j n) k=((0≤n∧n<s.length)∧k (.int .u8 (s.getD n.toNat 0).toNat)):=propext aO
@[simp] theorem yb8(s:List UInt8):zah 0 (.str s) k=k (.int .i64 s.length):=propext aO
@[simp] theorem yb6(es:List (List AV))(t:Tok):zah 1 (.sl es t) k=k (.int .i64 es.length):=propext aO
@[simp] theorem yb7:zah 1 .snil k=k (.int .i64 0):=propext aO
@[simp] theorem yb4(i o l c:Nat):zah 1 (.ms i o l c) k=k (.int .i64 l):=propext aO
@[simp] theorem zHh(d:Nat)(q:Nat→Prop):zbX none d q=q d:=propext aO
@[simp] theorem zHg(j:IntKind)(n:Int)(d:Nat)(q:Nat→Prop):zbX (some (.int j n)) d q=(0≤n∧q n.toNat):=propext aO
@[simp] theorem ycv{K:AV→zaa→Prop}{H:zaa}(e s b:Nat)(c:Int):ze3 e s b (.int .i64 c) H K=((0≤c∧c*b≤140737488355328∧c≤9223372036854775807)∧K (.ov H.length 0) (H++[.vec e s 0 []])):=propext aO
@[congr] theorem ycu{K:AV→zaa→Prop}{H H':zaa}{e s b:Nat}{c c':AV}(hc:c=c')(hH:H=H'):ze3 e s b c H K=ze3 e s b c' H' K:=by rw[hc,hH]
@[simp] theorem ycy{K:AV→Prop}(k k':IntKind)(m n:Int):zfB (.int k m) (.int k' n) K=K (.int k (if n>m then n else m)):=propext aO
@[congr] theorem ycx{K:AV→Prop}{x x' y y':AV}(h:x=x')(hy:y=y'):zfB x y K=zfB x' y' K:=by rw[h,hy]
@[simp] theorem ydl(ed id n:Nat)(lo hi:Option AV):zaN 1 ed (.ov id n) lo hi k=zbX hi n λh=>zbX lo 0 λl=>(l≤h∧h=n)∧k (.os id n l ed):=propext aO
@[simp] theorem ydP(i n l z:Nat):(AV.os i n l z).cs?=some [.os i n l z]:=rfl
def zxA(size id n lo z id' n' lo' z':Nat)(b:Option AB)(H:zaa)(K:AV→zaa→Prop):Prop:=
 match b with
 | some (.vec e s m cs) => (((id' = id ∧ n' = n ∧ m = n) ∧ z = size ∧ z' = size ∧ s = size) ∧ cs.all AV.known = true) ∧
    K (.int .i64 ((min (n-lo') (n-lo):Nat):Int)) (H.set id (.vec e s m (zds cs (lo*size) ((cs.drop (lo'*size)).take (min (n-lo') (n-lo)*size)))))
 |_=>False
@[simp] theorem ybs{K:AV→zaa→Prop}(size id n lo z id' n' lo' z':Nat):zfA size (.os id n lo z) (.os id' n' lo' z') H K=zxA size id n lo z id' n' lo' z' H[id]? H K:=propext aO
@[simp] theorem zHk{K : AV → zaa → Prop}(size id n lo z id' n' lo' z' e s m : Nat)(cs : List AV): zxA size id n lo z id' n' lo' z' (some (.vec e s m cs)) H K = ((((id' = id ∧ n' = n ∧ m = n) ∧ z = size ∧ z' = size ∧ s = size) ∧ cs.all AV.known = true) ∧
        K (.int .i64 ((min (n-lo') (n-lo):Nat):Int)) (H.set id (.vec e s m (zds cs (lo*size) ((cs.drop (lo'*size)).take (min (n-lo') (n-lo)*size)))))):=propext aO
@[simp] theorem zHo(s:List UInt8)(lo hi:Option AV):zaN 0 0 (.str s) lo hi k=zbX hi s.length λh=>zbX lo 0 λl=>(l≤h∧h≤s.length)∧k (.str ((s.take h).drop l)):=propext aO
@[simp] theorem ydm(ed:Nat)(es:List (List AV))(t:Tok)(lo hi:Option AV):zaN 1 ed (.sl es t) lo hi k=zbX hi es.length λh=>zbX lo 0 λl=>(l≤h∧h≤es.length∧∀c∈es,c.length=ed)∧k (.sl ((es.take h).drop l) .none):=propext aO
@[simp] theorem yaW(b:Bool)(j:IntKind)(m n:Int):zac .add b (.int j m) (.int j n) k=k (.int j (j.wrap (m+n))):=by simp[zcy]
@[simp] theorem ydt(b:Bool)(j:IntKind)(m n:Int):zac .sub b (.int j m) (.int j n) k=k (.int j (j.wrap (m-n))):=by simp[zcy]
@[simp] theorem ycB(b:Bool)(j:IntKind)(m n:Int):zac .mul b (.int j m) (.int j n) k=k (.int j (j.wrap (m*n))):=by simp[zcy]
@[simp] theorem ybv(b:Bool)(j:IntKind)(m n:Int):zac .eql b (.int j m) (.int j n) k=k (.bool (m == n)):=by simp[zcy]
@[simp] theorem ycE(b:Bool)(j:IntKind)(m n:Int):zac .neq b (.int j m) (.int j n) k=k (.bool (m != n)):=by simp[zcy]
@[simp] theorem yco(b:Bool)(j:IntKind)(m n:Int):zac .lss b (.int j m) (.int j n) k=k (.bool (decide (m<n))):=by simp[zcy]
@[simp] theorem yb9(b:Bool)(j:IntKind)(m n:Int):zac .leq b (.int j m) (.int j n) k=k (.bool (decide (m≤n))):=by simp[zcy]
@[simp] theorem ybH(b:Bool)(j:IntKind)(m n:Int):zac .gtr b (.int j m) (.int j n) k=k (.bool (decide (m>n))):=by simp[zcy]
@[simp] theorem ybG(b:Bool)(j:IntKind)(m n:Int):zac .geq b (.int j m) (.int j n) k=k (.bool (decide (m≥n))):=by simp[zcy]
@[simp] theorem ybw(b:Bool)(s t:List UInt8):zac .eql b (.str s) (.str t) k=k (.bool (s == t)):=propext aO
@[simp] theorem ycF(b:Bool)(s t:List UInt8):zac .neq b (.str s) (.str t) k=k (.bool (!(s == t))):=rfl
@[simp] theorem yaX(b:Bool)(s t:List UInt8):zac .add b (.str s) (.str t) k=(s.length+t.length≤9223372036854775807∧k (.str (s++t))):=zcy ..
@[simp] theorem ybu(m n:Bool):zac .eql true (.bool m) (.bool n) k=k (.bool (m == n)):=by simp[zcy]
@[simp] theorem ycD(m n:Bool):zac .neq true (.bool m) (.bool n) k=k (.bool (!(m == n))):=by simp[zcy]
@[simp] theorem ycR(b:Bool):aUn .not (.bool b) k=k (.bool (!b)):=rfl
@[simp] theorem ycC(j:IntKind)(n:Int):aUn .neg (.int j n) k=k (.int j (j.wrap (0-n))):=rfl
@[simp] theorem zHj(j i:IntKind)(n:Int):za8 j (.int i n) k=k (.int j (j.wrap n)):=propext aO
@[simp] theorem ybq(s:List UInt8):zea (.str s) k=k (.str s):=propext aO
@[simp] theorem ybx(v:AV)(vs:List AV):zaE (.tup (v::vs)) 0 k=k v:=propext aO
@[simp] theorem ybz(v:AV)(vs:List AV)(i:Nat):zaE (.tup (v::vs)) (i+1) k=zaE (.tup vs) i k:=by simp[zaE]
@[simp] theorem ybo(f:Nat)(caps:List AV):zcN f caps k=(caps.all AV.isB=true∧k (.fn f caps)):=propext aO
@[simp] theorem ydi(v:AV):zaF [v] k=k v:=propext aO
@[simp] theorem ydj(v u:AV)(vs:List AV):zaF (v::u::vs) k=((v::u::vs).all AV.isV=true∧k (.tup (v::u::vs))):=propext aO
end


section
variable {H:zaa} {K:AV→zaa→Prop} {k:AV→Prop} {kh:zaa→Prop}
@[simp] theorem ydK(i:Nat):(AV.map i).cs?=some [.map i]:=rfl
@[simp] theorem ycA:zec H K=K (.map H.length) (H++[.map []]):=propext aO
def zgw(zero:AV)(ok:Bool)(s:List UInt8)(b:Option AB)(k:AV→Prop):Prop:=
 match b with
 | some (.map kvs)=>k (match ok with
   |true=>.tup [(zbY kvs s).getD zero,.bool (zbY kvs s).isSome]
   |false=>(zbY kvs s).getD zero)
 |_=>False
@[simp] theorem yce(z:AV)(ok:Bool)(id:Nat)(s:List UInt8):zdU z ok (.map id) (.str s) H k=zgw z ok s H[id]? k:=by unfold zdU zgw;rfl
@[simp] theorem ycb(z:AV)(s:List UInt8)(kvs:List (List UInt8×AV)):zgw z false s (some (.map kvs)) k=k ((zbY kvs s).getD z):=propext aO
@[simp] theorem ycc(z:AV)(s:List UInt8)(kvs:List (List UInt8×AV)):zgw z true s (some (.map kvs)) k=k (.tup [(zbY kvs s).getD z,.bool (zbY kvs s).isSome]):=propext aO
def zgy(id:Nat)(s:List UInt8)(x:AV)(b:Option AB)(H:zaa)(kh:zaa→Prop):Prop:=
 match b with
 | some (.map kvs)=>(match x with
   |.tup _=>False
   |x=>kh (H.set id (.map (zcQ kvs s x))))
 |_=>False
@[simp] theorem yct(id:Nat)(s:List UInt8)(x:AV):zc9 (.map id) (.str s) x H kh=zgy id s x H[id]? H kh:=by unfold zc9 zgy;rfl
@[simp] theorem ycp(id:Nat)(s:List UInt8)(b:Bool)(kvs:List (List UInt8×AV)):zgy id s (.bool b) (some (.map kvs)) H kh=kh (H.set id (.map (zcQ kvs s (.bool b)))):=propext aO
@[simp] theorem ycr(id:Nat)(s:List UInt8)(j:IntKind)(n:Int)(kvs:List (List UInt8×AV)):zgy id s (.int j n) (some (.map kvs)) H kh=kh (H.set id (.map (zcQ kvs s (.int j n)))):=propext aO
@[congr] theorem ycz{H':zaa}(hH:H=H'):zec H K=zec H' K:=by rw[hH]
@[congr] theorem ycd{H':zaa}{z:AV}{ok:Bool}{m m' x x':AV}(hm:m=m')(hx:x=x')(hH:H=H'):zdU z ok m x H k=zdU z ok m' x' H' k:=by rw[hm,hx,hH]
@[congr] theorem yca{z:AV}{ok:Bool}{s s':List UInt8}{b b':Option AB}(hs:s=s')(hb:b=b'):zgw z ok s b k=zgw z ok s' b' k:=by rw[hs,hb]
@[congr] theorem ycs{H':zaa}{m m' y y' x x':AV}(hm:m=m')(hy:y=y')(hx:x=x')(hH:H=H'):zc9 m y x H kh=zc9 m' y' x' H' kh:=by rw[hm,hy,hx,hH]
@[congr] theorem ycq{H':zaa}{id id':Nat}{s s':List UInt8}{x x':AV}{b b':Option AB}(hi:id=id')(hs:s=s')(hx:x=x')(hb:b=b')(hH:H=H'):zgy id s x b H kh=zgy id' s' x' b' H' kh:=by rw[hi,hs,hx,hb,hH]
end

section
variable {H H':zaa} {K:AV→zaa→Prop} {k:AV→Prop} {kh:zaa→Prop}
@[congr] theorem yb0{b b':Bool}{p q:Prop}(h:b=b'):aIf b p q=aIf b' p q:=by rw[h]
@[congr] theorem ydu{c c':AV}{p q:Prop}(h:c=c'):zag c p q=zag c' p q:=by rw[h]
@[congr] theorem ybO{c c':AV}{w:Bool}{p q:Prop}(h:c=c'):zdC c w p q=zdC c' w p q:=by rw[h]
@[congr] theorem ybI{c c':AV}{w:Bool}{p:(AV→zaa→Prop)→Prop}{J:AV→zaa→Prop}(h:c=c')(hH:H=H'):zad c w H p J=zad c' w H' p J:=by rw[h,hH]
@[congr] theorem ycS{c c' a a' b b':AV}(h:c=c')(ha:a=a')(hb:b=b'):zam c a b k=zam c' a' b' k:=by rw[h,ha,hb]
@[congr] theorem ya6{x x':AV}(h:x=x')(hH:H=H'):zav x H K=zav x' H' K:=by rw[h,hH]
@[congr] theorem ycG{x x':List AV}(h:x=x')(hH:H=H'):zaz x H K=zaz x' H' K:=by rw[h,hH]
@[congr] theorem ybk{g:Bool}{n n' o o':Nat}{c c':List AV}(hn:n=n')(ho:o=o')(hc:c=c'):zbA g n o c k=zbA g n' o' c' k:=by rw[hn,ho,hc]
@[congr] theorem yck{g:Bool}{n:Nat}{x x':AV}(h:x=x')(hH:H=H'):zae g n x H k=zae g n x' H' k:=by rw[h,hH]
@[congr] theorem ycf{g:Bool}{n o o':Nat}{b b':Option AB}(ho:o=o')(h:b=b'):zgx g n o b k=zgx g n o' b' k:=by rw[h,ho]
@[congr] theorem ydq{n:Nat}{a a' x x':AV}(ha:a=a')(h:x=x')(hH:H=H'):zan n a x H kh=zan n a' x' H' kh:=by rw[ha,h,hH]
@[congr] theorem ydo{n o o' i i':Nat}{x x':Option (List AV)}{b b':Option AB}(ho:o=o')(hi:i=i')(h:x=x')(hb:b=b')(hH:H=H'):zfD n o i x b H kh=zfD n o' i' x' b' H' kh:=by rw[ho,hi,h,hb,hH]
@[congr] theorem ybC{n:Nat}{x x':AV}(h:x=x'):zaf n x k=zaf n x' k:=by rw[h]
@[congr] theorem ybB{g:Bool}{n o:Nat}{x x':AV}(h:x=x'):zeb g n o x k=zeb g n o x' k:=by rw[h]
@[congr] theorem ybU{n:Nat}{x x' i i':AV}(h:x=x')(hi:i=i'):zak n x i k=zak n x' i' k:=by rw[h,hi]
@[congr] theorem ybY{x x' i i':AV}(h:x=x')(hi:i=i'):zbS x i k=zbS x' i' k:=by rw[h,hi]
@[congr] theorem yb3{u:Nat}{x x':AV}(h:x=x'):zah u x k=zah u x' k:=by rw[h]
@[congr] theorem ya3{x x':Option AV}{d d':Nat}{q:Nat→Prop}(h:x=x')(hd:d=d'):zbX x d q=zbX x' d' q:=by rw[h,hd]
@[congr] theorem ydk{u e:Nat}{x x':AV}{l l' h h':Option AV}(hx:x=x')(hl:l=l')(hh:h=h'):zaN u e x l h k=zaN u e x' l' h' k:=by rw[hx,hl,hh]
@[congr] theorem ya2{o:BinOp}{b:Bool}{x x' y y':AV}(h:x=x')(hy:y=y'):zac o b x y k=zac o b x' y' k:=by rw[h,hy]
@[congr] theorem ydx{o:UnOp}{x x':AV}(h:x=x'):aUn o x k=aUn o x' k:=by rw[h]
@[congr] theorem ybr{o:IntKind}{x x':AV}(h:x=x'):za8 o x k=za8 o x' k:=by rw[h]
@[congr] theorem ybp{x x':AV}(h:x=x'):zea x k=zea x' k:=by rw[h]
@[congr] theorem yby{x x':AV}{i:Nat}(h:x=x'):zaE x i k=zaE x' i k:=by rw[h]
@[congr] theorem ybn{f:Nat}{x x':List AV}(h:x=x'):zcN f x k=zcN f x' k:=by rw[h]
@[congr] theorem ycM{x x':AV}(h:x=x'):zbf x k=zbf x' k:=by rw[h]
@[congr] theorem ybh{z:List AV}{p:List (Nat×Nat)}{x x':List (Nat×AV)}(h:x=x'):zaq z p x k=zaq z p x' k:=by rw[h]
@[congr] theorem ybg{e:Nat}{z:List AV}{l:Nat}{x x':List (Nat×AV)}(h:x=x'):zaw e z l x k=zaw e z l x' k:=by rw[h]
@[congr] theorem ycw{b:Nat}{z:List AV}{l l' c c':AV}(h:l=l')(hc:c=c')(hH:H=H'):zbp b z l c H K=zbp b z l' c' H' K:=by rw[h,hc,hH]
@[congr] theorem ya1{e s b:Nat}{x x' y y':AV}(h:x=x')(hy:y=y')(hH:H=H'):zax e s b x y H K=zax e s b x' y' H' K:=by rw[h,hy,hH]
@[congr] theorem yaY{e s b:Nat}{x x':AV}{y y':List (List AV)}(h:x=x')(hy:y=y')(hH:H=H'):zaK e s b x y H K=zaK e s b x' y' H' K:=by rw[h,hy,hH]
@[congr] theorem ydn{x x':AV}{q:List (List AV)→Prop}(h:x=x'):zaM x q=zaM x' q:=by rw[h]
@[congr] theorem yaU{P:Program}{f:FuncId}{x x':List AV}(h:x=x')(hH:H=H'):ACalls P f x H K=ACalls P f x' H' K:=by rw[h,hH]
@[congr] theorem ybi{P:Program}{g g':AV}{x x':List AV}(hg:g=g')(h:x=x')(hH:H=H'):aCallV P g x H K=aCallV P g' x' H' K:=by rw[hg,h,hH]
@[congr] theorem ycY{p:(AV→zaa→Prop)→Prop}:zab H p k=zab H p k:=rfl
@[congr] theorem yaV{n:Nat}{r r':AV}(hr:r=r')(hH:H=H'):Out n K r H=Out n K r' H':=by rw[hr,hH]
end
section
variable {H:zaa} {k:AV→Prop}
theorem zcr{p:(AV→Prop)→Prop}(h:∀q:AV→Prop,p q↔∃v,p (λu=>u=v)∧q v):zab H (λK'=>p λv=>K' v H) k=p k:=by unfold zab;rw[eq_iff_iff,h k];simp only[and_true]
@[simp] theorem yc6(x:AV):zab H (λK'=>K' x H) k=k x:=by simp[zab]
theorem zqm(g:Bool)(n o:Nat)(cs:List AV)(q:AV→Prop):zbA g n o cs q↔∃v,zbA g n o cs (λu=>u=v)∧q v:=by
 unfold zbA;split
 ·constructor
  ·rintro⟨h1,h2⟩;exact⟨_,⟨h1,rfl⟩,h2⟩
  ·rintro⟨v,⟨h1,rfl⟩,h2⟩;exact⟨h1,h2⟩
 ·split <;> simp
theorem zHB{a:Prop}{p:Prop}{p':AV→Prop}{q:AV→Prop}(h:p↔∃v,p' v∧q v):(a∧p)↔∃v,(a∧p' v)∧q v:=by
 constructor
 ·rintro⟨h1,h2⟩;obtain⟨v,h3,h4⟩:=h.1 h2;exact⟨v,⟨h1,h3⟩,h4⟩
 ·rintro⟨v,⟨h1,h3⟩,h4⟩;exact⟨h1,h.2 ⟨v,h3,h4⟩⟩
@[simp] theorem yda(g:Bool)(n:Nat)(a:AV):zab H (λK'=>zae g n a H λv=>K' v H) k=zae g n a H k:=zcr (p:=λq=>zae g n a H q) λq=>by
 unfold zae;split
 ·exact zqm _ _ _ _ q
 ·simp
@[simp] theorem ych(g:Bool)(n id off:Nat):zaj g n (.ptr id off) H k=zae g n (.ptr id off) H k:=propext aO
@[simp] theorem yci(g:Bool)(n:Nat)(cs:List AV):zaj g n (.view cs) H k=zae g n (.view cs) H k:=propext aO
@[simp] theorem ydb(g:Bool)(n:Nat)(a:AV):zab H (λK'=>zaj g n a H λv=>K' v H) k=zaj g n a H k:=zcr (p:=λq=>zaj g n a H q) λq=>by
 unfold zaj;split
 ·simp
 unfold zae;split
 ·exact zqm _ _ _ _ q
 ·simp
@[simp] theorem ydd(b:Bool)(o:BinOp)(x:AV):zab H (λK'=>zda b o x λv=>K' v H) k=zda b o x k:=zcr (p:=λq=>zda b o x q) λq=>by
 unfold zda;refine zHB ?_;split
 ·split <;> simp
 ·split <;> simp
 ·simp
@[simp] theorem ycL:zda true .neq .nili k=k (.bool false):=by simp[zda]
@[simp] theorem ycJ:zda true .neq .ifc k=k (.bool true):=by simp[zda]
@[simp] theorem ycK:zda true .eql .nili k=k (.bool true):=by simp[zda]
@[simp] theorem ycI:zda true .eql .ifc k=k (.bool false):=by simp[zda]
@[simp] theorem yde(c a b:AV):zab H (λK'=>zam c a b λv=>K' v H) k=zam c a b k:=zcr (p:=λq=>zam c a b q) λq=>by unfold zam;split <;> simp
@[simp] theorem yc4(o:Nat)(a:AV):zab H (λK'=>zaf o a λv=>K' v H) k=zaf o a k:=zcr (p:=λq=>zaf o a q) λq=>by unfold zaf;split <;> simp
@[simp] theorem yc5(g:Bool)(n o:Nat)(a:AV):zab H (λK'=>zeb g n o a λv=>K' v H) k=zeb g n o a k:=zcr (p:=λq=>zeb g n o a q) λq=>by
 unfold zeb;split
 ·exact zqm _ _ _ _ q
 ·simp
@[simp] theorem yc7(n:Nat)(x i:AV):zab H (λK'=>zak n x i λv=>K' v H) k=zak n x i k:=zcr (p:=λq=>zak n x i q) λq=>by unfold zak;split <;> simp
@[simp] theorem yc8(x i:AV):zab H (λK'=>zbS x i λv=>K' v H) k=zbS x i k:=zcr (p:=λq=>zbS x i q) λq=>by
 unfold zbS;split
 ·constructor
  ·rintro⟨h1,h2⟩;exact⟨_,⟨h1,rfl⟩,h2⟩
  ·rintro⟨v,⟨h1,rfl⟩,h2⟩;exact⟨h1,h2⟩
 ·simp
@[simp] theorem yc9(u:Nat)(x:AV):zab H (λK'=>zah u x λv=>K' v H) k=zah u x k:=zcr (p:=λq=>zah u x q) λq=>by unfold zah;split <;> simp
@[simp] theorem ydg(o:UnOp)(x:AV):zab H (λK'=>aUn o x λv=>K' v H) k=aUn o x k:=zcr (p:=λq=>aUn o x q) λq=>by unfold aUn;split <;> simp
@[simp] theorem yc0(o:IntKind)(x:AV):zab H (λK'=>za8 o x λv=>K' v H) k=za8 o x k:=zcr (p:=λq=>za8 o x q) λq=>by unfold za8;split <;> simp
@[simp] theorem yc2(x:AV):zab H (λK'=>zea x λv=>K' v H) k=zea x k:=zcr (p:=λq=>zea x q) λq=>by unfold zea;split <;> simp
@[simp] theorem yc1(x:AV):zab H (λK'=>zfz x λv=>K' v H) k=zfz x k:=zcr (p:=λq=>zfz x q) λq=>by
 unfold zfz;split
 ·split <;> simp
 ·simp
 ·simp
@[simp] theorem ydc(x:AV):zab H (λK'=>zbf x λv=>K' v H) k=zbf x k:=zcr (p:=λq=>zbf x q) λq=>by unfold zbf;split <;> simp
@[simp] theorem yc3(x:AV)(i:Nat):zab H (λK'=>zaE x i λv=>K' v H) k=zaE x i k:=zcr (p:=λq=>zaE x i q) λq=>by
 unfold zaE;split
 ·split <;> simp
 ·simp
@[simp] theorem ycW(z:List AV)(ps:List (Nat×Nat))(x:List (Nat×AV)):zab H (λK'=>zaq z ps x λv=>K' v H) k=zaq z ps x k:=zcr (p:=λq=>zaq z ps x q) λq=>by unfold zaq;split <;> simp
@[simp] theorem ycX(e:Nat)(z:List AV)(l:Nat)(x:List (Nat×AV)):zab H (λK'=>zaw e z l x λv=>K' v H) k=zaw e z l x k:=zcr (p:=λq=>zaw e z l x q) λq=>by
 unfold zaw;split
 ·split <;> simp
 ·simp
@[simp] theorem ycV(o:BinOp)(b:Bool)(x y:AV):zab H (λK'=>zac o b x y λv=>K' v H) k=zac o b x y k:=zcr (p:=λq=>zac o b x y q) λq=>by unfold zac;split <;> simp
@[simp] theorem ycZ(f:Nat)(x:List AV):zab H (λK'=>zcN f x λv=>K' v H) k=zcN f x k:=zcr (p:=λq=>zcN f x q) λq=>by
 unfold zcN;constructor
 ·rintro⟨h1,h2⟩;exact⟨_,⟨h1,rfl⟩,h2⟩
 ·rintro⟨v,⟨h1,rfl⟩,h2⟩;exact⟨h1,h2⟩
end
@[simp] theorem zIC(A l:zaa):(A++l)[A.length]?=l[0]?:=by rw[List.getElem?_append_right (ac _)];simp
@[simp] theorem zID(A l:zaa)(k:Nat):(A++l)[A.length+k]?=l[k]?:=by rw[List.getElem?_append_right (by omega)];congr 1;omega
@[simp] theorem zKy(A l:zaa)(x:AB):(A++l).set A.length x=A++l.set 0 x:=by rw[ah _ _ (ac _)];simp
@[simp] theorem zAQ(A l:zaa)(k:Nat)(x:AB):(A++l).set (A.length+k) x=A++l.set k x:=by rw[ah _ _ (by omega)];congr 2;omega
@[simp] theorem ydX(A l:zaa)(i:Nat)(y:AB):(A.set i y++l)[A.length]?=l[0]?:=by have:=zIC (A.set i y) l;rwa [bE]at this
@[simp] theorem ydY(A l:zaa)(i:Nat)(y:AB)(k:Nat):(A.set i y++l)[A.length+k]?=l[k]?:=by have:=zID (A.set i y) l k;rwa [bE]at this
@[simp] theorem yeG(A l:zaa)(i:Nat)(x y:AB):(A.set i y++l).set A.length x=A.set i y++l.set 0 x:=by have:=zKy (A.set i y) l x;rwa [bE]at this
@[simp] theorem yeH(A l:zaa)(i:Nat)(y:AB)(k:Nat)(x:AB):(A.set i y++l).set (A.length+k) x=A.set i y++l.set k x:=by have:=zAQ (A.set i y) l k x;rwa [bE]at this
theorem zbK{H J:zaa}{id:Nat}{b:AB}(h:H[id]?=some b):(H++J)[id]?=some b:=by rw[List.getElem?_append_left (List.getElem?_eq_some_iff.1 h).1];exact h
theorem zbm{H:zaa}{id:Nat}{b:AB}(h:H[id]?=some b):id<H.length:=(List.getElem?_eq_some_iff.1 h).1
theorem zeB{H J:zaa}{id:Nat}{b:AB}(x:AB)(h:H[id]?=some b):(H++J).set id x=H.set id x++J:=aM _ _ (zbm h)
theorem zdO{H:zaa}{id:Nat}{b:AB}(x:AB)(h:H[id]?=some b):(H.set id x)[id]?=some x:=List.getElem?_set_self (zbm h)

theorem zay{n:Int}(h1:-9223372036854775808≤n)(h2:n≤9223372036854775807):IntKind.i64.wrap n=n:=IntWalk.i64_in n ⟨h1,h2⟩

theorem HSc.set{H:zaa}{id:Nat}{b:AB}(h:HSc H)(hb:b.sc H.length=true):HSc (H.set id b):=by
 intro x hx;rw[bE];rcases bM hx with h1|h1
 ·exact h x h1
 ·rw[h1];exact hb
theorem zcu{n m:Nat}(h:n≤m):∀{a:AV},a.sc n=true→a.sc m=true:=by
 have hB:∀{a:AV},a.scB n=true→a.scB m=true:=by
  intro a ha;cases a with
  |sl es t=>cases t <;> simp_all [AV.scB];omega
  |_=>simp_all [AV.scB] <;> omega
 have hA:∀{a:AV},a.scA n=true→a.scA m=true:=by
  intro a ha;cases a with
  |fn f caps=>simp only[AV.scA,am]at ha ⊢;exactλx hx=>hB (ha x hx)
  |_=>simp only[AV.scA]at ha ⊢;exact hB ha
 have hV:∀{a:AV},a.scV n=true→a.scV m=true:=by
  intro a ha;cases a with
  |agg caps=>simp only[AV.scV,am]at ha ⊢;exactλx hx=>hA (ha x hx)
  |_=>simp only[AV.scV]at ha ⊢;exact hA ha
 intro a ha;cases a with
 |tup caps=>simp only[AV.sc,am]at ha ⊢;exactλx hx=>hV (ha x hx)
 |_=>simp only[AV.sc]at ha ⊢;exact hV ha
theorem Back.here{n0:Nat}{Inv:List AV→zaa→Prop}{F:List AV}{H:zaa}(hn:n0≤H.length)(hsc:HSc H)(hs:F.all (AV.sc H.length)=true)(h:Inv F H):Back n0 Inv F H:=by have:=Back.same (J:=[]) hn hsc hs h;simpa using this
theorem zsq{n m:Nat}(h:n≤m){a:AV}(ha:a.scA n=true):a.scA m=true:=by
 cases a with
 |agg cs=>rfl
 |tup vs=>rfl
 |fn f caps=>exact zcu h (a:=.fn f caps) ha
 |sl es t=>exact zcu h (a:=.sl es t) ha
 |ptr i o=>exact zcu h (a:=.ptr i o) ha
 |ms i o l c=>exact zcu h (a:=.ms i o l c) ha
 |ov i n=>exact zcu h (a:=.ov i n) ha
 |vp i n o=>exact zcu h (a:=.vp i n o) ha
 |os i n l e=>exact zcu h (a:=.os i n l e) ha
 |map i=>exact zcu h (a:=.map i) ha
 |_=>rfl
theorem zKq{n m:Nat}(h:n≤m){a:AV}(ha:a.scV n=true):a.scV m=true:=by
 cases a with
 |tup vs=>rfl
 |agg cs=>exact zcu h (a:=.agg cs) ha
 |fn f caps=>exact zcu h (a:=.fn f caps) ha
 |sl es t=>exact zcu h (a:=.sl es t) ha
 |ptr i o=>exact zcu h (a:=.ptr i o) ha
 |ms i o l c=>exact zcu h (a:=.ms i o l c) ha
 |ov i n=>exact zcu h (a:=.ov i n) ha
 |vp i n o=>exact zcu h (a:=.vp i n o) ha
 |os i n l e=>exact zcu h (a:=.os i n l e) ha
 |map i=>exact zcu h (a:=.map i) ha
 |_=>rfl
theorem zGX{n m:Nat}(h:n≤m){b:AB}(hb:b.sc n=true):b.sc m=true:=by
 cases b with
 |cells cs=>simp only[AB.sc,am]at hb ⊢;exactλx hx=>zsq h (hb x hx)
 |perm e s n=>rfl
 |gap=>rfl
 |dead=>rfl
 |fact φ=>rfl
 |frz e s n=>rfl
 |map kvs=>simp only[AB.sc,am]at hb ⊢;exactλx hx=>zKq h (hb x hx)
 |bld t cs=>simp only[AB.sc,am]at hb ⊢;exactλx hx=>zsq h (hb x hx)
 |vec e s n cs=>simp only[AB.sc,am]at hb ⊢;exactλx hx=>zsq h (hb x hx)
theorem HSc.append{A J:zaa}(hA:HSc A)(hJ:J.all (AB.sc (A.length+J.length))=true):HSc (A++J):=by
 intro x hx;rw[aw];rcases aX.1 hx with h1|h1
 ·exact zGX (by omega) (hA x h1)
 ·exact am.1 hJ x h1
end
end Go.Proofs.YtdmamdnkcefmmaaGreatDoor
