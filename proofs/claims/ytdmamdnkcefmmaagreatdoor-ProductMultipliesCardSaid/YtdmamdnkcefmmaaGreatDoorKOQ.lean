import Derived.Test.YtdmamdnkcefmmaaGreatDoorKNum
import Derived.Test.YtdmamdnkcefmmaaGreatDoorProg
import Derived.KernelRfl
import Derived.Test.YtdmamdnkcefmmaaGreatDoorKGS8
import Derived.Test.YtdmamdnkcefmmaaGreatDoorKME
import Derived.Test.YtdmamdnkcefmmaaGreatDoorKGQ1
import Derived.Test.YtdmamdnkcefmmaaGreatDoorAbsQ1
import Derived.Test.YtdmamdnkcefmmaaGreatDoorKGJ
set_option linter.unusedSimpArgs false
set_option linter.unusedVariables false
set_option maxRecDepth 100000
namespace Go.Proofs.YtdmamdnkcefmmaaGreatDoor
section
variable (t0 t1 t3 t4 t5 t6 t7 t8 t9 t10 t11 t12 t13 t21 t22 t25 t26 t30 t31:AV) (H:zaa) (K:Kt) (Kb1 Kb2 Kb3 Kb4 Kb5 Kb6:Lt)
def zVt (_:Nat):List Bool:=[]
noncomputable def zVu:Code:=Tryz.f61.body.getD .skip
def zEh:Prop:=zay [(.bool false),.snil,.snil] H λt2 H=>zac .lss false t0 (.int .i64 0) λt4=>ACalls tP zhK [t0] H λt6 H=>zau 1 [(.int .u32 0)] 1 [(0,(.int .u32 1))] λt7=>zaq [(.bool false),.snil,.snil] [(0,1),(1,1),(2,1)] [(0,t4),(1,t6),(2,t7)] λt8=>ACalls tP zeW [t8] H λt9 H=>zao 3 t2 t9 H λH=>zae true 3 t2 H λr0=>K r0 H
def zVK (_:Nat):List Bool:=[]
noncomputable def zVL:Code:=Tryz.f70.body.getD .skip
def zve:Prop:=zat t0 H λt2 H=>zat t1 H λt3 H=>zay [(.bool false),.snil,.snil] H λt4 H=>zab H (λK'=>zaj true 3 t2 H (K' · H)) λt7=>zaA H (λH K'=>ACalls tP zes [t7] H K') λt8=>zab H (λK'=>zaj true 3 t3 H (K' · H)) λt9=>zaA H (λH K'=>ACalls tP zes [t9] H K') λt10=>zay [(.bool false),.snil,.snil] H λt5 H=>zay [(.bool false),.snil,.snil] H λt6 H=>zao 3 t5 t8 H λH=>zao 3 t6 t10 H λH=>zab H (λK'=>zaf 0 t5 (K' · H)) λt11=>zab H (λK'=>zaj false 1 t11 H (K' · H)) λt12=>zab H (λK'=>zaf 0 t6 (K' · H)) λt13=>zab H (λK'=>zaj false 1 t13 H (K' · H)) λt14=>zab H (λK'=>zac .neq true t12 t14 (K' · H)) λt15=>zab H (λK'=>zaf 1 t5 (K' · H)) λt16=>zab H (λK'=>zaj false 1 t16 H (K' · H)) λt17=>zab H (λK'=>zaf 1 t6 (K' · H)) λt18=>zab H (λK'=>zaj false 1 t18 H (K' · H)) λt19=>zaA H (λH K'=>ACalls tP zdN [t17,t19] H K') λt20=>zab H (λK'=>zaf 2 t5 (K' · H)) λt21=>zab H (λK'=>zaj false 1 t21 H (K' · H)) λt22=>zab H (λK'=>zaf 2 t6 (K' · H)) λt23=>zab H (λK'=>zaj false 1 t23 H (K' · H)) λt24=>zaA H (λH K'=>ACalls tP zdN [t22,t24] H K') λt25=>zab H (λK'=>zaq [(.bool false),.snil,.snil] [(0,1),(1,1),(2,1)] [(0,t15),(1,t20),(2,t25)] (K' · H)) λt26=>zaA H (λH K'=>ACalls tP zeW [t26] H K') λt27=>zao 3 t4 t27 H λH=>zae true 3 t4 H λr0=>K r0 H
def zWg (_:Nat):List Bool:=[]
noncomputable def zWh:Code:=Tryz.f77.body.getD .skip
def zEw:Prop:=zat t0 H λt2 H=>zat t1 H λt3 H=>zay [(.bool false),.snil,.snil] H λt4 H=>zab H (λK'=>zaj true 3 t2 H (K' · H)) λt5=>zaA H (λH K'=>ACalls tP zes [t5] H K') λt6=>zab H (λK'=>zaj true 3 t3 H (K' · H)) λt7=>zaA H (λH K'=>ACalls tP zes [t7] H K') λt8=>zaA H (λH K'=>ACalls tP zqd [t6,t8] H K') λt9=>zaA H (λH K'=>ACalls tP zeW [t9] H K') λt10=>zao 3 t4 t10 H λH=>zae true 3 t4 H λr0=>K r0 H
def zLn (_:Nat):List Bool:=[]
noncomputable def zLo:Code:=Tryz.f113.body.getD .skip
def zAR:Prop:=zac .lss false t0 (.int .i64 0) λt4=>zag t4 (za0 .u64 t0 λt6=>aUn .neg t6 λt7=>ACalls tP zgq [t7] H λt8 H=>K t8 H) (za0 .u64 t0 λt10=>ACalls tP zgq [t10] H λt11 H=>K t11 H)
def zLq (_:Nat):List Bool:=[]
noncomputable def zLr:Code:=Tryz.f114.body.getD .skip
def zsj:Prop:=zat t0 H λt1 H=>zay [(.bool false),.snil,.snil] H λt2 H=>zae true 3 t1 H λt4=>ACalls tP zjC [t4] H λt5 H=>zay [(.bool false),.snil,.snil] H λt3 H=>zao 3 t3 t5 H λH=>zaf 0 t3 λt6=>zae false 1 t6 H λt7=>zaf 1 t3 λt8=>zae false 1 t8 H λt9=>zaf 2 t3 λt10=>zae false 1 t10 H λt11=>zaq [(.bool false),.snil,.snil] [(0,1),(1,1),(2,1)] [(0,t7),(1,t9),(2,t11)] λt12=>zao 3 t2 t12 H λH=>zae true 3 t2 H λr0=>K r0 H
def zLC (_:Nat):List Bool:=[]
noncomputable def zLD:Code:=Tryz.f120.body.getD .skip
def zsn:Prop:=zat t0 H λt1 H=>zay [(.bool false),.snil,.snil] H λt2 H=>zab H (λK'=>zaf 1 t1 (K' · H)) λt5=>zab H (λK'=>zaj false 1 t5 H (K' · H)) λt6=>zaA H (λH K'=>ACalls tP zjE [t6] H K') λt7=>zab H (λK'=>zaf 2 t1 (K' · H)) λt8=>zab H (λK'=>zaj false 1 t8 H (K' · H)) λt9=>zaA H (λH K'=>ACalls tP zjE [t9] H K') λt10=>zab H (λK'=>K' t7 H) λt3=>zab H (λK'=>K' t10 H) λt4=>zah 1 t3 λt12=>zac .eql false t12 (.int .i64 0) λt13=>zad t13 false H (λK'=>K' t4 H) λt15 H=>zad t13 false H (λK'=>zah 1 t15 (K' · H)) λt16 H=>zad t13 false H (λK'=>zac .eql false t16 (.int .i64 0) (K' · H)) λt17 H=>zam t13 (.bool true) t17 λt18=>zag t18 (zau 1 [(.int .u32 0)] 1 [(0,(.int .u32 1))] λt19=>zaq [(.bool false),.snil,.snil] [(0,1),(1,1),(2,1)] [(2,t19)] λt20=>zao 3 t2 t20 H λH=>zae true 3 t2 H λr0=>K r0 H) (zaf 0 t1 λt21=>zae false 1 t21 H λt22=>zaq [(.bool false),.snil,.snil] [(0,1),(1,1),(2,1)] [(0,t22),(1,t3),(2,t4)] λt25=>zao 3 t2 t25 H λH=>zae true 3 t2 H λr0=>K r0 H)
def zfO:Nat→List Bool | 5=>rl false [0,2,3,1,19,2,50] | 9=>rl false [0,2,3,3,17,2,3,2,45] | _=>[]
noncomputable def zsq:Code:=Tryz.f121.body.getD .skip
noncomputable def zLK:List ResultVar:=Tryz.f121.results.toList
def zlp:List AV:=t0::t1::ux 3 (t5::ux 19 (t25::t26::ux 50 []))
def zAY:List Bool:=zfO 5
noncomputable def zsr:Code:=zar [1,1,1,0,1,0,0] zsq
def zAV:AExit→List AV→zaa→Prop:=zas tP zfO [1,1,1,0,1,0] zsq (zaz tP zLK K)
def zAW:Prop:=ALoop tP zsr (zAV K) (zlp t0 t1 t5 t25 t26) H
def zix:List AV:=t0::t1::ux 3 (t5::t6::t7::ux 17 (t25::t26::ux 3 (t30::t31::ux 45 [])))
def zLI:List Bool:=zfO 9
noncomputable def zLF:Code:=zar [1,1,0,0,1,1,0,1,0,0] zsr
def zLE:AExit→List AV→zaa→Prop:=zas tP zfO [1,1,0,0,1,1,0,1,0] zsr (zbL zAY Kb5 (zAV K))
def zAX:Prop:=ALoop tP zLF (zLE K Kb5) (zix t0 t1 t5 t6 t7 t25 t26 t30 t31) H
def zsp (t0 t1 t5 t6 t7 t25 t26 t30 t31:AV) (H:zaa) (K:Kt) (Kb5:Lt) (Kb9:Lt):Prop:=zac .lss false t31 t30 λt32=>zag t32 (zab H (λK'=>K' t0 H) λt34=>zab H (λK'=>K' t6 H) λt35=>zab H (λK'=>zak 1 t34 t35 (K' · H)) λt36=>zab H (λK'=>zaj false 1 t36 H (K' · H)) λt37=>zab H (λK'=>za0 .u64 t37 (K' · H)) λt38=>zab H (λK'=>K' t1 H) λt39=>zab H (λK'=>K' t31 H) λt40=>zab H (λK'=>zak 1 t39 t40 (K' · H)) λt41=>zab H (λK'=>zaj false 1 t41 H (K' · H)) λt42=>zab H (λK'=>za0 .u64 t42 (K' · H)) λt43=>zab H (λK'=>zac .mul false t38 t43 (K' · H)) λt44=>zab H (λK'=>K' t5 H) λt45=>zab H (λK'=>K' t6 H) λt46=>zab H (λK'=>K' t31 H) λt47=>zab H (λK'=>zac .add false t46 t47 (K' · H)) λt48=>zab H (λK'=>zak 1 t45 t48 (K' · H)) λt49=>zab H (λK'=>zaj false 1 t49 H (K' · H)) λt50=>zab H (λK'=>za0 .u64 t50 (K' · H)) λt51=>zab H (λK'=>zac .add false t44 t51 (K' · H)) λt52=>zab H (λK'=>K' t7 H) λt53=>zab H (λK'=>zac .add false t52 t53 (K' · H)) λt54=>zab H (λK'=>K' t54 H) λt9=>zac .add false t6 t31 λt58=>zac .rem false t9 (.int .u64 1000000000) λt60=>za0 .u32 t60 λt61=>zak 1 t5 t58 λt62=>zao 1 t62 t61 H λH=>zac .quo false t9 (.int .u64 1000000000) λt64=>zac .add false t31 (.int .i64 1) λt65=>Kb9 (zix t0 t1 t5 t6 t64 t25 t26 t30 t65) H) (zah 1 t1 λt69=>zac .add false t6 t69 λt70=>za0 .u32 t7 λt72=>zak 1 t5 t70 λt73=>zao 1 t73 t72 H λH=>zac .add false t26 (.int .i64 1) λt74=>Kb5 (zlp t0 t1 t5 t25 t74) H)
def zso:Prop:=zac .lss false t26 t25 λt27=>zag t27 (zah 1 t1 λt30=>zAX t0 t1 t5 t26 (.int .u64 0) t25 t26 t30 (.int .i64 0) H K Kb5) (ACalls tP zfw [t5] H λt76 H=>K t76 H)
def zlo:Prop:=zah 1 t0 λt11=>zac .eql false t11 (.int .i64 0) λt12=>zad t12 false H (λK'=>K' t1 H) λt14 H=>zad t12 false H (λK'=>zah 1 t14 (K' · H)) λt15 H=>zad t12 false H (λK'=>zac .eql false t15 (.int .i64 0) (K' · H)) λt16 H=>zam t12 (.bool true) t16 λt17=>zag t17 (K .snil H) (zah 1 t0 λt19=>zah 1 t1 λt21=>zac .add false t19 t21 λt22=>zbe 4 [(.int .u32 0)] t22 t22 H λt23 H=>zah 1 t0 λt25=>zAW t0 t1 t23 t25 (.int .i64 0) H K)
def zMc (_:Nat):List Bool:=[]
noncomputable def zMd:Code:=Tryz.f129.body.getD .skip
def zA8:Prop:=zat t0 H λt2 H=>zat t1 H λt3 H=>zay [(.bool false),.snil,.snil] H λt4 H=>zab H (λK'=>zaf 1 t2 (K' · H)) λt8=>zab H (λK'=>zaj false 1 t8 H (K' · H)) λt9=>zab H (λK'=>zaf 2 t3 (K' · H)) λt10=>zab H (λK'=>zaj false 1 t10 H (K' · H)) λt11=>zaA H (λH K'=>ACalls tP zdN [t9,t11] H K') λt12=>zab H (λK'=>zaf 1 t3 (K' · H)) λt13=>zab H (λK'=>zaj false 1 t13 H (K' · H)) λt14=>zab H (λK'=>zaf 2 t2 (K' · H)) λt15=>zab H (λK'=>zaj false 1 t15 H (K' · H)) λt16=>zaA H (λH K'=>ACalls tP zdN [t14,t16] H K') λt17=>zab H (λK'=>K' t12 H) λt5=>zab H (λK'=>K' t17 H) λt6=>zaf 2 t2 λt18=>zae false 1 t18 H λt19=>zaf 2 t3 λt20=>zae false 1 t20 H λt21=>ACalls tP zdN [t19,t21] H λt22 H=>zaf 0 t2 λt23=>zae false 1 t23 H λt24=>zaf 0 t3 λt25=>zae false 1 t25 H λt26=>zac .eql true t24 t26 λt27=>zag t27 (zab H (λK'=>zaf 0 t2 (K' · H)) λt28=>zab H (λK'=>zaj false 1 t28 H (K' · H)) λt29=>zab H (λK'=>K' t5 H) λt30=>zab H (λK'=>K' t6 H) λt31=>zaA H (λH K'=>ACalls tP zqy [t30,t31] H K') λt32=>zab H (λK'=>K' t22 H) λt33=>zab H (λK'=>zaq [(.bool false),.snil,.snil] [(0,1),(1,1),(2,1)] [(0,t29),(1,t32),(2,t33)] (K' · H)) λt34=>zao 3 t4 t34 H λH=>zae true 3 t4 H λr0=>K r0 H) (ACalls tP zjH [t5,t6] H λt37 H=>zac .geq false t37 (.int .i64 0) λt38=>zag t38 (zab H (λK'=>zaf 0 t2 (K' · H)) λt39=>zab H (λK'=>zaj false 1 t39 H (K' · H)) λt40=>zab H (λK'=>K' t5 H) λt41=>zab H (λK'=>K' t6 H) λt42=>zaA H (λH K'=>ACalls tP zyh [t41,t42] H K') λt43=>zab H (λK'=>K' t22 H) λt44=>zab H (λK'=>zaq [(.bool false),.snil,.snil] [(0,1),(1,1),(2,1)] [(0,t40),(1,t43),(2,t44)] (K' · H)) λt45=>zao 3 t4 t45 H λH=>zae true 3 t4 H λr0=>K r0 H) (zab H (λK'=>zaf 0 t3 (K' · H)) λt46=>zab H (λK'=>zaj false 1 t46 H (K' · H)) λt47=>zab H (λK'=>K' t6 H) λt48=>zab H (λK'=>K' t5 H) λt49=>zaA H (λH K'=>ACalls tP zyh [t48,t49] H K') λt50=>zab H (λK'=>K' t22 H) λt51=>zab H (λK'=>zaq [(.bool false),.snil,.snil] [(0,1),(1,1),(2,1)] [(0,t47),(1,t50),(2,t51)] (K' · H)) λt52=>zao 3 t4 t52 H λH=>zae true 3 t4 H λr0=>K r0 H))
def zMv (_:Nat):List Bool:=[]
noncomputable def zMw:Code:=Tryz.f132.body.getD .skip
def zsC:Prop:=zat t0 H λt1 H=>zaf 1 t1 λt4=>zae false 1 t4 H λt5=>zah 1 t5 λt6=>zac .eql false t6 (.int .i64 0) λt7=>zag t7 (K (.int .i64 0) H) (zaf 0 t1 λt9=>zae false 1 t9 H λt10=>zag t10 (K (.int .i64 (-1)) H) (K (.int .i64 1) H))
def zmD:Nat→List Bool | 6=>rl false [0,2,3,1,37] | _=>[]
noncomputable def ztE:Code:=Tryz.f172.body.getD .skip
noncomputable def zP4:List ResultVar:=Tryz.f172.results.toList
def zmE:List AV:=t0::t1::ux 3 (t5::ux 37 [])
def zP2:List Bool:=zmD 6
noncomputable def zP0:Code:=zar [1,1,0,1,0,0] ztE
def zPZ:AExit→List AV→zaa→Prop:=zas tP zmD [1,1,0,1,0] ztE (zaz tP zP4 K)
def zCw:Prop:=ALoop tP zP0 (zPZ K) (zmE t0 t1 t5) H
def ziG:Prop:=zac .geq false t5 (.int .i64 0) λt20=>zag t20 (zab H (λK'=>K' t0 H) λt24=>zab H (λK'=>K' t5 H) λt25=>zab H (λK'=>zak 1 t24 t25 (K' · H)) λt26=>zab H (λK'=>zaj false 1 t26 H (K' · H)) λt27=>zab H (λK'=>K' t1 H) λt28=>zab H (λK'=>K' t5 H) λt29=>zab H (λK'=>zak 1 t28 t29 (K' · H)) λt30=>zab H (λK'=>zaj false 1 t30 H (K' · H)) λt31=>zab H (λK'=>zac .lss false t27 t31 (K' · H)) λt32=>zab H (λK'=>K' t32 H) λt23=>zag t23 (K (.int .i64 (-1)) H) (zab H (λK'=>K' t0 H) λt34=>zab H (λK'=>K' t5 H) λt35=>zab H (λK'=>zak 1 t34 t35 (K' · H)) λt36=>zab H (λK'=>zaj false 1 t36 H (K' · H)) λt37=>zab H (λK'=>K' t1 H) λt38=>zab H (λK'=>K' t5 H) λt39=>zab H (λK'=>zak 1 t38 t39 (K' · H)) λt40=>zab H (λK'=>zaj false 1 t40 H (K' · H)) λt41=>zab H (λK'=>zac .gtr false t37 t41 (K' · H)) λt42=>zab H (λK'=>K' t42 H) λt33=>zag t33 (K (.int .i64 1) H) (zac .sub false t5 (.int .i64 1) λt22=>Kb6 (zmE t0 t1 t22) H))) (K (.int .i64 0) H)
def zmC:Prop:=zah 1 t0 λt7=>zah 1 t1 λt9=>zac .neq false t7 t9 λt10=>zag t10 (zah 1 t0 λt12=>zah 1 t1 λt14=>zac .lss false t12 t14 λt15=>zag t15 (K (.int .i64 (-1)) H) (K (.int .i64 1) H)) (zah 1 t0 λt17=>zac .sub false t17 (.int .i64 1) λt18=>zCw t0 t1 t18 H K)
def zl7:Nat→List Bool | 2=>rl false [0,1,2,1,11] | _=>[]
noncomputable def zs4:Code:=Tryz.f152.body.getD .skip
noncomputable def zN4:List ResultVar:=Tryz.f152.results.toList
def zl8:List AV:=t0::ux 2 (t3::ux 11 [])
def zN2:List Bool:=zl7 2
noncomputable def zN0:Code:=zar [1,1,0,0,0] zs4
def zNZ:AExit→List AV→zaa→Prop:=zas tP zl7 [1,1,0,0] zs4 (zaz tP zN4 K)
def zl9:Prop:=ALoop tP zN0 (zNZ K) (zl8 t0 t3) H
def zs3:Prop:=zac .gtr false t0 (.int .u64 0) λt5=>zag t5 (zac .rem false t0 (.int .u64 1000000000) λt10=>za0 .u32 t10 λt11=>zau 1 [(.int .u32 0)] 1 [(0,t11)] λt12=>zav za5 1 4 t3 t12 H λt13 H=>zac .quo false t0 (.int .u64 1000000000) λt7=>Kb2 (zl8 t7 t13) H) (K t3 H)
def zBB:Prop:=zl9 t0 .snil H K
def zN5 (_:Nat):List Bool:=[]
noncomputable def zN6:Code:=Tryz.f153.body.getD .skip
def zma:Prop:=zat t0 H λt1 H=>zay [(.bool false),.snil,.snil] H λt2 H=>zaf 1 t1 λt8=>zae false 1 t8 H λt9=>zah 1 t9 λt10=>zac .eql false t10 (.int .i64 0) λt11=>zag t11 (zau 1 [(.int .u32 0)] 1 [(0,(.int .u32 1))] λt12=>zaq [(.bool false),.snil,.snil] [(0,1),(1,1),(2,1)] [(2,t12)] λt13=>zao 3 t2 t13 H λH=>zae true 3 t2 H λr0=>K r0 H) (zaf 2 t1 λt14=>zae false 1 t14 H λt15=>ACalls tP zjO [t15] H λt16 H=>zag t16 (zae true 3 t1 H λt17=>zao 3 t2 t17 H λH=>zae true 3 t2 H λr0=>K r0 H) (zaf 1 t1 λt18=>zae false 1 t18 H λt19=>zaf 2 t1 λt20=>zae false 1 t20 H λt21=>ACalls tP zqB [t19,t21] H λt22 H=>ACalls tP zjO [t22] H λt24 H=>zag t24 (zae true 3 t1 H λt25=>zao 3 t2 t25 H λH=>zae true 3 t2 H λr0=>K r0 H) (zaf 1 t1 λt27=>zae false 1 t27 H λt28=>ACalls tP zhQ [t28,t22] H λt30 H=>zaC t30 0 λt31=>zaC t30 1 λt32=>zaf 2 t1 λt34=>zae false 1 t34 H λt35=>ACalls tP zhQ [t35,t22] H λt37 H=>zaC t37 0 λt38=>zaC t37 1 λt39=>zaf 0 t1 λt40=>zae false 1 t40 H λt41=>zaq [(.bool false),.snil,.snil] [(0,1),(1,1),(2,1)] [(0,t41),(1,t31),(2,t38)] λt44=>zao 3 t2 t44 H λH=>zae true 3 t2 H λr0=>K r0 H)))
def zmd:Nat→List Bool | 300000=>rl false [0,1] | 300001=>rl false [0,1] | 300002=>rl false [0,1] | 300003=>rl false [0,1] | 4=>rl false [0,1,2,2,7,2,27] | _=>[]
noncomputable def zs8:Code:=Tryz.f157.body.getD .skip
noncomputable def zOm:List ResultVar:=Tryz.f157.results.toList
def zmf:List AV:=t0::ux 2 (t3::t4::ux 7 (t12::t13::ux 27 []))
def zOk:List Bool:=zmd 4
noncomputable def zOi:Code:=zar [1,1,1,0,1,0,0] zs8
def zOh:AExit→List AV→zaa→Prop:=zas tP zmd [1,1,1,0,1,0] zs8 (zaz tP zOm K)
def zBG:Prop:=ALoop tP zOi (zOh K) (zmf t0 t3 t4 t12 t13) H
def zmg:Prop:=ACalls tP zfw [t3] H λt40 H=>K t40 H
def zme:Prop:=zac .lss false t13 t12 λt14=>zag t14 (zak 1 t0 t13 λt18=>zae false 1 t18 H λt19=>za0 .u64 t19 λt20=>zac .add false t20 t4 λt22=>zac .rem false t22 (.int .u64 1000000000) λt25=>za0 .u32 t25 λt26=>zau 1 [(.int .u32 0)] 1 [(0,t26)] λt27=>zav za5 1 4 t3 t27 H λt28 H=>zac .quo false t22 (.int .u64 1000000000) λt30=>zac .add false t13 (.int .i64 1) λt31=>Kb4 (zmf t0 t28 t30 t12 t31) H) (zac .gtr false t4 (.int .u64 0) λt33=>zag t33 (za0 .u32 t4 λt36=>zau 1 [(.int .u32 0)] 1 [(0,t36)] λt37=>zav za5 1 4 t3 t37 H λt38 H=>zmg t38 H K) (zmg t3 H K))
def zBF:Prop:=zah 1 t0 λt8=>zac .add false t8 (.int .i64 1) λt9=>zeJ za5 1 4 t9 H λt10 H=>zah 1 t0 λt12=>zBG t0 t10 (.int .u64 0) t12 (.int .i64 0) H K
def zmh:Nat→List Bool | 2=>rl false [0,1,2,1,17] | _=>[]
noncomputable def zs9:Code:=Tryz.f158.body.getD .skip
noncomputable def zOs:List ResultVar:=Tryz.f158.results.toList
def zmj:List AV:=t0::ux 2 (t3::ux 17 [])
def zOq:List Bool:=zmh 2
noncomputable def zOo:Code:=zar [1,1,0,0,0] zs9
def zOn:AExit→List AV→zaa→Prop:=zas tP zmh [1,1,0,0] zs9 (zaz tP zOs K)
def zBI:Prop:=ALoop tP zOo (zOn K) (zmj t0 t3) H
def zmi:Prop:=zac .gtr false t3 (.int .i64 0) λt7=>zad t7 true H (λK'=>K' t0 H) λt9 H=>zad t7 true H (λK'=>K' t3 H) λt10 H=>zad t7 true H (λK'=>zac .sub false t10 (.int .i64 1) (K' · H)) λt11 H=>zad t7 true H (λK'=>zak 1 t9 t11 (K' · H)) λt12 H=>zad t7 true H (λK'=>zae false 1 t12 H (K' · H)) λt13 H=>zad t7 true H (λK'=>zac .eql false t13 (.int .u32 0) (K' · H)) λt14 H=>zam t7 t14 (.bool false) λt15=>zag t15 (zac .sub false t3 (.int .i64 1) λt17=>Kb2 (zmj t0 t17) H) (zaN 1 1 t0 none (some t3) λt20=>K t20 H)
def zBH:Prop:=zah 1 t0 λt5=>zBI t0 t5 H K
def zmx:Nat→List Bool | 300000=>rl false [0,1] | 300001=>rl false [0,1] | 300002=>rl false [0,1] | 300003=>rl false [0,1] | 300004=>rl false [0,1] | 6=>rl false [0,2,3,2,14,2,33] | _=>[]
noncomputable def ztD:Code:=Tryz.f171.body.getD .skip
noncomputable def zPX:List ResultVar:=Tryz.f171.results.toList
def zmy:List AV:=t0::t1::ux 3 (t5::t6::ux 14 (t21::t22::ux 33 []))
def zPV:List Bool:=zmx 6
noncomputable def zPT:Code:=zar [1,1,1,1,0,1,0,0] ztD
def zPS:AExit→List AV→zaa→Prop:=zas tP zmx [1,1,1,1,0,1,0] ztD (zaz tP zPX K)
def zCv:Prop:=ALoop tP zPT (zPS K) (zmy t0 t1 t5 t6 t21 t22) H
def zmA (t0 t1 t5 t8 t21 t22:AV) (H:zaa) (K:Kt) (Kb6:Lt):Prop:=zac .quo false t8 (.int .u32 1000000000) λt42=>zac .rem false t8 (.int .u32 1000000000) λt45=>zau 1 [(.int .u32 0)] 1 [(0,t45)] λt46=>zav za5 1 4 t5 t46 H λt47 H=>zac .add false t22 (.int .i64 1) λt48=>Kb6 (zmy t0 t1 t47 t42 t21 t48) H
def zmB:Prop:=K t5 H
def ziF:Prop:=zac .lss false t22 t21 λt23=>zag t23 (zak 1 t0 t22 λt27=>zae false 1 t27 H λt28=>zac .add false t28 t6 λt30=>zah 1 t1 λt33=>zac .lss false t22 t33 λt34=>zag t34 (zak 1 t1 t22 λt38=>zae false 1 t38 H λt39=>zac .add false t30 t39 λt40=>zmA t0 t1 t5 t40 t21 t22 H K Kb6) (zmA t0 t1 t5 t30 t21 t22 H K Kb6)) (zac .gtr false t6 (.int .u32 0) λt50=>zag t50 (zau 1 [(.int .u32 0)] 1 [(0,t6)] λt53=>zav za5 1 4 t5 t53 H λt54 H=>zmB t54 H K) (zmB t5 H K))
def zmz:Prop:=zah 1 t0 λt17=>zac .add false t17 (.int .i64 1) λt18=>zeJ za5 1 4 t18 H λt19 H=>zah 1 t0 λt21=>zCv t0 t1 t19 (.int .u32 0) t21 (.int .i64 0) H K
def ztC:Prop:=zah 1 t0 λt10=>zah 1 t1 λt12=>zac .lss false t10 t12 λt13=>zag t13 (zmz t1 t0 H K) (zmz t0 t1 H K)
def zQX (_:Nat):List Bool:=[]
noncomputable def zQY:Code:=Tryz.f197.body.getD .skip
def zmX:Prop:=zah 1 t0 λt4=>zac .eql false t4 (.int .i64 1) λt5=>zad t5 true H (λK'=>K' t0 H) λt7 H=>zad t5 true H (λK'=>zak 1 t7 (.int .i64 0) (K' · H)) λt8 H=>zad t5 true H (λK'=>zae false 1 t8 H (K' · H)) λt9 H=>zad t5 true H (λK'=>zac .eql false t9 (.int .u32 1) (K' · H)) λt10 H=>zam t5 t10 (.bool false) λt11=>K t11 H
def zfW:Nat→List Bool | 1=>rl false [0,2,47] | 5=>rl false [5,1,1,1,41] | _=>[]
noncomputable def ztU:Code:=Tryz.f198.body.getD .skip
noncomputable def zQ6:List ResultVar:=Tryz.f198.results.toList
def ztW:List AV:=t0::t1::ux 47 []
def zCR:List Bool:=zfW 1
noncomputable def ztV:Code:=zar [1,0,0,0] ztU
def zCO:AExit→List AV→zaa→Prop:=zas tP zfW [1,0,0] ztU (zaz tP zQ6 K)
def zCP:Prop:=ALoop tP ztV (zCO K) (ztW t0 t1) H
def zmY:List AV:=ux 5 (t5::ux 1 (t7::ux 41 []))
def zQ4:List Bool:=zfW 5
noncomputable def zQ1:Code:=zar [1,0,0,1,0,1,1,0,0,0] ztV
def zQ0:AExit→List AV→zaa→Prop:=zas tP zfW [1,0,0,1,0,1,1,0,0] ztV (zbL zCR Kb1 (zCO K))
def zCQ:Prop:=ALoop tP zQ1 (zQ0 K Kb1) (zmY t5 t7) H
def ztT (t5 t7:AV) (H:zaa) (K:Kt) (Kb1:Lt) (Kb5:Lt):Prop:=zac .gtr false t7 (.int .u64 0) λt33=>zag t33 (zab H (λK'=>K' t7 H) λt34=>zab H (λK'=>K' t5 H) λt35=>zab H (λK'=>K' t7 H) λt36=>zab H (λK'=>zac .rem false t35 t36 (K' · H)) λt37=>zab H (λK'=>K' t34 H) λt5=>zab H (λK'=>K' t37 H) λt7=>Kb5 (zmY t5 t7) H) (ACalls tP zgq [t5] H λt39 H=>K t39 H)
def ztS:Prop:=zah 1 t1 λt12=>zac .gtr false t12 (.int .i64 0) λt13=>zag t13 (zah 1 t0 λt15=>zac .leq false t15 (.int .i64 2) λt16=>zad t16 true H (λK'=>K' t1 H) λt18 H=>zad t16 true H (λK'=>zah 1 t18 (K' · H)) λt19 H=>zad t16 true H (λK'=>zac .leq false t19 (.int .i64 2) (K' · H)) λt20 H=>zam t16 t20 (.bool false) λt21=>zag t21 (ACalls tP zjU [t0] H λt24 H=>zaC t24 0 λt25=>zaC t24 1 λt26=>ACalls tP zjU [t1] H λt29 H=>zaC t29 0 λt30=>zaC t29 1 λt31=>zCQ t25 t30 H K Kb1) (ACalls tP zhQ [t0,t1] H λt43 H=>zaC t43 0 λt44=>zaC t43 1 λt45=>Kb1 (ztW t1 t45) H)) (K t0 H)
def zCN:Prop:=zCP t0 t1 H K
def zCT:Nat→List Bool | 12=>rl false [8,6,77] | _=>[]
noncomputable def ztX:Code:=Tryz.f199.body.getD .skip
noncomputable def zRc:List ResultVar:=Tryz.f199.results.toList
def zQ9:List AV:=ux 8 (t8::t9::t10::t11::t12::t13::ux 77 [])
noncomputable def zQ8:Code:=zar [1,1,1,1,1,1,1,1,0,1,0,0] ztX
def zQ7:AExit→List AV→zaa→Prop:=zas tP zCT [1,1,1,1,1,1,1,1,0,1,0] ztX (zaz tP zRc K)
def zRa:Prop:=ALoop tP zQ8 (zQ7 K) (zQ9 t8 t9 t10 t11 t12 t13) H
def zCS:Prop:=ACalls tP zjH [t0,t1] H λt18 H=>zac .lss false t18 (.int .i64 0) λt19=>zag t19 (zav za5 1 4 .snil t0 H λt21 H=>zaF [.snil,t21] (K · H)) (zah 1 t1 λt23=>zac .eql false t23 (.int .i64 1) λt24=>zag t24 (zak 1 t1 (.int .i64 0) λt28=>zae false 1 t28 H λt29=>za0 .u64 t29 λt30=>ACalls tP zqF [t0,t30] H λt31 H=>zaC t31 0 λt32=>zaC t31 1 λt33=>ACalls tP zgq [t33] H λt36 H=>zaF [t32,t36] (K · H)) (zah 1 t1 λt38=>zac .sub false t38 (.int .i64 1) λt41=>zak 1 t1 t41 λt42=>zae false 1 t42 H λt43=>za0 .u64 t43 λt44=>zac .add false t44 (.int .u64 1) λt45=>zac .quo false (.int .u64 1000000000) t45 λt46=>ACalls tP zyk [t0,t46] H λt49 H=>ACalls tP zyk [t1,t46] H λt52 H=>zaN 1 1 t52 none (some t38) λt54=>zah 1 t0 λt56=>zac .sub false t56 t38 λt58=>zac .add false t58 (.int .i64 1) λt59=>zbe 4 [(.int .u32 0)] t59 t59 H λt60 H=>zah 1 t0 λt62=>zac .sub false t62 t38 λt64=>zRa t38 t46 t49 t54 t60 t64 H K))
def zRX (_:Nat):List Bool:=[]
noncomputable def zRY:Code:=Tryz.f216.body.getD .skip
def zC5:Prop:=zay [(.bool false),.snil,.snil] H λt4 H=>zac .eql false t1 (.int .i64 0) λt6=>zag t6 (ACalls tP zdz [(.int .i64 0)] H λt7 H=>zao 3 t4 t7 H λH=>zae true 3 t4 H λr0=>K r0 H) (zac .lss false t0 (.int .i64 0) λt9=>zac .lss false t1 (.int .i64 0) λt11=>zac .neq true t9 t11 λt12=>ACalls tP zhK [t0] H λt14 H=>ACalls tP zhK [t1] H λt16 H=>zaq [(.bool false),.snil,.snil] [(0,1),(1,1),(2,1)] [(0,t12),(1,t14),(2,t16)] λt17=>ACalls tP zeW [t17] H λt18 H=>zao 3 t4 t18 H λH=>zae true 3 t4 H λr0=>K r0 H)
def zm7:Nat→List Bool | 3=>rl false [0,1,3,1,3,2,22] | _=>[]
noncomputable def zub:Code:=Tryz.f223.body.getD .skip
noncomputable def zR9:List ResultVar:=Tryz.f223.results.toList
def zm8:List AV:=t0::ux 3 (t4::ux 3 (t8::t9::ux 22 []))
def zR7:List Bool:=zm7 3
noncomputable def zR5:Code:=zar [1,1,0,1,0,0] zub
def zR4:AExit→List AV→zaa→Prop:=zas tP zm7 [1,1,0,1,0] zub (zaz tP zR9 K)
def zC9:Prop:=ALoop tP zR5 (zR4 K) (zm8 t0 t4 t8 t9) H
def zua:Prop:=zac .lss false t9 t8 λt10=>zag t10 (zah 1 t0 λt14=>zac .sub false t14 (.int .i64 1) λt15=>zac .sub false t15 t9 λt17=>zak 1 t0 t17 λt18=>zae false 1 t18 H λt19=>za0 .u64 t19 λt20=>zac .sub false (.int .u64 18446744073709551615) t20 λt23=>zac .quo false t23 (.int .u64 1000000000) λt24=>zac .gtr false t4 t24 λt25=>zag t25 (zaF [(.int .u64 0),(.bool false)] (K · H)) (zac .mul false t4 (.int .u64 1000000000) λt27=>zac .add false t27 t20 λt29=>zac .add false t9 (.int .i64 1) λt30=>Kb3 (zm8 t0 t29 t8 t30) H)) (zaF [t4,(.bool true)] (K · H))
def zC8:Prop:=zah 1 t0 λt8=>zC9 t0 (.int .u64 0) t8 (.int .i64 0) H K
def zm9:Nat→List Bool | 4=>rl false [0,2,4,3,32] | _=>[]
noncomputable def zud:Code:=Tryz.f224.body.getD .skip
noncomputable def zSf:List ResultVar:=Tryz.f224.results.toList
def zna:List AV:=t0::t1::ux 4 (t6::t7::t8::ux 32 [])
def zSd:List Bool:=zm9 4
noncomputable def zSb:Code:=zar [1,1,1,0,1,0,0] zud
def zSa:AExit→List AV→zaa→Prop:=zas tP zm9 [1,1,1,0,1,0] zud (zaz tP zSf K)
def zDb:Prop:=ALoop tP zSb (zSa K) (zna t0 t1 t6 t7 t8) H
def zuc:Prop:=zac .geq false t8 (.int .i64 0) λt17=>zag t17 (zac .mul false t7 (.int .u64 1000000000) λt21=>zak 1 t0 t8 λt24=>zae false 1 t24 H λt25=>za0 .u64 t25 λt26=>zac .add false t21 t26 λt27=>zac .quo false t27 t1 λt32=>za0 .u32 t32 λt33=>zak 1 t6 t8 λt34=>zao 1 t34 t33 H λH=>zac .rem false t27 t1 λt37=>zac .sub false t8 (.int .i64 1) λt19=>Kb4 (zna t0 t1 t6 t37 t19) H) (ACalls tP zfw [t6] H λt39 H=>zaF [t39,t7] (K · H))
def zDa:Prop:=zah 1 t0 λt11=>zbe 4 [(.int .u32 0)] t11 t11 H λt12 H=>zah 1 t0 λt14=>zac .sub false t14 (.int .i64 1) λt15=>zDb t0 t1 t12 (.int .u64 0) t15 H K
def zWw (_:Nat):List Bool:=[]
noncomputable def zWx:Code:=Tryz.f80.body.getD .skip
def zEF:Prop:=zat t0 H λt1 H=>zae true 3 t1 H λt3=>ACalls tP zes [t3] H λt4 H=>ACalls tP zqh [t4] H λt5 H=>K t5 H
def zmH:Nat→List Bool | 3=>rl false [0,1,3,2,2,2,16] | _=>[]
noncomputable def ztH:Code:=Tryz.f175.body.getD .skip
noncomputable def zQg:List ResultVar:=Tryz.f175.results.toList
def zmJ:List AV:=t0::ux 3 (t4::t5::ux 2 (t8::t9::ux 16 []))
def zQe:List Bool:=zmH 3
noncomputable def zQc:Code:=zar [1,1,0,1,0,0] ztH
def zQb:AExit→List AV→zaa→Prop:=zas tP zmH [1,1,0,1,0] ztH (zaz tP zQg K)
def zCA:Prop:=ALoop tP zQc (zQb K) (zmJ t0 t4 t5 t8 t9) H
def zmI:Prop:=zac .lss false t9 t8 λt10=>zag t10 (zac .eql false t0 t9 λt14=>zag t14 (ACalls tP zdz [(.int .i64 0)] H λt15 H=>zao 3 t4 t15 H λH=>zae true 3 t4 H λr0=>K r0 H) (zab H (λK'=>zaj true 3 t5 H (K' · H)) λt16=>zab H (λK'=>K' t0 H) λt17=>zab H (λK'=>K' t9 H) λt18=>zab H (λK'=>zac .sub false t17 t18 (K' · H)) λt19=>zab H (λK'=>K' t9 H) λt20=>zab H (λK'=>zac .add false t20 (.int .i64 1) (K' · H)) λt21=>zaA H (λH K'=>ACalls tP zqE [t19,t21] H K') λt22=>zaA H (λH K'=>ACalls tP zfB [t16,t22] H K') λt23=>zao 3 t5 t23 H λH=>zac .add false t9 (.int .i64 1) λt24=>Kb3 (zmJ t0 t4 t5 t8 t24) H)) (zae true 3 t5 H λt25=>zao 3 t4 t25 H λH=>zae true 3 t4 H λr0=>K r0 H)
def zCz:Prop:=zay [(.bool false),.snil,.snil] H λt4 H=>ACalls tP zdz [(.int .i64 1)] H λt7 H=>zay [(.bool false),.snil,.snil] H λt5 H=>zao 3 t5 t7 H λH=>zCA t0 t4 t5 t1 (.int .i64 0) H K
variable {t0 t1 t3 t4 t5 t6 t7 t8 t9 t10 t11 t12 t13 t21 t22 t25 t26 t30 t31} {H} {K} {Kb1 Kb2 Kb3 Kb4 Kb5 Kb6}
theorem zVv (h:HSc H→zEh t0 H K):ACalls tP zdz [t0] H K:=
 acb zVt Tryz.func61 zVu (by kernel_rfl) (by kernel_rfl) h
theorem zEm (h:HSc H→zve t0 t1 H K):ACalls tP zfB [t0,t1] H K:=
 acb zVK Tryz.func70 zVL (by kernel_rfl) (by kernel_rfl) h
theorem zWi (h:HSc H→zEw t0 t1 H K):ACalls tP zqY [t0,t1] H K:=
 acb zWg Tryz.func77 zWh (by kernel_rfl) (by kernel_rfl) h
theorem zLp (h:HSc H→zAR t0 H K):ACalls tP zhK [t0] H K:=
 acb zLn Tryz.func113 zLo (by kernel_rfl) (by kernel_rfl) h
theorem zAS (h:HSc H→zsj t0 H K):ACalls tP zeW [t0] H K:=
 acb zLq Tryz.func114 zLr (by kernel_rfl) (by kernel_rfl) h
theorem zAU (h:HSc H→zsn t0 H K):ACalls tP zes [t0] H K:=
 acb zLC Tryz.func120 zLD (by kernel_rfl) (by kernel_rfl) h
theorem zLH (Inv:Nat→AV→AV→zaa→Prop) (n:Nat) (h0:HSc H→Inv n t7 t31 H)
  (ac:Rd2 (λt7=>λt31=>zix t0 t1 t5 t6 t7 t25 t26 t30 t31) (λt7=>λt31=>λH Kb9=>zsp t0 t1 t5 t6 t7 t25 t26 t30 t31 H K Kb5 Kb9) H Inv):zAX t0 t1 t5 t6 t7 t25 t26 t30 t31 H K Kb5:=
 lp2 (M:=zfO) zLI t7 t31 (by kernel_rfl) Inv n h0 ac
theorem zLG (Inv:Nat→AV→zaa→Prop) (n:Nat) (h0:HSc H→Inv n t26 H)
  (ac:Rd1 (λt26=>zlp t0 t1 t5 t25 t26) (λt26=>λH Kb5=>zso t0 t1 t5 t25 t26 H K Kb5) H Inv):zAW t0 t1 t5 t25 t26 H K:=
 lp1 (M:=zfO) zAY t26 (by kernel_rfl) Inv n h0 ac
theorem zLJ (h:HSc H→zlo t0 t1 H K):ACalls tP zdN [t0,t1] H K:=
 acb zfO Tryz.func121 zsq (by kernel_rfl) (by kernel_rfl) h
theorem zMe (h:HSc H→zA8 t0 t1 H K):ACalls tP zqd [t0,t1] H K:=
 acb zMc Tryz.func129 zMd (by kernel_rfl) (by kernel_rfl) h
theorem zMx (h:HSc H→zsC t0 H K):ACalls tP zqh [t0] H K:=
 acb zMv Tryz.func132 zMw (by kernel_rfl) (by kernel_rfl) h
theorem zP1 (Inv:Nat→AV→zaa→Prop) (n:Nat) (h0:HSc H→Inv n t5 H)
  (ac:Rd1 (λt5=>zmE t0 t1 t5) (λt5=>λH Kb6=>ziG t0 t1 t5 H K Kb6) H Inv):zCw t0 t1 t5 H K:=
 lp1 (M:=zmD) zP2 t5 (by kernel_rfl) Inv n h0 ac
theorem zP3 (h:HSc H→zmC t0 t1 H K):ACalls tP zjH [t0,t1] H K:=
 acb zmD Tryz.func172 ztE (by kernel_rfl) (by kernel_rfl) h
theorem zN1 (Inv:Nat→AV→AV→zaa→Prop) (n:Nat) (h0:HSc H→Inv n t0 t3 H)
  (ac:Rd2 (λt0=>λt3=>zl8 t0 t3) (λt0=>λt3=>λH Kb2=>zs3 t0 t3 H K Kb2) H Inv):zl9 t0 t3 H K:=
 lp2 (M:=zl7) zN2 t0 t3 (by kernel_rfl) Inv n h0 ac
theorem zN3 (h:HSc H→zBB t0 H K):ACalls tP zgq [t0] H K:=
 acb zl7 Tryz.func152 zs4 (by kernel_rfl) (by kernel_rfl) h
theorem zBC (h:HSc H→zma t0 H K):ACalls tP zjC [t0] H K:=
 acb zN5 Tryz.func153 zN6 (by kernel_rfl) (by kernel_rfl) h
theorem zOj (Inv:Nat→AV→AV→AV→zaa→Prop) (n:Nat) (h0:HSc H→Inv n t3 t4 t13 H)
  (ac:Rd3 (λt3=>λt4=>λt13=>zmf t0 t3 t4 t12 t13) (λt3=>λt4=>λt13=>λH Kb4=>zme t0 t3 t4 t12 t13 H K Kb4) H Inv):zBG t0 t3 t4 t12 t13 H K:=
 lp3 (M:=zmd) zOk t3 t4 t13 (by kernel_rfl) Inv n h0 ac
theorem zOl (h:HSc H→zBF t0 H K):ACalls tP zjE [t0] H K:=
 acb zmd Tryz.func157 zs8 (by kernel_rfl) (by kernel_rfl) h
theorem zOp (Inv:Nat→AV→zaa→Prop) (n:Nat) (h0:HSc H→Inv n t3 H)
  (ac:Rd1 (λt3=>zmj t0 t3) (λt3=>λH Kb2=>zmi t0 t3 H K Kb2) H Inv):zBI t0 t3 H K:=
 lp1 (M:=zmh) zOq t3 (by kernel_rfl) Inv n h0 ac
theorem zOr (h:HSc H→zBH t0 H K):ACalls tP zfw [t0] H K:=
 acb zmh Tryz.func158 zs9 (by kernel_rfl) (by kernel_rfl) h
theorem zPU (Inv:Nat→AV→AV→AV→zaa→Prop) (n:Nat) (h0:HSc H→Inv n t5 t6 t22 H)
  (ac:Rd3 (λt5=>λt6=>λt22=>zmy t0 t1 t5 t6 t21 t22) (λt5=>λt6=>λt22=>λH Kb6=>ziF t0 t1 t5 t6 t21 t22 H K Kb6) H Inv):zCv t0 t1 t5 t6 t21 t22 H K:=
 lp3 (M:=zmx) zPV t5 t6 t22 (by kernel_rfl) Inv n h0 ac
theorem zPW (h:HSc H→ztC t0 t1 H K):ACalls tP zqy [t0,t1] H K:=
 acb zmx Tryz.func171 ztD (by kernel_rfl) (by kernel_rfl) h
theorem zQZ (h:HSc H→zmX t0 H K):ACalls tP zjO [t0] H K:=
 acb zQX Tryz.func197 zQY (by kernel_rfl) (by kernel_rfl) h
theorem zQ3 (Inv:Nat→AV→AV→zaa→Prop) (n:Nat) (h0:HSc H→Inv n t5 t7 H)
  (ac:Rd2 (λt5=>λt7=>zmY t5 t7) (λt5=>λt7=>λH Kb5=>ztT t5 t7 H K Kb1 Kb5) H Inv):zCQ t5 t7 H K Kb1:=
 lp2 (M:=zfW) zQ4 t5 t7 (by kernel_rfl) Inv n h0 ac
theorem zQ2 (Inv:Nat→AV→AV→zaa→Prop) (n:Nat) (h0:HSc H→Inv n t0 t1 H)
  (ac:Rd2 (λt0=>λt1=>ztW t0 t1) (λt0=>λt1=>λH Kb1=>ztS t0 t1 H K Kb1) H Inv):zCP t0 t1 H K:=
 lp2 (M:=zfW) zCR t0 t1 (by kernel_rfl) Inv n h0 ac
theorem zQ5 (h:HSc H→zCN t0 t1 H K):ACalls tP zqB [t0,t1] H K:=
 acb zfW Tryz.func198 ztU (by kernel_rfl) (by kernel_rfl) h
theorem zRb (h:HSc H→zCS t0 t1 H K):ACalls tP zhQ [t0,t1] H K:=
 acb zCT Tryz.func199 ztX (by kernel_rfl) (by kernel_rfl) h
theorem zRZ (h:HSc H→zC5 t0 t1 H K):ACalls tP zqE [t0,t1] H K:=
 acb zRX Tryz.func216 zRY (by kernel_rfl) (by kernel_rfl) h
theorem zR6 (Inv:Nat→AV→AV→zaa→Prop) (n:Nat) (h0:HSc H→Inv n t4 t9 H)
  (ac:Rd2 (λt4=>λt9=>zm8 t0 t4 t8 t9) (λt4=>λt9=>λH Kb3=>zua t0 t4 t8 t9 H K Kb3) H Inv):zC9 t0 t4 t8 t9 H K:=
 lp2 (M:=zm7) zR7 t4 t9 (by kernel_rfl) Inv n h0 ac
theorem zR8 (h:HSc H→zC8 t0 H K):ACalls tP zjU [t0] H K:=
 acb zm7 Tryz.func223 zub (by kernel_rfl) (by kernel_rfl) h
theorem zSc (Inv:Nat→AV→AV→zaa→Prop) (n:Nat) (h0:HSc H→Inv n t7 t8 H)
  (ac:Rd2 (λt7=>λt8=>zna t0 t1 t6 t7 t8) (λt7=>λt8=>λH Kb4=>zuc t0 t1 t6 t7 t8 H K Kb4) H Inv):zDb t0 t1 t6 t7 t8 H K:=
 lp2 (M:=zm9) zSd t7 t8 (by kernel_rfl) Inv n h0 ac
theorem zSe (h:HSc H→zDa t0 t1 H K):ACalls tP zqF [t0,t1] H K:=
 acb zm9 Tryz.func224 zud (by kernel_rfl) (by kernel_rfl) h
theorem zWy (h:HSc H→zEF t0 H K):ACalls tP zj8 [t0] H K:=
 acb zWw Tryz.func80 zWx (by kernel_rfl) (by kernel_rfl) h
theorem zQd (Inv:Nat→AV→zaa→Prop) (n:Nat) (h0:HSc H→Inv n t9 H)
  (ac:Rd1 (λt9=>zmJ t0 t4 t5 t8 t9) (λt9=>λH Kb3=>zmI t0 t4 t5 t8 t9 H K Kb3) H Inv):zCA t0 t4 t5 t8 t9 H K:=
 lp1 (M:=zmH) zQe t9 (by kernel_rfl) Inv n h0 ac
theorem zQf (h:HSc H→zCz t0 t1 H K):ACalls tP zjI [t0,t1] H K:=
 acb zmH Tryz.func175 ztH (by kernel_rfl) (by kernel_rfl) h
end
theorem zyn (L:List Nat) (hL:L.length≤1000000) (H:zaa) (K:Kt) (hK:K (.sl (zal (zbF L)) .none) H) :
  ACalls tP zfw [.sl (zal L) .none] H K:=by
 refine ACalls.out (zOr λhs=>?_);simp[zBH];refine zOp (Inv:=λq t3 H'=>∃ n:Nat,n≤L.length∧n=q∧t3=.int .i64 n∧H'=H∧zbF L=zbF (L.take n)) L.length ?_ ?_
 ·intro _;exact⟨L.length,by omega,rfl,by simp,rfl,by simp⟩
 ·rintro q t3 H' ⟨n,hn,rfl,rfl,rfl,aR⟩ aJ am aM Kb au;have bv:∀ (l:List Nat),l=zbF L→Out (List.length H') K (AV.sl (zal l) .none) H':=λl hl=>Out.one0 hs (.atom (.sl _ _)) rfl rfl (by rw[hl];exact hK);by_cases h0:n=0
  ·subst h0;simp[zmi];exact⟨zd8 L,bv [] (by simpa[zbF]using aR.symm)⟩
  ·have hw:IntKind.i64.wrap ((n:Int)-1)=((n-1:Nat):Int):=by rw[zaw (by omega) (by omega)];omega
   have ak:n-1<L.length:=by omega
   by_cases hz:L[n-1]=0
   ·simp[zmi,show 0<n by omega,hw,ak,hz];exact au _ _ ⟨n-1,by omega,Back.here (by simp) hs (by simp[zmj,AV.sc,AV.scA,AV.scB,AV.scV]) ⟨_,rfl,n-1,by omega,rfl,rfl,rfl,by rw[aR,zzB (by omega) hn hz]⟩⟩
   ·have ku:(((L[n-1]:Nat):Int) == 0)=false:=by simp;omega
    simp[zmi,show 0<n by omega,hw,ak,ku];refine⟨⟨hn,zd8 L⟩,?_⟩;rw[zAe];exact bv _ (by rw[aR,zzz (by omega) hn hz])
theorem zpG (n:Nat) (hn:n<18446744073709551616) (H:zaa) (K:Kt) (hK:K (.sl (zal (lim n)) .none) H) :
  ACalls tP zgq [.int .u64 n] H K:=by
 refine ACalls.out (zN3 λhs=>?_);unfold zBB zl9;refine ALoop.own 3 za5 1 rfl ?_;show zl9 (.int .u64 n) (.sl [] (.own H.length)) (H++[.perm za5 1 0]) (Out H.length K);refine zN1 (Inv:=λq t0 t3 H'=>∃ (m:Nat) (A:List Nat),m=q∧t0=.int .u64 m∧t3=.sl (zal A) (.own H.length)∧lim n=A++lim m∧m<18446744073709551616 ∧
  H'=H++[.perm za5 1 A.length]) n ?_ ?_
 ·intro _;exact⟨n,[],rfl,rfl,rfl,by simp,hn,rfl⟩
 ·rintro q t0 t3 H' ⟨m,A,rfl,rfl,rfl,hA,hm,rfl⟩ aJ am aM Kb au;by_cases h0:m=0
  ·subst h0;simp[zs3];exact Out.one hs (.atom (.sl _ _)) rfl rfl (by simpa[hA]using hK)
  ·have hlA:A.length+1≤1000:=by have h1:=congrArg List.length hA;have h2:=zbJ (n:=n) (k:=3) (by omega);rw[zce h0]at h1;simp at h1;omega
   obtain⟨x,c,bC,bg,bz,e1,e2⟩:=zgi m hm;simp only[zs3];simp[show 0<m by omega,e1,e2,bz,zau,zaQ,plain,AV.pd,zav,zaM,zaJ];refine⟨⟨by omega,by omega⟩,?_⟩;rw[sN];refine au _ _ ⟨c,by omega,Back.here (by simp) (hs.append (by simp[AB.sc])) (by simp[zl8,ux,AV.sc,AV.scA,AV.scB,AV.scV]) ⟨_,_,rfl,c,A++[x],rfl,rfl,rfl,?_,by omega,by simp⟩⟩;rw[hA,zce h0,show m % 1000000000=x by omega,show m / 1000000000=c by omega];simp
theorem ACalls.frzV1 {P:Program} {H:zaa} {f:FuncId} {K:Kt} (id e size n:Nat) (cs:List AV) (es:List (List AV)) (hH:H[id]?=some (.vec e size n cs)) (hp:plain cs=some es.flatten) (am:es.length=n) (aD:∀ c∈es,c.length=size)
  (h:ACalls P f [.sl es .none] (H.set id .dead) K):ACalls P f [.ov id n] H K:=by
 intro B w G vs hR hv;obtain⟨G',hE,fA,hd⟩:=hR.frzV hH hp am aD;refine (h B w G' vs fA ?_).mono λe w' ⟨v,r,H',G'',k1,k2,k3,k4,k5⟩=>⟨v,r,H',G'',k1,hE.trans k2,k3,k4,k5⟩;generalize vs.toList=l at *
 match l,hv with
 | [v],⟨h1,_⟩=>exact⟨hd v h1,trivial⟩
theorem zJZ (L:List Nat) (hL:∀ x∈L,x<1000000000) (hl:L.length≤100000) {id:Nat} {H:zaa} {K:Kt} (ap:H[id]?=some (.vec za5 1 L.length (us L))) (hK:K (.sl (zal (lim (zan L))) .none) (H.set id .dead)) :
  ACalls tP zfw [.ov id L.length] H K:=by
 refine ACalls.frzV1 id za5 1 L.length (us L) (zal L) ap (by rw[zkR,zir]) (by simp) (zd8 L) ?_;refine zyn L (by omega) _ _ ?_;rw[zfJ L hL];exact hK
theorem zz1 (L:List Nat) (hL:∀ x∈L,x<1000000000) (hl:L.length≤100000) {id:Nat} {H:zaa} {K:Kt} (ap:H[id]?=some (.cells (us L))) (hK:K (.sl (zal (lim (zan L))) .none) (H.set id .dead)) :
  ACalls tP zfw [.ms id 0 L.length L.length] H K:=by
 refine ACalls.frz id 0 L.length L.length 1 (us L) (zal L) ap (by simp) ?_ (by simp) (zd8 L) (Nat.le_refl _) (args':=[.sl (zal L) .none]) ⟨.one .ms,trivial⟩ ?_
 ·rw[List.drop_zero,List.take_of_length_le (by simp),zkR,zir]
 ·refine zyn L (by omega) _ _ ?_;rw[zfJ L hL];exact hK
theorem zkh (L:List Nat) (iF:∀ x∈L,x<4294967296) (hL:L.length≤50000) (H:zaa) (K:Kt) (hK:K (.sl (zal (lim (zan L))) .none) H) :
  ACalls tP zjE [.sl (zal L) .none] H K:=by
 refine ACalls.out (zOl λhs=>?_);have hsc:∀ A:List Nat,HSc (H++[.vec za5 1 A.length (us A)]):=λA=>hs.append (by simp[AB.sc,us,AV.scA,AV.scB]);simp[zBF,wi L.length (by omega)];refine⟨⟨by omega,by omega,by omega⟩,?_⟩;have gj:∀ A:List Nat,(∀ x∈A,x<1000000000)→zan A=zan L→A.length≤100000→zmg (.ov H.length A.length) (H++[.vec za5 1 A.length (us A)]) (Out H.length K):=by intro A hA he hl;unfold zmg;refine zJZ A hA hl (by simp) ?_;rw[he];simp;exact Out.one hs (.atom (.sl _ _)) rfl rfl hK
 refine zOj (Inv:=λq t3 t4 t13 H'=>∃ (i c:Nat) (A:List Nat),i≤L.length∧L.length-i=q∧t13=.int .i64 i∧t4=.int .u64 c∧t3=.ov H.length A.length∧A.length=i∧(∀ x∈A,x<1000000000)∧c≤5 ∧
  zan A+1000000000 ^ i*c=zan (L.take i)∧H'=H++[.vec za5 1 A.length (us A)]) L.length ?_ ?_
 ·intro _;exact⟨0,0,[],by omega,rfl,rfl,rfl,rfl,rfl,by simp,by omega,by simp[zan],rfl⟩
 ·rintro q t3 t4 t13 H' ⟨i,c,A,hi,rfl,rfl,rfl,rfl,eI,hA,hc,hv,rfl⟩ aJ am aM Kb au;by_cases ak:i<L.length
  ·have hx:=iF L[i] (List.getElem_mem ak);have w1:IntKind.u64.wrap ((L[i]:Nat):Int)=L[i]:=zbm (by omega);obtain⟨s,a7⟩:∃ s,s=L[i]+c:=⟨_,rfl⟩;have w2:IntKind.u64.wrap (((L[i]:Nat):Int)+(c:Int))=(s:Int):=by rw[a7,←Int.natCast_add];exact zbm (by omega)
   obtain⟨x,c',bC,bg,bz,e1,e2⟩:=zgi s (by omega);simp only[zme];simp[ak,w1,w2,e1,e2,bz,zau,zaQ,plain,AV.pd,zav,zaM,zaJ,wi i (by omega)];refine⟨⟨by omega,by omega⟩,?_⟩;have e3:us A++[AV.int .u32 (x:Int)]=us (A++[x]):=by simp[us]
   rw[e3];refine au _ _ ⟨L.length-(i+1),by omega,Back.here (by simp) (by simpa using hsc (A++[x])) (by simp[zmf,ux,AV.sc,AV.scA,AV.scB,AV.scV]) ⟨_,_,_,rfl,i+1,c',A++[x],by omega,rfl,rfl,rfl,by simp,by simp[eI],?_,by omega,?_,by simp⟩⟩
   ·intro y hy;rcases List.mem_append.1 hy with hy | hy
    ·exact hA y hy
    ·simp at hy;omega
   ·rw[zeq,zdf L i ak,←hv,eI,Nat.pow_succ];grind
  ·obtain rfl:i=L.length:=by omega
   rw[List.take_length]at hv;by_cases h0:c=0
   ·subst h0;simp[zme];exact gj A hA (by simpa using hv) (by omega)
   ·simp only[zme];simp[show 0<c by omega,zcp (show c<4294967296 by omega),zau,zaQ,plain,AV.pd,zav,zaM,zaJ];refine⟨⟨by omega,by omega⟩,?_⟩;have e3:us A++[AV.int .u32 (c:Int)]=us (A++[c]):=by simp[us]
    rw[e3];have:=gj (A++[c]) (λy hy=>by
     rcases List.mem_append.1 hy with hy | hy
     ·exact hA y hy
     ·simp at hy;omega) (by rw[zeq,eI];exact hv) (by simp;omega)
    simpa using this
theorem zAi (O:List Nat) (i x:Nat) (h:i<O.length):List.take i (us O)++AV.int .u32 (x:Int)::List.drop (i+1) (us O)=us (O.set i x):=by rw[←zrU O i x h];simp
theorem zzn {O:List Nat} (hO:∀ x∈O,x<1000000000) {i x:Nat} (hx:x<1000000000):∀ y∈O.set i x,y<1000000000:=by
 intro y hy;rcases List.mem_or_eq_of_mem_set hy with hy | rfl
 ·exact hO y hy
 ·exact hx
theorem zHk {O:List Nat} {j:Nat} (h:zan O<1000000000 ^ j):O.getD j 0=0:=by
 by_cases hj:j<O.length
 ·have e:zan O=zan (O.take j)+1000000000 ^ j*(O[j]+1000000000*zan (O.drop (j+1))):=by
   conv=>lhs;rw[←List.take_append_drop j O,zhA,List.drop_eq_getElem_cons hj,zan]
   rw[List.length_take,Nat.min_eq_left (by omega)]
  rw[List.getD_eq_getElem?_getD,List.getElem?_eq_getElem hj,Option.getD_some];refine Nat.eq_zero_of_not_pos λhp=>?_;have h2:1000000000 ^ j*1≤1000000000 ^ j*(O[j]+1000000000*zan (O.drop (j+1))):=Nat.mul_le_mul_left _ (by omega);omega
 ·simp[List.getD_eq_getElem?_getD,show O.length≤j by omega]
theorem zHx (A B:List Nat) (lA:∀ x∈A,x<1000000000) (lB:∀ x∈B,x<1000000000) (ha:A.length≤1000) (hb:B.length≤1000) (H:zaa) (K:Kt)
  (hK:K (.sl (zal (lim (zan A*zan B))) .none) H) :
  ACalls tP zdN [.sl (zal A) .none,.sl (zal B) .none] H K:=by
 refine ACalls.out (zLJ λhs=>?_);by_cases iN:A=[]
 ·subst iN;simp[zlo,zan]at hK ⊢;exact Out.one0 hs (.atom .snil) rfl rfl (by simpa[zal]using hK)
 by_cases jD:B=[]
 ·subst jD;have mD:((A.length:Int) == 0)=false:=by have:A.length≠0:=λh=>iN (List.eq_nil_of_length_eq_zero h);generalize A.length=q at this;simp;omega
  simp[zlo,zan,mD,iN]at hK ⊢;exact Out.one0 hs (.atom .snil) rfl rfl (by simpa[zal]using hK)
 have hAl0:A.length≠0:=λh=>iN (List.eq_nil_of_length_eq_zero h);have hBl0:B.length≠0:=λh=>jD (List.eq_nil_of_length_eq_zero h);have mD:((A.length:Int) == 0)=false:=by generalize A.length=q at hAl0;simp;omega
 have hBb:((B.length:Int) == 0)=false:=by generalize B.length=q at hBl0;simp;omega
 have hw:IntKind.i64.wrap ((A.length:Int)+B.length)=((A.length+B.length:Nat):Int):=by rw[zaw (by omega) (by omega)];omega
 simp[zlo,mD,hBb,iN,jD,hw,zbe];have hN:((A.length:Int)+B.length).toNat=A.length+B.length:=by omega
 rw[hN,zis];refine⟨⟨by omega,by omega,by omega⟩,?_⟩;have hsc:∀ O:List Nat,HSc (H++[.cells (us O)]):=λO=>hs.append (by simp[AB.sc,us,AV.scA,AV.scB]);have fC:=zdM B lB;refine zLG (Inv:=λq t26 H'=>∃ (i:Nat) (O:List Nat),i≤A.length∧A.length-i=q∧t26=.int .i64 i∧O.length=A.length+B.length∧(∀ x∈O,x<1000000000)∧zan O=zan (A.take i)*zan B∧H'=H++[.cells (us O)]) A.length ?_ ?_
 ·intro _;exact⟨0,_,by omega,rfl,rfl,by simp,by simp,by rw[zxZ];simp[zan],rfl⟩
 ·rintro q t26 H' ⟨i,O,hi,rfl,rfl,dK,hO,hv,rfl⟩ aJ am aM Kb au;by_cases ak:i<A.length
  ·have eZ:=lA A[i] (List.getElem_mem ak);have eI:=zdM (A.take i) (λy hy=>lA y (List.mem_of_mem_take hy));rw[List.length_take,Nat.min_eq_left (by omega)]at eI;have iI:O.getD (i+B.length) 0=0:=by refine zHk ?_;rw[hv,Nat.pow_add];exact Nat.mul_lt_mul'' eI fC
   simp[zso,ak];refine zLH (Inv:=λq t7 t31 H'=>∃ (k c:Nat) (R:List Nat),k≤B.length∧B.length-k=q∧t31=.int .i64 k∧t7=.int .u64 c∧R.length=A.length+B.length∧(∀ x∈R,x<1000000000)∧c<1000000000∧R.getD (i+B.length) 0=0 ∧
    zan R+c*1000000000 ^ (i+k)=zan O+A[i]*zan (B.take k)*1000000000 ^ i∧H'=H++[.cells (us R)]) B.length ?_ ?_
   ·intro _;exact⟨0,0,O,by omega,rfl,rfl,rfl,dK,hO,by omega,iI,by simp[zan],rfl⟩
   ·rintro q t7 t31 H' ⟨k,c,R,hk,rfl,rfl,rfl,ee,hR,hc,lw,hr,rfl⟩ e7 ct ie Kb2 bB;by_cases ew:k<B.length
    ·have fu:IntKind.i64.wrap ((i:Int)+k)=((i+k:Nat):Int):=by rw[zaw (by omega) (by omega)];omega
     have cw:i+k<R.length:=by omega
     have dx:=lB B[k] (List.getElem_mem ew);have dN:=hR R[i+k] (List.getElem_mem cw);have eT:((i:Int)+k).toNat=i+k:=by omega
     have w1:IntKind.u64.wrap ((R[i+k]:Nat):Int)=R[i+k]:=zbm (by omega);have w2:IntKind.u64.wrap ((A[i]:Nat):Int)=A[i]:=zbm (by omega);have w3:IntKind.u64.wrap ((B[k]:Nat):Int)=B[k]:=zbm (by omega);have fd:A[i]*B[k]≤999999999*999999999:=Nat.mul_le_mul (by omega) (by omega);obtain⟨m,hm⟩:∃ m,m=A[i]*B[k]:=⟨_,rfl⟩;have w4:IntKind.u64.wrap (((A[i]:Nat):Int)*(B[k]:Nat))=(m:Int):=by rw[hm,←Int.natCast_mul];exact zbm (by omega)
     obtain⟨s1,a7⟩:∃ s,s=m+R[i+k]:=⟨_,rfl⟩;have w5:IntKind.u64.wrap ((m:Int)+(R[i+k]:Nat))=(s1:Int):=by rw[a7,←Int.natCast_add];exact zbm (by omega)
     obtain⟨s,br⟩:∃ s,s=s1+c:=⟨_,rfl⟩;have w6:IntKind.u64.wrap ((s1:Int)+(c:Int))=(s:Int):=by rw[br,←Int.natCast_add];exact zbm (by omega)
     obtain⟨x,c',bC,bg,bz,e1,e2⟩:=zgi s (by omega);have aX:Kb2 (zix (.sl (zal A) .none) (.sl (zal B) .none) (.ms H.length 0 (A.length+B.length) (A.length+B.length)) (.int .i64 i) (.int .u64 c') (.int .i64 A.length) (.int .i64 i) (.int .i64 B.length) (.int .i64 ((k:Int)+1))) (H++[.cells (us (R.set (i+k) x))]):=by
      have kv:=zjq R (i+k) x cw;have bI:=zdf B k ew;refine bB _ _ ⟨B.length-(k+1),by omega,Back.here (by simp) (hsc _) (by simp[zix,ux,AV.sc,AV.scA,AV.scB,AV.scV]) ⟨_,_,rfl,k+1,c',R.set (i+k) x,by omega,rfl,by simp,rfl,by simp[ee],zzn hR bC,?_,?_,?_,rfl⟩⟩
      ·refine Nat.lt_of_not_le λh=>?_;have:=Nat.mul_le_mul_left 1000000000 h;omega
      ·rw[List.getD_eq_getElem?_getD,List.getElem?_set_ne (by omega),←List.getD_eq_getElem?_getD];exact lw
      ·rw[bI,show i+(k+1)=i+k+1 by omega,Nat.pow_succ];rw[Nat.pow_add]at hr kv ⊢;rw[br,a7,hm]at bg;clear e1 e2 bz au bB aJ e7 aM ie fC hK hs lw iI w1 w2 w3 w4 w5 w6;generalize zan (R.set (i+k) x)=vS at *;generalize R[i+k]=r at *;generalize A[i]=a at *;generalize B[k]=b at *;generalize zan (List.take k B)=T at *;generalize 1000000000 ^ i=P at *;generalize 1000000000 ^ k=Q at *;generalize zan R=vR at *;generalize zan O=vO at *;grind
     simp only[zsp];simp[ew,ak,fu,eT,w1,w2,w3,w4];refine⟨⟨by omega,by omega⟩,?_⟩;rw[zo1 R _ cw];simp[w1,w5,w6,e1,e2,bz,fu,eT,wi k (by omega),zAi R (i+k) x cw];exact⟨⟨by omega,by omega⟩,by omega,aX⟩
    ·obtain rfl:k=B.length:=by omega
     have l0:IntKind.i64.wrap ((i:Int)+B.length)=((i+B.length:Nat):Int):=by rw[zaw (by omega) (by omega)];omega
     have eT:((i:Int)+B.length).toNat=i+B.length:=by omega
     have cw:i+B.length<R.length:=by omega
     have kv:=zjq R (i+B.length) c cw;rw[List.getD_eq_getElem?_getD,List.getElem?_eq_getElem cw,Option.getD_some]at lw;rw[lw]at kv;simp only[zsp];simp[l0,eT,zcp (show c<4294967296 by omega),wi i (by omega),zAi R (i+B.length) c cw];refine⟨⟨by omega,ak⟩,by omega,?_⟩;refine au _ _ ⟨A.length-(i+1),by omega,Back.here (by simp) (hsc _) (by simp[zlp,ux,AV.sc,AV.scA,AV.scB,AV.scV]) ⟨_,rfl,i+1,R.set (i+B.length) c,by omega,rfl,rfl,by simp[ee],zzn hR hc,?_,rfl⟩⟩;rw[List.take_of_length_le (Nat.le_refl _)]at hr;rw[zdf A i ak];rw[hv]at hr;clear au bB aJ e7 aM ie fC hK hs iI hsc;grind
  ·obtain rfl:i=A.length:=by omega
   rw[List.take_length]at hv;simp[zso];rw[←dK];refine zz1 O hO (by omega) (by simp) ?_;rw[hv];simp;exact Out.one hs (.atom (.sl _ _)) rfl rfl hK
theorem zpT (L:List Nat) (hL:L.length≤100000) (H:zaa) (K:Kt) (hK:K (.bool (decide (L=[1]))) H):ACalls tP zjO [.sl (zal L) .none] H K:=by
 refine ACalls.out (zQZ λhs=>?_);have hO:∀ b,b=decide (L=[1])→Out H.length K (.bool b) H:=λb hb=>Out.bool (J:=[]) (by simp) (Nat.le_refl _) hs (by rw[hb];exact hK)
 match L with
 | []=>simp[zmX];exact hO false (by simp)
 | [x]=>
  simp[zmX,zal];refine hO _ ?_;by_cases h:x=1
  ·subst h;rfl
  ·have hb:((x:Int) == 1)=false:=by simp;omega
   rw[hb];simp[h]
 | x::y::l=>
  have hb:((l.length:Int)+1+1 == 1)=false:=by simp;omega
  simp[zmX,hb];exact hO false (by simp)
theorem zHj (neg:Bool) (n:Nat) (hn:(lim n).length≤1000) (H:zaa) (K:Kt) (hK:K (.agg (zai (if neg=true then -(n:Int) else n))) H) :
  ACalls tP zjC [.agg [.bool neg,.sl (zal (lim n)) .none,.sl (zal [1]) .none]] H K:=by
 refine ACalls.out (zBC λhs=>?_);by_cases h0:n=0
 ·subst h0;have e0:(if neg=true then -((0:Nat):Int) else ((0:Nat):Int))=0:=by cases neg <;> rfl
  have e1:zai 0=[.bool false,.sl [] .none,.sl [[.int .u32 1]] .none]:=by simp[zai,zal]
  rw[e0,e1]at hK;simp[zma,zau,zaQ,plain,AV.pd,zaq,zaI,zcs,Nat.add_assoc];exact Out.one hs (WkV.agg (ds:=[.bool false,.sl [] .none,.sl [[.int .u32 1]] .none]) ⟨.refl _,.snil,.sl _ _,trivial⟩) rfl (by simp[AV.scV,AV.scA,AV.scB]) hK
 ·have hp:0<(lim n).length:=by rw[zce h0];simp
  have hb:(((lim n).length:Int) == 0)=false:=by generalize (lim n).length=q at hp;simp;omega
  have e1:zai (if neg=true then -(n:Int) else n)=[.bool neg,.sl (zal (lim n)) .none,.sl (zal [1]) .none]:=by
   cases neg
   ·simp[zai]
   ·simp[zai];omega
  rw[e1]at hK;simp[zma,hb,Nat.add_assoc];refine zpT [1] (by simp) _ _ ?_;simp[Nat.add_assoc];exact Out.one hs (WkV.agg (ds:=[.bool neg,.sl (zal (lim n)) .none,.sl (zal [1]) .none]) ⟨.refl _,.sl _ _,.sl _ _,trivial⟩) rfl (by simp[AV.scV,AV.scA,AV.scB]) hK
theorem zkD (neg:Bool) (n:Nat) (hn:(lim n).length≤1000) {z:Int} (hz:(if neg=true then -(n:Int) else n)=z) (H:zaa) (K:Kt) (hK:K (.agg (zai z)) H) :
  ACalls tP zeW [.agg [.bool neg,.sl (zal (lim n)) .none,.sl (zal [1]) .none]] H K:=by
 refine ACalls.out (zAS λhs=>?_);simp[zsj,Nat.add_assoc];refine zHj neg n hn _ _ ?_;rw[hz];simp[zai,zaq,zaI,zcs,AV.known,Nat.add_assoc];exact zcv hs hK
theorem zgm (z:Int) (hz:(lim z.natAbs).length≤1000) (H:zaa) (K:Kt) (hK:K (.agg (zai z)) H):ACalls tP zes [.agg (zai z)] H K:=by
 refine ACalls.out (zAU λhs=>?_);simp[zsn,zai,Nat.add_assoc];refine zaB (.sl (zal (lim z.natAbs)) .none) (λJ=>zkh _ (zhz _) (by omega) _ _ (by rw[zbg];exact⟨rfl,rfl⟩)) ?_;refine zaB (.sl (zal [1]) .none) (λJ=>zkh [1] (by simp) (by simp) _ _ (by simp[zan,zc0])) ?_;by_cases h0:z=0
 ·subst h0;have e1:zai 0=[.bool false,.sl [] .none,.sl [[.int .u32 1]] .none]:=by simp[zai,zal]
  rw[e1]at hK;simp[zau,zaQ,plain,AV.pd,zaq,zaI,zcs,Nat.add_assoc];exact Out.one hs (WkV.agg (ds:=[.bool false,.sl [] .none,.sl [[.int .u32 1]] .none]) ⟨.refl _,.snil,.sl _ _,trivial⟩) rfl (by simp[AV.scV,AV.scA,AV.scB]) hK
 ·have hp:0<(lim z.natAbs).length:=by rw[zce (by omega)];simp
  have hb:(((lim z.natAbs).length:Int) == 0)=false:=by generalize (lim z.natAbs).length=q at hp;simp;omega
  simp[hb,zaq,zaI,zcs,AV.known,Nat.add_assoc];exact zcv hs hK
theorem zpZ (n:Nat) (hn:n<9223372036854775808) (H:zaa) (K:Kt) (hK:K (.sl (zal (lim n)) .none) H):ACalls tP zhK [.int .i64 n] H K:=by
 refine ACalls.out (zLp λhs=>?_);have w1:IntKind.u64.wrap (n:Int)=n:=zbm (by omega);have h0:¬ ((n:Int)<0):=by omega
 simp[zAR,h0,w1];refine zpG n (by omega) _ _ ?_;exact Out.one0 hs (.atom (.sl _ _)) rfl rfl hK
theorem zeF (n:Nat) (hn:n<9223372036854775808) (H:zaa) (K:Kt) (hK:K (.agg (zai n)) H):ACalls tP zdz [.int .i64 n] H K:=by
 refine ACalls.out (zVv λhs=>?_);have h0:decide ((n:Int)<0)=false:=by simp
 have hl:=zbJ (n:=n) (k:=3) (by omega);simp[zEh,Nat.add_assoc];refine zpZ n hn _ _ ?_;simp[h0,zau,zaQ,plain,AV.pd,zaq,zaI,zcs,AV.known,Nat.add_assoc];refine ACalls.wk (args':=[.agg [.bool false,.sl (zal (lim n)) .none,.sl (zal [1]) .none]]) (zkD false n (by omega) (z:=n) (by simp) _ _ ?_) ⟨.agg ⟨.refl _,.refl _,.sl _ _,trivial⟩,trivial⟩;simp[zeY,Nat.add_assoc];exact zcv hs hK
theorem zhF (a b:Nat) (ha:a<1000000000 ^ 30) (hb:b<1000000000 ^ 30) (H:zaa) (K:Kt) (hK:K (.sl (zal (lim (a*b))) .none) H):ACalls tP zdN [.sl (zal (lim a)) .none,.sl (zal (lim b)) .none] H K:=by have h1:=zbJ ha;have h2:=zbJ hb;refine zHx (lim a) (lim b) (zbT a) (zbT b) (by omega) (by omega) _ _ ?_;rw[zbg,zbg];exact hK
theorem zx9 (H:zaa) (K:Kt) (hK:K (.sl (zal [1]) .none) H):ACalls tP zdN [.sl (zal [1]) .none,.sl (zal [1]) .none] H K:=by have:=zhF 1 1 zeX zeX H K (by rw[Nat.mul_one,zc0];exact hK);rwa [zc0]at this
theorem zn7 (a b:Int) (ha:Sm a) (hb:Sm b) (H:zaa) (K:Kt) (hK:K (.agg (zai (a*b))) H):ACalls tP zfB [.agg (zai a),.agg (zai b)] H K:=by refine ACalls.out (zEm λhs=>?_);have la:=ha.len;have lb:=hb.len;have hm:=zbJ (zye ha hb);simp[zve,zai,Nat.add_assoc];refine zaB (.agg (zai a)) (λJ=>zgm a (by omega) _ _ ⟨rfl,rfl⟩) ?_;refine zaB (.agg (zai b)) (λJ=>zgm b (by omega) _ _ ⟨rfl,rfl⟩) ?_;simp[zai,AV.known,Nat.add_assoc];refine zaB (.sl (zal (lim (a.natAbs*b.natAbs))) .none) (λJ=>zhF _ _ ha hb _ _ ⟨rfl,rfl⟩) ?_;refine zaB (.sl (zal [1]) .none) (λJ=>zx9 _ _ ⟨rfl,rfl⟩) ?_;simp[zaq,zaI,zcs,AV.known,Nat.add_assoc];refine zaB (.agg (zai (a*b))) (λJ=>zkD _ _ (by omega) (zzp a b) _ _ ⟨rfl,rfl⟩) ?_;simp[Nat.add_assoc];exact zcv hs hK
theorem zGq (a b:Nat) (ha:(lim a).length≤1000) (hb:(lim b).length≤1000) (H:zaa) (K:Kt) (hK:K (.int .i64 (zcd a b)) H) :
  ACalls tP zjH [.sl (zal (lim a)) .none,.sl (zal (lim b)) .none] H K:=by
 refine ACalls.out (zP3 λhs=>?_);have hO:∀ r,r=zcd a b→Out H.length K (.int .i64 r) H:=λr hr=>Out.int (J:=[]) (by simp) (Nat.le_refl _) hs (by rw[hr];exact hK);have lA:=zbT a;have lB:=zbT b;have vA:=zbg a;have vB:=zbg b;by_cases aB:(lim a).length=(lim b).length
 ·simp[zmC,aB];generalize hLA:lim a=A at *;generalize hLB:lim b=B at *;have eK:IntKind.i64.wrap ((B.length:Int)-1)=(B.length:Int)-1:=zaw (by omega) (by omega);rw[eK];refine zP1 (Inv:=λq t5 H'=>∃ i:Nat,i≤B.length∧i=q∧t5=.int .i64 ((i:Int)-1)∧H'=H∧A.drop i=B.drop i) B.length ?_ ?_
  ·intro _;exact⟨B.length,by omega,rfl,rfl,rfl,by rw[List.drop_of_length_le (by omega),List.drop_of_length_le (by omega)]⟩
  ·rintro q t5 H' ⟨i,hi,rfl,rfl,rfl,hd⟩ aJ am aM Kb au;by_cases h0:i=0
   ·subst h0;simp[ziG];refine hO _ ?_;simp at hd;rw[←vA,←vB,hd];simp[zcd]
   ·obtain⟨j,rfl⟩:∃ j,i=j+1:=⟨i-1,by omega⟩;have dJ:j<A.length:=by omega
    have gk:j<B.length:=by omega
    have ej:((j+1:Nat):Int)-1=(j:Int):=by omega
    have aq:IntKind.i64.wrap ((j:Int)-1)=(j:Int)-1:=zaw (by omega) (by omega);rw[ej];rcases Nat.lt_trichotomy A[j] B[j] with h | h | h
    ·have:=zjp aB lA j dJ hd h;simp[ziG,dJ,gk,h];exact hO _ (by rw[←vA,←vB];simp[zcd,this])
    ·simp[ziG,dJ,gk,h,aq];refine au _ _ ⟨j,by omega,Back.here (by simp) hs (by simp[zmE,ux,AV.sc,AV.scA,AV.scB,AV.scV]) ⟨_,rfl,j,by omega,rfl,rfl,rfl,?_⟩⟩;rw[List.drop_eq_getElem_cons dJ,List.drop_eq_getElem_cons gk,hd,h]
    ·have:=zjp aB.symm lB j gk hd.symm h;simp[ziG,dJ,gk,h,Nat.le_of_lt h,Nat.not_lt.2 (Nat.le_of_lt h)];exact hO _ (by rw[←vA,←vB];simp[zcd,this,Nat.not_lt.2 (Nat.le_of_lt this)])
 ·have gb:(((lim a).length:Int) != ((lim b).length:Int))=true:=by simp;omega
  by_cases ak:(lim a).length<(lim b).length
  ·have:=zhB ak;simp[zmC,gb,ak];exact hO (-1) (by simp[zcd,this])
  ·have:=zhB (show (lim b).length<(lim a).length by omega);simp[zmC,gb,ak];exact hO 1 (by simp[zcd,this,Nat.not_lt.2 (Nat.le_of_lt this)])
theorem zGH (A:List Nat) (lA:∀ x∈A,x<1000000000) (ha:A.length≤1000) (d:Nat) (dj:0<d) (hd:d<4294967296) (hdB:d≤1000000000) (H:zaa) (K:Kt)
  (hK:K (.tup [.sl (zal (lim (zan A / d))) .none,.int .u64 ((zan A % d:Nat):Int)]) H) :
  ACalls tP zqF [.sl (zal A) .none,.int .u64 d] H K:=by
 refine ACalls.out (zSe λhs=>?_);have aR:IntKind.i64.wrap ((A.length:Int)-1)=(A.length:Int)-1:=zaw (by omega) (by omega);simp[zDa,zbe,aR];rw[zis];refine⟨⟨by omega,by omega⟩,?_⟩;have hsc:∀ O:List Nat,HSc (H++[.cells (us O)]):=λO=>hs.append (by simp[AB.sc,us,AV.scA,AV.scB]);refine zSc (Inv:=λq t7 t8 H'=>∃ (i r:Nat) (O:List Nat),i≤A.length∧i=q∧t8=.int .i64 ((i:Int)-1)∧t7=.int .u64 r∧r<d∧O.length=A.length∧(∀ x∈O,x<1000000000) ∧
  zan (A.drop i)=d*zan (O.drop i)+r∧H'=H++[.cells (us O)]) A.length ?_ ?_
 ·intro _;exact⟨A.length,0,_,by omega,rfl,rfl,rfl,by omega,by simp,by simp,by simp[zan],rfl⟩
 ·rintro q t7 t8 H' ⟨i,r,O,hi,rfl,rfl,rfl,hr,dK,hO,hv,rfl⟩ aJ am aM Kb au;by_cases h0:i=0
  ·subst h0;simp[zuc];rw[List.drop_zero,List.drop_zero]at hv;rw[←dK];refine zz1 O hO (by omega) (by simp) ?_;have e1:zan A / d=zan O:=by rw[hv,Nat.mul_add_div dj,Nat.div_eq_of_lt hr];simp
   have e2:zan A % d=r:=by rw[hv,Nat.mul_add_mod,Nat.mod_eq_of_lt hr]
   rw[e1,e2]at hK;simp;exact⟨⟨rfl,rfl⟩,Out.tup (bs:=[.sl (zal (lim (zan O))) .none,.int .u64 (r:Int)]) hs hK ⟨slV,zaY rfl rfl,trivial⟩⟩
  ·obtain⟨j,rfl⟩:∃ j,i=j+1:=⟨i-1,by omega⟩;have dJ:j<A.length:=by omega
   have kx:j<O.length:=by omega
   have eZ:=lA A[j] (List.getElem_mem dJ);have ej:((j+1:Nat):Int)-1=(j:Int):=by omega
   have aq:IntKind.i64.wrap ((j:Int)-1)=(j:Int)-1:=zaw (by omega) (by omega);have hrB:r*1000000000≤1000000000*1000000000:=Nat.mul_le_mul_right _ (by omega);obtain⟨m,hm⟩:∃ m,m=r*1000000000:=⟨_,rfl⟩;have w1:IntKind.u64.wrap ((r:Int)*1000000000)=(m:Int):=by rw[show (r:Int)*1000000000=(m:Int) by omega];exact zbm (by omega)
   have w2:IntKind.u64.wrap ((A[j]:Nat):Int)=A[j]:=zbm (by omega);obtain⟨s,a7⟩:∃ s,s=m+A[j]:=⟨_,rfl⟩;have w3:IntKind.u64.wrap ((m:Int)+(A[j]:Nat))=(s:Int):=by rw[a7,←Int.natCast_add];exact zbm (by omega)
   obtain⟨x,c,bC,bg,e1,e2⟩:=zpz s d dj (by omega);have mo:c<1000000000:=by
    refine Nat.lt_of_not_le λh=>?_;have h1:d*1000000000≤d*c:=Nat.mul_le_mul_left _ h;have h2:r*1000000000+1000000000≤d*1000000000:=by rw[←Nat.succ_mul];exact Nat.mul_le_mul_right _ hr
    omega
   have w4:IntKind.u32.wrap (c:Int)=c:=zcp (by omega);rw[ej];simp only[zuc];simp[dJ,w1,w2,w3,e1,e2,w4,aq,zkS O j c kx,dK];refine⟨by omega,au _ _ ⟨j,by omega,Back.here (by simp) (hsc _) (by simp[zna,ux,AV.sc,AV.scA,AV.scB,AV.scV]) ⟨_,_,rfl,j,x,O.set j c,by omega,rfl,rfl,rfl,bC,by simp[dK],zrw hO mo,?_,rfl⟩⟩⟩;rw[zhC A j dJ,zhC (O.set j c) j (by simpa using kx),List.getElem_set_self,List.drop_set_of_lt (by omega),hv];rw[a7,hm]at bg;generalize zan (O.drop (j+1))=Z at *;grind
theorem zxl (a b:Nat) (ha:(lim a).length≤1000) (bE:0<b) (hb:b<1000000000) (H:zaa) (K:Kt)
  (hK:K (.tup [.sl (zal (lim (a / b))) .none,.sl (zal (lim (a % b))) .none]) H) :
  ACalls tP zhQ [.sl (zal (lim a)) .none,.sl (zal (lim b)) .none] H K:=by
 refine ACalls.out (zRb λhs=>?_);have cv:lim b=[b]:=zeT (by omega) hb;simp only[zCS];refine zGq a b ha (by rw[cv];simp) _ _ ?_;have fV:(zcd a b<0)↔a<b:=by
  unfold zcd;split
  ·simp;assumption
  ·split <;> simp <;> omega
 by_cases ak:a<b
 ·simp[fV,ak];rw[Nat.div_eq_of_lt ak,Nat.mod_eq_of_lt ak,zxV]at hK;simp[zav,zaM,zaJ];refine⟨zd8 _,⟨by omega,by omega⟩,⟨rfl,rfl⟩,?_⟩;exact Out.tup (bs:=[.sl (zal []) .none,.sl (zal (lim a)) .none]) hs hK ⟨zdE,slV,trivial⟩
 ·have w1:IntKind.u64.wrap (b:Int)=b:=zbm (by omega);have hm:a % b<b:=Nat.mod_lt _ bE;simp[fV,ak,cv,w1];refine zGH (lim a) (zbT a) ha b bE (by omega) (by omega) _ _ ?_;rw[zbg];simp;refine zpG (a % b) (by omega) _ _ ?_;refine⟨⟨rfl,rfl⟩,?_⟩;exact Out.tup0 (bs:=[.sl (zal (lim (a / b))) .none,.sl (zal (lim (a % b))) .none]) hs hK ⟨slV,slV,trivial⟩
theorem zAp (n:Nat) (hn:n<1000000000000000000) (H:zaa) (K:Kt) (hK:K (.tup [.int .u64 n,.bool true]) H):ACalls tP zjU [.sl (zal (lim n)) .none] H K:=by
 refine ACalls.out (zR8 λhs=>?_);have eW:(lim n).length≤2:=zbJ (by omega);have lA:=zbT n;have vA:=zbg n;generalize lim n=L at *;simp[zC8];refine zR6 (Inv:=λq t4 t9 H'=>∃ i:Nat,i≤L.length∧L.length-i=q∧t9=.int .i64 i∧t4=.int .u64 ((zan (L.drop (L.length-i)):Nat):Int)∧H'=H) L.length ?_ ?_
 ·intro _;exact⟨0,by omega,rfl,rfl,by simp[zan],rfl⟩
 ·rintro q t4 t9 H' ⟨i,hi,rfl,rfl,rfl,rfl⟩ aJ am aM Kb au;by_cases ak:i<L.length
  ·have w1:IntKind.i64.wrap ((L.length:Int)-1)=((L.length-1:Nat):Int):=by rw[zaw (by omega) (by omega)];omega
   have w2:IntKind.i64.wrap (((L.length-1:Nat):Int)-i)=((L.length-1-i:Nat):Int):=by rw[zaw (by omega) (by omega)];omega
   have hj:L.length-1-i<L.length:=by omega
   have hx:=lA L[L.length-1-i] (List.getElem_mem hj);obtain⟨x,ec⟩:∃ x,x=L[L.length-1-i]:=⟨_,rfl⟩;have w3:IntKind.u64.wrap ((L[L.length-1-i]:Nat):Int)=(x:Int):=by rw[←ec];exact zbm (by omega)
   have bF:=zhC L (L.length-1-i) hj;rw[show L.length-1-i+1=L.length-i by omega,←ec]at bF;have fL:zan (L.drop (L.length-i))<1000000000:=by
    have h1:=zdM (L.drop (L.length-i)) (λy hy=>lA y (List.mem_of_mem_drop hy));have h2:(L.drop (L.length-i)).length≤1:=by simp;omega
    have h3:1000000000 ^ (L.drop (L.length-i)).length≤1000000000 ^ 1:=Nat.pow_le_pow_right (by omega) h2;omega
   have aX:zan (L.drop (L.length-(i+1)))=zan (L.drop (L.length-i))*1000000000+x:=by rw[show L.length-(i+1)=L.length-1-i by omega,bF];omega
   generalize hW:zan (L.drop (L.length-i))=W at *;have w4:IntKind.u64.wrap (18446744073709551615-(x:Int))=((18446744073709551615-x:Nat):Int):=by rw[show (18446744073709551615:Int)-x=((18446744073709551615-x:Nat):Int) by omega];exact zbm (by omega)
   obtain⟨y,mE⟩:∃ y,y=18446744073709551615-x:=⟨_,rfl⟩;rw[←mE]at w4;obtain⟨r,c,eU,du,kY,e1,e2⟩:=zgi y (by omega);have hc:¬ (c<W):=by omega
   have w5:IntKind.u64.wrap ((W:Int)*1000000000)=((W*1000000000:Nat):Int):=by rw[show (W:Int)*1000000000=((W*1000000000:Nat):Int) by omega];exact zbm (by omega)
   obtain⟨m,cX⟩:∃ m,m=W*1000000000:=⟨_,rfl⟩;rw[←cX]at w5;obtain⟨s,iM⟩:∃ s,s=m+x:=⟨_,rfl⟩;have w6:IntKind.u64.wrap ((m:Int)+x)=(s:Int):=by rw[iM,←Int.natCast_add];exact zbm (by omega)
   simp only[zua];simp[ak,w1,w2,hj,w3,w4,e2,hc,w5,w6,wi i (by omega)];exact au _ _ ⟨L.length-(i+1),by omega,Back.here (by simp) hs (by simp[zm8,ux,AV.sc,AV.scA,AV.scB,AV.scV]) ⟨_,_,rfl,i+1,by omega,rfl,rfl,by rw[aX,iM,cX],rfl⟩⟩
  ·obtain rfl:i=L.length:=by omega
   rw[Nat.sub_self,List.drop_zero,vA];simp[zua];exact⟨⟨rfl,rfl⟩,Out.tup0 (bs:=[.int .u64 (n:Int),.bool true]) hs hK ⟨zaY rfl rfl,zaY rfl rfl,trivial⟩⟩
theorem zGS (a b:Nat) (ha:a<1000000000000000000) (hb:b<1000000000000000000) (H:zaa) (K:Kt) (hK:K (.sl (zal (lim (Nat.gcd a b))) .none) H) :
  ACalls tP zqB [.sl (zal (lim a)) .none,.sl (zal (lim b)) .none] H K:=by
 refine ACalls.out (zQ5 λhs=>?_);have la:(lim a).length≤2:=zbJ (by omega);have lb:(lim b).length≤2:=zbJ (by omega);unfold zCN;refine zQ2 (Inv:=λq t0 t1 H'=>t0=.sl (zal (lim a)) .none∧t1=.sl (zal (lim b)) .none∧H'=H) 0 ?_ ?_
 ·intro _;exact⟨rfl,rfl,rfl⟩
 ·rintro q t0 t1 H' ⟨rfl,rfl,rfl⟩ aJ am aM Kb au;by_cases h0:b=0
  ·subst h0;rw[Nat.gcd_zero_right]at hK;simp[ztS];exact Out.one0 hs (.atom (.sl _ _)) rfl rfl hK
  ·have hp:0<(lim b).length:=by rw[zce h0];simp
   have ik:decide (((lim a).length:Int)≤2)=true:=by simp;omega
   have cv:decide (((lim b).length:Int)≤2)=true:=by simp;omega
   simp[ztS,hp,ik,cv];refine zAp a ha _ _ ?_;simp;refine zAp b hb _ _ ?_;simp;refine zQ3 (Inv:=λq t5 t7 H2=>∃ x y:Nat,y=q∧t5=.int .u64 x∧t7=.int .u64 y∧x<1000000000000000000∧y<1000000000000000000∧Nat.gcd x y=Nat.gcd a b∧H2=H') b ?_ ?_
   ·intro _;exact⟨a,b,rfl,rfl,rfl,ha,hb,rfl,rfl⟩
   ·rintro q t5 t7 H2 ⟨x,y,rfl,rfl,rfl,hx,hy,hg,rfl⟩ ck dY g9 Kb2 bB;by_cases mE:y=0
    ·subst mE;rw[Nat.gcd_zero_right]at hg;subst hg;simp[ztT];refine zpG _ (by omega) _ _ ?_;exact Out.one0 hs (.atom (.sl _ _)) rfl rfl hK
    ·obtain⟨r,c,eU,du,e1,_⟩:=zpz x y (by omega) (by omega);simp only[ztT];simp[show 0<y by omega,e1];refine bB _ _ ⟨r,by omega,Back.here (by simp) hs (by simp[zmY,ux,AV.sc,AV.scA,AV.scB,AV.scV]) ⟨_,_,rfl,y,r,rfl,rfl,rfl,hy,by omega,?_,rfl⟩⟩;have gP:r=x % y:=by rw[du,Nat.add_mul_mod_self_left,Nat.mod_eq_of_lt eU]
     rw[←hg,gP,Nat.gcd_comm x y,Nat.gcd_rec y x,Nat.gcd_comm]
def zbK (neg:Bool) (n d:Nat):List AV:=[.bool neg,.sl (zal (lim n)) .none,.sl (zal (lim d)) .none]
@[simp] theorem ybO (b:Bool) (n d:Nat):(zbK b n d).length=3:=rfl
@[simp] theorem ybN (b:Bool) (n d:Nat):(∀ x∈zbK b n d,x.known=true)=True:=by simp[zbK,AV.known]
@[simp] theorem ybP (b:Bool) (n d:Nat):List.take 3 (zbK b n d)=zbK b n d:=rfl
theorem zgy {H J:zaa} {K:Kt} {b:Bool} {n d:Nat} (hs:HSc H) (hK:K (.agg (zbK b n d)) H):Out H.length K (.agg (zbK b n d)) (H++J):=Out.one hs .rfl' rfl rfl hK
theorem zjm {n:Nat}:lim n=[1]↔n=1:=by
 constructor
 ·intro h;have:=zbg n;rw[h]at this;simp[zan]at this;omega
 ·rintro rfl;exact zc0
theorem zHi (neg:Bool) (n d:Nat) (fm:n≠0) (dj:d≠0) (hn:n<1000000000000000000) (hd:d<1000000000000000000) (hg:Nat.gcd n d<1000000000) (H:zaa) (K:Kt) (hK:K (.agg (zbK neg (n / Nat.gcd n d) (d / Nat.gcd n d))) H) :
  ACalls tP zjC [.agg (zbK neg n d)] H K:=by
 refine ACalls.out (zBC λhs=>?_);have ln:(lim n).length≤2:=zbJ (by omega);have ld:(lim d).length≤2:=zbJ (by omega);have hp:0<(lim n).length:=by rw[zce fm];simp
 have hb:(((lim n).length:Int) == 0)=false:=by generalize (lim n).length=q at hp;simp;omega
 have dM:0<Nat.gcd n d:=Nat.gcd_pos_of_pos_left d (by omega);have lg:(lim (Nat.gcd n d)).length≤2:=zbJ (by omega);simp[zma,zbK,hb,Nat.add_assoc];refine zpT (lim d) (by omega) _ _ ?_;by_cases gU:d=1
 ·subst gU;rw[Nat.gcd_one_right,Nat.div_one,Nat.div_one]at hK;simp[zjm,Nat.add_assoc];exact zgy hs hK
 ·simp[zjm,gU,Nat.add_assoc];refine zGS n d hn hd _ _ ?_;refine zpT _ (by omega) _ _ ?_;by_cases f8:Nat.gcd n d=1
  ·rw[f8,Nat.div_one,Nat.div_one]at hK;simp[zjm,f8,Nat.add_assoc];exact zgy hs hK
  ·simp[zjm,f8,Nat.add_assoc];refine zxl n _ (by omega) dM hg _ _ ?_;simp[Nat.add_assoc];refine zxl d _ (by omega) dM hg _ _ ?_;simp[zaq,zaI,zcs,AV.known,Nat.add_assoc];exact zgy hs hK
theorem zzy (neg:Bool) (n d:Nat) (fm:n≠0) (dj:d≠0) (hn:n<1000000000000000000) (hd:d<1000000000000000000) (hg:Nat.gcd n d<1000000000) (H:zaa) (K:Kt) (hK:K (.agg (zbK neg (n / Nat.gcd n d) (d / Nat.gcd n d))) H) :
  ACalls tP zeW [.agg (zbK neg n d)] H K:=by
 refine ACalls.out (zAS λhs=>?_);simp[zsj,zbK,Nat.add_assoc];refine zHi neg n d fm dj hn hd hg _ _ ?_;simp[zbK,zaq,zaI,zcs,AV.known,Nat.add_assoc];exact zgy hs hK
theorem zR0 (a b:Nat) (iH:a≠0) (bE:b≠0) (ha:a<1000000000) (hb:b<1000000000) (H:zaa) (K:Kt) (hK:K (.agg (zbK false (a / Nat.gcd a b) (b / Nat.gcd a b))) H) :
  ACalls tP zqE [.int .i64 a,.int .i64 b] H K:=by
 refine ACalls.out (zRZ λhs=>?_);have h0:decide ((a:Int)<0)=false:=by simp
 have h1:decide ((b:Int)<0)=false:=by simp
 have h2:((b:Int) == 0)=false:=by simp;omega
 have hg:Nat.gcd a b<1000000000:=Nat.lt_of_le_of_lt (Nat.gcd_le_right a (by omega)) hb;simp[zC5,h2,h0,h1,Nat.add_assoc];refine zpZ a (by omega) _ _ ?_;refine zpZ b (by omega) _ _ ?_;simp[zaq,zaI,zcs,AV.known,Nat.add_assoc];refine zzy false a b iH bE (by omega) (by omega) hg _ _ ?_;simp[Nat.add_assoc];exact zgy hs hK
theorem zxW (neg:Bool) (n d:Nat) (fm:n≠0) (dj:d≠0) (hn:(lim n).length≤1000) (hd:(lim d).length≤1000) (H:zaa) (K:Kt) (hK:K (.agg (zbK neg n d)) H):ACalls tP zes [.agg (zbK neg n d)] H K:=by
 refine ACalls.out (zAU λhs=>?_);have hz:∀ m:Nat,m≠0→(((lim m).length:Int) == 0)=false:=λm hm=>by
  have hp:0<(lim m).length:=by rw[zce hm];simp
  generalize (lim m).length=q at hp;simp;omega
 simp[zsn,zbK,Nat.add_assoc];refine zaB (.sl (zal (lim n)) .none) (λJ=>zkh _ (zhz _) (by omega) _ _ (by rw[zbg];exact⟨rfl,rfl⟩)) ?_;refine zaB (.sl (zal (lim d)) .none) (λJ=>zkh _ (zhz _) (by omega) _ _ (by rw[zbg];exact⟨rfl,rfl⟩)) ?_;simp[hz n fm,hz d dj,zaq,zaI,zcs,AV.known,Nat.add_assoc];exact zgy hs hK
theorem zyW (n:Nat):zbK false n 1=zai (n:Int):=by unfold zbK zai;rw[zc0,Int.natAbs_natCast,decide_eq_false (by omega)]
theorem zHr (a:Nat) (ha:a<1000000000 ^ 30) (H:zaa) (K:Kt) (hK:K (.sl (zal (lim a)) .none) H):ACalls tP zdN [.sl (zal [1]) .none,.sl (zal (lim a)) .none] H K:=by have:=zhF 1 a zeX ha H K (by rw[Nat.one_mul];exact hK);rwa [zc0]at this
theorem zFp (c p q r:Nat) (cZ:p≠0) (lx:q≠0) (cH:c≠0) (hp:p<1000000000) (hq:q<1000000000) (lu:c*p<1000000000000000000) (hr:c*p=r*q) (H:zaa) (K:Kt) (hK:K (.agg (zai (r:Int))) H) :
  ACalls tP zfB [.agg (zai (c:Int)),.agg (zbK false p q)] H K:=by
 refine ACalls.out (zEm λhs=>?_);have hc:c<1000000000000000000:=Nat.lt_of_le_of_lt (Nat.le_mul_of_pos_right c (by omega)) lu;have lc:=zbJ (n:=c) (k:=2) (by omega);have lp:=zbJ (n:=p) (k:=1) (by omega);have lq:=zbJ (n:=q) (k:=1) (by omega);have b30:(1000000000000000000:Nat)≤1000000000 ^ 30:=by decide
 have hg:Nat.gcd (c*p) q=q:=by rw[hr];exact Nat.gcd_eq_right (Nat.dvd_mul_left q r)
 have hcp0:c*p≠0:=Nat.mul_ne_zero cH cZ;rw[←zyW c];simp[zve,zbK,Nat.add_assoc];refine zaB (.agg (zbK false c 1)) (λJ=>zxW false c 1 cH (by omega) (by omega) (by rw[zc0];simp) _ _ ⟨rfl,rfl⟩) ?_;refine zaB (.agg (zbK false p q)) (λJ=>zxW false p q cZ lx (by omega) (by omega) _ _ ⟨rfl,rfl⟩) ?_;simp[zbK,AV.known,Nat.add_assoc];refine zaB (.sl (zal (lim (c*p))) .none) (λJ=>zhF _ _ (by omega) (by omega) _ _ ⟨rfl,rfl⟩) ?_;rw[zc0];refine zaB (.sl (zal (lim q)) .none) (λJ=>zHr _ (by omega) _ _ ⟨rfl,rfl⟩) ?_;simp[zaq,zaI,zcs,AV.known,Nat.add_assoc];refine zaB (.agg (zai (r:Int))) (λJ=>zzy false (c*p) q hcp0 lx lu (by omega) (by rw[hg];exact hq) _ _ (by
  rw[hg,Nat.div_self (by omega),hr,Nat.mul_div_cancel _ (by omega),zyW];exact⟨rfl,rfl⟩)) ?_
 simp[Nat.add_assoc];exact zcv hs hK
theorem zw6:∀ {n k:Nat},k≤n→0<chs n k
 | n,0,_=>by simp
 | n+1,k+1,h=>by have:=zw6 (n:=n) (k:=k) (by omega);rw[chs];omega
theorem zxs (n k:Nat) (hn:n≤900) (hk:k≤6) (H:zaa) (K:Kt) (hK:K (.agg (zai (chs n k))) H):ACalls tP zjI [.int .i64 n,.int .i64 k] H K:=by
 refine ACalls.out (zQf λhs=>?_);simp[zCz,Nat.add_assoc];refine zeF 1 (by omega) _ _ ?_;simp[Nat.add_assoc];have hsc:∀ z:Int,HSc (H++[.cells [.bool false,.snil,.snil],.cells (zai z)]):=λz=>hs.append (by simp[AB.sc,zai,AV.scA,AV.scB]);refine zQd (Inv:=λq t9 H'=>∃ i:Nat,i≤k∧i≤n∧k-i=q∧t9=.int .i64 i∧H'=H++[.cells [.bool false,.snil,.snil],.cells (zai ((chs n i:Nat):Int))]) k ?_ ?_
 ·intro _;exact⟨0,by omega,by omega,rfl,rfl,by simp⟩
 ·rintro q t9 H' ⟨i,hi,jW,rfl,rfl,rfl⟩ aJ am aM Kb au;by_cases ak:i<k
  ·by_cases jY:n=i
   ·subst jY;rw[zhh ak]at hK;simp[zmI,ak,Nat.add_assoc];refine zeF 0 (by omega) _ _ ?_;simp[Nat.add_assoc];exact zcv hs hK
   ·have hb:((n:Int) == (i:Int))=false:=by simp;omega
    have kC:chs n i≤900 ^ 5:=by refine Nat.le_trans (zjd n i) (Nat.le_trans (Nat.pow_le_pow_left hn i) (Nat.pow_le_pow_right (by omega) (by omega)))
    have w1:IntKind.i64.wrap ((n:Int)-i)=((n-i:Nat):Int):=by rw[zaw (by omega) (by omega)];omega
    obtain⟨d,hd⟩:∃ d,d=n-i:=⟨_,rfl⟩;rw[←hd]at w1;obtain⟨j,hj⟩:∃ j,j=i+1:=⟨_,rfl⟩;have w2:IntKind.i64.wrap ((i:Int)+1)=(j:Int):=by rw[wi i (by omega),hj]
    have dM:0<Nat.gcd d j:=Nat.gcd_pos_of_pos_left j (by omega);have hp:=Nat.div_mul_cancel (Nat.gcd_dvd_left d j);have hq:=Nat.div_mul_cancel (Nat.gcd_dvd_right d j);have aq:=zje n i;rw[←hd,←hj]at aq;have hpd:=Nat.div_le_self d (Nat.gcd d j);have hqj:=Nat.div_le_self j (Nat.gcd d j);have cZ:d / Nat.gcd d j≠0:=λh=>by rw[h]at hp;omega
    have lx:j / Nat.gcd d j≠0:=λh=>by rw[h]at hq;omega
    have hr:chs n i*(d / Nat.gcd d j)=chs n j*(j / Nat.gcd d j):=by refine Nat.eq_of_mul_eq_mul_right dM ?_;rw[Nat.mul_assoc,hp,Nat.mul_assoc,hq,←aq,Nat.mul_comm]
    have kH:chs n i*(d / Nat.gcd d j)<1000000000000000000:=Nat.lt_of_le_of_lt (Nat.mul_le_mul kC (Nat.le_trans hpd (show d≤900 by omega))) (by decide);simp[zmI,ak,hb,w1,w2,Nat.add_assoc];refine zaB (.agg (zbK false (d / Nat.gcd d j) (j / Nat.gcd d j))) (λJ=>zR0 d j (by omega) (by omega) (by omega) (by omega) _ _ ⟨rfl,rfl⟩) ?_;refine zaB (.agg (zai ((chs n j:Nat):Int))) (λJ=>zFp _ _ _ _ cZ lx (by have:=zw6 jW;omega) (by omega) (by omega) kH hr _ _ ⟨rfl,rfl⟩) ?_;simp[Nat.add_assoc];exact au _ _ ⟨k-(i+1),by omega,Back.here (by simp) (hsc _) (by simp[zmJ,ux,AV.sc,AV.scA,AV.scB,AV.scV]) ⟨_,rfl,j,by omega,by omega,by omega,rfl,rfl⟩⟩
  ·obtain rfl:i=k:=by omega
   simp[zmI,Nat.add_assoc];exact zcv hs hK
theorem zyG {H:zaa} {K:Kt} (R:List Nat) (hs:HSc H) (hK:K (.sl (zal R) .none) H):Out H.length K (.ov H.length R.length) (H++[.vec za5 1 R.length (us R)]):=
 ⟨.sl (zal R) .none,H,[.vec za5 1 R.length (us R)],rfl,Nat.le_refl _,hs,.one (.vfz H.length za5 1 R.length (us R) (zal R) (Nat.le_refl _) (by simp) (by rw[zkR,zir]) (by simp) (zd8 R)),hK⟩
theorem zwC (A B:List Nat) (lA:∀ x∈A,x<1000000000) (lB:∀ x∈B,x<1000000000) (ha:A.length≤1000) (hb:B.length≤A.length) (cA:lim (zan A)=A) (H:zaa) (K:Kt) (hs:HSc H)
  (hK:K (.sl (zal (lim (zan A+zan B))) .none) H):zmz (.sl (zal A) .none) (.sl (zal B) .none) H (Out H.length K):=by
 have hsc:∀ R:List Nat,HSc (H++[.vec za5 1 R.length (us R)]):=λA=>hs.append (by simp[AB.sc,us,AV.scA,AV.scB]);simp[zmz,wi A.length (by omega)];refine⟨⟨by omega,by omega,by omega⟩,?_⟩;refine zPU (Inv:=λq t5 t6 t22 H'=>∃ (i c:Nat) (R:List Nat),i≤A.length∧A.length-i=q∧t22=.int .i64 i∧t6=.int .u32 c∧t5=.ov H.length R.length∧R.length=i∧(∀ x∈R,x<1000000000)∧c≤1 ∧
  zan R+1000000000 ^ i*c=zan (A.take i)+zan (B.take i)∧H'=H++[.vec za5 1 R.length (us R)]) A.length ?_ ?_
 ·intro _;exact⟨0,0,[],by omega,rfl,rfl,rfl,rfl,rfl,by simp,by omega,by simp[zan],rfl⟩
 ·rintro q t5 t6 t22 H' ⟨i,c,R,hi,rfl,rfl,rfl,rfl,ee,hR,hc,hv,rfl⟩ aJ am aM Kb au;by_cases ak:i<A.length
  ·have eL : ∀ (s : Nat), s ≤ 2 * 999999999 + 1 → s = c + A[i] + (if h : i < B.length then B[i] else 0) →
     zmA (.sl (zal A) .none) (.sl (zal B) .none) (.ov H.length R.length) (.int .u32 s) (.int .i64 A.length) (.int .i64 i) (H++[.vec za5 1 R.length (us R)]) (Out H.length K) Kb:=by
    intro s a7 br;obtain⟨x,c',bC,bg,e1,e2⟩:=zxm s (by omega);simp only[zmA];simp[e1,e2,zau,zaQ,plain,AV.pd,zav,zaM,zaJ,wi i (by omega)];refine⟨⟨by omega,by omega⟩,?_⟩;have e3:us R++[AV.int .u32 (x:Int)]=us (R++[x]):=by simp[us]
    rw[e3];refine au _ _ ⟨A.length-(i+1),by omega,Back.here (by simp) (by simpa using hsc (R++[x])) (by simp[zmy,ux,AV.sc,AV.scA,AV.scB,AV.scV]) ⟨_,_,_,rfl,i+1,c',R++[x],by omega,rfl,rfl,rfl,by simp,by simp[ee],?_,by omega,?_,by simp⟩⟩
    ·intro y hy;rcases List.mem_append.1 hy with hy | hy
     ·exact hR y hy
     ·simp at hy;omega
    ·have tk:zan (B.take (i+1))=zan (B.take i)+(if h:i<B.length then B[i] else 0)*1000000000 ^ i:=by
      by_cases h:i<B.length
      ·rw[dif_pos h,zdf B i h]
      ·rw[dif_neg h,List.take_of_length_le (by omega),List.take_of_length_le (by omega)];simp
     rw[zeq,tk,zdf A i ak,ee,Nat.pow_succ];generalize (if h:i<B.length then B[i] else 0)=v at *;grind
   have eZ:=lA A[i] (List.getElem_mem ak);obtain⟨s1,a7⟩:∃ s,s=A[i]+c:=⟨_,rfl⟩;have w1:IntKind.u32.wrap (((A[i]:Nat):Int)+(c:Int))=(s1:Int):=by rw[a7,←Int.natCast_add];exact zcp (by omega)
   by_cases hB:i<B.length
   ·have dx:=lB B[i] (List.getElem_mem hB);obtain⟨s2,br⟩:∃ s,s=s1+B[i]:=⟨_,rfl⟩;have w2:IntKind.u32.wrap ((s1:Int)+(B[i]:Nat))=(s2:Int):=by rw[br,←Int.natCast_add];exact zcp (by omega)
    simp[ziF,ak,hB,w1,w2];exact eL s2 (by omega) (by simp[hB];omega)
   ·simp[ziF,ak,hB,w1];exact eL s1 (by omega) (by simp[hB];omega)
  ·obtain rfl:i=A.length:=by omega
   rw[List.take_length,List.take_of_length_le hb]at hv;by_cases h0:c=0
   ·subst h0;simp[ziF,zmB];have bK:zan R=zan A+zan B:=by simpa using hv
    rw[←bK]at hK;have gm:R=lim (zan R):=by
     refine zpl hR ?_;by_cases iN:A.length=0
     ·omega
     ·have h3:=zjo (n:=zan A) (by intro h;have dc:=congrArg List.length cA;rw[h]at dc;simp at dc;omega);rw[cA]at h3;have:=zjn (n:=zan R) (k:=A.length-1) (by omega);omega
    rw[←gm]at hK;exact zyG R hs hK
   ·obtain rfl:c=1:=by omega
    simp[ziF,zmB,zau,zaQ,plain,AV.pd,zav,zaM,zaJ];refine⟨⟨by omega,by omega⟩,?_⟩;have e3:us R++[AV.int .u32 1]=us (R++[1]):=by simp[us]
    rw[e3];have bK:zan (R++[1])=zan A+zan B:=by rw[zeq,ee];omega
    rw[←bK]at hK;have gm:R++[1]=lim (zan (R++[1])):=by
     refine zpl (λy hy=>?_) ?_
     ·rcases List.mem_append.1 hy with hy | hy
      ·exact hR y hy
      ·simp at hy;omega
     ·have:=zjn (n:=zan (R++[1])) (k:=A.length) (by rw[zeq,ee];omega);simp;omega
    rw[←gm]at hK;have:=zyG (R++[1]) hs hK;simpa using this
theorem zPY (a b:Nat) (ha:(lim a).length≤1000) (hb:(lim b).length≤1000) (H:zaa) (K:Kt) (hK:K (.sl (zal (lim (a+b))) .none) H) :
  ACalls tP zqy [.sl (zal (lim a)) .none,.sl (zal (lim b)) .none] H K:=by
 refine ACalls.out (zPW λhs=>?_);by_cases h:(lim a).length<(lim b).length
 ·have h':((lim a).length:Int)<((lim b).length:Int):=by omega
  simp[ztC,h];refine zwC (lim b) (lim a) (zbT b) (zbT a) hb (by omega) (by rw[zbg]) _ _ hs ?_;rw[zbg,zbg,Nat.add_comm];exact hK
 ·have h':¬ ((lim a).length:Int)<((lim b).length:Int):=by omega
  simp[ztC,h];refine zwC (lim a) (lim b) (zbT a) (zbT b) ha (by omega) (by rw[zbg]) _ _ hs ?_;rw[zbg,zbg];exact hK
theorem zya (a:Nat) (ha:a<1000000000 ^ 30) (H:zaa) (K:Kt) (hK:K (.sl (zal (lim a)) .none) H):ACalls tP zdN [.sl (zal (lim a)) .none,.sl (zal [1]) .none] H K:=by have:=zhF a 1 ha zeX H K (by rw[Nat.mul_one];exact hK);rwa [zc0]at this
theorem zIa (a b:Nat) (ha:a<1000000000 ^ 30) (hb:b<1000000000 ^ 30) (H:zaa) (K:Kt) (hK:K (.agg (zai ((a+b:Nat):Int))) H) :
  ACalls tP zqd [.agg (zai (a:Int)),.agg (zai (b:Int))] H K:=by
 refine ACalls.out (zMe λhs=>?_);have la:=zbJ ha;have lb:=zbJ hb;have d0:∀ n:Nat,decide ((n:Int)<0)=false:=λn=>by simp
 simp[zA8,zai,d0,Nat.add_assoc];refine zaB (.sl (zal (lim a)) .none) (λJ=>zya a ha _ _ ⟨rfl,rfl⟩) ?_;try simp[Nat.add_assoc]
 refine zaB (.sl (zal (lim b)) .none) (λJ=>zya b hb _ _ ⟨rfl,rfl⟩) ?_;try simp[Nat.add_assoc]
 refine zx9 _ _ ?_;simp[Nat.add_assoc];refine zaB (.sl (zal (lim (a+b))) .none) (λJ=>zPY a b (by omega) (by omega) _ _ ⟨rfl,rfl⟩) ?_;simp[zaq,zaI,zcs,AV.known,Nat.add_assoc];have e1:zai ((a+b:Nat):Int)=[.bool false,.sl (zal (lim (a+b))) .none,.sl (zal [1]) .none]:=by simp only[zai,d0,Int.natAbs_natCast]
 have:=zcv (H:=H) (K:=K) (z:=((a+b:Nat):Int)) (J:=[.cells [.bool false,.sl (zal (lim a)) .none,.sl (zal [1]) .none],.cells [.bool false,.sl (zal (lim b)) .none,.sl (zal [1]) .none],.cells (zai ((a+b:Nat):Int))]) hs hK;rw[e1]at this;simpa using this
theorem zWj (a b:Nat) (ha:a<1000000000 ^ 30) (hb:b<1000000000 ^ 30) (H:zaa) (K:Kt) (hK:K (.agg (zai ((a+b:Nat):Int))) H):ACalls tP zqY [.agg (zai (a:Int)),.agg (zai (b:Int))] H K:=by
 refine ACalls.out (zWi λhs=>?_);have la:=zbJ ha;have lb:=zbJ hb;have lc:(lim (a+b)).length≤31:=zbJ (by omega);have d0:∀ n:Nat,decide ((n:Int)<0)=false:=λn=>by simp
 have e1:∀ n:Nat,zai (n:Int)=[.bool false,.sl (zal (lim n)) .none,.sl (zal [1]) .none]:=λn=>by simp only[zai,d0,Int.natAbs_natCast]
 simp[zEw,e1,Nat.add_assoc];simp only[←e1];refine zaB (.agg (zai (a:Int))) (λJ=>zgm a (by simpa using by omega) _ _ ⟨rfl,rfl⟩) ?_;refine zaB (.agg (zai (b:Int))) (λJ=>zgm b (by simpa using by omega) _ _ ⟨rfl,rfl⟩) ?_;refine zaB (.agg (zai ((a+b:Nat):Int))) (λJ=>zIa a b ha hb _ _ ⟨rfl,rfl⟩) ?_;refine zaB (.agg (zai ((a+b:Nat):Int))) (λJ=>by
  rw[e1 (a+b)];exact zkD false (a+b) (by omega) (z:=((a+b:Nat):Int)) (by simp) _ _ ⟨by rw[e1],rfl⟩) ?_
 rw[e1 (a+b)];simp[Nat.add_assoc];have:=zcv (H:=H) (K:=K) (z:=((a+b:Nat):Int)) (J:=[.cells (zai (a:Int)),.cells (zai (b:Int)),.cells (zai ((a+b:Nat):Int))]) hs hK;rw[e1 (a+b)]at this;simpa using this
theorem zIM (a:Nat) (H:zaa) (K:Kt) (hK:K (.int .i64 (if a=0 then 0 else 1)) H):ACalls tP zqh [.agg (zai (a:Int))] H K:=by
 refine ACalls.out (zMx λhs=>?_);have d0:∀ n:Nat,decide ((n:Int)<0)=false:=λn=>by simp
 have hO:∀ z J,z=(if a=0 then (0:Int) else 1)→Out H.length K (.int .i64 z) (H++J):=λz J h=>Out.int rfl (Nat.le_refl _) hs (by rw[h];exact hK);by_cases h:a=0
 ·subst h;simp[zsC,zai];exact hO 0 _ (by simp)
 ·have hp:0<(lim a).length:=by rw[zce h];simp
  have hb:(((lim a).length:Int) == 0)=false:=by generalize (lim a).length=q at hp;simp;omega
  simp[zsC,zai,d0,hb];exact hO 1 _ (by simp[h])
theorem zht:∀ {L:List (List AV)},(∀ c∈L,c.length=3)→L.flatten.length=L.length*3
 | [],_=>rfl
 | c::L,h=>by rw[List.flatten_cons,List.length_append,zht λx hx=>h x (List.mem_cons_of_mem _ hx),h c List.mem_cons_self,List.length_cons];omega
theorem zxx {L:List (List AV)} (h3:∀ c∈L,c.length=3) {i:Nat} (hi:i<L.length) (x:List AV):L.flatten.take (i*3)++(x++L.flatten.drop (i*3+3))=(L.set i x).flatten:=by
 have e:L.flatten=(L.take i).flatten++(L[i]++(L.drop (i+1)).flatten):=by
  have h0:L=L.take i++L[i]::L.drop (i+1):=by rw[←List.drop_eq_getElem_cons hi,List.take_append_drop]
  have h1:=congrArg List.flatten h0;rwa [List.flatten_append,List.flatten_cons]at h1
 have l1:(L.take i).flatten.length=i*3:=by rw[zht λc hc=>h3 c (List.mem_of_mem_take hc)];simp;omega
 have l2:((L.take i).flatten++L[i]).length=i*3+3:=by rw[List.length_append,l1,h3 _ (List.getElem_mem hi)]
 rw[e,List.take_left' l1,←List.append_assoc (L.take i).flatten L[i],List.drop_left' l2,List.set_eq_take_append_cons_drop,if_pos hi];simp
def zR:List AV:=[.bool false,.snil,.snil]
def zsL (n i:Nat):List (List AV):=List.replicate i (zai 0)++List.replicate (n-i) zR
theorem zFk (n i:Nat):∀ c∈zsL n i,c.length=3:=by intro c hc;rcases List.mem_append.1 hc with h | h <;> rw[List.eq_of_mem_replicate h] <;> rfl
theorem zYp {n i:Nat} (h:i<n):(zsL n i).set i (zai 0)=zsL n (i+1):=by unfold zsL;rw[List.set_append_right _ _ (by simp),List.length_replicate,Nat.sub_self,show n-i=n-(i+1)+1 by omega,List.replicate_succ,List.set_cons_zero,List.replicate_succ',List.append_assoc];rfl
theorem zKi (n:Nat) (hn:n≤100) (H:zaa) (K:Kt) (hK:HSc H→K (.ms H.length 0 n n) (H++[.cells (List.replicate n (zai 0)).flatten])):ACalls tP zqz [.int .i64 n] H K:=by
 refine zP9 λhs=>?_;simp[zCx,zbe];refine⟨⟨by omega,by omega⟩,?_⟩;have h0:(List.replicate n ([.bool false,.snil,.snil]:List AV))=zsL n 0:=by simp[zsL,zR]
 rw[h0];have hsc:∀ i,HSc (H++[.cells (zsL n i).flatten]):=λi=>hs.append (by
  simp only[AB.sc,List.all_cons,List.all_nil,Bool.and_true];rw[List.all_eq_true];intro x hx;obtain⟨c,hc,hx⟩:=List.mem_flatten.1 hx;rcases List.mem_append.1 hc with h | h <;> rw[List.eq_of_mem_replicate h]at hx
  ·exact List.all_eq_true.1 (zgB _ _) x hx
  ·exact List.all_eq_true.1 (show zR.all (AV.scA _)=true by simp[zR,AV.scA,AV.scB]) x hx)
 refine zP7 (Inv:=λq t9 H'=>∃ i:Nat,i≤n∧n-i=q∧t9=.int .i64 i∧H'=H++[.cells (zsL n i).flatten]) n ?_ ?_
 ·intro _;exact⟨0,by omega,rfl,rfl,rfl⟩
 ·rintro q t9 H' ⟨i,hi,rfl,rfl,rfl⟩ aJ am aM Kb au;by_cases ak:i<n
  ·have hL:(zsL n i).length=n:=by simp[zsL];omega
   simp[ztF,ak,wi i (by omega)];refine zeF 0 (by omega) _ _ ?_;have bn:=zht (zFk n i);have aR:=zxx (zFk n i) (i:=i) (by omega) (zai 0);rw[zYp ak]at aR;rw[List.length_flatten]at bn;simp[zc3,bn,hL];rw[aR];refine⟨by omega,?_⟩;exact au _ _ ⟨n-(i+1),by omega,Back.here (by simp) (hsc _) (by simp[zmG,ux,AV.sc,AV.scA,AV.scB,AV.scV]) ⟨_,rfl,i+1,by omega,rfl,rfl,rfl⟩⟩
  ·obtain rfl:i=n:=by omega
   have:=hK hs;have e:zsL i i=List.replicate i (zai 0):=by simp[zsL]
   simp[ztF,e];exact this
theorem zH4:∀ a,a<7→∀ b,b<7→∀ k,k<13→(k≤a+b∧max a b≤k→pcf a b k=chs k a*chs a (k-b)∧pcf a b k<1000000∧chs k a<1000000∧chs a (k-b)<1000000):=by
 have:=(by decide +kernel:((List.range 7).all λa=>(List.range 7).all λb=>(List.range 13).all λk=>decide (¬ (k≤a+b∧max a b≤k)∨(pcf a b k=chs k a*chs a (k-b)∧pcf a b k<1000000∧chs k a<1000000∧chs a (k-b)<1000000)))=true);intro a ha b hb k hk h;have h1:=List.all_eq_true.mp this a (List.mem_range.mpr ha);have h2:=List.all_eq_true.mp h1 b (List.mem_range.mpr hb);have h3:=List.all_eq_true.mp h2 k (List.mem_range.mpr hk);rcases of_decide_eq_true h3 with h4 | h4
 ·exact absurd h h4
 ·exact⟨h4.1,h4.2⟩
def rwL (a b k:Nat):List (List AV):=(List.range (a+b+1)).map λj=>zai (((if j<k then pcf a b j else 0:Nat)):Int)
theorem zze (a b k:Nat):(rwL a b k).length=a+b+1:=by simp[rwL]
theorem zrt (a b k:Nat):∀ c∈rwL a b k,c.length=3:=by intro c hc;obtain⟨j,_,rfl⟩:=List.mem_map.1 hc;rfl
theorem zIy (a b:Nat):List.replicate (a+b+1) (zai 0)=rwL a b (max a b):=by
 refine List.ext_getElem (by simp[rwL]) λj h1 h2=>?_;simp only[rwL,List.getElem_replicate,List.getElem_map,List.getElem_range];by_cases h:j<max a b
 ·rw[if_pos h];have:pcf a b j=0:=by simp[pcf];omega
  rw[this];rfl
 ·rw[if_neg h];rfl
theorem zIz {a b k:Nat} (h:k≤a+b):(rwL a b k).set k (zai (pcf a b k:Int))=rwL a b (k+1):=by
 refine List.ext_getElem (by simp[rwL]) λj h1 h2=>?_;rw[List.getElem_set];simp only[rwL,List.getElem_map,List.getElem_range];by_cases hj:k=j
 ·subst hj;simp
 ·rw[if_neg hj];by_cases hk:j<k
  ·rw[if_pos hk,if_pos (by omega)]
  ·rw[if_neg hk,if_neg (by omega)]
theorem zzd (a b:Nat):rwL a b (a+b+1)=zbE (zby a b (a+b+1)):=by
 refine List.ext_getElem (by simp[rwL,zbE,zby]) λj h1 h2=>?_;have hj:j<a+b+1:=by simpa[rwL]using h1
 simp[rwL,zbE,zby,hj]
theorem zyQ:∀ l:List Nat,plain (zbE l).flatten=some (zbE l).flatten
 | []=>rfl
 | z::l=>by show plain (zai (z:Int)++(zbE l).flatten)=_;exact zib (zcI _) (zyQ l)
theorem zMo (a b:Nat) (ha:a≤6) (hb:b≤6) (H:zaa) (K:Kt) (hK:K (.sl (zbE (zby a b (a+b+1))) .none) H):ACalls tP zqf [.int .i64 a,.int .i64 b] H K:=by
 refine ACalls.out (zMm λhs=>?_);have w1:IntKind.i64.wrap ((a:Int)+(b:Int))=((a+b:Nat):Int):=by rw[zaw (by omega) (by omega)];omega
 have w2:IntKind.i64.wrap ((a:Int)+(b:Int)+1)=((a+b+1:Nat):Int):=by rw[zaw (by omega) (by omega)];omega
 have gK:(if a<b then (b:Int) else (a:Int))=((max a b:Nat):Int):=by split <;> omega
 have iu:(if (b:Int)>(a:Int) then (b:Int) else (a:Int))=((max a b:Nat):Int):=by split <;> omega
 simp[zA9,w1,w2,gK,iu];refine zKi (a+b+1) (by omega) _ _ λ_=>?_;rw[zIy];have hsc:∀ i,HSc (H++[.cells (rwL a b i).flatten]):=λi=>hs.append (by
  simp only[AB.sc,List.all_cons,List.all_nil,Bool.and_true];rw[List.all_eq_true];intro x hx;obtain⟨c,hc,hx⟩:=List.mem_flatten.1 hx;obtain⟨j,_,rfl⟩:=List.mem_map.1 hc;exact List.all_eq_true.1 (zgB _ _) x hx)
 try simp only[gK,iu]
 refine zMk (Inv:=λq t6 H'=>∃ k:Nat,max a b≤k∧k≤a+b+1∧a+b+1-k=q∧t6=.int .i64 k∧H'=H++[.cells (rwL a b k).flatten]) (a+b+1-max a b) ?_ ?_
 ·intro _;exact⟨max a b,by omega,by omega,rfl,rfl,rfl⟩
 ·rintro q t6 H' ⟨k,df,hk,rfl,rfl,rfl⟩ aJ am aM Kb au;by_cases ak:k≤a+b
  ·have aG:(k:Int)≤(a:Int)+(b:Int):=by omega
   obtain⟨p1,p2,p3,p4⟩:=zH4 a (by omega) b (by omega) k (by omega) ⟨ak,df⟩;have w3:IntKind.i64.wrap ((k:Int)-(b:Int))=((k-b:Nat):Int):=by rw[zaw (by omega) (by omega)];omega
   simp[zsy,w1,aG,w3,wi k (by omega)];refine zxs k a (by omega) (by omega) _ _ ?_;refine zxs a (k-b) (by omega) (by omega) _ _ ?_;refine zn7 _ _ (zcb (Nat.lt_trans p3 (by decide))) (zcb (Nat.lt_trans p4 (by decide))) _ _ ?_;rw[←Int.natCast_mul,←p1];have bn:=zht (zrt a b k);have aR:=zxx (zrt a b k) (i:=k) (by rw[zze];omega) (zai (pcf a b k:Int));rw[zIz ak]at aR;rw[List.length_flatten,zze]at bn;simp[zc3,bn];rw[aR];refine⟨by omega,by omega,?_⟩;exact au _ _ ⟨a+b+1-(k+1),by omega,Back.here (by simp) (hsc _) (by simp[zlx,ux,AV.sc,AV.scA,AV.scB,AV.scV]) ⟨_,rfl,k+1,by omega,by omega,rfl,rfl,rfl⟩⟩
  ·obtain rfl:k=a+b+1:=by omega
   have aG:¬ ((a:Int)+(b:Int)+1≤(a:Int)+(b:Int)):=by omega
   simp[zsy,w1,aG];rw[zzd];have bn:=zht (zrt a b (a+b+1));rw[zzd,zIc]at bn;have bH:(zby a b (a+b+1)).length=a+b+1:=by simp[zby]
   refine⟨_,H,[_],rfl,Nat.le_refl _,hs,.one (.frz H.length 0 (a+b+1) (a+b+1) 3 (zbE (zby a b (a+b+1))).flatten (zbE (zby a b (a+b+1))) (Nat.le_refl _) (by simp) (by omega) ?_ (by simp[bH]) (λc hc=>?_) (Nat.le_refl _)),hK⟩
   ·rw[List.drop_zero,List.take_of_length_le (by omega)];exact zyQ _
   ·obtain⟨z,_,rfl⟩:=List.mem_map.1 hc;rfl
theorem zWv (a b:Nat) (ha:a≤6) (hb:b≤6) (H:zaa) (K:Kt) (hK:K (.tup [.sl (zbE (zby a b (a+b+1))) .none,.bool true]) H):ACalls tP zqZ [.int .i64 a,.int .i64 b] H K:=by
 refine ACalls.out (zWu λhs=>?_);have c1:¬ ((a:Int)<0):=by omega
 have c2:¬ ((b:Int)<0):=by omega
 have c3:¬ ((16:Int)<(a:Int)):=by omega
 have c4:¬ ((16:Int)<(b:Int)):=by omega
 simp[zEE,c1,c2,c3,c4];refine zMo a b ha hb _ _ ?_;exact⟨⟨rfl,rfl⟩,Out.tup0 (bs:=[.sl (zbE (zby a b (a+b+1))) .none,.bool true]) hs hK ⟨zaY rfl rfl,zaY rfl rfl,trivial⟩⟩
section
open Go.RowKit
variable {P:Program} {B:Nat} {w:World} {G:Gh} {H:zaa}
theorem HRel.newRow (h:HRel B w G H) (e size cap:Nat) (cur:Array Value) (hc:cap≤maxLen) (hs:cur.size=cap*size) :
  Ext B w G (w.alloc (.cells cur e)) ⟨G.L,G.μ++[.own (.slice (some ⟨w.heap.size,0,none⟩) 0 cap) size 0]⟩∧HRel B (w.alloc (.cells cur e)) ⟨G.L,G.μ++[.own (.slice (some ⟨w.heap.size,0,none⟩) 0 cap) size 0]⟩ (H++[.perm e size 0]):=by
 have he:=Ext.alloc h (.cells cur e) G.L (λ_ _=>rfl) [.own (.slice (some ⟨w.heap.size,0,none⟩) 0 cap) size 0];have split:∀ (id:Nat) gi,(G.μ++[GI.own (.slice (some ⟨w.heap.size,0,none⟩) 0 cap) size 0])[id]?=some gi→G.μ[id]?=some gi∨(id=G.μ.length∧gi=.own (.slice (some ⟨w.heap.size,0,none⟩) 0 cap) size 0):=by
  intro id gi hg;by_cases ak:id<G.μ.length
  ·rw[List.getElem?_append_left ak]at hg;exact .inl hg
  ·have aY:=(List.getElem?_eq_some_iff.1 hg).1;simp at aY;have:id=G.μ.length:=by omega
   subst this;simp at hg;exact .inr ⟨rfl,hg.symm⟩
 refine⟨he,by simp[h.len],?_,?_,λb hb=>?_,?_,?_⟩
 ·intro id ab gi h1 h2;rcases split id gi h2 with h2 | ⟨rfl,rfl⟩
  ·have ak:id<H.length:=by rw[←h.len];exact (List.getElem?_eq_some_iff.1 h2).1
   rw[List.getElem?_append_left ak]at h1;exact (h.ok id ab gi h1 h2).keep he (λb hb=>⟨zcN (h.lt id gi b h2 hb),rfl⟩)
  ·rw[h.len]at h1;simp at h1;subst h1;refine⟨rfl,rfl,⟨[],by simp,.inr ⟨w.heap.size,cap,cur,rfl,h.base,zds _,Nat.zero_le _,hc,hs,by simp⟩⟩,λb hb=>?_⟩;simp[Value.ownBlock]at hb;subst hb;rw[Nat.zero_mul];exact h.fresh _ (Nat.le_refl _)
 ·intro id id' gi gi' b h1 h2 h3 h4;rcases split id gi h1 with k1 | ⟨e1,e2⟩ <;> rcases split id' gi' h2 with k2 | ⟨e3,e4⟩
  ·exact h.dist id id' gi gi' b k1 k2 h3 h4
  ·rw[e4]at h4;simp[GI.block,Value.ownBlock]at h4;have:=h.lt id gi b k1 h3;omega
  ·rw[e2]at h3;simp[GI.block,Value.ownBlock]at h3;have:=h.lt id' gi' b k2 h4;omega
  ·rw[e1,e3]
 ·rw[zb7]at hb;exact h.fresh b (by omega)
 ·intro id gi b h1 h2;rw[zb7];rcases split id gi h1 with k1 | ⟨e1,e2⟩
  ·have:=h.lt id gi b k1 h2;omega
  ·rw[e2]at h2;simp[GI.block,Value.ownBlock]at h2;omega
 ·rw[zb7];have:=h.base;omega
end
theorem zIS (n:Nat) (hn:0<n) (gE:n≤1000000) (H:zaa) (K:Kt) (hK:K (.sl [] (.own H.length)) (H++[.perm zbf 2 0])) :
  ACalls tP zyi [.snil,.int .i64 n] H K:=by
 rintro B w G ⟨vs⟩ hR hv
 match vs,hv with
 | [v1,v2],⟨h1,h2,_⟩=>
 have h1:v1=.slice none 0 0:=h1;have h2:v2=.int .i64 n:=h2;subst h1 h2;obtain⟨i0,lr,mF,iM,bE⟩:∃ i0,tP.info? 28=some i0∧i0.zero=some (.agg #[.int .i64 0,.slice none 0 0])∧i0.size=2∧i0.bytes=32:=⟨_,rfl,rfl,rfl,rfl⟩;refine (Go.Proofs.Any8.slices_Grow_grow zKj i0 _ lr mF (by omega) none 0 0 n [] w (Nat.le_refl _) (by omega) (by rw[bE];omega) (by omega) (by simp) (λ_=>rfl) (λ_ h=>by cases h)).mono ?_;rintro e w' ⟨rfl,rfl⟩;have cF:=grownCap_ge w (0+n) 0 28;have bO:=grownCap_le_maxLen w (0+n) 0 28 (by simp only[maxLen];omega);obtain⟨hE,hH⟩:=hR.drew (w.drawn+1) (Nat.le_succ _) |>.newRow 28 2 (grownCap w (0+n) 0 28) (([]:List Value).toArray++Builtin.zeroCells (Value.agg #[.int .i64 0,.slice none 0 0]).cells (0+n-0)++Builtin.zeroCells (Value.agg #[.int .i64 0,.slice none 0 0]).cells (grownCap w (0+n) 0 28-(0+n))) bO (by
  simp only[Array.size_append,size_zeroCells,List.size_toArray,List.length_nil];have:(Value.agg #[.int .i64 0,.slice none 0 0]).cells.size=2:=rfl;rw[this];omega)
 refine⟨_,_,_,_,rfl,(Ext.drew B w G (w.drawn+1) (Nat.le_succ _)).trans hE,hH,?_,hK⟩;refine⟨.slE _ _,_,2,0,?_,Nat.le_refl _,λ_=>⟨rfl,λc hc=>by simp at hc⟩⟩;rw[←hR.len];simp;rfl
theorem zIQ (a b:List IT) (ha:0<a.length) (hb:a.length+b.length≤1000000) (H:zaa) (K:Kt) (hK:K (.sl (IT.css (a++b)) .none) H) :
  ACalls tP zqi [.sl [[.sl (IT.css a) .none],[.sl (IT.css b) .none]] .full] H K:=by
 refine ACalls.out (zMM λhs=>?_);have e:∀ l:List IT,(IT.css l).length=l.length:=λl=>by simp[IT.css_map]
 have hS:∀ c:List IT,∀ k:AV→Prop,k (.int .i64 c.length)→zah 1 (.sl (IT.css c) .none) k:=λc k hk=>by simpa[e]using hk
 simp[zBg];let row:Nat→List IT:=λi=>if i=0 then a else b
 let sum:Nat→Nat:=λi=>if i=0 then 0 else if i=1 then a.length else a.length+b.length
 have aA:∀ i (hi:i < [[AV.sl (IT.css a) .none],[.sl (IT.css b) .none]].length),[[AV.sl (IT.css a) .none],[.sl (IT.css b) .none]][i]=[.sl (IT.css (row i)) .none]:=λi hi=>by rcases (by simp at hi;omega:i=0∨i=1) with rfl | rfl <;> rfl
 refine zMJ (Inv:=λq t3 t11 H'=>∃ i:Nat,i≤2∧q=2-i∧t11=.int .i64 i∧t3=.int .i64 (sum i)∧H'=H) 2 ?_ ?_
 ·intro _;exact⟨0,by omega,rfl,rfl,rfl,rfl⟩
 ·rintro q t3 t11 H' ⟨i,hi,rfl,rfl,rfl,rfl⟩ hsc am aM Kb au;by_cases ak:i<2
  ·have aG:(i:Int)<2:=by omega
   have dl:(sum i:Int)+(row i).length=sum (i+1):=by rcases (by omega:i=0∨i=1) with rfl | rfl <;> simp[sum,row]
   have bI:sum (i+1)≤1000000:=by rcases (by omega:i=0∨i=1) with rfl | rfl <;> simp[sum] <;> omega
   have dU:¬ ((sum (i+1):Int)<0):=by omega
   simp[zsG,aG,ak,aA,e];rw[dl,zaw (by omega) (by omega)];simp[dU,zBh,zBi];rw[zaw (by omega) (by omega)];refine au _ _ ⟨2-(i+1),by omega,Back.at (J:=[]) (H2:=H') (by simp) (by omega) hsc ?_ ⟨_,_,rfl,i+1,by omega,rfl,by simp,rfl,rfl⟩⟩;simp[zlD,AV.sc,AV.scV,AV.scA,AV.scB]
  ·obtain rfl:i=2:=by omega
   simp[zsG];refine zIS _ (by simp[sum];omega) (by simp[sum];omega) _ _ ?_;let all:Nat→List IT:=λi=>if i=0 then [] else if i=1 then a else a++b
   refine zMI (Inv:=λq t6 t27 H2=>∃ i:Nat,i≤2∧q=2-i∧t27=.int .i64 i∧t6=.sl (IT.css (all i)) (.own H'.length)∧H2=H'++[.perm zbf 2 (all i).length]) 2 ?_ ?_
   ·intro _;exact⟨0,by omega,rfl,rfl,rfl,rfl⟩
   ·rintro q t6 t27 H2 ⟨i,hi,rfl,rfl,rfl,rfl⟩ ck dY g9 Kb2 bB;by_cases ak:i<2
    ·have aG:(i:Int)<2:=by omega
     have aO:IT.css (all i)++IT.css (row i)=IT.css (all (i+1)):=by rcases (by omega:i=0∨i=1) with rfl | rfl <;> simp[all,row,IT.css_map]
     have hall2:(all i).length+(row i).length=(all (i+1)).length:=by rcases (by omega:i=0∨i=1) with rfl | rfl <;> simp[all,row]
     have bI:(all (i+1)).length≤1000000:=by rcases (by omega:i=0∨i=1) with rfl | rfl <;> simp[all] <;> omega
     have h2:∀ c∈IT.css (row i),c.length=2:=λc hc=>by rw[IT.css_map]at hc;obtain⟨x,_,rfl⟩:=List.mem_map.1 hc;simp
     simp[zsF,aG,ak,aA,e,zav,zaM,zaJ,List.set_append_right];rw[aO,hall2,zaw (by omega) (by omega)];refine⟨h2,⟨by omega,by omega⟩,?_⟩;refine bB _ _ ⟨2-(i+1),by omega,Back.at (J:=[]) (H2:=H'++[.perm zbf 2 (all (i+1)).length]) (by simp) (by simp) (hs.append (by simp[AB.sc])) ?_ ⟨_,_,rfl,i+1,by omega,rfl,by simp,rfl,rfl⟩⟩;simp[zlC,AV.sc,AV.scV,AV.scA,AV.scB]
    ·obtain rfl:i=2:=by omega
     simp[zsF];exact Out.at (H2:=H') (J:=[.perm zbf 2 (a++b).length]) (by simp[all]) (Nat.le_refl _) hs (.atom (.sl _ _)) rfl rfl (by simpa[all]using hK)
theorem zMT {aa:List Dat} (hk:zbv aa) (n:Int) (ks:List VT) (ht:(VT.mk 5 n ks).nodes≤1000) (c:Int) {ps:List VT} (hp:za9 aa (.mk 5 n ks) c=some ps) (H:zaa) (K:Kt)
  (hK:K (.sl (VT.css ps) .none) H):ACalls tP zqj [.sl (aa.map Dat.cs) .none,.agg (VT.mk 5 n ks).cs,.int .i64 c] H K:=by
 obtain⟨l,hf⟩:∃ lf,zbj aa (.mk 5 n ks) c=some lf:=by
  cases gu:zbj aa (.mk 5 n ks) c with
  | none=>simp[za9,gu]at hp
  | some lf=>exact⟨lf,rfl⟩
 obtain⟨bs,kj,cv,jN,cz,cj,_,eE,_⟩:=zrd hk hf;rw[hp]at cz;obtain rfl:=Option.some.inj cz;refine ACalls.out (zMR λhs=>?_);obtain⟨f1,f2,f3⟩:=zfs hk;simp[zBm,VT.cs,Nat.add_assoc];refine zCq aa f1 f2 f3 (.mk 5 n ks) ht c _ _ ?_;rw[hf];simp[zcF];refine eE _ _ ?_;simp[zeM];unfold zlI;refine ALoop.own 9 za1 3 rfl ?_;have dG:(H++[AB.cells [AV.int IntKind.i64 5,AV.int IntKind.i64 n,AV.sl (VT.css ks) Tok.none]]).length=H.length+1:=by simp
 rw[dG,List.append_assoc];show zlI _ (.sl (VT.css (pick (l.take 0) (bs.take 0))) (.own (H.length+1))) _ _ _ (H++[.cells [.int .i64 5,.int .i64 n,.sl (VT.css ks) .none],.perm za1 3 0]) _;have aI:∀ m,HSc (H++[.cells [.int .i64 5,.int .i64 n,.sl (VT.css ks) .none],.perm za1 3 m]):=λm=>hs.append (by simp[AB.sc,AV.scA,AV.scB]);refine zMP (Inv:=λq t9 t25 H'=>∃ i:Nat,i≤bs.length∧bs.length-i=q∧t25=.int .i64 i∧t9=.sl (VT.css (pick (l.take i) (bs.take i))) (.own (H.length+1)) ∧
  H'=H++[.cells [.int .i64 5,.int .i64 n,.sl (VT.css ks) .none],.perm za1 3 (pick (l.take i) (bs.take i)).length]) bs.length ?_ ?_
 ·intro _;exact⟨0,by omega,rfl,rfl,rfl,rfl⟩
 ·rintro q t9 t25 H' ⟨i,hi,rfl,rfl,rfl,rfl⟩ aJ am aM Kb au;by_cases ak:i<bs.length
  ·have bm:i<l.length:=by omega
   have aR:=zre cv bm;have bH:=zh9 (l.take i) (bs.take i);rw[List.length_take]at bH;generalize hA:pick (l.take i) (bs.take i)=A at *;have aX:∀ A',A'=pick (l.take (i+1)) (bs.take (i+1))→zlH (.sl (VT.css l) .none) (.sl (VT.css A') (.own (H.length+1))) (.sl (zbS bs) .none) (.int .i64 bs.length) (.int .i64 i)
     (H++[.cells [.int .i64 5,.int .i64 n,.sl (VT.css ks) .none],.perm za1 3 A'.length]) (Out H.length K) Kb:=by
    rintro A' rfl;simp[zlH,zBn,wi i (by omega)];exact au _ _ ⟨bs.length-(i+1),by omega,Back.here (by simp) (aI _) (by simp[zlG,ux,AV.sc,AV.scA,AV.scB,AV.scV]) ⟨_,_,rfl,i+1,by omega,rfl,rfl,rfl,rfl⟩⟩
   obtain⟨x1,x2,x3,aC,bC,bg,bz⟩:=zbs l[i];cases fM:bs[i] with
   | true=>rw[fM,if_pos rfl,List.append_nil]at aR;simp[zlF,zeM,ak,zhf,fM];exact aX A aR.symm
   | false=>
    rw[fM]at aR;simp only[Bool.false_eq_true,if_false]at aR;simp[zlF,zeM,ak,bm,zhf,fM];have hpv:∀ v:VT,plain v.cs=some v.cs:=λv=>by cases v;rfl
    have aN:VT.css A++[l[i].cs]=VT.css (A++[l[i]]):=by rw[VT.css_map,VT.css_map,List.map_append];rfl
    simp[zau,zaQ,hpv,plain,AV.pd];simp only[zav,zaM,zaJ];simp[List.set_append_right];refine⟨⟨by omega,by omega⟩,?_⟩;rw[aN];have:=aX (A++[l[i]]) aR.symm;rw[List.length_append]at this;exact this
  ·obtain rfl:i=bs.length:=by omega
   rw[←cv,List.take_length,cv,List.take_length];simp[zlF];exact Out.at (b:=.sl (VT.css (pick l bs)) .none) rfl (Nat.le_refl _) hs (.atom (.sl _ _)) rfl rfl hK
theorem zWL:∀ (m:Nat) (v:IT),v.nodes≤m→v.nodes≤1000000→∀ (H:zaa) (K:Kt),K (.agg v.cs) H→ACalls tP zj9 [.agg v.cs] H K:=by
 intro m;induction m with
 | zero=>intro v h;have:=v.nodes_pos;omega
 | succ m ih=>
  intro v hm hb H K hK;obtain⟨n,ks⟩:=v;have bm:=IT.len_le ks;have dU:(IT.mk n ks).nodes=IT.nodesL ks+1:=by simp[IT.nodes]
  refine ACalls.out (zWJ λhs=>?_);simp[zEI,IT.cs,zaq,zaI,AV.known,Nat.add_assoc];unfold zop;refine ALoop.ownC (H.length+2) 1 zbf 2 (cs:=[.int .i64 n,.snil]) (by simp) rfl ?_;have aW:(H++[AB.cells [.int .i64 n,.sl (IT.css ks) .none],.cells [.int .i64 0,.snil],.cells [.int .i64 n,.snil]]).set (H.length+2) (.cells ([AV.int .i64 n,.snil].set 1 (.sl [] (.own (H++[AB.cells [.int .i64 n,.sl (IT.css ks) .none],.cells [.int .i64 0,.snil],.cells [.int .i64 n,.snil]]).length))))++[.perm zbf 2 0] =
    H++[.cells [.int .i64 n,.sl (IT.css ks) .none],.cells [.int .i64 0,.snil],.cells [.int .i64 n,.sl [] (.own (H.length+3))],.perm zbf 2 0]:=by simp[List.set_append_right]
  rw[aW];show zop (.ptr (H.length+1) 0) (.ptr (H.length+2) 0) (.sl (IT.css ks) .none) (.int .i64 ks.length) (.int .i64 0) _ (Out H.length K);have hsc:∀ i,HSc (H++[.cells [.int .i64 n,.sl (IT.css ks) .none],.cells [.int .i64 0,.snil],.cells [.int .i64 n,.sl (IT.css (ks.take i)) (.own (H.length+3))],.perm zbf 2 i]):=λi=>hs.append (by simp[AB.sc,AV.scA,AV.scB]);refine zWH (Inv:=λq t12 H'=>∃ i:Nat,i≤ks.length∧q=ks.length-i∧t12=.int .i64 i ∧
   H'=H++[.cells [.int .i64 n,.sl (IT.css ks) .none],.cells [.int .i64 0,.snil],.cells [.int .i64 n,.sl (IT.css (ks.take i)) (.own (H.length+3))],.perm zbf 2 i]) ks.length ?_ ?_
  ·intro _;exact⟨0,by omega,by omega,rfl,by simp[IT.css]⟩
  ·rintro q t12 H' ⟨i,hi,rfl,rfl,rfl⟩ aJ am aM Kb au;by_cases ak:i<ks.length
   ·obtain⟨x,y,aC,hx,hy⟩:=zck ks[i];have cI:=IT.kid_lt (n:=n) ak;simp[zvv,ak,aC,hx,hy];rw[←aC];refine zaB (.agg (ks[i]).cs) (λJ=>ih ks[i] (by omega) (by omega) _ _ ⟨rfl,rfl⟩) ?_;rw[zwX];simp[zav,zaM,zaJ,Nat.min_eq_left hi,AV.known,List.set_append_right];refine⟨⟨by omega,by omega⟩,?_⟩;rw[zaw (by omega) (by omega)];rw[←zxJ ak];refine au _ _ ⟨ks.length-(i+1),by omega,Back.at (J:=[.cells (ks[i]).cs]) (H2:=H++[.cells [.int .i64 n,.sl (IT.css ks) .none],.cells [.int .i64 0,.snil],.cells [.int .i64 n,.sl (IT.css (ks.take (i+1))) (.own (H.length+3))],.perm zbf 2 (i+1)]) (by simp) (by simp) (hsc _) ?_ ⟨_,rfl,i+1,by omega,rfl,by simp,rfl⟩⟩;simp[zoo,AV.sc,AV.scV,AV.scA,AV.scB]
   ·obtain rfl:i=ks.length:=by omega
    rw[List.take_length]at *;simp[zvv,AV.known,List.set_append_right];exact Out.at rfl (Nat.le_refl _) hs (WkV.agg (ds:=[.int .i64 n,.sl (IT.css ks) .none]) ⟨.refl _,.sl _ _,trivial⟩) rfl (by simp[AV.scV,AV.scA,AV.scB]) (by simpa[IT.cs]using hK)
theorem zWP (z:Int) (hz:Sm z) (H:zaa) (K:Kt) (hK:K (.agg (zai z)) H):ACalls tP zq2 [.agg (zai z)] H K:=by
 refine ACalls.out (zWO λhs=>?_);have hl:=hz.len;simp[zEJ,zc3,Nat.add_assoc];refine zgm z (by omega) _ _ ?_;have e:zai z=[.bool (decide (z<0)),.sl (zal (lim z.natAbs)) .none,.sl (zal [1]) .none]:=rfl
 conv=>lhs
 rw[e];refine zkD (decide (z<0)) z.natAbs (by omega) (z:=z) (by by_cases h:z<0 <;> simp[h] <;> omega) _ _ ?_;simp[zc3,Nat.add_assoc];exact zcv hs hK
theorem zEG (a:Nat) (ha:Sm (a:Int)) (H:zaa) (K:Kt) (hK:K (.int .i64 (if a=0 then 0 else 1)) H):ACalls tP zj8 [.agg (zai (a:Int))] H K:=by refine ACalls.out (zWy λhs=>?_);have hl:=ha.len;simp[zEF,zc3,Nat.add_assoc];refine zgm (a:Int) (by omega) _ _ ?_;refine zIM a _ _ ?_;exact Out.int rfl (Nat.le_refl _) hs hK
section
variable (t0 t1 t2 t3 t9 t10 t11 t12 t14 t20 t21 t22 t27 t28 t29 t43 t44 t45:AV) (H:zaa) (K:Kt) (Kb3 Kb7:Lt)
def zee:Nat→List Bool | 3=>rl false [0,1,1,2,5,1,10,3,47] | 7=>rl false [0,1,1,2,6,3,7,3,4,3,40] | 10=>rl false [0,1,1,2,6,3,1,1,5,3,4,3,13,3,24] | 200012=>rl false [0,2] | _=>[]
noncomputable def zvq:Code:=Tryz.f78.body.getD .skip
noncomputable def zWr:List ResultVar:=Tryz.f78.results.toList
def ziU:List AV:=t0::ux 1 (t2::t3::ux 5 (t9::ux 10 (t20::t21::t22::ux 47 [])))
def zEC:List Bool:=zee 3
noncomputable def zvr:Code:=zar [1,1,0,1,0,0] zvq
def zEy:AExit→List AV→zaa→Prop:=zas tP zee [1,1,0,1,0] zvq (zaz tP zWr K)
def zEB:Prop:=ALoop tP zvr (zEy K) (ziU t0 t2 t3 t9 t20 t21 t22) H
def zoh:List AV:=t0::ux 1 (t2::t3::ux 6 (t10::t11::t12::ux 7 (t20::t21::t22::ux 4 (t27::t28::t29::ux 40 []))))
def zED:List Bool:=zee 7
noncomputable def zvs:Code:=zar [1,1,0,0,1,1,0,1,0,0] zvr
def zEz:AExit→List AV→zaa→Prop:=zas tP zee [1,1,0,0,1,1,0,1,0] zvr (zbL zEC Kb3 (zEy K))
def zoi:Prop:=ALoop tP zvs (zEz K Kb3) (zoh t0 t2 t3 t10 t11 t12 t20 t21 t22 t27 t28 t29) H
def ziT:List AV:=t0::ux 1 (t2::t3::ux 6 (t10::t11::t12::ux 1 (t14::ux 5 (t20::t21::t22::ux 4 (t27::t28::t29::ux 13 (t43::t44::t45::ux 24 []))))))
def zWp:List Bool:=zee 10
noncomputable def zWl:Code:=zar [1,1,0,0,1,1,0,0] zvs
def zWk:AExit→List AV→zaa→Prop:=zas tP zee [1,1,0,0,1,1,0] zvs (zbL zED Kb7 (zEz K Kb3))
def zEA:Prop:=ALoop tP zWl (zWk K Kb3 Kb7) (ziT t0 t2 t3 t10 t11 t12 t14 t20 t21 t22 t27 t28 t29 t43 t44 t45) H
def zvn (t0 t2 t3 t10 t11 t12 t14 t20 t21 t22 t27 t28 t29 t43 t44 t45:AV) (H:zaa) (K:Kt) (Kb3:Lt) (Kb7:Lt) (Kb10:Lt):Prop:=zac .lss false t45 t44 λt46=>zag t46 (zak 5 t43 t45 λt47=>zae true 5 t47 H λt48=>zay [(.int .i64 0),.snil,(.bool false),.snil,.snil] H λt16 H=>zao 5 t16 t48 H λH=>zab H (λK'=>K' t12 H) λt49=>zab H (λK'=>zaf 0 t14 (K' · H)) λt50=>zab H (λK'=>zaj false 1 t50 H (K' · H)) λt51=>zdJ .g true H (λK'=>ACalls tP zqe [t51] H K') λt52 H=>zab H (λK'=>zaf 0 t16 (K' · H)) λt53=>zab H (λK'=>zaj true 2 t53 H (K' · H)) λt54=>zab H (λK'=>zau 2 [(.int .i64 0),.snil] 1 [(0,t54)] (K' · H)) λt55=>zdJ .g false H (λK'=>zav zbf 2 32 t52 t55 H K') λt56 H=>zab H (λK'=>zaf 1 t14 (K' · H)) λt57=>zab H (λK'=>zaj true 3 t57 H (K' · H)) λt58=>zab H (λK'=>zaf 2 t16 (K' · H)) λt59=>zab H (λK'=>zaj true 3 t59 H (K' · H)) λt60=>zdJ .g true H (λK'=>ACalls tP zfB [t58,t60] H K') λt61 H=>zab H (λK'=>zaq [.snil,(.bool false),.snil,.snil] [(0,1),(1,3)] [(0,t56),(1,t61)] (K' · H)) λt62=>zab H (λK'=>zau 4 [.snil,(.bool false),.snil,.snil] 1 [(0,t62)] (K' · H)) λt63=>zdJ .g false H (λK'=>zav zbu 4 80 t49 t63 H K') λt64 H=>zab H (λK'=>K' t64 H) λt12=>zac .add false t45 (.int .i64 1) λt65=>Kb10 (ziT t0 t2 t3 t10 t11 t12 t14 t20 t21 t22 t27 t28 t29 t43 t44 t65) H) (zac .add false t29 (.int .i64 1) λt66=>Kb7 (zoh t0 t2 t3 t10 t11 t12 t20 t21 t22 t27 t28 t66) H)
def zvp:Prop:=zac .lss false t29 t28 λt30=>zag t30 (zak 4 t27 t29 λt31=>zae true 4 t31 H λt32=>zay [.snil,(.bool false),.snil,.snil] H λt14 H=>zao 4 t14 t32 H λH=>zab H (λK'=>K' t0 H) λt33=>zab H (λK'=>zaj true 3 t11 H (K' · H)) λt34=>zab H (λK'=>K' t2 H) λt35=>zab H (λK'=>K' t10 H) λt36=>zab H (λK'=>zak 2 t35 t36 (K' · H)) λt37=>zab H (λK'=>zaj true 2 t37 H (K' · H)) λt38=>zab H (λK'=>K' t3 H) λt39=>zab H (λK'=>K' t10 H) λt40=>zab H (λK'=>zak 2 t39 t40 (K' · H)) λt41=>zab H (λK'=>zaj true 2 t41 H (K' · H)) λt42=>zaA H (λH K'=>ACalls tP zj0 [t33,t34,t38,t42] H K') λt43=>zab H (λK'=>zah 1 t43 (K' · H)) λt44=>zab H (λK'=>K' (.int .i64 0) H) λt45=>zEA t0 t2 t3 t10 t11 t12 t14 t20 t21 t22 t27 t28 t29 t43 t44 t45 H K Kb3 Kb7) (zac .add false t22 (.int .i64 1) λt68=>Kb3 (ziU t0 t2 t3 t12 t20 t21 t68) H)
def zvo:Prop:=zac .lss false t22 t21 λt23=>zag t23 (zak 3 t20 t22 λt25=>zae true 3 t25 H λt26=>zay [(.int .i64 0),(.int .i64 0),.snil] H λt11 H=>zao 3 t11 t26 H λH=>zah 1 t9 λt28=>zoi t0 t2 t3 t22 t11 .snil t20 t21 t22 t9 t28 (.int .i64 0) H K Kb3) (K t9 H)
def zEx:Prop:=ACalls tP zdz [(.int .i64 1)] H λt17 H=>zaq [.snil,(.bool false),.snil,.snil] [(0,1),(1,3)] [(1,t17)] λt18=>zau 4 [.snil,(.bool false),.snil,.snil] 1 [(0,t18)] λt19=>zah 1 t1 λt21=>zEB t0 t2 t3 t19 t1 t21 (.int .i64 0) H K
variable {t0 t1 t2 t3 t9 t10 t11 t12 t14 t20 t21 t22 t27 t28 t29 t43 t44 t45} {H} {K} {Kb3 Kb7}
theorem zWm (Inv:Nat→AV→AV→zaa→Prop) (n:Nat) (h0:HSc H→Inv n t12 t45 H)
  (ac:Rd2 (λt12=>λt45=>ziT t0 t2 t3 t10 t11 t12 t14 t20 t21 t22 t27 t28 t29 t43 t44 t45) (λt12=>λt45=>λH Kb10=>zvn t0 t2 t3 t10 t11 t12 t14 t20 t21 t22 t27 t28 t29 t43 t44 t45 H K Kb3 Kb7 Kb10) H Inv):zEA t0 t2 t3 t10 t11 t12 t14 t20 t21 t22 t27 t28 t29 t43 t44 t45 H K Kb3 Kb7:=
 lp2 (M:=zee) zWp t12 t45 (by kernel_rfl) Inv n h0 ac
theorem zWo (Inv:Nat→AV→AV→zaa→Prop) (n:Nat) (h0:HSc H→Inv n t12 t29 H)
  (ac:Rd2 (λt12=>λt29=>zoh t0 t2 t3 t10 t11 t12 t20 t21 t22 t27 t28 t29) (λt12=>λt29=>λH Kb7=>zvp t0 t2 t3 t10 t11 t12 t20 t21 t22 t27 t28 t29 H K Kb3 Kb7) H Inv):zoi t0 t2 t3 t10 t11 t12 t20 t21 t22 t27 t28 t29 H K Kb3:=
 lp2 (M:=zee) zED t12 t29 (by kernel_rfl) Inv n h0 ac
theorem zWn (Inv:Nat→AV→AV→zaa→Prop) (n:Nat) (h0:HSc H→Inv n t9 t22 H)
  (ac:Rd2 (λt9=>λt22=>ziU t0 t2 t3 t9 t20 t21 t22) (λt9=>λt22=>λH Kb3=>zvo t0 t2 t3 t9 t20 t21 t22 H K Kb3) H Inv):zEB t0 t2 t3 t9 t20 t21 t22 H K:=
 lp2 (M:=zee) zEC t9 t22 (by kernel_rfl) Inv n h0 ac
theorem zWq (h:HSc H→zEx t0 t1 t2 t3 H K):ACalls tP zj7 [t0,t1,t2,t3] H K:=
 acb zee Tryz.func78 zvq (by kernel_rfl) (by kernel_rfl) h
end
theorem ACalls.snilFull {P:Program} {f:FuncId} {us:List AV} {H:zaa} {K:AV→zaa→Prop} (h:ACalls P f us H λr H'=>(r=.snil∧K (.sl [] .full) H')∨K r H'):ACalls P f us H K:=by
 intro B w G vs hH hv;refine (h B w G vs hH hv).mono λe w' ⟨v,r,H',G',h1,h2,h3,h4,h5⟩=>?_;rcases h5 with ⟨rfl,hk⟩ | hk
 ·refine⟨v,.sl [] .full,H',G',h1,h2,h3,?_,hk⟩;have:v=.slice none 0 0:=h4;subst this;exact⟨.slE _ _,_,rfl⟩
 ·exact⟨v,r,H',G',h1,h2,h3,h4,hk⟩
theorem zw7 (r:List IT) (hr:r.length≤1000000) (H:zaa) (K:Kt) (h0:r=[]→K (.sl [] .full) H) (h1:r≠[]→K (.sl (IT.css r) (.own H.length)) (H++[.perm zbf 2 r.length])) :
  ACalls tP zqe [.sl (IT.css r) .none] H K:=by
 refine ACalls.snilFull (zMh λhs=>?_);cases r with
 | nil=>simp[zsx,IT.css,zg8,zgk,zau,zaQ,plain,AV.pd,zav,zaM,zaJ];exact⟨.inl (h0 rfl),h0 rfl⟩
 | cons x r=>have:=h1 (by simp);simp[zsx,IT.css,zg8,zgk,zau,zaQ,plain,AV.pd,zav,zaM,zaJ];simp only[List.length_cons]at hr;refine⟨λc hc=>?_,⟨by omega,by omega⟩,by simpa[IT.css]using this⟩;rw[IT.css_map]at hc;obtain⟨v,_,rfl⟩:=List.mem_map.1 hc;simp
theorem zg6 {H:zaa} {g:Bool} {p:(AV→zaa→Prop)→Prop} {k:AV→zaa→Prop} (r:AV) (H':zaa) (h:p λv H2=>v=r∧H2=H') (hg:GrowA H H') (hk:k r H'):zdJ .g g H p k:=⟨r,H',h,λ_=>hg,hk⟩
theorem zo2 {H:zaa} {g:Bool} {p:(AV→zaa→Prop)→Prop} {k:AV→zaa→Prop} (r:AV) (h:p λv H2=>v=r∧H2=H) (hk:k r H):zdJ .g g H p k:=⟨r,H,h,λ_=>.inl rfl,hk⟩
def zoY (aa:List Dat) (f:Nat):Prop:=∀ (t:VT) (i j:IT),i.nodes+j.nodes≤f→t.nodes≤1000→zaV aa 0 t=true→0≤rdV aa i t→0≤rdV aa j t→rdV aa i t+rdV aa j t≤6→i.nodes+j.nodes≤300 →
 ∀ (H:zaa) (K:Kt),K (.sl (zaL (zbo aa f t i j)) .none) H→ACalls tP zj0 [.sl (aa.map Dat.cs) .none,.agg t.cs,.agg i.cs,.agg j.cs] H K
def zi6 (aa:List Dat) (f:Nat):Prop:=∀ (ts:List VT) (l m:List IT),IT.nodesL l+IT.nodesL m+1≤f→l.length=ts.length→m.length=ts.length→ts.length≤1000→(∀ x∈ts,x.nodes≤1000∧zaV aa 0 x=true)→0≤rdA aa l ts 0→0≤rdA aa m ts 0→rdA aa l ts 0+rdA aa m ts 0≤6→IT.nodesL l+IT.nodesL m≤300 →
 ∀ (H:zaa) (K:Kt),K (.sl (zaK (zcn aa f ts l m)) .none) H→ACalls tP zj7 [.sl (aa.map Dat.cs) .none,.sl (VT.css ts) .none,.sl (IT.css l) .none,.sl (IT.css m) .none] H K
def zi4 (aa:List Dat) (f:Nat):Prop:=∀ (t:VT) (l m:List IT),IT.nodesL l+IT.nodesL m+1≤f→t.nodes≤1000→zaV aa 0 t=true→t.kind=5→0≤rdE aa l t 0→0≤rdE aa m t 0→rdE aa l t 0+rdE aa m t 0≤6→IT.nodesL l+IT.nodesL m≤300 →
 ∀ (H:zaa) (K:Kt),K (.sl (zaK (za3 aa f t l m)) .none) H→ACalls tP zgu [.sl (aa.map Dat.cs) .none,.agg t.cs,.sl (IT.css l) .none,.sl (IT.css m) .none] H K
theorem zIo {aa:List Dat} (h8:∀ D∈aa,D.cons.length≤8) {f:Nat} {ts:List VT} {l m:List IT} (hf:IT.nodesL l+IT.nodesL m≤f) (hl:l.length=ts.length) (hm:m.length=ts.length) (hA:0≤rdA aa l ts 0) (hB:0≤rdA aa m ts 0) (h6:rdA aa l ts 0+rdA aa m ts 0≤6) (k:Nat) (hk:k≤ts.length) :
  (∀ r∈zco aa f ts l m k,0<r.2∧r.2≤729∧r.1.length≤IT.nodesL l+IT.nodesL m)∧(zco aa f ts l m k).length≤729:=by
 have hb:=zy3 (f:=f) h8 hf hl hm hA hB h6 k hk;have hp:=zrn (zgA aa f).1 ts l m k;have hs:∀ g:List IT→Nat,zaE g (zco aa f ts l m k)=zaE g (zbU aa f ts l m k):=λg=>zro (zgL aa f).1 ts l m k g;have a1:=zcx l ts 0 k hl (by omega) hA;have b1:=zcx m ts 0 k hm (by omega) hB;have n1:=IT.nodesL_take_le l k;have n2:=IT.nodesL_take_le m k;have hN:zaE (λ_=>1) (zco aa f ts l m k)≤729:=by obtain⟨h1,h2⟩:=(zcq h8 (f+1)).2.1 (ts.take k) (l.take k) (m.take k) (by omega) (by simp;omega) (by simp;omega) a1.1 b1.1 (by omega);have e:=zy5 (aa:=aa) (f:=f) (ts:=ts) (l:=l) (m:=m) (k:=k) k (Nat.le_refl _);rw[zhH,List.length_take,Nat.min_eq_left hk,e]at h2;rw[hs];exact Nat.le_trans h2 (zcw (by omega))
 refine⟨λr hr=>?_,Nat.le_trans (zft hp) hN⟩;obtain⟨q,hq,he⟩:=zer hs hr (hp r hr);have h1:=zfv (λ_=>1) hr;rw[Nat.mul_one]at h1;obtain⟨_,_,h2⟩:=hb.1 q hq;rw[he]at h2;have h3:=IT.len_le r.1;exact⟨hp r hr,by omega,by omega⟩
theorem zJC {out:List (List IT × Nat)} {ws:List (IT × Nat)} {j:Nat} (h:j<out.length):zbW (out.take (j+1)) ws=zbW (out.take j) ws++ws.map λw=>(out[j].1++[w.1],out[j].2*w.2):=by rw[List.take_succ_eq_append_getElem h];simp only[zbW,List.flatMap_append,List.flatMap_cons,List.flatMap_nil,List.append_nil]
theorem zzw (ws:List (IT × Nat)):∀ out:List (List IT × Nat),(zbW out ws).length=out.length*ws.length
 | []=>by simp[zbW]
 | r::out=>by have:=zzw ws out;unfold zbW at this ⊢;rw[List.flatMap_cons,List.length_append,this,List.length_map,List.length_cons,Nat.succ_mul];omega
theorem zIs {aa:List Dat} (h8:∀ D∈aa,D.cons.length≤8) {f:Nat} (hM:zoY aa f):zi6 aa (f+1):=by
 intro ts l m hf hl hm mu cT hA hB h6 hn H K hK;rw[zky]at hK;refine ACalls.out (zWq λhs=>?_);simp[zEx,Nat.add_assoc];refine zeF 1 (by omega) _ _ ?_;simp[zaq,zaI,zau,zaQ,plain,AV.pd,AV.known,zcI,Nat.add_assoc];have du:([AV.sl [] .none::zai 1]:List (List AV))=zaK (zco aa f ts l m 0):=by simp[zrp,zaK,IT.css]
 rw[du];refine zWn (Inv:=λq t9 t22 H'=>∃ (k:Nat) (J:zaa) (tok:Tok),k≤ts.length∧ts.length-k=q∧t22=.int .i64 k∧t9=.sl (zaK (zco aa f ts l m k)) tok∧H'=H++J) ts.length ?_ ?_
 ·intro _;exact⟨0,[],.full,by omega,rfl,rfl,rfl,by simp⟩
 ·rintro q t9 t22 H' ⟨k,J,tok,hk,rfl,rfl,rfl,rfl⟩ aJ am aM Kb au;have gn:=zIo (f:=f) h8 (by omega) hl hm hA hB h6 k hk;obtain⟨out,bj⟩:∃ out,out=zco aa f ts l m k:=⟨_,rfl⟩;rw[←bj]at gn aM ⊢;obtain⟨b1,b2⟩:=gn;by_cases ak:k<ts.length
  ·have h3:k<l.length:=by omega
   have h4:k<m.length:=by omega
   obtain⟨x1,x2,x3,aC,bC,bg,bz⟩:=zbs ts[k];obtain⟨y1,y2,fh,hy1,fB⟩:=zck l[k];obtain⟨z1,z2,kA,md,ml⟩:=zck m[k];have n1:=zdQ h3;have n2:=zdQ h4;have d1:=(zeZ (aa:=aa) l ts 0 (by omega) hl hA).1 k h3 ak;have d2:=(zeZ (aa:=aa) m ts 0 (by omega) hm hB).1 k h4 ak;have a1:=zcx l ts 0 k hl (by omega) hA;have a2:=zcx l ts 0 (k+1) hl (by omega) hA;have c1:=zcx m ts 0 k hm (by omega) hB;have c2:=zcx m ts 0 (k+1) hm (by omega) hB;have sl:=ze0 (aa:=aa) l[k] ts[k] (l.take k) (ts.take k) 0 (by simp;omega) (by omega) a1.1;have sm:=ze0 (aa:=aa) m[k] ts[k] (m.take k) (ts.take k) 0 (by simp;omega) (by omega) c1.1;rw[←List.take_succ_eq_append_getElem h3,←List.take_succ_eq_append_getElem ak]at sl;rw[←List.take_succ_eq_append_getElem h4,←List.take_succ_eq_append_getElem ak]at sm;have dd:rdV aa l[k] ts[k]+rdV aa m[k] ts[k]≤6:=by
    by_cases cl:rdV aa l[k] ts[k]<0∨rdA aa (l.take k) (ts.take k) 0+rdV aa l[k] ts[k]>6
    ·rw[if_pos cl]at sl;omega
    ·rw[if_neg cl]at sl;by_cases cm:rdV aa m[k] ts[k]<0∨rdA aa (m.take k) (ts.take k) 0+rdV aa m[k] ts[k]>6
     ·rw[if_pos cm]at sm;omega
     ·rw[if_neg cm]at sm;omega
   obtain⟨eS,fS⟩:=cT _ (List.getElem_mem ak);obtain⟨ws,fN⟩:∃ ws,ws=zbo aa f ts[k] l[k] m[k]:=⟨_,rfl⟩;obtain⟨p1,p2,p3,p4⟩:=zwT h8 (f:=f) (t:=ts[k]) (i:=l[k]) (j:=m[k]) (by omega) d1 d2 dd;rw[←fN]at p1 p2 p3 p4;have aX:zco aa f ts l m (k+1)=zbW out ws:=by rw[zkx,←bj];simp[List.getD_eq_getElem?_getD,ak,h3,h4,fN]
   generalize mv:H++J=HB at *;simp[zvo,ak,aC];rw[←aC];refine⟨⟨bC,bg,bz⟩,?_⟩;unfold zoi;refine ALoop.own 12 zbu 4 rfl ?_;have dG:(HB++[AB.cells ts[k].cs]).length=HB.length+1:=by simp
   rw[dG,List.append_assoc];show zoi _ _ _ _ _ (.sl (zaK (zbW (out.take 0) ws)) (.own (HB.length+1))) _ _ _ _ _ _ (HB++[.cells ts[k].cs,.perm zbu 4 0]) _ _;have htc:∀ n,ts[k].cs.all (AV.scA n)=true:=λn=>by obtain⟨v1,v2,v3⟩:=ts[k];simp[VT.cs,AV.scA,AV.scB]
   have kB:∀ n,HSc (HB++[.cells ts[k].cs,.perm zbu 4 n]):=λn=>aJ.append (by simp only[AB.sc,List.all_cons,List.all_nil,htc];rfl);have eH:∀ J,(AV.sl (zaK out) tok).sc (HB++J).length=true:=λJ=>by
    have h0:(AV.sl (zaK out) tok).sc HB.length=true:=by rw[List.all_eq_true]at aM;exact aM _ (by simp[ziU,ux])
    exact zcg (by simp) h0
   refine zWo (Inv:=λq t12 t29 H'=>∃ j:Nat,j≤out.length∧out.length-j=q∧t29=.int .i64 j∧t12=.sl (zaK (zbW (out.take j) ws)) (.own (HB.length+1))∧H'=HB++[.cells ts[k].cs,.perm zbu 4 (zbW (out.take j) ws).length]) out.length ?_ ?_
   ·intro _;exact⟨0,by omega,rfl,rfl,rfl,by simp[zbW]⟩
   ·rintro q t12 t29 H' ⟨j,hj,rfl,rfl,rfl,rfl⟩ hsc7 hlen7 hsF7 Kb7 gp;have dD:(zbW (out.take j) ws).length≤729*729:=by rw[zzw];exact Nat.mul_le_mul (by simp;omega) p4
    by_cases aQ:j<out.length
    ·obtain⟨r1,r2,r3⟩:=b1 out[j] (List.getElem_mem aQ);have aq:=zJC (ws:=ws) aQ;simp[zvp,aQ,h3,h4,aC,fh,kA];rw[←aC,←fh,←kA];refine zaB (.sl (zaL ws) .none) (λJ=>by rw[fN];exact hM ts[k] l[k] m[k] (by omega) eS fS d1 d2 dd (by omega) _ _ ⟨rfl,rfl⟩) ?_;simp;obtain⟨ah,dm⟩:∃ ah,ah=zbW (out.take j) ws:=⟨_,rfl⟩;rw[←dm]at dD aq ⊢;obtain⟨g,hg⟩:∃ g:IT × Nat→List IT × Nat,g=λw=>(out[j].1++[w.1],out[j].2*w.2):=⟨_,rfl⟩;rw[←hg]at aq;have kG:(AV.sl (IT.css out[j].1) .none::zai (out[j].2:Int)).length=4:=by simp
     have ip:∀ n,HSc (HB++[.cells ts[k].cs,.perm zbu 4 n,.cells (.sl (IT.css out[j].1) .none::zai (out[j].2:Int))]):=λn=>aJ.append (by simp only[AB.sc,List.all_cons,List.all_nil,htc];simp[zai,AV.scA,AV.scB]);refine zWm (Inv:=λq t12 t45 H'=>∃ i:Nat,i≤ws.length∧ws.length-i=q∧t45=.int .i64 i∧t12=.sl (zaK (ah++(ws.take i).map g)) (.own (HB.length+1))∧H'=HB++[.cells ts[k].cs,.perm zbu 4 (ah.length+i),.cells (.sl (IT.css out[j].1) .none::zai (out[j].2:Int))]) ws.length ?_ ?_
     ·intro _;exact⟨0,by omega,rfl,rfl,by simp,rfl⟩
     ·rintro q t12 t45 H' ⟨i,hi,rfl,rfl,rfl,rfl⟩ hsc10 cU hsF10 Kb10 e8;have dX:(ah++(ws.take i).map g).length=ah.length+i:=by simp;omega
      by_cases be:i<ws.length
      ·obtain⟨w1,w2,_⟩:=p1 ws[i] (List.getElem_mem be);have cD:ah++(ws.take (i+1)).map g=(ah++(ws.take i).map g)++[g ws[i]]:=by rw[List.take_succ_eq_append_getElem be];simp only[List.map_append,List.map_cons,List.map_nil,List.append_assoc]
       have fa:Sm (ws[i].2:Int):=zcb (Nat.lt_of_le_of_lt w2 (by decide));have du:Sm (out[j].2:Int):=zcb (Nat.lt_of_le_of_lt r2 (by decide));simp[zvn,be,zc8,zcB,zcJ];refine⟨zd7 _,?_⟩;have bm:=r3;have kC:∀ (a:List IT) (x:IT),IT.css a++[x.cs]=IT.css (a++[x]):=λa x=>by rw[IT.css_map,IT.css_map,List.map_append];rfl
       have c7:∀ (a:List IT),∀ c∈IT.css a,c.length=2:=λa c hc=>by rw[IT.css_map]at hc;obtain⟨v,_,rfl⟩:=List.mem_map.1 hc;simp
       have ly:plain ([.int .i64 0,.snil]:List AV)=some [.int .i64 0,.sl [] .none]:=rfl;by_cases fY:out[j].1=[]
       ·refine zo2 (.sl [] .full) (zw7 _ (by omega) _ _ (λ_=>⟨rfl,rfl⟩) (λh=>absurd fY h)) ?_;simp[zcB,zau,zaQ,ly,zic];refine zg6 (.sl (IT.css (out[j].1++[ws[i].1])) (.own (HB.length+4))) (HB++[.cells ts[k].cs,.perm zbu 4 (ah.length+i),.cells (.sl (IT.css out[j].1) .none::zai (out[j].2:Int)),.cells (tmC ws[i])]++[.perm zbf 2 (out[j].1.length+1)]) ?_ (.inr (.inl ⟨_,_,_,rfl⟩)) ?_
        ·simp[zav,zaM,zaJ,fY,IT.css]
        ·simp[zcJ];refine zo2 (.agg (zai ((out[j].2*ws[i].2:Nat):Int))) (zn7 _ _ du fa _ _ ⟨by rw[Int.natCast_mul],rfl⟩) ?_;have bH:plain (AV.sl (IT.css (out[j].1++[ws[i].1])) (.own (HB.length+4))::zai ((out[j].2*ws[i].2:Nat):Int))=some (.sl (IT.css (out[j].1++[ws[i].1])) .none::zai ((out[j].2*ws[i].2:Nat):Int)):=by simp[plain,AV.pd,zcI]
         have jP:plain ([.snil,.bool false,.snil,.snil]:List AV)=some [.sl [] .none,.bool false,.sl [] .none,.sl [] .none]:=rfl;have gq:zaK (ah++(ws.take i).map g)++[.sl (IT.css (out[j].1++[ws[i].1])) .none::zai ((out[j].2*ws[i].2:Nat):Int)]=zaK (ah++(ws.take (i+1)).map g):=by rw[cD,zkz _ [g ws[i]],hg];rfl
         rw[Int.natCast_mul]at bH gq;simp only[List.map_take]at gq;simp[zaq,zaI,bH,jP];have cn:min i ws.length=i:=by omega
         refine zg6 (.sl (zaK (ah++List.take (i+1) (List.map g ws))) (.own (HB.length+1))) (HB++[.cells ts[k].cs,.perm zbu 4 (ah.length+(i+1)),.cells (.sl (IT.css out[j].1) .none::zai (out[j].2:Int)),.cells (tmC ws[i]),.perm zbf 2 (out[j].1.length+1)]) ?_ (.inr (.inr (.inl ⟨HB.length+1,zbu,4,ah.length+i,ah.length+(i+1),by simp,by simp[List.set_append_right]⟩))) ?_
         ·simp[zav,zaM,zaJ,List.set_append_right,cn];exact⟨⟨by omega,by omega⟩,gq,by omega⟩
         ·rw[wi i (by omega)];exact e8 _ _ ⟨ws.length-(i+1),by omega,Back.at (J:=[.cells (tmC ws[i]),.perm zbf 2 (out[j].1.length+1)]) (H2:=HB++[.cells ts[k].cs,.perm zbu 4 (ah.length+(i+1)),.cells (.sl (IT.css out[j].1) .none::zai (out[j].2:Int))]) (by simp) (by simp) (ip _) (by
           have:=eH [.cells ts[k].cs,.perm zbu 4 (ah.length+(i+1)),.cells (.sl (IT.css out[j].1) .none::zai (out[j].2:Int))];simp only[ziT,ux,List.all_cons,List.all_append,List.all_replicate,List.all_nil,this];simp[AV.sc,AV.scA,AV.scB,AV.scV]) ⟨_,_,rfl,i+1,by omega,rfl,rfl,by simp only[List.map_take],rfl⟩⟩
       ·refine zg6 (.sl (IT.css out[j].1) (.own (HB.length+4))) (HB++[.cells ts[k].cs,.perm zbu 4 (ah.length+i),.cells (.sl (IT.css out[j].1) .none::zai (out[j].2:Int)),.cells (tmC ws[i])]++[.perm zbf 2 out[j].1.length]) (zw7 _ (by omega) _ _ (λh=>absurd h fY) (λ_=>⟨by simp,by simp⟩)) (.inr (.inl ⟨_,_,_,rfl⟩)) ?_;simp[zcB,zau,zaQ,ly,zic];refine zg6 (.sl (IT.css (out[j].1++[ws[i].1])) (.own (HB.length+4))) (HB++[.cells ts[k].cs,.perm zbu 4 (ah.length+i),.cells (.sl (IT.css out[j].1) .none::zai (out[j].2:Int)),.cells (tmC ws[i])]++[.perm zbf 2 (out[j].1.length+1)]) ?_ (.inr (.inr (.inl ⟨HB.length+4,zbf,2,out[j].1.length,out[j].1.length+1,by simp,by simp[List.set_append_right]⟩))) ?_
        ·simp[zav,zaM,zaJ,List.set_append_right,kC];omega
        ·simp[zcJ];refine zo2 (.agg (zai ((out[j].2*ws[i].2:Nat):Int))) (zn7 _ _ du fa _ _ ⟨by rw[Int.natCast_mul],rfl⟩) ?_;have bH:plain (AV.sl (IT.css (out[j].1++[ws[i].1])) (.own (HB.length+4))::zai ((out[j].2*ws[i].2:Nat):Int))=some (.sl (IT.css (out[j].1++[ws[i].1])) .none::zai ((out[j].2*ws[i].2:Nat):Int)):=by simp[plain,AV.pd,zcI]
         have jP:plain ([.snil,.bool false,.snil,.snil]:List AV)=some [.sl [] .none,.bool false,.sl [] .none,.sl [] .none]:=rfl;have gq:zaK (ah++(ws.take i).map g)++[.sl (IT.css (out[j].1++[ws[i].1])) .none::zai ((out[j].2*ws[i].2:Nat):Int)]=zaK (ah++(ws.take (i+1)).map g):=by rw[cD,zkz _ [g ws[i]],hg];rfl
         rw[Int.natCast_mul]at bH gq;simp only[List.map_take]at gq;simp[zaq,zaI,bH,jP];have cn:min i ws.length=i:=by omega
         refine zg6 (.sl (zaK (ah++List.take (i+1) (List.map g ws))) (.own (HB.length+1))) (HB++[.cells ts[k].cs,.perm zbu 4 (ah.length+(i+1)),.cells (.sl (IT.css out[j].1) .none::zai (out[j].2:Int)),.cells (tmC ws[i]),.perm zbf 2 (out[j].1.length+1)]) ?_ (.inr (.inr (.inl ⟨HB.length+1,zbu,4,ah.length+i,ah.length+(i+1),by simp,by simp[List.set_append_right]⟩))) ?_
         ·simp[zav,zaM,zaJ,List.set_append_right,cn];exact⟨⟨by omega,by omega⟩,gq,by omega⟩
         ·rw[wi i (by omega)];exact e8 _ _ ⟨ws.length-(i+1),by omega,Back.at (J:=[.cells (tmC ws[i]),.perm zbf 2 (out[j].1.length+1)]) (H2:=HB++[.cells ts[k].cs,.perm zbu 4 (ah.length+(i+1)),.cells (.sl (IT.css out[j].1) .none::zai (out[j].2:Int))]) (by simp) (by simp) (ip _) (by
           have:=eH [.cells ts[k].cs,.perm zbu 4 (ah.length+(i+1)),.cells (.sl (IT.css out[j].1) .none::zai (out[j].2:Int))];simp only[ziT,ux,List.all_cons,List.all_append,List.all_replicate,List.all_nil,this];simp[AV.sc,AV.scA,AV.scB,AV.scV]) ⟨_,_,rfl,i+1,by omega,rfl,rfl,by simp only[List.map_take],rfl⟩⟩
      ·obtain rfl:i=ws.length:=by omega
       rw[List.take_length,←aq];simp[zvn,wi j (by omega)];have cU:ah.length+ws.length=(zbW (out.take (j+1)) ws).length:=by rw[aq];simp
       exact gp _ _ ⟨out.length-(j+1),by omega,Back.at (J:=[.cells (.sl (IT.css out[j].1) .none::zai (out[j].2:Int))]) (H2:=HB++[.cells ts[k].cs,.perm zbu 4 (zbW (out.take (j+1)) ws).length]) (by rw[←cU];simp) (by simp) (kB _) (by
        have:=eH [.cells ts[k].cs,.perm zbu 4 (zbW (out.take (j+1)) ws).length];simp only[zoh,ux,List.all_cons,List.all_append,List.all_replicate,List.all_nil,this];simp[AV.sc,AV.scA,AV.scB,AV.scV]) ⟨_,_,rfl,j+1,by omega,rfl,rfl,rfl,rfl⟩⟩
    ·obtain rfl:j=out.length:=by omega
     rw[List.take_length]at dD ⊢;simp[zvp,wi k (by omega)];exact au _ _ ⟨ts.length-(k+1),by omega,Back.here (by simp;omega) (kB _) (by simp[ziU,ux,AV.sc,AV.scA,AV.scB,AV.scV]) ⟨_,_,rfl,k+1,J++[.cells ts[k].cs,.perm zbu 4 (zbW out ws).length],.own (HB.length+1),by omega,rfl,rfl,by rw[aX],by rw[←mv];simp⟩⟩
  ·obtain rfl:k=ts.length:=by omega
   rw[←bj]at hK;simp[zvo];exact Out.at (b:=.sl (zaK out) .none) rfl (Nat.le_refl _) hs (.atom (.sl _ _)) rfl rfl hK
section
variable (t0 t1 t2 t3 t4 t5 t9 t10 t11 t34 t35 t36 t60 t61 t62 t85 t86 t87 t88:AV) (H:zaa) (K:Kt) (Kb2 Kb6 Kb12 Kb13 Kb20:Lt)
def zeb:Nat→List Bool | 6=>rl false [9,1,24,3,66] | 13=>rl false [9,1,50,3,40] | 20=>rl false [9,1,76,3,14] | _=>[]
noncomputable def zfZ:Code:=Tryz.f43.body.getD .skip
noncomputable def zuI:List ResultVar:=Tryz.f43.results.toList
def znt:List AV:=ux 9 (t9::ux 24 (t34::t35::t36::ux 66 []))
def zT6:List Bool:=zeb 6
noncomputable def zT0:Code:=zar [1,1,0,1,0,1,0,1,0,0] zfZ
def zTX:AExit→List AV→zaa→Prop:=zas tP zeb [1,1,0,1,0,1,0,1,0] zfZ (zaz tP zuI K)
def zny:Prop:=ALoop tP zT0 (zTX K) (znt t9 t34 t35 t36) H
def znu:Prop:=K t9 H
def zf0:Prop:=znu t9 H K
def zuG:Prop:=zac .lss false t36 t35 λt37=>zag t37 (zak 4 t34 t36 λt38=>zae true 4 t38 H λt39=>zay [.snil,(.bool false),.snil,.snil] H λt11 H=>zao 4 t11 t39 H λH=>zaf 0 t11 λt41=>zae false 1 t41 H λt42=>zaq [(.int .i64 0),.snil] [(0,1),(1,1)] [(1,t42)] λt43=>zaf 1 t11 λt44=>zae true 3 t44 H λt45=>zaq [(.int .i64 0),.snil,(.bool false),.snil,.snil] [(0,2),(2,3)] [(0,t43),(1,t45)] λt46=>zau 5 [(.int .i64 0),.snil,(.bool false),.snil,.snil] 1 [(0,t46)] λt47=>zav zax 5 88 t9 t47 H λt48 H=>zac .add false t36 (.int .i64 1) λt49=>Kb6 (znt t48 t34 t35 t49) H) (zf0 t9 H K)
def ziN:List AV:=ux 9 (t9::ux 50 (t60::t61::t62::ux 40 []))
def zT4:List Bool:=zeb 13
noncomputable def zTY:Code:=zar [1,1,0,1,0,1,1,1,0,1,1,0,0] zfZ
def zTV:AExit→List AV→zaa→Prop:=zas tP zeb [1,1,0,1,0,1,1,1,0,1,1,0] zfZ (zaz tP zuI K)
def znw:Prop:=ALoop tP zTY (zTV K) (ziN t9 t60 t61 t62) H
def zuH (t9 t60 t61 t62:AV) (H:zaa) (K:Kt) (Kb13:Lt):Prop:=zac .add false t62 (.int .i64 1) λt77=>Kb13 (ziN t9 t60 t61 t77) H
def znv:Prop:=zuH t9 t60 t61 t62 H K Kb13
def zuE:Prop:=zac .lss false t62 t61 λt63=>zag t63 (zak 3 t60 t62 λt65=>zae true 3 t65 H λt66=>zay [(.bool false),.snil,.snil] H λt15 H=>zao 3 t15 t66 H λH=>zae true 3 t15 H λt67=>ACalls tP zj8 [t67] H λt68 H=>zac .neq false t68 (.int .i64 0) λt69=>zag t69 (zaq [(.int .i64 0),.snil] [(0,1),(1,1)] [(0,t62)] λt72=>zae true 3 t15 H λt73=>zaq [(.int .i64 0),.snil,(.bool false),.snil,.snil] [(0,2),(2,3)] [(0,t72),(1,t73)] λt74=>zau 5 [(.int .i64 0),.snil,(.bool false),.snil,.snil] 1 [(0,t74)] λt75=>zav zax 5 88 t9 t75 H λt76 H=>znv t76 t60 t61 t62 H K Kb13) (znv t9 t60 t61 t62 H K Kb13)) (zf0 t9 H K)
def zns:List AV:=ux 9 (t9::ux 76 (t86::t87::t88::ux 14 []))
def zT5:List Bool:=zeb 20
noncomputable def zTZ:Code:=zar [1,1,0,1,0,1,1,1,1,1,0,1,0,0] zfZ
def zTW:AExit→List AV→zaa→Prop:=zas tP zeb [1,1,0,1,0,1,1,1,1,1,0,1,0] zfZ (zaz tP zuI K)
def znx:Prop:=ALoop tP zTZ (zTW K) (zns t9 t86 t87 t88) H
def zuF:Prop:=zac .lss false t88 t87 λt89=>zag t89 (zak 4 t86 t88 λt90=>zae true 4 t90 H λt91=>zay [.snil,(.bool false),.snil,.snil] H λt17 H=>zao 4 t17 t91 H λH=>zaf 0 t17 λt93=>zae false 1 t93 H λt94=>zaq [(.int .i64 0),.snil] [(0,1),(1,1)] [(1,t94)] λt95=>zaf 1 t17 λt96=>zae true 3 t96 H λt97=>zaq [(.int .i64 0),.snil,(.bool false),.snil,.snil] [(0,2),(2,3)] [(0,t95),(1,t97)] λt98=>zau 5 [(.int .i64 0),.snil,(.bool false),.snil,.snil] 1 [(0,t98)] λt99=>zav zax 5 88 t9 t99 H λt100 H=>zac .add false t88 (.int .i64 1) λt101=>Kb20 (zns t100 t86 t87 t101) H) (zf0 t9 H K)
def ziM:Prop:=zat t1 H λt5 H=>zat t2 H λt6 H=>zat t3 H λt7 H=>zaf 0 t5 λt18=>zae false 1 t18 H λt19=>zac .eql false t19 (.int .i64 6) λt26=>zag t26 (zaf 2 t5 λt28=>zae false 1 t28 H λt29=>zaf 1 t6 λt30=>zae false 1 t30 H λt31=>zaf 1 t7 λt32=>zae false 1 t32 H λt33=>ACalls tP zj7 [t0,t29,t31,t33] H λt34 H=>zah 1 t34 λt35=>zny .snil t34 t35 (.int .i64 0) H K) (zac .eql false t19 (.int .i64 7) λt51=>zag t51 (zaf 0 t6 λt53=>zae false 1 t53 H λt54=>zaf 0 t7 λt55=>zae false 1 t55 H λt56=>ACalls tP zqZ [t54,t56] H λt57 H=>zaC t57 0 λt58=>zaC t57 1 λt59=>zah 1 t58 λt61=>znw .snil t58 t61 (.int .i64 0) H K) (zac .eql false t19 (.int .i64 5) λt79=>zag t79 (zae true 3 t5 H λt81=>zaf 1 t6 λt82=>zae false 1 t82 H λt83=>zaf 1 t7 λt84=>zae false 1 t84 H λt85=>ACalls tP zgu [t0,t81,t83,t85] H λt86 H=>zah 1 t86 λt87=>znx .snil t86 t87 (.int .i64 0) H K) (ACalls tP zdz [(.int .i64 1)] H λt21 H=>zaq [(.int .i64 0),.snil,(.bool false),.snil,.snil] [(0,2),(2,3)] [(1,t21)] λt22=>zau 5 [(.int .i64 0),.snil,(.bool false),.snil,.snil] 1 [(0,t22)] λt23=>zav zax 5 88 .snil t23 H λt24 H=>zf0 t24 H K)))
def zok:Nat→List Bool | 200007=>rl false [0,5] | 200008=>rl false [0,5] | 12=>rl false [2,1,6,3,73,3,17] | 200014=>rl false [0,5] | _=>[]
noncomputable def zvu:Code:=Tryz.f81.body.getD .skip
noncomputable def zWE:List ResultVar:=Tryz.f81.results.toList
def zol:List AV:=ux 2 (t2::ux 6 (t9::t10::t11::ux 73 (t85::t86::t87::ux 17 [])))
def zWC:List Bool:=zok 12
noncomputable def zWA:Code:=zar [1,1,1,1,1,1,1,0,1,0,1,1,0,0] zvu
def zWz:AExit→List AV→zaa→Prop:=zas tP zok [1,1,1,1,1,1,1,0,1,0,1,1,0] zvu (zaz tP zWE K)
def zEH:Prop:=ALoop tP zWA (zWz K) (zol t2 t9 t10 t11 t85 t86 t87) H
def zom:Prop:=zae false 1 t9 H λt104=>K t104 H
def zvt:Prop:=zac .lss false t87 t86 λt88=>zag t88 (zak 4 t85 t87 λt89=>zae true 4 t89 H λt90=>zay [.snil,(.bool false),.snil,.snil] H λt13 H=>zao 4 t13 t90 H λH=>zab H (λK'=>K' t10 H) λt91=>zab H (λK'=>K' t2 H) λt92=>zab H (λK'=>zak 2 t92 (.int .i64 0) (K' · H)) λt93=>zab H (λK'=>zaf 0 t93 (K' · H)) λt94=>zab H (λK'=>zaj false 1 t94 H (K' · H)) λt95=>zab H (λK'=>zaf 0 t13 (K' · H)) λt96=>zab H (λK'=>zaj false 1 t96 H (K' · H)) λt97=>zab H (λK'=>zaq [(.int .i64 0),.snil] [(0,1),(1,1)] [(0,t95),(1,t97)] (K' · H)) λt98=>zab H (λK'=>zaf 1 t13 (K' · H)) λt99=>zab H (λK'=>zaj true 3 t99 H (K' · H)) λt100=>zab H (λK'=>K' t11 H) λt101=>aCallV tP t91 [t98,t100,t101] H λt102 H=>zac .add false t87 (.int .i64 1) λt103=>Kb12 (zol t2 t9 t10 t11 t85 t86 t103) H) (zom t9 H K)
def zoj:Prop:=zat t1 H λt5 H=>zah 1 t2 λt15=>zac .eql false t15 (.int .i64 0) λt16=>zag t16 (ACalls tP zdz [(.int .i64 1)] H λt18 H=>zaq [.snil,(.bool false),.snil,.snil] [(0,1),(1,3)] [(0,t3),(1,t18)] λt19=>zau 4 [.snil,(.bool false),.snil,.snil] 1 [(0,t19)] λt20=>K t20 H) (zah 1 t3 λt22=>zac .eql false t22 (.int .i64 0) λt23=>zag t23 (ACalls tP zdz [(.int .i64 1)] H λt25 H=>zaq [.snil,(.bool false),.snil,.snil] [(0,1),(1,3)] [(0,t2),(1,t25)] λt26=>zau 4 [.snil,(.bool false),.snil,.snil] 1 [(0,t26)] λt27=>K t27 H) (zay [.snil] H λt9 H=>zcE zjz [t9] λt28=>zab H (λK'=>K' t28 H) λt29=>zab H (λK'=>K' t2 H) λt30=>zab H (λK'=>zak 2 t30 (.int .i64 0) (K' · H)) λt31=>zab H (λK'=>zaj true 2 t31 H (K' · H)) λt32=>zaA H (λH K'=>ACalls tP zdz [(.int .i64 1)] H K') λt33=>zab H (λK'=>K' t0 H) λt34=>zab H (λK'=>zaj true 3 t5 H (K' · H)) λt35=>zab H (λK'=>K' t2 H) λt36=>zab H (λK'=>zaN 1 2 t36 (some (.int .i64 1)) none (K' · H)) λt37=>zab H (λK'=>K' t3 H) λt38=>zaA H (λH K'=>ACalls tP zgu [t34,t35,t37,t38] H K') λt39=>aCallV tP t29 [t32,t33,t39] H λt40 H=>zab H (λK'=>K' t28 H) λt41=>zab H (λK'=>K' t3 H) λt42=>zab H (λK'=>zak 2 t42 (.int .i64 0) (K' · H)) λt43=>zab H (λK'=>zaj true 2 t43 H (K' · H)) λt44=>zaA H (λH K'=>ACalls tP zdz [(.int .i64 1)] H K') λt45=>zab H (λK'=>K' t0 H) λt46=>zab H (λK'=>zaj true 3 t5 H (K' · H)) λt47=>zab H (λK'=>K' t2 H) λt48=>zab H (λK'=>K' t3 H) λt49=>zab H (λK'=>zaN 1 2 t49 (some (.int .i64 1)) none (K' · H)) λt50=>zaA H (λH K'=>ACalls tP zgu [t46,t47,t48,t50] H K') λt51=>aCallV tP t41 [t44,t45,t51] H λt52 H=>zab H (λK'=>K' t2 H) λt53=>zab H (λK'=>zak 2 t53 (.int .i64 0) (K' · H)) λt54=>zab H (λK'=>zaf 0 t54 (K' · H)) λt55=>zab H (λK'=>zaj false 1 t55 H (K' · H)) λt56=>zab H (λK'=>K' t3 H) λt57=>zab H (λK'=>zak 2 t57 (.int .i64 0) (K' · H)) λt58=>zab H (λK'=>zaf 0 t58 (K' · H)) λt59=>zab H (λK'=>zaj false 1 t59 H (K' · H)) λt60=>zab H (λK'=>zac .eql false t56 t60 (K' · H)) λt61=>zag t61 (zab H (λK'=>K' t0 H) λt62=>zab H (λK'=>zaj true 3 t5 H (K' · H)) λt63=>zab H (λK'=>K' t2 H) λt64=>zab H (λK'=>zaN 1 2 t64 (some (.int .i64 1)) none (K' · H)) λt65=>zab H (λK'=>K' t3 H) λt66=>zab H (λK'=>zaN 1 2 t66 (some (.int .i64 1)) none (K' · H)) λt67=>zaA H (λH K'=>ACalls tP zgu [t62,t63,t65,t67] H K') λt68=>zab H (λK'=>K' t68 H) λt11=>zab H (λK'=>K' t0 H) λt69=>zab H (λK'=>K' t0 H) λt70=>zab H (λK'=>zaj true 3 t5 H (K' · H)) λt71=>zab H (λK'=>K' t2 H) λt72=>zab H (λK'=>zak 2 t72 (.int .i64 0) (K' · H)) λt73=>zab H (λK'=>zaf 0 t73 (K' · H)) λt74=>zab H (λK'=>zaj false 1 t74 H (K' · H)) λt75=>zaA H (λH K'=>ACalls tP zqj [t70,t71,t75] H K') λt76=>zab H (λK'=>K' t2 H) λt77=>zab H (λK'=>zak 2 t77 (.int .i64 0) (K' · H)) λt78=>zab H (λK'=>zaf 1 t78 (K' · H)) λt79=>zab H (λK'=>zaj false 1 t79 H (K' · H)) λt80=>zab H (λK'=>K' t3 H) λt81=>zab H (λK'=>zak 2 t81 (.int .i64 0) (K' · H)) λt82=>zab H (λK'=>zaf 1 t82 (K' · H)) λt83=>zab H (λK'=>zaj false 1 t83 H (K' · H)) λt84=>zaA H (λH K'=>ACalls tP zj7 [t69,t76,t80,t84] H K') λt85=>zab H (λK'=>zah 1 t85 (K' · H)) λt86=>zab H (λK'=>K' (.int .i64 0) H) λt87=>zEH t2 t9 t28 t11 t85 t86 t87 H K) (zom t9 H K)))
def zlA:Nat→List Bool | 2=>rl false [3,3,3,3,18] | _=>[]
noncomputable def zsE:Code:=Tryz.f133.body.getD .skip
noncomputable def zMD:List ResultVar:=Tryz.f133.results.toList
def zlB:List AV:=ux 3 (t3::t4::t5::ux 3 (t9::t10::t11::ux 18 []))
def zMB:List Bool:=zlA 2
noncomputable def zMz:Code:=zar [1,1,0,0] zsE
def zMy:AExit→List AV→zaa→Prop:=zas tP zlA [1,1,0] zsE (zaz tP zMD K)
def zBf:Prop:=ALoop tP zMz (zMy K) (zlB t3 t4 t5 t9 t10 t11) H
def zsD:Prop:=zac .lss false t11 t10 λt12=>zag t12 (zak 4 t9 t11 λt13=>zae true 4 t13 H λt14=>zay [.snil,(.bool false),.snil,.snil] H λt8 H=>zao 4 t8 t14 H λH=>zab H (λK'=>zaj false 1 t3 H (K' · H)) λt15=>zab H (λK'=>zaj true 2 t4 H (K' · H)) λt16=>zab H (λK'=>zau 2 [(.int .i64 0),.snil] 1 [(0,t16)] (K' · H)) λt17=>zab H (λK'=>zaf 0 t8 (K' · H)) λt18=>zab H (λK'=>zaj false 1 t18 H (K' · H)) λt19=>zab H (λK'=>zau 1 [.snil] 2 [(0,t17),(1,t19)] (K' · H)) λt20=>zaA H (λH K'=>ACalls tP zqi [t20] H K') λt21=>zab H (λK'=>zaj true 3 t5 H (K' · H)) λt22=>zab H (λK'=>zaf 1 t8 (K' · H)) λt23=>zab H (λK'=>zaj true 3 t23 H (K' · H)) λt24=>zaA H (λH K'=>ACalls tP zfB [t22,t24] H K') λt25=>zab H (λK'=>zaq [.snil,(.bool false),.snil,.snil] [(0,1),(1,3)] [(0,t21),(1,t25)] (K' · H)) λt26=>zab H (λK'=>zau 4 [.snil,(.bool false),.snil,.snil] 1 [(0,t26)] (K' · H)) λt27=>zav zbu 4 80 t15 t27 H λt28 H=>zao 1 t3 t28 H λH=>zac .add false t11 (.int .i64 1) λt29=>Kb2 (zlB t3 t4 t5 t9 t10 t29) H) (zaF [] (K · H))
def zBe:Prop:=zat t0 H λt4 H=>zat t1 H λt5 H=>zah 1 t2 λt10=>zBf t3 t4 t5 t2 t10 (.int .i64 0) H K
variable {t0 t1 t2 t3 t4 t5 t9 t10 t11 t34 t35 t36 t60 t61 t62 t85 t86 t87 t88} {H} {K} {Kb2 Kb6 Kb12 Kb13 Kb20}
theorem zT3 (Inv:Nat→AV→AV→zaa→Prop) (n:Nat) (h0:HSc H→Inv n t9 t36 H)
  (ac:Rd2 (λt9=>λt36=>znt t9 t34 t35 t36) (λt9=>λt36=>λH Kb6=>zuG t9 t34 t35 t36 H K Kb6) H Inv):zny t9 t34 t35 t36 H K:=
 lp2 (M:=zeb) zT6 t9 t36 (by kernel_rfl) Inv n h0 ac
theorem zT1 (Inv:Nat→AV→AV→zaa→Prop) (n:Nat) (h0:HSc H→Inv n t9 t62 H)
  (ac:Rd2 (λt9=>λt62=>ziN t9 t60 t61 t62) (λt9=>λt62=>λH Kb13=>zuE t9 t60 t61 t62 H K Kb13) H Inv):znw t9 t60 t61 t62 H K:=
 lp2 (M:=zeb) zT4 t9 t62 (by kernel_rfl) Inv n h0 ac
theorem zT2 (Inv:Nat→AV→AV→zaa→Prop) (n:Nat) (h0:HSc H→Inv n t9 t88 H)
  (ac:Rd2 (λt9=>λt88=>zns t9 t86 t87 t88) (λt9=>λt88=>λH Kb20=>zuF t9 t86 t87 t88 H K Kb20) H Inv):znx t9 t86 t87 t88 H K:=
 lp2 (M:=zeb) zT5 t9 t88 (by kernel_rfl) Inv n h0 ac
theorem zT7 (h:HSc H→ziM t0 t1 t2 t3 H K):ACalls tP zj0 [t0,t1,t2,t3] H K:=
 acb zeb Tryz.func43 zfZ (by kernel_rfl) (by kernel_rfl) h
theorem zWB (Inv:Nat→AV→zaa→Prop) (n:Nat) (h0:HSc H→Inv n t87 H)
  (ac:Rd1 (λt87=>zol t2 t9 t10 t11 t85 t86 t87) (λt87=>λH Kb12=>zvt t2 t9 t10 t11 t85 t86 t87 H K Kb12) H Inv):zEH t2 t9 t10 t11 t85 t86 t87 H K:=
 lp1 (M:=zok) zWC t87 (by kernel_rfl) Inv n h0 ac
theorem zWD (h:HSc H→zoj t0 t1 t2 t3 H K):ACalls tP zgu [t0,t1,t2,t3] H K:=
 acb zok Tryz.func81 zvu (by kernel_rfl) (by kernel_rfl) h
theorem zMA (Inv:Nat→AV→zaa→Prop) (n:Nat) (h0:HSc H→Inv n t11 H)
  (ac:Rd1 (λt11=>zlB t3 t4 t5 t9 t10 t11) (λt11=>λH Kb2=>zsD t3 t4 t5 t9 t10 t11 H K Kb2) H Inv):zBf t3 t4 t5 t9 t10 t11 H K:=
 lp1 (M:=zlA) zMB t11 (by kernel_rfl) Inv n h0 ac
theorem zMC (h:HSc H→zBe t0 t1 t2 t3 H K):ACalls tP zjz [t0,t1,t2,t3] H K:=
 acb zlA Tryz.func133 zsE (by kernel_rfl) (by kernel_rfl) h
end
def bw (H:zaa) (io iv:Nat) (l:List (List IT × Nat)):zaa:=(H.set iv (.vec zbu 4 l.length (zaK l).flatten)).set io (.cells [.ov iv l.length])
structure Bw (H:zaa) (io iv:Nat) (l:List (List IT × Nat)):Prop where
 ne:io≠iv
 h1:H[io]?=some (.cells [.ov iv l.length])
 h2:H[iv]?=some (.vec zbu 4 l.length (zaK l).flatten)
section
variable {H J:zaa} {io iv:Nat} {l l':List (List IT × Nat)}
@[simp] theorem zpk:(bw H io iv l).length=H.length:=by simp[bw]
theorem Bw.app (h:Bw H io iv l):Bw (H++J) io iv l:=⟨h.ne,zb8 h.h1,zb8 h.h2⟩
theorem Bw.bw_app (h:Bw H io iv l):bw (H++J) io iv l'=bw H io iv l'++J:=by unfold bw;rw[List.set_append_left _ _ (zbr h.h2),List.set_append_left _ _ (by simpa using zbr h.h1)]
theorem zGc (aB:io≠iv):bw (bw H io iv l) io iv l'=bw H io iv l':=by unfold bw;rw[List.set_comm _ _ aB,List.set_set,List.set_set]
theorem Bw.next (h:Bw H io iv l):Bw (bw H io iv l') io iv l':=by
 have l1:=zbr h.h1;have l2:=zbr h.h2;refine⟨h.ne,?_,?_⟩
 ·unfold bw;rw[List.getElem?_set_self (by simpa using l1)]
 ·unfold bw;rw[List.getElem?_set_ne h.ne,List.getElem?_set_self l2]
theorem zy7 (l:List (List IT × Nat)) (n:Nat):(zaK l).flatten.all (AV.scA n)=true:=by
 rw[List.all_eq_true];intro x hx;obtain⟨c,hc,hx⟩:=List.mem_flatten.1 hx;obtain⟨r,_,rfl⟩:=List.mem_map.1 hc;rcases List.mem_cons.1 hx with rfl | hx
 ·rfl
 ·exact List.all_eq_true.1 (zgB _ _) x hx
theorem Bw.hsc (h:Bw H io iv l) (hs:HSc H):HSc (bw H io iv l'):=by have l2:=zbr h.h2;unfold bw;refine HSc.set (HSc.set hs (by simp only[AB.sc];exact zy7 _ _)) ?_;simp[AB.sc,AV.scA,AV.scB];omega
theorem Bw.self (h:Bw H io iv l):bw H io iv l=H:=by
 unfold bw;have e1:H.set iv (.vec zbu 4 l.length (zaK l).flatten)=H:=by
  refine List.ext_getElem? λi=>?_;by_cases hi:iv=i
  ·subst hi;rw[List.getElem?_set_self (zbr h.h2),h.h2]
  ·rw[List.getElem?_set_ne hi]
 rw[e1];refine List.ext_getElem? λi=>?_;by_cases hi:io=i
 ·subst hi;rw[List.getElem?_set_self (zbr h.h1),h.h1]
 ·rw[List.getElem?_set_ne hi]
end
theorem zw2:zel tP zjz=true:=by kernel_rfl
theorem zpi (e:IT) (he:e.nodes≤1000) (c:Nat) (hc:c≤729) (rest:List (List IT × Nat)) (hr:∀ r∈rest,r.2≤729∧r.1.length≤1000) (hl:rest.length≤729) (H:zaa) (io iv:Nat) (l:List (List IT × Nat)) (hP:Bw H io iv l) (bm:l.length≤100000)
  (K:Kt) (hK:K (.tup []) (bw H io iv (l++rest.map λr=>(e::r.1,c*r.2)))):ACalls tP zjz [.agg e.cs,.agg (zai (c:Int)),.sl (zaK rest) .none,.ptr io 0] H K:=by
 refine ACalls.out (zMC λhs=>?_);obtain⟨x,y,aC,hx,hy⟩:=zck e;obtain⟨g,hg⟩:∃ g:List IT × Nat→List IT × Nat,g=λr=>(e::r.1,c*r.2):=⟨_,rfl⟩;rw[←hg]at hK;simp[zBe,Nat.add_assoc];have hsc:∀ l',HSc (bw H io iv l'++[.cells e.cs,.cells (zai (c:Int))]):=λl'=>(hP.hsc hs).append (by
  obtain⟨a,b⟩:=e;simp[AB.sc,IT.cs,zai,AV.scA,AV.scB])
 refine zMA (Inv:=λq t11 H'=>∃ i:Nat,i≤rest.length∧rest.length-i=q∧t11=.int .i64 i∧H'=bw H io iv (l++(rest.take i).map g)++[.cells e.cs,.cells (zai (c:Int))]) rest.length ?_ ?_
 ·intro _;exact⟨0,by omega,rfl,rfl,by simp[hP.self]⟩
 ·rintro q t11 H' ⟨i,hi,rfl,rfl,rfl⟩ ck am aM Kb au;by_cases be:i<rest.length
  ·obtain⟨r1,r2⟩:=hr _ (List.getElem_mem be);have lz:Bw (bw H io iv (l++(rest.take i).map g)) io iv (l++(rest.take i).map g):=hP.next;obtain⟨ah,dm⟩:∃ ah,ah=l++(rest.take i).map g:=⟨_,rfl⟩;have cD:l++(rest.take (i+1)).map g=ah++[g rest[i]]:=by rw[dm,List.take_succ_eq_append_getElem be];simp only[List.map_append,List.map_cons,List.map_nil,List.append_assoc]
   have dX:ah.length=l.length+i:=by rw[dm];simp;omega
   rw[←dm]at lz ⊢;have g1:∀ J,(bw H io iv ah++J)[io]?=some (.cells [.ov iv ah.length]):=λJ=>zb8 lz.h1;have g2:∀ J,(bw H io iv ah++J)[iv]?=some (.vec zbu 4 ah.length (zaK ah).flatten):=λJ=>zb8 lz.h2;have g3:∀ b J,(bw H io iv ah++AB.cells b::J)[H.length]?=some (.cells b):=λb J=>by rw[←zpk (H:=H) (io:=io) (iv:=iv) (l:=ah)];simp
   have g4:∀ b b' J,(bw H io iv ah++AB.cells b::AB.cells b'::J)[H.length+1]?=some (.cells b'):=λb b' J=>by rw[←zpk (H:=H) (io:=io) (iv:=iv) (l:=ah)];simp
   have g5:∀ b b' b'' J,(bw H io iv ah++AB.cells b::AB.cells b'::AB.cells b''::J)[H.length+2]?=some (.cells b''):=λb b' b'' J=>by rw[←zpk (H:=H) (io:=io) (iv:=iv) (l:=ah)];simp
   have ly:plain ([.int .i64 0,.snil]:List AV)=some [.int .i64 0,.sl [] .none]:=rfl;simp[zsD,be,g1,g3,g4,g5,zau,zaQ,ly,zic,plain,AV.pd];refine zaB (.sl (IT.css (e::rest[i].1)) .none) (λJ=>by
    have:=zIQ [e] rest[i].1 (by simp) (by simp;omega) (bw H io iv ah++[.cells e.cs,.cells (zai (c:Int)),.cells (.sl (IT.css rest[i].1) .none::zai (rest[i].2:Int))]++J) (λv H'=>v=.sl (IT.css (e::rest[i].1)) .none∧H'=bw H io iv ah++[.cells e.cs,.cells (zai (c:Int)),.cells (.sl (IT.css rest[i].1) .none::zai (rest[i].2:Int))]++J) ⟨rfl,rfl⟩;exact this) ?_
   refine zaB (.agg (zai ((c*rest[i].2:Nat):Int))) (λJ=>zn7 _ _ (zcb (Nat.lt_of_le_of_lt hc (by decide))) (zcb (Nat.lt_of_le_of_lt r1 (by decide))) _ _ ⟨by rw[Int.natCast_mul],rfl⟩) ?_;have aH:([.sl (IT.css (e::rest[i].1)) .none::zai ((c*rest[i].2:Nat):Int)]:List (List AV))=zaK [g rest[i]]:=by rw[hg];rfl
   have bH:plain (AV.sl (IT.css (e::rest[i].1)) .none::zai ((c*rest[i].2:Nat):Int))=some (.sl (IT.css (e::rest[i].1)) .none::zai ((c*rest[i].2:Nat):Int)):=by simp[plain,AV.pd,zcI]
   rw[Int.natCast_mul]at bH aH;have aW:∀ J:zaa,(((bw H io iv ah++J).set iv (.vec zbu 4 (ah.length+1) ((zaK ah).flatten++(.sl (IT.css (e::rest[i].1)) .none::zai ((c:Int)*(rest[i].2:Int)))))).set io (.cells [.ov iv (ah.length+1)]))=bw H io iv (ah++[g rest[i]])++J:=by intro J;have h1:=lz.bw_app (J:=J) (l':=ah++[g rest[i]]);rw[zGc hP.ne]at h1;rw[←h1];unfold bw;rw[zkz,←aH];simp
   have g6:∀ X J,((bw H io iv ah++J).set iv X)[io]?=some (.cells [.ov iv ah.length]):=λX J=>by rw[List.getElem?_set_ne (λh=>hP.ne h.symm)];exact g1 J
   simp[zaq,zaI,bH,zav,zaM,zaJ,g2,g6,wi i (by omega)];refine⟨⟨by omega,by omega⟩,?_⟩;rw[aW,←cD];exact au _ _ ⟨rest.length-(i+1),by omega,Back.at (J:=[.cells (.sl (IT.css rest[i].1) .none::zai (rest[i].2:Int))]) (H2:=bw H io iv (l++(rest.take (i+1)).map g)++[.cells e.cs,.cells (zai (c:Int))]) (by simp) (by simp) (hsc _) (by
    have l1:=zbr hP.h1;simp[zlB,ux,AV.sc,AV.scA,AV.scB,AV.scV];try omega) ⟨_,rfl,i+1,by omega,rfl,rfl,rfl⟩⟩
  ·obtain rfl:i=rest.length:=by omega
   rw[List.take_length]at *;simp[zsD];exact zJ0 (J:=[_,_]) rfl (by simp) (hP.hsc hs) hK
def hpB (H:zaa) (T:VT) (l:List (List IT × Nat)):zaa:=H++[.cells T.cs,.cells [.ov (H.length+2) l.length],.vec zbu 4 l.length (zaK l).flatten]
theorem hpB_B {H:zaa} {T:VT} {l:List (List IT × Nat)}:Bw (hpB H T l) (H.length+1) (H.length+2) l:=⟨by omega,by simp[hpB],by simp[hpB]⟩
theorem zpI {H:zaa} {T:VT} {l l':List (List IT × Nat)}:bw (hpB H T l) (H.length+1) (H.length+2) l'=hpB H T l':=by simp[bw,hpB,List.set_append_right]
@[simp] theorem ybt {H:zaa} {T:VT} {l:List (List IT × Nat)}:(hpB H T l).length=H.length+3:=by simp[hpB]
@[simp] theorem ybr {H:zaa} {T:VT} {l:List (List IT × Nat)} (h:H.length<(hpB H T l).length):(hpB H T l)[H.length]=.cells T.cs:=by simp[hpB]
@[simp] theorem zxF {H:zaa} {T:VT} {l:List (List IT × Nat)}:(hpB H T l)[H.length]?=some (.cells T.cs):=by simp[hpB]
@[simp] theorem ybs {H:zaa} {T:VT} {l:List (List IT × Nat)} (h:H.length+1<(hpB H T l).length):(hpB H T l)[H.length+1]=.cells [.ov (H.length+2) l.length]:=by simp[hpB,List.getElem_append]
theorem zyR:∀ l:List (List IT × Nat),plain (zaK l).flatten=some (zaK l).flatten
 | []=>rfl
 | r::l=>by show plain ((.sl (IT.css r.1) .none::zai (r.2:Int))++(zaK l).flatten)=_;exact zib (by simp[plain,AV.pd,zcI]) (zyR l)
theorem zHX {H:zaa} {T:VT} {K:Kt} (l:List (List IT × Nat)) (hs:HSc H) (hK:K (.sl (zaK l) .none) H):Out H.length K (.ov (H.length+2) l.length) (hpB H T l):=
 ⟨.sl (zaK l) .none,H,_,rfl,Nat.le_refl _,hs,.one (.vfz (H.length+2) zbu 4 l.length (zaK l).flatten (zaK l) (by omega) (by simp[hpB]) (zyR l) (by simp) (λc hc=>by
  obtain⟨p,_,rfl⟩:=List.mem_map.1 hc;simp)),hK⟩
theorem zHm {aa:List Dat} (hk:zbv aa) (h8:∀ D∈aa,D.cons.length≤8) (hD:zbq aa=true) {f:Nat} (hQ:zi6 aa f) (hM:zi4 aa f):zi4 aa (f+1):=by
 intro t l m hf dR cT jo hl hm h6 hn H K hK;obtain⟨k,tn,tks⟩:=t;simp only[VT.kind]at jo;subst jo;refine ACalls.out (zWD λhs=>?_);have bS:(VT.mk 5 tn tks).cs=[.int .i64 5,.int .i64 tn,.sl (VT.css tks) .none]:=rfl;have jP:plain ([.snil,.bool false,.snil,.snil]:List AV)=some [.sl [] .none,.bool false,.sl [] .none,.sl [] .none]:=rfl;cases l with
 | nil=>
  have e:za3 aa (f+1) (.mk 5 tn tks) [] m=[(m,1)]:=by rw[za3]
  rw[e]at hK;simp[zoj,IT.css,bS,Nat.add_assoc];refine zeF 1 (by omega) _ _ ?_;simp[zaq,zaI,zau,zaQ,plain,AV.pd,AV.known,zcI,jP];exact Out.at (b:=.sl (zaK [(m,1)]) .none) rfl (Nat.le_refl _) hs (.atom (.sl _ _)) rfl rfl hK
 | cons a l=>
  cases m with
  | nil=>
   have e:za3 aa (f+1) (.mk 5 tn tks) (a::l) []=[(a::l,1)]:=by rw[za3]
   rw[e]at hK;have hb:(((l.length:Int)+1) == 0)=false:=by simp;omega
   simp[zoj,bS,hb,Nat.add_assoc];refine zeF 1 (by omega) _ _ ?_;simp[zaq,zaI,zau,zaQ,plain,AV.pd,AV.known,zcI,jP];exact Out.at (b:=.sl (zaK [(a::l,1)]) .none) rfl (Nat.le_refl _) hs (.atom (.sl _ _)) rfl rfl hK
  | cons b m=>
   obtain⟨ca,pa⟩:=a;obtain⟨cb,pb⟩:=b;obtain⟨la,ll,el⟩:=zgC h8 _ _ l hl;obtain⟨mb,mm,em⟩:=zgC h8 _ _ m hm;obtain⟨ca0,ca8,psa,dW,ik,jm,ea⟩:=zfF la;obtain⟨cb0,cb8,psb,iJ,cv,jn,eb⟩:=zfF mb;have na:=(IT.mk ca pa).nodes_pos;have nb:=(IT.mk cb pb).nodes_pos;simp only[IT.nodesL]at hf hn;have bI:(((l.length:Int)+1) == 0)=false:=by simp;omega
   have bq:(((m.length:Int)+1) == 0)=false:=by simp;omega
   have tl1:(List.take (l.length+1) (IT.css (.mk ca pa::l))).tail=IT.css l:=by simp[IT.css,List.take_of_length_le]
   have tl2:(List.take (m.length+1) (IT.css (.mk cb pb::m))).tail=IT.css m:=by simp[IT.css,List.take_of_length_le]
   have iq:∀ (x:List IT),∀ c∈IT.css x,c.length=2:=λx c hc=>by rw[IT.css_map]at hc;obtain⟨v,_,rfl⟩:=List.mem_map.1 hc;simp
   simp[zoj,bS,bI,bq,Nat.add_assoc];refine⟨rfl,?_⟩;refine zaB (.agg (zai ((1:Nat):Int))) (λJ=>zeF 1 (by omega) _ _ ⟨rfl,rfl⟩) ?_;refine⟨iq _,?_⟩;rw[tl1,←bS];obtain⟨A,hA⟩:∃ A,A=za3 aa f (.mk 5 tn tks) l (.mk cb pb::m):=⟨_,rfl⟩;obtain⟨B,hB⟩:∃ B,B=za3 aa f (.mk 5 tn tks) (.mk ca pa::l) m:=⟨_,rfl⟩;obtain⟨C,hC⟩:∃ C,C=za3 aa f (.mk 5 tn tks) l m:=⟨_,rfl⟩;obtain⟨A1,A2,A3,A4⟩:=zjb h8 (f:=f) (t:=.mk 5 tn tks) (l:=l) (m:=.mk cb pb::m) (by simp only[IT.nodesL];omega) ll hm (by omega);obtain⟨B1,B2,B3,B4⟩:=zjb h8 (f:=f) (t:=.mk 5 tn tks) (l:=.mk ca pa::l) (m:=m) (by simp only[IT.nodesL];omega) hl mm (by omega);obtain⟨C1,C2,C3,C4⟩:=zjb h8 (f:=f) (t:=.mk 5 tn tks) (l:=l) (m:=m) (by omega) ll mm (by omega);rw[←hA]at A1 A2 A3 A4;rw[←hB]at B1 B2 B3 B4;rw[←hC]at C1 C2 C3 C4;simp only[IT.nodesL]at A1 B1;refine zaB (.sl (zaK A) .none) (λJ=>by rw[hA];exact hM _ l (.mk cb pb::m) (by simp only[IT.nodesL];omega) dR cT rfl ll hm (by omega) (by simp only[IT.nodesL];omega) _ _ ⟨rfl,rfl⟩) ?_;simp only[aCallV,zw2];refine ACalls.ovC (id:=H.length+1) (j:=0) (cs:=[.snil]) zbu 4 (by simp) rfl ?_;have aW:(H++[AB.cells (VT.mk 5 tn tks).cs,.cells [.snil]]).set (H.length+1) (.cells ([AV.snil].set 0 (.ov (H++[AB.cells (VT.mk 5 tn tks).cs,.cells [.snil]]).length 0)))++[.vec zbu 4 0 []]=hpB H (.mk 5 tn tks) []:=by simp[hpB,List.set_append_right,zaK]
   rw[aW];have mG:∀ r:List IT × Nat,IT.nodesL r.1≤700→r.1.length≤1000:=λr h=>by have:=IT.len_le r.1;omega
   refine zpi (.mk ca pa) (by simp only[IT.nodes]at hn ⊢;omega) 1 (by omega) A (λr hr=>⟨(A1 r hr).2.1,mG r (by have:=(A1 r hr).2.2.2.2;omega)⟩) A4 _ (H.length+1) (H.length+2) [] hpB_B (by simp) _ ?_;rw[zpI];simp only[List.nil_append,Nat.one_mul];obtain⟨s1,a7⟩:∃ s1:List (List IT × Nat),s1=A.map λr=>(IT.mk ca pa::r.1,r.2):=⟨_,rfl⟩;rw[←a7];have hs1l:s1.length≤729:=by rw[a7];simpa using A4
   have h0:=zxF (H:=H) (T:=.mk 5 tn tks) (l:=s1);refine zaB (.agg (zai ((1:Nat):Int))) (λJ=>zeF 1 (by omega) _ _ ⟨rfl,rfl⟩) ?_;simp[h0,bS];refine⟨iq _,?_⟩;rw[tl2,←bS];refine zaB (.sl (zaK B) .none) (λJ=>by rw[hB];exact hM _ (.mk ca pa::l) m (by simp only[IT.nodesL];omega) dR cT rfl hl mm (by omega) (by simp only[IT.nodesL];omega) _ _ ⟨rfl,rfl⟩) ?_;refine zpi (.mk cb pb) (by simp only[IT.nodes]at hn ⊢;omega) 1 (by omega) B (λr hr=>⟨(B1 r hr).2.1,mG r (by have:=(B1 r hr).2.2.2.2;omega)⟩) B4 _ (H.length+1) (H.length+2) s1 hpB_B (by omega) _ ?_;rw[zpI];simp only[Nat.one_mul];obtain⟨s2,br⟩:∃ s2:List (List IT × Nat),s2=s1++B.map λr=>(IT.mk cb pb::r.1,r.2):=⟨_,rfl⟩;rw[←br];have hs2l:s2.length≤1458:=by rw[br];simp;omega
   have h02:=λl'=>zxF (H:=H) (T:=.mk 5 tn tks) (l:=l');have bj:∀ l',l'=za3 aa (f+1) (.mk 5 tn tks) (.mk ca pa::l) (.mk cb pb::m)→zom (.ptr (H.length+1) 0) (hpB H (.mk 5 tn tks) l') (Out H.length K):=by rintro l' rfl;have h1:=(hpB_B (H:=H) (T:=.mk 5 tn tks) (l:=za3 aa (f+1) (.mk 5 tn tks) (.mk ca pa::l) (.mk cb pb::m))).h1;have h2:=(hpB_B (H:=H) (T:=.mk 5 tn tks) (l:=za3 aa (f+1) (.mk 5 tn tks) (.mk ca pa::l) (.mk cb pb::m))).h2;simp[zom,h1];exact zHX _ hs hK
   by_cases bb:ca=cb
   ·subst bb;simp[h02,bS,IT.cs];refine⟨iq _,iq _,?_⟩;rw[←bS];rw[dW]at iJ;cases iJ;obtain⟨R,hR⟩:∃ R,R=zcn aa f psa pa pb:=⟨_,rfl⟩;obtain⟨R1,R2,R3,R4⟩:=zwU h8 (f:=f) (ts:=psa) (l:=pa) (m:=pb) (by simp only[IT.nodes]at hf;omega) ik.symm cv.symm jm jn (by omega);rw[←hR]at R1 R2 R3 R4;obtain⟨lf,gu⟩:∃ lf,zbj aa (.mk 5 tn tks) ca=some lf:=by
     cases gu:zbj aa (.mk 5 tn tks) ca with
     | none=>simp[za9,gu]at dW
     | some lf=>exact⟨lf,rfl⟩
    obtain⟨bs,kj,hlb2,jN,cz,cj,_⟩:=zrd hk gu;rw[dW]at cz;have dB:psa=pick lf bs:=Option.some.inj cz;have hpsl:psa.length≤8:=by rw[dB];have:=zh9 lf bs;omega
    have jp:∀ x∈psa,x.nodes≤1000∧zaV aa 0 x=true:=λx hx=>by rw[dB]at hx;have hm:=zgz hx;have:=cj x hm;exact⟨by omega,zpC hD (zAb cT) gu _ hm⟩
    refine zaB (.sl (zaK C) .none) (λJ=>by rw[hC];exact hM _ l m (by omega) dR cT rfl ll mm (by omega) (by omega) _ _ ⟨rfl,rfl⟩) ?_;refine zaB (.sl (VT.css psa) .none) (λJ=>zMT hk tn tks dR ca dW _ _ ⟨rfl,rfl⟩) ?_;refine zaB (.sl (zaK R) .none) (λJ=>by rw[hR];exact hQ psa pa pb (by simp only[IT.nodes]at hf;omega) ik.symm cv.symm (by omega) jp jm jn (by omega) (by simp only[IT.nodes]at hn;omega) _ _ ⟨rfl,rfl⟩) ?_;simp;obtain⟨F,hF⟩:∃ F:List IT × Nat→List (List IT × Nat),F=λr=>C.map λx=>(IT.mk ca r.1::x.1,r.2*x.2):=⟨_,rfl⟩;have c5:s2++R.flatMap F=za3 aa (f+1) (.mk 5 tn tks) (.mk ca pa::l) (.mk ca pb::m):=by rw[za3,if_pos (show zaS (.mk ca pa)=zaS (.mk ca pb) from rfl),br,a7,hA,hB,hF,hR,hC];simp only[zaS,zaH,dW,Option.getD_some]
    have ee:R.length*C.length≤729:=by refine Nat.le_trans (Nat.mul_le_mul (zft λp hp=>(R1 p hp).1) (zft λp hp=>(C1 p hp).1)) (Nat.le_trans (Nat.mul_le_mul R2 C2) ?_);rw[←zkq (by omega) (by omega)];exact zcw (by omega)
    have gX:∀ i,((R.take i).flatMap F).length≤729:=λi=>by
     have:∀ L:List (List IT × Nat),(L.flatMap F).length=L.length*C.length:=λL=>by
      induction L with
      | nil=>simp
      | cons r L ih=>rw[List.flatMap_cons,List.length_append,ih,hF,List.length_map,List.length_cons,Nat.succ_mul];omega
     rw[this];exact Nat.le_trans (Nat.mul_le_mul_right _ (by simp;omega)) ee
    have hscB:∀ l',HSc (hpB H (.mk 5 tn tks) l'):=λl'=>hs.append (by simp only[AB.sc,List.all_cons,List.all_nil,zy7];simp[VT.cs,AV.scA,AV.scB]);refine zWB (Inv:=λq t87 H'=>∃ i:Nat,i≤R.length∧R.length-i=q∧t87=.int .i64 i∧H'=hpB H (.mk 5 tn tks) (s2++(R.take i).flatMap F)) R.length ?_ ?_
    ·intro _;exact⟨0,by omega,rfl,rfl,by simp⟩
    ·rintro q t87 H' ⟨i,hi,rfl,rfl,rfl⟩ hsc12 am aM Kb au;by_cases be:i<R.length
     ·obtain⟨r1,r2,r3,_,_,r6⟩:=R1 _ (List.getElem_mem be);have cD:s2++(R.take (i+1)).flatMap F=(s2++(R.take i).flatMap F)++F R[i]:=by rw[List.take_succ_eq_append_getElem be];simp only[List.flatMap_append,List.flatMap_cons,List.flatMap_nil,List.append_nil,List.append_assoc]
      have bn:=gX i;obtain⟨ah,dm⟩:∃ ah,ah=s2++(R.take i).flatMap F:=⟨_,rfl⟩;have dX:ah.length≤3000:=by rw[dm,List.length_append];omega
      rw[←dm]at cD ⊢;simp[zvt,be,IT.cs,IT.css,zaq,zaI,AV.known];simp only[aCallV,zw2];have hBa:Bw (hpB H (.mk 5 tn tks) ah++[.cells (.sl (IT.css R[i].1) .none::zai (R[i].2:Int))]) (H.length+1) (H.length+2) ah:=hpB_B.app;refine zpi (.mk ca R[i].1) (by simp only[IT.nodes]at hn ⊢;omega) R[i].2 (by omega) C (λr hr=>⟨(C1 r hr).2.1,mG r (by have:=(C1 r hr).2.2.2.2;omega)⟩) C4 _ (H.length+1) (H.length+2) ah hBa (by omega) _ ?_;rw[hpB_B.bw_app,zpI];have hFi:F R[i]=C.map λr=>(IT.mk ca R[i].1::r.1,R[i].2*r.2):=by rw[hF]
      rw[←hFi,←cD,wi i (by omega)];exact au _ _ ⟨R.length-(i+1),by omega,Back.at (J:=[.cells (.sl (IT.css R[i].1) .none::zai (R[i].2:Int))]) (H2:=hpB H (.mk 5 tn tks) (s2++(R.take (i+1)).flatMap F)) rfl (by simp) (hscB _) (by simp[zol,ux,AV.sc,AV.scA,AV.scB,AV.scV]) ⟨_,rfl,i+1,by omega,rfl,rfl,rfl⟩⟩
     ·obtain rfl:i=R.length:=by omega
      rw[List.take_length,c5];simp[zvt];exact bj _ rfl
   ·have kH:(ca == cb)=false:=by simpa using bb
    simp[h02,IT.cs,kH];refine bj s2 ?_;rw[za3,if_neg (by simpa[zaS]using bb),List.append_nil,br,a7,hA,hB]
theorem zz3 {n:Nat} {H2 J H':zaa} {K:Kt} (he:H'=H2++J) (hn:n≤H2.length) (hs:HSc H2) (h:K (.tup []) H2):Out n K (.tup []) H':=by subst he;exact⟨.tup [],H2,J,rfl,hn,hs,.tup trivial,h⟩
theorem zAr:∀ (ks:List IT) (k:IT),zbl (ks++[k])=zbl ks++wrI k++[44]
 | [],k=>by simp[zbl]
 | x::ks,k=>by have:=zAr ks k;simp[zbl,this]
theorem zys:∀ (ks:List IT) (k:IT),IT.nodesL (ks++[k])=IT.nodesL ks+k.nodes
 | [],k=>by simp[IT.nodesL]
 | x::ks,k=>by have:=zys ks k;simp only[List.cons_append,IT.nodesL,this];omega
theorem zIX (n:Nat) (h:n≤9):small n=[UInt8.ofNat (48+n)]:=by
 have:∀ n≤9,small n=[UInt8.ofNat (48+n)]:=by decide
 exact this n h
theorem zWf:∀ (m:Nat) (i:IT),i.nodes≤m→i.nodes≤1000→Dig i→∀ (H:zaa) (id id2:Nat) (l:List UInt8),Wb H id id2 l→l.length+4*i.nodes≤1000000→∀ K:Kt,K (.tup []) (wb H id id2 (l++wrI i))→ACalls tP zj6 [.ptr id 0,.agg i.cs] H K:=by
 intro m;induction m with
 | zero=>intro i h;have:=i.nodes_pos;omega
 | succ m ih=>
  intro i hm hn hd H id id2 l hB hl K hK;obtain⟨n,ks⟩:=i;rw[Dig]at hd;obtain⟨dj,hd9,hdk⟩:=hd;obtain⟨a,rfl⟩:∃ a:Nat,n=a:=⟨n.toNat,by omega⟩;have cc:IT.nodesL ks+1≤m+1:=by simpa[IT.nodes]using hm
  have dU:IT.nodesL ks+1≤1000:=by simpa[IT.nodes]using hn
  have gR:l.length+4*(IT.nodesL ks+1)≤1000000:=by simpa[IT.nodes]using hl
  have dP:=IT.len_le ks;refine ACalls.out (zWd λhs=>?_);have dZ:(IT.mk (a:Int) ks).cs=[.int .i64 a,.sl (IT.css ks) .none]:=rfl;rw[wrI,Int.toNat_natCast]at hK;obtain⟨dg,hdg⟩:∃ dg,dg=UInt8.ofNat (48+a):=⟨_,rfl⟩;have fL:=zIX a (by omega);rw[←hdg]at hK fL;have hO:∀ r J,r=l++(dg::if ks.length=0 then [] else 40::(zbl ks++[41]))→Out H.length K (.tup []) (wb H id id2 r++J):=λr J h=>zz3 rfl (by simp) (hB.hsc hs) (by rw[h];exact hK);simp[zEu,dZ,Nat.add_assoc];refine zFo a (by omega) _ _ ?_;rw[fL];refine Ws hB.app (by simp;omega) ?_;rw[hB.wb_app];by_cases aB:ks.length=0
  ·obtain rfl:=List.eq_nil_of_length_eq_zero aB;simp[IT.css];exact hO _ _ (by simp)
  ·have bU:0<ks.length:=by omega
   simp[bU];have k9:Wb (wb H id id2 (l++[dg])) id id2 (l++[dg]):=hB.next;refine Wy (c:=40) k9.app (by simp;omega) ?_;rw[k9.wb_app,zkU hB.ne];simp;obtain⟨p,hp⟩:∃ p,p=l++[dg,40]:=⟨_,rfl⟩;have bH:p.length=l.length+2:=by rw[hp];simp
   rw[←hp];have lC:∀ q,Wb (wb H id id2 (p++q)) id id2 (p++q):=λq=>hB.next;refine zWb (Inv:=λq t20 H'=>∃ j:Nat,j≤ks.length∧ks.length-j=q∧t20=.int .i64 j∧H'=wb H id id2 (p++zbl (ks.take j))++[.cells [.int .i64 a,.sl (IT.css ks) .none]]) ks.length ?_ ?_
   ·intro _;exact⟨0,by omega,rfl,rfl,by simp[zbl]⟩
   ·rintro q t20 H' ⟨j,hj,rfl,rfl,rfl⟩ aJ am aM Kb au;have kL:=zkV (ks.take j);have mu:=IT.nodesL_take_le ks j;by_cases aQ:j<ks.length
    ·have gG:=zdQ aQ;have iE:=zv4 hdk _ (List.getElem_mem aQ);have hts:=IT.nodesL_take_le ks (j+1);have aR:zbl (ks.take (j+1))=zbl (ks.take j)++wrI ks[j]++[44]:=by rw[List.take_succ_eq_append_getElem aQ,zAr]
     have hwl1:=zkV (ks.take (j+1));have kT:IT.nodesL (ks.take (j+1))=IT.nodesL (ks.take j)+ks[j].nodes:=by rw[List.take_succ_eq_append_getElem aQ,zys]
     obtain⟨x2,y2,aP,bg,fB⟩:=zck ks[j];have jO:=zr1 ks[j];simp[zvl,aQ,aP,bg,fB];rw[←aP];refine ih ks[j] (by omega) (by omega) iE _ id id2 _ ((lC (zbl (ks.take j))).app) (by simp;omega) _ ?_;rw[(lC (zbl (ks.take j))).wb_app,zkU hB.ne];have kp:Wb (wb H id id2 (p++zbl (ks.take j)++wrI ks[j])) id id2 (p++zbl (ks.take j)++wrI ks[j]):=hB.next;refine Wy (c:=44) kp.app (by simp;omega) ?_;rw[kp.wb_app,zkU hB.ne];have hst2:p++zbl (ks.take j)++wrI ks[j]++[44]=p++zbl (ks.take (j+1)):=by rw[aR];simp
     rw[hst2,wi j (by omega)];exact au _ _ ⟨ks.length-(j+1),by omega,Back.at (J:=[.cells ks[j].cs]) (H2:=wb H id id2 (p++zbl (ks.take (j+1)))++[.cells [.int .i64 a,.sl (IT.css ks) .none]]) (by simp) (by simp) ((hB.hsc hs).append (by simp[AB.sc,AV.scA,AV.scB])) (by
      have:=hB.lt1;simp[zog,ux,AV.sc,AV.scA,AV.scB,AV.scV];omega) ⟨_,rfl,j+1,by omega,rfl,rfl,rfl⟩⟩
    ·obtain rfl:j=ks.length:=by omega
     rw[List.take_length]at *;simp[zvl];refine Wy (c:=41) (lC _).app (by simp;omega) ?_;rw[(lC _).wb_app,zkU hB.ne];simp;exact hO _ _ (by rw[hp,if_neg aB];simp)
end Go.Proofs.YtdmamdnkcefmmaaGreatDoor
