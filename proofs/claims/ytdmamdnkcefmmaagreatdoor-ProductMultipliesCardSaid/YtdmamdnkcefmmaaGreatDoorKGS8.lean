import Derived.Test.YtdmamdnkcefmmaaGreatDoorKNum
import Derived.Test.YtdmamdnkcefmmaaGreatDoorProg
import Derived.KernelRfl
import Derived.Test.YtdmamdnkcefmmaaGreatDoorAbsQ1
import Derived.Test.YtdmamdnkcefmmaaGreatDoorKME
import Derived.Test.YtdmamdnkcefmmaaGreatDoorKGJ
set_option linter.unusedSimpArgs false
set_option linter.unusedVariables false
set_option maxRecDepth 100000
namespace Go.Proofs.YtdmamdnkcefmmaaGreatDoor
section
variable (t0 t1 t2 t3 t4 t5 t6 t7 t8 t9 t10:AV) (H:zaa) (K:Kt) (Kb1 Kb2 Kb3 Kb4 Kb6 Kb7:Lt)
def zTk (_:Nat):List Bool:=[]
noncomputable def zTl:Code:=Tryz.f36.body.getD .skip
def zDx:Prop:=zay [(.bool false),.snil,.snil] H λt2 H=>zac .lss false t0 (.int .i64 0) λt4=>zag t4 (zac .add false t0 (.int .i64 1) λt6=>aUn .neg t6 λt7=>za0 .u64 t7 λt8=>zac .add false t8 (.int .u64 1) λt9=>ACalls tP zhZ [t9] H λt10 H=>zau 1 [(.int .u32 0)] 1 [(0,(.int .u32 1))] λt11=>ACalls tP zdy [(.bool true),t10,t11] H λt12 H=>zao 3 t2 t12 H λH=>zae true 3 t2 H λr0=>K r0 H) (za0 .u64 t0 λt14=>ACalls tP zhZ [t14] H λt15 H=>zau 1 [(.int .u32 0)] 1 [(0,(.int .u32 1))] λt16=>ACalls tP zdy [(.bool false),t15,t16] H λt17 H=>zao 3 t2 t17 H λH=>zae true 3 t2 H λr0=>K r0 H)
def zRG (_:Nat):List Bool:=[]
noncomputable def zRH:Code:=Tryz.f22.body.getD .skip
def zCZ:Prop:=zat t0 H λt2 H=>zat t1 H λt3 H=>zay [(.bool false),.snil,.snil] H λt4 H=>zab H (λK'=>zaj true 3 t2 H (K' · H)) λt5=>zaA H (λH K'=>ACalls tP zdP [t5] H K') λt6=>zab H (λK'=>zaj true 3 t3 H (K' · H)) λt7=>zaA H (λH K'=>ACalls tP zdP [t7] H K') λt8=>zao 3 t2 t6 H λH=>zao 3 t3 t8 H λH=>zab H (λK'=>zaf 0 t2 (K' · H)) λt9=>zab H (λK'=>zaj false 1 t9 H (K' · H)) λt10=>zab H (λK'=>zaf 0 t3 (K' · H)) λt11=>zab H (λK'=>zaj false 1 t11 H (K' · H)) λt12=>zab H (λK'=>zac .neq true t10 t12 (K' · H)) λt13=>zab H (λK'=>zaf 1 t2 (K' · H)) λt14=>zab H (λK'=>zaj false 1 t14 H (K' · H)) λt15=>zab H (λK'=>zaf 1 t3 (K' · H)) λt16=>zab H (λK'=>zaj false 1 t16 H (K' · H)) λt17=>zaA H (λH K'=>ACalls tP zdg [t15,t17] H K') λt18=>zab H (λK'=>zaf 2 t2 (K' · H)) λt19=>zab H (λK'=>zaj false 1 t19 H (K' · H)) λt20=>zab H (λK'=>zaf 2 t3 (K' · H)) λt21=>zab H (λK'=>zaj false 1 t21 H (K' · H)) λt22=>zaA H (λH K'=>ACalls tP zdg [t20,t22] H K') λt23=>zaA H (λH K'=>ACalls tP zdy [t13,t18,t23] H K') λt24=>zao 3 t4 t24 H λH=>zae true 3 t4 H λr0=>K r0 H
def zUY (_:Nat):List Bool:=[]
noncomputable def zUZ:Code:=Tryz.f54.body.getD .skip
def zD4:Prop:=zat t0 H λt2 H=>zat t1 H λt3 H=>zay [(.bool false),.snil,.snil] H λt4 H=>zab H (λK'=>zaj true 3 t2 H (K' · H)) λt8=>zaA H (λH K'=>ACalls tP zdP [t8] H K') λt9=>zab H (λK'=>zaj true 3 t3 H (K' · H)) λt10=>zaA H (λH K'=>ACalls tP zdP [t10] H K') λt11=>zao 3 t2 t9 H λH=>zao 3 t3 t11 H λH=>zab H (λK'=>zaf 1 t2 (K' · H)) λt12=>zab H (λK'=>zaj false 1 t12 H (K' · H)) λt13=>zab H (λK'=>zaf 2 t3 (K' · H)) λt14=>zab H (λK'=>zaj false 1 t14 H (K' · H)) λt15=>zaA H (λH K'=>ACalls tP zdg [t13,t15] H K') λt16=>zab H (λK'=>zaf 1 t3 (K' · H)) λt17=>zab H (λK'=>zaj false 1 t17 H (K' · H)) λt18=>zab H (λK'=>zaf 2 t2 (K' · H)) λt19=>zab H (λK'=>zaj false 1 t19 H (K' · H)) λt20=>zaA H (λH K'=>ACalls tP zdg [t18,t20] H K') λt21=>zab H (λK'=>K' t16 H) λt5=>zab H (λK'=>K' t21 H) λt6=>zaf 2 t2 λt22=>zae false 1 t22 H λt23=>zaf 2 t3 λt24=>zae false 1 t24 H λt25=>ACalls tP zdg [t23,t25] H λt26 H=>zaf 0 t2 λt27=>zae false 1 t27 H λt28=>zaf 0 t3 λt29=>zae false 1 t29 H λt30=>zac .eql true t28 t30 λt31=>zag t31 (zab H (λK'=>zaf 0 t2 (K' · H)) λt32=>zab H (λK'=>zaj false 1 t32 H (K' · H)) λt33=>zab H (λK'=>K' t5 H) λt34=>zab H (λK'=>K' t6 H) λt35=>zaA H (λH K'=>ACalls tP zp6 [t34,t35] H K') λt36=>zab H (λK'=>K' t26 H) λt37=>zaA H (λH K'=>ACalls tP zdy [t33,t36,t37] H K') λt38=>zao 3 t4 t38 H λH=>zae true 3 t4 H λr0=>K r0 H) (ACalls tP zju [t5,t6] H λt41 H=>zac .geq false t41 (.int .i64 0) λt42=>zag t42 (zab H (λK'=>zaf 0 t2 (K' · H)) λt43=>zab H (λK'=>zaj false 1 t43 H (K' · H)) λt44=>zab H (λK'=>K' t5 H) λt45=>zab H (λK'=>K' t6 H) λt46=>zaA H (λH K'=>ACalls tP zhI [t45,t46] H K') λt47=>zab H (λK'=>K' t26 H) λt48=>zaA H (λH K'=>ACalls tP zdy [t44,t47,t48] H K') λt49=>zao 3 t4 t49 H λH=>zae true 3 t4 H λr0=>K r0 H) (zab H (λK'=>zaf 0 t3 (K' · H)) λt50=>zab H (λK'=>zaj false 1 t50 H (K' · H)) λt51=>zab H (λK'=>K' t6 H) λt52=>zab H (λK'=>K' t5 H) λt53=>zaA H (λH K'=>ACalls tP zhI [t52,t53] H K') λt54=>zab H (λK'=>K' t26 H) λt55=>zaA H (λH K'=>ACalls tP zdy [t51,t54,t55] H K') λt56=>zao 3 t4 t56 H λH=>zae true 3 t4 H λr0=>K r0 H))
def zn8:Nat→List Bool | 2=>rl false [0,1,2,1,11] | _=>[]
noncomputable def zvg:Code:=Tryz.f71.body.getD .skip
noncomputable def zVR:List ResultVar:=Tryz.f71.results.toList
def zn9:List AV:=t0::ux 2 (t3::ux 11 [])
def zVP:List Bool:=zn8 2
noncomputable def zVN:Code:=zar [1,1,0,0,0] zvg
def zVM:AExit→List AV→zaa→Prop:=zas tP zn8 [1,1,0,0] zvg (zaz tP zVR K)
def zoa:Prop:=ALoop tP zVN (zVM K) (zn9 t0 t3) H
def zvf:Prop:=zac .gtr false t0 (.int .u64 0) λt5=>zag t5 (zac .rem false t0 (.int .u64 1000000000) λt8=>za0 .u32 t8 λt9=>zau 1 [(.int .u32 0)] 1 [(0,t9)] λt10=>zav za5 1 4 t3 t10 H λt11 H=>zac .quo false t0 (.int .u64 1000000000) λt13=>Kb2 (zn9 t13 t11) H) (K t3 H)
def zEn:Prop:=zoa t0 .snil H K
def zU8 (_:Nat):List Bool:=[]
noncomputable def zU9:Code:=Tryz.f56.body.getD .skip
def zD8:Prop:=zat t0 H λt1 H=>zay [(.bool false),.snil,.snil] H λt2 H=>zaf 0 t1 λt3=>zae false 1 t3 H λt4=>zaf 1 t1 λt5=>zae false 1 t5 H λt6=>zaf 2 t1 λt7=>zae false 1 t7 H λt8=>ACalls tP zdy [t4,t6,t8] H λt9 H=>zao 3 t2 t9 H λH=>zae true 3 t2 H λr0=>K r0 H
def zf6:Nat→List Bool | 3=>rl false [0,2,3,2,63] | 7=>rl false [0,2,3,4,61] | _=>[]
noncomputable def zu6:Code:=Tryz.f58.body.getD .skip
noncomputable def zVl:List ResultVar:=Tryz.f58.results.toList
def znY:List AV:=t0::t1::ux 3 (t5::t6::ux 63 [])
def zEe:List Bool:=zf6 3
noncomputable def zu7:Code:=zar [1,1,0,1,0,0] zu6
def zEb:AExit→List AV→zaa→Prop:=zas tP zf6 [1,1,0,1,0] zu6 (zaz tP zVl K)
def zEc:Prop:=ALoop tP zu7 (zEb K) (znY t0 t1 t5 t6) H
def znZ:List AV:=t0::t1::ux 3 (t5::t6::t7::t8::ux 61 [])
def zVj:List Bool:=zf6 7
noncomputable def zVg:Code:=zar [1,0,0,1,1,0,0] zu7
def zVf:AExit→List AV→zaa→Prop:=zas tP zf6 [1,0,0,1,1,0] zu7 (zbL zEe Kb3 (zEb K))
def zEd:Prop:=ALoop tP zVg (zVf K Kb3) (znZ t0 t1 t5 t6 t7 t8) H
def zn0 (t0 t1 t5 t6 t7 t8:AV) (H:zaa) (K:Kt) (Kb3:Lt) (Kb7:Lt):Prop:=zac .add false t6 t8 λt61=>zac .rem false t7 (.int .u64 1000000000) λt63=>za0 .u32 t63 λt64=>zak 1 t5 t61 λt65=>zao 1 t65 t64 H λH=>zac .quo false t7 (.int .u64 1000000000) λt67=>zac .add false t8 (.int .i64 1) λt31=>Kb7 (znZ t0 t1 t5 t6 t67 t31) H
def znX:Prop:=zah 1 t1 λt24=>zac .lss false t8 t24 λt25=>zad t25 false H (λK'=>K' t7 H) λt27 H=>zad t25 false H (λK'=>zac .gtr false t27 (.int .u64 0) (K' · H)) λt28 H=>zam t25 (.bool true) t28 λt29=>zag t29 (zac .add false t6 t8 λt36=>zak 1 t5 t36 λt37=>zae false 1 t37 H λt38=>za0 .u64 t38 λt39=>zac .add false t7 t39 λt40=>zah 1 t1 λt43=>zac .lss false t8 t43 λt44=>zag t44 (zab H (λK'=>K' t40 H) λt45=>zab H (λK'=>K' t0 H) λt46=>zab H (λK'=>K' t6 H) λt47=>zab H (λK'=>zak 1 t46 t47 (K' · H)) λt48=>zab H (λK'=>zaj false 1 t48 H (K' · H)) λt49=>zab H (λK'=>za0 .u64 t49 (K' · H)) λt50=>zab H (λK'=>K' t1 H) λt51=>zab H (λK'=>K' t8 H) λt52=>zab H (λK'=>zak 1 t51 t52 (K' · H)) λt53=>zab H (λK'=>zaj false 1 t53 H (K' · H)) λt54=>zab H (λK'=>za0 .u64 t54 (K' · H)) λt55=>zab H (λK'=>zac .mul false t50 t55 (K' · H)) λt56=>zab H (λK'=>zac .add false t45 t56 (K' · H)) λt57=>zab H (λK'=>K' t57 H) λt7=>zn0 t0 t1 t5 t6 t7 t8 H K Kb3 Kb7) (zn0 t0 t1 t5 t6 t40 t8 H K Kb3 Kb7)) (zac .add false t6 (.int .i64 1) λt21=>Kb3 (znY t0 t1 t5 t21) H)
def zu5:Prop:=zah 1 t0 λt18=>zac .lss false t6 t18 λt19=>zag t19 (zEd t0 t1 t5 t6 (.int .u64 0) (.int .i64 0) H K Kb3) (ACalls tP zeV [t5] H λt69 H=>K t69 H)
def zEa:Prop:=zah 1 t0 λt10=>zah 1 t1 λt12=>zac .add false t10 t12 λt13=>zac .add false t13 (.int .i64 1) λt14=>zbe 4 [(.int .u32 0)] t14 t14 H λt15 H=>zEc t0 t1 t15 (.int .i64 0) H K
def zkZ:Nat→List Bool | 4=>rl false [0,2,3,3,46] | _=>[]
noncomputable def zr5:Code:=Tryz.f104.body.getD .skip
noncomputable def zKA:List ResultVar:=Tryz.f104.results.toList
def zk0:List AV:=t0::t1::ux 3 (t5::t6::t7::ux 46 [])
def zKy:List Bool:=zkZ 4
noncomputable def zKw:Code:=zar [1,1,1,0,1,0,0] zr5
def zKv:AExit→List AV→zaa→Prop:=zas tP zkZ [1,1,1,0,1,0] zr5 (zaz tP zKA K)
def zk2:Prop:=ALoop tP zKw (zKv K) (zk0 t0 t1 t5 t6 t7) H
def zk1 (t0 t1 t5 t7 t8:AV) (H:zaa) (K:Kt) (Kb4:Lt):Prop:=zac .quo false t8 (.int .u32 1000000000) λt47=>zac .rem false t8 (.int .u32 1000000000) λt50=>zau 1 [(.int .u32 0)] 1 [(0,t50)] λt51=>zav za5 1 4 t5 t51 H λt52 H=>zac .add false t7 (.int .i64 1) λt24=>Kb4 (zk0 t0 t1 t52 t47 t24) H
def zgS:Prop:=zah 1 t1 λt38=>zac .lss false t7 t38 λt39=>zag t39 (zak 1 t1 t7 λt43=>zae false 1 t43 H λt44=>zac .add false t8 t44 λt45=>zk1 t0 t1 t5 t7 t45 H K Kb4) (zk1 t0 t1 t5 t7 t8 H K Kb4)
def zgR:Prop:=zah 1 t0 λt11=>zac .lss false t7 t11 λt12=>zad t12 false H (λK'=>K' t7 H) λt14 H=>zad t12 false H (λK'=>K' t1 H) λt15 H=>zad t12 false H (λK'=>zah 1 t15 (K' · H)) λt16 H=>zad t12 false H (λK'=>zac .lss false t14 t16 (K' · H)) λt17 H=>zam t12 (.bool true) t17 λt18=>zad t18 false H (λK'=>K' t6 H) λt20 H=>zad t18 false H (λK'=>zac .gtr false t20 (.int .u32 0) (K' · H)) λt21 H=>zam t18 (.bool true) t21 λt22=>zag t22 (zah 1 t0 λt28=>zac .lss false t7 t28 λt29=>zag t29 (zak 1 t0 t7 λt33=>zae false 1 t33 H λt34=>zac .add false t6 t34 λt35=>zgS t0 t1 t5 t7 t35 H K Kb4) (zgS t0 t1 t5 t7 t6 H K Kb4)) (K t5 H)
def zAA:Prop:=zk2 t0 t1 .snil (.int .u32 0) (.int .i64 0) H K
def zk4:Nat→List Bool | 6=>rl false [0,2,3,1,35] | _=>[]
noncomputable def zr6:Code:=Tryz.f105.body.getD .skip
noncomputable def zKH:List ResultVar:=Tryz.f105.results.toList
def zk5:List AV:=t0::t1::ux 3 (t5::ux 35 [])
def zKF:List Bool:=zk4 6
noncomputable def zKD:Code:=zar [1,1,0,1,0,0] zr6
def zKC:AExit→List AV→zaa→Prop:=zas tP zk4 [1,1,0,1,0] zr6 (zaz tP zKH K)
def zAB:Prop:=ALoop tP zKD (zKC K) (zk5 t0 t1 t5) H
def ziu:Prop:=zac .geq false t5 (.int .i64 0) λt20=>zag t20 (zab H (λK'=>K' t0 H) λt23=>zab H (λK'=>K' t5 H) λt24=>zab H (λK'=>zak 1 t23 t24 (K' · H)) λt25=>zab H (λK'=>zaj false 1 t25 H (K' · H)) λt26=>zab H (λK'=>K' t1 H) λt27=>zab H (λK'=>K' t5 H) λt28=>zab H (λK'=>zak 1 t27 t28 (K' · H)) λt29=>zab H (λK'=>zaj false 1 t29 H (K' · H)) λt30=>zab H (λK'=>zac .lss false t26 t30 (K' · H)) λt31=>zag t31 (K (.int .i64 (-1)) H) (zab H (λK'=>K' t0 H) λt32=>zab H (λK'=>K' t5 H) λt33=>zab H (λK'=>zak 1 t32 t33 (K' · H)) λt34=>zab H (λK'=>zaj false 1 t34 H (K' · H)) λt35=>zab H (λK'=>K' t1 H) λt36=>zab H (λK'=>K' t5 H) λt37=>zab H (λK'=>zak 1 t36 t37 (K' · H)) λt38=>zab H (λK'=>zaj false 1 t38 H (K' · H)) λt39=>zab H (λK'=>zac .gtr false t35 t39 (K' · H)) λt40=>zag t40 (K (.int .i64 1) H) (zac .sub false t5 (.int .i64 1) λt22=>Kb6 (zk5 t0 t1 t22) H))) (K (.int .i64 0) H)
def zk3:Prop:=zah 1 t0 λt7=>zah 1 t1 λt9=>zac .neq false t7 t9 λt10=>zag t10 (zah 1 t0 λt12=>zah 1 t1 λt14=>zac .lss false t12 t14 λt15=>zag t15 (K (.int .i64 (-1)) H) (K (.int .i64 1) H)) (zah 1 t0 λt17=>zac .sub false t17 (.int .i64 1) λt18=>zAB t0 t1 t18 H K)
def zk6:Nat→List Bool | 4=>rl false [0,2,3,3,48] | _=>[]
noncomputable def zr7:Code:=Tryz.f106.body.getD .skip
noncomputable def zKN:List ResultVar:=Tryz.f106.results.toList
def ziv:List AV:=t0::t1::ux 3 (t5::t6::t7::ux 48 [])
def zKL:List Bool:=zk6 4
noncomputable def zKJ:Code:=zar [1,1,1,0,1,0,0] zr7
def zKI:AExit→List AV→zaa→Prop:=zas tP zk6 [1,1,1,0,1,0] zr7 (zaz tP zKN K)
def zAE:Prop:=ALoop tP zKJ (zKI K) (ziv t0 t1 t5 t6 t7) H
def zr8 (t0 t1 t5 t6 t7:AV) (H:zaa) (K:Kt) (Kb4:Lt):Prop:=zac .add false t7 (.int .i64 1) λt17=>Kb4 (ziv t0 t1 t5 t6 t17) H
def zk8:Prop:=zr8 t0 t1 t5 t6 t7 H K Kb4
def ziw:Prop:=zak 1 t0 t7 λt31=>zae false 1 t31 H λt32=>zac .geq false t32 t8 λt34=>zag t34 (zak 1 t0 t7 λt39=>zae false 1 t39 H λt40=>zac .sub false t40 t8 λt42=>zak 1 t5 t7 λt43=>zao 1 t43 t42 H λH=>zk8 t0 t1 t5 (.int .u32 0) t7 H K Kb4) (zak 1 t0 t7 λt48=>zae false 1 t48 H λt49=>zac .add false t49 (.int .u32 1000000000) λt50=>zac .sub false t50 t8 λt52=>zak 1 t5 t7 λt53=>zao 1 t53 t52 H λH=>zk8 t0 t1 t5 (.int .u32 1) t7 H K Kb4)
def zk7:Prop:=zah 1 t0 λt14=>zac .lss false t7 t14 λt15=>zag t15 (zah 1 t1 λt21=>zac .lss false t7 t21 λt22=>zag t22 (zak 1 t1 t7 λt26=>zae false 1 t26 H λt27=>zac .add false t6 t27 λt28=>ziw t0 t1 t5 t7 t28 H K Kb4) (ziw t0 t1 t5 t7 t6 H K Kb4)) (ACalls tP zeV [t5] H λt55 H=>K t55 H)
def zAD:Prop:=zah 1 t0 λt10=>zbe 4 [(.int .u32 0)] t10 t10 H λt11 H=>zAE t0 t1 t11 (.int .u32 0) (.int .i64 0) H K
def zSx (_:Nat):List Bool:=[]
noncomputable def zSy:Code:=Tryz.f24.body.getD .skip
def zC7:Prop:=zat t0 H λt1 H=>zae true 3 t1 H λt3=>ACalls tP zdP [t3] H λt4 H=>zao 3 t1 t4 H λH=>zaf 1 t1 λt6=>zae false 1 t6 H λt7=>zah 1 t7 λt8=>zac .eql false t8 (.int .i64 0) λt9=>zag t9 (K (.int .i64 0) H) (zaf 0 t1 λt11=>zae false 1 t11 H λt12=>zag t12 (K (.int .i64 (-1)) H) (K (.int .i64 1) H))
def zk9:Nat→List Bool | 4=>rl false [0,1,2,3,30] | _=>[]
noncomputable def zr9:Code:=Tryz.f107.body.getD .skip
noncomputable def zKU:List ResultVar:=Tryz.f107.results.toList
def zlb:List AV:=t0::ux 2 (t3::t4::t5::ux 30 [])
def zKS:List Bool:=zk9 4
noncomputable def zKQ:Code:=zar [1,1,1,0,1,0,0] zr9
def zKP:AExit→List AV→zaa→Prop:=zas tP zk9 [1,1,1,0,1,0] zr9 (zaz tP zKU K)
def zld:Prop:=ALoop tP zKQ (zKP K) (zlb t0 t3 t4 t5) H
def zlc:Prop:=ACalls tP zeV [t3] H λt35 H=>K t35 H
def zla:Prop:=zah 1 t0 λt8=>zac .lss false t5 t8 λt9=>zag t9 (zak 1 t0 t5 λt15=>zae false 1 t15 H λt16=>za0 .u64 t16 λt17=>zac .add false t4 t17 λt18=>zac .rem false t18 (.int .u64 1000000000) λt21=>za0 .u32 t21 λt22=>zau 1 [(.int .u32 0)] 1 [(0,t22)] λt23=>zav za5 1 4 t3 t23 H λt24 H=>zac .quo false t18 (.int .u64 1000000000) λt26=>zac .add false t5 (.int .i64 1) λt11=>Kb4 (zlb t0 t24 t26 t11) H) (zac .gtr false t4 (.int .u64 0) λt28=>zag t28 (za0 .u32 t4 λt31=>zau 1 [(.int .u32 0)] 1 [(0,t31)] λt32=>zav za5 1 4 t3 t32 H λt33 H=>zlc t33 H K) (zlc t3 H K))
def zAF:Prop:=zld t0 .snil (.int .u64 0) (.int .i64 0) H K
def zle:Nat→List Bool | 1=>rl false [0,2,17] | _=>[]
noncomputable def zsb:Code:=Tryz.f108.body.getD .skip
noncomputable def zK0:List ResultVar:=Tryz.f108.results.toList
def zlf:List AV:=t0::t1::ux 17 []
def zKY:List Bool:=zle 1
noncomputable def zKW:Code:=zar [1,0,0,0] zsb
def zKV:AExit→List AV→zaa→Prop:=zas tP zle [1,0,0] zsb (zaz tP zK0 K)
def zAI:Prop:=ALoop tP zKW (zKV K) (zlf t0 t1) H
def zsa:Prop:=zah 1 t1 λt8=>zac .gtr false t8 (.int .i64 0) λt9=>zag t9 (ACalls tP zhJ [t0,t1] H λt13 H=>zaC t13 0 λt14=>zaC t13 1 λt15=>Kb1 (zlf t1 t15) H) (K t0 H)
def zAH:Prop:=zAI t0 t1 H K
def zlg:Nat→List Bool | 2=>rl false [0,1,2,1,18] | _=>[]
noncomputable def zse:Code:=Tryz.f110.body.getD .skip
noncomputable def zLd:List ResultVar:=Tryz.f110.results.toList
def zli:List AV:=t0::ux 2 (t3::ux 18 [])
def zLb:List Bool:=zlg 2
noncomputable def zK9:Code:=zar [1,1,0,0,0] zse
def zK8:AExit→List AV→zaa→Prop:=zas tP zlg [1,1,0,0] zse (zaz tP zLd K)
def zAM:Prop:=ALoop tP zK9 (zK8 K) (zli t0 t3) H
def zlh:Prop:=zac .gtr false t3 (.int .i64 0) λt7=>zad t7 true H (λK'=>K' t0 H) λt9 H=>zad t7 true H (λK'=>K' t3 H) λt10 H=>zad t7 true H (λK'=>zac .sub false t10 (.int .i64 1) (K' · H)) λt11 H=>zad t7 true H (λK'=>zak 1 t9 t11 (K' · H)) λt12 H=>zad t7 true H (λK'=>zae false 1 t12 H (K' · H)) λt13 H=>zad t7 true H (λK'=>zac .eql false t13 (.int .u32 0) (K' · H)) λt14 H=>zam t7 t14 (.bool false) λt15=>zag t15 (zac .sub false t3 (.int .i64 1) λt17=>Kb2 (zli t0 t17) H) (zaN 1 1 t0 none (some t3) λt20=>zav za5 1 4 .snil t20 H λt21 H=>K t21 H)
def zAL:Prop:=zah 1 t0 λt5=>zAM t0 t5 H K
def zl5:Nat→List Bool | 4=>rl false [0,2,4,3,31] | _=>[]
noncomputable def zs2:Code:=Tryz.f150.body.getD .skip
noncomputable def zNX:List ResultVar:=Tryz.f150.results.toList
def zl6:List AV:=t0::t1::ux 4 (t6::t7::t8::ux 31 [])
def zNV:List Bool:=zl5 4
noncomputable def zNT:Code:=zar [1,1,1,0,1,0,0] zs2
def zNS:AExit→List AV→zaa→Prop:=zas tP zl5 [1,1,1,0,1,0] zs2 (zaz tP zNX K)
def zBA:Prop:=ALoop tP zNT (zNS K) (zl6 t0 t1 t6 t7 t8) H
def zs1:Prop:=zac .geq false t8 (.int .i64 0) λt16=>zag t16 (zac .mul false t7 (.int .u64 1000000000) λt20=>zak 1 t0 t8 λt23=>zae false 1 t23 H λt24=>za0 .u64 t24 λt25=>zac .add false t20 t25 λt26=>zac .quo false t26 t1 λt31=>za0 .u32 t31 λt32=>zak 1 t6 t8 λt33=>zao 1 t33 t32 H λH=>zac .rem false t26 t1 λt36=>zac .sub false t8 (.int .i64 1) λt18=>Kb4 (zl6 t0 t1 t6 t36 t18) H) (ACalls tP zeV [t6] H λt38 H=>zaF [t38,t7] (K · H))
def zBz:Prop:=zah 1 t0 λt10=>zbe 4 [(.int .u32 0)] t10 t10 H λt11 H=>zah 1 t0 λt13=>zac .sub false t13 (.int .i64 1) λt14=>zBA t0 t1 t11 (.int .u64 0) t14 H K
def zNi (_:Nat):List Bool:=[]
noncomputable def zNj:Code:=Tryz.f143.body.getD .skip
def zBv:Prop:=zat t0 H λt2 H=>zat t1 H λt3 H=>zay [(.bool false),.snil,.snil] H λt4 H=>zab H (λK'=>zaj true 3 t2 H (K' · H)) λt6=>zaA H (λH K'=>ACalls tP zdP [t6] H K') λt7=>zab H (λK'=>zaj true 3 t3 H (K' · H)) λt8=>zaA H (λH K'=>ACalls tP zdP [t8] H K') λt9=>zao 3 t2 t7 H λH=>zao 3 t3 t9 H λH=>zaf 1 t3 λt10=>zae false 1 t10 H λt11=>zah 1 t11 λt12=>zac .eql false t12 (.int .i64 0) λt13=>zag t13 (ACalls tP zdO [(.int .i64 0)] H λt14 H=>zao 3 t4 t14 H λH=>zae true 3 t4 H λr0=>zaF [r0,(.bool false)] (K · H)) (zab H (λK'=>zaf 0 t2 (K' · H)) λt15=>zab H (λK'=>zaj false 1 t15 H (K' · H)) λt16=>zab H (λK'=>zaf 0 t3 (K' · H)) λt17=>zab H (λK'=>zaj false 1 t17 H (K' · H)) λt18=>zab H (λK'=>zac .neq true t16 t18 (K' · H)) λt19=>zab H (λK'=>zaf 1 t2 (K' · H)) λt20=>zab H (λK'=>zaj false 1 t20 H (K' · H)) λt21=>zab H (λK'=>zaf 2 t3 (K' · H)) λt22=>zab H (λK'=>zaj false 1 t22 H (K' · H)) λt23=>zaA H (λH K'=>ACalls tP zdg [t21,t23] H K') λt24=>zab H (λK'=>zaf 2 t2 (K' · H)) λt25=>zab H (λK'=>zaj false 1 t25 H (K' · H)) λt26=>zab H (λK'=>zaf 1 t3 (K' · H)) λt27=>zab H (λK'=>zaj false 1 t27 H (K' · H)) λt28=>zaA H (λH K'=>ACalls tP zdg [t26,t28] H K') λt29=>zaA H (λH K'=>ACalls tP zdy [t19,t24,t29] H K') λt30=>zao 3 t4 t30 H λH=>zab H (λK'=>K' (.bool true) H) λt5=>zae true 3 t4 H λr0=>zaF [r0,t5] (K · H))
def zVb (_:Nat):List Bool:=[]
noncomputable def zVc:Code:=Tryz.f57.body.getD .skip
def znW:Prop:=zaq [(.bool false),.snil,.snil] [(0,1),(1,1),(2,1)] [(0,t0),(1,t1),(2,t2)] λt49=>zao 3 t6 t49 H λH=>zae true 3 t6 H λr0=>K r0 H
def zD9:Prop:=zay [(.bool false),.snil,.snil] H λt6 H=>ACalls tP zjv [t1] H λt9 H=>ACalls tP zjv [t2] H λt11 H=>zah 1 t9 λt13=>zac .eql false t13 (.int .i64 0) λt14=>zad t14 false H (λK'=>K' t11 H) λt16 H=>zad t14 false H (λK'=>zah 1 t16 (K' · H)) λt17 H=>zad t14 false H (λK'=>zac .eql false t17 (.int .i64 0) (K' · H)) λt18 H=>zam t14 (.bool true) t18 λt19=>zag t19 (zau 1 [(.int .u32 0)] 1 [(0,(.int .u32 1))] λt20=>zaq [(.bool false),.snil,.snil] [(0,1),(1,1),(2,1)] [(2,t20)] λt21=>zao 3 t6 t21 H λH=>zae true 3 t6 H λr0=>K r0 H) (ACalls tP zp7 [t9,t11] H λt24 H=>zah 1 t24 λt26=>zac .neq false t26 (.int .i64 1) λt27=>zad t27 false H (λK'=>K' t24 H) λt29 H=>zad t27 false H (λK'=>zak 1 t29 (.int .i64 0) (K' · H)) λt30 H=>zad t27 false H (λK'=>zae false 1 t30 H (K' · H)) λt31 H=>zad t27 false H (λK'=>zac .neq false t31 (.int .u32 1) (K' · H)) λt32 H=>zam t27 (.bool true) t32 λt33=>zag t33 (ACalls tP zhJ [t9,t24] H λt37 H=>zaC t37 0 λt38=>zaC t37 1 λt39=>ACalls tP zhJ [t11,t24] H λt43 H=>zaC t43 0 λt44=>zaC t43 1 λt45=>znW t0 t38 t44 t6 H K) (znW t0 t9 t11 t6 H K))
def zAK:Nat→List Bool | 9=>rl false [0,2,6,3,79] | 13=>rl false [0,2,6,4,78] | 16=>rl false [0,2,6,4,78] | _=>[]
noncomputable def zsc:Code:=Tryz.f109.body.getD .skip
noncomputable def zK7:List ResultVar:=Tryz.f109.results.toList
def zK4:List AV:=t0::t1::ux 6 (t8::t9::t10::ux 79 [])
noncomputable def zK3:Code:=zar [1,1,1,1,1,0,1,0,0] zsc
def zK2:AExit→List AV→zaa→Prop:=zas tP zAK [1,1,1,1,1,0,1,0] zsc (zaz tP zK7 K)
def zK5:Prop:=ALoop tP zK3 (zK2 K) (zK4 t0 t1 t8 t9 t10) H
def zAJ:Prop:=ACalls tP zju [t0,t1] H λt14 H=>zac .lss false t14 (.int .i64 0) λt15=>zag t15 (ACalls tP zeV [t0] H λt17 H=>zaF [.snil,t17] (K · H)) (zah 1 t1 λt19=>zac .eql false t19 (.int .i64 1) λt20=>zag t20 (zak 1 t1 (.int .i64 0) λt24=>zae false 1 t24 H λt25=>za0 .u64 t25 λt26=>ACalls tP zqp [t0,t26] H λt27 H=>zaC t27 0 λt28=>zaC t27 1 λt29=>ACalls tP zhZ [t29] H λt32 H=>zaF [t28,t32] (K · H)) (zah 1 t0 λt34=>zbe 4 [(.int .u32 0)] t34 t34 H λt35 H=>zah 1 t0 λt37=>zac .sub false t37 (.int .i64 1) λt38=>zK5 t0 t1 t35 .snil t38 H K))
variable {t0 t1 t2 t3 t4 t5 t6 t7 t8 t9 t10} {H} {K} {Kb1 Kb2 Kb3 Kb4 Kb6 Kb7}
theorem zTn (h:HSc H→zDx t0 H K):ACalls tP zdO [t0] H K:=
 acb zTk Tryz.func36 zTl (by kernel_rfl) (by kernel_rfl) h
theorem zRI (h:HSc H→zCZ t0 t1 H K):ACalls tP zfy [t0,t1] H K:=
 acb zRG Tryz.func22 zRH (by kernel_rfl) (by kernel_rfl) h
theorem zU0 (h:HSc H→zD4 t0 t1 H K):ACalls tP zqV [t0,t1] H K:=
 acb zUY Tryz.func54 zUZ (by kernel_rfl) (by kernel_rfl) h
theorem zVO (Inv:Nat→AV→AV→zaa→Prop) (n:Nat) (h0:HSc H→Inv n t0 t3 H)
  (ac:Rd2 (λt0=>λt3=>zn9 t0 t3) (λt0=>λt3=>λH Kb2=>zvf t0 t3 H K Kb2) H Inv):zoa t0 t3 H K:=
 lp2 (M:=zn8) zVP t0 t3 (by kernel_rfl) Inv n h0 ac
theorem zVQ (h:HSc H→zEn t0 H K):ACalls tP zhZ [t0] H K:=
 acb zn8 Tryz.func71 zvg (by kernel_rfl) (by kernel_rfl) h
theorem zVa (h:HSc H→zD8 t0 H K):ACalls tP zdP [t0] H K:=
 acb zU8 Tryz.func56 zU9 (by kernel_rfl) (by kernel_rfl) h
theorem zVi (Inv:Nat→AV→AV→zaa→Prop) (n:Nat) (h0:HSc H→Inv n t7 t8 H)
  (ac:Rd2 (λt7=>λt8=>znZ t0 t1 t5 t6 t7 t8) (λt7=>λt8=>λH Kb7=>znX t0 t1 t5 t6 t7 t8 H K Kb3 Kb7) H Inv):zEd t0 t1 t5 t6 t7 t8 H K Kb3:=
 lp2 (M:=zf6) zVj t7 t8 (by kernel_rfl) Inv n h0 ac
theorem zVh (Inv:Nat→AV→zaa→Prop) (n:Nat) (h0:HSc H→Inv n t6 H)
  (ac:Rd1 (λt6=>znY t0 t1 t5 t6) (λt6=>λH Kb3=>zu5 t0 t1 t5 t6 H K Kb3) H Inv):zEc t0 t1 t5 t6 H K:=
 lp1 (M:=zf6) zEe t6 (by kernel_rfl) Inv n h0 ac
theorem zVk (h:HSc H→zEa t0 t1 H K):ACalls tP zdg [t0,t1] H K:=
 acb zf6 Tryz.func58 zu6 (by kernel_rfl) (by kernel_rfl) h
theorem zKx (Inv:Nat→AV→AV→AV→zaa→Prop) (n:Nat) (h0:HSc H→Inv n t5 t6 t7 H)
  (ac:Rd3 (λt5=>λt6=>λt7=>zk0 t0 t1 t5 t6 t7) (λt5=>λt6=>λt7=>λH Kb4=>zgR t0 t1 t5 t6 t7 H K Kb4) H Inv):zk2 t0 t1 t5 t6 t7 H K:=
 lp3 (M:=zkZ) zKy t5 t6 t7 (by kernel_rfl) Inv n h0 ac
theorem zKz (h:HSc H→zAA t0 t1 H K):ACalls tP zp6 [t0,t1] H K:=
 acb zkZ Tryz.func104 zr5 (by kernel_rfl) (by kernel_rfl) h
theorem zKE (Inv:Nat→AV→zaa→Prop) (n:Nat) (h0:HSc H→Inv n t5 H)
  (ac:Rd1 (λt5=>zk5 t0 t1 t5) (λt5=>λH Kb6=>ziu t0 t1 t5 H K Kb6) H Inv):zAB t0 t1 t5 H K:=
 lp1 (M:=zk4) zKF t5 (by kernel_rfl) Inv n h0 ac
theorem zKG (h:HSc H→zk3 t0 t1 H K):ACalls tP zju [t0,t1] H K:=
 acb zk4 Tryz.func105 zr6 (by kernel_rfl) (by kernel_rfl) h
theorem zKK (Inv:Nat→AV→AV→zaa→Prop) (n:Nat) (h0:HSc H→Inv n t6 t7 H)
  (ac:Rd2 (λt6=>λt7=>ziv t0 t1 t5 t6 t7) (λt6=>λt7=>λH Kb4=>zk7 t0 t1 t5 t6 t7 H K Kb4) H Inv):zAE t0 t1 t5 t6 t7 H K:=
 lp2 (M:=zk6) zKL t6 t7 (by kernel_rfl) Inv n h0 ac
theorem zKM (h:HSc H→zAD t0 t1 H K):ACalls tP zhI [t0,t1] H K:=
 acb zk6 Tryz.func106 zr7 (by kernel_rfl) (by kernel_rfl) h
theorem zSz (h:HSc H→zC7 t0 H K):ACalls tP zhS [t0] H K:=
 acb zSx Tryz.func24 zSy (by kernel_rfl) (by kernel_rfl) h
theorem zKR (Inv:Nat→AV→AV→AV→zaa→Prop) (n:Nat) (h0:HSc H→Inv n t3 t4 t5 H)
  (ac:Rd3 (λt3=>λt4=>λt5=>zlb t0 t3 t4 t5) (λt3=>λt4=>λt5=>λH Kb4=>zla t0 t3 t4 t5 H K Kb4) H Inv):zld t0 t3 t4 t5 H K:=
 lp3 (M:=zk9) zKS t3 t4 t5 (by kernel_rfl) Inv n h0 ac
theorem zKT (h:HSc H→zAF t0 H K):ACalls tP zjv [t0] H K:=
 acb zk9 Tryz.func107 zr9 (by kernel_rfl) (by kernel_rfl) h
theorem zKX (Inv:Nat→AV→AV→zaa→Prop) (n:Nat) (h0:HSc H→Inv n t0 t1 H)
  (ac:Rd2 (λt0=>λt1=>zlf t0 t1) (λt0=>λt1=>λH Kb1=>zsa t0 t1 H K Kb1) H Inv):zAI t0 t1 H K:=
 lp2 (M:=zle) zKY t0 t1 (by kernel_rfl) Inv n h0 ac
theorem zKZ (h:HSc H→zAH t0 t1 H K):ACalls tP zp7 [t0,t1] H K:=
 acb zle Tryz.func108 zsb (by kernel_rfl) (by kernel_rfl) h
theorem zLa (Inv:Nat→AV→zaa→Prop) (n:Nat) (h0:HSc H→Inv n t3 H)
  (ac:Rd1 (λt3=>zli t0 t3) (λt3=>λH Kb2=>zlh t0 t3 H K Kb2) H Inv):zAM t0 t3 H K:=
 lp1 (M:=zlg) zLb t3 (by kernel_rfl) Inv n h0 ac
theorem zLc (h:HSc H→zAL t0 H K):ACalls tP zeV [t0] H K:=
 acb zlg Tryz.func110 zse (by kernel_rfl) (by kernel_rfl) h
theorem zNU (Inv:Nat→AV→AV→zaa→Prop) (n:Nat) (h0:HSc H→Inv n t7 t8 H)
  (ac:Rd2 (λt7=>λt8=>zl6 t0 t1 t6 t7 t8) (λt7=>λt8=>λH Kb4=>zs1 t0 t1 t6 t7 t8 H K Kb4) H Inv):zBA t0 t1 t6 t7 t8 H K:=
 lp2 (M:=zl5) zNV t7 t8 (by kernel_rfl) Inv n h0 ac
theorem zNW (h:HSc H→zBz t0 t1 H K):ACalls tP zqp [t0,t1] H K:=
 acb zl5 Tryz.func150 zs2 (by kernel_rfl) (by kernel_rfl) h
theorem zNk (h:HSc H→zBv t0 t1 H K):ACalls tP zqm [t0,t1] H K:=
 acb zNi Tryz.func143 zNj (by kernel_rfl) (by kernel_rfl) h
theorem zVd (h:HSc H→zD9 t0 t1 t2 H K):ACalls tP zdy [t0,t1,t2] H K:=
 acb zVb Tryz.func57 zVc (by kernel_rfl) (by kernel_rfl) h
theorem zK6 (h:HSc H→zAJ t0 t1 H K):ACalls tP zhJ [t0,t1] H K:=
 acb zAK Tryz.func109 zsc (by kernel_rfl) (by kernel_rfl) h
end
section
open Go.RowKit
def zal (l:List Nat):List (List AV):=l.map λ(n:Nat)=>[AV.int .u32 (n:Int)]
@[simp] theorem ycg (l:List Nat):(zal l).length=l.length:=by simp[zal]
theorem zAe (l:List Nat) (n:Nat):(zal l).take n=zal (l.take n):=by simp[zal,List.map_take]
theorem ycf {l:List Nat} {i:Nat} (h:i<l.length):(zal l)[i]?.getD []=[.int .u32 ((l[i]:Nat):Int)]:=by simp[zal,h]
@[simp] theorem yce {l:List Nat} {i:Nat} (h:i<(zal l).length):(zal l)[i]=[.int .u32 (((l[i]'(by simpa using h)):Nat):Int)]:=by simp[zal]
theorem zd8 (l:List Nat):∀ c∈zal l,c.length=1:=by intro c hc;simp only[zal,List.mem_map]at hc;obtain⟨n,_,rfl⟩:=hc;rfl
theorem zzB {L:List Nat} {n:Nat} (hn:0<n) (h:n≤L.length) (h0:L[n-1]=0):zbF (L.take n)=zbF (L.take (n-1)):=by
 obtain⟨m,rfl⟩:∃ m,n=m+1:=⟨n-1,by omega⟩;simp only[Nat.add_sub_cancel]at h0 ⊢;rw[List.take_succ_eq_append_getElem (by omega),h0];generalize L.take m=A;induction A with
 | nil=>simp[zbF]
 | cons a A ih=>rw[List.cons_append,zbF,zbF,ih]
theorem zzz {L:List Nat} {n:Nat} (hn:0<n) (h:n≤L.length) (h0:L[n-1]≠0):zbF (L.take n)=L.take n:=by
 obtain⟨m,rfl⟩:∃ m,n=m+1:=⟨n-1,by omega⟩;simp only[Nat.add_sub_cancel]at h0;rw[List.take_succ_eq_append_getElem (by omega)];generalize hx:L[m]=x at h0;generalize L.take m=A;induction A with
 | nil=>simp[zbF,h0]
 | cons a A ih=>rw[List.cons_append,zbF,ih,if_neg];rintro⟨_,h⟩;simp at h
theorem zcp {n:Nat} (h:n<4294967296):IntKind.u32.wrap (n:Int)=n:=IntWalk.u32_in _ ⟨by omega,by omega⟩
theorem zbm {n:Nat} (h:n<18446744073709551616):IntKind.u64.wrap (n:Int)=n:=IntWalk.u64_in _ ⟨by omega,by omega⟩
theorem zwq {k:AV→Prop} (b:Bool) (j:IntKind) (m n:Nat) (hn:n≠0):zac .rem b (.int j m) (.int j n) k=k (.int j ((m % n:Nat):Int)):=by simp only[zcj,ne_eq,Int.natCast_eq_zero,hn,not_false_eq_true,true_and];rfl
theorem zwp {k:AV→Prop} (b:Bool) (j:IntKind) (m n:Nat) (hn:n≠0):zac .quo b (.int j m) (.int j n) k=k (.int j (j.wrap ((m / n:Nat):Int))):=by simp only[zcj,ne_eq,Int.natCast_eq_zero,hn,not_false_eq_true,true_and];rfl
theorem zo5 {k:AV→Prop} (b:Bool) (j:IntKind) (m:Nat):zac .rem b (.int j m) (.int j 1000000000) k=k (.int j ((m % 1000000000:Nat):Int)):=zwq b j m 1000000000 (by decide)
theorem zwn {k:AV→Prop} (b:Bool) (j:IntKind) (m:Nat):zac .quo b (.int j m) (.int j 1000000000) k=k (.int j (j.wrap ((m / 1000000000:Nat):Int))):=zwp b j m 1000000000 (by decide)
theorem zwo {k:AV→Prop} (b:Bool) {m:Nat} (h:m<18446744073709551616):zac .quo b (.int .u64 m) (.int .u64 1000000000) k=k (.int .u64 ((m / 1000000000:Nat):Int)):=by rw[zwn,zbm (by have:=Nat.div_le_self m 1000000000;omega)]
theorem zFI {k:AV→Prop} (b:Bool) {m:Nat} (h:m<4294967296):zac .quo b (.int .u32 m) (.int .u32 1000000000) k=k (.int .u32 ((m / 1000000000:Nat):Int)):=by rw[zwn,zcp (by have:=Nat.div_le_self m 1000000000;omega)]
theorem zFD {k:AV→Prop} (j:IntKind) {m:Nat} (h:m<4294967296):za0 .u32 (.int j m) k=k (.int .u32 m):=by rw[zFE,zcp h]
theorem zp1 (m:Nat):m % 1000000000<1000000000:=Nat.mod_lt _ (by decide)
theorem zGG {m:Nat} (h:m≠0):m / 1000000000<m:=Nat.div_lt_self (by omega) (by decide)
theorem sN (l:List Nat) (x:Nat):zal l++[[AV.int .u32 (x:Int)]]=zal (l++[x]):=by simp[zal]
theorem zgi (s:Nat) (h:s<18446744073709551616):∃ x c:Nat,x<1000000000∧s=x+1000000000*c∧IntKind.u32.wrap (x:Int)=x ∧
  (∀ (b:Bool) (k:AV→Prop),zac .rem b (.int .u64 s) (.int .u64 1000000000) k=k (.int .u64 x))∧∀ (b:Bool) (k:AV→Prop),zac .quo b (.int .u64 s) (.int .u64 1000000000) k=k (.int .u64 c):=
 ⟨s % 1000000000,s / 1000000000,zp1 s,by omega,zcp (by omega),λb k=>zo5 b .u64 s,λb k=>zwo b h⟩
theorem zxm (s:Nat) (h:s<4294967296):∃ x c:Nat,x<1000000000∧s=x+1000000000*c ∧
  (∀ (b:Bool) (k:AV→Prop),zac .rem b (.int .u32 s) (.int .u32 1000000000) k=k (.int .u32 x))∧∀ (b:Bool) (k:AV→Prop),zac .quo b (.int .u32 s) (.int .u32 1000000000) k=k (.int .u32 c):=
 ⟨s % 1000000000,s / 1000000000,zp1 s,by omega,λb k=>zo5 b .u32 s,λb k=>zFI b h⟩
theorem zpz (s d:Nat) (hd:0<d) (h:s<18446744073709551616):∃ x c:Nat,x<d∧s=x+d*c ∧
  (∀ (b:Bool) (k:AV→Prop),zac .rem b (.int .u64 s) (.int .u64 d) k=k (.int .u64 x))∧∀ (b:Bool) (k:AV→Prop),zac .quo b (.int .u64 s) (.int .u64 d) k=k (.int .u64 c):=
 ⟨s % d,s / d,Nat.mod_lt _ hd,(Nat.mod_add_div s d).symm,λb k=>zwq b .u64 s d (by omega),λb k=>by rw[zwp b .u64 s d (by omega),zbm (by have:=Nat.div_le_self s d;omega)]⟩
theorem wi (i:Nat) (h:i<1000000000):IntKind.i64.wrap ((i:Int)+1)=((i+1:Nat):Int):=by rw[zaw (by omega) (by omega)];omega
theorem zzA:∀ l:List Nat,(zbF l).length≤l.length∧((zbF l).length=l.length→zbF l=l)
 | []=>by simp[zbF]
 | x::l=>by
  obtain⟨h1,h2⟩:=zzA l;rw[zbF];split
  ·simp
  ·simp only[List.length_cons];exact⟨by omega,λh=>by rw[h2 (by omega)]⟩
theorem zjn {n k:Nat} (h:1000000000 ^ k≤n):k<(lim n).length:=by have h1:=zdM (lim n) (zbT n);rw[zbg]at h1;refine Nat.lt_of_not_le λh2=>?_;have:=Nat.pow_le_pow_right (show 0<1000000000 by omega) h2;omega
theorem zpl {R:List Nat} (hR:∀ x∈R,x<1000000000) (h:R.length≤(lim (zan R)).length):R=lim (zan R):=by have h1:=zfJ R hR;obtain⟨h2,h3⟩:=zzA R;rw[←h1,h3 (by rw[h1]at h2 ⊢;omega)]
end
theorem zsf (L:List Nat) (hL:L.length≤1000000) (H:zaa) (K:Kt) (hK:K (.sl (zal (zbF L)) .none) H) :
  ACalls tP zeV [.sl (zal L) .none] H K:=by
 refine ACalls.out (zLc λhs=>?_);simp[zAL];refine zLa (Inv:=λq t3 H'=>∃ n:Nat,n≤L.length∧n=q∧t3=.int .i64 n∧H'=H∧zbF L=zbF (L.take n)) L.length ?_ ?_
 ·intro _;exact⟨L.length,by omega,rfl,by simp,rfl,by simp⟩
 ·rintro q t3 H' ⟨n,hn,rfl,rfl,rfl,aR⟩ aJ am aM Kb au;have bv:∀ (l:List Nat) (J:zaa),l=zbF L→Out (List.length H') K (AV.sl (zal l) (Tok.own (List.length H'))) (H'++J):=λl J hl=>Out.one hs (.atom (.sl _ _)) rfl rfl (by rw[hl];exact hK);by_cases h0:n=0
  ·subst h0;simp[zlh,zav,zaM,zaJ];exact⟨zd8 L,bv [] _ (by simpa[zbF]using aR.symm)⟩
  ·have hw:IntKind.i64.wrap ((n:Int)-1)=((n-1:Nat):Int):=by rw[zaw (by omega) (by omega)];omega
   have ak:n-1<L.length:=by omega
   by_cases hz:L[n-1]=0
   ·simp[zlh,show 0<n by omega,hw,ak,hz];exact au _ _ ⟨n-1,by omega,Back.here (by simp) hs (by simp[zli,AV.sc,AV.scA,AV.scB,AV.scV]) ⟨_,rfl,n-1,by omega,rfl,rfl,rfl,by rw[aR,zzB (by omega) hn hz]⟩⟩
   ·have ku:(((L[n-1]:Nat):Int) == 0)=false:=by simp;omega
    simp[zlh,show 0<n by omega,hw,ak,ku,zav,zaM,zaJ];refine⟨⟨hn,zd8 L⟩,λc hc=>zd8 L c (List.mem_of_mem_take hc),⟨by omega,by omega⟩,?_⟩;rw[zAe];exact bv _ _ (by rw[aR,zzz (by omega) hn hz])
theorem zEo (n:Nat) (hn:n<18446744073709551616) (H:zaa) (K:Kt) (hK:K (.sl (zal (lim n)) .none) H) :
  ACalls tP zhZ [.int .u64 n] H K:=by
 refine ACalls.out (zVQ λhs=>?_);unfold zEn zoa;refine ALoop.own 3 za5 1 rfl ?_;show zoa (.int .u64 n) (.sl [] (.own H.length)) (H++[.perm za5 1 0]) (Out H.length K);refine zVO (Inv:=λq t0 t3 H'=>∃ (m:Nat) (A:List Nat),m=q∧t0=.int .u64 m∧t3=.sl (zal A) (.own H.length)∧lim n=A++lim m∧m<18446744073709551616 ∧
  H'=H++[.perm za5 1 A.length]) n ?_ ?_
 ·intro _;exact⟨n,[],rfl,rfl,rfl,by simp,hn,rfl⟩
 ·rintro q t0 t3 H' ⟨m,A,rfl,rfl,rfl,hA,hm,rfl⟩ aJ am aM Kb au;by_cases h0:m=0
  ·subst h0;simp[zvf];exact Out.one hs (.atom (.sl _ _)) rfl rfl (by simpa[hA]using hK)
  ·have hq:=zp1 m;have hd:=zGG h0;have hlA:A.length+1≤1000:=by have h1:=congrArg List.length hA;have h2:=zbJ (n:=n) (k:=3) (by omega);rw[zce h0]at h1;simp at h1;omega
   simp only[zvf,zo5,zwo false hm,zFD .u64 (show m % 1000000000<4294967296 by omega)];simp[show 0<m by omega,zau,zaQ,plain,AV.pd,zav,zaM,zaJ];refine⟨⟨by omega,by omega⟩,?_⟩;have e1:((m:Int) / 1000000000)=((m / 1000000000:Nat):Int):=rfl;have e2:((m:Int) % 1000000000)=((m % 1000000000:Nat):Int):=rfl;rw[e1,e2,sN];refine au _ _ ⟨m / 1000000000,hd,Back.here (by simp) (hs.append (by simp[AB.sc])) (by simp[zn9,ux,AV.sc,AV.scA,AV.scB,AV.scV]) ⟨_,_,rfl,m / 1000000000,A++[m % 1000000000],rfl,rfl,rfl,?_,by omega,by simp⟩⟩;rw[hA,zce h0];simp
theorem zeq (A:List Nat) (x:Nat):zan (A++[x])=zan A+1000000000 ^ A.length*x:=by rw[zhA];simp[zan]
theorem zAG (L:List Nat) (iF:∀ x∈L,x<4294967296) (hL:L.length≤100000) (H:zaa) (K:Kt) (hK:K (.sl (zal (lim (zan L))) .none) H) :
  ACalls tP zjv [.sl (zal L) .none] H K:=by
 refine ACalls.out (zKT λhs=>?_);unfold zAF zld;refine ALoop.own 3 za5 1 rfl ?_;show zld (.sl (zal L) .none) (.sl [] (.own H.length)) (.int .u64 0) (.int .i64 0) (H++[.perm za5 1 0]) (Out H.length K);have gj:∀ A:List Nat,(∀ x∈A,x<1000000000)→zan A=zan L→A.length≤200000→zlc (.sl (zal A) (.own H.length)) (H++[.perm za5 1 A.length]) (Out H.length K):=by intro A hA he hl;unfold zlc;refine ACalls.wk (args':=[.sl (zal A) .none]) (zsf A (by omega) _ _ ?_) ⟨.atom (.sl _ _),trivial⟩;rw[zfJ A hA,he];exact Out.one hs (.atom (.sl _ _)) rfl rfl hK
 refine zKR (Inv:=λq t3 t4 t5 H'=>∃ (i c:Nat) (A:List Nat),i≤L.length∧L.length-i=q∧t5=.int .i64 i∧t4=.int .u64 c∧t3=.sl (zal A) (.own H.length)∧A.length=i∧(∀ x∈A,x<1000000000)∧c≤5 ∧
  zan A+1000000000 ^ i*c=zan (L.take i)∧H'=H++[.perm za5 1 A.length]) L.length ?_ ?_
 ·intro _;exact⟨0,0,[],by omega,rfl,rfl,rfl,rfl,rfl,by simp,by omega,by simp[zan],rfl⟩
 ·rintro q t3 t4 t5 H' ⟨i,c,A,hi,rfl,rfl,rfl,rfl,eI,hA,hc,hv,rfl⟩ aJ am aM Kb au;by_cases ak:i<L.length
  ·have hx:=iF L[i] (List.getElem_mem ak);have w1:IntKind.u64.wrap ((L[i]:Nat):Int)=L[i]:=zbm (by omega);obtain⟨s,a7⟩:∃ s,s=c+L[i]:=⟨_,rfl⟩;have w2:IntKind.u64.wrap ((c:Int)+(L[i]:Nat))=(s:Int):=by rw[a7,←Int.natCast_add];exact zbm (by omega)
   obtain⟨x,c',bC,bg,bz,e1,e2⟩:=zgi s (by omega);simp only[zla];simp[ak,w1,w2,e1,e2,bz,zau,zaQ,plain,AV.pd,zav,zaM,zaJ,wi i (by omega)];refine⟨⟨by omega,by omega⟩,?_⟩;rw[sN];refine au _ _ ⟨L.length-(i+1),by omega,Back.here (by simp) (hs.append (by simp[AB.sc])) (by simp[zlb,ux,AV.sc,AV.scA,AV.scB,AV.scV]) ⟨_,_,_,rfl,i+1,c',A++[x],by omega,rfl,rfl,rfl,rfl,by simp[eI],?_,by omega,?_,by simp⟩⟩
   ·intro y hy;rcases List.mem_append.1 hy with hy | hy
    ·exact hA y hy
    ·simp at hy;omega
   ·rw[zeq,zdf L i ak,←hv,eI,Nat.pow_succ];grind
  ·obtain rfl:i=L.length:=by omega
   rw[List.take_length]at hv;by_cases h0:c=0
   ·subst h0;simp[zla];exact gj A hA (by simpa using hv) (by omega)
   ·simp only[zla];simp[show 0<c by omega,zcp (show c<4294967296 by omega),zau,zaQ,plain,AV.pd,zav,zaM,zaJ];refine⟨⟨by omega,by omega⟩,?_⟩;rw[sN];have:=gj (A++[c]) (λy hy=>by
     rcases List.mem_append.1 hy with hy | hy
     ·exact hA y hy
     ·simp at hy;omega) (by rw[zeq,eI];exact hv) (by simp;omega)
    simpa using this
theorem zjp {A B:List Nat} (hl:A.length=B.length) (hA:∀ x∈A,x<1000000000) (i:Nat) (hi:i<A.length) (hd:A.drop (i+1)=B.drop (i+1)) (ak:A[i]<B[i]'(by omega)):zan A<zan B:=by
 have e1:∀ (l:List Nat) (h:i<l.length),zan l=zan (l.take i)+1000000000 ^ i*(l[i]+1000000000*zan (l.drop (i+1))):=by
  intro l h
  conv=>lhs;rw[←List.take_append_drop i l,zhA,List.drop_eq_getElem_cons h,zan]
  rw[List.length_take,Nat.min_eq_left (by omega)]
 rw[e1 A hi,e1 B (by omega),hd];have h1:=zdM (A.take i) (λx hx=>hA x (List.mem_of_mem_take hx));rw[List.length_take,Nat.min_eq_left (by omega)]at h1;generalize hZ:zan (B.drop (i+1))=Z;generalize A[i]=a at ak ⊢;generalize B[i]=b at ak ⊢;have h2:1000000000 ^ i*(a+1000000000*Z+1)≤1000000000 ^ i*(b+1000000000*Z):=Nat.mul_le_mul_left _ (by omega);rw[Nat.mul_succ]at h2;omega
def zcd (a b:Nat):Int:=if a<b then -1 else if b<a then 1 else 0
theorem zAC (a b:Nat) (ha:(lim a).length≤1000) (hb:(lim b).length≤1000) (H:zaa) (K:Kt) (hK:K (.int .i64 (zcd a b)) H) :
  ACalls tP zju [.sl (zal (lim a)) .none,.sl (zal (lim b)) .none] H K:=by
 refine ACalls.out (zKG λhs=>?_);have hO:∀ r,r=zcd a b→Out H.length K (.int .i64 r) H:=λr hr=>Out.int (J:=[]) (by simp) (Nat.le_refl _) hs (by rw[hr];exact hK);have lA:=zbT a;have lB:=zbT b;have vA:=zbg a;have vB:=zbg b;by_cases aB:(lim a).length=(lim b).length
 ·simp[zk3,aB];generalize hLA:lim a=A at *;generalize hLB:lim b=B at *;have eK:IntKind.i64.wrap ((B.length:Int)-1)=(B.length:Int)-1:=zaw (by omega) (by omega);rw[eK];refine zKE (Inv:=λq t5 H'=>∃ i:Nat,i≤B.length∧i=q∧t5=.int .i64 ((i:Int)-1)∧H'=H∧A.drop i=B.drop i) B.length ?_ ?_
  ·intro _;exact⟨B.length,by omega,rfl,rfl,rfl,by rw[List.drop_of_length_le (by omega),List.drop_of_length_le (by omega)]⟩
  ·rintro q t5 H' ⟨i,hi,rfl,rfl,rfl,hd⟩ aJ am aM Kb au;by_cases h0:i=0
   ·subst h0;simp[ziu];refine hO _ ?_;simp at hd;rw[←vA,←vB,hd];simp[zcd]
   ·obtain⟨j,rfl⟩:∃ j,i=j+1:=⟨i-1,by omega⟩;have dJ:j<A.length:=by omega
    have gk:j<B.length:=by omega
    have ej:((j+1:Nat):Int)-1=(j:Int):=by omega
    have aq:IntKind.i64.wrap ((j:Int)-1)=(j:Int)-1:=zaw (by omega) (by omega);rw[ej];rcases Nat.lt_trichotomy A[j] B[j] with h | h | h
    ·have:=zjp aB lA j dJ hd h;simp[ziu,dJ,gk,h];exact hO _ (by rw[←vA,←vB];simp[zcd,this])
    ·simp[ziu,dJ,gk,h,aq];refine au _ _ ⟨j,by omega,Back.here (by simp) hs (by simp[zk5,ux,AV.sc,AV.scA,AV.scB,AV.scV]) ⟨_,rfl,j,by omega,rfl,rfl,rfl,?_⟩⟩;rw[List.drop_eq_getElem_cons dJ,List.drop_eq_getElem_cons gk,hd,h]
    ·have:=zjp aB.symm lB j gk hd.symm h;simp[ziu,dJ,gk,h,Nat.le_of_lt h,Nat.not_lt.2 (Nat.le_of_lt h)];exact hO _ (by rw[←vA,←vB];simp[zcd,this,Nat.not_lt.2 (Nat.le_of_lt this)])
 ·have gb:(((lim a).length:Int) != ((lim b).length:Int))=true:=by simp;omega
  by_cases ak:(lim a).length<(lim b).length
  ·have:=zhB ak;simp[zk3,gb,ak];exact hO (-1) (by simp[zcd,this])
  ·have:=zhB (show (lim b).length<(lim a).length by omega);simp[zk3,gb,ak];exact hO 1 (by simp[zcd,this,Nat.not_lt.2 (Nat.le_of_lt this)])
theorem zKB (A B:List Nat) (lA:∀ x∈A,x<1000000000) (lB:∀ x∈B,x<1000000000) (ha:A.length≤1000) (hb:B.length≤1000) (H:zaa) (K:Kt)
  (cA:lim (zan A)=A) (cB:lim (zan B)=B) (hK:K (.sl (zal (lim (zan A+zan B))) .none) H) :
  ACalls tP zp6 [.sl (zal A) .none,.sl (zal B) .none] H K:=by
 refine ACalls.out (zKz λhs=>?_);unfold zAA zk2;refine ALoop.own 5 za5 1 rfl ?_;show zk2 (.sl (zal A) .none) (.sl (zal B) .none) (.sl [] (.own H.length)) (.int .u32 0) (.int .i64 0) (H++[.perm za5 1 0]) (Out H.length K);refine zKx (Inv:=λq t5 t6 t7 H'=>∃ (i c:Nat) (R:List Nat),2002-i=q∧i≤1001∧t7=.int .i64 i∧t6=.int .u32 c∧t5=.sl (zal R) (.own H.length)∧R.length=i∧(∀ x∈R,x<1000000000)∧c≤1 ∧
  (max A.length B.length<i→c=0∧1000000000 ^ (i-1)≤zan R)∧zan R+1000000000 ^ i*c=zan (A.take i)+zan (B.take i)∧H'=H++[.perm za5 1 R.length]) 2002 ?_ ?_
 ·intro _;exact⟨0,0,[],rfl,by omega,rfl,rfl,rfl,rfl,by simp,by omega,by omega,by simp[zan],rfl⟩
 ·rintro q t5 t6 t7 H' ⟨i,c,R,rfl,hi,rfl,rfl,rfl,ee,hR,hc,gK,hv,rfl⟩ aJ am aM Kb au;have eL:∀ (s:Nat),s≤2*999999999+1→i≤1000→s+1000000000 ^ 0*0=c+(if h:i<A.length then A[i] else 0)+(if h:i<B.length then B[i] else 0)→(max A.length B.length<i+1→s=1) →
    zk1 (.sl (zal A) .none) (.sl (zal B) .none) (.sl (zal R) (.own H.length)) (.int .i64 i) (.int .u32 s) (H++[.perm za5 1 R.length]) (Out H.length K) Kb:=by
   intro s a7 hi2 br lm;obtain⟨x,c',bC,bg,e1,e2⟩:=zxm s (by omega);simp only[zk1];simp[e1,e2,zau,zaQ,plain,AV.pd,zav,zaM,zaJ,wi i (by omega)];refine⟨⟨by omega,by omega⟩,?_⟩;rw[sN];have tk:∀ L:List Nat,zan (L.take (i+1))=zan (L.take i)+(if h:i<L.length then L[i] else 0)*1000000000 ^ i:=by
    intro L;by_cases h:i<L.length
    ·rw[dif_pos h,zdf L i h]
    ·rw[dif_neg h,List.take_of_length_le (by omega),List.take_of_length_le (by omega)];simp
   refine au _ _ ⟨2002-(i+1),by omega,Back.here (by simp) (hs.append (by simp[AB.sc])) (by simp[zk0,ux,AV.sc,AV.scA,AV.scB,AV.scV]) ⟨_,_,_,rfl,i+1,c',R++[x],rfl,by omega,rfl,rfl,rfl,by simp[ee],?_,by omega,?_,?_,by simp⟩⟩
   ·intro y hy;rcases List.mem_append.1 hy with hy | hy
    ·exact hR y hy
    ·simp at hy;omega
   ·intro h;have:=lm h;refine⟨by omega,?_⟩;obtain rfl:x=1:=by omega
    rw[zeq,ee,Nat.add_sub_cancel];omega
   ·rw[zeq,tk A,tk B,ee,Nat.pow_succ];simp only[Nat.pow_zero,Nat.mul_zero,Nat.add_zero]at br;generalize (if h:i<A.length then A[i] else 0)=u at *;generalize (if h:i<B.length then B[i] else 0)=v at *;grind
  by_cases hA:i<A.length
  ·have eZ:=lA A[i] (List.getElem_mem hA);by_cases hB:i<B.length
   ·have dx:=lB B[i] (List.getElem_mem hB);obtain⟨s1,a7⟩:∃ s,s=c+A[i]:=⟨_,rfl⟩;have w1:IntKind.u32.wrap ((c:Int)+(A[i]:Nat))=(s1:Int):=by rw[a7,←Int.natCast_add];exact zcp (by omega)
    obtain⟨s2,br⟩:∃ s,s=s1+B[i]:=⟨_,rfl⟩;have w2:IntKind.u32.wrap ((s1:Int)+(B[i]:Nat))=(s2:Int):=by rw[br,←Int.natCast_add];exact zcp (by omega)
    simp[zgR,zgS,hA,hB,w1,w2];exact eL s2 (by omega) (by omega) (by simp[hA,hB];omega) (by omega)
   ·obtain⟨s1,a7⟩:∃ s,s=c+A[i]:=⟨_,rfl⟩;have w1:IntKind.u32.wrap ((c:Int)+(A[i]:Nat))=(s1:Int):=by rw[a7,←Int.natCast_add];exact zcp (by omega)
    simp[zgR,zgS,hA,hB,w1];exact eL s1 (by omega) (by omega) (by simp[hA,hB];omega) (by omega)
  ·by_cases hB:i<B.length
   ·have dx:=lB B[i] (List.getElem_mem hB);obtain⟨s2,br⟩:∃ s,s=c+B[i]:=⟨_,rfl⟩;have w2:IntKind.u32.wrap ((c:Int)+(B[i]:Nat))=(s2:Int):=by rw[br,←Int.natCast_add];exact zcp (by omega)
    simp[zgR,zgS,hA,hB,w2];exact eL s2 (by omega) (by omega) (by simp[hA,hB];omega) (by omega)
   ·by_cases h0:c=0
    ·subst h0;simp[zgR,hA,hB];rw[List.take_of_length_le (by omega),List.take_of_length_le (by omega)]at hv;have bK:zan R=zan A+zan B:=by simpa using hv
     rw[←bK]at hK;have gm:R=lim (zan R):=by
      refine zpl hR ?_;by_cases hm:max A.length B.length<i
      ·have:=zjn (gK hm).2;omega
      ·by_cases lr:i=0
       ·omega
       ·have hmm:i=max A.length B.length:=by omega
        have cF:1000000000 ^ (i-1)≤zan R:=by
         by_cases hAB:B.length≤A.length
         ·have:i=A.length:=by omega
          have h3:=zjo (n:=zan A) (by intro h;have dc:=congrArg List.length cA;rw[h]at dc;simp at dc;omega);rw[cA,←this]at h3;omega
         ·have:i=B.length:=by omega
          have h3:=zjo (n:=zan B) (by intro h;have dc:=congrArg List.length cB;rw[h]at dc;simp at dc;omega);rw[cB,←this]at h3;omega
        have:=zjn cF;omega
     rw[←gm]at hK;exact Out.one hs (.atom (.sl _ _)) rfl rfl hK
    ·have:i≤1000:=by refine Nat.le_of_not_lt λh=>?_;exact h0 (gK (by omega)).1
     simp[zgR,zgS,hA,hB,show 0<c by omega];exact eL c (by omega) this (by simp[hA,hB]) (by omega)
def us (l:List Nat):List AV:=l.map λ(n:Nat)=>AV.int .u32 (n:Int)
@[simp] theorem ych (l:List Nat):(us l).length=l.length:=by simp[us]
theorem zkR (l:List Nat):(zal l).flatten=us l:=by induction l with
 | nil=>rfl
 | cons x l ih=>simp only[zal,us,List.map_cons,List.flatten_cons]at ih ⊢;rw[ih];rfl
theorem zir:∀ (l:List Nat),plain (us l)=some (us l)
 | []=>rfl
 | x::l=>by simp only[us,List.map_cons,plain,AV.pd];rw[show plain (List.map (λn:Nat=>AV.int .u32 (n:Int)) l)=some (us l) from zir l];rfl
theorem zJ3 (l:List Nat) (i:Nat) (h:i<l.length):(us l)[i]?=some (.int .u32 ((l[i]:Nat):Int)):=by simp[us,h]
theorem zrU (l:List Nat) (i x:Nat) (h:i<l.length):(us l).take i++[AV.int .u32 (x:Int)]++(us l).drop (i+1)=us (l.set i x):=by simp only[us,←List.map_take,←List.map_drop];rw[List.set_eq_take_append_cons_drop,if_pos h];simp
theorem zis (n:Nat):List.replicate n (AV.int .u32 0)=us (List.replicate n 0):=by simp[us]
theorem zo1 {k:AV→Prop} (l:List Nat) (i:Nat) (h:i<l.length):zbp false 1 i (us l) k=k (.int .u32 ((l[i]:Nat):Int)):=by simp[zbp,zJ3 l i h]
theorem zpu (L:List Nat) (hL:∀ x∈L,x<1000000000) (hl:L.length≤100000) {id:Nat} {H:zaa} {K:Kt} (ap:H[id]?=some (.cells (us L))) (hK:K (.sl (zal (lim (zan L))) .none) (H.set id .dead)) :
  ACalls tP zeV [.ms id 0 L.length L.length] H K:=by
 refine ACalls.frz id 0 L.length L.length 1 (us L) (zal L) ap (by simp) ?_ (by simp) (zd8 L) (Nat.le_refl _) (args':=[.sl (zal L) .none]) ⟨.one .ms,trivial⟩ ?_
 ·rw[List.drop_zero,List.take_of_length_le (by simp),zkR,zir]
 ·refine zsf L (by omega) _ _ ?_;rw[zfJ L hL];exact hK
theorem zVm (A B:List Nat) (lA:∀ x∈A,x<1000000000) (lB:∀ x∈B,x<1000000000) (ha:A.length≤1000) (hb:B.length≤1000) (H:zaa) (K:Kt)
  (hK:K (.sl (zal (lim (zan A*zan B))) .none) H) :
  ACalls tP zdg [.sl (zal A) .none,.sl (zal B) .none] H K:=by
 refine ACalls.out (zVk λhs=>?_);have hw:IntKind.i64.wrap (IntKind.i64.wrap ((A.length:Int)+B.length)+1)=((A.length+B.length+1:Nat):Int):=by rw[zaw (n:=(A.length:Int)+B.length) (by omega) (by omega),zaw (by omega) (by omega)];omega
 simp[zEa,hw,zbe];have hN:((A.length:Int)+B.length+1).toNat=A.length+B.length+1:=by omega
 rw[hN,zis];refine⟨⟨by omega,by omega,by omega⟩,?_⟩;have hsc:∀ O:List Nat,HSc (H++[.cells (us O)]):=λO=>hs.append (by simp[AB.sc,us,AV.scA,AV.scB]);have fC:=zdM B lB;refine zVh (Inv:=λq t6 H'=>∃ (i:Nat) (O:List Nat),i≤A.length∧A.length-i=q∧t6=.int .i64 i∧O.length=A.length+B.length+1∧(∀ x∈O,x<1000000000)∧zan O=zan (A.take i)*zan B∧H'=H++[.cells (us O)]) A.length ?_ ?_
 ·intro _;exact⟨0,_,by omega,rfl,rfl,by simp,by simp,by rw[zxZ];simp[zan],rfl⟩
 ·rintro q t6 H' ⟨i,O,hi,rfl,rfl,dK,hO,hv,rfl⟩ aJ am aM Kb au;by_cases ak:i<A.length
  ·have eZ:=lA A[i] (List.getElem_mem ak);simp[zu5,ak];refine zVi (Inv:=λq t7 t8 H'=>∃ (k c:Nat) (R:List Nat),k≤B.length+1∧B.length+1-k=q∧t8=.int .i64 k∧t7=.int .u64 c∧R.length=A.length+B.length+1∧(∀ x∈R,x<1000000000)∧c<1000000000∧(B.length<k→c=0) ∧
    zan R+c*1000000000 ^ (i+k)=zan O+A[i]*zan (B.take k)*1000000000 ^ i∧H'=H++[.cells (us R)]) (B.length+1) ?_ ?_
   ·intro _;exact⟨0,0,O,by omega,rfl,rfl,rfl,dK,hO,by omega,by omega,by simp[zan],rfl⟩
   ·rintro q t7 t8 H' ⟨k,c,R,hk,rfl,rfl,rfl,ee,hR,hc,gK,hr,rfl⟩ e7 ct ie Kb2 bB;have fu:IntKind.i64.wrap ((i:Int)+k)=((i+k:Nat):Int):=by rw[zaw (by omega) (by omega)];omega
    have aq:∀ s:Nat,s<1000000000*1000000000→(cw:i+k<R.length)→k≤B.length→s=c+R[i+k]+A[i]*(if h:k<B.length then B[k] else 0) →
      zn0 (.sl (zal A) .none) (.sl (zal B) .none) (.ms H.length 0 (A.length+B.length+1) (A.length+B.length+1)) (.int .i64 i) (.int .u64 s) (.int .i64 k) (H++[.cells (us R)]) (Out H.length K) Kb Kb2:=by
     intro s a7 cw hkB br;obtain⟨x,c',bC,bg,bz,e1,e2⟩:=zgi s (by omega);have aY:i+k<A.length+B.length+1:=by omega
     have aW:=zrU R (i+k) x cw;simp only[zn0];simp[fu,e1,e2,bz,wi k (by omega),aY];have eT:((i:Int)+k).toNat=i+k:=by omega
     rw[eT];refine⟨⟨by omega,by omega⟩,by omega,?_⟩;have hset':List.take (i+k) (us R)++AV.int .u32 (x:Int)::List.drop (i+k+1) (us R)=us (R.set (i+k) x):=by rw[←aW];simp
     rw[hset'];have bI:zan (B.take (k+1))=zan (B.take k)+(if h:k<B.length then B[k] else 0)*1000000000 ^ k:=by
      by_cases h:k<B.length
      ·rw[dif_pos h,zdf B k h]
      ·rw[dif_neg h,List.take_of_length_le (by omega),List.take_of_length_le (by omega)];simp
     have kv:=zjq R (i+k) x cw;have cO:zan (R.set (i+k) x)+c'*1000000000 ^ (i+(k+1))=zan O+A[i]*zan (B.take (k+1))*1000000000 ^ i:=by rw[bI,show i+(k+1)=i+k+1 by omega,Nat.pow_succ];rw[Nat.pow_add]at hr kv ⊢;rw[br]at bg;clear aW hset' e1 e2 bz br bI au bB aJ e7 aM ie fC hK hs;generalize (if h:k<B.length then B[k] else 0)=b at *;generalize zan (R.set (i+k) x)=vS at *;generalize R[i+k]=r at *;generalize A[i]=a at *;generalize zan (List.take k B)=T at *;generalize 1000000000 ^ i=P at *;generalize 1000000000 ^ k=Q at *;generalize zan R=vR at *;generalize zan O=vO at *;grind
     have bG:c'<1000000000:=by refine Nat.lt_of_not_le λh=>?_;have:=Nat.mul_le_mul_left 1000000000 h;omega
     refine bB _ _ ⟨B.length+1-(k+1),by omega,Back.here (by simp) (hsc _) (by simp[znZ,ux,AV.sc,AV.scA,AV.scB,AV.scV]) ⟨_,_,rfl,k+1,c',R.set (i+k) x,by omega,rfl,by simp,rfl,by simp[ee],?_,bG,?_,cO,rfl⟩⟩
     ·intro y hy;rcases List.mem_or_eq_of_mem_set hy with hy | rfl
      ·exact hR y hy
      ·exact bC
     ·intro dP;obtain rfl:k=B.length:=by omega
      have gh:zan O+A[i]*zan (B.take (B.length+1))*1000000000 ^ i=zan (A.take (i+1))*zan B:=by rw[List.take_of_length_le (by omega),zdf A i ak,hv];grind
      rw[gh]at cO;have eI:=zdM (A.take (i+1)) (λy hy=>lA y (List.mem_of_mem_take hy));rw[List.length_take,Nat.min_eq_left (by omega)]at eI;have hp:=Nat.mul_lt_mul'' eI fC;rw[←Nat.pow_add]at hp;refine Nat.eq_zero_of_not_pos λbU=>?_;have h3:1*1000000000 ^ (i+(B.length+1))≤c'*1000000000 ^ (i+(B.length+1)):=Nat.mul_le_mul_right _ bU;rw[show i+1+B.length=i+(B.length+1) by omega]at hp;omega
    by_cases ew:k<B.length
    ·have cw:i+k<R.length:=by omega
     have dx:=lB B[k] (List.getElem_mem ew);have dN:=hR R[i+k] (List.getElem_mem cw);have eT:((i:Int)+k).toNat=i+k:=by omega
     have w1:IntKind.u64.wrap ((R[i+k]:Nat):Int)=R[i+k]:=zbm (by omega);have w2:IntKind.u64.wrap ((A[i]:Nat):Int)=A[i]:=zbm (by omega);have w3:IntKind.u64.wrap ((B[k]:Nat):Int)=B[k]:=zbm (by omega);have fd:A[i]*B[k]≤999999999*999999999:=Nat.mul_le_mul (by omega) (by omega);obtain⟨m,hm⟩:∃ m,m=A[i]*B[k]:=⟨_,rfl⟩;have w4:IntKind.u64.wrap (((A[i]:Nat):Int)*(B[k]:Nat))=(m:Int):=by rw[hm,←Int.natCast_mul];exact zbm (by omega)
     obtain⟨s1,a7⟩:∃ s,s=c+R[i+k]:=⟨_,rfl⟩;have w5:IntKind.u64.wrap ((c:Int)+(R[i+k]:Nat))=(s1:Int):=by rw[a7,←Int.natCast_add];exact zbm (by omega)
     obtain⟨s2,br⟩:∃ s,s=s1+m:=⟨_,rfl⟩;have w6:IntKind.u64.wrap ((s1:Int)+(m:Int))=(s2:Int):=by rw[br,←Int.natCast_add];exact zbm (by omega)
     have:=aq s2 (by omega) cw (by omega) (by rw[br,a7,hm,dif_pos ew]);simp[znX,ew,fu,eT,w2,w3,w4];refine⟨⟨by omega,by omega⟩,?_⟩;rw[zo1 R _ cw];simp[w1,w2,w3,w4,w5,w6,ak,ew];exact this
    ·by_cases h0:c=0
     ·subst h0;simp[znX,ew,wi i (by omega)];refine au _ _ ⟨A.length-(i+1),by omega,Back.here (by simp) (hsc _) (by simp[znY,ux,AV.sc,AV.scA,AV.scB,AV.scV]) ⟨_,rfl,i+1,R,by omega,rfl,rfl,ee,hR,?_,rfl⟩⟩;rw[List.take_of_length_le (by omega)]at hr;rw[zdf A i ak];rw[hv]at hr;grind
     ·have gH:k=B.length:=by refine Nat.le_antisymm (Nat.le_of_not_lt λh=>h0 (gK h)) (by omega)
      have cw:i+k<R.length:=by omega
      have dN:=hR R[i+k] (List.getElem_mem cw);have eT:((i:Int)+k).toNat=i+k:=by omega
      have w1:IntKind.u64.wrap ((R[i+k]:Nat):Int)=R[i+k]:=zbm (by omega);obtain⟨s1,a7⟩:∃ s,s=c+R[i+k]:=⟨_,rfl⟩;have w5:IntKind.u64.wrap ((c:Int)+(R[i+k]:Nat))=(s1:Int):=by rw[a7,←Int.natCast_add];exact zbm (by omega)
      have:=aq s1 (by omega) cw (by omega) (by rw[a7,dif_neg ew];omega);simp[znX,ew,fu,eT,show 0<c by omega];refine⟨⟨by omega,by omega⟩,?_⟩;rw[zo1 R _ cw];simp[w1,w5];exact this
  ·obtain rfl:i=A.length:=by omega
   rw[List.take_length]at hv;simp[zu5];rw[←dK];refine zpu O hO (by omega) (by simp) ?_;rw[hv];simp;exact Out.one hs (.atom (.sl _ _)) rfl rfl hK
theorem zkS (O:List Nat) (i x:Nat) (h:i<O.length):List.take i (us O)++AV.int .u32 (x:Int)::List.drop (i+1) (us O)=us (O.set i x):=by rw[←zrU O i x h];simp
theorem zrw {O:List Nat} (hO:∀ x∈O,x<1000000000) {i x:Nat} (hx:x<1000000000):∀ y∈O.set i x,y<1000000000:=by
 intro y hy;rcases List.mem_or_eq_of_mem_set hy with hy | rfl
 ·exact hO y hy
 ·exact hx
theorem zKO (A B:List Nat) (lA:∀ x∈A,x<1000000000) (lB:∀ x∈B,x<1000000000) (ha:A.length≤1000) (hb:B.length≤A.length) (aS:zan B≤zan A) (H:zaa) (K:Kt)
  (hK:K (.sl (zal (lim (zan A-zan B))) .none) H) :
  ACalls tP zhI [.sl (zal A) .none,.sl (zal B) .none] H K:=by
 refine ACalls.out (zKM λhs=>?_);simp[zAD,zbe];rw[zis];refine⟨⟨by omega,by omega⟩,?_⟩;have hsc:∀ O:List Nat,HSc (H++[.cells (us O)]):=λO=>hs.append (by simp[AB.sc,us,AV.scA,AV.scB]);have tk:∀ i,zan (B.take (i+1))=zan (B.take i)+(if h:i<B.length then B[i] else 0)*1000000000 ^ i:=by
  intro i;by_cases h:i<B.length
  ·rw[dif_pos h,zdf B i h]
  ·rw[dif_neg h,List.take_of_length_le (by omega),List.take_of_length_le (by omega)];simp
 refine zKK (Inv:=λq t6 t7 H'=>∃ (i w:Nat) (O:List Nat),i≤A.length∧A.length-i=q∧t7=.int .i64 i∧t6=.int .u32 w∧w≤1∧O.length=A.length∧(∀ x∈O,x<1000000000) ∧
  zan (O.take i)+zan (B.take i)=zan (A.take i)+w*1000000000 ^ i∧H'=H++[.cells (us O)]) A.length ?_ ?_
 ·intro _;exact⟨0,0,_,by omega,rfl,rfl,rfl,by omega,by simp,by simp,by simp[zan],rfl⟩
 ·rintro q t6 t7 H' ⟨i,w,O,hi,rfl,rfl,rfl,hw,dK,hO,hv,rfl⟩ aJ am aM Kb au;by_cases ak:i<A.length
  ·have eZ:=lA A[i] (List.getElem_mem ak);have mn:i<O.length:=by omega
   have aq:∀ s:Nat,s≤1000000000→s=w+(if h:i<B.length then B[i] else 0) →
     ziw (.sl (zal A) .none) (.sl (zal B) .none) (.ms H.length 0 A.length A.length) (.int .i64 i) (.int .u32 s) (H++[.cells (us O)]) (Out H.length K) Kb:=by
    intro s a7 br;have hpw:1000000000 ^ (i+1)=1000000000 ^ i*1000000000:=Nat.pow_succ ..;have fin:∀ (x w':Nat),x<1000000000→w'≤1→x+s=A[i]+w'*1000000000 →
      Kb (ziv (.sl (zal A) .none) (.sl (zal B) .none) (.ms H.length 0 A.length A.length) (.int .u32 w') (.int .i64 ((i:Int)+1))) (H++[.cells (us (O.set i x))]):=by
     intro x w' hx lP he;refine au _ _ ⟨A.length-(i+1),by omega,Back.here (by simp) (hsc _) (by simp[ziv,ux,AV.sc,AV.scA,AV.scB,AV.scV]) ⟨_,_,rfl,i+1,w',O.set i x,by omega,rfl,by simp,rfl,lP,by simp[dK],zrw hO hx,?_,rfl⟩⟩;rw[zdf (O.set i x) i (by simpa using mn),tk i,zdf A i ak,List.take_set_of_le (Nat.le_refl _),List.getElem_set_self,hpw];generalize (if h:i<B.length then B[i] else 0)=b at *;grind
    by_cases cF:s≤A[i]
    ·have w1:IntKind.u32.wrap (((A[i]:Nat):Int)-(s:Int))=((A[i]-s:Nat):Int):=by rw[←Int.natCast_sub cF];exact zcp (by omega)
     obtain⟨x,hx⟩:∃ x,x=A[i]-s:=⟨_,rfl⟩;rw[←hx]at w1;have:=fin x 0 (by omega) (by omega) (by omega);simp only[ziw,zk8,zr8];simp[ak,cF,w1,wi i (by omega),zkS O i x mn,dK];exact⟨by omega,by simpa using this⟩
    ·have w1:IntKind.u32.wrap (((A[i]:Nat):Int)+1000000000)=((A[i]+1000000000:Nat):Int):=by rw[show ((A[i]:Nat):Int)+1000000000=((A[i]+1000000000:Nat):Int) by omega];exact zcp (by omega)
     obtain⟨x,hx⟩:∃ x,x=A[i]+1000000000-s:=⟨_,rfl⟩;have w2:IntKind.u32.wrap (((A[i]:Nat):Int)+1000000000-(s:Int))=(x:Int):=by rw[show ((A[i]:Nat):Int)+1000000000-(s:Int)=(x:Int) by omega];exact zcp (by omega)
     have:=fin x 1 (by omega) (by omega) (by omega);simp only[ziw,zk8,zr8];simp[ak,cF,w1,w2,wi i (by omega),zkS O i x mn,dK];exact⟨by omega,by simpa using this⟩
   by_cases hB:i<B.length
   ·have dx:=lB B[i] (List.getElem_mem hB);obtain⟨s,a7⟩:∃ s,s=w+B[i]:=⟨_,rfl⟩;have w1:IntKind.u32.wrap ((w:Int)+(B[i]:Nat))=(s:Int):=by rw[a7,←Int.natCast_add];exact zcp (by omega)
    have:=aq s (by omega) (by rw[a7,dif_pos hB]);simp[zk7,ak,hB,w1];exact this
   ·have:=aq w (by omega) (by rw[dif_neg hB];rfl);simp[zk7,ak,hB];exact this
  ·obtain rfl:i=A.length:=by omega
   rw[List.take_length,List.take_of_length_le (by omega),List.take_of_length_le (by omega)]at hv;have hOlt:=zdM O hO;rw[dK]at hOlt;have hw0:w=0:=by
    refine Nat.eq_zero_of_not_pos λh=>?_;have:w=1:=by omega
    subst this;omega
   subst hw0;simp[zk7];rw[←dK];refine zpu O hO (by omega) (by simp) ?_;rw[show zan O=zan A-zan B by omega];simp;exact Out.one hs (.atom (.sl _ _)) rfl rfl hK
theorem zNY (A:List Nat) (lA:∀ x∈A,x<1000000000) (ha:A.length≤1000) (d:Nat) (dj:0<d) (hd:d<4294967296) (hdB:d≤1000000000) (H:zaa) (K:Kt)
  (hK:K (.tup [.sl (zal (lim (zan A / d))) .none,.int .u64 ((zan A % d:Nat):Int)]) H) :
  ACalls tP zqp [.sl (zal A) .none,.int .u64 d] H K:=by
 refine ACalls.out (zNW λhs=>?_);have aR:IntKind.i64.wrap ((A.length:Int)-1)=(A.length:Int)-1:=zaw (by omega) (by omega);simp[zBz,zbe,aR];rw[zis];refine⟨⟨by omega,by omega⟩,?_⟩;have hsc:∀ O:List Nat,HSc (H++[.cells (us O)]):=λO=>hs.append (by simp[AB.sc,us,AV.scA,AV.scB]);refine zNU (Inv:=λq t7 t8 H'=>∃ (i r:Nat) (O:List Nat),i≤A.length∧i=q∧t8=.int .i64 ((i:Int)-1)∧t7=.int .u64 r∧r<d∧O.length=A.length∧(∀ x∈O,x<1000000000) ∧
  zan (A.drop i)=d*zan (O.drop i)+r∧H'=H++[.cells (us O)]) A.length ?_ ?_
 ·intro _;exact⟨A.length,0,_,by omega,rfl,rfl,rfl,by omega,by simp,by simp,by simp[zan],rfl⟩
 ·rintro q t7 t8 H' ⟨i,r,O,hi,rfl,rfl,rfl,hr,dK,hO,hv,rfl⟩ aJ am aM Kb au;by_cases h0:i=0
  ·subst h0;simp[zs1];rw[List.drop_zero,List.drop_zero]at hv;rw[←dK];refine zpu O hO (by omega) (by simp) ?_;have e1:zan A / d=zan O:=by rw[hv,Nat.mul_add_div dj,Nat.div_eq_of_lt hr];simp
   have e2:zan A % d=r:=by rw[hv,Nat.mul_add_mod,Nat.mod_eq_of_lt hr]
   rw[e1,e2]at hK;simp;exact⟨⟨rfl,rfl⟩,Out.tup (bs:=[.sl (zal (lim (zan O))) .none,.int .u64 (r:Int)]) hs hK ⟨slV,zaY rfl rfl,trivial⟩⟩
  ·obtain⟨j,rfl⟩:∃ j,i=j+1:=⟨i-1,by omega⟩;have dJ:j<A.length:=by omega
   have kx:j<O.length:=by omega
   have eZ:=lA A[j] (List.getElem_mem dJ);have ej:((j+1:Nat):Int)-1=(j:Int):=by omega
   have aq:IntKind.i64.wrap ((j:Int)-1)=(j:Int)-1:=zaw (by omega) (by omega);have hrB:r*1000000000≤1000000000*1000000000:=Nat.mul_le_mul_right _ (by omega);obtain⟨m,hm⟩:∃ m,m=r*1000000000:=⟨_,rfl⟩;have w1:IntKind.u64.wrap ((r:Int)*1000000000)=(m:Int):=by rw[show (r:Int)*1000000000=(m:Int) by omega];exact zbm (by omega)
   have w2:IntKind.u64.wrap ((A[j]:Nat):Int)=A[j]:=zbm (by omega);obtain⟨s,a7⟩:∃ s,s=m+A[j]:=⟨_,rfl⟩;have w3:IntKind.u64.wrap ((m:Int)+(A[j]:Nat))=(s:Int):=by rw[a7,←Int.natCast_add];exact zbm (by omega)
   obtain⟨x,c,bC,bg,e1,e2⟩:=zpz s d dj (by omega);have mo:c<1000000000:=by
    refine Nat.lt_of_not_le λh=>?_;have h1:d*1000000000≤d*c:=Nat.mul_le_mul_left _ h;have h2:r*1000000000+1000000000≤d*1000000000:=by rw[←Nat.succ_mul];exact Nat.mul_le_mul_right _ hr
    omega
   have w4:IntKind.u32.wrap (c:Int)=c:=zcp (by omega);rw[ej];simp only[zs1];simp[dJ,w1,w2,w3,e1,e2,w4,aq,zkS O j c kx,dK];refine⟨by omega,au _ _ ⟨j,by omega,Back.here (by simp) (hsc _) (by simp[zl6,ux,AV.sc,AV.scA,AV.scB,AV.scV]) ⟨_,_,rfl,j,x,O.set j c,by omega,rfl,rfl,rfl,bC,by simp[dK],zrw hO mo,?_,rfl⟩⟩⟩;rw[zhC A j dJ,zhC (O.set j c) j (by simpa using kx),List.getElem_set_self,List.drop_set_of_lt (by omega),hv];rw[a7,hm]at bg;generalize zan (O.drop (j+1))=Z at *;grind
theorem zsd (a b:Nat) (ha:(lim a).length≤1000) (bE:0<b) (hb:b<1000000000) (H:zaa) (K:Kt)
  (hK:K (.tup [.sl (zal (lim (a / b))) .none,.sl (zal (lim (a % b))) .none]) H) :
  ACalls tP zhJ [.sl (zal (lim a)) .none,.sl (zal (lim b)) .none] H K:=by
 refine ACalls.out (zK6 λhs=>?_);have cv:lim b=[b]:=zeT (by omega) hb;simp only[zAJ];refine zAC a b ha (by rw[cv];simp) _ _ ?_;have fV:(zcd a b<0)↔a<b:=by
  unfold zcd;split
  ·simp;assumption
  ·split <;> simp <;> omega
 by_cases ak:a<b
 ·simp[fV,ak];refine zsf (lim a) (by omega) _ _ ?_;rw[zfJ _ (zbT a),zbg];rw[Nat.div_eq_of_lt ak,Nat.mod_eq_of_lt ak,zxV]at hK;refine⟨⟨rfl,rfl⟩,?_⟩;exact Out.tup0 (bs:=[.sl (zal []) .none,.sl (zal (lim a)) .none]) hs hK ⟨zdE,slV,trivial⟩
 ·have w1:IntKind.u64.wrap (b:Int)=b:=zbm (by omega);have hm:a % b<b:=Nat.mod_lt _ bE;simp[fV,ak,cv,w1];refine zNY (lim a) (zbT a) ha b bE (by omega) (by omega) _ _ ?_;rw[zbg];simp;refine zEo (a % b) (by omega) _ _ ?_;refine⟨⟨rfl,rfl⟩,?_⟩;exact Out.tup0 (bs:=[.sl (zal (lim (a / b))) .none,.sl (zal (lim (a % b))) .none]) hs hK ⟨slV,slV,trivial⟩
theorem zK1 (a b:Nat) (ha:(lim a).length≤1000) (hb:b<1000000000) (H:zaa) (K:Kt) (hK:K (.sl (zal (lim (Nat.gcd a b))) .none) H) :
  ACalls tP zp7 [.sl (zal (lim a)) .none,.sl (zal (lim b)) .none] H K:=by
 refine ACalls.out (zKZ λhs=>?_);unfold zAH;refine zKX (Inv:=λq t0 t1 H'=>∃ x y:Nat,y=q∧t0=.sl (zal (lim x)) .none∧t1=.sl (zal (lim y)) .none∧(lim x).length≤1000∧y<1000000000∧Nat.gcd x y=Nat.gcd a b∧H'=H) b ?_ ?_
 ·intro _;exact⟨a,b,rfl,rfl,rfl,ha,hb,rfl,rfl⟩
 ·rintro q t0 t1 H' ⟨x,y,rfl,rfl,rfl,hx,hy,hg,rfl⟩ aJ am aM Kb au;by_cases h0:y=0
  ·subst h0;rw[Nat.gcd_zero_right]at hg;subst hg;simp[zsa];exact Out.one0 hs (.atom (.sl _ _)) rfl rfl hK
  ·have hly:lim y=[y]:=zeT h0 hy;have hm:x % y<y:=Nat.mod_lt _ (by omega);simp[zsa,show 0<(lim y).length by rw[hly];simp];refine zsd x y hx (by omega) hy _ _ ?_;simp;refine au _ _ ⟨x % y,hm,Back.here (by simp) hs (by simp[zlf,ux,AV.sc,AV.scA,AV.scB,AV.scV]) ⟨_,_,rfl,y,x % y,rfl,rfl,rfl,by rw[hly];simp,by omega,?_,rfl⟩⟩;rw[←hg,Nat.gcd_comm x y,Nat.gcd_rec y x,Nat.gcd_comm]
def zai (z:Int):List AV:=[.bool (decide (z<0)),.sl (zal (lim z.natAbs)) .none,.sl (zal [1]) .none]
theorem zVe (neg:Bool) (N D:List Nat) (hN:∀ x∈N,x<4294967296) (hD:∀ x∈D,x<4294967296) (mq:N.length≤10000) (hDl:D.length≤10000) (n:Nat) (cc:(lim n).length≤900) (d:Nat) (dj:0<d) (hd:d<1000000000)
  (hn:zan N=n*d) (hdv:zan D=d) (H:zaa) (K:Kt) (hK:K (.agg (zai (if neg then -(n:Int) else n))) H) :
  ACalls tP zdy [.bool neg,.sl (zal N) .none,.sl (zal D) .none] H K:=by
 refine ACalls.out (zVd λhs=>?_);have dL:lim d=[d]:=zeT (by omega) hd;simp[zD9];refine zAG N hN (by omega) _ _ ?_;refine zAG D hD (by omega) _ _ ?_;rw[hn,hdv];have ky:(lim (n*d)).length≤1000:=by
  have h1:=zdM (lim n) (zbT n);rw[zbg]at h1;have h2:n*d<1000000000 ^ ((lim n).length+1):=by rw[Nat.pow_succ];exact Nat.mul_lt_mul'' h1 hd
  have:=zbJ h2;omega
 by_cases h0:n=0
 ·subst h0;have e0:(if neg=true then -((0:Nat):Int) else ((0:Nat):Int))=0:=by cases neg <;> rfl
  rw[e0]at hK;simp[zau,zaQ,plain,AV.pd,zaq,zaI,zcs];have e1:zai 0=[.bool false,.sl [] .none,.sl [[.int .u32 1]] .none]:=by simp[zai,zal]
  rw[e1]at hK;exact Out.one hs (WkV.agg (ds:=[.bool false,.sl [] .none,.sl [[.int .u32 1]] .none]) ⟨.refl _,.snil,.sl _ _,trivial⟩) rfl (by simp[AV.scV,AV.scA,AV.scB]) hK
 ·have bU:0<(lim (n*d)).length:=by rw[zce (Nat.mul_ne_zero h0 (by omega))];simp
  have hg:Nat.gcd (n*d) d=d:=Nat.gcd_eq_right (Nat.dvd_mul_left d n);have bE:(((lim (n*d)).length:Int) == 0)=false:=by generalize (lim (n*d)).length=q at bU;simp;omega
  have cx:znW (.bool neg) (.sl (zal (lim n)) .none) (.sl (zal [1]) .none) (.ptr H.length 0) (H++[.cells [.bool false,.snil,.snil]]) (Out H.length K):=by
   simp[znW,zaq,zaI,zcs];have e1:zai (if neg=true then -(n:Int) else n)=[.bool neg,.sl (zal (lim n)) .none,.sl (zal [1]) .none]:=by
    cases neg
    ·simp[zai]
    ·simp[zai];omega
   rw[e1]at hK;exact Out.one hs (WkV.agg (ds:=[.bool neg,.sl (zal (lim n)) .none,.sl (zal [1]) .none]) ⟨.refl _,.sl _ _,.sl _ _,trivial⟩) rfl (by simp[AV.scV,AV.scA,AV.scB]) hK
  simp[bE,dL];rw[show ([d]:List Nat)=lim d from dL.symm];refine zK1 (n*d) d ky hd _ _ ?_;rw[hg,dL];by_cases gU:d=1
  ·subst gU;simp;simpa using cx
  ·have aB:((d:Int) != 1)=true:=by simp;omega
   simp[aB];rw[show ([d]:List Nat)=lim d from dL.symm];refine zsd (n*d) d ky dj hd _ _ ?_;simp;refine zsd d d (by rw[dL];simp) dj hd _ _ ?_;rw[Nat.div_self dj,Nat.mul_div_cancel _ dj,show lim 1=[1] from zeT (by omega) (by omega)];simp;exact cx
def Sm (z:Int):Prop:=z.natAbs<1000000000 ^ 30
theorem Sm.len {z:Int} (h:Sm z):(lim z.natAbs).length≤30:=zbJ h
theorem zc0:lim 1=[1]:=zeT (by omega) (by omega)
theorem zhz (n:Nat):∀ x∈lim n,x<4294967296:=λx hx=>by have:=zbT n x hx;omega
@[simp] theorem zIf (z:Int):(zai z).length=3:=rfl
@[simp] theorem zeY (z:Int):(zai z).all AV.known=true:=rfl
theorem zgB (z:Int) (n:Nat):(zai z).all (AV.scA n)=true:=rfl
theorem zcv {H J:zaa} {K:Kt} {z:Int} (hs:HSc H) (hK:K (.agg (zai z)) H):Out H.length K (.agg (zai z)) (H++J):=Out.one hs .rfl' rfl rfl hK
theorem zwZ (neg:Bool) (n d:Nat) (hn:n*d<1000000000 ^ 100) (dj:0<d) (hd:d<1000000000) {z:Int} (hz:(if neg=true then -(n:Int) else n)=z) (H:zaa) (K:Kt) (hK:K (.agg (zai z)) H) :
  ACalls tP zdy [.bool neg,.sl (zal (lim (n*d))) .none,.sl (zal (lim d)) .none] H K:=by
 subst hz;have h1:=zbJ hn;have h2:n<1000000000 ^ 100:=Nat.lt_of_le_of_lt (Nat.le_mul_of_pos_right n dj) hn;have h3:=zbJ h2;exact zVe neg _ _ (zhz _) (zhz _) (by omega) (by rw[zeT (by omega) hd];simp) n (by omega) d dj hd (zbg _) (zbg _) H K hK
theorem zgf (neg:Bool) (n:Nat) (hn:n<1000000000 ^ 100) {z:Int} (hz:(if neg=true then -(n:Int) else n)=z) (H:zaa) (K:Kt) (hK:K (.agg (zai z)) H) :
  ACalls tP zdy [.bool neg,.sl (zal (lim n)) .none,.sl (zal [1]) .none] H K:=by
 have:=zwZ neg n 1 (by simpa using hn) (by omega) (by omega) hz H K hK;rwa [zc0,Nat.mul_one]at this
theorem zwS:(1000000000:Nat) ^ 30≤1000000000 ^ 100:=Nat.pow_le_pow_right (by omega) (by omega)
theorem zye {a b:Nat} (ha:a<1000000000 ^ 30) (hb:b<1000000000 ^ 30):a*b<1000000000 ^ 100:=by have:=Nat.mul_lt_mul'' ha hb;rw[←Nat.pow_add]at this;exact Nat.lt_of_lt_of_le this (Nat.pow_le_pow_right (by omega) (by omega))
theorem zfa (n:Nat) (hn:n<9223372036854775808) (H:zaa) (K:Kt) (hK:K (.agg (zai n)) H):ACalls tP zdO [.int .i64 n] H K:=by
 refine ACalls.out (zTn λhs=>?_);have w1:IntKind.u64.wrap (n:Int)=n:=zbm (by omega);have h0:¬ ((n:Int)<0):=by omega
 simp[zDx,h0,w1];refine zEo n (by omega) _ _ ?_;simp[zau,zaQ,plain,AV.pd];refine ACalls.wk (args':=[.bool false,.sl (zal (lim n)) .none,.sl (zal [1]) .none]) (zgf false n (by omega) (z:=n) (by simp) _ _ ?_) ⟨.rfl',.rfl',.atom (.sl _ _),trivial⟩;simp[zeY];exact zcv hs hK
theorem zfb (z:Int) (hz:Sm z) (H:zaa) (K:Kt) (hK:K (.agg (zai z)) H):ACalls tP zdP [.agg (zai z)] H K:=by refine ACalls.out (zVa λhs=>?_);simp[zD8,zai];refine zgf _ _ (Nat.lt_of_lt_of_le hz zwS) (z:=z) (by split <;> simp_all <;> omega) _ _ ?_;simp;exact zcv hs hK
theorem zDj (z:Int) (hz:Sm z) (H:zaa) (K:Kt) (hK:K (.int .i64 z.sign) H):ACalls tP zhS [.agg (zai z)] H K:=by
 refine ACalls.out (zSz λhs=>?_);simp[zC7,zai];refine zfb z hz _ _ ?_;simp[zai];by_cases h0:z=0
 ·subst h0;simp;exact Out.int (J:=_) rfl (Nat.le_refl _) hs hK
 ·have hp:0<(lim z.natAbs).length:=by rw[zce (by omega)];simp
  have hb:(((lim z.natAbs).length:Int) == 0)=false:=by generalize (lim z.natAbs).length=q at hp;simp;omega
  simp[hb];by_cases hn:z<0
  ·simp[hn];rw[Int.sign_eq_neg_one_of_neg hn]at hK;exact Out.int (J:=_) rfl (Nat.le_refl _) hs hK
  ·simp[hn];rw[Int.sign_eq_one_of_pos (by omega)]at hK;exact Out.int (J:=_) rfl (Nat.le_refl _) hs hK
theorem zjr (a b:Nat) (ha:a<1000000000 ^ 30) (hb:b<1000000000 ^ 30) (H:zaa) (K:Kt) (hK:K (.sl (zal (lim (a*b))) .none) H):ACalls tP zdg [.sl (zal (lim a)) .none,.sl (zal (lim b)) .none] H K:=by have h1:=zbJ ha;have h2:=zbJ hb;refine zVm (lim a) (lim b) (zbT a) (zbT b) (by omega) (by omega) _ _ ?_;rw[zbg,zbg];exact hK
theorem zeX:(1:Nat)<1000000000 ^ 30:=by decide
theorem zx8 (H:zaa) (K:Kt) (hK:K (.sl (zal [1]) .none) H):ACalls tP zdg [.sl (zal [1]) .none,.sl (zal [1]) .none] H K:=by have:=zjr 1 1 zeX zeX H K (by rw[Nat.mul_one,zc0];exact hK);rwa [zc0]at this
theorem zp2 (a:Nat) (ha:a<1000000000 ^ 30) (H:zaa) (K:Kt) (hK:K (.sl (zal (lim a)) .none) H):ACalls tP zdg [.sl (zal (lim a)) .none,.sl (zal [1]) .none] H K:=by have:=zjr a 1 ha zeX H K (by rw[Nat.mul_one];exact hK);rwa [zc0]at this
theorem zHq (a:Nat) (ha:a<1000000000 ^ 30) (H:zaa) (K:Kt) (hK:K (.sl (zal (lim a)) .none) H):ACalls tP zdg [.sl (zal [1]) .none,.sl (zal (lim a)) .none] H K:=by have:=zjr 1 a zeX ha H K (by rw[Nat.one_mul];exact hK);rwa [zc0]at this
theorem zzp (a b:Int):(if (decide (a<0) != decide (b<0))=true then -((a.natAbs*b.natAbs:Nat):Int) else ((a.natAbs*b.natAbs:Nat):Int))=a*b:=by
 rw[←Int.natAbs_mul];by_cases ha:a<0 <;> by_cases hb:b<0 <;> simp[ha,hb]
 ·have:=Int.mul_pos_of_neg_of_neg ha hb;omega
 ·have:=Int.mul_nonpos_of_nonpos_of_nonneg (Int.le_of_lt ha) (by omega:0≤b);omega
 ·have:=Int.mul_nonpos_of_nonneg_of_nonpos (by omega:0≤a) (Int.le_of_lt hb);omega
 ·have:=Int.mul_nonneg (by omega:0≤a) (by omega:0≤b);omega
theorem ziI (a b:Int) (ha:Sm a) (hb:Sm b) (H:zaa) (K:Kt) (hK:K (.agg (zai (a*b))) H):ACalls tP zfy [.agg (zai a),.agg (zai b)] H K:=by refine ACalls.out (zRI λhs=>?_);simp[zCZ,zai,Nat.add_assoc];refine zaB (.agg (zai a)) (λJ=>zfb a ha _ _ ⟨rfl,rfl⟩) ?_;refine zaB (.agg (zai b)) (λJ=>zfb b hb _ _ ⟨rfl,rfl⟩) ?_;simp[zai,AV.known,Nat.add_assoc];refine zaB (.sl (zal (lim (a.natAbs*b.natAbs))) .none) (λJ=>zjr _ _ ha hb _ _ ⟨rfl,rfl⟩) ?_;refine zaB (.sl (zal [1]) .none) (λJ=>zx8 _ _ ⟨rfl,rfl⟩) ?_;refine zaB (.agg (zai (a*b))) (λJ=>zgf _ _ (zye ha hb) (zzp a b) _ _ ⟨rfl,rfl⟩) ?_;simp[Nat.add_assoc];exact zcv hs hK
theorem zU1 (a b:Int) (ha:Sm a) (hb:Sm b) (H:zaa) (K:Kt) (hK:K (.agg (zai (a+b))) H):ACalls tP zqV [.agg (zai a),.agg (zai b)] H K:=by
 refine ACalls.out (zU0 λhs=>?_);have la:=ha.len;have lb:=hb.len;simp[zD4,zai,Nat.add_assoc];refine zaB (.agg (zai a)) (λJ=>zfb a ha _ _ ⟨rfl,rfl⟩) ?_;refine zaB (.agg (zai b)) (λJ=>zfb b hb _ _ ⟨rfl,rfl⟩) ?_;simp[zai,AV.known,Nat.add_assoc];refine zaB (.sl (zal (lim a.natAbs)) .none) (λJ=>zp2 _ ha _ _ ⟨rfl,rfl⟩) ?_;refine zaB (.sl (zal (lim b.natAbs)) .none) (λJ=>zp2 _ hb _ _ ⟨rfl,rfl⟩) ?_;refine zx8 _ _ ?_;simp[Nat.add_assoc];have ce:∀ n:Nat,n≤a.natAbs+b.natAbs→n<1000000000 ^ 100:=by
  intro n hn;have h1:(1000000000:Nat) ^ 30+1000000000 ^ 30≤1000000000 ^ 100:=by decide
  unfold Sm at ha hb;omega
 have db:∀ x y:Int,Sm x→Sm y→y.natAbs≤x.natAbs→∀ (H:zaa) (K:Kt),K (.sl (zal (lim (x.natAbs-y.natAbs))) .none) H→ACalls tP zhI [.sl (zal (lim x.natAbs)) .none,.sl (zal (lim y.natAbs)) .none] H K:=by intro x y hx hy hxy H K hK;refine zKO (lim x.natAbs) (lim y.natAbs) (zbT _) (zbT _) (by have:=hx.len;omega) ?_ (by rw[zbg,zbg];exact hxy) _ _ (by rw[zbg,zbg];exact hK);refine Nat.le_of_not_lt λh=>?_;have:=zhB h;omega
 by_cases ig:decide (a<0)=decide (b<0)
 ·have jl:(decide (a<0) == decide (b<0))=true:=by simpa using ig
  simp[jl,Nat.add_assoc];refine zaB (.sl (zal (lim (a.natAbs+b.natAbs))) .none) (λJ=>zKB _ _ (zbT _) (zbT _) (by omega) (by omega) _ _ (by rw[zbg]) (by rw[zbg]) (by rw[zbg,zbg];exact⟨rfl,rfl⟩)) ?_;refine zaB (.agg (zai (a+b))) (λJ=>zgf _ _ (ce _ (Nat.le_refl _)) (by
   by_cases h1:a<0 <;> by_cases h2:b<0 <;> simp[h1,h2]at ig ⊢ <;> omega) _ _ ⟨rfl,rfl⟩) ?_
  simp[Nat.add_assoc];exact zcv hs hK
 ·have jl:(decide (a<0) == decide (b<0))=false:=by simpa using ig
  simp[jl,Nat.add_assoc];refine zAC _ _ (by omega) (by omega) _ _ ?_;have fV:(0≤zcd a.natAbs b.natAbs)↔b.natAbs≤a.natAbs:=by
   unfold zcd;split
   ·simp;omega
   ·split <;> simp <;> omega
  by_cases aS:b.natAbs≤a.natAbs
  ·simp[fV,aS,Nat.add_assoc];refine zaB (.sl (zal (lim (a.natAbs-b.natAbs))) .none) (λJ=>db a b ha hb aS _ _ ⟨rfl,rfl⟩) ?_;refine zaB (.agg (zai (a+b))) (λJ=>zgf _ _ (ce _ (by omega)) (by
    by_cases h1:a<0 <;> by_cases h2:b<0 <;> simp[h1,h2]at ig ⊢ <;> omega) _ _ ⟨rfl,rfl⟩) ?_
   simp[Nat.add_assoc];exact zcv hs hK
  ·simp[fV,aS,Nat.add_assoc];refine zaB (.sl (zal (lim (b.natAbs-a.natAbs))) .none) (λJ=>db b a hb ha (by omega) _ _ ⟨rfl,rfl⟩) ?_;refine zaB (.agg (zai (a+b))) (λJ=>zgf _ _ (ce _ (by omega)) (by
    by_cases h1:a<0 <;> by_cases h2:b<0 <;> simp[h1,h2]at ig ⊢ <;> omega) _ _ ⟨rfl,rfl⟩) ?_
   simp[Nat.add_assoc];exact zcv hs hK
theorem Sm.neg {z:Int} (h:Sm z):Sm (-z):=by unfold Sm at h ⊢;rwa [Int.natAbs_neg]
theorem zNl (q d:Nat) (hq:q*d<1000000000 ^ 30) (dj:0<d) (hd:d<1000000000) (H:zaa) (K:Kt) (hK:K (.tup [.agg (zai q),.bool true]) H) :
  ACalls tP zqm [.agg (zai ((q*d:Nat):Int)),.agg (zai d)] H K:=by
 refine ACalls.out (zNk λhs=>?_);have hdS:(d:Nat)<1000000000 ^ 30:=Nat.lt_of_lt_of_le hd (by decide);have ha:Sm ((q*d:Nat):Int):=by unfold Sm;rw[Int.natAbs_natCast];exact hq
 have hb:Sm (d:Int):=by unfold Sm;rw[Int.natAbs_natCast];exact hdS
 have ea:(zai ((q*d:Nat):Int))=[.bool false,.sl (zal (lim (q*d))) .none,.sl (zal [1]) .none]:=by unfold zai;rw[Int.natAbs_natCast,decide_eq_false (by omega)]
 have eb:(zai (d:Int))=[.bool false,.sl (zal (lim d)) .none,.sl (zal [1]) .none]:=by unfold zai;rw[Int.natAbs_natCast,decide_eq_false (by omega)]
 have dL:lim d=[d]:=zeT (by omega) hd;rw[ea,eb];simp[zBv,Nat.add_assoc];refine zaB (.agg (zai ((q*d:Nat):Int))) (λJ=>by rw[←ea];exact zfb _ ha _ _ ⟨rfl,rfl⟩) ?_;refine zaB (.agg (zai (d:Int))) (λJ=>by rw[←eb];exact zfb _ hb _ _ ⟨rfl,rfl⟩) ?_;rw[ea,eb];simp[AV.known,Nat.add_assoc,show (lim d).length=1 by rw[dL];rfl];refine zaB (.sl (zal (lim (q*d))) .none) (λJ=>zp2 _ hq _ _ ⟨rfl,rfl⟩) ?_;refine zaB (.sl (zal (lim d)) .none) (λJ=>zHq _ hdS _ _ ⟨rfl,rfl⟩) ?_;refine zaB (.agg (zai q)) (λJ=>zwZ false q d (Nat.lt_of_lt_of_le hq zwS) dj hd (by simp) _ _ ⟨rfl,rfl⟩) ?_;simp[Nat.add_assoc];exact⟨⟨rfl,rfl⟩,Out.tup (bs:=[.agg (zai q),.bool true]) hs hK ⟨zaY rfl rfl,zaY rfl rfl,trivial⟩⟩
theorem zD7 (L:List Nat) (hL:L.length≤1000) (H:zaa) (K:Kt) (hK:K (.bool true) H):ACalls tP zj4 [.sl (zal L) .none,.sl (zal L) .none] H K:=by
 refine ACalls.out (zU6 λhs=>?_);simp[zD5];refine zU4 (Inv:=λq t13 H'=>∃ i:Nat,i≤L.length∧L.length-i=q∧t13=.int .i64 i∧H'=H) L.length ?_ ?_
 ·intro _;exact⟨0,by omega,rfl,rfl,rfl⟩
 ·rintro q t13 H' ⟨i,hi,rfl,rfl,rfl⟩ aJ am aM Kb au;by_cases ak:i<L.length
  ·simp[zu3,ak,wi i (by omega)];exact au _ _ ⟨L.length-(i+1),by omega,Back.here (by simp) hs (by simp[znV,ux,AV.sc,AV.scA,AV.scB,AV.scV]) ⟨_,rfl,i+1,by omega,rfl,rfl,rfl⟩⟩
  ·simp[zu3,ak];exact Out.bool (J:=[]) (by simp) (Nat.le_refl _) hs hK
theorem zCY (z:Int) (hz:Sm z) (H:zaa) (K:Kt) (hK:K (.bool true) H):ACalls tP zjM [.agg (zai z),.agg (zai z)] H K:=by refine ACalls.out (zRp λhs=>?_);have:=hz.len;simp[zCG,zai,Nat.add_assoc];refine zD7 _ (by omega) _ _ ?_;simp[Nat.add_assoc];refine zD7 _ (by simp) _ _ ?_;exact Out.bool rfl (Nat.le_refl _) hs hK
theorem zcb {n:Nat} (h:n<1000000000 ^ 30):Sm (n:Int):=by unfold Sm;rw[Int.natAbs_natCast];exact h
@[simp] theorem ybR (z:Int):List.take 3 (zai z)=zai z:=rfl
@[simp] theorem ybQ (z:Int):List.drop 3 (zai z)=[]:=rfl
@[simp] theorem zc3 (z:Int):(∀ x∈zai z,x.known=true)=True:=by simp[zai,AV.known]
structure AtOk (aa:List Dat) (i:IT) (t v:VT):Prop where
 tn:t.nodes≤1000
 tv:zaV aa 0 t=true
 rd:0≤rdV aa i t
 hv:zaU aa v t=true
 vn:v.nodes≤1000
 inn:i.nodes≤900
theorem AtOk.le {aa:List Dat} {i:IT} {t v:VT} (h8:∀ D∈aa,D.cons.length≤8) (h:AtOk aa i t v):atV aa i t v≤1000 ^ 6:=by have h1:=zwN (N:=1000) (by omega) i t v h.vn h.rd;have h2:=zie (h8:=h8) i t;exact Nat.le_trans h1 (Nat.pow_le_pow_right (by omega) (by omega))
def zrC:List AV:=[.bool false,.snil,.snil]
def rz (l:List Nat):List AV:=(l.map λ(z:Nat)=>zai (z:Int)).flatten
def zz (m:Nat):List AV:=(List.replicate m zrC).flatten
@[simp] theorem ybV (l:List Nat):(rz l).length=l.length*3:=by
 induction l with
 | nil=>rfl
 | cons x l ih=>simp only[rz,List.map_cons,List.flatten_cons,List.length_append,zIf,List.length_cons]at ih ⊢;omega
@[simp] theorem ycm (m:Nat):(zz m).length=m*3:=by
 induction m with
 | zero=>rfl
 | succ m ih=>simp only[zz,List.replicate_succ,List.flatten_cons,List.length_append]at ih ⊢;rw[ih];simp[zrC];omega
theorem zrd {aa:List Dat} {k n:Int} {ks:List VT} {c:Int} {l:List VT} (hk:zbv aa) (hf:zbj aa (.mk k n ks) c=some l) :
  ∃ bs,(zdT aa n.toNat).getD c.toNat []=bs∧l.length=bs.length∧l.length≤8∧za9 aa (.mk k n ks) c=some (pick l bs)∧(∀ x∈l,x.nodes≤200)∧k=5 ∧
   (∀ H K,K (.sl (zbS bs) .none) H→ACalls tP zfx [.sl (aa.map Dat.cs) .none,.int .i64 n,.int .i64 c] H K) ∧
   (∀ H K,K (.sl (zbS bs) .none) H→ACalls tP zgt [.sl (aa.map Dat.cs) .none,.int .i64 n,.int .i64 c] H K) ∧
   (∀ j,bs.getD j false=true→l.getD j tz=.mk 5 n ks)∧0≤c∧∃ (hn:n.toNat<aa.length) (hc:c.toNat<(aa[n.toNat]).cons.length),l.length=((aa[n.toNat]).cons[c.toNat]).args.length:=by
 obtain⟨k5,n0,c0,hn,hc,hv,rfl,cj⟩:=zho hf;obtain⟨f1,f2,f3⟩:=zfs hk;have hd:=List.getElem_mem hn;have bO:=List.getElem_mem hc;obtain⟨g1,g2⟩:=f2 _ hd _ bO;have g3:=f3 _ hd;have h8:=((hk.2 _ hd).2.2 _ bO).2.1;refine⟨zcy n.toNat aa[n.toNat] (aa[n.toNat]).cons[c.toNat],by simp[zdT,hn,hc,List.getD_eq_getElem?_getD],by simp[zcy],by simpa using h8,?_,cj,k5,λH K hK=>?_,λH K hK=>?_,λj hj=>?_,c0,hn,hc,by simp⟩
 ·simp[za9,hf,zdT,hn,hc,List.getD_eq_getElem?_getD,VT.num]
 ·have:=ztB aa n.toNat c.toNat hn hc f1 g3 (by omega) (λx hx=>by have:=g2 x hx;omega) H K (by simpa[zbS,zcy,Function.comp_def]using hK);rwa [Int.toNat_of_nonneg n0,Int.toNat_of_nonneg c0]at this
 ·have:=zCM aa n.toNat c.toNat hn hc f1 g3 (by omega) (λx hx=>by have:=g2 x hx;omega) H K hK;rwa [Int.toNat_of_nonneg n0,Int.toNat_of_nonneg c0]at this
 ·have aQ:j<((aa[n.toNat]).cons[c.toNat]).args.length:=by refine Nat.lt_of_not_le λaS=>?_;rw[List.getD_eq_getElem?_getD,List.getElem?_eq_none (by simpa[zcy]using aS)]at hj;simp at hj
  simp only[List.getD_eq_getElem?_getD,zcy,List.getElem?_map,List.getElem?_eq_getElem aQ,Option.map_some,Option.getD_some]at hj ⊢;rw[zIF hj hv,Int.toNat_of_nonneg n0]
theorem zAb {aa:List Dat} {t:VT} (ht:zaV aa 0 t=true):za4 aa 0 t=true:=by rw[zaV,Bool.and_eq_true]at ht;exact ht.2
theorem zry:∀ l:List IT,l=(l.map λx=>[x]).flatten
 | []=>rfl
 | x::l=>by rw[List.map_cons,List.flatten_cons,←zry l];rfl
theorem zIg {aa:List Dat} (h8:∀ D∈aa,D.cons.length≤8) {t:VT} {ks:List IT} (h:0≤rdE aa ks t 0) {j:Nat} (hj:j<ks.length) {c:Int} {eks:List IT} (he:ks[j]=.mk c eks) :
  ∃ ps,za9 aa t c=some ps∧ps.length=eks.length∧0≤rdA aa eks ps 0∧rdA aa eks ps 0≤6:=by
 rw[zry ks]at h;have h1:=(zkv h8 t (ks.map λx=>[x]) 0 (by omega) (by omega) h).1 [ks[j]] (List.mem_map.2 ⟨ks[j],List.getElem_mem hj,rfl⟩);rw[he,zew]at h1;split at h1
 ·omega
 ·split at h1
  ·omega
  ·rename_i ps hp;split at h1
   ·rename_i hl;split at h1
    ·omega
    ·rename_i hc;exact⟨ps,hp,hl,by omega,by omega⟩
   ·omega
theorem zdQ {l:List IT} {i:Nat} (h:i<l.length):l[i].nodes≤IT.nodesL l:=by have:=IT.kid_lt (n:=0) h;simp only[IT.nodes]at this;omega
theorem zkE (f:IT→Nat) (h:IT→IT) (c:Nat):∀ l:List (IT × Nat),zaG f (l.map λw=>(h w.1,c*w.2))=c*zaG f (l.map λw=>(h w.1,w.2))
 | []=>by simp
 | w::l=>by rw[List.map_cons,List.map_cons,zc6,zc6,zkE f h c l,Nat.mul_add,Nat.mul_assoc]
theorem zo7 {s:List (IT × Nat)} {i:IT} {c:Nat}:∀ p∈zba s i c,(∃ q∈s,q.1=p.1∧q.2≤p.2)∨(0<c∧p.1=i∧c≤p.2):=by
 intro p hp;unfold zba at hp;split at hp
 ·exact .inl ⟨p,hp,rfl,Nat.le_refl _⟩
 ·rename_i hc;rcases zFT p hp with (h | h) | ⟨q,hq,h⟩
  ·exact .inl ⟨p,h,rfl,Nat.le_refl _⟩
  ·exact .inr ⟨by omega,by rw[h],by rw[h];exact Nat.le_refl _⟩
  ·exact .inl ⟨q,hq,by rw[h],by rw[h];simp⟩
theorem zfj:∀ (l s:List (IT × Nat)),(∀ q∈s,0<q.2)→∀ p∈zaD s l,0<p.2∧((∃ q∈s,q.1=p.1)∨∃ q∈l,0<q.2∧q.1=p.1)
 | [],s,hs,p,hp=>⟨hs p hp,.inl ⟨p,hp,rfl⟩⟩
 | x::l,s,hs,p,hp=>by
  have hp:p∈zaD (zba s x.1 x.2) l:=hp;have h1:∀ q∈zba s x.1 x.2,0<q.2:=λq hq=>by
   rcases zo7 q hq with ⟨r,hr,_,h⟩ | ⟨h,_,h2⟩
   ·have:=hs r hr;omega
   ·omega
  obtain⟨h2,h3⟩:=zfj l _ h1 p hp;refine⟨h2,?_⟩;rcases h3 with ⟨q,hq,he⟩ | ⟨q,hq,h4,he⟩
  ·rcases zo7 q hq with ⟨r,hr,h5,_⟩ | ⟨h5,h6,_⟩
   ·exact .inl ⟨r,hr,by rw[h5,he]⟩
   ·exact .inr ⟨x,by simp,h5,by rw[←he,h6]⟩
  ·exact .inr ⟨q,by simp[hq],h4,he⟩
theorem zd3 {s:List (IT × Nat)} {p:IT × Nat} (h:p∈s):p.2≤zaG (λ_=>1) s:=by
 induction s with
 | nil=>simp at h
 | cons q s ih=>
  rw[zc6];rcases List.mem_cons.1 h with rfl | h
  ·omega
  ·have:=ih h;omega
theorem zep {s:List (IT × Nat)} (h:∀ p∈s,0<p.2):s.length≤zaG (λ_=>1) s:=by
 induction s with
 | nil=>simp
 | cons q s ih=>have h1:=ih λp hp=>h p (by simp[hp]);have h2:=h q (by simp);rw[zc6,List.length_cons];omega
theorem zgJ (f:IT→Nat) (l:List (IT × Nat)) (k:Nat):zaG f (l.take k)≤zaG f l:=by have h:=zil f (l.take k) (l.drop k);rw[List.take_append_drop]at h;omega
theorem ze0 {aa:List Dat} (x:IT) (t:VT):∀ (a:List IT) (ts:List VT) (s:Int),a.length=ts.length→0≤s→0≤rdA aa a ts s→rdA aa (a++[x]) (ts++[t]) s=if rdV aa x t<0∨rdA aa a ts s+rdV aa x t>6 then -1 else rdA aa a ts s+rdV aa x t
 | [],[],s,_,hs,_=>by
  have e:rdA aa [] [] s=s:=by simp only[rdA]
  rw[e,List.nil_append,List.nil_append];simp only[rdA]
 | [],_::_,_,h,_,_=>by simp at h
 | _::_,[],_,h,_,_=>by simp at h
 | v::a,t'::ts,s,h,hs,hr=>by
  simp only[rdA]at hr;by_cases hc:rdV aa v t'<0∨s+rdV aa v t'>6
  ·rw[if_pos hc]at hr;omega
  ·rw[if_neg hc]at hr;have:=ze0 x t a ts (s+rdV aa v t') (by simpa using h) (by omega) hr;simp only[List.cons_append,rdA,if_neg hc];exact this
theorem zcx {aa:List Dat}:∀ (a:List IT) (ts:List VT) (s:Int) (k:Nat),a.length=ts.length→0≤s→0≤rdA aa a ts s→0≤rdA aa (a.take k) (ts.take k) s∧rdA aa (a.take k) (ts.take k) s≤rdA aa a ts s
 | a,ts,s,0,_,hs,hr=>by have:=zrj a ts s hs hr;simp only[List.take_zero,rdA];omega
 | [],[],s,k+1,_,hs,hr=>by simp only[List.take_nil,rdA];omega
 | [],_::_,_,_+1,h,_,_=>by simp at h
 | _::_,[],_,_+1,h,_,_=>by simp at h
 | v::a,t::ts,s,k+1,h,hs,hr=>by
  simp only[rdA]at hr;by_cases hc:rdV aa v t<0∨s+rdV aa v t>6
  ·rw[if_pos hc]at hr;omega
  ·rw[if_neg hc]at hr;have:=zcx a ts (s+rdV aa v t) k (by simpa using h) (by omega) hr;simp only[List.take_succ_cons,rdA,if_neg hc];exact this
theorem zgC {aa:List Dat} (h8:∀ D∈aa,D.cons.length≤8) (t:VT) (a:IT) (l:List IT) (h:0≤rdE aa (a::l) t 0):0≤rdE aa [a] t 0∧0≤rdE aa l t 0∧rdE aa (a::l) t 0=rdE aa [a] t 0+rdE aa l t 0:=by
 have e:[[a],l].flatten=a::l:=by simp
 rw[←e]at h;obtain⟨h1,h2⟩:=zkv h8 _ _ 0 (by omega) (by omega) h;rw[e]at h2;refine⟨h1 [a] (by simp),h1 l (by simp),?_⟩;rw[h2];simp
theorem zrl {aa:List Dat} (h8:∀ D∈aa,D.cons.length≤8) (t:VT) (a:IT) (l:List IT) (h1:0≤rdE aa [a] t 0) (h2:0≤rdE aa l t 0) (h3:rdE aa [a] t 0+rdE aa l t 0≤6):rdE aa (a::l) t 0=rdE aa [a] t 0+rdE aa l t 0:=by have e:a::l=[a]++l:=rfl;rw[e,zrk h8 _ _ _ _ (by omega) (by omega),if_neg (by omega),zkt l t _ h1 (by omega),zfi h2 h3]
theorem zIh {aa:List Dat} {c:Int} {ks:List IT} {t:VT} {ps:List VT} (h0:0≤c) (h8:c<8) (hp:za9 aa t c=some ps) (hl:ps.length=ks.length) (hr:0≤rdA aa ks ps 0) (h6:1+rdA aa ks ps 0≤6):rdE aa [.mk c ks] t 0=1+rdA aa ks ps 0:=by rw[zew,if_neg (by omega),hp];simp only;rw[if_pos hl,if_neg (by omega)];simp only[rdE];omega
theorem zfF {aa:List Dat} {c:Int} {ks:List IT} {t:VT} (h:0≤rdE aa [.mk c ks] t 0):0≤c∧c<8∧∃ ps,za9 aa t c=some ps∧ps.length=ks.length∧0≤rdA aa ks ps 0∧rdE aa [.mk c ks] t 0=1+rdA aa ks ps 0:=by
 rw[zew]at h ⊢;split at h
 ·omega
 ·rename_i hc;cases hp:za9 aa t c with
  | none=>rw[hp]at h;simp at h
  | some ps=>
   rw[hp]at h;simp only at h;by_cases hl:ps.length=ks.length
   ·rw[if_pos hl]at h;by_cases hx:rdA aa ks ps 0<0∨0+1+rdA aa ks ps 0>6
    ·rw[if_pos hx]at h;omega
    ·refine⟨by omega,by omega,ps,rfl,hl,by omega,?_⟩;rw[if_neg hc];simp only;rw[if_pos hl,if_neg hx];simp only[rdE];omega
   ·rw[if_neg hl]at h;omega
theorem p3 {a b:Int} (h0:0≤a) (h:a≤b):3 ^ a.toNat≤3 ^ b.toNat:=Nat.pow_le_pow_right (by omega) (by omega)
theorem zkq {a b:Int} (h0:0≤a) (h:0≤b):3 ^ (a+b).toNat=3 ^ a.toNat*3 ^ b.toNat:=by rw[show (a+b).toNat=a.toNat+b.toNat by omega,Nat.pow_add]
def zoT (aa:List Dat) (f:Nat):Prop:=∀ (t:VT) (i j:IT),i.nodes+j.nodes≤f→0≤rdV aa i t→0≤rdV aa j t→rdV aa i t+rdV aa j t≤6 →
 (∀ p∈za8 aa f t i j,0<p.2∧0≤rdV aa p.1 t∧rdV aa p.1 t≤rdV aa i t+rdV aa j t∧rdV aa i t≤rdV aa p.1 t∧rdV aa j t≤rdV aa p.1 t∧p.1.nodes≤i.nodes+j.nodes)∧zaG (λ_=>1) (za8 aa f t i j)≤3 ^ (rdV aa i t+rdV aa j t).toNat
def ziZ (aa:List Dat) (f:Nat):Prop:=∀ (ts:List VT) (l m:List IT),IT.nodesL l+IT.nodesL m+1≤f→l.length=ts.length→m.length=ts.length→0≤rdA aa l ts 0→0≤rdA aa m ts 0→rdA aa l ts 0+rdA aa m ts 0≤6 →
 (∀ r∈zca aa f ts l m,0<r.2∧r.1.length=ts.length∧0≤rdA aa r.1 ts 0∧rdA aa r.1 ts 0≤rdA aa l ts 0+rdA aa m ts 0∧rdA aa l ts 0≤rdA aa r.1 ts 0∧rdA aa m ts 0≤rdA aa r.1 ts 0∧IT.nodesL r.1≤IT.nodesL l+IT.nodesL m) ∧
  zbd (λ_=>1) (zca aa f ts l m)≤3 ^ (rdA aa l ts 0+rdA aa m ts 0).toNat
def zi0 (aa:List Dat) (f:Nat):Prop:=∀ (t:VT) (l m:List IT),IT.nodesL l+IT.nodesL m+1≤f→0≤rdE aa l t 0→0≤rdE aa m t 0→rdE aa l t 0+rdE aa m t 0≤6 →
 (∀ p∈zaP aa f t l m,0<p.2∧zaS p.1=0∧0≤rdE aa (zaH p.1) t 0∧rdE aa (zaH p.1) t 0≤rdE aa l t 0+rdE aa m t 0∧rdE aa l t 0≤rdE aa (zaH p.1) t 0∧rdE aa m t 0≤rdE aa (zaH p.1) t 0∧IT.nodesL (zaH p.1)≤IT.nodesL l+IT.nodesL m) ∧
  zaG (λ_=>1) (zaP aa f t l m)≤3 ^ (rdE aa l t 0+rdE aa m t 0).toNat
theorem zIp (out:List (List IT × Nat)) (ws:List (IT × Nat)):zbd (λ_=>1) (zbD out ws)=zbd (λ_=>1) out*zaG (λ_=>1) ws:=zIq _ (λ_=>1) (λ_=>1) ws out (λr _ w _=>by simp)
theorem zGB {aa:List Dat} {f:Nat} (hP:zoT aa f):ziZ aa (f+1):=by
 intro ts l m hf hl hm hA hB h6;rw[zhH];have key:∀ k,k≤ts.length→(∀ r∈zbU aa f ts l m k,0<r.2∧0≤rdA aa r.1 (ts.take k) 0∧rdA aa r.1 (ts.take k) 0≤rdA aa (l.take k) (ts.take k) 0+rdA aa (m.take k) (ts.take k) 0∧rdA aa (l.take k) (ts.take k) 0≤rdA aa r.1 (ts.take k) 0∧rdA aa (m.take k) (ts.take k) 0≤rdA aa r.1 (ts.take k) 0 ∧
   IT.nodesL r.1≤IT.nodesL (l.take k)+IT.nodesL (m.take k))∧zbd (λ_=>1) (zbU aa f ts l m k)≤3 ^ (rdA aa (l.take k) (ts.take k) 0+rdA aa (m.take k) (ts.take k) 0).toNat:=by
  intro k;induction k with
  | zero=>intro _;refine⟨λr hr=>?_,by simp[zif,rdA]⟩;simp[zif]at hr;subst hr;simp[rdA,IT.nodesL]
  | succ k ih=>
   intro hk;obtain⟨ih1,ih2⟩:=ih (by omega);have h1:k<ts.length:=by omega
   have h3:k<l.length:=by omega
   have h4:k<m.length:=by omega
   have eg:za8 aa f (ts.getD k tz) (l.getD k d0) (m.getD k d0)=za8 aa f ts[k] l[k] m[k]:=by simp[List.getD_eq_getElem?_getD,h1,h3,h4]
   have a1:=zcx l ts 0 k hl (by omega) hA;have a2:=zcx l ts 0 (k+1) hl (by omega) hA;have b1:=zcx m ts 0 k hm (by omega) hB;have b2:=zcx m ts 0 (k+1) hm (by omega) hB;have ea:ts.take (k+1)=ts.take k++[ts[k]]:=List.take_succ_eq_append_getElem h1;have el:l.take (k+1)=l.take k++[l[k]]:=List.take_succ_eq_append_getElem h3;have em:m.take (k+1)=m.take k++[m[k]]:=List.take_succ_eq_append_getElem h4;have sl:=ze0 (aa:=aa) l[k] ts[k] (l.take k) (ts.take k) 0 (by simp;omega) (by omega) a1.1;have sm:=ze0 (aa:=aa) m[k] ts[k] (m.take k) (ts.take k) 0 (by simp;omega) (by omega) b1.1;rw[←el,←ea]at sl;rw[←em,←ea]at sm;by_cases cl:rdV aa l[k] ts[k]<0∨rdA aa (l.take k) (ts.take k) 0+rdV aa l[k] ts[k]>6
   ·rw[if_pos cl]at sl;omega
   ·rw[if_neg cl]at sl;by_cases cm:rdV aa m[k] ts[k]<0∨rdA aa (m.take k) (ts.take k) 0+rdV aa m[k] ts[k]>6
    ·rw[if_pos cm]at sm;omega
    ·rw[if_neg cm]at sm;have n1:=zdQ h3;have n2:=zdQ h4;obtain⟨eJ,gJ⟩:=hP ts[k] l[k] m[k] (by omega) (by omega) (by omega) (by omega);have nl:=IT.nodesL_take h3;have nm:=IT.nodesL_take h4;rw[zgE,eg];constructor
     ·intro r hr;obtain⟨q,hq,w,hw,rfl⟩:=zy9 hr;obtain⟨q1,q2,q3,q4,q5,q6⟩:=ih1 q hq;obtain⟨w1,w2,w3,w4,w5,w6⟩:=eJ w hw;have dw:=zy4 k q hq;have sr:=ze0 (aa:=aa) w.1 ts[k] q.1 (ts.take k) 0 (by simp;omega) (by omega) q2;rw[←ea,if_neg (by omega)]at sr;simp only;rw[sr,IT.nodesL_app];simp only[IT.nodesL];exact⟨Nat.mul_pos q1 w1,by omega,by omega,by omega,by omega,by omega⟩
     ·rw[zIp,sl,sm];rw[show rdA aa (l.take k) (ts.take k) 0+rdV aa l[k] ts[k]+(rdA aa (m.take k) (ts.take k) 0+rdV aa m[k] ts[k])=(rdA aa (l.take k) (ts.take k) 0+rdA aa (m.take k) (ts.take k) 0)+(rdV aa l[k] ts[k]+rdV aa m[k] ts[k]) by omega,zkq (by omega) (by omega)];exact Nat.mul_le_mul ih2 gJ
 obtain⟨k1,k2⟩:=key ts.length (Nat.le_refl _);rw[List.take_length,List.take_of_length_le (l:=l) (by omega),List.take_of_length_le (l:=m) (by omega)]at k1 k2;exact⟨λr hr=>by
  obtain⟨q1,q2,q3,q4,q5,q6⟩:=k1 r hr;exact⟨q1,zy4 _ r hr,q2,q3,q4,q5,q6⟩,k2⟩
theorem zGC {aa:List Dat} (h8:∀ D∈aa,D.cons.length≤8) {f:Nat} (hQ:ziZ aa f) (hR:zi0 aa f):zi0 aa (f+1):=by
 intro t l m hf hl hm h6;cases l with
 | nil=>
  have e0:rdE aa [] t 0=0:=by simp only[rdE]
  have hN:=p3 (a:=0) (b:=rdE aa m t 0) (by omega) (by omega);refine⟨λp hp=>?_,by simp[zaP,e0];simpa using hN⟩;simp[zaP]at hp;subst hp;simp only[zaS,zaH,e0,IT.nodesL];exact⟨by omega,trivial,hm,by omega,by omega,by omega,by omega⟩
 | cons a l=>
  cases m with
  | nil=>
   have e0:rdE aa [] t 0=0:=by simp only[rdE]
   have hN:=p3 (a:=0) (b:=rdE aa (a::l) t 0) (by omega) (by omega);refine⟨λp hp=>?_,by simp[zaP,e0];simpa using hN⟩;simp[zaP]at hp;subst hp;simp only[zaS,zaH,e0,IT.nodesL];exact⟨by omega,trivial,hl,by omega,by omega,by omega,by omega⟩
  | cons b m=>
   have hna:=a.nodes_pos;have gb:=b.nodes_pos;obtain⟨la,ll,el⟩:=zgC h8 t a l hl;obtain⟨mb,mm,em⟩:=zgC h8 t b m hm;simp only[IT.nodesL]at hf;obtain⟨ca,pa⟩:=a;obtain⟨cb,pb⟩:=b;obtain⟨ca0,ca8,psa,dW,ik,jm,ea⟩:=zfF la;obtain⟨cb0,cb8,psb,iJ,cv,jn,eb⟩:=zfF mb;obtain⟨A1,A2⟩:=hR t l (.mk cb pb::m) (by simp only[IT.nodesL];omega) ll hm (by omega);obtain⟨B1,B2⟩:=hR t (.mk ca pa::l) m (by simp only[IT.nodesL];omega) hl mm (by omega);obtain⟨C1,C2⟩:=hR t l m (by omega) ll mm (by omega);obtain⟨s,hs⟩:∃ s,s=rdE aa (.mk ca pa::l) t 0+rdE aa (.mk cb pb::m) t 0:=⟨_,rfl⟩;have n1:zaG (λ_=>1) (zaD [] ((zaP aa f t l (.mk cb pb::m)).map λw=>(bef (.mk ca pa) w.1,w.2)))≤3 ^ (s-1).toNat:=by rw[zcA,zcT,Nat.zero_add,zim _ (λ_=>1) (bef (.mk ca pa)) 1 (λx=>by simp),Nat.one_mul];exact Nat.le_trans A2 (p3 (by omega) (by omega))
   have n2:zaG (λ_=>1) ((zaP aa f t (.mk ca pa::l) m).map λw=>(bef (.mk cb pb) w.1,w.2))≤3 ^ (s-1).toNat:=by rw[zim _ (λ_=>1) (bef (.mk cb pb)) 1 (λx=>by simp),Nat.one_mul];exact Nat.le_trans B2 (p3 (by omega) (by omega))
   have h3s:3 ^ s.toNat=3*3 ^ (s-1).toNat:=by rw[show s.toNat=(s-1).toNat+1 by omega,Nat.pow_succ,Nat.mul_comm]
   -- the terms of the three af
   have t1:∀ w∈zaP aa f t l (.mk cb pb::m),0<w.2→zaS (bef (.mk ca pa) w.1)=0∧0≤rdE aa (zaH (bef (.mk ca pa) w.1)) t 0∧rdE aa (zaH (bef (.mk ca pa) w.1)) t 0≤s∧rdE aa (.mk ca pa::l) t 0≤rdE aa (zaH (bef (.mk ca pa) w.1)) t 0∧rdE aa (.mk cb pb::m) t 0≤rdE aa (zaH (bef (.mk ca pa) w.1)) t 0∧IT.nodesL (zaH (bef (.mk ca pa) w.1))≤IT.nodesL (.mk ca pa::l)+IT.nodesL (.mk cb pb::m):=by intro w hw _;obtain⟨_,_,w2,w3,w4,w5,w6⟩:=A1 w hw;have ej:=zrl h8 t (.mk ca pa) (zaH w.1) la w2 (by omega);have eb:zaH (bef (.mk ca pa) w.1)=.mk ca pa::zaH w.1:=rfl;rw[eb];simp only[IT.nodesL]at w6 ⊢;exact⟨rfl,by omega,by omega,by omega,by omega,by omega⟩
   have t2:∀ w∈zaP aa f t (.mk ca pa::l) m,0<w.2→zaS (bef (.mk cb pb) w.1)=0∧0≤rdE aa (zaH (bef (.mk cb pb) w.1)) t 0∧rdE aa (zaH (bef (.mk cb pb) w.1)) t 0≤s∧rdE aa (.mk ca pa::l) t 0≤rdE aa (zaH (bef (.mk cb pb) w.1)) t 0∧rdE aa (.mk cb pb::m) t 0≤rdE aa (zaH (bef (.mk cb pb) w.1)) t 0∧IT.nodesL (zaH (bef (.mk cb pb) w.1))≤IT.nodesL (.mk ca pa::l)+IT.nodesL (.mk cb pb::m):=by intro w hw _;obtain⟨_,_,w2,w3,w4,w5,w6⟩:=B1 w hw;have ej:=zrl h8 t (.mk cb pb) (zaH w.1) mb w2 (by omega);have eb:zaH (bef (.mk cb pb) w.1)=.mk cb pb::zaH w.1:=rfl;rw[eb];simp only[IT.nodesL]at w6 ⊢;exact⟨rfl,by omega,by omega,by omega,by omega,by omega⟩
   rw[←hs];have emp:∀ q∈([]:List (IT × Nat)),0<q.2:=λq hq=>by simp at hq
   have g1:=zfj ((zaP aa f t l (.mk cb pb::m)).map λw=>(bef (.mk ca pa) w.1,w.2)) [] emp;have g2:=zfj ((zaP aa f t (.mk ca pa::l) m).map λw=>(bef (.mk cb pb) w.1,w.2)) (zaD [] ((zaP aa f t l (.mk cb pb::m)).map λw=>(bef (.mk ca pa) w.1,w.2))) (λq hq=>(g1 q hq).1);have two:∀ p∈zaD (zaD [] ((zaP aa f t l (.mk cb pb::m)).map λw=>(bef (.mk ca pa) w.1,w.2))) ((zaP aa f t (.mk ca pa::l) m).map λw=>(bef (.mk cb pb) w.1,w.2)),0<p.2∧zaS p.1=0∧0≤rdE aa (zaH p.1) t 0∧rdE aa (zaH p.1) t 0≤s∧rdE aa (.mk ca pa::l) t 0≤rdE aa (zaH p.1) t 0∧rdE aa (.mk cb pb::m) t 0≤rdE aa (zaH p.1) t 0∧IT.nodesL (zaH p.1)≤IT.nodesL (.mk ca pa::l)+IT.nodesL (.mk cb pb::m):=by
    intro p hp;obtain⟨h0,h | h⟩:=g2 p hp
    ·obtain⟨q,hq,he⟩:=h;obtain⟨_,h | h⟩:=g1 q hq
     ·obtain⟨x,hx,_⟩:=h;simp at hx
     ·obtain⟨x,hx,ec,ef⟩:=h;obtain⟨w,hw,rfl⟩:=List.mem_map.1 hx;simp only at ef ec;rw[←he,←ef];exact⟨h0,t1 w hw ec⟩
    ·obtain⟨x,hx,ec,ef⟩:=h;obtain⟨w,hw,rfl⟩:=List.mem_map.1 hx;simp only at ef ec;rw[←ef];exact⟨h0,t2 w hw ec⟩
   rw[zaP];by_cases bb:zaS (.mk ca pa)=zaS (.mk cb pb)
   ·rw[if_neg (by simpa using bb)];simp only[zaS]at bb;subst bb;rw[dW]at iJ;cases iJ;obtain⟨Q1,Q2⟩:=hQ psa pa pb (by simp only[IT.nodes]at hf;omega) ik.symm cv.symm jm jn (by omega);have t3:∀ r∈zca aa f psa pa pb,∀ w∈zaP aa f t l m,zaS (bef (.mk ca r.1) w.1)=0∧0≤rdE aa (zaH (bef (.mk ca r.1) w.1)) t 0∧rdE aa (zaH (bef (.mk ca r.1) w.1)) t 0≤s∧rdE aa (.mk ca pa::l) t 0≤rdE aa (zaH (bef (.mk ca r.1) w.1)) t 0∧rdE aa (.mk ca pb::m) t 0≤rdE aa (zaH (bef (.mk ca r.1) w.1)) t 0∧IT.nodesL (zaH (bef (.mk ca r.1) w.1))≤IT.nodesL (.mk ca pa::l)+IT.nodesL (.mk ca pb::m):=by intro r hr w hw;obtain⟨_,r1,r2,r3,r4,r5,r6⟩:=Q1 r hr;obtain⟨_,_,w2,w3,w4,w5,w6⟩:=C1 w hw;have eo:=zIh ca0 ca8 dW r1.symm r2 (by omega);have ej:=zrl h8 t (.mk ca r.1) (zaH w.1) (by omega) w2 (by omega);have eb:zaH (bef (.mk ca r.1) w.1)=.mk ca r.1::zaH w.1:=rfl;rw[eb];simp only[IT.nodesL,IT.nodes]at w6 ⊢;exact⟨rfl,by omega,by omega,by omega,by omega,by omega⟩
    simp only[zaS,zaH,dW,Option.getD_some];have g3:=zfj ((zca aa f psa pa pb).flatMap λr=>(zaP aa f t l m).map λw=>(bef (.mk ca r.1) w.1,r.2*w.2)) _ (λq hq=>(g2 q hq).1);constructor
    ·intro p hp;obtain⟨h0,h | h⟩:=g3 p hp
     ·obtain⟨q,hq,he⟩:=h;have:=(two q hq).2;rw[he]at this;exact⟨h0,this⟩
     ·obtain⟨x,hx,_,ef⟩:=h;obtain⟨r,hr,hx⟩:=List.mem_flatMap.1 hx;obtain⟨w,hw,rfl⟩:=List.mem_map.1 hx;simp only at ef;rw[←ef];exact⟨h0,t3 r hr w hw⟩
    ·rw[zcA,zcA];have n3:zaG (λ_=>1) ((zca aa f psa pa pb).flatMap λr=>(zaP aa f t l m).map λw=>(bef (.mk ca r.1) w.1,r.2*w.2))=zbd (λ_=>1) (zca aa f psa pa pb)*zaG (λ_=>1) (zaP aa f t l m):=by
      generalize zca aa f psa pa pb=R;induction R with
      | nil=>simp
      | cons r R ih=>rw[List.flatMap_cons,zil,ih,zkE,zim _ (λ_=>1) (bef (.mk ca r.1)) 1 (λx=>by simp),zfN,Nat.add_mul];simp
     have n4:zbd (λ_=>1) (zca aa f psa pa pb)*zaG (λ_=>1) (zaP aa f t l m)≤3 ^ (s-1).toNat:=by refine Nat.le_trans (Nat.mul_le_mul Q2 C2) ?_;rw[←zkq (by omega) (by omega)];exact p3 (by omega) (by omega)
     rw[n3,h3s];omega
   ·rw[if_pos (by simpa using bb)];refine⟨two,?_⟩;rw[zcA,h3s];omega
theorem zpf:∀ a,a<7→∀ b,b<7→a+b≤6→zkG (a+b+1) (λk=>pcf a b k)≤3 ^ (a+b):=by decide +kernel
theorem zH6:∀ a,a<7→∀ b,b<7→∀ k,k<13→0<pcf a b k→a≤k∧b≤k:=by
 intro a _ b _ k _ h;unfold pcf at h;split at h
 ·omega
 ·omega
theorem zGA {aa:List Dat} (h8:∀ D∈aa,D.cons.length≤8) {f:Nat} (hQ:ziZ aa f) (hR:zi0 aa f):zoT aa (f+1):=by
 intro t i j hf hi hj h6;obtain⟨k,tn,tks⟩:=t;obtain⟨n,l⟩:=i;obtain⟨n',m⟩:=j;simp only[IT.nodes]at hf;have emp:∀ q∈([]:List (IT × Nat)),0<q.2:=λq hq=>by simp at hq
 rw[za8];by_cases k6:k=6
 ·subst k6;have ev:∀ (n:Int) (l:List IT),0≤rdV aa (.mk n l) (.mk 6 tn tks)→n=0∧l.length=tks.length∧rdV aa (.mk n l) (.mk 6 tn tks)=rdA aa l tks 0:=λn l h=>by
   rw[rdV]at h ⊢;simp only[VT.kind,VT.kids,if_true]at h ⊢;by_cases hn:n=0
   ·by_cases hl:tks.length=l.length
    ·simp[hn,hl]
    ·simp[hn,hl]at h
   ·simp[hn]at h
  have ev2:∀ l:List IT,l.length=tks.length→rdV aa (.mk 0 l) (.mk 6 tn tks)=rdA aa l tks 0:=λl h=>by rw[rdV];simp[VT.kind,VT.kids,h]
  obtain⟨i1,i2,i3⟩:=ev n l hi;obtain⟨j1,j2,j3⟩:=ev n' m hj;rw[i3]at hi h6 ⊢;rw[j3]at hj h6 ⊢;obtain⟨Q1,Q2⟩:=hQ tks l m (by omega) i2 j2 hi hj h6;simp only[VT.kind,VT.kids,if_true,zaH,IT.nodes];constructor
  ·intro p hp;obtain⟨h0,h | h⟩:=zfj _ _ emp p hp
   ·obtain⟨x,hx,_⟩:=h;simp at hx
   ·obtain⟨x,hx,_,ef⟩:=h;obtain⟨r,hr,rfl⟩:=List.mem_map.1 hx;simp only at ef;obtain⟨_,r1,r2,r3,r4,r5,r6⟩:=Q1 r hr;rw[←ef,ev2 r.1 r1];simp only[IT.nodes];exact⟨h0,r2,r3,r4,r5,by omega⟩
  ·rw[zcA,zcT,Nat.zero_add,zgI];exact Q2
 ·by_cases k7:k=7
  ·subst k7;have ev:∀ (n:Int) (l:List IT),0≤rdV aa (.mk n l) (.mk 7 tn tks)→0≤n∧n≤6∧rdV aa (.mk n l) (.mk 7 tn tks)=n:=λn l h=>by
    rw[rdV]at h ⊢;simp only[VT.kind,k6,if_false,if_true]at h ⊢;by_cases hc:0≤n∧n≤6∧l.length=0
    ·rw[if_pos hc];exact⟨hc.1,hc.2.1,rfl⟩
    ·rw[if_neg hc]at h;omega
   obtain⟨i1,i2,i3⟩:=ev n l hi;obtain⟨j1,j2,j3⟩:=ev n' m hj;rw[i3]at hi h6 ⊢;rw[j3]at hj h6 ⊢;obtain⟨a,rfl⟩:∃ a:Nat,n=a:=⟨n.toNat,by omega⟩;obtain⟨b,rfl⟩:∃ b:Nat,n'=b:=⟨n'.toNat,by omega⟩;simp only[VT.kind,k6,if_false,if_true,zaS,IT.nodes,Int.toNat_natCast];constructor
   ·intro p hp;obtain⟨h0,h | h⟩:=zfj _ _ emp p hp
    ·obtain⟨x,hx,_⟩:=h;simp at hx
    ·obtain⟨x,hx,ec,ef⟩:=h;obtain⟨q,hq,rfl⟩:=List.mem_map.1 hx;rw[List.mem_range]at hq;simp only at ec ef;obtain⟨q1,q2⟩:=zH6 a (by omega) b (by omega) q (by omega) ec;have e:rdV aa (.mk (q:Int) []) (.mk 7 tn tks)=q:=by rw[rdV];simp only[VT.kind,k6,if_false,if_true];rw[if_pos ⟨by omega,by omega,rfl⟩]
     rw[←ef,e];simp only[IT.nodes,IT.nodesL];exact⟨h0,by omega,by omega,by omega,by omega,by omega⟩
   ·rw[zcA,zcT,Nat.zero_add,zaW,zgI];have:=zpf a (by omega) b (by omega) (by omega);unfold zkG at this;rw[show ((a:Int)+(b:Int)).toNat=a+b by omega];simpa using this
  ·by_cases k5:k=5
   ·subst k5;have ev:∀ (n:Int) (l:List IT),0≤rdV aa (.mk n l) (.mk 5 tn tks)→n=0∧l.length≤6∧rdV aa (.mk n l) (.mk 5 tn tks)=rdE aa l (.mk 5 tn tks) 0:=λn l h=>by
     rw[zid]at h ⊢;by_cases hc:n=0∧l.length≤6
     ·rw[if_pos hc];exact⟨hc.1,hc.2,rfl⟩
     ·rw[if_neg hc]at h;omega
    obtain⟨i1,i2,i3⟩:=ev n l hi;obtain⟨j1,j2,j3⟩:=ev n' m hj;rw[i3]at hi h6 ⊢;rw[j3]at hj h6 ⊢;obtain⟨R1,R2⟩:=hR (.mk 5 tn tks) l m (by omega) hi hj h6;simp only[VT.kind,k6,k7,if_false,if_true,zaH,IT.nodes];constructor
    ·intro p hp;obtain⟨h0,h | h⟩:=zfj _ _ emp p hp
     ·obtain⟨x,hx,_⟩:=h;simp at hx
     ·obtain⟨x,hx,ec,ef⟩:=h;obtain⟨_,r1,r2,r3,r4,r5,r6⟩:=R1 x hx;rw[←ef];obtain⟨⟨xn,xk⟩,xc⟩:=x;simp only[zaS,zaH]at r1 r2 r3 r4 r5 r6 ⊢;subst r1;have cF:=zku (aa:=aa) xk (.mk 5 tn tks) 0 (by omega);have e:rdV aa (.mk 0 xk) (.mk 5 tn tks)=rdE aa xk (.mk 5 tn tks) 0:=by rw[zid,if_pos ⟨rfl,by omega⟩]
      rw[e];simp only[IT.nodes];exact⟨h0,r2,r3,r4,r5,by omega⟩
    ·rw[zcA,zcT,Nat.zero_add];exact R2
   ·have ev:∀ (n:Int) (l:List IT),0≤rdV aa (.mk n l) (.mk k tn tks)→rdV aa (.mk n l) (.mk k tn tks)=0:=λn l h=>by
     rw[rdV]at h ⊢;simp only[VT.kind,k6,k7,k5,if_false]at h ⊢;by_cases hc:n=0∧l.length=0
     ·rw[if_pos hc]
     ·rw[if_neg hc]at h;omega
    rw[ev n l hi,ev n' m hj];simp only[VT.kind,k6,k7,k5,if_false];refine⟨λp hp=>?_,by simp⟩;simp at hp;subst hp;have e:rdV aa (.mk 0 []) (.mk k tn tks)=0:=by rw[rdV];simp[VT.kind,k6,k7,k5]
    rw[e];simp only[IT.nodes,IT.nodesL];exact⟨by omega,by omega,by omega,by omega,by omega,by omega⟩
theorem zcq {aa:List Dat} (h8:∀ D∈aa,D.cons.length≤8):∀ f,zoT aa f∧ziZ aa f∧zi0 aa f
 | 0=>⟨λt i j h=>by have:=i.nodes_pos;omega,λts l m h=>by omega,λt l m h=>by omega⟩
 | f+1=>by obtain⟨h1,h2,h3⟩:=zcq h8 f;exact⟨zGA h8 h2 h3,zGB h1,zGC h8 h2 h3⟩
def zbW (out:List (List IT × Nat)) (ws:List (IT × Nat)):List (List IT × Nat):=out.flatMap λr=>ws.map λw=>(r.1++[w.1],r.2*w.2)
mutual
def zbo (aa:List Dat):Nat→VT→IT→IT→List (IT × Nat)
 | 0,_,_,_=>[]
 | f+1,t,i,j=>if t.kind=6 then (zcn aa f t.kids (zaH i) (zaH j)).map λr=>(.mk 0 r.1,r.2)
  else if t.kind=7 then (zaW (zaS i).toNat (zaS j).toNat).filter λp=>p.2 != 0
  else if t.kind=5 then (za3 aa f t (zaH i) (zaH j)).map λr=>(.mk 0 r.1,r.2) else [(.mk 0 [],1)]
def zcn (aa:List Dat):Nat→List VT→List IT→List IT→List (List IT × Nat)
 | 0,_,_,_=>[]
 | f+1,ts,l,m=>(List.range ts.length).foldl (λout k=>zbW out (zbo aa f (ts.getD k tz) (l.getD k d0) (m.getD k d0))) [([],1)]
def za3 (aa:List Dat):Nat→VT→List IT→List IT→List (List IT × Nat)
 | 0,_,_,_=>[]
 | f+1,t,[],m=>[(m,1)]
 | f+1,t,a::l,[]=>[(a::l,1)]
 | f+1,t,a::l,b::m=>
  (za3 aa f t l (b::m)).map (λr=>(a::r.1,r.2))++(za3 aa f t (a::l) m).map (λr=>(b::r.1,r.2)) ++
   if zaS a=zaS b then (zcn aa f ((za9 aa t (zaS a)).getD []) (zaH a) (zaH b)).flatMap λr=>(za3 aa f t l m).map λx=>(.mk (zaS a) r.1::x.1,r.2*x.2) else []
end
def zaE {α:Type} (g:α→Nat) (s:List (α × Nat)):Nat:=(s.map λp=>p.2*g p.1).foldr (·+·) 0
theorem zdj (g:IT→Nat) (s:List (IT × Nat)):zaG g s=zaE g s:=rfl
theorem zfK (g:List IT→Nat) (s:List (List IT × Nat)):zbd g s=zaE g s:=rfl
section
variable {α β γ:Type}
@[simp] theorem zrD (g:α→Nat):zaE g []=0:=rfl
@[simp] theorem zbh (g:α→Nat) (p:α × Nat) (s:List (α × Nat)):zaE g (p::s)=p.2*g p.1+zaE g s:=rfl
theorem zzL (g:α→Nat):∀ a b:List (α × Nat),zaE g (a++b)=zaE g a+zaE g b
 | [],b=>by simp
 | p::a,b=>by rw[List.cons_append,zbh,zbh,zzL g a b];omega
theorem zfL (g:β→Nat) (h:α→β):∀ s:List (α × Nat),zaE g (s.map λp=>(h p.1,p.2))=zaE (λx=>g (h x)) s
 | []=>rfl
 | p::s=>by rw[List.map_cons,zbh,zbh,zfL g h s]
theorem zzN (g:β→Nat) (h:α→β) (c:Nat):∀ s:List (α × Nat),zaE g (s.map λp=>(h p.1,c*p.2))=c*zaE (λx=>g (h x)) s
 | []=>rfl
 | p::s=>by rw[List.map_cons,zbh,zbh,zzN g h c s,Nat.mul_add,Nat.mul_assoc]
theorem zin (g:γ→Nat) (h:α→β→γ) (ws:List (β × Nat)):∀ s:List (α × Nat),zaE g (s.flatMap λr=>ws.map λw=>(h r.1 w.1,r.2*w.2))=zaE (λa=>zaE (λb=>g (h a b)) ws) s
 | []=>rfl
 | p::s=>by rw[List.flatMap_cons,zzL,zbh,zin g h ws s,zzN g (h p.1)]
theorem zzK (g1 g2:α→Nat):∀ s:List (α × Nat),zaE (λx=>g1 x+g2 x) s=zaE g1 s+zaE g2 s
 | []=>rfl
 | p::s=>by rw[zbh,zbh,zbh,zzK g1 g2 s,Nat.mul_add];omega
theorem zzM (c:Nat) (g:α→Nat):∀ s:List (α × Nat),zaE (λx=>c*g x) s=c*zaE g s
 | []=>by simp
 | p::s=>by rw[zbh,zbh,zzM c g s,Nat.mul_add,Nat.mul_left_comm]
theorem zzP:∀ s:List (α × Nat),zaE (λ_=>0) s=0
 | []=>rfl
 | p::s=>by rw[zbh,zzP s];rfl
theorem zzO (h:α→β→Nat) (ws:List (β × Nat)):∀ s:List (α × Nat),zaE (λa=>zaE (λb=>h a b) ws) s=zaE (λb=>zaE (λa=>h a b) s) ws
 | []=>by simp[zzP]
 | p::s=>by
  rw[zbh,zzO h ws s];have:(λb=>zaE (λa=>h a b) (p::s))=λb=>p.2*h p.1 b+zaE (λa=>h a b) s:=by funext b;rw[zbh]
  rw[this,zzK,zzM]
theorem zrB (g:α→Nat):∀ s:List (α × Nat),zaE g (s.filter λp=>p.2 != 0)=zaE g s
 | []=>rfl
 | p::s=>by
  rw[List.filter_cons];by_cases h:p.2=0
  ·simp[h,zrB g s]
  ·simp[h,zrB g s]
end
def zwf (aa:List Dat) (f:Nat):Prop:=∀ (t:VT) (i j:IT) (g:IT→Nat),zaG g (zbo aa f t i j)=zaG g (za8 aa f t i j)
def zFw (aa:List Dat) (f:Nat):Prop:=∀ (ts:List VT) (l m:List IT) (g:List IT→Nat),zbd g (zcn aa f ts l m)=zbd g (zca aa f ts l m)
def zFv (aa:List Dat) (f:Nat):Prop:=∀ (t:VT) (l m:List IT) (g:IT→Nat),zbd (λx=>g (.mk 0 x)) (za3 aa f t l m)=zaG g (zaP aa f t l m)
theorem zrq (g:List IT→Nat) (out:List (List IT × Nat)) (ws:List (IT × Nat)):zbd g (zbD out ws)=zaE (λx=>zaE (λl=>g (l++[x])) out) ws:=by
 have h:zbD out ws=ws.flatMap λw=>out.map λr=>(r.1++[w.1],w.2*r.2):=by unfold zbD;congr 1;funext w;congr 1;funext r;rw[Nat.mul_comm]
 rw[h,zfK];exact zin g (λx l=>l++[x]) out ws
theorem zJA (g:List IT→Nat) (out:List (List IT × Nat)) (ws:List (IT × Nat)):zbd g (zbW out ws)=zbd g (zbD out ws):=by rw[zrq,zfK];unfold zbW;rw[zin g (λl x=>l++[x]) ws out,zzO]
def zco (aa:List Dat) (f:Nat) (ts:List VT) (l m:List IT) (k:Nat):List (List IT × Nat):=(List.range k).foldl (λout k=>zbW out (zbo aa f (ts.getD k tz) (l.getD k d0) (m.getD k d0))) [([],1)]
theorem zrp (aa:List Dat) (f:Nat) (ts:List VT) (l m:List IT):zco aa f ts l m 0=[([],1)]:=rfl
theorem zkx (aa:List Dat) (f:Nat) (ts:List VT) (l m:List IT) (k:Nat):zco aa f ts l m (k+1)=zbW (zco aa f ts l m k) (zbo aa f (ts.getD k tz) (l.getD k d0) (m.getD k d0)):=by rw[zco,List.range_succ,List.foldl_append];rfl
theorem zky (aa:List Dat) (f:Nat) (ts:List VT) (l m:List IT):zcn aa (f+1) ts l m=zco aa f ts l m ts.length:=by rw[zcn];rfl
theorem zro {aa:List Dat} {f:Nat} (hP:zwf aa f) (ts:List VT) (l m:List IT):∀ (k:Nat) (g:List IT→Nat),zbd g (zco aa f ts l m k)=zbd g (zbU aa f ts l m k)
 | 0,g=>rfl
 | k+1,g=>by rw[zkx,zgE,zJA,zrq,zrq];have h1:∀ x,zaE (λl=>g (l++[x])) (zco aa f ts l m k)=zaE (λl=>g (l++[x])) (zbU aa f ts l m k):=λx=>zro hP ts l m k λl=>g (l++[x]);simp only[h1];exact hP (ts.getD k tz) (l.getD k d0) (m.getD k d0) λx=>zaE (λl=>g (l++[x])) (zbU aa f ts l m k)
theorem zgL (aa:List Dat):∀ f,zwf aa f∧zFw aa f∧zFv aa f
 | 0=>⟨λt i j g=>by rw[zbo,za8],λts l m g=>by rw[zcn,zca],λt l m g=>by rw[za3,zaP];rfl⟩
 | f+1=>by
  obtain⟨hP,hQ,hM⟩:=zgL aa f;refine⟨λt i j g=>?_,λts l m g=>?_,λt l m g=>?_⟩
  ·rw[zbo,za8];by_cases k6:t.kind=6
   ·simp only[k6,if_true];rw[zcA,zcT,Nat.zero_add,zdj,zdj,zfL g (λl=>IT.mk 0 l),zfL g (λl=>IT.mk 0 l)];exact hQ t.kids (zaH i) (zaH j) λl=>g (.mk 0 l)
   ·by_cases k7:t.kind=7
    ·simp only[k7,if_true,if_neg (show ¬ (7:Int)=6 by omega)];rw[zcA,zcT,Nat.zero_add,zdj,zdj,zrB]
    ·by_cases k5:t.kind=5
     ·simp only[k5,if_true,if_neg (show ¬ (5:Int)=6 by omega),if_neg (show ¬ (5:Int)=7 by omega)];rw[zcA,zcT,Nat.zero_add,zdj,zfL g (λl=>IT.mk 0 l)];exact hM _ _ _ _
     ·simp only[k6,k7,k5,if_false]
  ·rw[zky,zhH];exact zro hP ts l m _ g
  ·cases l with
   | nil=>rw[za3,zaP];rfl
   | cons a l=>
    cases m with
    | nil=>rw[za3,zaP];rfl
    | cons b m=>
     have e1:=hM t l (b::m) λi=>g (bef a i);have e2:=hM t (a::l) m λi=>g (bef b i);rw[za3,zaP];have h1:∀ (c:IT) (s:List (List IT × Nat)),zbd (λx=>g (.mk 0 x)) (s.map λr=>(c::r.1,r.2))=zbd (λx=>g (bef c (.mk 0 x))) s:=λc s=>zfL (λx=>g (.mk 0 x)) (λx=>c::x) s;have h2:∀ (c:IT) (s:List (IT × Nat)),zaG g (s.map λw=>(bef c w.1,w.2))=zaG (λi=>g (bef c i)) s:=λc s=>zfL g (bef c) s;by_cases bb:zaS a=zaS b
     ·rw[if_pos bb,if_neg (by simpa using bb),zio,zio,zcA,zcA,zcA,zcT,h1,h1,h2,h2,e1,e2];have h3:=zin (λx=>g (.mk 0 x)) (λ(r x:List IT)=>IT.mk (zaS a) r::x) (za3 aa f t l m) (zcn aa f ((za9 aa t (zaS a)).getD []) (zaH a) (zaH b));have h4:=zin g (λ(r:List IT) (x:IT)=>bef (.mk (zaS a) r) x) (zaP aa f t l m) (zca aa f ((za9 aa t (zaS a)).getD []) (zaH a) (zaH b));rw[zfK,zdj _ (List.flatMap _ _),h3,h4];have h5:∀ r,zaE (λx=>g (.mk 0 (IT.mk (zaS a) r::x))) (za3 aa f t l m)=zaE (λx=>g (bef (.mk (zaS a) r) x)) (zaP aa f t l m):=λr=>hM t l m λi=>g (bef (.mk (zaS a) r) i);simp only[h5];have h6:=hQ ((za9 aa t (zaS a)).getD []) (zaH a) (zaH b) λr=>zaE (λx=>g (bef (.mk (zaS a) r) x)) (zaP aa f t l m);rw[zfK,zfK]at h6;rw[h6,zdj,zdj];omega
     ·rw[if_neg bb,if_pos (by simpa using bb),List.append_nil,zio,zcA,zcA,zcT,h1,h1,h2,h2,e1,e2];omega
def Asc (s:List (IT × Nat)):Prop:=s.Pairwise λp q=>IT.cmp p.1 q.1<0
theorem zw9 {a b c:IT} (h1:IT.cmp a b<0) (h2:IT.cmp b c≤0):IT.cmp a c<0:=by
 obtain⟨h3,h4⟩:=IT.cmp_tri a b c (by omega) h2;by_cases h:IT.cmp a c=0
 ·have:=h4 h;omega
 ·omega
theorem zgg (a:IT):IT.cmp a a=0:=by have:=IT.cmp_anti a a;omega
theorem zwv {i:IT} {c:Nat}:∀ {s:List (IT × Nat)},Asc s→Asc (zbR s i c)∧∀ p∈zbR s i c,p.1=i∨∃ q∈s,q.1=p.1
 | [],_=>⟨by simp[zbR,Asc],λp hp=>by simp[zbR]at hp;exact .inl (by rw[hp])⟩
 | x::s,h=>by
  have h1:=List.pairwise_cons.1 h;unfold zbR;by_cases ha:IT.cmp x.1 i<0
  ·obtain⟨k1,k2⟩:=zwv (i:=i) (c:=c) h1.2;rw[if_pos ha];refine⟨List.pairwise_cons.2 ⟨λp hp=>?_,k1⟩,λp hp=>?_⟩
   ·rcases k2 p hp with e | ⟨q,hq,e⟩
    ·rw[e];exact ha
    ·rw[←e];exact h1.1 q hq
   ·rcases List.mem_cons.1 hp with e | hp
    ·exact .inr ⟨x,List.mem_cons_self,by rw[e]⟩
    ·rcases k2 p hp with e | ⟨q,hq,e⟩
     ·exact .inl e
     ·exact .inr ⟨q,List.mem_cons_of_mem _ hq,e⟩
  ·rw[if_neg ha];by_cases h0:IT.cmp x.1 i=0
   ·rw[if_pos h0];refine⟨List.pairwise_cons.2 ⟨h1.1,h1.2⟩,λp hp=>?_⟩;rcases List.mem_cons.1 hp with e | hp
    ·exact .inr ⟨x,List.mem_cons_self,by rw[e]⟩
    ·exact .inr ⟨p,List.mem_cons_of_mem _ hp,rfl⟩
   ·rw[if_neg h0];have hix:IT.cmp i x.1<0:=by have:=IT.cmp_anti i x.1;omega
    refine⟨List.pairwise_cons.2 ⟨λp hp=>?_,h⟩,λp hp=>?_⟩
    ·rcases List.mem_cons.1 hp with e | hp
     ·rw[e];exact hix
     ·exact zw9 hix (by have:=h1.1 p hp;omega)
    ·rcases List.mem_cons.1 hp with e | hp
     ·exact .inl (by rw[e])
     ·exact .inr ⟨p,hp,rfl⟩
theorem zFV {i:IT} {c:Nat} {s:List (IT × Nat)} (h:Asc s):Asc (zba s i c):=by
 unfold zba;split
 ·exact h
 ·exact (zwv h).1
theorem zi8:∀ (l s:List (IT × Nat)),Asc s→Asc (zaD s l)
 | [],s,h=>h
 | p::l,s,h=>zi8 l _ (zFV h)
open Classical in
noncomputable def one {α:Type} (x:α):α→Nat:=λy=>if y=x then 1 else 0
theorem zyw {α:Type} (x:α):one x x=1:=by simp[one]
theorem zyx {α:Type} {x y:α} (h:y≠x):one x y=0:=by simp[one,h]
theorem zzS {α:Type} {g:α→Nat}:∀ {s:List (α × Nat)},0<zaE g s→∃ q∈s,0<q.2∧0<g q.1
 | [],h=>by simp at h
 | p::s,h=>by
  rw[zbh]at h;by_cases h0:0<p.2*g p.1
  ·exact⟨p,List.mem_cons_self,Nat.pos_of_mul_pos_right h0,Nat.pos_of_mul_pos_left h0⟩
  ·obtain⟨q,hq,h1⟩:=zzS (s:=s) (g:=g) (by omega);exact⟨q,List.mem_cons_of_mem _ hq,h1⟩
theorem zfv {α:Type} (g:α→Nat):∀ {s:List (α × Nat)} {p:α × Nat},p∈s→p.2*g p.1≤zaE g s
 | x::s,p,h=>by
  rw[zbh];rcases List.mem_cons.1 h with rfl | h
  ·omega
  ·have:=zfv g h;omega
theorem zer {α:Type} {s s':List (α × Nat)} (h:∀ g:α→Nat,zaE g s=zaE g s') {p:α × Nat} (hp:p∈s) (h0:0<p.2):∃ q∈s',q.1=p.1:=by
 have h1:=zfv (one p.1) hp;rw[zyw,h]at h1;obtain⟨q,hq,_,h2⟩:=zzS (s:=s') (g:=one p.1) (by omega);refine⟨q,hq,?_⟩;by_cases he:q.1=p.1
 ·exact he
 ·rw[zyx he]at h2;omega
theorem zrF {x:IT}:∀ {s:List (IT × Nat)},(∀ p∈s,p.1≠x)→zaE (one x) s=0
 | [],_=>rfl
 | p::s,h=>by rw[zbh,zyx (h p List.mem_cons_self),zrF λq hq=>h q (List.mem_cons_of_mem _ hq)];rfl
theorem zwL:∀ {s s':List (IT × Nat)},Asc s→Asc s'→(∀ p∈s,0<p.2)→(∀ p∈s',0<p.2)→(∀ g:IT→Nat,zaE g s=zaE g s')→s=s'
 | [],[],_,_,_,_,_=>rfl
 | [],q::s',_,_,_,h2,h=>by obtain⟨x,hx,_⟩:=zer (λg=>(h g).symm) (List.mem_cons_self (a:=q)) (h2 q List.mem_cons_self);simp at hx
 | p::s,[],_,_,h1,_,h=>by obtain⟨x,hx,_⟩:=zer h (List.mem_cons_self (a:=p)) (h1 p List.mem_cons_self);simp at hx
 | p::s,q::s',a1,a2,h1,h2,h=>by
  have b1:=List.pairwise_cons.1 a1;have b2:=List.pairwise_cons.1 a2;have c1:IT.cmp q.1 p.1≤0:=by
   obtain⟨x,hx,he⟩:=zer h (List.mem_cons_self (a:=p)) (h1 p List.mem_cons_self);rcases List.mem_cons.1 hx with rfl | hx
   ·rw[he,zgg];omega
   ·have:=b2.1 x hx;rw[he]at this;omega
  have c2:IT.cmp p.1 q.1≤0:=by
   obtain⟨x,hx,he⟩:=zer (λg=>(h g).symm) (List.mem_cons_self (a:=q)) (h2 q List.mem_cons_self);rcases List.mem_cons.1 hx with rfl | hx
   ·rw[he,zgg];omega
   ·have:=b1.1 x hx;rw[he]at this;omega
  have he:p.1=q.1:=zpn (by have:=IT.cmp_anti p.1 q.1;omega);have n1:zaE (one p.1) s=0:=zrF λx hx e=>by have:=b1.1 x hx;rw[e,zgg]at this;omega
  have n2:zaE (one p.1) s'=0:=zrF λx hx e=>by have:=b2.1 x hx;rw[e,he,zgg]at this;omega
  have hc:=h (one p.1);rw[zbh,zbh,n1,n2,←he,zyw]at hc;have hpq:p=q:=Prod.ext he (by omega);subst hpq;have:=zwL b1.2 b2.2 (λx hx=>h1 x (List.mem_cons_of_mem _ hx)) (λx hx=>h2 x (List.mem_cons_of_mem _ hx)) λg=>by have:=h g;rw[zbh,zbh]at this;omega
  rw[this]
theorem zkF {α:Type} (g:α→Nat) (c:α→Bool):∀ s:List (α × Nat),zaE g (s.filter λp=>c p.1)=zaE (λx=>if c x then g x else 0) s
 | []=>rfl
 | p::s=>by
  rw[List.filter_cons,zbh];by_cases h:c p.1=true
  ·simp only[h,if_true];rw[zbh,zkF g c s]
  ·simp only[h,Bool.false_eq_true,if_false];rw[zkF g c s];simp
theorem zJI {α:Type} (g:α→Nat) {s s':List (α × Nat)} (h:s.Perm s'):zaE g s=zaE g s':=by
 induction h with
 | nil=>rfl
 | cons x _ ih=>rw[zbh,zbh,ih]
 | swap x y l=>simp only[zbh];omega
 | trans _ _ h1 h2=>rw[h1,h2]
section
variable (t0 t1 t2 t3 t4 t5 t6 t7 t8 t9 t11 t13 t15 t16 t17 t18 t20 t21 t33 t34 t35 t37 t38 t39 t42 t43 t44 t45 t57 t58 t59 t64 t65 t66 t78 t79 t80 t118 t119 t120 t124 t125 t126:AV) (H:zaa) (K:Kt) (Kb2 Kb3 Kb5 Kb6 Kb7 Kb12 Kb13 Kb19 Kb21:Lt)
def zn3:Nat→List Bool | 2=>rl false [0,1,3,2,1,1,82] | 400002=>rl false [0,1] | 400004=>rl false [0,1] | 400005=>rl false [0,1] | _=>[]
noncomputable def zva:Code:=Tryz.f63.body.getD .skip
noncomputable def zVB:List ResultVar:=Tryz.f63.results.toList
def zn4:List AV:=t0::ux 3 (t4::t5::ux 1 (t7::ux 82 []))
def zVz:List Bool:=zn3 2
noncomputable def zVx:Code:=zar [1,1,0,0,0] zva
def zVw:AExit→List AV→zaa→Prop:=zas tP zn3 [1,1,0,0] zva (zaz tP zVB K)
def zEj:Prop:=ALoop tP zVx (zVw K) (zn4 t0 t4 t5 t7) H
def zvb:Prop:=K t0 H
def zu9:Prop:=zab H (λK'=>K' t7 H) λt8=>zab H (λK'=>K' t0 H) λt9=>zab H (λK'=>zah 1 t9 (K' · H)) λt10=>zab H (λK'=>zac .lss false t8 t10 (K' · H)) λt11=>zab H (λK'=>K' t11 H) λt12=>zad t12 true H (λK'=>zab H (λK''=>K'' t0 H) (K' · H)) λt13 H=>zad t12 true H (λK'=>zab H (λK''=>K'' t7 H) (K' · H)) λt14 H=>zad t12 true H (λK'=>zab H (λK''=>zak 5 t13 t14 (K'' · H)) (K' · H)) λt15 H=>zad t12 true H (λK'=>zab H (λK''=>zaf 0 t15 (K'' · H)) (K' · H)) λt16 H=>zad t12 true H (λK'=>zab H (λK''=>zae true 2 t16 H (K'' · H)) (K' · H)) λt17 H=>zad t12 true H (λK'=>zab H (λK''=>zae true 2 t4 H (K'' · H)) (K' · H)) λt18 H=>zad t12 true H (λK'=>zaA H (λH K''=>ACalls tP zgn [t17,t18] H K'') (K' · H)) λt19 H=>zad t12 true H (λK'=>zab H (λK''=>zac .lss false t19 (.int .i64 0) (K'' · H)) (K' · H)) λt20 H=>zab H (λK'=>zam t12 t20 (.bool false) (K' · H)) λt21=>zag t21 (zac .add false t7 (.int .i64 1) λt23=>Kb2 (zn4 t0 t4 t5 t23) H) (zab H (λK'=>K' t7 H) λt24=>zab H (λK'=>K' t0 H) λt25=>zab H (λK'=>zah 1 t25 (K' · H)) λt26=>zab H (λK'=>zac .lss false t24 t26 (K' · H)) λt27=>zab H (λK'=>K' t27 H) λt28=>zad t28 true H (λK'=>zab H (λK''=>K'' t0 H) (K' · H)) λt29 H=>zad t28 true H (λK'=>zab H (λK''=>K'' t7 H) (K' · H)) λt30 H=>zad t28 true H (λK'=>zab H (λK''=>zak 5 t29 t30 (K'' · H)) (K' · H)) λt31 H=>zad t28 true H (λK'=>zab H (λK''=>zaf 0 t31 (K'' · H)) (K' · H)) λt32 H=>zad t28 true H (λK'=>zab H (λK''=>zae true 2 t32 H (K'' · H)) (K' · H)) λt33 H=>zad t28 true H (λK'=>zab H (λK''=>zae true 2 t4 H (K'' · H)) (K' · H)) λt34 H=>zad t28 true H (λK'=>zaA H (λH K''=>ACalls tP zgn [t33,t34] H K'') (K' · H)) λt35 H=>zad t28 true H (λK'=>zab H (λK''=>zac .eql false t35 (.int .i64 0) (K'' · H)) (K' · H)) λt36 H=>zab H (λK'=>zam t28 t36 (.bool false) (K' · H)) λt37=>zag t37 (zab H (λK'=>K' t0 H) λt38=>zab H (λK'=>K' t7 H) λt39=>zab H (λK'=>K' t0 H) λt40=>zab H (λK'=>K' t7 H) λt41=>zab H (λK'=>zak 5 t40 t41 (K' · H)) λt42=>zab H (λK'=>zaf 2 t42 (K' · H)) λt43=>zab H (λK'=>zae true 3 t43 H (K' · H)) λt44=>zab H (λK'=>zae true 3 t5 H (K' · H)) λt45=>zaA H (λH K'=>ACalls tP zqV [t44,t45] H K') λt46=>zab H (λK'=>zak 5 t38 t39 (K' · H)) λt47=>zab H (λK'=>zaf 2 t47 (K' · H)) λt48=>zao 3 t48 t46 H λH=>zak 5 t0 t7 λt51=>zaf 2 t51 λt52=>zae true 3 t52 H λt53=>ACalls tP zhS [t53] H λt54 H=>zac .eql false t54 (.int .i64 0) λt55=>zag t55 (zab H (λK'=>K' t0 H) λt56=>zab H (λK'=>K' t7 H) λt57=>zab H (λK'=>zaN 1 5 t56 none (some t57) (K' · H)) λt58=>zab H (λK'=>K' t0 H) λt59=>zab H (λK'=>K' t7 H) λt60=>zab H (λK'=>zac .add false t60 (.int .i64 1) (K' · H)) λt61=>zab H (λK'=>zaN 1 5 t59 (some t61) none (K' · H)) λt62=>zav zax 5 88 t58 t62 H λt63 H=>zab H (λK'=>K' t63 H) λt0=>zvb t0 H K) (zvb t0 H K)) (zae true 3 t5 H λt65=>ACalls tP zhS [t65] H λt66 H=>zac .eql false t66 (.int .i64 0) λt67=>zag t67 (K t0 H) (zaq [(.int .i64 0),.snil,(.bool false),.snil,.snil] [(0,2),(2,3)] [] λt70=>zau 5 [(.int .i64 0),.snil,(.bool false),.snil,.snil] 1 [(0,t70)] λt71=>zav zax 5 88 t0 t71 H λt72 H=>zab H (λK'=>K' t72 H) λt73=>zab H (λK'=>K' t7 H) λt74=>zab H (λK'=>zac .add false t74 (.int .i64 1) (K' · H)) λt75=>zab H (λK'=>zaN 1 5 t73 (some t75) none (K' · H)) λt76=>zab H (λK'=>K' t72 H) λt77=>zab H (λK'=>K' t7 H) λt78=>zab H (λK'=>zaN 1 5 t77 (some t78) none (K' · H)) λt79=>zfe 5 t76 t79 H λt80 H=>zab H (λK'=>K' t72 H) λt81=>zab H (λK'=>K' t7 H) λt82=>zab H (λK'=>zaj true 2 t4 H (K' · H)) λt83=>zaA H (λH K'=>ACalls tP zhL [t83] H K') λt84=>zab H (λK'=>zaj true 3 t5 H (K' · H)) λt85=>zaA H (λH K'=>ACalls tP zdP [t85] H K') λt86=>zab H (λK'=>zaq [(.int .i64 0),.snil,(.bool false),.snil,.snil] [(0,2),(2,3)] [(0,t84),(1,t86)] (K' · H)) λt87=>zab H (λK'=>zak 5 t81 t82 (K' · H)) λt88=>zao 5 t88 t87 H λH=>K t72 H)))
def zEi:Prop:=zat t1 H λt4 H=>zat t2 H λt5 H=>zEj t0 t4 t5 (.int .i64 0) H K
def zec:Nat→List Bool | 6=>rl false [9,1,23,3,56] | 13=>rl false [9,1,47,3,32] | 19=>rl false [9,1,68,3,11] | _=>[]
noncomputable def zf2:Code:=Tryz.f45.body.getD .skip
noncomputable def zuO:List ResultVar:=Tryz.f45.results.toList
def znF:List AV:=ux 9 (t9::ux 23 (t33::t34::t35::ux 56 []))
def zUs:List Bool:=zec 6
noncomputable def zUm:Code:=zar [1,1,0,1,0,1,0,1,0,0] zf2
def zUj:AExit→List AV→zaa→Prop:=zas tP zec [1,1,0,1,0,1,0,1,0] zf2 (zaz tP zuO K)
def znJ:Prop:=ALoop tP zUm (zUj K) (znF t9 t33 t34 t35) H
def znG:Prop:=K t9 H
def zf3:Prop:=znG t9 H K
def zuN:Prop:=zac .lss false t35 t34 λt36=>zag t36 (zak 4 t33 t35 λt37=>zae true 4 t37 H λt38=>zay [.snil,(.bool false),.snil,.snil] H λt11 H=>zao 4 t11 t38 H λH=>zaf 0 t11 λt40=>zae false 1 t40 H λt41=>zaq [(.int .i64 0),.snil] [(0,1),(1,1)] [(1,t41)] λt42=>zaf 1 t11 λt43=>zae true 3 t43 H λt44=>ACalls tP zdh [t9,t42,t44] H λt45 H=>zac .add false t35 (.int .i64 1) λt46=>Kb6 (znF t45 t33 t34 t46) H) (zf3 t9 H K)
def znD:List AV:=ux 9 (t9::ux 47 (t57::t58::t59::ux 32 []))
def zUq:List Bool:=zec 13
noncomputable def zUk:Code:=zar [1,1,0,1,0,1,1,1,0,1,1,0,0] zf2
def zUh:AExit→List AV→zaa→Prop:=zas tP zec [1,1,0,1,0,1,1,1,0,1,1,0] zf2 (zaz tP zuO K)
def znH:Prop:=ALoop tP zUk (zUh K) (znD t9 t57 t58 t59) H
def zuL:Prop:=zac .lss false t59 t58 λt60=>zag t60 (zak 3 t57 t59 λt62=>zae true 3 t62 H λt63=>zay [(.bool false),.snil,.snil] H λt15 H=>zao 3 t15 t63 H λH=>zaq [(.int .i64 0),.snil] [(0,1),(1,1)] [(0,t59)] λt66=>zae true 3 t15 H λt67=>ACalls tP zdh [t9,t66,t67] H λt68 H=>zac .add false t59 (.int .i64 1) λt69=>Kb13 (znD t68 t57 t58 t69) H) (zf3 t9 H K)
def znE:List AV:=ux 9 (t9::ux 68 (t78::t79::t80::ux 11 []))
def zUr:List Bool:=zec 19
noncomputable def zUl:Code:=zar [1,1,0,1,0,1,1,1,1,1,0,1,0,0] zf2
def zUi:AExit→List AV→zaa→Prop:=zas tP zec [1,1,0,1,0,1,1,1,1,1,0,1,0] zf2 (zaz tP zuO K)
def znI:Prop:=ALoop tP zUl (zUi K) (znE t9 t78 t79 t80) H
def zuM:Prop:=zac .lss false t80 t79 λt81=>zag t81 (zak 5 t78 t80 λt82=>zae true 5 t82 H λt83=>zay [(.int .i64 0),.snil,(.bool false),.snil,.snil] H λt17 H=>zao 5 t17 t83 H λH=>zaf 0 t17 λt85=>zae true 2 t85 H λt86=>zaf 2 t17 λt87=>zae true 3 t87 H λt88=>ACalls tP zdh [t9,t86,t88] H λt89 H=>zac .add false t80 (.int .i64 1) λt90=>Kb19 (znE t89 t78 t79 t90) H) (zf3 t9 H K)
def ziP:Prop:=zat t1 H λt5 H=>zat t2 H λt6 H=>zat t3 H λt7 H=>zaf 0 t5 λt18=>zae false 1 t18 H λt19=>zac .eql false t19 (.int .i64 6) λt25=>zag t25 (zaf 2 t5 λt27=>zae false 1 t27 H λt28=>zaf 1 t6 λt29=>zae false 1 t29 H λt30=>zaf 1 t7 λt31=>zae false 1 t31 H λt32=>ACalls tP zkb [t0,t28,t30,t32] H λt33 H=>zah 1 t33 λt34=>znJ .snil t33 t34 (.int .i64 0) H K) (zac .eql false t19 (.int .i64 7) λt48=>zag t48 (zaf 0 t6 λt50=>zae false 1 t50 H λt51=>zaf 0 t7 λt52=>zae false 1 t52 H λt53=>ACalls tP zq4 [t51,t53] H λt54 H=>zaC t54 0 λt55=>zaC t54 1 λt56=>zah 1 t55 λt58=>znH .snil t55 t58 (.int .i64 0) H K) (zac .eql false t19 (.int .i64 5) λt71=>zag t71 (zae true 3 t5 H λt73=>zaf 1 t6 λt74=>zae false 1 t74 H λt75=>zaf 1 t7 λt76=>zae false 1 t76 H λt77=>ACalls tP zgw [t0,t73,t75,t77] H λt78 H=>zah 1 t78 λt79=>znI .snil t78 t79 (.int .i64 0) H K) (zaq [(.int .i64 0),.snil] [(0,1),(1,1)] [] λt21=>ACalls tP zdO [(.int .i64 1)] H λt22 H=>ACalls tP zdh [.snil,t21,t22] H λt23 H=>zf3 t23 H K)))
def zef:Nat→List Bool | 3=>rl false [0,4,5,1,10,2,48] | 7=>rl false [0,4,5,1,1,1,8,2,15,3,30] | 10=>rl false [0,4,5,1,1,1,1,1,6,2,15,3,3,3,24] | _=>[]
noncomputable def zvC:Code:=Tryz.f88.body.getD .skip
noncomputable def zXc:List ResultVar:=Tryz.f88.results.toList
def ziW:List AV:=t0::t1::t2::t3::ux 5 (t9::ux 10 (t20::t21::ux 48 []))
def zEX:List Bool:=zef 3
noncomputable def zvD:Code:=zar [1,1,0,1,0,0] zvC
def zET:AExit→List AV→zaa→Prop:=zas tP zef [1,1,0,1,0] zvC (zaz tP zXc K)
def zEW:Prop:=ALoop tP zvD (zET K) (ziW t0 t1 t2 t3 t9 t20 t21) H
def zot:List AV:=t0::t1::t2::t3::ux 5 (t9::ux 1 (t11::ux 8 (t20::t21::ux 15 (t37::t38::t39::ux 30 []))))
def zEY:List Bool:=zef 7
noncomputable def zvE:Code:=zar [1,1,0,0,1,1,0,1,0,0] zvD
def zEU:AExit→List AV→zaa→Prop:=zas tP zef [1,1,0,0,1,1,0,1,0] zvD (zbL zEX Kb3 (zET K))
def zou:Prop:=ALoop tP zvE (zEU K Kb3) (zot t0 t1 t2 t3 t9 t11 t20 t21 t37 t38 t39) H
def zos:List AV:=t0::t1::t2::t3::ux 5 (t9::ux 1 (t11::ux 1 (t13::ux 6 (t20::t21::ux 15 (t37::t38::t39::ux 3 (t43::t44::t45::ux 24 []))))))
def zXa:List Bool:=zef 10
noncomputable def zW6:Code:=zar [1,1,0,0,1,1,0,0] zvE
def zW5:AExit→List AV→zaa→Prop:=zas tP zef [1,1,0,0,1,1,0] zvE (zbL zEY Kb7 (zEU K Kb3))
def zEV:Prop:=ALoop tP zW6 (zW5 K Kb3 Kb7) (zos t0 t1 t2 t3 t9 t11 t13 t20 t21 t37 t38 t39 t43 t44 t45) H
def zvz (t0 t1 t2 t3 t9 t11 t13 t20 t21 t37 t38 t39 t43 t44 t45:AV) (H:zaa) (K:Kt) (Kb3:Lt) (Kb7:Lt) (Kb10:Lt):Prop:=zac .lss false t45 t44 λt46=>zag t46 (zak 4 t43 t45 λt47=>zae true 4 t47 H λt48=>zay [.snil,(.bool false),.snil,.snil] H λt15 H=>zao 4 t15 t48 H λH=>zab H (λK'=>K' t11 H) λt49=>zab H (λK'=>zaf 0 t15 (K' · H)) λt50=>zab H (λK'=>zaj false 1 t50 H (K' · H)) λt51=>zav zbf 2 32 .snil t51 H λt52 H=>zab H (λK'=>zaf 0 t13 (K' · H)) λt53=>zab H (λK'=>zaj true 2 t53 H (K' · H)) λt54=>zab H (λK'=>zau 2 [(.int .i64 0),.snil] 1 [(0,t54)] (K' · H)) λt55=>zav zbf 2 32 t52 t55 H λt56 H=>zab H (λK'=>zaf 1 t15 (K' · H)) λt57=>zab H (λK'=>zaj true 3 t57 H (K' · H)) λt58=>zab H (λK'=>zaf 2 t13 (K' · H)) λt59=>zab H (λK'=>zaj true 3 t59 H (K' · H)) λt60=>zaA H (λH K'=>ACalls tP zfy [t58,t60] H K') λt61=>zab H (λK'=>zaq [.snil,(.bool false),.snil,.snil] [(0,1),(1,3)] [(0,t56),(1,t61)] (K' · H)) λt62=>zab H (λK'=>zau 4 [.snil,(.bool false),.snil,.snil] 1 [(0,t62)] (K' · H)) λt63=>zav zdw 4 80 t49 t63 H λt64 H=>zab H (λK'=>K' t64 H) λt11=>zac .add false t45 (.int .i64 1) λt65=>Kb10 (zos t0 t1 t2 t3 t9 t11 t13 t20 t21 t37 t38 t39 t43 t44 t65) H) (zac .add false t39 (.int .i64 1) λt66=>Kb7 (zot t0 t1 t2 t3 t9 t11 t20 t21 t37 t38 t66) H)
def zvB:Prop:=zac .lss false t39 t38 λt40=>zag t40 (zak 5 t37 t39 λt41=>zae true 5 t41 H λt42=>zay [(.int .i64 0),.snil,(.bool false),.snil,.snil] H λt13 H=>zao 5 t13 t42 H λH=>zah 1 t9 λt44=>zEV t0 t1 t2 t3 t9 t11 t13 t20 t21 t37 t38 t39 t9 t44 (.int .i64 0) H K Kb3 Kb7) (zac .add false t21 (.int .i64 1) λt68=>Kb3 (ziW t0 t1 t2 t3 t11 t20 t68) H)
def zvA:Prop:=zac .lss false t21 t20 λt22=>zag t22 (zab H (λK'=>K' t0 H) λt24=>zab H (λK'=>K' t1 H) λt25=>zab H (λK'=>K' t21 H) λt26=>zab H (λK'=>zak 3 t25 t26 (K' · H)) λt27=>zab H (λK'=>zaj true 3 t27 H (K' · H)) λt28=>zab H (λK'=>K' t2 H) λt29=>zab H (λK'=>K' t21 H) λt30=>zab H (λK'=>zak 2 t29 t30 (K' · H)) λt31=>zab H (λK'=>zaj true 2 t31 H (K' · H)) λt32=>zab H (λK'=>K' t3 H) λt33=>zab H (λK'=>K' t21 H) λt34=>zab H (λK'=>zak 2 t33 t34 (K' · H)) λt35=>zab H (λK'=>zaj true 2 t35 H (K' · H)) λt36=>zaA H (λH K'=>ACalls tP zj1 [t24,t28,t32,t36] H K') λt37=>zab H (λK'=>zah 1 t37 (K' · H)) λt38=>zab H (λK'=>K' (.int .i64 0) H) λt39=>zou t0 t1 t2 t3 t9 .snil t20 t21 t37 t38 t39 H K Kb3) (K t9 H)
def zES:Prop:=ACalls tP zdO [(.int .i64 1)] H λt16 H=>zaq [.snil,(.bool false),.snil,.snil] [(0,1),(1,3)] [(0,.snil),(1,t16)] λt17=>zau 4 [.snil,(.bool false),.snil,.snil] 1 [(0,t17)] λt18=>zah 1 t1 λt20=>zEW t0 t1 t2 t3 t18 t20 (.int .i64 0) H K
def zdm:Nat→List Bool | 7=>rl false [0,1,1,2,1,1,3,1,32,3,105] | 200009=>rl false [0,6] | 12=>rl false [0,1,1,2,1,1,3,1,54,3,83] | 200014=>rl false [0,6] | 21=>rl false [2,1,6,1,6,1,101,3,29] | 24=>rl false [2,1,6,1,6,1,1,1,99,3,3,3,23] | 200026=>rl false [0,6] | _=>[]
noncomputable def zf8:Code:=Tryz.f90.body.getD .skip
noncomputable def zvN:List ResultVar:=Tryz.f90.results.toList
def zoE:List AV:=t0::ux 1 (t2::t3::ux 1 (t5::ux 3 (t9::ux 32 (t42::t43::t44::ux 105 []))))
def zXw:List Bool:=zdm 7
noncomputable def zXp:Code:=zar [1,1,1,1,0,1,0,0] zf8
def zXm:AExit→List AV→zaa→Prop:=zas tP zdm [1,1,1,1,0,1,0] zf8 (zaz tP zvN K)
def zoF:Prop:=ALoop tP zXp (zXm K) (zoE t0 t2 t3 t5 t9 t42 t43 t44) H
def zoB:List AV:=t0::ux 1 (t2::t3::ux 1 (t5::ux 3 (t9::ux 54 (t64::t65::t66::ux 83 []))))
def zXu:List Bool:=zdm 12
noncomputable def zXn:Code:=zar [1,1,1,1,1,0,1,0,0] zf8
def zXk:AExit→List AV→zaa→Prop:=zas tP zdm [1,1,1,1,1,0,1,0] zf8 (zaz tP zvN K)
def zvL:Prop:=ALoop tP zXn (zXk K) (zoB t0 t2 t3 t5 t9 t64 t65 t66) H
def zoC:List AV:=ux 2 (t2::ux 6 (t9::ux 6 (t16::ux 101 (t118::t119::t120::ux 29 []))))
def zE2:List Bool:=zdm 21
noncomputable def zvK:Code:=zar [1,1,1,1,1,1,1,1,1,0,1,0,0] zf8
def zE0:AExit→List AV→zaa→Prop:=zas tP zdm [1,1,1,1,1,1,1,1,1,0,1,0] zf8 (zaz tP zvN K)
def zvM:Prop:=ALoop tP zvK (zE0 K) (zoC t2 t9 t16 t118 t119 t120) H
def zoD:List AV:=ux 2 (t2::ux 6 (t9::ux 6 (t16::ux 1 (t18::ux 99 (t118::t119::t120::ux 3 (t124::t125::t126::ux 23 []))))))
def zXv:List Bool:=zdm 24
noncomputable def zXo:Code:=zar [1,1,0,0,1,1,0,0] zvK
def zXl:AExit→List AV→zaa→Prop:=zas tP zdm [1,1,0,0,1,1,0] zvK (zbL zE2 Kb21 (zE0 K))
def zE1:Prop:=ALoop tP zXo (zXl K Kb21) (zoD t2 t9 t16 t18 t118 t119 t120 t124 t125 t126) H
def zvI (t2 t9 t16 t18 t118 t119 t120 t124 t125 t126:AV) (H:zaa) (K:Kt) (Kb21:Lt) (Kb24:Lt):Prop:=zac .lss false t126 t125 λt127=>zag t127 (zak 5 t124 t126 λt128=>zae true 5 t128 H λt129=>zay [(.int .i64 0),.snil,(.bool false),.snil,.snil] H λt20 H=>zao 5 t20 t129 H λH=>zab H (λK'=>K' t9 H) λt130=>zab H (λK'=>K' t2 H) λt131=>zab H (λK'=>zak 2 t131 (.int .i64 0) (K' · H)) λt132=>zab H (λK'=>zaf 0 t132 (K' · H)) λt133=>zab H (λK'=>zaj false 1 t133 H (K' · H)) λt134=>zab H (λK'=>zaf 0 t18 (K' · H)) λt135=>zab H (λK'=>zaj false 1 t135 H (K' · H)) λt136=>zab H (λK'=>zaq [(.int .i64 0),.snil] [(0,1),(1,1)] [(0,t134),(1,t136)] (K' · H)) λt137=>zab H (λK'=>zaf 0 t20 (K' · H)) λt138=>zab H (λK'=>zaj true 2 t138 H (K' · H)) λt139=>zaA H (λH K'=>ACalls tP zhN [t137,t139] H K') λt140=>zab H (λK'=>zaf 1 t18 (K' · H)) λt141=>zab H (λK'=>zaj true 3 t141 H (K' · H)) λt142=>zab H (λK'=>zaf 2 t20 (K' · H)) λt143=>zab H (λK'=>zaj true 3 t143 H (K' · H)) λt144=>zaA H (λH K'=>ACalls tP zfy [t142,t144] H K') λt145=>ACalls tP zdh [t130,t140,t145] H λt146 H=>zac .add false t126 (.int .i64 1) λt147=>Kb24 (zoD t2 t146 t16 t18 t118 t119 t120 t124 t125 t147) H) (zac .add false t120 (.int .i64 1) λt148=>Kb21 (zoC t2 t9 t16 t118 t119 t148) H)
def zvH:Prop:=zac .lss false t120 t119 λt121=>zag t121 (zak 4 t118 t120 λt122=>zae true 4 t122 H λt123=>zay [.snil,(.bool false),.snil,.snil] H λt18 H=>zao 4 t18 t123 H λH=>zah 1 t16 λt125=>zE1 t2 t9 t16 t18 t118 t119 t120 t16 t125 (.int .i64 0) H K Kb21) (K t9 H)
def zoA:Prop:=zac .lss false t66 t65 λt67=>zag t67 (zak 5 t64 t66 λt68=>zae true 5 t68 H λt69=>zay [(.int .i64 0),.snil,(.bool false),.snil,.snil] H λt13 H=>zao 5 t13 t69 H λH=>zab H (λK'=>K' t9 H) λt70=>zab H (λK'=>K' t3 H) λt71=>zab H (λK'=>zak 2 t71 (.int .i64 0) (K' · H)) λt72=>zab H (λK'=>zaj true 2 t72 H (K' · H)) λt73=>zab H (λK'=>zaf 0 t13 (K' · H)) λt74=>zab H (λK'=>zaj true 2 t74 H (K' · H)) λt75=>zaA H (λH K'=>ACalls tP zhN [t73,t75] H K') λt76=>zab H (λK'=>zaf 2 t13 (K' · H)) λt77=>zab H (λK'=>zaj true 3 t77 H (K' · H)) λt78=>ACalls tP zdh [t70,t76,t78] H λt79 H=>zac .add false t66 (.int .i64 1) λt80=>Kb12 (zoB t0 t2 t3 t5 t79 t64 t65 t80) H) (zab H (λK'=>K' t2 H) λt81=>zab H (λK'=>zak 2 t81 (.int .i64 0) (K' · H)) λt82=>zab H (λK'=>zaf 0 t82 (K' · H)) λt83=>zab H (λK'=>zaj false 1 t83 H (K' · H)) λt84=>zab H (λK'=>K' t3 H) λt85=>zab H (λK'=>zak 2 t85 (.int .i64 0) (K' · H)) λt86=>zab H (λK'=>zaf 0 t86 (K' · H)) λt87=>zab H (λK'=>zaj false 1 t87 H (K' · H)) λt88=>zab H (λK'=>zac .neq false t84 t88 (K' · H)) λt89=>zag t89 (K t9 H) (zab H (λK'=>K' t0 H) λt92=>zab H (λK'=>zaj true 3 t5 H (K' · H)) λt93=>zab H (λK'=>K' t2 H) λt94=>zab H (λK'=>zak 2 t94 (.int .i64 0) (K' · H)) λt95=>zab H (λK'=>zaf 0 t95 (K' · H)) λt96=>zab H (λK'=>zaj false 1 t96 H (K' · H)) λt97=>zaA H (λH K'=>ACalls tP zjt [t92,t93,t97] H K') λt98=>zab H (λK'=>K' t98 H) λt91=>zab H (λK'=>zaC t91 0 (K' · H)) λt99=>zab H (λK'=>zaC t91 1 (K' · H)) λt100=>zab H (λK'=>K' t99 H) λt14=>zab H (λK'=>K' t100 H) λt15=>zab H (λK'=>K' t0 H) λt101=>zab H (λK'=>zaj true 3 t5 H (K' · H)) λt102=>zab H (λK'=>K' t2 H) λt103=>zab H (λK'=>zaN 1 2 t103 (some (.int .i64 1)) none (K' · H)) λt104=>zab H (λK'=>K' t3 H) λt105=>zab H (λK'=>zaN 1 2 t105 (some (.int .i64 1)) none (K' · H)) λt106=>zaA H (λH K'=>ACalls tP zgw [t101,t102,t104,t106] H K') λt107=>zab H (λK'=>K' t107 H) λt16=>zab H (λK'=>K' t0 H) λt108=>zab H (λK'=>K' t14 H) λt109=>zab H (λK'=>K' t2 H) λt110=>zab H (λK'=>zak 2 t110 (.int .i64 0) (K' · H)) λt111=>zab H (λK'=>zaf 1 t111 (K' · H)) λt112=>zab H (λK'=>zaj false 1 t112 H (K' · H)) λt113=>zab H (λK'=>K' t3 H) λt114=>zab H (λK'=>zak 2 t114 (.int .i64 0) (K' · H)) λt115=>zab H (λK'=>zaf 1 t115 (K' · H)) λt116=>zab H (λK'=>zaj false 1 t116 H (K' · H)) λt117=>zaA H (λH K'=>ACalls tP zkb [t108,t109,t113,t117] H K') λt118=>zab H (λK'=>zah 1 t118 (K' · H)) λt119=>zab H (λK'=>K' (.int .i64 0) H) λt120=>zvM t2 t9 t16 t118 t119 t120 H K))
def zvJ:Prop:=zac .lss false t44 t43 λt45=>zag t45 (zak 5 t42 t44 λt46=>zae true 5 t46 H λt47=>zay [(.int .i64 0),.snil,(.bool false),.snil,.snil] H λt11 H=>zao 5 t11 t47 H λH=>zab H (λK'=>K' t9 H) λt48=>zab H (λK'=>K' t2 H) λt49=>zab H (λK'=>zak 2 t49 (.int .i64 0) (K' · H)) λt50=>zab H (λK'=>zaj true 2 t50 H (K' · H)) λt51=>zab H (λK'=>zaf 0 t11 (K' · H)) λt52=>zab H (λK'=>zaj true 2 t52 H (K' · H)) λt53=>zaA H (λH K'=>ACalls tP zhN [t51,t53] H K') λt54=>zab H (λK'=>zaf 2 t11 (K' · H)) λt55=>zab H (λK'=>zaj true 3 t55 H (K' · H)) λt56=>ACalls tP zdh [t48,t54,t56] H λt57 H=>zac .add false t44 (.int .i64 1) λt58=>Kb7 (zoE t0 t2 t3 t5 t57 t42 t43 t58) H) (zab H (λK'=>K' t0 H) λt59=>zab H (λK'=>zaj true 3 t5 H (K' · H)) λt60=>zab H (λK'=>K' t2 H) λt61=>zab H (λK'=>K' t3 H) λt62=>zab H (λK'=>zaN 1 2 t62 (some (.int .i64 1)) none (K' · H)) λt63=>zaA H (λH K'=>ACalls tP zgw [t59,t60,t61,t63] H K') λt64=>zab H (λK'=>zah 1 t64 (K' · H)) λt65=>zab H (λK'=>K' (.int .i64 0) H) λt66=>zvL t0 t2 t3 t5 t9 t64 t65 t66 H K)
def zoz:Prop:=zat t1 H λt5 H=>zah 1 t2 λt22=>zac .eql false t22 (.int .i64 0) λt23=>zag t23 (zaq [(.int .i64 0),.snil] [(0,1),(1,1)] [(1,t3)] λt26=>ACalls tP zdO [(.int .i64 1)] H λt27 H=>ACalls tP zdh [.snil,t26,t27] H λt28 H=>K t28 H) (zah 1 t3 λt30=>zac .eql false t30 (.int .i64 0) λt31=>zag t31 (zaq [(.int .i64 0),.snil] [(0,1),(1,1)] [(1,t2)] λt34=>ACalls tP zdO [(.int .i64 1)] H λt35 H=>ACalls tP zdh [.snil,t34,t35] H λt36 H=>K t36 H) (zab H (λK'=>K' t0 H) λt37=>zab H (λK'=>zaj true 3 t5 H (K' · H)) λt38=>zab H (λK'=>K' t2 H) λt39=>zab H (λK'=>zaN 1 2 t39 (some (.int .i64 1)) none (K' · H)) λt40=>zab H (λK'=>K' t3 H) λt41=>zaA H (λH K'=>ACalls tP zgw [t37,t38,t40,t41] H K') λt42=>zab H (λK'=>zah 1 t42 (K' · H)) λt43=>zab H (λK'=>K' (.int .i64 0) H) λt44=>zoF t0 t2 t3 t5 .snil t42 t43 t44 H K))
def zf4:Nat→List Bool | 3=>rl false [0,1,1,1,1,1,2,2,25] | 6=>rl false [0,1,1,1,1,1,2,2,6,3,16] | _=>[]
noncomputable def zuR:Code:=Tryz.f46.body.getD .skip
noncomputable def zUA:List ResultVar:=Tryz.f46.results.toList
def znK:List AV:=t0::ux 1 (t2::ux 1 (t4::ux 2 (t7::t8::ux 25 [])))
def zDT:List Bool:=zf4 3
noncomputable def zuS:Code:=zar [1,1,0,1,0,0] zuR
def zDR:AExit→List AV→zaa→Prop:=zas tP zf4 [1,1,0,1,0] zuR (zaz tP zUA K)
def znM:Prop:=ALoop tP zuS (zDR K) (znK t0 t2 t4 t7 t8) H
def ziQ:List AV:=t0::ux 1 (t2::ux 1 (t4::ux 2 (t7::t8::ux 6 (t15::t16::t17::ux 16 []))))
def zUy:List Bool:=zf4 6
noncomputable def zUv:Code:=zar [1,0,0,1,0,0] zuS
def zUu:AExit→List AV→zaa→Prop:=zas tP zf4 [1,0,0,1,0] zuS (zbL zDT Kb3 (zDR K))
def zDS:Prop:=ALoop tP zUv (zUu K Kb3) (ziQ t0 t2 t4 t7 t8 t15 t16 t17) H
def zuT (t0 t2 t4 t7 t8 t15 t16 t17:AV) (H:zaa) (K:Kt) (Kb3:Lt) (Kb6:Lt):Prop:=zac .add false t17 (.int .i64 1) λt32=>Kb6 (ziQ t0 t2 t4 t7 t8 t15 t16 t32) H
def znL:Prop:=zuT t0 t2 t4 t7 t8 t15 t16 t17 H K Kb3 Kb6
def zuQ:Prop:=zac .lss false t17 t16 λt18=>zag t18 (zak 5 t15 t17 λt19=>zae true 5 t19 H λt20=>zay [(.int .i64 0),.snil,(.bool false),.snil,.snil] H λt10 H=>zao 5 t10 t20 H λH=>zae true 3 t4 H λt22=>zaf 0 t10 λt23=>zae true 2 t23 H λt24=>ACalls tP zq5 [t0,t22,t24] H λt25 H=>zac .eql false t25 t8 λt27=>zag t27 (zae true 5 t10 H λt29=>zau 5 [(.int .i64 0),.snil,(.bool false),.snil,.snil] 1 [(0,t29)] λt30=>zav zax 5 88 t7 t30 H λt31 H=>znL t0 t2 t4 t31 t8 t15 t16 t17 H K Kb3 Kb6) (znL t0 t2 t4 t7 t8 t15 t16 t17 H K Kb3 Kb6)) (zac .add false t8 (.int .i64 1) λt14=>Kb3 (znK t0 t2 t4 t7 t14) H)
def zuP:Prop:=zac .leq false t8 (.int .i64 6) λt12=>zag t12 (zah 1 t2 λt16=>zDS t0 t2 t4 t7 t8 t2 t16 (.int .i64 0) H K Kb3) (K t7 H)
def zDQ:Prop:=zat t1 H λt4 H=>znM t0 t2 t4 .snil (.int .i64 0) H K
def zLL (_:Nat):List Bool:=[]
noncomputable def zLM:Code:=Tryz.f13.body.getD .skip
def zAQ:Prop:=zat t1 H λt5 H=>zat t2 H λt6 H=>zat t3 H λt7 H=>zab H (λK'=>K' t0 H) λt13=>zab H (λK'=>zaj true 3 t5 H (K' · H)) λt14=>zab H (λK'=>zaj true 2 t6 H (K' · H)) λt15=>zaA H (λH K'=>ACalls tP zjS [t13,t14,t15] H K') λt16=>zab H (λK'=>K' t0 H) λt17=>zab H (λK'=>zaj true 3 t5 H (K' · H)) λt18=>zab H (λK'=>zaj true 2 t7 H (K' · H)) λt19=>zaA H (λH K'=>ACalls tP zjS [t17,t18,t19] H K') λt20=>zab H (λK'=>K' t16 H) λt10=>zab H (λK'=>K' t20 H) λt11=>zac .lss false t10 (.int .i64 0) λt22=>zad t22 false H (λK'=>K' t11 H) λt24 H=>zad t22 false H (λK'=>zac .lss false t24 (.int .i64 0) (K' · H)) λt25 H=>zam t22 (.bool true) t25 λt26=>zag t26 (zaF [.snil,(.int .i64 1)] (K · H)) (zac .add false t10 t11 λt29=>zac .gtr false t29 (.int .i64 6) λt30=>zag t30 (zaF [.snil,(.int .i64 13)] (K · H)) (zae true 3 t5 H λt32=>zae true 2 t6 H λt33=>zae true 2 t7 H λt34=>ACalls tP zj1 [t0,t32,t33,t34] H λt35 H=>zah 1 t35 λt37=>zac .gtr false t37 (.int .i64 1000) λt38=>zag t38 (zaF [.snil,(.int .i64 9)] (K · H)) (zae true 3 t5 H λt40=>ACalls tP zqS [t0,t40,t35] H λt42 H=>zaF [t42,(.int .i64 0)] (K · H))))
def zov:Nat→List Bool | 5=>rl false [0,2,4,2,57] | _=>[]
noncomputable def zvG:Code:=Tryz.f89.body.getD .skip
noncomputable def zXi:List ResultVar:=Tryz.f89.results.toList
def zow:List AV:=t0::t1::ux 4 (t6::t7::ux 57 [])
def zXg:List Bool:=zov 5
noncomputable def zXe:Code:=zar [1,1,1,0,1,0,0] zvG
def zXd:AExit→List AV→zaa→Prop:=zas tP zov [1,1,1,0,1,0] zvG (zaz tP zXi K)
def zoy:Prop:=ALoop tP zXe (zXd K) (zow t0 t1 t6 t7) H
def zox (t0 t1 t6 t7 t8:AV) (H:zaa) (K:Kt) (Kb5:Lt):Prop:=zae true 3 t8 H λt61=>zau 3 [(.bool false),.snil,.snil] 1 [(0,t61)] λt62=>zav zfq 3 56 t6 t62 H λt63 H=>zac .add false t7 (.int .i64 1) λt30=>Kb5 (zow t0 t1 t63 t30) H
def zvF:Prop:=zac .add false t0 t1 λt27=>zac .leq false t7 t27 λt28=>zag t28 (ACalls tP zdO [(.int .i64 0)] H λt31 H=>zay [(.bool false),.snil,.snil] H λt8 H=>zao 3 t8 t31 H λH=>zff t0 t1 λt35=>zac .geq false t7 t35 λt36=>zag t36 (zac .sub false t7 t0 λt39=>ACalls tP zgp [t39] H λt40 H=>zac .sub false t7 t1 λt43=>ACalls tP zgp [t43] H λt44 H=>ACalls tP zfy [t40,t44] H λt45 H=>zac .add false t0 t1 λt48=>zac .sub false t48 t7 λt50=>ACalls tP zgp [t50] H λt51 H=>ACalls tP zfy [t45,t51] H λt52 H=>zay [(.bool false),.snil,.snil] H λt9 H=>zao 3 t9 t52 H λH=>zab H (λK'=>K' t7 H) λt54=>zaA H (λH K'=>ACalls tP zgp [t54] H K') λt55=>zab H (λK'=>zaj true 3 t9 H (K' · H)) λt56=>zaA H (λH K'=>ACalls tP zqm [t55,t56] H K') λt57=>zab H (λK'=>K' t57 H) λt53=>zab H (λK'=>zaC t53 0 (K' · H)) λt58=>zab H (λK'=>zaC t53 1 (K' · H)) λt59=>zao 3 t8 t58 H λH=>zox t0 t1 t6 t7 t8 H K Kb5) (zox t0 t1 t6 t7 t8 H K Kb5)) (zaF [t6,(.bool true)] (K · H))
def zEZ:Prop:=zac .lss false t0 (.int .i64 0) λt11=>zad t11 false H (λK'=>K' t1 H) λt13 H=>zad t11 false H (λK'=>zac .lss false t13 (.int .i64 0) (K' · H)) λt14 H=>zam t11 (.bool true) t14 λt15=>zad t15 false H (λK'=>K' t0 H) λt17 H=>zad t15 false H (λK'=>zac .gtr false t17 (.int .i64 16) (K' · H)) λt18 H=>zam t15 (.bool true) t18 λt19=>zad t19 false H (λK'=>K' t1 H) λt21 H=>zad t19 false H (λK'=>zac .gtr false t21 (.int .i64 16) (K' · H)) λt22 H=>zam t19 (.bool true) t22 λt23=>zag t23 (zaF [.snil,(.bool false)] (K · H)) (zoy t0 t1 .snil (.int .i64 0) H K)
def zXy (_:Nat):List Bool:=[]
noncomputable def zXz:Code:=Tryz.f91.body.getD .skip
def zE3:Prop:=zat t1 H λt4 H=>zat t2 H λt5 H=>zae true 3 t4 H λt8=>zae true 2 t5 H λt9=>ACalls tP zhY [t0,t8,t9] H λt10 H=>K t10 H
variable {t0 t1 t2 t3 t4 t5 t6 t7 t8 t9 t11 t13 t15 t16 t17 t18 t20 t21 t33 t34 t35 t37 t38 t39 t42 t43 t44 t45 t57 t58 t59 t64 t65 t66 t78 t79 t80 t118 t119 t120 t124 t125 t126} {H} {K} {Kb2 Kb3 Kb5 Kb6 Kb7 Kb12 Kb13 Kb19 Kb21}
theorem zVy (Inv:Nat→AV→zaa→Prop) (n:Nat) (h0:HSc H→Inv n t7 H)
  (ac:Rd1 (λt7=>zn4 t0 t4 t5 t7) (λt7=>λH Kb2=>zu9 t0 t4 t5 t7 H K Kb2) H Inv):zEj t0 t4 t5 t7 H K:=
 lp1 (M:=zn3) zVz t7 (by kernel_rfl) Inv n h0 ac
theorem zVA (h:HSc H→zEi t0 t1 t2 H K):ACalls tP zdh [t0,t1,t2] H K:=
 acb zn3 Tryz.func63 zva (by kernel_rfl) (by kernel_rfl) h
theorem zUp (Inv:Nat→AV→AV→zaa→Prop) (n:Nat) (h0:HSc H→Inv n t9 t35 H)
  (ac:Rd2 (λt9=>λt35=>znF t9 t33 t34 t35) (λt9=>λt35=>λH Kb6=>zuN t9 t33 t34 t35 H K Kb6) H Inv):znJ t9 t33 t34 t35 H K:=
 lp2 (M:=zec) zUs t9 t35 (by kernel_rfl) Inv n h0 ac
theorem zUn (Inv:Nat→AV→AV→zaa→Prop) (n:Nat) (h0:HSc H→Inv n t9 t59 H)
  (ac:Rd2 (λt9=>λt59=>znD t9 t57 t58 t59) (λt9=>λt59=>λH Kb13=>zuL t9 t57 t58 t59 H K Kb13) H Inv):znH t9 t57 t58 t59 H K:=
 lp2 (M:=zec) zUq t9 t59 (by kernel_rfl) Inv n h0 ac
theorem zUo (Inv:Nat→AV→AV→zaa→Prop) (n:Nat) (h0:HSc H→Inv n t9 t80 H)
  (ac:Rd2 (λt9=>λt80=>znE t9 t78 t79 t80) (λt9=>λt80=>λH Kb19=>zuM t9 t78 t79 t80 H K Kb19) H Inv):znI t9 t78 t79 t80 H K:=
 lp2 (M:=zec) zUr t9 t80 (by kernel_rfl) Inv n h0 ac
theorem zUt (h:HSc H→ziP t0 t1 t2 t3 H K):ACalls tP zj1 [t0,t1,t2,t3] H K:=
 acb zec Tryz.func45 zf2 (by kernel_rfl) (by kernel_rfl) h
theorem zW7 (Inv:Nat→AV→AV→zaa→Prop) (n:Nat) (h0:HSc H→Inv n t11 t45 H)
  (ac:Rd2 (λt11=>λt45=>zos t0 t1 t2 t3 t9 t11 t13 t20 t21 t37 t38 t39 t43 t44 t45) (λt11=>λt45=>λH Kb10=>zvz t0 t1 t2 t3 t9 t11 t13 t20 t21 t37 t38 t39 t43 t44 t45 H K Kb3 Kb7 Kb10) H Inv):zEV t0 t1 t2 t3 t9 t11 t13 t20 t21 t37 t38 t39 t43 t44 t45 H K Kb3 Kb7:=
 lp2 (M:=zef) zXa t11 t45 (by kernel_rfl) Inv n h0 ac
theorem zW9 (Inv:Nat→AV→AV→zaa→Prop) (n:Nat) (h0:HSc H→Inv n t11 t39 H)
  (ac:Rd2 (λt11=>λt39=>zot t0 t1 t2 t3 t9 t11 t20 t21 t37 t38 t39) (λt11=>λt39=>λH Kb7=>zvB t0 t1 t2 t3 t9 t11 t20 t21 t37 t38 t39 H K Kb3 Kb7) H Inv):zou t0 t1 t2 t3 t9 t11 t20 t21 t37 t38 t39 H K Kb3:=
 lp2 (M:=zef) zEY t11 t39 (by kernel_rfl) Inv n h0 ac
theorem zW8 (Inv:Nat→AV→AV→zaa→Prop) (n:Nat) (h0:HSc H→Inv n t9 t21 H)
  (ac:Rd2 (λt9=>λt21=>ziW t0 t1 t2 t3 t9 t20 t21) (λt9=>λt21=>λH Kb3=>zvA t0 t1 t2 t3 t9 t20 t21 H K Kb3) H Inv):zEW t0 t1 t2 t3 t9 t20 t21 H K:=
 lp2 (M:=zef) zEX t9 t21 (by kernel_rfl) Inv n h0 ac
theorem zXb (h:HSc H→zES t0 t1 t2 t3 H K):ACalls tP zkb [t0,t1,t2,t3] H K:=
 acb zef Tryz.func88 zvC (by kernel_rfl) (by kernel_rfl) h
theorem zXs (Inv:Nat→AV→AV→zaa→Prop) (n:Nat) (h0:HSc H→Inv n t9 t126 H)
  (ac:Rd2 (λt9=>λt126=>zoD t2 t9 t16 t18 t118 t119 t120 t124 t125 t126) (λt9=>λt126=>λH Kb24=>zvI t2 t9 t16 t18 t118 t119 t120 t124 t125 t126 H K Kb21 Kb24) H Inv):zE1 t2 t9 t16 t18 t118 t119 t120 t124 t125 t126 H K Kb21:=
 lp2 (M:=zdm) zXv t9 t126 (by kernel_rfl) Inv n h0 ac
theorem zXr (Inv:Nat→AV→AV→zaa→Prop) (n:Nat) (h0:HSc H→Inv n t9 t120 H)
  (ac:Rd2 (λt9=>λt120=>zoC t2 t9 t16 t118 t119 t120) (λt9=>λt120=>λH Kb21=>zvH t2 t9 t16 t118 t119 t120 H K Kb21) H Inv):zvM t2 t9 t16 t118 t119 t120 H K:=
 lp2 (M:=zdm) zE2 t9 t120 (by kernel_rfl) Inv n h0 ac
theorem zXq (Inv:Nat→AV→AV→zaa→Prop) (n:Nat) (h0:HSc H→Inv n t9 t66 H)
  (ac:Rd2 (λt9=>λt66=>zoB t0 t2 t3 t5 t9 t64 t65 t66) (λt9=>λt66=>λH Kb12=>zoA t0 t2 t3 t5 t9 t64 t65 t66 H K Kb12) H Inv):zvL t0 t2 t3 t5 t9 t64 t65 t66 H K:=
 lp2 (M:=zdm) zXu t9 t66 (by kernel_rfl) Inv n h0 ac
theorem zXt (Inv:Nat→AV→AV→zaa→Prop) (n:Nat) (h0:HSc H→Inv n t9 t44 H)
  (ac:Rd2 (λt9=>λt44=>zoE t0 t2 t3 t5 t9 t42 t43 t44) (λt9=>λt44=>λH Kb7=>zvJ t0 t2 t3 t5 t9 t42 t43 t44 H K Kb7) H Inv):zoF t0 t2 t3 t5 t9 t42 t43 t44 H K:=
 lp2 (M:=zdm) zXw t9 t44 (by kernel_rfl) Inv n h0 ac
theorem zXx (h:HSc H→zoz t0 t1 t2 t3 H K):ACalls tP zgw [t0,t1,t2,t3] H K:=
 acb zdm Tryz.func90 zf8 (by kernel_rfl) (by kernel_rfl) h
theorem zUx (Inv:Nat→AV→AV→zaa→Prop) (n:Nat) (h0:HSc H→Inv n t7 t17 H)
  (ac:Rd2 (λt7=>λt17=>ziQ t0 t2 t4 t7 t8 t15 t16 t17) (λt7=>λt17=>λH Kb6=>zuQ t0 t2 t4 t7 t8 t15 t16 t17 H K Kb3 Kb6) H Inv):zDS t0 t2 t4 t7 t8 t15 t16 t17 H K Kb3:=
 lp2 (M:=zf4) zUy t7 t17 (by kernel_rfl) Inv n h0 ac
theorem zUw (Inv:Nat→AV→AV→zaa→Prop) (n:Nat) (h0:HSc H→Inv n t7 t8 H)
  (ac:Rd2 (λt7=>λt8=>znK t0 t2 t4 t7 t8) (λt7=>λt8=>λH Kb3=>zuP t0 t2 t4 t7 t8 H K Kb3) H Inv):znM t0 t2 t4 t7 t8 H K:=
 lp2 (M:=zf4) zDT t7 t8 (by kernel_rfl) Inv n h0 ac
theorem zUz (h:HSc H→zDQ t0 t1 t2 H K):ACalls tP zqS [t0,t1,t2] H K:=
 acb zf4 Tryz.func46 zuR (by kernel_rfl) (by kernel_rfl) h
theorem zLN (h:HSc H→zAQ t0 t1 t2 t3 H K):ACalls tP zp8 [t0,t1,t2,t3] H K:=
 acb zLL Tryz.func13 zLM (by kernel_rfl) (by kernel_rfl) h
theorem zXf (Inv:Nat→AV→AV→zaa→Prop) (n:Nat) (h0:HSc H→Inv n t6 t7 H)
  (ac:Rd2 (λt6=>λt7=>zow t0 t1 t6 t7) (λt6=>λt7=>λH Kb5=>zvF t0 t1 t6 t7 H K Kb5) H Inv):zoy t0 t1 t6 t7 H K:=
 lp2 (M:=zov) zXg t6 t7 (by kernel_rfl) Inv n h0 ac
theorem zXh (h:HSc H→zEZ t0 t1 H K):ACalls tP zq4 [t0,t1] H K:=
 acb zov Tryz.func89 zvG (by kernel_rfl) (by kernel_rfl) h
theorem zXA (h:HSc H→zE3 t0 t1 t2 H K):ACalls tP zq5 [t0,t1,t2] H K:=
 acb zXy Tryz.func91 zXz (by kernel_rfl) (by kernel_rfl) h
end
def tmC (p:IT × Nat):List AV:=p.1.cs++zai (p.2:Int)
def tms (s:List (IT × Nat)):List AV:=(s.map tmC).flatten
@[simp] theorem zJQ (p:IT × Nat):(tmC p).length=5:=by simp[tmC,zai]
@[simp] theorem ycd (s:List (IT × Nat)):(tms s).length=s.length*5:=by
 induction s with
 | nil=>rfl
 | cons p s ih=>simp only[tms,List.map_cons,List.flatten_cons,List.length_append,zJQ,List.length_cons]at ih ⊢;omega
theorem zgO (a b:List (IT × Nat)):tms (a++b)=tms a++tms b:=by simp[tms]
theorem zgP (p:IT × Nat) (s:List (IT × Nat)):tms (p::s)=tmC p++tms s:=by simp[tms]
theorem zkL {s:List (IT × Nat)} {k:Nat} (h:k<s.length):tms s=tms (s.take k)++(tmC s[k]++tms (s.drop (k+1))):=by rw[←zgP,←zgO,←List.drop_eq_getElem_cons h,List.take_append_drop]
theorem zip {s:List (IT × Nat)} {k:Nat} (h:k≤s.length):(tms (s.take k)).length=k*5:=by simp[Nat.min_eq_left h]
theorem zJU {s:List (IT × Nat)} {k:Nat} (h:k<s.length):((tms s).drop (k*5)).take 2=s[k].1.cs:=by rw[zkL h,List.drop_left' (zip (by omega)),tmC,List.append_assoc,List.take_left' (by simp)]
theorem zrN {s:List (IT × Nat)} {k:Nat} (h:k<s.length):((tms s).drop (k*5+2)).take 3=zai (s[k].2:Int):=by
 have e:tms s=(tms (s.take k)++s[k].1.cs)++(zai (s[k].2:Int)++tms (s.drop (k+1))):=by rw[zkL h,tmC];simp
 have hl:(tms (s.take k)++s[k].1.cs).length=k*5+2:=by rw[List.length_append,zip (by omega)];simp
 rw[e,List.drop_left' hl,List.take_left' (by simp[zai])]
theorem zzW {s:List (IT × Nat)} {k:Nat} (h:k<s.length) (x:Nat):(tms s).take (k*5+2)++zai (x:Int)++(tms s).drop (k*5+2+3)=tms (s.set k (s[k].1,x)):=by
 have e:tms s=(tms (s.take k)++s[k].1.cs)++(zai (s[k].2:Int)++tms (s.drop (k+1))):=by rw[zkL h,tmC];simp
 have hl:(tms (s.take k)++s[k].1.cs).length=k*5+2:=by rw[List.length_append,zip (by omega)];simp
 have e1:(tms s).take (k*5+2)=tms (s.take k)++s[k].1.cs:=by rw[e,List.take_left' hl]
 have e2:(tms s).drop (k*5+2+3)=tms (s.drop (k+1)):=by rw[←List.drop_drop,e,List.drop_left' hl,List.drop_left' (by simp[zai])]
 rw[e1,e2,List.set_eq_take_append_cons_drop,if_pos h,zgO,zgP,tmC];simp
theorem zgQ (s:List (IT × Nat)) (n:Nat):(tms s).all (AV.scA n)=true:=by
 induction s with
 | nil=>rfl
 | cons p s ih=>rw[zgP,List.all_append,ih,tmC,List.all_append,IT.cs_scA,zgB];rfl
theorem zzV (s:List (IT × Nat)):(tms s).all AV.known=true:=by
 induction s with
 | nil=>rfl
 | cons p s ih=>rw[zgP,List.all_append,ih,tmC,List.all_append,IT.cs_known];simp[zai,AV.known]
def zTm:List AV:=[.int .i64 0,.sl [] .none,.bool false,.sl [] .none,.sl [] .none]
theorem zJS {s:List (IT × Nat)} {k:Nat} (h:k≤s.length) (p:IT × Nat):(zde (tms s++zTm) ((k+1)*5) (((tms s++zTm).drop (k*5)).take ((s.length-k)*5))).take (k*5)++tmC p++(zde (tms s++zTm) ((k+1)*5) (((tms s++zTm).drop (k*5)).take ((s.length-k)*5))).drop (k*5+5)=tms (s.take k++p::s.drop k):=by
 have e:tms s=tms (s.take k)++tms (s.drop k):=by rw[←zgO,List.take_append_drop]
 have hl:=zip h;have hd:(tms (s.drop k)).length=(s.length-k)*5:=by simp
 have e1:((tms s++zTm).drop (k*5)).take ((s.length-k)*5)=tms (s.drop k):=by rw[e,List.append_assoc,List.drop_left' hl,List.take_left' hd]
 rw[e1];have hk:k*5+(s.length-k)*5=s.length*5:=by omega
 unfold zde;have h1:((tms s++zTm).take ((k+1)*5)).length=(k+1)*5:=by simp[zTm];omega
 have h2:((tms s++zTm).drop ((k+1)*5+(tms (s.drop k)).length))=[]:=by apply List.drop_of_length_le;rw[hd];simp[zTm];omega
 rw[h2,List.append_nil];have h3:((tms s++zTm).take ((k+1)*5)++tms (s.drop k)).take (k*5)=tms (s.take k):=by rw[List.take_append_of_le_length (by rw[h1];omega),List.take_take,Nat.min_eq_left (by omega),e,List.append_assoc,List.take_left' hl]
 have h4:((tms s++zTm).take ((k+1)*5)++tms (s.drop k)).drop (k*5+5)=tms (s.drop k):=by rw[List.drop_left' (by rw[h1];omega)]
 rw[h3,h4,zgO,zgP,List.append_assoc]
theorem zVC (s:List (IT × Nat)) (i:IT) (c:Nat) (hi:i.nodes≤1000) (mr:∀ p∈s,p.1.nodes≤1000∧0<p.2∧p.2<1000000000 ^ 20) (hc:c<1000000000 ^ 20) (hl:s.length≤1000000) (id:Nat) (H:zaa) (K:Kt)
  (ap:H[id]?=some (.vec zax 5 s.length (tms s))) (hK:K (.ov id (zba s i c).length) (H.set id (.vec zax 5 (zba s i c).length (tms (zba s i c))))) :
  ACalls tP zdh [.ov id s.length,.agg i.cs,.agg (zai (c:Int))] H K:=by
 refine ACalls.out (zVA λhs=>?_);have fz:=zbr ap;obtain⟨x3,y3,bh,bz,mt⟩:=zck i;have t3:List.take 3 (zai (c:Int))=zai (c:Int):=List.take_of_length_le (by simp);have aN:Sm (c:Int):=zcb (Nat.lt_of_lt_of_le hc (by decide));simp[zEi,Nat.add_assoc,zc3];have il:∀ J,(H++J)[id]?=some (.vec zax 5 s.length (tms s)):=λJ=>zb8 ap;have hscT:∀ n (l:List (IT × Nat)),HSc (H.set id (.vec zax 5 n (tms l))):=λn l=>hs.set (by simp only[AB.sc];exact zgQ l _);have a6:H.set id (.vec zax 5 s.length (tms s))=H:=by
  apply List.ext_getElem?;intro j;by_cases hj:id=j
  ·subst hj;rw[List.getElem?_set_self fz,ap]
  ·rw[List.getElem?_set_ne hj]
 have bj:∀ (l:List (IT × Nat)) (H' J:zaa),l=zba s i c→H'=H.set id (.vec zax 5 l.length (tms l))++J→Out H.length K (.ov id l.length) H':=λl H' J he hH=>by subst he;exact Out.at (b:=.ov id (zba s i c).length) hH (by simp) (hscT _ _) .rfl' rfl (by simp[AV.scV,AV.scA,AV.scB];omega) hK
 have bq:HSc (H++[.cells i.cs,.cells (zai (c:Int))]):=hs.append (by simp[AB.sc,zgB]);have br:∀ X,(H++[AB.cells i.cs,.cells (zai (c:Int))]).set id X=H.set id X++[.cells i.cs,.cells (zai (c:Int))]:=λX=>List.set_append_left _ _ fz;have lm:∀ X Y,(H.set id X++[AB.cells i.cs,.cells (zai (c:Int))]).set id Y=H.set id Y++[.cells i.cs,.cells (zai (c:Int))]:=λX Y=>by rw[List.set_append_left _ _ (by simpa using fz),List.set_set]
 have g2:∀ X J,(H.set id X++J)[id]?=some X:=λX J=>by rw[List.getElem?_append_left (by simpa using fz),List.getElem?_set_self fz]
 have g3:∀ X J,(H.set id X++AB.cells i.cs::J)[H.length]?=some (.cells i.cs):=λX J=>by simp[List.getElem?_append]
 have g4:∀ X Y J,(H.set id X++AB.cells i.cs::Y::J)[H.length+1]?=some Y:=λX Y J=>by simp[List.getElem?_append]
 have hmiss:∀ k,k≤s.length→(∀ (j:Nat) (h:j<k) (h2:j<s.length),IT.cmp s[j].1 i<0)→(∀ h:k<s.length,0<IT.cmp s[k].1 i)→ACalls tP zhS [.agg (zai (c:Int))] (H++[.cells i.cs,.cells (zai (c:Int))]) λt66 H_1=>
   zac .eql false t66 (.int .i64 0) λt67=>zag t67 (Out H.length K (.ov id s.length) H_1)
    (zaq [.int .i64 0,.snil,.bool false,.snil,.snil] [(0,2),(2,3)] [] λt70=>zau 5 [.int .i64 0,.snil,.bool false,.snil,.snil] 1 [(0,t70)] λt71=>
     zav zax 5 88 (.ov id s.length) t71 H_1 λt72 H_2=>zaN 1 5 t72 (some (.int .i64 (IntKind.i64.wrap ((k:Int)+1)))) none λt76=>zaN 1 5 t72 (some (.int .i64 k)) none λt79=>
      zfe 5 t76 t79 H_2 λt80 H_3=>zab H_3 (λK'=>zgb true 2 0 H_3[H.length]? λx=>K' x H_3) λt83=>zaA H_3 (λH K'=>ACalls tP zhL [t83] H K') λt84=>
       zab H_3 (λK'=>zgb true 3 0 H_3[H.length+1]? λx=>K' x H_3) λt85=>zaA H_3 (λH K'=>ACalls tP zdP [t85] H K') λt86=>
        zaq [.int .i64 0,.snil,.bool false,.snil,.snil] [(0,2),(2,3)] [(0,t84),(1,t86)] λt87=>zak 5 t72 (.int .i64 k) λt88=>zao 5 t88 t87 H_3 λH_4=>Out H.length K t72 H_4):=by
  intro k hk fD h0;refine zDj (c:Int) aN _ _ ?_;by_cases cH:c=0
  ·have e0:zba s i c=s:=by simp[zba,cH]
   subst cH;simp;exact bj s _ _ e0.symm (by rw[a6])
  ·have ig:(c:Int).sign=1:=Int.sign_eq_one_of_pos (by omega);have e1:zba s i c=s.take k++(i,c)::s.drop k:=by rw[zba,if_neg cH];exact zFU s i c k hk (λj h=>fD j h (by omega)) h0
   have w1:=wi k (by omega);rw[ig,w1];simp only[zaq,zaI,zau,zaQ,plain,AV.pd,zav,zaM,zaJ,il,Nat.add_assoc];simp[plain,AV.pd,il,br];refine⟨⟨by omega,by omega⟩,by omega,by omega,by omega,?_⟩;rw[g2];simp only[zFF,br,lm];have cI:(tms s++[AV.int .i64 0,.sl [] .none,.bool false,.sl [] .none,.sl [] .none]).all AV.known=true:=by rw[List.all_append,zzV];rfl
   refine⟨⟨⟨⟨trivial,trivial,trivial⟩,trivial,trivial,trivial⟩,cI⟩,?_⟩;have lu:=zJS hk (i,c);have cn:min (s.length+1-k) (s.length+1-(k+1))=s.length-k:=by omega
   rw[cn];simp[g2,g3,g4];refine zaB (.agg i.cs) (λJ=>zLB _ i (Nat.le_refl _) (by omega) _ _ ⟨rfl,rfl⟩) ?_;refine zaB (.agg (zai (c:Int))) (λJ=>zfb _ aN _ _ ⟨rfl,rfl⟩) ?_;have kz:List.drop 5 (i.cs++[AV.bool false,.snil,.snil])=[]:=List.drop_of_length_le (by simp);have fu:∀ x∈i.cs,x.known=true:=List.all_eq_true.1 (IT.cs_known i);have iK:∀ x∈zai (c:Int),x.known=true:=List.all_eq_true.1 (zeY c);simp[g2,kz];have hlay:(zde (tms s++zTm) ((k+1)*5) (((tms s++zTm).drop (k*5)).take ((s.length-k)*5))).length=(s.length+1)*5:=by simp[zde,zTm];omega
   refine⟨by omega,⟨?_,λx hx=>hx.elim (fu x) (iK x)⟩,?_⟩
   ·show _≤(zde (tms s++zTm) ((k+1)*5) (((tms s++zTm).drop (k*5)).take ((s.length-k)*5))).length;omega
   ·rw[lm];have dG:(s.take k++(i,c)::s.drop k).length=s.length+1:=by simp;omega
    have:=bj (s.take k++(i,c)::s.drop k) _ [.cells i.cs,.cells (zai (c:Int))] e1.symm rfl;rw[dG,←lu]at this;simpa[zTm,tmC]using this
 refine zVy (Inv:=λq t7 H'=>∃ k:Nat,k≤s.length∧s.length-k=q∧t7=.int .i64 k∧(∀ (j:Nat) (h:j<s.length),j<k→IT.cmp s[j].1 i<0)∧H'=H++[.cells i.cs,.cells (zai (c:Int))]) s.length ?_ ?_
 ·intro _;exact⟨0,by omega,rfl,rfl,λj h hj=>by omega,rfl⟩
 ·rintro q t7 H' ⟨k,hk,rfl,rfl,fD,rfl⟩ aJ am aM Kb au;have hlow':∀ (j:Nat) (h:j<k),IT.cmp (s[j]'(by omega)).1 i<0:=λj h=>fD j (by omega) h;by_cases ak:k<s.length
  ·obtain⟨ek,eJ,gJ⟩:=mr s[k] (List.getElem_mem ak);have h52:k*5+2≤s.length*5:=by omega
   have eM:=IT.cmp_rng s[k].1 i;simp[zu9,ak,il,zJU ak,zrN ak,t3,Nat.add_assoc];refine⟨h52,?_⟩;refine zaB (.int .i64 (IT.cmp s[k].1 i)) (λJ=>zyZ _ _ _ (Nat.le_refl _) (by omega) _ _ ⟨rfl,rfl⟩) ?_;by_cases h1:IT.cmp s[k].1 i<0
   ·simp[h1,wi k (by omega)];exact au _ _ ⟨s.length-(k+1),by omega,Back.here (by simp) bq (by simp[zn4,ux,AV.sc,AV.scA,AV.scB,AV.scV];omega) ⟨_,rfl,k+1,by omega,rfl,rfl,λj h hj=>by
     by_cases hjk:j=k
     ·subst hjk;exact h1
     ·exact fD j h (by omega),rfl⟩⟩
   ·simp[h1];refine⟨h52,?_⟩;refine zaB (.int .i64 (IT.cmp s[k].1 i)) (λJ=>zyZ _ _ _ (Nat.le_refl _) (by omega) _ _ ⟨rfl,rfl⟩) ?_;by_cases h0:IT.cmp s[k].1 i=0
    ·have jR:Sm (s[k].2:Int):=zcb (Nat.lt_of_lt_of_le gJ (by decide));have dl:Sm ((s[k].2+c:Nat):Int):=zcb (Nat.lt_of_lt_of_le (show s[k].2+c<2*1000000000 ^ 20 by omega) (by decide));have he:zba s i c=s.set k (s[k].1,s[k].2+c):=by
      unfold zba;by_cases cH:c=0
      ·rw[if_pos cH,cH];exact (List.set_getElem_self ak).symm
      ·rw[if_neg cH];exact zFS s i c k ak hlow' h0
     have aR:=zzW ak (s[k].2+c);rw[List.append_assoc,Int.natCast_add]at aR;simp[h0];refine⟨by omega,?_⟩;refine zaB (.agg (zai ((s[k].2+c:Nat):Int))) (λJ=>zU1 _ _ jR aN _ _ ⟨by rw[Int.natCast_add],rfl⟩) ?_;have iK:∀ x∈zai ((s[k].2+c:Nat):Int),x.known=true:=List.all_eq_true.1 (zeY _);simp[br,g2];refine⟨by omega,by omega,?_⟩;have c6:=zrN (s:=s.set k (s[k].1,s[k].2+c)) (k:=k) (by simpa using ak);simp only[List.getElem_set_self,Int.natCast_add]at c6;rw[aR,c6];refine zDj _ (by rw[←Int.natCast_add];exact dl) _ _ ?_;have ig:((s[k].2:Int)+(c:Int)).sign=1:=Int.sign_eq_one_of_pos (by omega);rw[ig];simp[zvb];have:=bj (s.set k (s[k].1,s[k].2+c)) _ [.cells i.cs,.cells (zai (c:Int))] he.symm rfl;simpa using this
    ·have bE:(IT.cmp s[k].1 i == 0)=false:=by simp[h0]
     simp[bE];exact hmiss k (by omega) (λj h h2=>fD j h2 h) (λh=>by omega)
  ·obtain rfl:k=s.length:=by omega
   simp[zu9,il,t3,Nat.add_assoc];exact hmiss s.length (Nat.le_refl _) (λj h h2=>fD j h2 h) (λh=>by omega)
section
variable (t0 t1 t2 t3 t4:AV) (H:zaa) (K:Kt) (Kb3:Lt)
def zNm (_:Nat):List Bool:=[]
noncomputable def zNn:Code:=Tryz.f144.body.getD .skip
def zsO:Prop:=zat t0 H λt2 H=>zat t1 H λt3 H=>zay [(.int .i64 0),.snil] H λt4 H=>zae true 2 t2 H λt5=>zau 2 [(.int .i64 0),.snil] 1 [(0,t5)] λt6=>zaf 1 t3 λt7=>zae false 1 t7 H λt8=>zav zbf 2 32 t6 t8 H λt9 H=>zaq [(.int .i64 0),.snil] [(0,1),(1,1)] [(1,t9)] λt10=>zao 2 t4 t10 H λH=>zae true 2 t4 H λr0=>K r0 H
def zlO:Nat→List Bool | 3=>rl false [0,1,1,3,11] | _=>[]
noncomputable def zsN:Code:=Tryz.f142.body.getD .skip
noncomputable def zNh:List ResultVar:=Tryz.f142.results.toList
def zlP:List AV:=t0::ux 1 (t2::t3::t4::ux 11 [])
def zNf:List Bool:=zlO 3
noncomputable def zNd:Code:=zar [1,1,0,1,0,0] zsN
def zNc:AExit→List AV→zaa→Prop:=zas tP zlO [1,1,0,1,0] zsN (zaz tP zNh K)
def zBu:Prop:=ALoop tP zNd (zNc K) (zlP t0 t2 t3 t4) H
def zsM:Prop:=zac .leq false t4 t0 λt8=>zag t8 (zab H (λK'=>zaj true 3 t3 H (K' · H)) λt11=>zab H (λK'=>K' t4 H) λt12=>zaA H (λH K'=>ACalls tP zdO [t12] H K') λt13=>zaA H (λH K'=>ACalls tP zfy [t11,t13] H K') λt14=>zao 3 t3 t14 H λH=>zac .add false t4 (.int .i64 1) λt10=>Kb3 (zlP t0 t2 t3 t10) H) (zae true 3 t3 H λt15=>zao 3 t2 t15 H λH=>zae true 3 t2 H λr0=>K r0 H)
def zBt:Prop:=zay [(.bool false),.snil,.snil] H λt2 H=>ACalls tP zdO [(.int .i64 1)] H λt5 H=>zay [(.bool false),.snil,.snil] H λt3 H=>zao 3 t3 t5 H λH=>zBu t0 t2 t3 (.int .i64 2) H K
variable {t0 t1 t2 t3 t4} {H} {K} {Kb3}
theorem zNo (h:HSc H→zsO t0 t1 H K):ACalls tP zhN [t0,t1] H K:=
 acb zNm Tryz.func144 zNn (by kernel_rfl) (by kernel_rfl) h
theorem zNe (Inv:Nat→AV→zaa→Prop) (n:Nat) (h0:HSc H→Inv n t4 H)
  (ac:Rd1 (λt4=>zlP t0 t2 t3 t4) (λt4=>λH Kb3=>zsM t0 t2 t3 t4 H K Kb3) H Inv):zBu t0 t2 t3 t4 H K:=
 lp1 (M:=zlO) zNf t4 (by kernel_rfl) Inv n h0 ac
theorem zNg (h:HSc H→zBt t0 H K):ACalls tP zgp [t0] H K:=
 acb zlO Tryz.func142 zsN (by kernel_rfl) (by kernel_rfl) h
end
end Go.Proofs.YtdmamdnkcefmmaaGreatDoor
