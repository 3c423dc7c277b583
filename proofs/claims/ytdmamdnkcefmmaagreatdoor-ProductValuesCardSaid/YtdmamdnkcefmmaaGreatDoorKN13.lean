import Derived.Test.YtdmamdnkcefmmaaGreatDoorKNum
import Derived.Test.YtdmamdnkcefmmaaGreatDoorProg
import Derived.KernelRfl
import Derived.Test.YtdmamdnkcefmmaaGreatDoorKP11
import Derived.Test.YtdmamdnkcefmmaaGreatDoorKI2
import Derived.Test.YtdmamdnkcefmmaaGreatDoorAbsQ1
set_option linter.unusedSimpArgs false
set_option linter.unusedVariables false
set_option maxRecDepth 8000
namespace Go.Proofs.YtdmamdnkcefmmaaGreatDoor
open Go Go.Abs
set_option maxRecDepth 100000
section
variable (t0 t1 t2 t3 t4 t5 t6 t7 t8 t9 t10 t12 t13 t14 t15 t19 t21 t22 t67 t68 t69 t107 t108 t109:AV) (H:zaa) (K:Kt) (Kb3 Kb4 Kb10 Kb14 Kb17 Kb25:Lt)
def zmd:Nat→List Bool | 3=>rl false [3,1,3,3,9] | _=>[]
noncomputable def zsV:Code:=Tryz.f17.body.getD .skip
noncomputable def zOc:List ResultVar:=Tryz.f17.results.toList
def zme:List AV:=ux 3 (t3::ux 3 (t7::t8::t9::ux 9 []))
def zOa:List Bool:=zmd 3
noncomputable def zN8:Code:=zar [1,1,0,1,0,0] zsV
def zN7:AExit→List AV→zaa→Prop:=zas tP zmd [1,1,0,1,0] zsV (zay tP zOc K)
def zBp:Prop:=ALoop tP zN8 (zN7 K) (zme t3 t7 t8 t9) H
def zsU:Prop:=zac .lss false t9 t8 λt10=>zag t10 (zaj 3 t7 t9 λt11=>zae true 3 t11 H λt12=>zav [(.int .i64 0),(.int .i64 0),.snil] H λt5 H=>zan 3 t5 t12 H λH=>zae true 3 t5 H λt14=>ACalls tP zjs [t14] H λt15 H=>zac .add false t3 t15 λt16=>zac .add false t9 (.int .i64 1) λt17=>Kb3 (zme t16 t7 t8 t17) H) (K t3 H)
def zA9:Prop:=zaq t0 H λt1 H=>zaf 2 t1 λt6=>zae false 1 t6 H λt7=>zah 1 t7 λt8=>zBp (.int .i64 1) t7 t8 (.int .i64 0) H K
def zPP (_:Nat):List Bool:=[]
noncomputable def zPQ:Code:=Tryz.f19.body.getD .skip
def zB5:Prop:=zaq t1 H λt5 H=>zaq t2 H λt6 H=>zaq t3 H λt7 H=>zav [(.bool false),.snil,.snil] H λt8 H=>zae true 3 t5 H λt11=>zae true 2 t6 H λt12=>ACalls tP zjP [t0,t11,t12] H λt13 H=>aUn .not t13 λt14=>zag t14 (zau [(.bool false),.snil,.snil] [(0,1),(1,1),(2,1)] [] λt15=>zan 3 t8 t15 H λH=>zae true 3 t8 H λr0=>zaE [r0,(.int .i64 1)] (K · H)) (zae true 3 t7 H λt17=>zae true 3 t5 H λt18=>ACalls tP zhF [t0,t17,t18] H λt19 H=>aUn .not t19 λt20=>zag t20 (zau [(.bool false),.snil,.snil] [(0,1),(1,1),(2,1)] [] λt21=>zan 3 t8 t21 H λH=>zae true 3 t8 H λr0=>zaE [r0,(.int .i64 11)] (K · H)) (zae true 3 t5 H λt23=>zae true 2 t6 H λt24=>zae true 3 t7 H λt25=>ACalls tP zfA [t0,t23,t24,t25] H λt26 H=>zan 3 t8 t26 H λH=>zae true 3 t8 H λr0=>zaE [r0,(.int .i64 0)] (K · H)))
def zRc (_:Nat):List Bool:=[]
noncomputable def zRd:Code:=Tryz.f21.body.getD .skip
def zCl:Prop:=zaq t0 H λt2 H=>zaq t1 H λt3 H=>zaf 0 t2 λt5=>zae false 1 t5 H λt6=>zaf 0 t3 λt7=>zae false 1 t7 H λt8=>zac .eql true t6 t8 λt9=>zad t9 true H (λK'=>zaf 1 t2 (K' · H)) λt11 H=>zad t9 true H (λK'=>zae false 1 t11 H (K' · H)) λt12 H=>zad t9 true H (λK'=>zaf 1 t3 (K' · H)) λt13 H=>zad t9 true H (λK'=>zae false 1 t13 H (K' · H)) λt14 H=>zad t9 true H (λK'=>ACalls tP zjW [t12,t14] H K') λt15 H=>zam t9 t15 (.bool false) λt16=>zad t16 true H (λK'=>zaf 2 t2 (K' · H)) λt18 H=>zad t16 true H (λK'=>zae false 1 t18 H (K' · H)) λt19 H=>zad t16 true H (λK'=>zaf 2 t3 (K' · H)) λt20 H=>zad t16 true H (λK'=>zae false 1 t20 H (K' · H)) λt21 H=>zad t16 true H (λK'=>ACalls tP zjW [t19,t21] H K') λt22 H=>zam t16 t22 (.bool false) λt23=>K t23 H
def znO:Nat→List Bool | 4=>rl false [0,2,10,2,12] | _=>[]
noncomputable def zuS:Code:=Tryz.f55.body.getD .skip
noncomputable def zU1:List ResultVar:=Tryz.f55.results.toList
def znP:List AV:=t0::t1::ux 10 (t12::t13::ux 12 [])
def zUZ:List Bool:=znO 4
noncomputable def zUX:Code:=zar [1,1,0,1,0,0] zuS
def zUW:AExit→List AV→zaa→Prop:=zas tP znO [1,1,0,1,0] zuS (zay tP zU1 K)
def zDT:Prop:=ALoop tP zUX (zUW K) (znP t0 t1 t12 t13) H
def zuR:Prop:=zac .lss false t13 t12 λt14=>zag t14 (zab H (λK'=>K' t0 H) λt16=>zab H (λK'=>K' t13 H) λt17=>zab H (λK'=>zaj 1 t16 t17 (K' · H)) λt18=>zab H (λK'=>zal false 1 t18 H (K' · H)) λt19=>zab H (λK'=>K' t1 H) λt20=>zab H (λK'=>K' t13 H) λt21=>zab H (λK'=>zaj 1 t20 t21 (K' · H)) λt22=>zab H (λK'=>zal false 1 t22 H (K' · H)) λt23=>zab H (λK'=>zac .neq false t19 t23 (K' · H)) λt24=>zag t24 (K (.bool false) H) (zac .add false t13 (.int .i64 1) λt25=>Kb4 (znP t0 t1 t12 t25) H)) (K (.bool true) H)
def zDS:Prop:=zah 1 t0 λt7=>zah 1 t1 λt9=>zac .neq false t7 t9 λt10=>zag t10 (K (.bool false) H) (zah 1 t0 λt12=>zDT t0 t1 t12 (.int .i64 0) H K)
def zdk:Nat→List Bool | 10=>rl false [0,1,4,6,139] | 14=>rl false [0,1,4,2,1,2,57,3,80] | 17=>rl false [0,1,4,2,1,2,2,2,53,3,80] | 25=>rl false [0,1,4,2,1,2,2,4,3,1,47,3,37,3,40] | _=>[]
noncomputable def ziH:Code:=Tryz.f52.body.getD .skip
noncomputable def zDO:List ResultVar:=Tryz.f52.results.toList
def znJ:List AV:=t0::ux 4 (t5::t6::t7::t8::t9::t10::ux 139 [])
def zUO:List Bool:=zdk 10
noncomputable def zUI:Code:=zar [1,0,1,0,1,1,1,1,1,0,1,1,0,1,0,0] ziH
def zUG:AExit→List AV→zaa→Prop:=zas tP zdk [1,0,1,0,1,1,1,1,1,0,1,1,0,1,0] ziH (zay tP zDO K)
def zuO:Prop:=ALoop tP zUI (zUG K) (znJ t0 t5 t6 t7 t8 t9 t10) H
def znK:List AV:=t0::ux 4 (t5::t6::ux 1 (t8::t9::ux 57 (t67::t68::t69::ux 80 [])))
def zDL:List Bool:=zdk 14
noncomputable def zuL:Code:=zar [1,0,1,0,1,1,1,1,1,0,1,1,1,0,1,0,0] ziH
def zDI:AExit→List AV→zaa→Prop:=zas tP zdk [1,0,1,0,1,1,1,1,1,0,1,1,1,0,1,0] ziH (zay tP zDO K)
def zuP:Prop:=ALoop tP zuL (zDI K) (znK t0 t5 t6 t8 t9 t67 t68 t69) H
def ziI:List AV:=t0::ux 4 (t5::t6::ux 1 (t8::t9::ux 2 (t12::t13::ux 53 (t67::t68::t69::ux 80 []))))
def zDM:List Bool:=zdk 17
noncomputable def zuM:Code:=zar [1,1,0,0,1,1,0,0] zuL
def zDJ:AExit→List AV→zaa→Prop:=zas tP zdk [1,1,0,0,1,1,0] zuL (zbV zDL Kb14 (zDI K))
def zDK:Prop:=ALoop tP zuM (zDJ K Kb14) (ziI t0 t5 t6 t8 t9 t12 t13 t67 t68 t69) H
def zuN (t0 t5 t6 t8 t9 t12 t13 t67 t68 t69:AV) (H:zaa) (K:Kt) (Kb14:Lt) (Kb17:Lt):Prop:=zac .sub false t13 (.int .i64 1) λt79=>Kb17 (ziI t0 t5 t6 t8 t9 t12 t79 t67 t68 t69) H
def znM:Prop:=zuN t0 t5 t6 t8 t9 t12 t13 t67 t68 t69 H K Kb14 Kb17
def znL:List AV:=t0::ux 4 (t5::t6::ux 1 (t8::t9::ux 2 (t12::t13::t14::t15::ux 3 (t19::ux 47 (t67::t68::t69::ux 37 (t107::t108::t109::ux 40 []))))))
def zUP:List Bool:=zdk 25
noncomputable def zUJ:Code:=zar [1,0,0,1,1,1,1,1,0,1,0,0] zuM
def zUH:AExit→List AV→zaa→Prop:=zas tP zdk [1,0,0,1,1,1,1,1,0,1,0] zuM (zbV zDM Kb17 (zDJ K Kb14))
def znN:Prop:=ALoop tP zUJ (zUH K Kb14 Kb17) (znL t0 t5 t6 t8 t9 t12 t13 t14 t15 t19 t67 t68 t69 t107 t108 t109) H
def zuK:Prop:=zac .lss false t109 t108 λt110=>zag t110 (zaj 1 t107 t109 λt111=>zae false 1 t111 H λt112=>zaf 2 t12 λt114=>zae false 1 t114 H λt115=>zaj 3 t115 t112 λt117=>zae true 3 t117 H λt118=>zaw 3 [(.int .i64 0),(.int .i64 0),.snil] 1 [(0,t118)] λt119=>zax zcf 3 40 t19 t119 H λt120 H=>zac .add false t109 (.int .i64 1) λt121=>Kb25 (znL t0 t5 t6 t8 t9 t12 t13 t14 t15 t120 t67 t68 t69 t107 t108 t121) H) (zab H (λK'=>K' t9 H) λt122=>zab H (λK'=>K' t13 H) λt123=>zab H (λK'=>K' t9 H) λt124=>zab H (λK'=>K' t13 H) λt125=>zab H (λK'=>zaj 3 t124 t125 (K' · H)) λt126=>zab H (λK'=>zal true 3 t126 H (K' · H)) λt127=>zab H (λK'=>K' t9 H) λt128=>zab H (λK'=>K' t13 H) λt129=>zab H (λK'=>zac .sub false t129 (.int .i64 1) (K' · H)) λt130=>zab H (λK'=>zaj 3 t128 t130 (K' · H)) λt131=>zab H (λK'=>zal true 3 t131 H (K' · H)) λt132=>zab H (λK'=>K' t0 H) λt133=>zab H (λK'=>K' t15 H) λt134=>zab H (λK'=>zaf 1 t14 (K' · H)) λt135=>zab H (λK'=>zal false 1 t135 H (K' · H)) λt136=>zab H (λK'=>K' t19 H) λt137=>zaC H (λH K'=>ACalls tP zhX [t133,t134,t136,t137] H K') λt138=>zaC H (λH K'=>ACalls tP zfx [t132,t138] H K') λt139=>zaC H (λH K'=>ACalls tP zhQ [t127,t139] H K') λt140=>zab H (λK'=>zaj 3 t122 t123 (K' · H)) λt141=>zan 3 t141 t140 H λH=>znM t0 t5 t6 t8 t9 t12 t13 t67 t68 t69 H K Kb14 Kb17)
def znI:Prop:=zac .gtr false t13 (.int .i64 0) λt77=>zag t77 (zaf 1 t6 λt80=>zae false 1 t80 H λt81=>zac .sub false t13 (.int .i64 1) λt83=>zaj 2 t81 t83 λt84=>zae true 2 t84 H λt85=>zav [(.int .i64 0),.snil] H λt14 H=>zan 2 t14 t85 H λH=>zaf 0 t14 λt86=>zae false 1 t86 H λt87=>zaf 1 t12 λt88=>zae false 1 t88 H λt89=>zac .neq false t87 t89 λt90=>zag t90 (znM t0 t5 t6 t8 t9 t12 t13 t67 t68 t69 H K Kb14 Kb17) (zae true 3 t5 H λt93=>zaf 0 t14 λt94=>zae false 1 t94 H λt95=>ACalls tP zjg [t0,t93,t95] H λt96 H=>zaA t96 0 λt97=>zaA t96 1 λt98=>zae true 3 t5 H λt101=>zaf 0 t14 λt102=>zae false 1 t102 H λt103=>ACalls tP zpE [t0,t101,t103] H λt104 H=>zaA t104 0 λt105=>zaA t104 1 λt106=>zah 1 t105 λt108=>znN t0 t5 t6 t8 t9 t12 t13 t14 t97 .snil t67 t68 t69 t105 t108 (.int .i64 0) H K Kb14 Kb17)) (zac .add false t69 (.int .i64 1) λt142=>Kb14 (znK t0 t5 t6 t8 t9 t67 t68 t142) H)
def zuJ:Prop:=zac .lss false t69 t68 λt70=>zag t70 (zaj 3 t67 t69 λt71=>zae true 3 t71 H λt72=>zav [(.int .i64 0),(.int .i64 0),.snil] H λt12 H=>zan 3 t12 t72 H λH=>zaf 1 t6 λt73=>zae false 1 t73 H λt74=>zah 1 t74 λt75=>zDK t0 t5 t6 t8 t9 t12 t75 t67 t68 t69 H K Kb14) (zaf 1 t6 λt144=>zae false 1 t144 H λt145=>zah 1 t145 λt146=>zaj 3 t9 t146 λt147=>zae true 3 t147 H λt148=>zan 3 t8 t148 H λH=>zae true 3 t8 H λr0=>K r0 H)
def zuI:Prop:=zah 1 t9 λt55=>zac .lss false t10 t55 λt56=>zag t56 (ACalls tP zcZ [(.int .i64 0)] H λt61 H=>zaj 3 t9 t10 λt62=>zan 3 t62 t61 H λH=>zac .add false t10 (.int .i64 1) λt58=>Kb10 (znJ t0 t5 t6 t7 t8 t9 t58) H) (zae true 3 t7 H λt64=>zaf 1 t5 λt65=>zae false 1 t65 H λt66=>ACalls tP zqB [t0,t64,t66] H λt67 H=>zah 1 t67 λt68=>zuP t0 t5 t6 t8 t9 t67 t68 (.int .i64 0) H K)
def ziG:Prop:=zaq t1 H λt5 H=>zaq t2 H λt6 H=>zaq t3 H λt7 H=>zav [(.bool false),.snil,.snil] H λt8 H=>zaf 0 t5 λt22=>zae false 1 t22 H λt23=>zac .eql false t23 (.int .i64 6) λt25=>zag t25 (zaf 2 t5 λt27=>zae false 1 t27 H λt28=>zaf 1 t6 λt29=>zae false 1 t29 H λt30=>zaf 2 t7 λt31=>zae false 1 t31 H λt32=>ACalls tP zhX [t0,t28,t30,t32] H λt33 H=>zan 3 t8 t33 H λH=>zae true 3 t8 H λr0=>K r0 H) (zac .eql false t23 (.int .i64 7) λt35=>zag t35 (zab H (λK'=>zaf 2 t7 (K' · H)) λt36=>zab H (λK'=>zal false 1 t36 H (K' · H)) λt37=>zab H (λK'=>zah 1 t37 (K' · H)) λt38=>zaC H (λH K'=>ACalls tP zcZ [t38] H K') λt39=>zab H (λK'=>zaf 0 t6 (K' · H)) λt40=>zab H (λK'=>zal false 1 t40 H (K' · H)) λt41=>zaC H (λH K'=>ACalls tP zqA [t39,t41] H K') λt42=>zan 3 t8 t42 H λH=>zae true 3 t8 H λr0=>K r0 H) (zac .eql false t23 (.int .i64 5) λt44=>zag t44 (zaf 1 t6 λt45=>zae false 1 t45 H λt46=>zah 1 t46 λt47=>zac .add false t47 (.int .i64 1) λt48=>zba 56 [(.bool false),.snil,.snil] t48 t48 H λt49 H=>ACalls tP zcZ [(.int .i64 1)] H λt51 H=>zaj 3 t49 (.int .i64 0) λt52=>zan 3 t52 t51 H λH=>zuO t0 t5 t6 t7 t8 t49 (.int .i64 1) H K) (ACalls tP zcZ [(.int .i64 1)] H λt149 H=>zan 3 t8 t149 H λH=>zae true 3 t8 H λr0=>K r0 H)))
def zov:Nat→List Bool | 3=>rl false [0,4,4,2,3,2,20] | _=>[]
noncomputable def zvz:Code:=Tryz.f99.body.getD .skip
noncomputable def zXB:List ResultVar:=Tryz.f99.results.toList
def zow:List AV:=t0::t1::t2::t3::ux 4 (t8::t9::ux 3 (t13::t14::ux 20 []))
def zXz:List Bool:=zov 3
noncomputable def zXx:Code:=zar [1,1,0,1,0,0] zvz
def zXw:AExit→List AV→zaa→Prop:=zas tP zov [1,1,0,1,0] zvz (zay tP zXB K)
def zEQ:Prop:=ALoop tP zXx (zXw K) (zow t0 t1 t2 t3 t8 t9 t13 t14) H
def zvy:Prop:=zac .lss false t14 t13 λt15=>zag t15 (zab H (λK'=>zal true 3 t9 H (K' · H)) λt17=>zab H (λK'=>K' t0 H) λt18=>zab H (λK'=>K' t1 H) λt19=>zab H (λK'=>K' t14 H) λt20=>zab H (λK'=>zaj 3 t19 t20 (K' · H)) λt21=>zab H (λK'=>zal true 3 t21 H (K' · H)) λt22=>zab H (λK'=>K' t2 H) λt23=>zab H (λK'=>K' t14 H) λt24=>zab H (λK'=>zaj 2 t23 t24 (K' · H)) λt25=>zab H (λK'=>zal true 2 t25 H (K' · H)) λt26=>zab H (λK'=>K' t3 H) λt27=>zab H (λK'=>K' t14 H) λt28=>zab H (λK'=>zaj 3 t27 t28 (K' · H)) λt29=>zab H (λK'=>zal true 3 t29 H (K' · H)) λt30=>zaC H (λH K'=>ACalls tP zfA [t18,t22,t26,t30] H K') λt31=>zaC H (λH K'=>ACalls tP zfx [t17,t31] H K') λt32=>zan 3 t9 t32 H λH=>zac .add false t14 (.int .i64 1) λt33=>Kb3 (zow t0 t1 t2 t3 t8 t9 t13 t33) H) (zae true 3 t9 H λt34=>zan 3 t8 t34 H λH=>zae true 3 t8 H λr0=>K r0 H)
def zEP:Prop:=zav [(.bool false),.snil,.snil] H λt8 H=>ACalls tP zcZ [(.int .i64 1)] H λt11 H=>zav [(.bool false),.snil,.snil] H λt9 H=>zan 3 t9 t11 H λH=>zah 1 t1 λt13=>zEQ t0 t1 t2 t3 t8 t9 t13 (.int .i64 0) H K
def zXC (_:Nat):List Bool:=[]
noncomputable def zXD:Code:=Tryz.f100.body.getD .skip
def zvA:Prop:=zae true 3 t2 H λt9=>ACalls tP zpV [t9,t1] H λt11 H=>zan 3 t4 t11 H λH=>zae true 3 t4 H λr0=>K r0 H
def zES:Prop:=zaq t0 H λt2 H=>zav [(.bool false),.snil,.snil] H λt4 H=>zae true 3 t2 H λt5=>ACalls tP zqg [t5] H λt6 H=>zac .lss false t6 (.int .i64 0) λt7=>zag t7 (ACalls tP zcZ [(.int .i64 0)] H λt8 H=>zan 3 t2 t8 H λH=>zvA t1 t2 t4 H K) (zvA t1 t2 t4 H K)
def zlO:Nat→List Bool | 3=>rl false [1,2,1,3,21] | _=>[]
noncomputable def zsB:Code:=Tryz.f147.body.getD .skip
noncomputable def zM6:List ResultVar:=Tryz.f147.results.toList
def zlP:List AV:=ux 1 (t1::t2::ux 1 (t4::t5::t6::ux 21 []))
def zM4:List Bool:=zlO 3
noncomputable def zM2:Code:=zar [1,1,0,1,0,0] zsB
def zM1:AExit→List AV→zaa→Prop:=zas tP zlO [1,1,0,1,0] zsB (zay tP zM6 K)
def zA1:Prop:=ALoop tP zM2 (zM1 K) (zlP t1 t2 t4 t5 t6) H
def zsA:Prop:=zac .lss false t6 t1 λt10=>zag t10 (zab H (λK'=>zal true 3 t5 H (K' · H)) λt13=>zab H (λK'=>zal true 3 t2 H (K' · H)) λt14=>zab H (λK'=>K' t6 H) λt15=>zaC H (λH K'=>ACalls tP zcZ [t15] H K') λt16=>zaC H (λH K'=>ACalls tP zp8 [t14,t16] H K') λt17=>zaC H (λH K'=>ACalls tP zfx [t13,t17] H K') λt18=>zan 3 t5 t18 H λH=>zab H (λK'=>zal true 3 t5 H (K' · H)) λt20=>zab H (λK'=>K' t6 H) λt21=>zab H (λK'=>zac .add false t21 (.int .i64 1) (K' · H)) λt22=>zaC H (λH K'=>ACalls tP zcZ [t22] H K') λt23=>zaC H (λH K'=>ACalls tP zpT [t20,t23] H K') λt24=>zab H (λK'=>K' t24 H) λt19=>zab H (λK'=>zaA t19 0 (K' · H)) λt25=>zab H (λK'=>zaA t19 1 (K' · H)) λt26=>zan 3 t5 t25 H λH=>zac .add false t6 (.int .i64 1) λt12=>Kb3 (zlP t1 t2 t4 t5 t12) H) (zae true 3 t5 H λt27=>zan 3 t4 t27 H λH=>zae true 3 t4 H λr0=>K r0 H)
def zA0:Prop:=zaq t0 H λt2 H=>zav [(.bool false),.snil,.snil] H λt4 H=>ACalls tP zcZ [(.int .i64 1)] H λt7 H=>zav [(.bool false),.snil,.snil] H λt5 H=>zan 3 t5 t7 H λH=>zA1 t1 t2 t4 t5 (.int .i64 0) H K
def zXG (_:Nat):List Bool:=[]
noncomputable def zXH:Code:=Tryz.f101.body.getD .skip
def zET:Prop:=zaq t1 H λt4 H=>zae true 3 t4 H λt8=>ACalls tP zjq [t0,t8,t2,.snil] H λt10 H=>K t10 H
def zlQ:Nat→List Bool | 4=>rl false [0,1,1,2,1,1,3,1,11,2,17] | _=>[]
noncomputable def zsD:Code:=Tryz.f148.body.getD .skip
noncomputable def zNd:List ResultVar:=Tryz.f148.results.toList
def zip:List AV:=t0::ux 1 (t2::t3::ux 1 (t5::ux 3 (t9::ux 11 (t21::t22::ux 17 []))))
def zNb:List Bool:=zlQ 4
noncomputable def zM9:Code:=zar [1,1,1,0,1,0,0] zsD
def zM8:AExit→List AV→zaa→Prop:=zas tP zlQ [1,1,1,0,1,0] zsD (zay tP zNd K)
def zA3:Prop:=ALoop tP zM9 (zM8 K) (zip t0 t2 t3 t5 t9 t21 t22) H
def zsE (t0 t2 t3 t5 t9 t21 t22:AV) (H:zaa) (K:Kt) (Kb4:Lt):Prop:=zac .add false t22 (.int .i64 1) λt38=>Kb4 (zip t0 t2 t3 t5 t9 t21 t38) H
def zlR:Prop:=zsE t0 t2 t3 t5 t9 t21 t22 H K Kb4
def zsC:Prop:=zac .lss false t22 t21 λt23=>zag t23 (zaj 1 t9 t22 λt27=>zae false 1 t27 H λt28=>zag t28 (zaf 2 t5 λt30=>zae false 1 t30 H λt31=>zaj 3 t31 t22 λt33=>zae true 3 t33 H λt34=>ACalls tP zjq [t0,t34,t2,t3] H λt37 H=>zlR t0 t2 t37 t5 t9 t21 t22 H K Kb4) (zlR t0 t2 t3 t5 t9 t21 t22 H K Kb4)) (K t3 H)
def zA2:Prop:=zaq t1 H λt5 H=>zae true 3 t5 H λt12=>zaw 3 [(.int .i64 0),(.int .i64 0),.snil] 1 [(0,t12)] λt13=>zax zcf 3 40 t3 t13 H λt14 H=>zaf 1 t5 λt17=>zae false 1 t17 H λt18=>ACalls tP zeX [t0,t2,t18] H λt19 H=>zah 1 t19 λt21=>zA3 t0 t2 t14 t5 t19 t21 (.int .i64 0) H K
variable {t0 t1 t2 t3 t4 t5 t6 t7 t8 t9 t10 t12 t13 t14 t15 t19 t21 t22 t67 t68 t69 t107 t108 t109} {H} {K} {Kb3 Kb4 Kb10 Kb14 Kb17 Kb25}
theorem zN9 (Inv:Nat→AV→AV→zaa→Prop) (n:Nat) (h0:HSc H→Inv n t3 t9 H)
  (ac:Rd2 (λt3=>λt9=>zme t3 t7 t8 t9) (λt3=>λt9=>λH Kb3=>zsU t3 t7 t8 t9 H K Kb3) H Inv):zBp t3 t7 t8 t9 H K:=
 lp2 (M:=zmd) zOa t3 t9 (by kernel_rfl) Inv n h0 ac
theorem zOb (h:HSc H→zA9 t0 H K):ACalls tP zjs [t0] H K:=
 acb zmd Tryz.func17 zsV (by kernel_rfl) (by kernel_rfl) h
theorem zPR (h:HSc H→zB5 t0 t1 t2 t3 H K):ACalls tP zjx [t0,t1,t2,t3] H K:=
 acb zPP Tryz.func19 zPQ (by kernel_rfl) (by kernel_rfl) h
theorem zRe (h:HSc H→zCl t0 t1 H K):ACalls tP zjD [t0,t1] H K:=
 acb zRc Tryz.func21 zRd (by kernel_rfl) (by kernel_rfl) h
theorem zUY (Inv:Nat→AV→zaa→Prop) (n:Nat) (h0:HSc H→Inv n t13 H)
  (ac:Rd1 (λt13=>znP t0 t1 t12 t13) (λt13=>λH Kb4=>zuR t0 t1 t12 t13 H K Kb4) H Inv):zDT t0 t1 t12 t13 H K:=
 lp1 (M:=znO) zUZ t13 (by kernel_rfl) Inv n h0 ac
theorem zU0 (h:HSc H→zDS t0 t1 H K):ACalls tP zjW [t0,t1] H K:=
 acb znO Tryz.func55 zuS (by kernel_rfl) (by kernel_rfl) h
theorem zUN (Inv:Nat→AV→AV→zaa→Prop) (n:Nat) (h0:HSc H→Inv n t19 t109 H)
  (ac:Rd2 (λt19=>λt109=>znL t0 t5 t6 t8 t9 t12 t13 t14 t15 t19 t67 t68 t69 t107 t108 t109) (λt19=>λt109=>λH Kb25=>zuK t0 t5 t6 t8 t9 t12 t13 t14 t15 t19 t67 t68 t69 t107 t108 t109 H K Kb14 Kb17 Kb25) H Inv):znN t0 t5 t6 t8 t9 t12 t13 t14 t15 t19 t67 t68 t69 t107 t108 t109 H K Kb14 Kb17:=
 lp2 (M:=zdk) zUP t19 t109 (by kernel_rfl) Inv n h0 ac
theorem zUM (Inv:Nat→AV→zaa→Prop) (n:Nat) (h0:HSc H→Inv n t13 H)
  (ac:Rd1 (λt13=>ziI t0 t5 t6 t8 t9 t12 t13 t67 t68 t69) (λt13=>λH Kb17=>znI t0 t5 t6 t8 t9 t12 t13 t67 t68 t69 H K Kb14 Kb17) H Inv):zDK t0 t5 t6 t8 t9 t12 t13 t67 t68 t69 H K Kb14:=
 lp1 (M:=zdk) zDM t13 (by kernel_rfl) Inv n h0 ac
theorem zUL (Inv:Nat→AV→zaa→Prop) (n:Nat) (h0:HSc H→Inv n t69 H)
  (ac:Rd1 (λt69=>znK t0 t5 t6 t8 t9 t67 t68 t69) (λt69=>λH Kb14=>zuJ t0 t5 t6 t8 t9 t67 t68 t69 H K Kb14) H Inv):zuP t0 t5 t6 t8 t9 t67 t68 t69 H K:=
 lp1 (M:=zdk) zDL t69 (by kernel_rfl) Inv n h0 ac
theorem zUK (Inv:Nat→AV→zaa→Prop) (n:Nat) (h0:HSc H→Inv n t10 H)
  (ac:Rd1 (λt10=>znJ t0 t5 t6 t7 t8 t9 t10) (λt10=>λH Kb10=>zuI t0 t5 t6 t7 t8 t9 t10 H K Kb10) H Inv):zuO t0 t5 t6 t7 t8 t9 t10 H K:=
 lp1 (M:=zdk) zUO t10 (by kernel_rfl) Inv n h0 ac
theorem zDN (h:HSc H→ziG t0 t1 t2 t3 H K):ACalls tP zfA [t0,t1,t2,t3] H K:=
 acb zdk Tryz.func52 ziH (by kernel_rfl) (by kernel_rfl) h
theorem zXy (Inv:Nat→AV→zaa→Prop) (n:Nat) (h0:HSc H→Inv n t14 H)
  (ac:Rd1 (λt14=>zow t0 t1 t2 t3 t8 t9 t13 t14) (λt14=>λH Kb3=>zvy t0 t1 t2 t3 t8 t9 t13 t14 H K Kb3) H Inv):zEQ t0 t1 t2 t3 t8 t9 t13 t14 H K:=
 lp1 (M:=zov) zXz t14 (by kernel_rfl) Inv n h0 ac
theorem zXA (h:HSc H→zEP t0 t1 t2 t3 H K):ACalls tP zhX [t0,t1,t2,t3] H K:=
 acb zov Tryz.func99 zvz (by kernel_rfl) (by kernel_rfl) h
theorem zXE (h:HSc H→zES t0 t1 H K):ACalls tP zqA [t0,t1] H K:=
 acb zXC Tryz.func100 zXD (by kernel_rfl) (by kernel_rfl) h
theorem zM3 (Inv:Nat→AV→zaa→Prop) (n:Nat) (h0:HSc H→Inv n t6 H)
  (ac:Rd1 (λt6=>zlP t1 t2 t4 t5 t6) (λt6=>λH Kb3=>zsA t1 t2 t4 t5 t6 H K Kb3) H Inv):zA1 t1 t2 t4 t5 t6 H K:=
 lp1 (M:=zlO) zM4 t6 (by kernel_rfl) Inv n h0 ac
theorem zM5 (h:HSc H→zA0 t0 t1 H K):ACalls tP zpV [t0,t1] H K:=
 acb zlO Tryz.func147 zsB (by kernel_rfl) (by kernel_rfl) h
theorem zXI (h:HSc H→zET t0 t1 t2 H K):ACalls tP zqB [t0,t1,t2] H K:=
 acb zXG Tryz.func101 zXH (by kernel_rfl) (by kernel_rfl) h
theorem zNa (Inv:Nat→AV→AV→zaa→Prop) (n:Nat) (h0:HSc H→Inv n t3 t22 H)
  (ac:Rd2 (λt3=>λt22=>zip t0 t2 t3 t5 t9 t21 t22) (λt3=>λt22=>λH Kb4=>zsC t0 t2 t3 t5 t9 t21 t22 H K Kb4) H Inv):zA3 t0 t2 t3 t5 t9 t21 t22 H K:=
 lp2 (M:=zlQ) zNb t3 t22 (by kernel_rfl) Inv n h0 ac
theorem zNc (h:HSc H→zA2 t0 t1 t2 t3 H K):ACalls tP zjq [t0,t1,t2,t3] H K:=
 acb zlQ Tryz.func148 zsD (by kernel_rfl) (by kernel_rfl) h
end
end Go.Proofs.YtdmamdnkcefmmaaGreatDoor
namespace Go.Proofs.YtdmamdnkcefmmaaGreatDoor
open Go Go.Abs Go.RowKit
theorem ACalls.ownA {P:Program} {f:FuncId} {us:List AV} {H:zaa} {K:AV→zaa→Prop} (e size:Nat) (h:ACalls P f (us++[.sl [] (.own H.length)]) (H++[.perm e size 0]) K):ACalls P f (us++[.snil]) H K:=by
 intro B w G vs hH hv;obtain⟨hE,aW⟩:=hH.newOwn e size;have gW:All2 (TRel w ⟨G.L,G.μ++[.own (.slice none 0 0) size 0]⟩) vs.toList (us++[.sl [] (.own H.length)]):=by
  refine All2.of_get (by simpa using hv.length) λi x y hx hy=>?_;by_cases hi:i<us.length
  ·rw[List.getElem?_append_left hi]at hy;obtain⟨x',h1,h2⟩:=hv.get (i:=i) (b:=y) (by rw[List.getElem?_append_left hi];exact hy);rw[hx]at h1;cases h1;exact hE.trel h2
  ·have ap:=(List.getElem?_eq_some_iff.1 hy).1;simp at ap;obtain rfl:i=us.length:=by omega
   simp at hy;subst hy;obtain⟨x',h1,h2⟩:=hv.get (i:=us.length) (b:=.snil) (by simp);rw[hx]at h1;cases h1;have h2:x=.slice none 0 0:=h2;subst h2;refine⟨.slE _ _,.slice none 0 0,size,0,?_,Nat.le_refl _,λ_=>⟨rfl,by simp⟩⟩;rw[←hH.len];simp
 refine (h B w _ vs aW gW).mono λe' w' hp=>?_;obtain⟨v,r,H',G'',h1,h2,h3⟩:=hp;exact⟨v,r,H',G'',h1,hE.trans h2,h3⟩
theorem zyu (rs:List (List Bool)) (b:Nat):∀ v:VT,v.nodes≤b→∀ x∈zbU rs v,x.nodes≤b:=by
 intro v;induction hm:v.nodes using Nat.strongRecOn generalizing v with
 | _ m ih=>
  intro hb x hx;obtain⟨k,n,ks⟩:=v;have key:∀ (l:List VT) (bs:List Bool),(∀ y∈l,y.nodes<m)→∀ x∈zb1 rs l bs,x.nodes≤b:=by
   intro l;induction l with
   | nil=>intro bs _ x hx;simp[zb1]at hx
   | cons y l ihl=>
    intro bs hy x hx
    match bs with
    | []=>simp[zb1]at hx
    | c::bs=>
     simp only[zb1,List.mem_append]at hx;rcases hx with hx | hx
     ·split at hx
      ·have h1:=hy y (by simp);exact ih _ h1 y rfl (by omega) x hx
      ·simp at hx
     ·exact ihl bs (λz hz=>hy z (by simp[hz])) x hx
  simp only[zbU,List.mem_cons]at hx;rcases hx with rfl | hx
  ·omega
  ·exact key ks _ (λy hy=>by have:=zgi (k:=k) (n:=n) y hy;omega) x hx
theorem zNe {aa:List Dat} (hk:zbb aa) {n:Nat} {al:List VT} {rs:List (List Bool)} (hrs:rs=zbK aa n):∀ (m:Nat) (v:VT),v.nodes≤m→v.nodes≤10000→zaI aa v (.mk 5 n al)=true→∀ (H:zaa) (io:Nat) (l:List VT),H[io]?=some (.perm zcf 3 l.length)→l.length+(zbU rs v).length≤1000000 →
  ∀ K:Kt,K (.sl (VT.css (l++zbU rs v)) (.own io)) (H.set io (.perm zcf 3 (l++zbU rs v).length))→ACalls tP zjq [.sl (aa.map Dat.cs) .none,.agg v.cs,.int .i64 n,.sl (VT.css l) (.own io)] H K:=by
 intro m;induction m with
 | zero=>intro v h;have:=v.nodes_pos;omega
 | succ m ih=>
  intro v hm hb hh H io l hP bn K hK;obtain⟨vk,c,ks⟩:=v;obtain⟨rfl,n0,c0,c8,hn,hc,cu,_,gO,dP,gj⟩:=zgg hh;simp only[Int.toNat_natCast]at hn hc cu gO dP gj;rw[←hrs]at gO dP;have bq:=VT.len_le ks;have cy:(VT.mk 5 c ks).nodes=VT.nodesL ks+1:=by simp[VT.nodes]
  have hlt0:=zbi hP;obtain⟨f1,f2,f3⟩:=zeS hk;have hdm:=List.getElem_mem hn;have bF:=List.getElem_mem hc;obtain⟨g1,g2⟩:=f2 _ hdm _ bF;have dY:zbU rs (.mk 5 c ks)=.mk 5 c ks::zb1 rs ks (rs.getD c.toNat []):=by rw[zbU]
  generalize ie:rs.getD c.toNat []=bs at *;have ck:bs.length=ks.length:=by rw[gO,zb2,List.length_map];exact cu.symm
  have cw:∀ (i:Nat) (hi:i<ks.length) (lx:i<bs.length),bs[i]=true→zaI aa ks[i] (.mk 5 n al)=true:=λi hi lx hb=>by
   refine gj i hi (by omega) ?_;have:bs[i]=zbS n (aa[n]).vars (((aa[n]).cons[c.toNat]).args[i]'(by omega)):=by simp[gO,zb2]
   rw[←this];exact hb
  rw[dY]at hK bn;simp only[List.length_cons]at bn;have hpk:=zqN rs ks bs;refine ACalls.out (zNc λhs=>?_);obtain⟨c,rfl⟩:∃ x:Nat,c=x:=⟨c.toNat,by omega⟩;simp only[Int.toNat_natCast]at hc cu gO bF g1 g2;have ly:(VT.mk 5 (c:Int) ks).cs=[.int .i64 5,.int .i64 c,.sl (VT.css ks) .none]:=rfl;have hg:(H++[AB.cells (VT.mk 5 (c:Int) ks).cs])[io]?=some (.perm zcf 3 l.length):=zby hP;simp[zA2];rw[zei];have hset0:∀ X:AB,(H++[AB.cells (VT.mk 5 (c:Int) ks).cs]).set io X=H.set io X++[AB.cells (VT.mk 5 (c:Int) ks).cs]:=λX=>zcw X hP;simp only[zax,zaN,zaK,hg,hset0];refine⟨by simp,by simp,⟨by simp;omega,by simp;omega⟩,?_⟩;simp[ly,List.getElem?_append];refine ztA aa n c hn hc f1 (f3 _ hdm) (by omega) (λx hx=>by have:=g2 x hx;omega) _ _ ?_;rw[←gO];simp[zbH];have aT:VT.css l++[(VT.mk 5 (c:Int) ks).cs]=VT.css (l++[.mk 5 c ks]):=by rw[zwL]
  rw[←ly,aT];have hscp:∀ q,HSc (H.set io (.perm zcf 3 q)):=λq=>hs.set rfl;refine zNa (Inv:=λq t3 t22 H'=>∃ (i:Nat) (ah:List VT),i≤ks.length∧q=ks.length-i∧t22=.int .i64 i∧t3=.sl (VT.css ah) (.own io)∧ah++zb1 rs (ks.drop i) (bs.drop i)=l++.mk 5 c ks::zb1 rs ks bs ∧
   H'=H.set io (.perm zcf 3 ah.length)++[.cells (VT.mk 5 c ks).cs]) ks.length ?_ ?_
  ·intro _;exact⟨0,l++[.mk 5 c ks],by omega,by omega,rfl,rfl,by simp,by simp⟩
  ·rintro q t3 t22 H' ⟨i,ah,hi,rfl,rfl,rfl,ho,rfl⟩ aM aq aO Kb aw;have dh:=congrArg List.length ho;simp only[List.length_append,List.length_cons]at dh;by_cases ap:i<ks.length
   ·have aZ:i<bs.length:=by omega
    obtain⟨x,y,z,aB,hx,hy,hz⟩:=za2 ks[i];have dm:=VT.kid_lt (k:=5) (n:=(c:Int)) ap;rw[zHJ ap aZ]at ho dh;have fu:(H.set io (.perm zcf 3 ah.length)++[AB.cells (VT.mk 5 (c:Int) ks).cs])[io]?=some (.perm zcf 3 ah.length):=zby (zb8 _ hP);have cX:∀ acc' J,acc'++zb1 rs (ks.drop (i+1)) (bs.drop (i+1))=l++.mk 5 c ks::zb1 rs ks bs →
      Kb (zip (.sl (aa.map Dat.cs) .none) (.int .i64 n) (.sl (VT.css acc') (.own io)) (.ptr H.length 0) (.sl (bs.map λb=>[.bool b]) .none) (.int .i64 bs.length) (.int .i64 (IntKind.i64.wrap (i+1)))) (H.set io (.perm zcf 3 acc'.length)++([.cells (VT.mk 5 c ks).cs]++J)):=by
     intro acc' J ha;rw[zat (by omega) (by omega)];refine aw _ _ ⟨ks.length-(i+1),by omega,Back.at (J:=J) (H2:=H.set io (.perm zcf 3 acc'.length)++[.cells (VT.mk 5 c ks).cs]) (by simp) (by simp) ((hscp _).append (by simp[AB.sc])) ?_ ⟨_,_,rfl,i+1,acc',by omega,rfl,by simp,rfl,ha,rfl⟩⟩;simp[zip,AV.sc,AV.scV,AV.scA,AV.scB];try omega
    simp[zsC,ap,aZ,ck];cases en:bs[i] with
    | true=>rw[en,if_pos rfl]at ho dh;simp only[List.length_append]at dh;simp[ly,ap,aB,List.getElem?_append];rw[←ly,←aB];refine ih ks[i] (by omega) (by omega) (cw i ap aZ en) _ io ah fu (by omega) _ ?_;rw[zcw _ (zb8 _ hP),List.set_set];simp[zlR,zsE];have:=cX (ah++zbU rs ks[i]) [] (by simpa using ho);simpa[ck]using this
    | false=>rw[en]at ho;simp at ho;simp[zlR,zsE];have:=cX ah [] ho;simpa[ck]using this
   ·obtain rfl:i=ks.length:=by omega
    rw[List.drop_length]at ho;simp only[zb1,List.append_nil]at ho;subst ho;simp[zsC,ck];exact Out.at rfl (by simp) (hscp _) .rfl' rfl (by simp[AV.scV,AV.scA,AV.scB];omega) (by simpa using hK)
theorem zXJ {aa:List Dat} (hk:zbb aa) {n:Nat} {al:List VT} (v:VT) (hv:v.nodes≤10000) (hh:zaI aa v (.mk 5 n al)=true) (H:zaa) (K:Kt) (hK:K (.sl (VT.css (zbU (zbK aa n) v)) .none) H) :
  ACalls tP zqB [.sl (aa.map Dat.cs) .none,.agg v.cs,.int .i64 n] H K:=by
 refine ACalls.out (zXI λhs=>?_);obtain⟨x,y,z,aB,hx,hy,hz⟩:=za2 v;have hl:=zkm (zbK aa n) v;simp[zET,aB];rw[←aB];refine ACalls.ownA (us:=[.sl (aa.map Dat.cs) .none,.agg v.cs,.int .i64 n]) zcf 3 ?_;refine zNe hk rfl v.nodes v (Nat.le_refl _) hv hh _ _ [] (by simp) (by simp;omega) _ ?_;rw[List.nil_append];exact Out.at (J:=[.cells v.cs,.perm zcf 3 (zbU (zbK aa n) v).length]) (by simp[List.set_append]) (Nat.le_refl _) hs (.atom (.sl _ _)) rfl rfl hK
end Go.Proofs.YtdmamdnkcefmmaaGreatDoor
namespace Go.Proofs.YtdmamdnkcefmmaaGreatDoor
open Go Go.Abs
theorem zqO {aa:List Dat}:∀ (l:List IT) (ts:List VT) (a:Int),0≤a→0≤rdA aa l ts a→a≤rdA aa l ts a
 | [],ts,a,_,_=>by rw[rdA];exact Int.le_refl _
 | i::l,[],a,_,h=>by simp[rdA]at h
 | i::l,t::ts,a,ha,h=>by
  simp only[rdA]at h ⊢;by_cases hc:rdV aa i t<0∨a+rdV aa i t>6
  ·rw[if_pos hc]at h;omega
  ·rw[if_neg hc]at h ⊢;have:=zqO l ts _ (by omega) h;omega
theorem zyt {aa:List Dat} {n:Nat} {al:List VT}:∀ (m:Nat) (v:VT),v.nodes≤m→zaI aa v (.mk 5 n al)=true→∀ x∈zbU (zbK aa n) v,zaI aa x (.mk 5 n al)=true:=by
 intro m;induction m with
 | zero=>intro v h;have:=v.nodes_pos;omega
 | succ m ih=>
  intro v hm hh x hx;obtain⟨vk,c,ks⟩:=v;obtain⟨rfl,n0,c0,c8,hn,hc,cu,_,gO,dP,gj⟩:=zgg hh;simp only[Int.toNat_natCast]at hn hc cu gO dP gj;rw[zbU,List.mem_cons]at hx;rcases hx with rfl | hx
  ·exact hh
  ·rw[gO,zHK _ _ _ (by simpa[zb2]using cu)]at hx;obtain⟨j,hj,hx⟩:=List.mem_flatMap.1 hx;have a6:=zkl hj;have hjl2:j<((aa[n]).cons[c.toNat]).args.length:=by simpa[zb2]using a6
   have gP:j<ks.length:=by omega
   rw[List.getD_eq_getElem?_getD,List.getElem?_eq_getElem gP,Option.getD_some]at hx;have cy:=VT.kid_lt (k:=5) (n:=c) gP;refine ih ks[j] (by omega) (gj j gP hjl2 ?_) x hx;simp[pos,zb2,hjl2]at hj;exact hj
mutual
theorem zoT {aa:List Dat} {N:Nat} (hN:1≤N):∀ (i:IT) (t v:VT),v.nodes≤N→0≤rdV aa i t→atV aa i t v≤N ^ (rdV aa i t).toNat
 | .mk n ks,t,v,hv,hd=>by
  have hY:∀ x∈v.kids,x.nodes≤N:=by obtain⟨a,b,c⟩:=v;intro x hx;simp only[VT.kids]at hx;have:=zgi (k:=a) (n:=b) x hx;omega
  rw[rdV]at hd ⊢;rw[atV];by_cases h6:t.kind=6
  ·simp only[h6,if_true]at hd ⊢;by_cases hn:n=0
   ·by_cases hl:t.kids.length=ks.length
    ·simp only[hn,hl,if_true]at hd ⊢;have:=zi1 hN ks t.kids v.kids 0 (by omega) hY hd;simpa using this
    ·simp[hn,hl]at hd
   ·simp[hn]at hd
  ·by_cases h7:t.kind=7
   ·simp only[h6,h7,if_false,if_true]at hd ⊢;by_cases hc:0≤n∧n≤6∧ks.length=0
    ·simp only[hc,and_self,if_true]at hd ⊢;simp;refine Nat.le_trans (zha _ _) (Nat.pow_le_pow_left ?_ _);obtain⟨a,b,c⟩:=v;have:=VT.len_le c;simp only[VT.kids,VT.nodes]at hv ⊢;omega
    ·rw[if_neg hc]at hd;omega
   ·by_cases h5:t.kind=5
    ·simp only[h6,h7,h5,if_false,if_true]at hd ⊢;by_cases hc:n=0∧ks.length≤6
     ·simp only[hc,and_self,if_true]at hd ⊢;have bW:=zkm (zbK aa t.num.toNat) v;have:=zq7 hN ks t (zbU (zbK aa t.num.toNat) v) 0 (by omega) (by omega) (zyu _ N v hv) hd;simpa using this
     ·rw[if_neg hc]at hd;omega
    ·simp only[h6,h7,h5,if_false]at hd ⊢;exact Nat.pow_pos hN
theorem zi1 {aa:List Dat} {N:Nat} (hN:1≤N):∀ (l:List IT) (ts vs:List VT) (a:Int),0≤a→(∀ x∈vs,x.nodes≤N)→0≤rdA aa l ts a→atL aa l ts vs≤N ^ (rdA aa l ts a-a).toNat
 | [],ts,vs,a,_,_,_=>by rw[atL];exact Nat.pow_pos hN
 | i::l,[],vs,a,_,_,_=>by simp only[atL];exact Nat.pow_pos hN
 | i::l,t::ts,[],a,_,_,_=>by simp only[atL];exact Nat.pow_pos hN
 | i::l,t::ts,v::vs,a,ha,hv,hd=>by
  simp only[rdA]at hd ⊢;by_cases hc:rdV aa i t<0∨a+rdV aa i t>6
  ·rw[if_pos hc]at hd;omega
  ·rw[if_neg hc]at hd ⊢;have h1:=zoT (aa:=aa) hN i t v (hv v (by simp)) (by omega);have h2:=zi1 hN l ts vs (a+rdV aa i t) (by omega) (λx hx=>hv x (by simp[hx])) hd;have cG:=(zqO l ts (a+rdV aa i t) (by omega) hd);simp only[atL];refine Nat.le_trans (Nat.mul_le_mul h1 h2) ?_;rw[←Nat.pow_add];exact Nat.pow_le_pow_right hN (by omega)
theorem zq7 {aa:List Dat} {N:Nat} (hN:1≤N):∀ (es:List IT) (t:VT) (nodes:List VT) (a:Int),0≤a→nodes.length≤N→(∀ x∈nodes,x.nodes≤N)→0≤rdE aa es t a→zaD (wtL aa es t) nodes≤N ^ (rdE aa es t a-a).toNat
 | [],t,nodes,a,_,_,_,_=>by simp only[wtL,zaD];exact Nat.pow_pos hN
 | .mk c ks::es,t,nodes,a,ha,hl,hv,hd=>by
  rw[zev]at hd ⊢;by_cases hc:c<0∨8≤c
  ·rw[if_pos hc]at hd;omega
  ·rw[if_neg hc]at hd ⊢;cases hp:za7 aa t c with
   | none=>rw[hp]at hd;simp at hd
   | some ps=>
    rw[hp]at hd;simp only at hd ⊢;by_cases aq:ps.length=ks.length
    ·rw[if_pos aq]at hd ⊢;by_cases hx:rdA aa ks ps 0<0∨a+1+rdA aa ks ps 0>6
     ·rw[if_pos hx]at hd;omega
     ·rw[if_neg hx]at hd ⊢;have h2:=zq7 hN es t nodes (a+(1+rdA aa ks ps 0)) (by omega) hl hv hd;have hw:∀ x∈nodes,wtE aa (.mk c ks) t x≤N ^ (rdA aa ks ps 0).toNat:=by
       intro x hxm;rw[wtE];split
       ·rw[hp];have hpk:∀ y∈pick x.kids ((zbK aa t.num.toNat).getD c.toNat []),y.nodes≤N:=by intro y hy;have h3:=hv x hxm;obtain⟨p,q,r⟩:=x;have dS:y∈r:=ze0 hy;have:=zgi (k:=p) (n:=q) y dS;omega
        have:=zi1 (aa:=aa) hN ks ps (pick x.kids ((zbK aa t.num.toNat).getD c.toNat [])) 0 (by omega) hpk (by omega);simpa using this
       ·exact Nat.zero_le _
      have h3:=zyU (wtE aa (.mk c ks) t) (wtL aa es t) nodes;have h4:=zzs nodes hw;have cG:rdE aa es t (a+(1+rdA aa ks ps 0))=-1∨(a+(1+rdA aa ks ps 0))+es.length≤rdE aa es t (a+(1+rdA aa ks ps 0)):=zkq es t _ (by omega);rw[wtL];refine Nat.le_trans h3 (Nat.le_trans (Nat.mul_le_mul (Nat.le_trans h4 (Nat.mul_le_mul_right _ hl)) h2) ?_);rw[show N*N ^ (rdA aa ks ps 0).toNat=N ^ ((rdA aa ks ps 0).toNat+1) by rw[Nat.pow_succ,Nat.mul_comm],←Nat.pow_add];exact Nat.pow_le_pow_right hN (by omega)
    ·rw[if_neg aq]at hd;omega
end
def zaJ:IT→Int
 | .mk n _=>n
def bef (e i:IT):IT:=.mk 0 (e::zaz i)
def fct:Nat→Nat
 | 0=>1
 | n+1=>(n+1)*fct n
def pcf (a b k:Nat):Nat:=if max a b≤k then fct k / (fct (k-a)*fct (k-b)*fct (a+b-k)) else 0
def zbG (a b:Nat):List (IT × Nat):=(List.range (a+b+1)).map λ(k:Nat)=>(.mk (k:Int) [],pcf a b k)
def zdB (out:List (List IT × Nat)) (ws:List (IT × Nat)):List (List IT × Nat):=ws.flatMap λw=>out.map λr=>(r.1++[w.1],r.2*w.2)
mutual
def zbz (aa:List Dat):Nat→VT→IT→IT→List (IT × Nat)
 | 0,_,_,_=>[]
 | f+1,t,i,j=>if t.kind=6 then zck [] ((zch aa f t.kids (zaz i) (zaz j)).map λr=>(.mk 0 r.1,r.2))
  else if t.kind=7 then zck [] (zbG (zaJ i).toNat (zaJ j).toNat)
  else if t.kind=5 then zck [] (zaO aa f t (zaz i) (zaz j)) else [(.mk 0 [],1)]
def zch (aa:List Dat):Nat→List VT→List IT→List IT→List (List IT × Nat)
 | 0,_,_,_=>[]
 | f+1,ts,l,m=>(List.range ts.length).foldl (λout k=>zdB out (zbz aa f (ts.getD k tz) (l.getD k d0) (m.getD k d0))) [([],1)]
def zaO (aa:List Dat):Nat→VT→List IT→List IT→List (IT × Nat)
 | 0,_,_,_=>[]
 | f+1,t,[],m=>[(.mk 0 m,1)]
 | f+1,t,a::l,[]=>[(.mk 0 (a::l),1)]
 | f+1,t,a::l,b::m=>
  if zaJ a≠zaJ b then zck (zck [] ((zaO aa f t l (b::m)).map λw=>(bef a w.1,w.2))) ((zaO aa f t (a::l) m).map λw=>(bef b w.1,w.2))
  else zck (zck (zck [] ((zaO aa f t l (b::m)).map λw=>(bef a w.1,w.2))) ((zaO aa f t (a::l) m).map λw=>(bef b w.1,w.2)))
   ((zch aa f ((za7 aa t (zaJ a)).getD []) (zaz a) (zaz b)).flatMap λr=>(zaO aa f t l m).map λw=>(bef (.mk (zaJ a) r.1) w.1,r.2*w.2))
end
def zbg (g:List IT→Nat) (s:List (List IT × Nat)):Nat:=(s.map λr=>r.2*g r.1).foldr (·+·) 0
@[simp] theorem ybA (g:List IT→Nat):zbg g []=0:=rfl
@[simp] theorem zgC (g:List IT→Nat) (r:List IT × Nat) (s:List (List IT × Nat)):zbg g (r::s)=r.2*g r.1+zbg g s:=rfl
theorem zib (g:List IT→Nat):∀ a b,zbg g (a++b)=zbg g a+zbg g b
 | [],b=>by simp
 | p::a,b=>by simp[zib g a b];omega
theorem zgB {β:Type} (f:IT→Nat) (h:β→IT × Nat):∀ l:List β,zaG f (l.map h)=(l.map λx=>(h x).2*f (h x).1).foldr (·+·) 0
 | []=>rfl
 | x::l=>by simp[zgB f h l]
theorem zd5 (f g:IT→Nat) (h:IT→IT) (c:Nat) (he:∀ x,f (h x)=c*g x):∀ l:List (IT × Nat),zaG f (l.map λw=>(h w.1,w.2))=c*zaG g l
 | []=>by simp
 | w::l=>by rw[List.map_cons,zco,zco,zd5 f g h c he l,he,Nat.mul_add];simp only[Nat.mul_comm,Nat.mul_left_comm,Nat.mul_assoc]
theorem zkC (f g1 g2:IT→Nat) (h:IT→IT) (c:Nat) (he:∀ x,f (h x)=c*g1 x+g2 x):∀ l:List (IT × Nat),zaG f (l.map λw=>(h w.1,w.2))=c*zaG g1 l+zaG g2 l
 | []=>by simp
 | w::l=>by rw[List.map_cons,zco,zco,zco,zkC f g1 g2 h c he l,he];simp only[Nat.mul_add];grind
theorem zyH (g:List IT→Nat) (g':List IT→Nat) (u:IT→Nat) (ws:List (IT × Nat)) (out:List (List IT × Nat)) (h:∀ r∈out,∀ w∈ws,g (r.1++[w.1])=g' r.1*u w.1):zbg g (zdB out ws)=zbg g' out*zaG u ws:=by
 unfold zdB;induction ws with
 | nil=>simp
 | cons w ws ih=>
  rw[List.flatMap_cons,zib,ih (λr hr x hx=>h r hr x (by simp[hx])),zco,Nat.mul_add];congr 1;have:∀ out:List (List IT × Nat),(∀ r∈out,g (r.1++[w.1])=g' r.1*u w.1)→zbg g (out.map λr=>(r.1++[w.1],r.2*w.2))=zbg g' out*(w.2*u w.1):=by
   intro out ho;induction out with
   | nil=>simp
   | cons r out ih=>rw[List.map_cons,zgC,zgC,ih (λx hx=>ho x (by simp[hx])),ho r (by simp),Nat.add_mul];grind
  exact this out (λr hr=>h r hr w (by simp))
theorem zyG {out:List (List IT × Nat)} {ws:List (IT × Nat)} {x:List IT × Nat} (h:x∈zdB out ws):∃ r∈out,∃ w∈ws,x=(r.1++[w.1],r.2*w.2):=by unfold zdB at h;obtain⟨w,hw,h⟩:=List.mem_flatMap.1 h;obtain⟨r,hr,rfl⟩:=List.mem_map.1 h;exact⟨r,hr,w,hw,rfl⟩
def zcm (aa:List Dat) (f:Nat) (ts:List VT) (l m:List IT) (k:Nat):List (List IT × Nat):=(List.range k).foldl (λout k=>zdB out (zbz aa f (ts.getD k tz) (l.getD k d0) (m.getD k d0))) [([],1)]
theorem zku (aa:List Dat) (f:Nat) (ts:List VT) (l m:List IT):zcm aa f ts l m 0=[([],1)]:=rfl
theorem zgv (aa:List Dat) (f:Nat) (ts:List VT) (l m:List IT) (k:Nat):zcm aa f ts l m (k+1)=zdB (zcm aa f ts l m k) (zbz aa f (ts.getD k tz) (l.getD k d0) (m.getD k d0)):=by rw[zcm,List.range_succ,List.foldl_append];rfl
theorem zhA (aa:List Dat) (f:Nat) (ts:List VT) (l m:List IT):zch aa (f+1) ts l m=zcm aa f ts l m ts.length:=by rw[zch];rfl
theorem zqT {aa:List Dat} {f:Nat} {ts:List VT} {l m:List IT}:∀ k,∀ r∈zcm aa f ts l m k,r.1.length=k:=by
 intro k;induction k with
 | zero=>intro r hr;simp[zku]at hr;subst hr;rfl
 | succ k ih=>intro r hr;rw[zgv]at hr;obtain⟨q,hq,w,_,rfl⟩:=zyG hr;simp[ih q hq]
theorem zwh (aa:List Dat) (x:IT) (t v:VT):∀ (a:List IT) (ts vs:List VT),a.length=ts.length→vs.length=ts.length→atL aa (a++[x]) (ts++[t]) (vs++[v])=atL aa a ts vs*atV aa x t v
 | [],[],[],_,_=>by simp[atL]
 | [],[],_::_,_,h=>by simp at h
 | [],_::_,_,h,_=>by simp at h
 | _::_,[],_,h,_=>by simp at h
 | _::_,_::_,[],_,h=>by simp at h
 | i::a,t'::ts,v'::vs,h,h'=>by simp only[List.cons_append,atL];rw[zwh aa x t v a ts vs (by simpa using h) (by simpa using h'),Nat.mul_assoc]
theorem zHW {aa:List Dat} {f:Nat} {ts vs:List VT} {l m:List IT} (hl:l.length=ts.length) (hm:m.length=ts.length) (hv:vs.length=ts.length)
  (ff:∀ (j:Nat) (h:j<ts.length),zaG (λx=>atV aa x ts[j] (vs[j]'(by omega))) (zbz aa f ts[j] (l[j]'(by omega)) (m[j]'(by omega)))=atV aa (l[j]'(by omega)) ts[j] (vs[j]'(by omega))*atV aa (m[j]'(by omega)) ts[j] (vs[j]'(by omega))) :
  ∀ k,k≤ts.length→zbg (λr=>atL aa r (ts.take k) (vs.take k)) (zcm aa f ts l m k)=atL aa (l.take k) (ts.take k) (vs.take k)*atL aa (m.take k) (ts.take k) (vs.take k):=by
 intro k;induction k with
 | zero=>intro _;simp[zku,atL]
 | succ k ih=>
  intro hk;have h1:k<ts.length:=by omega
  have h2:k<vs.length:=by omega
  have h3:k<l.length:=by omega
  have h4:k<m.length:=by omega
  have eg:zbz aa f (ts.getD k tz) (l.getD k d0) (m.getD k d0)=zbz aa f ts[k] l[k] m[k]:=by simp[List.getD_eq_getElem?_getD,h1,h3,h4]
  have et:∀ (a:List IT),a.length=k→∀ x,atL aa (a++[x]) (ts.take (k+1)) (vs.take (k+1))=atL aa a (ts.take k) (vs.take k)*atV aa x ts[k] vs[k]:=λa ha x=>by rw[List.take_succ_eq_append_getElem h1,List.take_succ_eq_append_getElem h2];exact zwh aa x _ _ _ _ _ (by simp;omega) (by simp;omega)
  rw[zgv,eg,zyH _ (λr=>atL aa r (ts.take k) (vs.take k)) (λx=>atV aa x ts[k] vs[k]) _ _ (λr hr w _=>et r.1 (zqT k r hr) w.1),ih (by omega),ff k h1,
   List.take_succ_eq_append_getElem h3,List.take_succ_eq_append_getElem h4,et _ (by simp;omega),et _ (by simp;omega)]
  grind
def dl:Nat→Nat→Nat→Nat
 | 0,b,k=>if k=b then 1 else 0
 | a+1,0,k=>if k=a+1 then 1 else 0
 | a+1,b+1,0=>0
 | a+1,b+1,k+1=>dl a (b+1) k+dl (a+1) b k+dl a b k
def zb4 (K:Nat) (f:Nat→Nat):Nat:=((List.range K).map f).foldr (·+·) 0
theorem zw9:∀ (a:List Nat) (x:Nat),(a++[x]).foldr (·+·) 0=a.foldr (·+·) 0+x
 | [],x=>by simp
 | y::a,x=>by simp[zw9 a x];omega
theorem zd6 (K:Nat) (f:Nat→Nat):zb4 (K+1) f=zb4 K f+f K:=by rw[zb4,List.range_succ,List.map_append];exact zw9 _ _
theorem zzq (f:Nat→Nat):zb4 0 f=0:=rfl
theorem zri (f:Nat→Nat):∀ K,zb4 (K+1) f=f 0+zb4 K λk=>f (k+1)
 | 0=>by simp[zd6,zzq]
 | K+1=>by rw[zd6,zri f K,zd6 K λk=>f (k+1)];omega
theorem zkE (f g:Nat→Nat):∀ K,zb4 K (λk=>f k+g k)=zb4 K f+zb4 K g
 | 0=>rfl
 | K+1=>by rw[zd6,zd6,zd6,zkE f g K];omega
theorem zrj (f:Nat→Nat) (b:Nat):∀ K,zb4 K (λk=>(if k=b then 1 else 0)*f k)=if b<K then f b else 0
 | 0=>by simp[zzq]
 | K+1=>by
  rw[zd6,zrj f b K];by_cases h:K=b
  ·subst h;simp
  ·rw[if_neg h];by_cases h2:b<K
   ·rw[if_pos h2,if_pos (by omega)];omega
   ·rw[if_neg h2,if_neg (by omega)];simp
theorem zzp {f g:Nat→Nat}:∀ {K:Nat},(∀ k,k<K→f k=g k)→zb4 K f=zb4 K g
 | 0,_=>rfl
 | K+1,h=>by rw[zd6,zd6,zzp (λk hk=>h k (by omega)),h K (by omega)]
theorem zhh:∀ (n a b K:Nat),a+b<K→zb4 K (λk=>dl a b k*chs n k)=chs n a*chs n b
 | n,0,b,K,h=>by simp only[dl,zo0,Nat.one_mul];rw[zrj,if_pos (by omega)]
 | n,a+1,0,K,h=>by simp only[dl,zo0,Nat.mul_one];rw[zrj,if_pos (by omega)]
 | 0,a+1,b+1,K+1,h=>by
  rw[zri];have:∀ k,chs 0 (k+1)=0:=λk=>rfl;simp only[dl,this,Nat.mul_zero,Nat.zero_mul,Nat.zero_add];induction K with
  | zero=>rfl
  | succ K ih=>
   clear ih;have hz:∀ K,zb4 K (λ_=>0)=0:=λK=>by
    induction K with
    | zero=>rfl
    | succ K ih=>rw[zd6,ih]
   exact hz _
 | n+1,a+1,b+1,K+1,h=>by
  have h0:=zhh n (a+1) (b+1) (K+1) (by omega);have h1:=zhh n a (b+1) K (by omega);have h2:=zhh n (a+1) b K (by omega);have h3:=zhh n a b K (by omega);rw[zri]at h0 ⊢;simp only[dl,Nat.zero_mul,Nat.zero_add,chs]at h0 ⊢;have e:zb4 K (λk=>(dl a (b+1) k+dl (a+1) b k+dl a b k)*(chs n k+chs n (k+1)))=(zb4 K (λk=>dl a (b+1) k*chs n k)+zb4 K (λk=>dl (a+1) b k*chs n k)+zb4 K (λk=>dl a b k*chs n k))+zb4 K λk=>(dl a (b+1) k+dl (a+1) b k+dl a b k)*chs n (k+1):=by rw[←zkE,←zkE,←zkE];refine zzp λk _=>?_;grind
  rw[e,h0,h1,h2,h3];grind
theorem zHC:∀ a,a<7→∀ b,b<7→∀ k,k<13→k≤a+b→pcf a b k=dl a b k:=by decide +kernel
theorem zFy (n a b:Nat) (f:IT→Nat) (hf:∀ k:Nat,f (.mk (k:Int) [])=chs n k) (ha:a≤6) (hb:b≤6):zaG f (zck [] (zbG a b))=chs n a*chs n b:=by rw[zbY,zcG,Nat.zero_add,zbG,zgB];rw[←zhh n a b (a+b+1) (by omega)];unfold zb4;congr 1;refine List.map_congr_left λk hk=>?_;rw[List.mem_range]at hk;rw[hf,zHC a (by omega) b (by omega) k (by omega) (by omega)]
end Go.Proofs.YtdmamdnkcefmmaaGreatDoor
namespace Go.Proofs.YtdmamdnkcefmmaaGreatDoor
open Go Go.Abs
set_option maxRecDepth 100000
section
variable (t0 t1 t2 t3 t4 t5 t6 t7 t8 t9 t10:AV) (H:zaa) (K:Kt) (Kb1 Kb2 Kb3 Kb4 Kb6 Kb7:Lt)
def zTe (_:Nat):List Bool:=[]
noncomputable def zTf:Code:=Tryz.f36.body.getD .skip
def zDc:Prop:=zav [(.bool false),.snil,.snil] H λt2 H=>zac .lss false t0 (.int .i64 0) λt4=>zag t4 (zac .add false t0 (.int .i64 1) λt6=>aUn .neg t6 λt7=>za0 .u64 t7 λt8=>zac .add false t8 (.int .u64 1) λt9=>ACalls tP zhR [t9] H λt10 H=>zaw 1 [(.int .u32 0)] 1 [(0,(.int .u32 1))] λt11=>ACalls tP zdc [(.bool true),t10,t11] H λt12 H=>zan 3 t2 t12 H λH=>zae true 3 t2 H λr0=>K r0 H) (za0 .u64 t0 λt14=>ACalls tP zhR [t14] H λt15 H=>zaw 1 [(.int .u32 0)] 1 [(0,(.int .u32 1))] λt16=>ACalls tP zdc [(.bool false),t15,t16] H λt17 H=>zan 3 t2 t17 H λH=>zae true 3 t2 H λr0=>K r0 H)
def zRs (_:Nat):List Bool:=[]
noncomputable def zRt:Code:=Tryz.f22.body.getD .skip
def zCE:Prop:=zaq t0 H λt2 H=>zaq t1 H λt3 H=>zav [(.bool false),.snil,.snil] H λt4 H=>zab H (λK'=>zal true 3 t2 H (K' · H)) λt5=>zaC H (λH K'=>ACalls tP zer [t5] H K') λt6=>zab H (λK'=>zal true 3 t3 H (K' · H)) λt7=>zaC H (λH K'=>ACalls tP zer [t7] H K') λt8=>zan 3 t2 t6 H λH=>zan 3 t3 t8 H λH=>zab H (λK'=>zaf 0 t2 (K' · H)) λt9=>zab H (λK'=>zal false 1 t9 H (K' · H)) λt10=>zab H (λK'=>zaf 0 t3 (K' · H)) λt11=>zab H (λK'=>zal false 1 t11 H (K' · H)) λt12=>zab H (λK'=>zac .neq true t10 t12 (K' · H)) λt13=>zab H (λK'=>zaf 1 t2 (K' · H)) λt14=>zab H (λK'=>zal false 1 t14 H (K' · H)) λt15=>zab H (λK'=>zaf 1 t3 (K' · H)) λt16=>zab H (λK'=>zal false 1 t16 H (K' · H)) λt17=>zaC H (λH K'=>ACalls tP zdd [t15,t17] H K') λt18=>zab H (λK'=>zaf 2 t2 (K' · H)) λt19=>zab H (λK'=>zal false 1 t19 H (K' · H)) λt20=>zab H (λK'=>zaf 2 t3 (K' · H)) λt21=>zab H (λK'=>zal false 1 t21 H (K' · H)) λt22=>zaC H (λH K'=>ACalls tP zdd [t20,t22] H K') λt23=>zaC H (λH K'=>ACalls tP zdc [t13,t18,t23] H K') λt24=>zan 3 t4 t24 H λH=>zae true 3 t4 H λr0=>K r0 H
def zUT (_:Nat):List Bool:=[]
noncomputable def zUU:Code:=Tryz.f54.body.getD .skip
def zDR:Prop:=zaq t0 H λt2 H=>zaq t1 H λt3 H=>zav [(.bool false),.snil,.snil] H λt4 H=>zab H (λK'=>zal true 3 t2 H (K' · H)) λt8=>zaC H (λH K'=>ACalls tP zer [t8] H K') λt9=>zab H (λK'=>zal true 3 t3 H (K' · H)) λt10=>zaC H (λH K'=>ACalls tP zer [t10] H K') λt11=>zan 3 t2 t9 H λH=>zan 3 t3 t11 H λH=>zab H (λK'=>zaf 1 t2 (K' · H)) λt12=>zab H (λK'=>zal false 1 t12 H (K' · H)) λt13=>zab H (λK'=>zaf 2 t3 (K' · H)) λt14=>zab H (λK'=>zal false 1 t14 H (K' · H)) λt15=>zaC H (λH K'=>ACalls tP zdd [t13,t15] H K') λt16=>zab H (λK'=>zaf 1 t3 (K' · H)) λt17=>zab H (λK'=>zal false 1 t17 H (K' · H)) λt18=>zab H (λK'=>zaf 2 t2 (K' · H)) λt19=>zab H (λK'=>zal false 1 t19 H (K' · H)) λt20=>zaC H (λH K'=>ACalls tP zdd [t18,t20] H K') λt21=>zab H (λK'=>K' t16 H) λt5=>zab H (λK'=>K' t21 H) λt6=>zaf 2 t2 λt22=>zae false 1 t22 H λt23=>zaf 2 t3 λt24=>zae false 1 t24 H λt25=>ACalls tP zdd [t23,t25] H λt26 H=>zaf 0 t2 λt27=>zae false 1 t27 H λt28=>zaf 0 t3 λt29=>zae false 1 t29 H λt30=>zac .eql true t28 t30 λt31=>zag t31 (zab H (λK'=>zaf 0 t2 (K' · H)) λt32=>zab H (λK'=>zal false 1 t32 H (K' · H)) λt33=>zab H (λK'=>K' t5 H) λt34=>zab H (λK'=>K' t6 H) λt35=>zaC H (λH K'=>ACalls tP zpF [t34,t35] H K') λt36=>zab H (λK'=>K' t26 H) λt37=>zaC H (λH K'=>ACalls tP zdc [t33,t36,t37] H K') λt38=>zan 3 t4 t38 H λH=>zae true 3 t4 H λr0=>K r0 H) (ACalls tP zjh [t5,t6] H λt41 H=>zac .geq false t41 (.int .i64 0) λt42=>zag t42 (zab H (λK'=>zaf 0 t2 (K' · H)) λt43=>zab H (λK'=>zal false 1 t43 H (K' · H)) λt44=>zab H (λK'=>K' t5 H) λt45=>zab H (λK'=>K' t6 H) λt46=>zaC H (λH K'=>ACalls tP zhB [t45,t46] H K') λt47=>zab H (λK'=>K' t26 H) λt48=>zaC H (λH K'=>ACalls tP zdc [t44,t47,t48] H K') λt49=>zan 3 t4 t49 H λH=>zae true 3 t4 H λr0=>K r0 H) (zab H (λK'=>zaf 0 t3 (K' · H)) λt50=>zab H (λK'=>zal false 1 t50 H (K' · H)) λt51=>zab H (λK'=>K' t6 H) λt52=>zab H (λK'=>K' t5 H) λt53=>zaC H (λH K'=>ACalls tP zhB [t52,t53] H K') λt54=>zab H (λK'=>K' t26 H) λt55=>zaC H (λH K'=>ACalls tP zdc [t51,t54,t55] H K') λt56=>zan 3 t4 t56 H λH=>zae true 3 t4 H λr0=>K r0 H))
def znY:Nat→List Bool | 2=>rl false [0,1,2,1,11] | _=>[]
noncomputable def zuZ:Code:=Tryz.f71.body.getD .skip
noncomputable def zVy:List ResultVar:=Tryz.f71.results.toList
def znZ:List AV:=t0::ux 2 (t3::ux 11 [])
def zVw:List Bool:=znY 2
noncomputable def zVu:Code:=zar [1,1,0,0,0] zuZ
def zVt:AExit→List AV→zaa→Prop:=zas tP znY [1,1,0,0] zuZ (zay tP zVy K)
def zn0:Prop:=ALoop tP zVu (zVt K) (znZ t0 t3) H
def zuY:Prop:=zac .gtr false t0 (.int .u64 0) λt5=>zag t5 (zac .rem false t0 (.int .u64 1000000000) λt8=>za0 .u32 t8 λt9=>zaw 1 [(.int .u32 0)] 1 [(0,t9)] λt10=>zax za8 1 4 t3 t10 H λt11 H=>zac .quo false t0 (.int .u64 1000000000) λt13=>Kb2 (znZ t13 t11) H) (K t3 H)
def zD5:Prop:=zn0 t0 .snil H K
def zU2 (_:Nat):List Bool:=[]
noncomputable def zU3:Code:=Tryz.f56.body.getD .skip
def zDV:Prop:=zaq t0 H λt1 H=>zav [(.bool false),.snil,.snil] H λt2 H=>zaf 0 t1 λt3=>zae false 1 t3 H λt4=>zaf 1 t1 λt5=>zae false 1 t5 H λt6=>zaf 2 t1 λt7=>zae false 1 t7 H λt8=>ACalls tP zdc [t4,t6,t8] H λt9 H=>zan 3 t2 t9 H λH=>zae true 3 t2 H λr0=>K r0 H
def zf2:Nat→List Bool | 3=>rl false [0,2,3,2,63] | 7=>rl false [0,2,3,4,61] | _=>[]
noncomputable def zuU:Code:=Tryz.f58.body.getD .skip
noncomputable def zVf:List ResultVar:=Tryz.f58.results.toList
def znS:List AV:=t0::t1::ux 3 (t5::t6::ux 63 [])
def zD1:List Bool:=zf2 3
noncomputable def zuV:Code:=zar [1,1,0,1,0,0] zuU
def zDY:AExit→List AV→zaa→Prop:=zas tP zf2 [1,1,0,1,0] zuU (zay tP zVf K)
def zDZ:Prop:=ALoop tP zuV (zDY K) (znS t0 t1 t5 t6) H
def znT:List AV:=t0::t1::ux 3 (t5::t6::t7::t8::ux 61 [])
def zVd:List Bool:=zf2 7
noncomputable def zVa:Code:=zar [1,0,0,1,1,0,0] zuV
def zU9:AExit→List AV→zaa→Prop:=zas tP zf2 [1,0,0,1,1,0] zuV (zbV zD1 Kb3 (zDY K))
def zD0:Prop:=ALoop tP zVa (zU9 K Kb3) (znT t0 t1 t5 t6 t7 t8) H
def znU (t0 t1 t5 t6 t7 t8:AV) (H:zaa) (K:Kt) (Kb3:Lt) (Kb7:Lt):Prop:=zac .add false t6 t8 λt61=>zac .rem false t7 (.int .u64 1000000000) λt63=>za0 .u32 t63 λt64=>zaj 1 t5 t61 λt65=>zan 1 t65 t64 H λH=>zac .quo false t7 (.int .u64 1000000000) λt67=>zac .add false t8 (.int .i64 1) λt31=>Kb7 (znT t0 t1 t5 t6 t67 t31) H
def znR:Prop:=zah 1 t1 λt24=>zac .lss false t8 t24 λt25=>zad t25 false H (λK'=>K' t7 H) λt27 H=>zad t25 false H (λK'=>zac .gtr false t27 (.int .u64 0) (K' · H)) λt28 H=>zam t25 (.bool true) t28 λt29=>zag t29 (zac .add false t6 t8 λt36=>zaj 1 t5 t36 λt37=>zae false 1 t37 H λt38=>za0 .u64 t38 λt39=>zac .add false t7 t39 λt40=>zah 1 t1 λt43=>zac .lss false t8 t43 λt44=>zag t44 (zab H (λK'=>K' t40 H) λt45=>zab H (λK'=>K' t0 H) λt46=>zab H (λK'=>K' t6 H) λt47=>zab H (λK'=>zaj 1 t46 t47 (K' · H)) λt48=>zab H (λK'=>zal false 1 t48 H (K' · H)) λt49=>zab H (λK'=>za0 .u64 t49 (K' · H)) λt50=>zab H (λK'=>K' t1 H) λt51=>zab H (λK'=>K' t8 H) λt52=>zab H (λK'=>zaj 1 t51 t52 (K' · H)) λt53=>zab H (λK'=>zal false 1 t53 H (K' · H)) λt54=>zab H (λK'=>za0 .u64 t54 (K' · H)) λt55=>zab H (λK'=>zac .mul false t50 t55 (K' · H)) λt56=>zab H (λK'=>zac .add false t45 t56 (K' · H)) λt57=>zab H (λK'=>K' t57 H) λt7=>znU t0 t1 t5 t6 t7 t8 H K Kb3 Kb7) (znU t0 t1 t5 t6 t40 t8 H K Kb3 Kb7)) (zac .add false t6 (.int .i64 1) λt21=>Kb3 (znS t0 t1 t5 t21) H)
def zuT:Prop:=zah 1 t0 λt18=>zac .lss false t6 t18 λt19=>zag t19 (zD0 t0 t1 t5 t6 (.int .u64 0) (.int .i64 0) H K Kb3) (ACalls tP zeV [t5] H λt69 H=>K t69 H)
def zDX:Prop:=zah 1 t0 λt10=>zah 1 t1 λt12=>zac .add false t10 t12 λt13=>zac .add false t13 (.int .i64 1) λt14=>zba 4 [(.int .u32 0)] t14 t14 H λt15 H=>zDZ t0 t1 t15 (.int .i64 0) H K
def zkV:Nat→List Bool | 4=>rl false [0,2,3,3,46] | _=>[]
noncomputable def zrO:Code:=Tryz.f104.body.getD .skip
noncomputable def zKi:List ResultVar:=Tryz.f104.results.toList
def zkW:List AV:=t0::t1::ux 3 (t5::t6::t7::ux 46 [])
def zKg:List Bool:=zkV 4
noncomputable def zKe:Code:=zar [1,1,1,0,1,0,0] zrO
def zKd:AExit→List AV→zaa→Prop:=zas tP zkV [1,1,1,0,1,0] zrO (zay tP zKi K)
def zkY:Prop:=ALoop tP zKe (zKd K) (zkW t0 t1 t5 t6 t7) H
def zkX (t0 t1 t5 t7 t8:AV) (H:zaa) (K:Kt) (Kb4:Lt):Prop:=zac .quo false t8 (.int .u32 1000000000) λt47=>zac .rem false t8 (.int .u32 1000000000) λt50=>zaw 1 [(.int .u32 0)] 1 [(0,t50)] λt51=>zax za8 1 4 t5 t51 H λt52 H=>zac .add false t7 (.int .i64 1) λt24=>Kb4 (zkW t0 t1 t52 t47 t24) H
def zgJ:Prop:=zah 1 t1 λt38=>zac .lss false t7 t38 λt39=>zag t39 (zaj 1 t1 t7 λt43=>zae false 1 t43 H λt44=>zac .add false t8 t44 λt45=>zkX t0 t1 t5 t7 t45 H K Kb4) (zkX t0 t1 t5 t7 t8 H K Kb4)
def zgI:Prop:=zah 1 t0 λt11=>zac .lss false t7 t11 λt12=>zad t12 false H (λK'=>K' t7 H) λt14 H=>zad t12 false H (λK'=>K' t1 H) λt15 H=>zad t12 false H (λK'=>zah 1 t15 (K' · H)) λt16 H=>zad t12 false H (λK'=>zac .lss false t14 t16 (K' · H)) λt17 H=>zam t12 (.bool true) t17 λt18=>zad t18 false H (λK'=>K' t6 H) λt20 H=>zad t18 false H (λK'=>zac .gtr false t20 (.int .u32 0) (K' · H)) λt21 H=>zam t18 (.bool true) t21 λt22=>zag t22 (zah 1 t0 λt28=>zac .lss false t7 t28 λt29=>zag t29 (zaj 1 t0 t7 λt33=>zae false 1 t33 H λt34=>zac .add false t6 t34 λt35=>zgJ t0 t1 t5 t7 t35 H K Kb4) (zgJ t0 t1 t5 t7 t6 H K Kb4)) (K t5 H)
def zAa:Prop:=zkY t0 t1 .snil (.int .u32 0) (.int .i64 0) H K
def zk0:Nat→List Bool | 6=>rl false [0,2,3,1,35] | _=>[]
noncomputable def zrP:Code:=Tryz.f105.body.getD .skip
noncomputable def zKp:List ResultVar:=Tryz.f105.results.toList
def zk1:List AV:=t0::t1::ux 3 (t5::ux 35 [])
def zKn:List Bool:=zk0 6
noncomputable def zKl:Code:=zar [1,1,0,1,0,0] zrP
def zKk:AExit→List AV→zaa→Prop:=zas tP zk0 [1,1,0,1,0] zrP (zay tP zKp K)
def zAb:Prop:=ALoop tP zKl (zKk K) (zk1 t0 t1 t5) H
def zii:Prop:=zac .geq false t5 (.int .i64 0) λt20=>zag t20 (zab H (λK'=>K' t0 H) λt23=>zab H (λK'=>K' t5 H) λt24=>zab H (λK'=>zaj 1 t23 t24 (K' · H)) λt25=>zab H (λK'=>zal false 1 t25 H (K' · H)) λt26=>zab H (λK'=>K' t1 H) λt27=>zab H (λK'=>K' t5 H) λt28=>zab H (λK'=>zaj 1 t27 t28 (K' · H)) λt29=>zab H (λK'=>zal false 1 t29 H (K' · H)) λt30=>zab H (λK'=>zac .lss false t26 t30 (K' · H)) λt31=>zag t31 (K (.int .i64 (-1)) H) (zab H (λK'=>K' t0 H) λt32=>zab H (λK'=>K' t5 H) λt33=>zab H (λK'=>zaj 1 t32 t33 (K' · H)) λt34=>zab H (λK'=>zal false 1 t34 H (K' · H)) λt35=>zab H (λK'=>K' t1 H) λt36=>zab H (λK'=>K' t5 H) λt37=>zab H (λK'=>zaj 1 t36 t37 (K' · H)) λt38=>zab H (λK'=>zal false 1 t38 H (K' · H)) λt39=>zab H (λK'=>zac .gtr false t35 t39 (K' · H)) λt40=>zag t40 (K (.int .i64 1) H) (zac .sub false t5 (.int .i64 1) λt22=>Kb6 (zk1 t0 t1 t22) H))) (K (.int .i64 0) H)
def zkZ:Prop:=zah 1 t0 λt7=>zah 1 t1 λt9=>zac .neq false t7 t9 λt10=>zag t10 (zah 1 t0 λt12=>zah 1 t1 λt14=>zac .lss false t12 t14 λt15=>zag t15 (K (.int .i64 (-1)) H) (K (.int .i64 1) H)) (zah 1 t0 λt17=>zac .sub false t17 (.int .i64 1) λt18=>zAb t0 t1 t18 H K)
def zk2:Nat→List Bool | 4=>rl false [0,2,3,3,48] | _=>[]
noncomputable def zrQ:Code:=Tryz.f106.body.getD .skip
noncomputable def zKv:List ResultVar:=Tryz.f106.results.toList
def zij:List AV:=t0::t1::ux 3 (t5::t6::t7::ux 48 [])
def zKt:List Bool:=zk2 4
noncomputable def zKr:Code:=zar [1,1,1,0,1,0,0] zrQ
def zKq:AExit→List AV→zaa→Prop:=zas tP zk2 [1,1,1,0,1,0] zrQ (zay tP zKv K)
def zAe:Prop:=ALoop tP zKr (zKq K) (zij t0 t1 t5 t6 t7) H
def zrR (t0 t1 t5 t6 t7:AV) (H:zaa) (K:Kt) (Kb4:Lt):Prop:=zac .add false t7 (.int .i64 1) λt17=>Kb4 (zij t0 t1 t5 t6 t17) H
def zk4:Prop:=zrR t0 t1 t5 t6 t7 H K Kb4
def zik:Prop:=zaj 1 t0 t7 λt31=>zae false 1 t31 H λt32=>zac .geq false t32 t8 λt34=>zag t34 (zaj 1 t0 t7 λt39=>zae false 1 t39 H λt40=>zac .sub false t40 t8 λt42=>zaj 1 t5 t7 λt43=>zan 1 t43 t42 H λH=>zk4 t0 t1 t5 (.int .u32 0) t7 H K Kb4) (zaj 1 t0 t7 λt48=>zae false 1 t48 H λt49=>zac .add false t49 (.int .u32 1000000000) λt50=>zac .sub false t50 t8 λt52=>zaj 1 t5 t7 λt53=>zan 1 t53 t52 H λH=>zk4 t0 t1 t5 (.int .u32 1) t7 H K Kb4)
def zk3:Prop:=zah 1 t0 λt14=>zac .lss false t7 t14 λt15=>zag t15 (zah 1 t1 λt21=>zac .lss false t7 t21 λt22=>zag t22 (zaj 1 t1 t7 λt26=>zae false 1 t26 H λt27=>zac .add false t6 t27 λt28=>zik t0 t1 t5 t7 t28 H K Kb4) (zik t0 t1 t5 t7 t6 H K Kb4)) (ACalls tP zeV [t5] H λt55 H=>K t55 H)
def zAd:Prop:=zah 1 t0 λt10=>zba 4 [(.int .u32 0)] t10 t10 H λt11 H=>zAe t0 t1 t11 (.int .u32 0) (.int .i64 0) H K
def zSo (_:Nat):List Bool:=[]
noncomputable def zSp:Code:=Tryz.f24.body.getD .skip
def zCM:Prop:=zaq t0 H λt1 H=>zae true 3 t1 H λt3=>ACalls tP zer [t3] H λt4 H=>zan 3 t1 t4 H λH=>zaf 1 t1 λt6=>zae false 1 t6 H λt7=>zah 1 t7 λt8=>zac .eql false t8 (.int .i64 0) λt9=>zag t9 (K (.int .i64 0) H) (zaf 0 t1 λt11=>zae false 1 t11 H λt12=>zag t12 (K (.int .i64 (-1)) H) (K (.int .i64 1) H))
def zQC (_:Nat):List Bool:=[]
noncomputable def zQD:Code:=Tryz.f195.body.getD .skip
def zCq:Prop:=zaq t0 H λt2 H=>zaq t1 H λt3 H=>zav [(.bool false),.snil,.snil] H λt4 H=>zab H (λK'=>zal true 3 t2 H (K' · H)) λt5=>zab H (λK'=>zal true 3 t3 H (K' · H)) λt6=>zaC H (λH K'=>ACalls tP zqf [t6] H K') λt7=>zaC H (λH K'=>ACalls tP zhQ [t5,t7] H K') λt8=>zan 3 t4 t8 H λH=>zae true 3 t4 H λr0=>K r0 H
def zk5:Nat→List Bool | 4=>rl false [0,1,2,3,30] | _=>[]
noncomputable def zrS:Code:=Tryz.f107.body.getD .skip
noncomputable def zKC:List ResultVar:=Tryz.f107.results.toList
def zk7:List AV:=t0::ux 2 (t3::t4::t5::ux 30 [])
def zKA:List Bool:=zk5 4
noncomputable def zKy:Code:=zar [1,1,1,0,1,0,0] zrS
def zKx:AExit→List AV→zaa→Prop:=zas tP zk5 [1,1,1,0,1,0] zrS (zay tP zKC K)
def zk9:Prop:=ALoop tP zKy (zKx K) (zk7 t0 t3 t4 t5) H
def zk8:Prop:=ACalls tP zeV [t3] H λt35 H=>K t35 H
def zk6:Prop:=zah 1 t0 λt8=>zac .lss false t5 t8 λt9=>zag t9 (zaj 1 t0 t5 λt15=>zae false 1 t15 H λt16=>za0 .u64 t16 λt17=>zac .add false t4 t17 λt18=>zac .rem false t18 (.int .u64 1000000000) λt21=>za0 .u32 t21 λt22=>zaw 1 [(.int .u32 0)] 1 [(0,t22)] λt23=>zax za8 1 4 t3 t23 H λt24 H=>zac .quo false t18 (.int .u64 1000000000) λt26=>zac .add false t5 (.int .i64 1) λt11=>Kb4 (zk7 t0 t24 t26 t11) H) (zac .gtr false t4 (.int .u64 0) λt28=>zag t28 (za0 .u32 t4 λt31=>zaw 1 [(.int .u32 0)] 1 [(0,t31)] λt32=>zax za8 1 4 t3 t32 H λt33 H=>zk8 t33 H K) (zk8 t3 H K))
def zAf:Prop:=zk9 t0 .snil (.int .u64 0) (.int .i64 0) H K
def zla:Nat→List Bool | 1=>rl false [0,2,17] | _=>[]
noncomputable def zrU:Code:=Tryz.f108.body.getD .skip
noncomputable def zKI:List ResultVar:=Tryz.f108.results.toList
def zlb:List AV:=t0::t1::ux 17 []
def zKG:List Bool:=zla 1
noncomputable def zKE:Code:=zar [1,0,0,0] zrU
def zKD:AExit→List AV→zaa→Prop:=zas tP zla [1,0,0] zrU (zay tP zKI K)
def zAi:Prop:=ALoop tP zKE (zKD K) (zlb t0 t1) H
def zrT:Prop:=zah 1 t1 λt8=>zac .gtr false t8 (.int .i64 0) λt9=>zag t9 (ACalls tP zhC [t0,t1] H λt13 H=>zaA t13 0 λt14=>zaA t13 1 λt15=>Kb1 (zlb t1 t15) H) (K t0 H)
def zAh:Prop:=zAi t0 t1 H K
def zlc:Nat→List Bool | 2=>rl false [0,1,2,1,18] | _=>[]
noncomputable def zrX:Code:=Tryz.f110.body.getD .skip
noncomputable def zKV:List ResultVar:=Tryz.f110.results.toList
def zle:List AV:=t0::ux 2 (t3::ux 18 [])
def zKT:List Bool:=zlc 2
noncomputable def zKR:Code:=zar [1,1,0,0,0] zrX
def zKQ:AExit→List AV→zaa→Prop:=zas tP zlc [1,1,0,0] zrX (zay tP zKV K)
def zAm:Prop:=ALoop tP zKR (zKQ K) (zle t0 t3) H
def zld:Prop:=zac .gtr false t3 (.int .i64 0) λt7=>zad t7 true H (λK'=>K' t0 H) λt9 H=>zad t7 true H (λK'=>K' t3 H) λt10 H=>zad t7 true H (λK'=>zac .sub false t10 (.int .i64 1) (K' · H)) λt11 H=>zad t7 true H (λK'=>zaj 1 t9 t11 (K' · H)) λt12 H=>zad t7 true H (λK'=>zae false 1 t12 H (K' · H)) λt13 H=>zad t7 true H (λK'=>zac .eql false t13 (.int .u32 0) (K' · H)) λt14 H=>zam t7 t14 (.bool false) λt15=>zag t15 (zac .sub false t3 (.int .i64 1) λt17=>Kb2 (zle t0 t17) H) (zaR 1 1 t0 none (some t3) λt20=>zax za8 1 4 .snil t20 H λt21 H=>K t21 H)
def zAl:Prop:=zah 1 t0 λt5=>zAm t0 t5 H K
def zlX:Nat→List Bool | 4=>rl false [0,2,4,3,31] | _=>[]
noncomputable def zsH:Code:=Tryz.f150.body.getD .skip
noncomputable def zNq:List ResultVar:=Tryz.f150.results.toList
def zlY:List AV:=t0::t1::ux 4 (t6::t7::t8::ux 31 [])
def zNo:List Bool:=zlX 4
noncomputable def zNm:Code:=zar [1,1,1,0,1,0,0] zsH
def zNl:AExit→List AV→zaa→Prop:=zas tP zlX [1,1,1,0,1,0] zsH (zay tP zNq K)
def zA8:Prop:=ALoop tP zNm (zNl K) (zlY t0 t1 t6 t7 t8) H
def zsG:Prop:=zac .geq false t8 (.int .i64 0) λt16=>zag t16 (zac .mul false t7 (.int .u64 1000000000) λt20=>zaj 1 t0 t8 λt23=>zae false 1 t23 H λt24=>za0 .u64 t24 λt25=>zac .add false t20 t25 λt26=>zac .quo false t26 t1 λt31=>za0 .u32 t31 λt32=>zaj 1 t6 t8 λt33=>zan 1 t33 t32 H λH=>zac .rem false t26 t1 λt36=>zac .sub false t8 (.int .i64 1) λt18=>Kb4 (zlY t0 t1 t6 t36 t18) H) (ACalls tP zeV [t6] H λt38 H=>zaE [t38,t7] (K · H))
def zA7:Prop:=zah 1 t0 λt10=>zba 4 [(.int .u32 0)] t10 t10 H λt11 H=>zah 1 t0 λt13=>zac .sub false t13 (.int .i64 1) λt14=>zA8 t0 t1 t11 (.int .u64 0) t14 H K
def zRN (_:Nat):List Bool:=[]
noncomputable def zRO:Code:=Tryz.f222.body.getD .skip
def zCL:Prop:=zaq t0 H λt1 H=>zav [(.bool false),.snil,.snil] H λt2 H=>zaf 0 t1 λt3=>zae false 1 t3 H λt4=>aUn .not t4 λt5=>zaf 1 t1 λt6=>zae false 1 t6 H λt7=>zaf 2 t1 λt8=>zae false 1 t8 H λt9=>ACalls tP zdc [t5,t7,t9] H λt10 H=>zan 3 t2 t10 H λH=>zae true 3 t2 H λr0=>K r0 H
def zMB (_:Nat):List Bool:=[]
noncomputable def zMC:Code:=Tryz.f143.body.getD .skip
def zAY:Prop:=zaq t0 H λt2 H=>zaq t1 H λt3 H=>zav [(.bool false),.snil,.snil] H λt4 H=>zab H (λK'=>zal true 3 t2 H (K' · H)) λt6=>zaC H (λH K'=>ACalls tP zer [t6] H K') λt7=>zab H (λK'=>zal true 3 t3 H (K' · H)) λt8=>zaC H (λH K'=>ACalls tP zer [t8] H K') λt9=>zan 3 t2 t7 H λH=>zan 3 t3 t9 H λH=>zaf 1 t3 λt10=>zae false 1 t10 H λt11=>zah 1 t11 λt12=>zac .eql false t12 (.int .i64 0) λt13=>zag t13 (ACalls tP zcZ [(.int .i64 0)] H λt14 H=>zan 3 t4 t14 H λH=>zae true 3 t4 H λr0=>zaE [r0,(.bool false)] (K · H)) (zab H (λK'=>zaf 0 t2 (K' · H)) λt15=>zab H (λK'=>zal false 1 t15 H (K' · H)) λt16=>zab H (λK'=>zaf 0 t3 (K' · H)) λt17=>zab H (λK'=>zal false 1 t17 H (K' · H)) λt18=>zab H (λK'=>zac .neq true t16 t18 (K' · H)) λt19=>zab H (λK'=>zaf 1 t2 (K' · H)) λt20=>zab H (λK'=>zal false 1 t20 H (K' · H)) λt21=>zab H (λK'=>zaf 2 t3 (K' · H)) λt22=>zab H (λK'=>zal false 1 t22 H (K' · H)) λt23=>zaC H (λH K'=>ACalls tP zdd [t21,t23] H K') λt24=>zab H (λK'=>zaf 2 t2 (K' · H)) λt25=>zab H (λK'=>zal false 1 t25 H (K' · H)) λt26=>zab H (λK'=>zaf 1 t3 (K' · H)) λt27=>zab H (λK'=>zal false 1 t27 H (K' · H)) λt28=>zaC H (λH K'=>ACalls tP zdd [t26,t28] H K') λt29=>zaC H (λH K'=>ACalls tP zdc [t19,t24,t29] H K') λt30=>zan 3 t4 t30 H λH=>zab H (λK'=>K' (.bool true) H) λt5=>zae true 3 t4 H λr0=>zaE [r0,t5] (K · H))
def zU5 (_:Nat):List Bool:=[]
noncomputable def zU6:Code:=Tryz.f57.body.getD .skip
def znQ:Prop:=zau [(.bool false),.snil,.snil] [(0,1),(1,1),(2,1)] [(0,t0),(1,t1),(2,t2)] λt49=>zan 3 t6 t49 H λH=>zae true 3 t6 H λr0=>K r0 H
def zDW:Prop:=zav [(.bool false),.snil,.snil] H λt6 H=>ACalls tP zji [t1] H λt9 H=>ACalls tP zji [t2] H λt11 H=>zah 1 t9 λt13=>zac .eql false t13 (.int .i64 0) λt14=>zad t14 false H (λK'=>K' t11 H) λt16 H=>zad t14 false H (λK'=>zah 1 t16 (K' · H)) λt17 H=>zad t14 false H (λK'=>zac .eql false t17 (.int .i64 0) (K' · H)) λt18 H=>zam t14 (.bool true) t18 λt19=>zag t19 (zaw 1 [(.int .u32 0)] 1 [(0,(.int .u32 1))] λt20=>zau [(.bool false),.snil,.snil] [(0,1),(1,1),(2,1)] [(2,t20)] λt21=>zan 3 t6 t21 H λH=>zae true 3 t6 H λr0=>K r0 H) (ACalls tP zpG [t9,t11] H λt24 H=>zah 1 t24 λt26=>zac .neq false t26 (.int .i64 1) λt27=>zad t27 false H (λK'=>K' t24 H) λt29 H=>zad t27 false H (λK'=>zaj 1 t29 (.int .i64 0) (K' · H)) λt30 H=>zad t27 false H (λK'=>zae false 1 t30 H (K' · H)) λt31 H=>zad t27 false H (λK'=>zac .neq false t31 (.int .u32 1) (K' · H)) λt32 H=>zam t27 (.bool true) t32 λt33=>zag t33 (ACalls tP zhC [t9,t24] H λt37 H=>zaA t37 0 λt38=>zaA t37 1 λt39=>ACalls tP zhC [t11,t24] H λt43 H=>zaA t43 0 λt44=>zaA t43 1 λt45=>znQ t0 t38 t44 t6 H K) (znQ t0 t9 t11 t6 H K))
def zAk:Nat→List Bool | 9=>rl false [0,2,6,3,79] | 13=>rl false [0,2,6,4,78] | 16=>rl false [0,2,6,4,78] | _=>[]
noncomputable def zrV:Code:=Tryz.f109.body.getD .skip
noncomputable def zKP:List ResultVar:=Tryz.f109.results.toList
def zKM:List AV:=t0::t1::ux 6 (t8::t9::t10::ux 79 [])
noncomputable def zKL:Code:=zar [1,1,1,1,1,0,1,0,0] zrV
def zKK:AExit→List AV→zaa→Prop:=zas tP zAk [1,1,1,1,1,0,1,0] zrV (zay tP zKP K)
def zKN:Prop:=ALoop tP zKL (zKK K) (zKM t0 t1 t8 t9 t10) H
def zAj:Prop:=ACalls tP zjh [t0,t1] H λt14 H=>zac .lss false t14 (.int .i64 0) λt15=>zag t15 (ACalls tP zeV [t0] H λt17 H=>zaE [.snil,t17] (K · H)) (zah 1 t1 λt19=>zac .eql false t19 (.int .i64 1) λt20=>zag t20 (zaj 1 t1 (.int .i64 0) λt24=>zae false 1 t24 H λt25=>za0 .u64 t25 λt26=>ACalls tP zpW [t0,t26] H λt27 H=>zaA t27 0 λt28=>zaA t27 1 λt29=>ACalls tP zhR [t29] H λt32 H=>zaE [t28,t32] (K · H)) (zah 1 t0 λt34=>zba 4 [(.int .u32 0)] t34 t34 H λt35 H=>zah 1 t0 λt37=>zac .sub false t37 (.int .i64 1) λt38=>zKN t0 t1 t35 .snil t38 H K))
variable {t0 t1 t2 t3 t4 t5 t6 t7 t8 t9 t10} {H} {K} {Kb1 Kb2 Kb3 Kb4 Kb6 Kb7}
theorem zTg (h:HSc H→zDc t0 H K):ACalls tP zcZ [t0] H K:=
 acb zTe Tryz.func36 zTf (by kernel_rfl) (by kernel_rfl) h
theorem zRu (h:HSc H→zCE t0 t1 H K):ACalls tP zfx [t0,t1] H K:=
 acb zRs Tryz.func22 zRt (by kernel_rfl) (by kernel_rfl) h
theorem zUV (h:HSc H→zDR t0 t1 H K):ACalls tP zhQ [t0,t1] H K:=
 acb zUT Tryz.func54 zUU (by kernel_rfl) (by kernel_rfl) h
theorem zVv (Inv:Nat→AV→AV→zaa→Prop) (n:Nat) (h0:HSc H→Inv n t0 t3 H)
  (ac:Rd2 (λt0=>λt3=>znZ t0 t3) (λt0=>λt3=>λH Kb2=>zuY t0 t3 H K Kb2) H Inv):zn0 t0 t3 H K:=
 lp2 (M:=znY) zVw t0 t3 (by kernel_rfl) Inv n h0 ac
theorem zVx (h:HSc H→zD5 t0 H K):ACalls tP zhR [t0] H K:=
 acb znY Tryz.func71 zuZ (by kernel_rfl) (by kernel_rfl) h
theorem zU4 (h:HSc H→zDV t0 H K):ACalls tP zer [t0] H K:=
 acb zU2 Tryz.func56 zU3 (by kernel_rfl) (by kernel_rfl) h
theorem zVc (Inv:Nat→AV→AV→zaa→Prop) (n:Nat) (h0:HSc H→Inv n t7 t8 H)
  (ac:Rd2 (λt7=>λt8=>znT t0 t1 t5 t6 t7 t8) (λt7=>λt8=>λH Kb7=>znR t0 t1 t5 t6 t7 t8 H K Kb3 Kb7) H Inv):zD0 t0 t1 t5 t6 t7 t8 H K Kb3:=
 lp2 (M:=zf2) zVd t7 t8 (by kernel_rfl) Inv n h0 ac
theorem zVb (Inv:Nat→AV→zaa→Prop) (n:Nat) (h0:HSc H→Inv n t6 H)
  (ac:Rd1 (λt6=>znS t0 t1 t5 t6) (λt6=>λH Kb3=>zuT t0 t1 t5 t6 H K Kb3) H Inv):zDZ t0 t1 t5 t6 H K:=
 lp1 (M:=zf2) zD1 t6 (by kernel_rfl) Inv n h0 ac
theorem zVe (h:HSc H→zDX t0 t1 H K):ACalls tP zdd [t0,t1] H K:=
 acb zf2 Tryz.func58 zuU (by kernel_rfl) (by kernel_rfl) h
theorem zKf (Inv:Nat→AV→AV→AV→zaa→Prop) (n:Nat) (h0:HSc H→Inv n t5 t6 t7 H)
  (ac:Rd3 (λt5=>λt6=>λt7=>zkW t0 t1 t5 t6 t7) (λt5=>λt6=>λt7=>λH Kb4=>zgI t0 t1 t5 t6 t7 H K Kb4) H Inv):zkY t0 t1 t5 t6 t7 H K:=
 lp3 (M:=zkV) zKg t5 t6 t7 (by kernel_rfl) Inv n h0 ac
theorem zKh (h:HSc H→zAa t0 t1 H K):ACalls tP zpF [t0,t1] H K:=
 acb zkV Tryz.func104 zrO (by kernel_rfl) (by kernel_rfl) h
theorem zKm (Inv:Nat→AV→zaa→Prop) (n:Nat) (h0:HSc H→Inv n t5 H)
  (ac:Rd1 (λt5=>zk1 t0 t1 t5) (λt5=>λH Kb6=>zii t0 t1 t5 H K Kb6) H Inv):zAb t0 t1 t5 H K:=
 lp1 (M:=zk0) zKn t5 (by kernel_rfl) Inv n h0 ac
theorem zKo (h:HSc H→zkZ t0 t1 H K):ACalls tP zjh [t0,t1] H K:=
 acb zk0 Tryz.func105 zrP (by kernel_rfl) (by kernel_rfl) h
theorem zKs (Inv:Nat→AV→AV→zaa→Prop) (n:Nat) (h0:HSc H→Inv n t6 t7 H)
  (ac:Rd2 (λt6=>λt7=>zij t0 t1 t5 t6 t7) (λt6=>λt7=>λH Kb4=>zk3 t0 t1 t5 t6 t7 H K Kb4) H Inv):zAe t0 t1 t5 t6 t7 H K:=
 lp2 (M:=zk2) zKt t6 t7 (by kernel_rfl) Inv n h0 ac
theorem zKu (h:HSc H→zAd t0 t1 H K):ACalls tP zhB [t0,t1] H K:=
 acb zk2 Tryz.func106 zrQ (by kernel_rfl) (by kernel_rfl) h
theorem zSq (h:HSc H→zCM t0 H K):ACalls tP zqg [t0] H K:=
 acb zSo Tryz.func24 zSp (by kernel_rfl) (by kernel_rfl) h
theorem zQE (h:HSc H→zCq t0 t1 H K):ACalls tP zp8 [t0,t1] H K:=
 acb zQC Tryz.func195 zQD (by kernel_rfl) (by kernel_rfl) h
theorem zKz (Inv:Nat→AV→AV→AV→zaa→Prop) (n:Nat) (h0:HSc H→Inv n t3 t4 t5 H)
  (ac:Rd3 (λt3=>λt4=>λt5=>zk7 t0 t3 t4 t5) (λt3=>λt4=>λt5=>λH Kb4=>zk6 t0 t3 t4 t5 H K Kb4) H Inv):zk9 t0 t3 t4 t5 H K:=
 lp3 (M:=zk5) zKA t3 t4 t5 (by kernel_rfl) Inv n h0 ac
theorem zKB (h:HSc H→zAf t0 H K):ACalls tP zji [t0] H K:=
 acb zk5 Tryz.func107 zrS (by kernel_rfl) (by kernel_rfl) h
theorem zKF (Inv:Nat→AV→AV→zaa→Prop) (n:Nat) (h0:HSc H→Inv n t0 t1 H)
  (ac:Rd2 (λt0=>λt1=>zlb t0 t1) (λt0=>λt1=>λH Kb1=>zrT t0 t1 H K Kb1) H Inv):zAi t0 t1 H K:=
 lp2 (M:=zla) zKG t0 t1 (by kernel_rfl) Inv n h0 ac
theorem zKH (h:HSc H→zAh t0 t1 H K):ACalls tP zpG [t0,t1] H K:=
 acb zla Tryz.func108 zrU (by kernel_rfl) (by kernel_rfl) h
theorem zKS (Inv:Nat→AV→zaa→Prop) (n:Nat) (h0:HSc H→Inv n t3 H)
  (ac:Rd1 (λt3=>zle t0 t3) (λt3=>λH Kb2=>zld t0 t3 H K Kb2) H Inv):zAm t0 t3 H K:=
 lp1 (M:=zlc) zKT t3 (by kernel_rfl) Inv n h0 ac
theorem zKU (h:HSc H→zAl t0 H K):ACalls tP zeV [t0] H K:=
 acb zlc Tryz.func110 zrX (by kernel_rfl) (by kernel_rfl) h
theorem zNn (Inv:Nat→AV→AV→zaa→Prop) (n:Nat) (h0:HSc H→Inv n t7 t8 H)
  (ac:Rd2 (λt7=>λt8=>zlY t0 t1 t6 t7 t8) (λt7=>λt8=>λH Kb4=>zsG t0 t1 t6 t7 t8 H K Kb4) H Inv):zA8 t0 t1 t6 t7 t8 H K:=
 lp2 (M:=zlX) zNo t7 t8 (by kernel_rfl) Inv n h0 ac
theorem zNp (h:HSc H→zA7 t0 t1 H K):ACalls tP zpW [t0,t1] H K:=
 acb zlX Tryz.func150 zsH (by kernel_rfl) (by kernel_rfl) h
theorem zRP (h:HSc H→zCL t0 H K):ACalls tP zqf [t0] H K:=
 acb zRN Tryz.func222 zRO (by kernel_rfl) (by kernel_rfl) h
theorem zMD (h:HSc H→zAY t0 t1 H K):ACalls tP zpT [t0,t1] H K:=
 acb zMB Tryz.func143 zMC (by kernel_rfl) (by kernel_rfl) h
theorem zU7 (h:HSc H→zDW t0 t1 t2 H K):ACalls tP zdc [t0,t1,t2] H K:=
 acb zU5 Tryz.func57 zU6 (by kernel_rfl) (by kernel_rfl) h
theorem zKO (h:HSc H→zAj t0 t1 H K):ACalls tP zhC [t0,t1] H K:=
 acb zAk Tryz.func109 zrV (by kernel_rfl) (by kernel_rfl) h
end
end Go.Proofs.YtdmamdnkcefmmaaGreatDoor
namespace Go.Abs
open Go Go.RowKit
def zak (l:List Nat):List (List AV):=l.map λ(n:Nat)=>[AV.int .u32 (n:Int)]
@[simp] theorem ybG (l:List Nat):(zak l).length=l.length:=by simp[zak]
theorem zzN (l:List Nat) (n:Nat):(zak l).take n=zak (l.take n):=by simp[zak,List.map_take]
theorem ybF {l:List Nat} {i:Nat} (h:i<l.length):(zak l)[i]?.getD []=[.int .u32 ((l[i]:Nat):Int)]:=by simp[zak,h]
@[simp] theorem ybE {l:List Nat} {i:Nat} (h:i<(zak l).length):(zak l)[i]=[.int .u32 (((l[i]'(by simpa using h)):Nat):Int)]:=by simp[zak]
theorem zd8 (l:List Nat):∀ c∈zak l,c.length=1:=by intro c hc;simp only[zak,List.mem_map]at hc;obtain⟨n,_,rfl⟩:=hc;rfl
theorem zza {L:List Nat} {n:Nat} (hn:0<n) (h:n≤L.length) (h0:L[n-1]=0):zbA (L.take n)=zbA (L.take (n-1)):=by
 obtain⟨m,rfl⟩:∃ m,n=m+1:=⟨n-1,by omega⟩;simp only[Nat.add_sub_cancel]at h0 ⊢;rw[List.take_succ_eq_append_getElem (by omega),h0];generalize L.take m=A;induction A with
 | nil=>simp[zbA]
 | cons a A ih=>rw[List.cons_append,zbA,zbA,ih]
theorem zy8 {L:List Nat} {n:Nat} (hn:0<n) (h:n≤L.length) (h0:L[n-1]≠0):zbA (L.take n)=L.take n:=by
 obtain⟨m,rfl⟩:∃ m,n=m+1:=⟨n-1,by omega⟩;simp only[Nat.add_sub_cancel]at h0;rw[List.take_succ_eq_append_getElem (by omega)];generalize hx:L[m]=x at h0;generalize L.take m=A;induction A with
 | nil=>simp[zbA,h0]
 | cons a A ih=>rw[List.cons_append,zbA,ih,if_neg];rintro⟨_,h⟩;simp at h
theorem zcv {n:Nat} (h:n<4294967296):IntKind.u32.wrap (n:Int)=n:=IntWalk.u32_in _ ⟨by omega,by omega⟩
theorem zbl {n:Nat} (h:n<18446744073709551616):IntKind.u64.wrap (n:Int)=n:=IntWalk.u64_in _ ⟨by omega,by omega⟩
theorem zvY {k:AV→Prop} (b:Bool) (j:IntKind) (m n:Nat) (hn:n≠0):zac .rem b (.int j m) (.int j n) k=k (.int j ((m % n:Nat):Int)):=by simp only[zcp,ne_eq,Int.natCast_eq_zero,hn,not_false_eq_true,true_and];rfl
theorem zvX {k:AV→Prop} (b:Bool) (j:IntKind) (m n:Nat) (hn:n≠0):zac .quo b (.int j m) (.int j n) k=k (.int j (j.wrap ((m / n:Nat):Int))):=by simp only[zcp,ne_eq,Int.natCast_eq_zero,hn,not_false_eq_true,true_and];rfl
theorem zoJ {k:AV→Prop} (b:Bool) (j:IntKind) (m:Nat):zac .rem b (.int j m) (.int j 1000000000) k=k (.int j ((m % 1000000000:Nat):Int)):=zvY b j m 1000000000 (by decide)
theorem zvV {k:AV→Prop} (b:Bool) (j:IntKind) (m:Nat):zac .quo b (.int j m) (.int j 1000000000) k=k (.int j (j.wrap ((m / 1000000000:Nat):Int))):=zvX b j m 1000000000 (by decide)
theorem zvW {k:AV→Prop} (b:Bool) {m:Nat} (h:m<18446744073709551616):zac .quo b (.int .u64 m) (.int .u64 1000000000) k=k (.int .u64 ((m / 1000000000:Nat):Int)):=by rw[zvV,zbl (by have:=Nat.div_le_self m 1000000000;omega)]
theorem zFi {k:AV→Prop} (b:Bool) {m:Nat} (h:m<4294967296):zac .quo b (.int .u32 m) (.int .u32 1000000000) k=k (.int .u32 ((m / 1000000000:Nat):Int)):=by rw[zvV,zcv (by have:=Nat.div_le_self m 1000000000;omega)]
theorem zFe {k:AV→Prop} (j:IntKind) {m:Nat} (h:m<4294967296):za0 .u32 (.int j m) k=k (.int .u32 m):=by rw[zFf,zcv h]
theorem zpB (m:Nat):m % 1000000000<1000000000:=Nat.mod_lt _ (by decide)
theorem zGf {m:Nat} (h:m≠0):m / 1000000000<m:=Nat.div_lt_self (by omega) (by decide)
theorem sN (l:List Nat) (x:Nat):zak l++[[AV.int .u32 (x:Int)]]=zak (l++[x]):=by simp[zak]
theorem zgd (s:Nat) (h:s<18446744073709551616):∃ x c:Nat,x<1000000000∧s=x+1000000000*c∧IntKind.u32.wrap (x:Int)=x ∧
  (∀ (b:Bool) (k:AV→Prop),zac .rem b (.int .u64 s) (.int .u64 1000000000) k=k (.int .u64 x))∧∀ (b:Bool) (k:AV→Prop),zac .quo b (.int .u64 s) (.int .u64 1000000000) k=k (.int .u64 c):=
 ⟨s % 1000000000,s / 1000000000,zpB s,by omega,zcv (by omega),λb k=>zoJ b .u64 s,λb k=>zvW b h⟩
theorem zwV (s:Nat) (h:s<4294967296):∃ x c:Nat,x<1000000000∧s=x+1000000000*c ∧
  (∀ (b:Bool) (k:AV→Prop),zac .rem b (.int .u32 s) (.int .u32 1000000000) k=k (.int .u32 x))∧∀ (b:Bool) (k:AV→Prop),zac .quo b (.int .u32 s) (.int .u32 1000000000) k=k (.int .u32 c):=
 ⟨s % 1000000000,s / 1000000000,zpB s,by omega,λb k=>zoJ b .u32 s,λb k=>zFi b h⟩
theorem zpc (s d:Nat) (hd:0<d) (h:s<18446744073709551616):∃ x c:Nat,x<d∧s=x+d*c ∧
  (∀ (b:Bool) (k:AV→Prop),zac .rem b (.int .u64 s) (.int .u64 d) k=k (.int .u64 x))∧∀ (b:Bool) (k:AV→Prop),zac .quo b (.int .u64 s) (.int .u64 d) k=k (.int .u64 c):=
 ⟨s % d,s / d,Nat.mod_lt _ hd,(Nat.mod_add_div s d).symm,λb k=>zvY b .u64 s d (by omega),λb k=>by rw[zvX b .u64 s d (by omega),zbl (by have:=Nat.div_le_self s d;omega)]⟩
theorem wi (i:Nat) (h:i<1000000000):IntKind.i64.wrap ((i:Int)+1)=((i+1:Nat):Int):=by rw[zat (by omega) (by omega)];omega
theorem wd (i:Nat) (h:i<1000000000) (h0:0<i):IntKind.i64.wrap ((i:Int)-1)=((i-1:Nat):Int):=by rw[zat (by omega) (by omega)];omega
theorem zy9:∀ l:List Nat,(zbA l).length≤l.length∧((zbA l).length=l.length→zbA l=l)
 | []=>by simp[zbA]
 | x::l=>by
  obtain⟨h1,h2⟩:=zy9 l;rw[zbA];split
  ·simp
  ·simp only[List.length_cons];exact⟨by omega,λh=>by rw[h2 (by omega)]⟩
theorem zja {n k:Nat} (h:1000000000 ^ k≤n):k<(lim n).length:=by have h1:=zdM (lim n) (zbT n);rw[zbe]at h1;refine Nat.lt_of_not_le λh2=>?_;have:=Nat.pow_le_pow_right (show 0<1000000000 by omega) h2;omega
theorem zoY {R:List Nat} (hR:∀ x∈R,x<1000000000) (h:R.length≤(lim (zao R)).length):R=lim (zao R):=by have h1:=zfH R hR;obtain⟨h2,h3⟩:=zy9 R;rw[←h1,h3 (by rw[h1]at h2 ⊢;omega)]
end Go.Abs
namespace Go.Proofs.YtdmamdnkcefmmaaGreatDoor
open Go Go.Abs
theorem zrY (L:List Nat) (hL:L.length≤1000000) (H:zaa) (K:Kt) (hK:K (.sl (zak (zbA L)) .none) H) :
  ACalls tP zeV [.sl (zak L) .none] H K:=by
 refine ACalls.out (zKU λhs=>?_);simp[zAl];refine zKS (Inv:=λq t3 H'=>∃ n:Nat,n≤L.length∧n=q∧t3=.int .i64 n∧H'=H∧zbA L=zbA (L.take n)) L.length ?_ ?_
 ·intro _;exact⟨L.length,by omega,rfl,by simp,rfl,by simp⟩
 ·rintro q t3 H' ⟨n,hn,rfl,rfl,rfl,aT⟩ aM aq aO Kb aw;have bx:∀ (l:List Nat) (J:zaa),l=zbA L→Out (List.length H') K (AV.sl (zak l) (Tok.own (List.length H'))) (H'++J):=λl J hl=>Out.one hs (.atom (.sl _ _)) rfl rfl (by rw[hl];exact hK);by_cases h0:n=0
  ·subst h0;simp[zld,zax,zaN,zaK];exact⟨zd8 L,bx [] _ (by simpa[zbA]using aT.symm)⟩
  ·have hw:IntKind.i64.wrap ((n:Int)-1)=((n-1:Nat):Int):=by rw[zat (by omega) (by omega)];omega
   have ap:n-1<L.length:=by omega
   by_cases hz:L[n-1]=0
   ·simp[zld,show 0<n by omega,hw,ap,hz];exact aw _ _ ⟨n-1,by omega,Back.here (by simp) hs (by simp[zle,AV.sc,AV.scA,AV.scB,AV.scV]) ⟨_,rfl,n-1,by omega,rfl,rfl,rfl,by rw[aT,zza (by omega) hn hz]⟩⟩
   ·have kG:(((L[n-1]:Nat):Int) == 0)=false:=by simp;omega
    simp[zld,show 0<n by omega,hw,ap,kG,zax,zaN,zaK];refine⟨⟨hn,zd8 L⟩,λc hc=>zd8 L c (List.mem_of_mem_take hc),⟨by omega,by omega⟩,?_⟩;rw[zzN];exact bx _ _ (by rw[aT,zy8 (by omega) hn hz])
theorem zD6 (n:Nat) (hn:n<18446744073709551616) (H:zaa) (K:Kt) (hK:K (.sl (zak (lim n)) .none) H) :
  ACalls tP zhR [.int .u64 n] H K:=by
 refine ACalls.out (zVx λhs=>?_);unfold zD5 zn0;refine ALoop.own 3 za8 1 rfl ?_;show zn0 (.int .u64 n) (.sl [] (.own H.length)) (H++[.perm za8 1 0]) (Out H.length K);refine zVv (Inv:=λq t0 t3 H'=>∃ (m:Nat) (A:List Nat),m=q∧t0=.int .u64 m∧t3=.sl (zak A) (.own H.length)∧lim n=A++lim m∧m<18446744073709551616 ∧
  H'=H++[.perm za8 1 A.length]) n ?_ ?_
 ·intro _;exact⟨n,[],rfl,rfl,rfl,by simp,hn,rfl⟩
 ·rintro q t0 t3 H' ⟨m,A,rfl,rfl,rfl,hA,hm,rfl⟩ aM aq aO Kb aw;by_cases h0:m=0
  ·subst h0;simp[zuY];exact Out.one hs (.atom (.sl _ _)) rfl rfl (by simpa[hA]using hK)
  ·have hq:=zpB m;have hd:=zGf h0;have hlA:A.length+1≤1000:=by have h1:=congrArg List.length hA;have h2:=zbI (n:=n) (k:=3) (by omega);rw[zcg h0]at h1;simp at h1;omega
   simp only[zuY,zoJ,zvW false hm,zFe .u64 (show m % 1000000000<4294967296 by omega)];simp[show 0<m by omega,zaw,zaT,plain,AV.pd,zax,zaN,zaK];refine⟨⟨by omega,by omega⟩,?_⟩;have e1:((m:Int) / 1000000000)=((m / 1000000000:Nat):Int):=rfl;have e2:((m:Int) % 1000000000)=((m % 1000000000:Nat):Int):=rfl;rw[e1,e2,sN];refine aw _ _ ⟨m / 1000000000,hd,Back.here (by simp) (hs.append (by simp[AB.sc])) (by simp[znZ,ux,AV.sc,AV.scA,AV.scB,AV.scV]) ⟨_,_,rfl,m / 1000000000,A++[m % 1000000000],rfl,rfl,rfl,?_,by omega,by simp⟩⟩;rw[hA,zcg h0];simp
theorem zeo (A:List Nat) (x:Nat):zao (A++[x])=zao A+1000000000 ^ A.length*x:=by rw[zhu];simp[zao]
theorem zAg (L:List Nat) (iO:∀ x∈L,x<4294967296) (hL:L.length≤100000) (H:zaa) (K:Kt) (hK:K (.sl (zak (lim (zao L))) .none) H) :
  ACalls tP zji [.sl (zak L) .none] H K:=by
 refine ACalls.out (zKB λhs=>?_);unfold zAf zk9;refine ALoop.own 3 za8 1 rfl ?_;show zk9 (.sl (zak L) .none) (.sl [] (.own H.length)) (.int .u64 0) (.int .i64 0) (H++[.perm za8 1 0]) (Out H.length K);have gk:∀ A:List Nat,(∀ x∈A,x<1000000000)→zao A=zao L→A.length≤200000→zk8 (.sl (zak A) (.own H.length)) (H++[.perm za8 1 A.length]) (Out H.length K):=by intro A hA he hl;unfold zk8;refine ACalls.wk (args':=[.sl (zak A) .none]) (zrY A (by omega) _ _ ?_) ⟨.atom (.sl _ _),trivial⟩;rw[zfH A hA,he];exact Out.one hs (.atom (.sl _ _)) rfl rfl hK
 refine zKz (Inv:=λq t3 t4 t5 H'=>∃ (i c:Nat) (A:List Nat),i≤L.length∧L.length-i=q∧t5=.int .i64 i∧t4=.int .u64 c∧t3=.sl (zak A) (.own H.length)∧A.length=i∧(∀ x∈A,x<1000000000)∧c≤5 ∧
  zao A+1000000000 ^ i*c=zao (L.take i)∧H'=H++[.perm za8 1 A.length]) L.length ?_ ?_
 ·intro _;exact⟨0,0,[],by omega,rfl,rfl,rfl,rfl,rfl,by simp,by omega,by simp[zao],rfl⟩
 ·rintro q t3 t4 t5 H' ⟨i,c,A,hi,rfl,rfl,rfl,rfl,eN,hA,hc,hv,rfl⟩ aM aq aO Kb aw;by_cases ap:i<L.length
  ·have hx:=iO L[i] (List.getElem_mem ap);have w1:IntKind.u64.wrap ((L[i]:Nat):Int)=L[i]:=zbl (by omega);obtain⟨s,be⟩:∃ s,s=c+L[i]:=⟨_,rfl⟩;have w2:IntKind.u64.wrap ((c:Int)+(L[i]:Nat))=(s:Int):=by rw[be,←Int.natCast_add];exact zbl (by omega)
   obtain⟨x,c',bH,bh,bC,e1,e2⟩:=zgd s (by omega);simp only[zk6];simp[ap,w1,w2,e1,e2,bC,zaw,zaT,plain,AV.pd,zax,zaN,zaK,wi i (by omega)];refine⟨⟨by omega,by omega⟩,?_⟩;rw[sN];refine aw _ _ ⟨L.length-(i+1),by omega,Back.here (by simp) (hs.append (by simp[AB.sc])) (by simp[zk7,ux,AV.sc,AV.scA,AV.scB,AV.scV]) ⟨_,_,_,rfl,i+1,c',A++[x],by omega,rfl,rfl,rfl,rfl,by simp[eN],?_,by omega,?_,by simp⟩⟩
   ·intro y hy;rcases List.mem_append.1 hy with hy | hy
    ·exact hA y hy
    ·simp at hy;omega
   ·rw[zeo,zdb L i ap,←hv,eN,Nat.pow_succ];grind
  ·obtain rfl:i=L.length:=by omega
   rw[List.take_length]at hv;by_cases h0:c=0
   ·subst h0;simp[zk6];exact gk A hA (by simpa using hv) (by omega)
   ·simp only[zk6];simp[show 0<c by omega,zcv (show c<4294967296 by omega),zaw,zaT,plain,AV.pd,zax,zaN,zaK];refine⟨⟨by omega,by omega⟩,?_⟩;rw[sN];have:=gk (A++[c]) (λy hy=>by
     rcases List.mem_append.1 hy with hy | hy
     ·exact hA y hy
     ·simp at hy;omega) (by rw[zeo,eN];exact hv) (by simp;omega)
    simpa using this
theorem zjc {A B:List Nat} (hl:A.length=B.length) (hA:∀ x∈A,x<1000000000) (i:Nat) (hi:i<A.length) (hd:A.drop (i+1)=B.drop (i+1)) (ap:A[i]<B[i]'(by omega)):zao A<zao B:=by
 have e1:∀ (l:List Nat) (h:i<l.length),zao l=zao (l.take i)+1000000000 ^ i*(l[i]+1000000000*zao (l.drop (i+1))):=by
  intro l h
  conv=>lhs;rw[←List.take_append_drop i l,zhu,List.drop_eq_getElem_cons h,zao]
  rw[List.length_take,Nat.min_eq_left (by omega)]
 rw[e1 A hi,e1 B (by omega),hd];have h1:=zdM (A.take i) (λx hx=>hA x (List.mem_of_mem_take hx));rw[List.length_take,Nat.min_eq_left (by omega)]at h1;generalize hZ:zao (B.drop (i+1))=Z;generalize A[i]=a at ap ⊢;generalize B[i]=b at ap ⊢;have h2:1000000000 ^ i*(a+1000000000*Z+1)≤1000000000 ^ i*(b+1000000000*Z):=Nat.mul_le_mul_left _ (by omega);rw[Nat.mul_succ]at h2;omega
def zce (a b:Nat):Int:=if a<b then -1 else if b<a then 1 else 0
theorem zAc (a b:Nat) (ha:(lim a).length≤1000) (hb:(lim b).length≤1000) (H:zaa) (K:Kt) (hK:K (.int .i64 (zce a b)) H) :
  ACalls tP zjh [.sl (zak (lim a)) .none,.sl (zak (lim b)) .none] H K:=by
 refine ACalls.out (zKo λhs=>?_);have hO:∀ r,r=zce a b→Out H.length K (.int .i64 r) H:=λr hr=>Out.int (J:=[]) (by simp) (Nat.le_refl _) hs (by rw[hr];exact hK);have lA:=zbT a;have lB:=zbT b;have vA:=zbe a;have vB:=zbe b;by_cases aD:(lim a).length=(lim b).length
 ·simp[zkZ,aD];generalize hLA:lim a=A at *;generalize hLB:lim b=B at *;have eO:IntKind.i64.wrap ((B.length:Int)-1)=(B.length:Int)-1:=zat (by omega) (by omega);rw[eO];refine zKm (Inv:=λq t5 H'=>∃ i:Nat,i≤B.length∧i=q∧t5=.int .i64 ((i:Int)-1)∧H'=H∧A.drop i=B.drop i) B.length ?_ ?_
  ·intro _;exact⟨B.length,by omega,rfl,rfl,rfl,by rw[List.drop_of_length_le (by omega),List.drop_of_length_le (by omega)]⟩
  ·rintro q t5 H' ⟨i,hi,rfl,rfl,rfl,hd⟩ aM aq aO Kb aw;by_cases h0:i=0
   ·subst h0;simp[zii];refine hO _ ?_;simp at hd;rw[←vA,←vB,hd];simp[zce]
   ·obtain⟨j,rfl⟩:∃ j,i=j+1:=⟨i-1,by omega⟩;have dJ:j<A.length:=by omega
    have gm:j<B.length:=by omega
    have ej:((j+1:Nat):Int)-1=(j:Int):=by omega
    have aP:IntKind.i64.wrap ((j:Int)-1)=(j:Int)-1:=zat (by omega) (by omega);rw[ej];rcases Nat.lt_trichotomy A[j] B[j] with h | h | h
    ·have:=zjc aD lA j dJ hd h;simp[zii,dJ,gm,h];exact hO _ (by rw[←vA,←vB];simp[zce,this])
    ·simp[zii,dJ,gm,h,aP];refine aw _ _ ⟨j,by omega,Back.here (by simp) hs (by simp[zk1,ux,AV.sc,AV.scA,AV.scB,AV.scV]) ⟨_,rfl,j,by omega,rfl,rfl,rfl,?_⟩⟩;rw[List.drop_eq_getElem_cons dJ,List.drop_eq_getElem_cons gm,hd,h]
    ·have:=zjc aD.symm lB j gm hd.symm h;simp[zii,dJ,gm,h,Nat.le_of_lt h,Nat.not_lt.2 (Nat.le_of_lt h)];exact hO _ (by rw[←vA,←vB];simp[zce,this,Nat.not_lt.2 (Nat.le_of_lt this)])
 ·have ga:(((lim a).length:Int) != ((lim b).length:Int))=true:=by simp;omega
  by_cases ap:(lim a).length<(lim b).length
  ·have:=zhv ap;simp[zkZ,ga,ap];exact hO (-1) (by simp[zce,this])
  ·have:=zhv (show (lim b).length<(lim a).length by omega);simp[zkZ,ga,ap];exact hO 1 (by simp[zce,this,Nat.not_lt.2 (Nat.le_of_lt this)])
theorem zKj (A B:List Nat) (lA:∀ x∈A,x<1000000000) (lB:∀ x∈B,x<1000000000) (ha:A.length≤1000) (hb:B.length≤1000) (H:zaa) (K:Kt)
  (cA:lim (zao A)=A) (cB:lim (zao B)=B) (hK:K (.sl (zak (lim (zao A+zao B))) .none) H) :
  ACalls tP zpF [.sl (zak A) .none,.sl (zak B) .none] H K:=by
 refine ACalls.out (zKh λhs=>?_);unfold zAa zkY;refine ALoop.own 5 za8 1 rfl ?_;show zkY (.sl (zak A) .none) (.sl (zak B) .none) (.sl [] (.own H.length)) (.int .u32 0) (.int .i64 0) (H++[.perm za8 1 0]) (Out H.length K);refine zKf (Inv:=λq t5 t6 t7 H'=>∃ (i c:Nat) (R:List Nat),2002-i=q∧i≤1001∧t7=.int .i64 i∧t6=.int .u32 c∧t5=.sl (zak R) (.own H.length)∧R.length=i∧(∀ x∈R,x<1000000000)∧c≤1 ∧
  (max A.length B.length<i→c=0∧1000000000 ^ (i-1)≤zao R)∧zao R+1000000000 ^ i*c=zao (A.take i)+zao (B.take i)∧H'=H++[.perm za8 1 R.length]) 2002 ?_ ?_
 ·intro _;exact⟨0,0,[],rfl,by omega,rfl,rfl,rfl,rfl,by simp,by omega,by omega,by simp[zao],rfl⟩
 ·rintro q t5 t6 t7 H' ⟨i,c,R,rfl,hi,rfl,rfl,rfl,ep,hR,hc,iw,hv,rfl⟩ aM aq aO Kb aw;have eP:∀ (s:Nat),s≤2*999999999+1→i≤1000→s+1000000000 ^ 0*0=c+(if h:i<A.length then A[i] else 0)+(if h:i<B.length then B[i] else 0)→(max A.length B.length<i+1→s=1) →
    zkX (.sl (zak A) .none) (.sl (zak B) .none) (.sl (zak R) (.own H.length)) (.int .i64 i) (.int .u32 s) (H++[.perm za8 1 R.length]) (Out H.length K) Kb:=by
   intro s be lx c5 hs3;obtain⟨x,c',bH,bh,e1,e2⟩:=zwV s (by omega);simp only[zkX];simp[e1,e2,zaw,zaT,plain,AV.pd,zax,zaN,zaK,wi i (by omega)];refine⟨⟨by omega,by omega⟩,?_⟩;rw[sN];have tk:∀ L:List Nat,zao (L.take (i+1))=zao (L.take i)+(if h:i<L.length then L[i] else 0)*1000000000 ^ i:=by
    intro L;by_cases h:i<L.length
    ·rw[dif_pos h,zdb L i h]
    ·rw[dif_neg h,List.take_of_length_le (by omega),List.take_of_length_le (by omega)];simp
   refine aw _ _ ⟨2002-(i+1),by omega,Back.here (by simp) (hs.append (by simp[AB.sc])) (by simp[zkW,ux,AV.sc,AV.scA,AV.scB,AV.scV]) ⟨_,_,_,rfl,i+1,c',R++[x],rfl,by omega,rfl,rfl,rfl,by simp[ep],?_,by omega,?_,?_,by simp⟩⟩
   ·intro y hy;rcases List.mem_append.1 hy with hy | hy
    ·exact hR y hy
    ·simp at hy;omega
   ·intro h;have:=hs3 h;refine⟨by omega,?_⟩;obtain rfl:x=1:=by omega
    rw[zeo,ep,Nat.add_sub_cancel];omega
   ·rw[zeo,tk A,tk B,ep,Nat.pow_succ];simp only[Nat.pow_zero,Nat.mul_zero,Nat.add_zero]at c5;generalize (if h:i<A.length then A[i] else 0)=u at *;generalize (if h:i<B.length then B[i] else 0)=v at *;grind
  by_cases hA:i<A.length
  ·have e8:=lA A[i] (List.getElem_mem hA);by_cases hB:i<B.length
   ·have dy:=lB B[i] (List.getElem_mem hB);obtain⟨s1,be⟩:∃ s,s=c+A[i]:=⟨_,rfl⟩;have w1:IntKind.u32.wrap ((c:Int)+(A[i]:Nat))=(s1:Int):=by rw[be,←Int.natCast_add];exact zcv (by omega)
    obtain⟨s2,c5⟩:∃ s,s=s1+B[i]:=⟨_,rfl⟩;have w2:IntKind.u32.wrap ((s1:Int)+(B[i]:Nat))=(s2:Int):=by rw[c5,←Int.natCast_add];exact zcv (by omega)
    simp[zgI,zgJ,hA,hB,w1,w2];exact eP s2 (by omega) (by omega) (by simp[hA,hB];omega) (by omega)
   ·obtain⟨s1,be⟩:∃ s,s=c+A[i]:=⟨_,rfl⟩;have w1:IntKind.u32.wrap ((c:Int)+(A[i]:Nat))=(s1:Int):=by rw[be,←Int.natCast_add];exact zcv (by omega)
    simp[zgI,zgJ,hA,hB,w1];exact eP s1 (by omega) (by omega) (by simp[hA,hB];omega) (by omega)
  ·by_cases hB:i<B.length
   ·have dy:=lB B[i] (List.getElem_mem hB);obtain⟨s2,c5⟩:∃ s,s=c+B[i]:=⟨_,rfl⟩;have w2:IntKind.u32.wrap ((c:Int)+(B[i]:Nat))=(s2:Int):=by rw[c5,←Int.natCast_add];exact zcv (by omega)
    simp[zgI,zgJ,hA,hB,w2];exact eP s2 (by omega) (by omega) (by simp[hA,hB];omega) (by omega)
   ·by_cases h0:c=0
    ·subst h0;simp[zgI,hA,hB];rw[List.take_of_length_le (by omega),List.take_of_length_le (by omega)]at hv;have bN:zao R=zao A+zao B:=by simpa using hv
     rw[←bN]at hK;have gn:R=lim (zao R):=by
      refine zoY hR ?_;by_cases hm:max A.length B.length<i
      ·have:=zja (iw hm).2;omega
      ·by_cases lz:i=0
       ·omega
       ·have hmm:i=max A.length B.length:=by omega
        have cG:1000000000 ^ (i-1)≤zao R:=by
         by_cases hAB:B.length≤A.length
         ·have:i=A.length:=by omega
          have h3:=zjb (n:=zao A) (by intro h;have cM:=congrArg List.length cA;rw[h]at cM;simp at cM;omega);rw[cA,←this]at h3;omega
         ·have:i=B.length:=by omega
          have h3:=zjb (n:=zao B) (by intro h;have cM:=congrArg List.length cB;rw[h]at cM;simp at cM;omega);rw[cB,←this]at h3;omega
        have:=zja cG;omega
     rw[←gn]at hK;exact Out.one hs (.atom (.sl _ _)) rfl rfl hK
    ·have:i≤1000:=by refine Nat.le_of_not_lt λh=>?_;exact h0 (iw (by omega)).1
     simp[zgI,zgJ,hA,hB,show 0<c by omega];exact eP c (by omega) this (by simp[hA,hB]) (by omega)
def us (l:List Nat):List AV:=l.map λ(n:Nat)=>AV.int .u32 (n:Int)
@[simp] theorem ybH (l:List Nat):(us l).length=l.length:=by simp[us]
theorem zkN (l:List Nat):(zak l).flatten=us l:=by induction l with
 | nil=>rfl
 | cons x l ih=>simp only[zak,us,List.map_cons,List.flatten_cons]at ih ⊢;rw[ih];rfl
theorem zie:∀ (l:List Nat),plain (us l)=some (us l)
 | []=>rfl
 | x::l=>by simp only[us,List.map_cons,plain,AV.pd];rw[show plain (List.map (λn:Nat=>AV.int .u32 (n:Int)) l)=some (us l) from zie l];rfl
theorem zJD (l:List Nat) (i:Nat) (h:i<l.length):(us l)[i]?=some (.int .u32 ((l[i]:Nat):Int)):=by simp[us,h]
theorem zrB (l:List Nat) (i x:Nat) (h:i<l.length):(us l).take i++[AV.int .u32 (x:Int)]++(us l).drop (i+1)=us (l.set i x):=by simp only[us,←List.map_take,←List.map_drop];rw[List.set_eq_take_append_cons_drop,if_pos h];simp
theorem zif (n:Nat):List.replicate n (AV.int .u32 0)=us (List.replicate n 0):=by simp[us]
theorem zoF {k:AV→Prop} (l:List Nat) (i:Nat) (h:i<l.length):zbq false 1 i (us l) k=k (.int .u32 ((l[i]:Nat):Int)):=by simp[zbq,zJD l i h]
theorem zo7 (L:List Nat) (hL:∀ x∈L,x<1000000000) (hl:L.length≤100000) {id:Nat} {H:zaa} {K:Kt} (ar:H[id]?=some (.cells (us L))) (hK:K (.sl (zak (lim (zao L))) .none) (H.set id .dead)) :
  ACalls tP zeV [.ms id 0 L.length L.length] H K:=by
 refine ACalls.frz id 0 L.length L.length 1 (us L) (zak L) ar (by simp) ?_ (by simp) (zd8 L) (Nat.le_refl _) (args':=[.sl (zak L) .none]) ⟨.one .ms,trivial⟩ ?_
 ·rw[List.drop_zero,List.take_of_length_le (by simp),zkN,zie]
 ·refine zrY L (by omega) _ _ ?_;rw[zfH L hL];exact hK
theorem zVg (A B:List Nat) (lA:∀ x∈A,x<1000000000) (lB:∀ x∈B,x<1000000000) (ha:A.length≤1000) (hb:B.length≤1000) (H:zaa) (K:Kt)
  (hK:K (.sl (zak (lim (zao A*zao B))) .none) H) :
  ACalls tP zdd [.sl (zak A) .none,.sl (zak B) .none] H K:=by
 refine ACalls.out (zVe λhs=>?_);have hw:IntKind.i64.wrap (IntKind.i64.wrap ((A.length:Int)+B.length)+1)=((A.length+B.length+1:Nat):Int):=by rw[zat (n:=(A.length:Int)+B.length) (by omega) (by omega),zat (by omega) (by omega)];omega
 simp[zDX,hw,zba];have hN:((A.length:Int)+B.length+1).toNat=A.length+B.length+1:=by omega
 rw[hN,zif];refine⟨⟨by omega,by omega,by omega⟩,?_⟩;have hsc:∀ O:List Nat,HSc (H++[.cells (us O)]):=λO=>hs.append (by simp[AB.sc,us,AV.scA,AV.scB]);have fA:=zdM B lB;refine zVb (Inv:=λq t6 H'=>∃ (i:Nat) (O:List Nat),i≤A.length∧A.length-i=q∧t6=.int .i64 i∧O.length=A.length+B.length+1∧(∀ x∈O,x<1000000000)∧zao O=zao (A.take i)*zao B∧H'=H++[.cells (us O)]) A.length ?_ ?_
 ·intro _;exact⟨0,_,by omega,rfl,rfl,by simp,by simp,by rw[zxz];simp[zao],rfl⟩
 ·rintro q t6 H' ⟨i,O,hi,rfl,rfl,dK,hO,hv,rfl⟩ aM aq aO Kb aw;by_cases ap:i<A.length
  ·have e8:=lA A[i] (List.getElem_mem ap);simp[zuT,ap];refine zVc (Inv:=λq t7 t8 H'=>∃ (k c:Nat) (R:List Nat),k≤B.length+1∧B.length+1-k=q∧t8=.int .i64 k∧t7=.int .u64 c∧R.length=A.length+B.length+1∧(∀ x∈R,x<1000000000)∧c<1000000000∧(B.length<k→c=0) ∧
    zao R+c*1000000000 ^ (i+k)=zao O+A[i]*zao (B.take k)*1000000000 ^ i∧H'=H++[.cells (us R)]) (B.length+1) ?_ ?_
   ·intro _;exact⟨0,0,O,by omega,rfl,rfl,rfl,dK,hO,by omega,by omega,by simp[zao],rfl⟩
   ·rintro q t7 t8 H' ⟨k,c,R,hk,rfl,rfl,rfl,ep,hR,hc,iw,hr,rfl⟩ d7 cS gp Kb2 bE;have fW:IntKind.i64.wrap ((i:Int)+k)=((i+k:Nat):Int):=by rw[zat (by omega) (by omega)];omega
    have aP:∀ s:Nat,s<1000000000*1000000000→(cE:i+k<R.length)→k≤B.length→s=c+R[i+k]+A[i]*(if h:k<B.length then B[k] else 0) →
      znU (.sl (zak A) .none) (.sl (zak B) .none) (.ms H.length 0 (A.length+B.length+1) (A.length+B.length+1)) (.int .i64 i) (.int .u64 s) (.int .i64 k) (H++[.cells (us R)]) (Out H.length K) Kb Kb2:=by
     intro s be cE hkB c5;obtain⟨x,c',bH,bh,bC,e1,e2⟩:=zgd s (by omega);have aZ:i+k<A.length+B.length+1:=by omega
     have aX:=zrB R (i+k) x cE;simp only[znU];simp[fW,e1,e2,bC,wi k (by omega),aZ];have eT:((i:Int)+k).toNat=i+k:=by omega
     rw[eT];refine⟨⟨by omega,by omega⟩,by omega,?_⟩;have hset':List.take (i+k) (us R)++AV.int .u32 (x:Int)::List.drop (i+k+1) (us R)=us (R.set (i+k) x):=by rw[←aX];simp
     rw[hset'];have bG:zao (B.take (k+1))=zao (B.take k)+(if h:k<B.length then B[k] else 0)*1000000000 ^ k:=by
      by_cases h:k<B.length
      ·rw[dif_pos h,zdb B k h]
      ·rw[dif_neg h,List.take_of_length_le (by omega),List.take_of_length_le (by omega)];simp
     have kH:=zjd R (i+k) x cE;have cV:zao (R.set (i+k) x)+c'*1000000000 ^ (i+(k+1))=zao O+A[i]*zao (B.take (k+1))*1000000000 ^ i:=by rw[bG,show i+(k+1)=i+k+1 by omega,Nat.pow_succ];rw[Nat.pow_add]at hr kH ⊢;rw[c5]at bh;clear aX hset' e1 e2 bC c5 bG aw bE aM d7 aO gp fA hK hs;generalize (if h:k<B.length then B[k] else 0)=b at *;generalize zao (R.set (i+k) x)=vS at *;generalize R[i+k]=r at *;generalize A[i]=a at *;generalize zao (List.take k B)=T at *;generalize 1000000000 ^ i=P at *;generalize 1000000000 ^ k=Q at *;generalize zao R=vR at *;generalize zao O=vO at *;grind
     have bL:c'<1000000000:=by refine Nat.lt_of_not_le λh=>?_;have:=Nat.mul_le_mul_left 1000000000 h;omega
     refine bE _ _ ⟨B.length+1-(k+1),by omega,Back.here (by simp) (hsc _) (by simp[znT,ux,AV.sc,AV.scA,AV.scB,AV.scV]) ⟨_,_,rfl,k+1,c',R.set (i+k) x,by omega,rfl,by simp,rfl,by simp[ep],?_,bL,?_,cV,rfl⟩⟩
     ·intro y hy;rcases List.mem_or_eq_of_mem_set hy with hy | rfl
      ·exact hR y hy
      ·exact bH
     ·intro cu;obtain rfl:k=B.length:=by omega
      have gh:zao O+A[i]*zao (B.take (B.length+1))*1000000000 ^ i=zao (A.take (i+1))*zao B:=by rw[List.take_of_length_le (by omega),zdb A i ap,hv];grind
      rw[gh]at cV;have eN:=zdM (A.take (i+1)) (λy hy=>lA y (List.mem_of_mem_take hy));rw[List.length_take,Nat.min_eq_left (by omega)]at eN;have hp:=Nat.mul_lt_mul'' eN fA;rw[←Nat.pow_add]at hp;refine Nat.eq_zero_of_not_pos λbX=>?_;have h3:1*1000000000 ^ (i+(B.length+1))≤c'*1000000000 ^ (i+(B.length+1)):=Nat.mul_le_mul_right _ bX;rw[show i+1+B.length=i+(B.length+1) by omega]at hp;omega
    by_cases eF:k<B.length
    ·have cE:i+k<R.length:=by omega
     have dy:=lB B[k] (List.getElem_mem eF);have dO:=hR R[i+k] (List.getElem_mem cE);have eT:((i:Int)+k).toNat=i+k:=by omega
     have w1:IntKind.u64.wrap ((R[i+k]:Nat):Int)=R[i+k]:=zbl (by omega);have w2:IntKind.u64.wrap ((A[i]:Nat):Int)=A[i]:=zbl (by omega);have w3:IntKind.u64.wrap ((B[k]:Nat):Int)=B[k]:=zbl (by omega);have ff:A[i]*B[k]≤999999999*999999999:=Nat.mul_le_mul (by omega) (by omega);obtain⟨m,hm⟩:∃ m,m=A[i]*B[k]:=⟨_,rfl⟩;have w4:IntKind.u64.wrap (((A[i]:Nat):Int)*(B[k]:Nat))=(m:Int):=by rw[hm,←Int.natCast_mul];exact zbl (by omega)
     obtain⟨s1,be⟩:∃ s,s=c+R[i+k]:=⟨_,rfl⟩;have w5:IntKind.u64.wrap ((c:Int)+(R[i+k]:Nat))=(s1:Int):=by rw[be,←Int.natCast_add];exact zbl (by omega)
     obtain⟨s2,c5⟩:∃ s,s=s1+m:=⟨_,rfl⟩;have w6:IntKind.u64.wrap ((s1:Int)+(m:Int))=(s2:Int):=by rw[c5,←Int.natCast_add];exact zbl (by omega)
     have:=aP s2 (by omega) cE (by omega) (by rw[c5,be,hm,dif_pos eF]);simp[znR,eF,fW,eT,w2,w3,w4];refine⟨⟨by omega,by omega⟩,?_⟩;rw[zoF R _ cE];simp[w1,w2,w3,w4,w5,w6,ap,eF];exact this
    ·by_cases h0:c=0
     ·subst h0;simp[znR,eF,wi i (by omega)];refine aw _ _ ⟨A.length-(i+1),by omega,Back.here (by simp) (hsc _) (by simp[znS,ux,AV.sc,AV.scA,AV.scB,AV.scV]) ⟨_,rfl,i+1,R,by omega,rfl,rfl,ep,hR,?_,rfl⟩⟩;rw[List.take_of_length_le (by omega)]at hr;rw[zdb A i ap];rw[hv]at hr;grind
     ·have fV:k=B.length:=by refine Nat.le_antisymm (Nat.le_of_not_lt λh=>h0 (iw h)) (by omega)
      have cE:i+k<R.length:=by omega
      have dO:=hR R[i+k] (List.getElem_mem cE);have eT:((i:Int)+k).toNat=i+k:=by omega
      have w1:IntKind.u64.wrap ((R[i+k]:Nat):Int)=R[i+k]:=zbl (by omega);obtain⟨s1,be⟩:∃ s,s=c+R[i+k]:=⟨_,rfl⟩;have w5:IntKind.u64.wrap ((c:Int)+(R[i+k]:Nat))=(s1:Int):=by rw[be,←Int.natCast_add];exact zbl (by omega)
      have:=aP s1 (by omega) cE (by omega) (by rw[be,dif_neg eF];omega);simp[znR,eF,fW,eT,show 0<c by omega];refine⟨⟨by omega,by omega⟩,?_⟩;rw[zoF R _ cE];simp[w1,w5];exact this
  ·obtain rfl:i=A.length:=by omega
   rw[List.take_length]at hv;simp[zuT];rw[←dK];refine zo7 O hO (by omega) (by simp) ?_;rw[hv];simp;exact Out.one hs (.atom (.sl _ _)) rfl rfl hK
theorem zkO (O:List Nat) (i x:Nat) (h:i<O.length):List.take i (us O)++AV.int .u32 (x:Int)::List.drop (i+1) (us O)=us (O.set i x):=by rw[←zrB O i x h];simp
theorem zra {O:List Nat} (hO:∀ x∈O,x<1000000000) {i x:Nat} (hx:x<1000000000):∀ y∈O.set i x,y<1000000000:=by
 intro y hy;rcases List.mem_or_eq_of_mem_set hy with hy | rfl
 ·exact hO y hy
 ·exact hx
theorem zKw (A B:List Nat) (lA:∀ x∈A,x<1000000000) (lB:∀ x∈B,x<1000000000) (ha:A.length≤1000) (hb:B.length≤A.length) (aQ:zao B≤zao A) (H:zaa) (K:Kt)
  (hK:K (.sl (zak (lim (zao A-zao B))) .none) H) :
  ACalls tP zhB [.sl (zak A) .none,.sl (zak B) .none] H K:=by
 refine ACalls.out (zKu λhs=>?_);simp[zAd,zba];rw[zif];refine⟨⟨by omega,by omega⟩,?_⟩;have hsc:∀ O:List Nat,HSc (H++[.cells (us O)]):=λO=>hs.append (by simp[AB.sc,us,AV.scA,AV.scB]);have tk:∀ i,zao (B.take (i+1))=zao (B.take i)+(if h:i<B.length then B[i] else 0)*1000000000 ^ i:=by
  intro i;by_cases h:i<B.length
  ·rw[dif_pos h,zdb B i h]
  ·rw[dif_neg h,List.take_of_length_le (by omega),List.take_of_length_le (by omega)];simp
 refine zKs (Inv:=λq t6 t7 H'=>∃ (i w:Nat) (O:List Nat),i≤A.length∧A.length-i=q∧t7=.int .i64 i∧t6=.int .u32 w∧w≤1∧O.length=A.length∧(∀ x∈O,x<1000000000) ∧
  zao (O.take i)+zao (B.take i)=zao (A.take i)+w*1000000000 ^ i∧H'=H++[.cells (us O)]) A.length ?_ ?_
 ·intro _;exact⟨0,0,_,by omega,rfl,rfl,rfl,by omega,by simp,by simp,by simp[zao],rfl⟩
 ·rintro q t6 t7 H' ⟨i,w,O,hi,rfl,rfl,rfl,hw,dK,hO,hv,rfl⟩ aM aq aO Kb aw;by_cases ap:i<A.length
  ·have e8:=lA A[i] (List.getElem_mem ap);have mB:i<O.length:=by omega
   have aP:∀ s:Nat,s≤1000000000→s=w+(if h:i<B.length then B[i] else 0) →
     zik (.sl (zak A) .none) (.sl (zak B) .none) (.ms H.length 0 A.length A.length) (.int .i64 i) (.int .u32 s) (H++[.cells (us O)]) (Out H.length K) Kb:=by
    intro s be c5;have hpw:1000000000 ^ (i+1)=1000000000 ^ i*1000000000:=Nat.pow_succ ..;have fin:∀ (x w':Nat),x<1000000000→w'≤1→x+s=A[i]+w'*1000000000 →
      Kb (zij (.sl (zak A) .none) (.sl (zak B) .none) (.ms H.length 0 A.length A.length) (.int .u32 w') (.int .i64 ((i:Int)+1))) (H++[.cells (us (O.set i x))]):=by
     intro x w' hx l8 he;refine aw _ _ ⟨A.length-(i+1),by omega,Back.here (by simp) (hsc _) (by simp[zij,ux,AV.sc,AV.scA,AV.scB,AV.scV]) ⟨_,_,rfl,i+1,w',O.set i x,by omega,rfl,by simp,rfl,l8,by simp[dK],zra hO hx,?_,rfl⟩⟩;rw[zdb (O.set i x) i (by simpa using mB),tk i,zdb A i ap,List.take_set_of_le (Nat.le_refl _),List.getElem_set_self,hpw];generalize (if h:i<B.length then B[i] else 0)=b at *;grind
    by_cases cG:s≤A[i]
    ·have w1:IntKind.u32.wrap (((A[i]:Nat):Int)-(s:Int))=((A[i]-s:Nat):Int):=by rw[←Int.natCast_sub cG];exact zcv (by omega)
     obtain⟨x,hx⟩:∃ x,x=A[i]-s:=⟨_,rfl⟩;rw[←hx]at w1;have:=fin x 0 (by omega) (by omega) (by omega);simp only[zik,zk4,zrR];simp[ap,cG,w1,wi i (by omega),zkO O i x mB,dK];exact⟨by omega,by simpa using this⟩
    ·have w1:IntKind.u32.wrap (((A[i]:Nat):Int)+1000000000)=((A[i]+1000000000:Nat):Int):=by rw[show ((A[i]:Nat):Int)+1000000000=((A[i]+1000000000:Nat):Int) by omega];exact zcv (by omega)
     obtain⟨x,hx⟩:∃ x,x=A[i]+1000000000-s:=⟨_,rfl⟩;have w2:IntKind.u32.wrap (((A[i]:Nat):Int)+1000000000-(s:Int))=(x:Int):=by rw[show ((A[i]:Nat):Int)+1000000000-(s:Int)=(x:Int) by omega];exact zcv (by omega)
     have:=fin x 1 (by omega) (by omega) (by omega);simp only[zik,zk4,zrR];simp[ap,cG,w1,w2,wi i (by omega),zkO O i x mB,dK];exact⟨by omega,by simpa using this⟩
   by_cases hB:i<B.length
   ·have dy:=lB B[i] (List.getElem_mem hB);obtain⟨s,be⟩:∃ s,s=w+B[i]:=⟨_,rfl⟩;have w1:IntKind.u32.wrap ((w:Int)+(B[i]:Nat))=(s:Int):=by rw[be,←Int.natCast_add];exact zcv (by omega)
    have:=aP s (by omega) (by rw[be,dif_pos hB]);simp[zk3,ap,hB,w1];exact this
   ·have:=aP w (by omega) (by rw[dif_neg hB];rfl);simp[zk3,ap,hB];exact this
  ·obtain rfl:i=A.length:=by omega
   rw[List.take_length,List.take_of_length_le (by omega),List.take_of_length_le (by omega)]at hv;have hOlt:=zdM O hO;rw[dK]at hOlt;have kW:w=0:=by
    refine Nat.eq_zero_of_not_pos λh=>?_;have:w=1:=by omega
    subst this;omega
   subst kW;simp[zk3];rw[←dK];refine zo7 O hO (by omega) (by simp) ?_;rw[show zao O=zao A-zao B by omega];simp;exact Out.one hs (.atom (.sl _ _)) rfl rfl hK
theorem zNr (A:List Nat) (lA:∀ x∈A,x<1000000000) (ha:A.length≤1000) (d:Nat) (dq:0<d) (hd:d<4294967296) (hdB:d≤1000000000) (H:zaa) (K:Kt)
  (hK:K (.tup [.sl (zak (lim (zao A / d))) .none,.int .u64 ((zao A % d:Nat):Int)]) H) :
  ACalls tP zpW [.sl (zak A) .none,.int .u64 d] H K:=by
 refine ACalls.out (zNp λhs=>?_);have aT:IntKind.i64.wrap ((A.length:Int)-1)=(A.length:Int)-1:=zat (by omega) (by omega);simp[zA7,zba,aT];rw[zif];refine⟨⟨by omega,by omega⟩,?_⟩;have hsc:∀ O:List Nat,HSc (H++[.cells (us O)]):=λO=>hs.append (by simp[AB.sc,us,AV.scA,AV.scB]);refine zNn (Inv:=λq t7 t8 H'=>∃ (i r:Nat) (O:List Nat),i≤A.length∧i=q∧t8=.int .i64 ((i:Int)-1)∧t7=.int .u64 r∧r<d∧O.length=A.length∧(∀ x∈O,x<1000000000) ∧
  zao (A.drop i)=d*zao (O.drop i)+r∧H'=H++[.cells (us O)]) A.length ?_ ?_
 ·intro _;exact⟨A.length,0,_,by omega,rfl,rfl,rfl,by omega,by simp,by simp,by simp[zao],rfl⟩
 ·rintro q t7 t8 H' ⟨i,r,O,hi,rfl,rfl,rfl,hr,dK,hO,hv,rfl⟩ aM aq aO Kb aw;by_cases h0:i=0
  ·subst h0;simp[zsG];rw[List.drop_zero,List.drop_zero]at hv;rw[←dK];refine zo7 O hO (by omega) (by simp) ?_;have e1:zao A / d=zao O:=by rw[hv,Nat.mul_add_div dq,Nat.div_eq_of_lt hr];simp
   have e2:zao A % d=r:=by rw[hv,Nat.mul_add_mod,Nat.mod_eq_of_lt hr]
   rw[e1,e2]at hK;simp;exact⟨⟨rfl,rfl⟩,Out.tup (bs:=[.sl (zak (lim (zao O))) .none,.int .u64 (r:Int)]) hs hK ⟨slV,zaU rfl rfl,trivial⟩⟩
  ·obtain⟨j,rfl⟩:∃ j,i=j+1:=⟨i-1,by omega⟩;have dJ:j<A.length:=by omega
   have kI:j<O.length:=by omega
   have e8:=lA A[j] (List.getElem_mem dJ);have ej:((j+1:Nat):Int)-1=(j:Int):=by omega
   have aP:IntKind.i64.wrap ((j:Int)-1)=(j:Int)-1:=zat (by omega) (by omega);have hrB:r*1000000000≤1000000000*1000000000:=Nat.mul_le_mul_right _ (by omega);obtain⟨m,hm⟩:∃ m,m=r*1000000000:=⟨_,rfl⟩;have w1:IntKind.u64.wrap ((r:Int)*1000000000)=(m:Int):=by rw[show (r:Int)*1000000000=(m:Int) by omega];exact zbl (by omega)
   have w2:IntKind.u64.wrap ((A[j]:Nat):Int)=A[j]:=zbl (by omega);obtain⟨s,be⟩:∃ s,s=m+A[j]:=⟨_,rfl⟩;have w3:IntKind.u64.wrap ((m:Int)+(A[j]:Nat))=(s:Int):=by rw[be,←Int.natCast_add];exact zbl (by omega)
   obtain⟨x,c,bH,bh,e1,e2⟩:=zpc s d dq (by omega);have mC:c<1000000000:=by
    refine Nat.lt_of_not_le λh=>?_;have h1:d*1000000000≤d*c:=Nat.mul_le_mul_left _ h;have h2:r*1000000000+1000000000≤d*1000000000:=by rw[←Nat.succ_mul];exact Nat.mul_le_mul_right _ hr
    omega
   have w4:IntKind.u32.wrap (c:Int)=c:=zcv (by omega);rw[ej];simp only[zsG];simp[dJ,w1,w2,w3,e1,e2,w4,aP,zkO O j c kI,dK];refine⟨by omega,aw _ _ ⟨j,by omega,Back.here (by simp) (hsc _) (by simp[zlY,ux,AV.sc,AV.scA,AV.scB,AV.scV]) ⟨_,_,rfl,j,x,O.set j c,by omega,rfl,rfl,rfl,bH,by simp[dK],zra hO mC,?_,rfl⟩⟩⟩;rw[zhw A j dJ,zhw (O.set j c) j (by simpa using kI),List.getElem_set_self,List.drop_set_of_lt (by omega),hv];rw[be,hm]at bh;generalize zao (O.drop (j+1))=Z at *;grind
theorem zrW (a b:Nat) (ha:(lim a).length≤1000) (bJ:0<b) (hb:b<1000000000) (H:zaa) (K:Kt)
  (hK:K (.tup [.sl (zak (lim (a / b))) .none,.sl (zak (lim (a % b))) .none]) H) :
  ACalls tP zhC [.sl (zak (lim a)) .none,.sl (zak (lim b)) .none] H K:=by
 refine ACalls.out (zKO λhs=>?_);have bn:lim b=[b]:=zeT (by omega) hb;simp only[zAj];refine zAc a b ha (by rw[bn];simp) _ _ ?_;have fU:(zce a b<0)↔a<b:=by
  unfold zce;split
  ·simp;assumption
  ·split <;> simp <;> omega
 by_cases ap:a<b
 ·simp[fU,ap];refine zrY (lim a) (by omega) _ _ ?_;rw[zfH _ (zbT a),zbe];rw[Nat.div_eq_of_lt ap,Nat.mod_eq_of_lt ap,zxv]at hK;refine⟨⟨rfl,rfl⟩,?_⟩;exact Out.tup0 (bs:=[.sl (zak []) .none,.sl (zak (lim a)) .none]) hs hK ⟨zdS,slV,trivial⟩
 ·have w1:IntKind.u64.wrap (b:Int)=b:=zbl (by omega);have hm:a % b<b:=Nat.mod_lt _ bJ;simp[fU,ap,bn,w1];refine zNr (lim a) (zbT a) ha b bJ (by omega) (by omega) _ _ ?_;rw[zbe];simp;refine zD6 (a % b) (by omega) _ _ ?_;refine⟨⟨rfl,rfl⟩,?_⟩;exact Out.tup0 (bs:=[.sl (zak (lim (a / b))) .none,.sl (zak (lim (a % b))) .none]) hs hK ⟨slV,slV,trivial⟩
theorem zKJ (a b:Nat) (ha:(lim a).length≤1000) (hb:b<1000000000) (H:zaa) (K:Kt) (hK:K (.sl (zak (lim (Nat.gcd a b))) .none) H) :
  ACalls tP zpG [.sl (zak (lim a)) .none,.sl (zak (lim b)) .none] H K:=by
 refine ACalls.out (zKH λhs=>?_);unfold zAh;refine zKF (Inv:=λq t0 t1 H'=>∃ x y:Nat,y=q∧t0=.sl (zak (lim x)) .none∧t1=.sl (zak (lim y)) .none∧(lim x).length≤1000∧y<1000000000∧Nat.gcd x y=Nat.gcd a b∧H'=H) b ?_ ?_
 ·intro _;exact⟨a,b,rfl,rfl,rfl,ha,hb,rfl,rfl⟩
 ·rintro q t0 t1 H' ⟨x,y,rfl,rfl,rfl,hx,hy,hg,rfl⟩ aM aq aO Kb aw;by_cases h0:y=0
  ·subst h0;rw[Nat.gcd_zero_right]at hg;subst hg;simp[zrT];exact Out.one0 hs (.atom (.sl _ _)) rfl rfl hK
  ·have hly:lim y=[y]:=zeT h0 hy;have hm:x % y<y:=Nat.mod_lt _ (by omega);simp[zrT,show 0<(lim y).length by rw[hly];simp];refine zrW x y hx (by omega) hy _ _ ?_;simp;refine aw _ _ ⟨x % y,hm,Back.here (by simp) hs (by simp[zlb,ux,AV.sc,AV.scA,AV.scB,AV.scV]) ⟨_,_,rfl,y,x % y,rfl,rfl,rfl,by rw[hly];simp,by omega,?_,rfl⟩⟩;rw[←hg,Nat.gcd_comm x y,Nat.gcd_rec y x,Nat.gcd_comm]
def zai (z:Int):List AV:=[.bool (decide (z<0)),.sl (zak (lim z.natAbs)) .none,.sl (zak [1]) .none]
theorem zU8 (neg:Bool) (N D:List Nat) (hN:∀ x∈N,x<4294967296) (hD:∀ x∈D,x<4294967296) (mD:N.length≤10000) (hDl:D.length≤10000) (n:Nat) (bS:(lim n).length≤900) (d:Nat) (dq:0<d) (hd:d<1000000000)
  (hn:zao N=n*d) (hdv:zao D=d) (H:zaa) (K:Kt) (hK:K (.agg (zai (if neg then -(n:Int) else n))) H) :
  ACalls tP zdc [.bool neg,.sl (zak N) .none,.sl (zak D) .none] H K:=by
 refine ACalls.out (zU7 λhs=>?_);have dL:lim d=[d]:=zeT (by omega) hd;simp[zDW];refine zAg N hN (by omega) _ _ ?_;refine zAg D hD (by omega) _ _ ?_;rw[hn,hdv];have kJ:(lim (n*d)).length≤1000:=by
  have h1:=zdM (lim n) (zbT n);rw[zbe]at h1;have h2:n*d<1000000000 ^ ((lim n).length+1):=by rw[Nat.pow_succ];exact Nat.mul_lt_mul'' h1 hd
  have:=zbI h2;omega
 by_cases h0:n=0
 ·subst h0;have e0:(if neg=true then -((0:Nat):Int) else ((0:Nat):Int))=0:=by cases neg <;> rfl
  rw[e0]at hK;simp[zaw,zaT,plain,AV.pd,zau,zaL,zcE];have e1:zai 0=[.bool false,.sl [] .none,.sl [[.int .u32 1]] .none]:=by simp[zai,zak]
  rw[e1]at hK;exact Out.one hs (WkV.agg (ds:=[.bool false,.sl [] .none,.sl [[.int .u32 1]] .none]) ⟨.refl _,.snil,.sl _ _,trivial⟩) rfl (by simp[AV.scV,AV.scA,AV.scB]) hK
 ·have bX:0<(lim (n*d)).length:=by rw[zcg (Nat.mul_ne_zero h0 (by omega))];simp
  have hg:Nat.gcd (n*d) d=d:=Nat.gcd_eq_right (Nat.dvd_mul_left d n);have bJ:(((lim (n*d)).length:Int) == 0)=false:=by generalize (lim (n*d)).length=q at bX;simp;omega
  have cI:znQ (.bool neg) (.sl (zak (lim n)) .none) (.sl (zak [1]) .none) (.ptr H.length 0) (H++[.cells [.bool false,.snil,.snil]]) (Out H.length K):=by
   simp[znQ,zau,zaL,zcE];have e1:zai (if neg=true then -(n:Int) else n)=[.bool neg,.sl (zak (lim n)) .none,.sl (zak [1]) .none]:=by
    cases neg
    ·simp[zai]
    ·simp[zai];omega
   rw[e1]at hK;exact Out.one hs (WkV.agg (ds:=[.bool neg,.sl (zak (lim n)) .none,.sl (zak [1]) .none]) ⟨.refl _,.sl _ _,.sl _ _,trivial⟩) rfl (by simp[AV.scV,AV.scA,AV.scB]) hK
  simp[bJ,dL];rw[show ([d]:List Nat)=lim d from dL.symm];refine zKJ (n*d) d kJ hd _ _ ?_;rw[hg,dL];by_cases gZ:d=1
  ·subst gZ;simp;simpa using cI
  ·have aD:((d:Int) != 1)=true:=by simp;omega
   simp[aD];rw[show ([d]:List Nat)=lim d from dL.symm];refine zrW (n*d) d kJ dq hd _ _ ?_;simp;refine zrW d d (by rw[dL];simp) dq hd _ _ ?_;rw[Nat.div_self dq,Nat.mul_div_cancel _ dq,show lim 1=[1] from zeT (by omega) (by omega)];simp;exact cI
def Sm (z:Int):Prop:=z.natAbs<1000000000 ^ 30
theorem Sm.len {z:Int} (h:Sm z):(lim z.natAbs).length≤30:=zbI h
theorem zcY:lim 1=[1]:=zeT (by omega) (by omega)
theorem zht (n:Nat):∀ x∈lim n,x<4294967296:=λx hx=>by have:=zbT n x hx;omega
@[simp] theorem zHM (z:Int):(zai z).length=3:=rfl
@[simp] theorem zh3 (z:Int):(zai z).all AV.known=true:=rfl
theorem zkn (z:Int) (n:Nat):(zai z).all (AV.scA n)=true:=rfl
theorem zbN {H J:zaa} {K:Kt} {z:Int} (hs:HSc H) (hK:K (.agg (zai z)) H):Out H.length K (.agg (zai z)) (H++J):=Out.one hs .rfl' rfl rfl hK
theorem zwt (neg:Bool) (n d:Nat) (hn:n*d<1000000000 ^ 100) (dq:0<d) (hd:d<1000000000) {z:Int} (hz:(if neg=true then -(n:Int) else n)=z) (H:zaa) (K:Kt) (hK:K (.agg (zai z)) H) :
  ACalls tP zdc [.bool neg,.sl (zak (lim (n*d))) .none,.sl (zak (lim d)) .none] H K:=by
 subst hz;have h1:=zbI hn;have h2:n<1000000000 ^ 100:=Nat.lt_of_le_of_lt (Nat.le_mul_of_pos_right n dq) hn;have h3:=zbI h2;exact zU8 neg _ _ (zht _) (zht _) (by omega) (by rw[zeT (by omega) hd];simp) n (by omega) d dq hd (zbe _) (zbe _) H K hK
theorem zfk (neg:Bool) (n:Nat) (hn:n<1000000000 ^ 100) {z:Int} (hz:(if neg=true then -(n:Int) else n)=z) (H:zaa) (K:Kt) (hK:K (.agg (zai z)) H) :
  ACalls tP zdc [.bool neg,.sl (zak (lim n)) .none,.sl (zak [1]) .none] H K:=by
 have:=zwt neg n 1 (by simpa using hn) (by omega) (by omega) hz H K hK;rwa [zcY,Nat.mul_one]at this
theorem zoV:(1000000000:Nat) ^ 30≤1000000000 ^ 100:=Nat.pow_le_pow_right (by omega) (by omega)
theorem zxP {a b:Nat} (ha:a<1000000000 ^ 30) (hb:b<1000000000 ^ 30):a*b<1000000000 ^ 100:=by have:=Nat.mul_lt_mul'' ha hb;rw[←Nat.pow_add]at this;exact Nat.lt_of_lt_of_le this (Nat.pow_le_pow_right (by omega) (by omega))
theorem zea (n:Nat) (hn:n<9223372036854775808) (H:zaa) (K:Kt) (hK:K (.agg (zai n)) H):ACalls tP zcZ [.int .i64 n] H K:=by
 refine ACalls.out (zTg λhs=>?_);have w1:IntKind.u64.wrap (n:Int)=n:=zbl (by omega);have h0:¬ ((n:Int)<0):=by omega
 simp[zDc,h0,w1];refine zD6 n (by omega) _ _ ?_;simp[zaw,zaT,plain,AV.pd];refine ACalls.wk (args':=[.bool false,.sl (zak (lim n)) .none,.sl (zak [1]) .none]) (zfk false n (by omega) (z:=n) (by simp) _ _ ?_) ⟨.rfl',.rfl',.atom (.sl _ _),trivial⟩;simp[zh3];exact zbN hs hK
theorem zf1 (z:Int) (hz:Sm z) (H:zaa) (K:Kt) (hK:K (.agg (zai z)) H):ACalls tP zer [.agg (zai z)] H K:=by refine ACalls.out (zU4 λhs=>?_);simp[zDV,zai];refine zfk _ _ (Nat.lt_of_lt_of_le hz zoV) (z:=z) (by split <;> simp_all <;> omega) _ _ ?_;simp;exact zbN hs hK
theorem zRQ (z:Int) (hz:Sm z) (H:zaa) (K:Kt) (hK:K (.agg (zai (-z))) H):ACalls tP zqf [.agg (zai z)] H K:=by refine ACalls.out (zRP λhs=>?_);simp[zCL,zai];refine zfk _ _ (Nat.lt_of_lt_of_le hz zoV) (z:=-z) (by split <;> simp_all <;> omega) _ _ ?_;simp;exact zbN hs hK
theorem zSr (z:Int) (hz:Sm z) (H:zaa) (K:Kt) (hK:K (.int .i64 z.sign) H):ACalls tP zqg [.agg (zai z)] H K:=by
 refine ACalls.out (zSq λhs=>?_);simp[zCM,zai];refine zf1 z hz _ _ ?_;simp[zai];by_cases h0:z=0
 ·subst h0;simp;exact Out.int (J:=_) rfl (Nat.le_refl _) hs hK
 ·have hp:0<(lim z.natAbs).length:=by rw[zcg (by omega)];simp
  have hb:(((lim z.natAbs).length:Int) == 0)=false:=by generalize (lim z.natAbs).length=q at hp;simp;omega
  simp[hb];by_cases hn:z<0
  ·simp[hn];rw[Int.sign_eq_neg_one_of_neg hn]at hK;exact Out.int (J:=_) rfl (Nat.le_refl _) hs hK
  ·simp[hn];rw[Int.sign_eq_one_of_pos (by omega)]at hK;exact Out.int (J:=_) rfl (Nat.le_refl _) hs hK
theorem zje (a b:Nat) (ha:a<1000000000 ^ 30) (hb:b<1000000000 ^ 30) (H:zaa) (K:Kt) (hK:K (.sl (zak (lim (a*b))) .none) H):ACalls tP zdd [.sl (zak (lim a)) .none,.sl (zak (lim b)) .none] H K:=by have h1:=zbI ha;have h2:=zbI hb;refine zVg (lim a) (lim b) (zbT a) (zbT b) (by omega) (by omega) _ _ ?_;rw[zbe,zbe];exact hK
theorem zeZ:(1:Nat)<1000000000 ^ 30:=by decide
theorem zxI (H:zaa) (K:Kt) (hK:K (.sl (zak [1]) .none) H):ACalls tP zdd [.sl (zak [1]) .none,.sl (zak [1]) .none] H K:=by have:=zje 1 1 zeZ zeZ H K (by rw[Nat.mul_one,zcY];exact hK);rwa [zcY]at this
theorem zpC (a:Nat) (ha:a<1000000000 ^ 30) (H:zaa) (K:Kt) (hK:K (.sl (zak (lim a)) .none) H):ACalls tP zdd [.sl (zak (lim a)) .none,.sl (zak [1]) .none] H K:=by have:=zje a 1 ha zeZ H K (by rw[Nat.mul_one];exact hK);rwa [zcY]at this
theorem zGY (a:Nat) (ha:a<1000000000 ^ 30) (H:zaa) (K:Kt) (hK:K (.sl (zak (lim a)) .none) H):ACalls tP zdd [.sl (zak [1]) .none,.sl (zak (lim a)) .none] H K:=by have:=zje 1 a zeZ ha H K (by rw[Nat.one_mul];exact hK);rwa [zcY]at this
theorem zyY (a b:Int):(if (decide (a<0) != decide (b<0))=true then -((a.natAbs*b.natAbs:Nat):Int) else ((a.natAbs*b.natAbs:Nat):Int))=a*b:=by
 rw[←Int.natAbs_mul];by_cases ha:a<0 <;> by_cases hb:b<0 <;> simp[ha,hb]
 ·have:=Int.mul_pos_of_neg_of_neg ha hb;omega
 ·have:=Int.mul_nonpos_of_nonpos_of_nonneg (Int.le_of_lt ha) (by omega:0≤b);omega
 ·have:=Int.mul_nonpos_of_nonneg_of_nonpos (by omega:0≤a) (Int.le_of_lt hb);omega
 ·have:=Int.mul_nonneg (by omega:0≤a) (by omega:0≤b);omega
theorem ziy (a b:Int) (ha:Sm a) (hb:Sm b) (H:zaa) (K:Kt) (hK:K (.agg (zai (a*b))) H):ACalls tP zfx [.agg (zai a),.agg (zai b)] H K:=by refine ACalls.out (zRu λhs=>?_);simp[zCE,zai,Nat.add_assoc];refine zaB (.agg (zai a)) (λJ=>zf1 a ha _ _ ⟨rfl,rfl⟩) ?_;refine zaB (.agg (zai b)) (λJ=>zf1 b hb _ _ ⟨rfl,rfl⟩) ?_;simp[zai,AV.known,Nat.add_assoc];refine zaB (.sl (zak (lim (a.natAbs*b.natAbs))) .none) (λJ=>zje _ _ ha hb _ _ ⟨rfl,rfl⟩) ?_;refine zaB (.sl (zak [1]) .none) (λJ=>zxI _ _ ⟨rfl,rfl⟩) ?_;refine zaB (.agg (zai (a*b))) (λJ=>zfk _ _ (zxP ha hb) (zyY a b) _ _ ⟨rfl,rfl⟩) ?_;simp[Nat.add_assoc];exact zbN hs hK
theorem zuQ (a b:Int) (ha:Sm a) (hb:Sm b) (H:zaa) (K:Kt) (hK:K (.agg (zai (a+b))) H):ACalls tP zhQ [.agg (zai a),.agg (zai b)] H K:=by
 refine ACalls.out (zUV λhs=>?_);have la:=ha.len;have lb:=hb.len;simp[zDR,zai,Nat.add_assoc];refine zaB (.agg (zai a)) (λJ=>zf1 a ha _ _ ⟨rfl,rfl⟩) ?_;refine zaB (.agg (zai b)) (λJ=>zf1 b hb _ _ ⟨rfl,rfl⟩) ?_;simp[zai,AV.known,Nat.add_assoc];refine zaB (.sl (zak (lim a.natAbs)) .none) (λJ=>zpC _ ha _ _ ⟨rfl,rfl⟩) ?_;refine zaB (.sl (zak (lim b.natAbs)) .none) (λJ=>zpC _ hb _ _ ⟨rfl,rfl⟩) ?_;refine zxI _ _ ?_;simp[Nat.add_assoc];have cq:∀ n:Nat,n≤a.natAbs+b.natAbs→n<1000000000 ^ 100:=by
  intro n hn;have h1:(1000000000:Nat) ^ 30+1000000000 ^ 30≤1000000000 ^ 100:=by decide
  unfold Sm at ha hb;omega
 have di:∀ x y:Int,Sm x→Sm y→y.natAbs≤x.natAbs→∀ (H:zaa) (K:Kt),K (.sl (zak (lim (x.natAbs-y.natAbs))) .none) H→ACalls tP zhB [.sl (zak (lim x.natAbs)) .none,.sl (zak (lim y.natAbs)) .none] H K:=by intro x y hx hy hxy H K hK;refine zKw (lim x.natAbs) (lim y.natAbs) (zbT _) (zbT _) (by have:=hx.len;omega) ?_ (by rw[zbe,zbe];exact hxy) _ _ (by rw[zbe,zbe];exact hK);refine Nat.le_of_not_lt λh=>?_;have:=zhv h;omega
 by_cases kK:decide (a<0)=decide (b<0)
 ·have jx:(decide (a<0) == decide (b<0))=true:=by simpa using kK
  simp[jx,Nat.add_assoc];refine zaB (.sl (zak (lim (a.natAbs+b.natAbs))) .none) (λJ=>zKj _ _ (zbT _) (zbT _) (by omega) (by omega) _ _ (by rw[zbe]) (by rw[zbe]) (by rw[zbe,zbe];exact⟨rfl,rfl⟩)) ?_;refine zaB (.agg (zai (a+b))) (λJ=>zfk _ _ (cq _ (Nat.le_refl _)) (by
   by_cases h1:a<0 <;> by_cases h2:b<0 <;> simp[h1,h2]at kK ⊢ <;> omega) _ _ ⟨rfl,rfl⟩) ?_
  simp[Nat.add_assoc];exact zbN hs hK
 ·have jx:(decide (a<0) == decide (b<0))=false:=by simpa using kK
  simp[jx,Nat.add_assoc];refine zAc _ _ (by omega) (by omega) _ _ ?_;have fU:(0≤zce a.natAbs b.natAbs)↔b.natAbs≤a.natAbs:=by
   unfold zce;split
   ·simp;omega
   ·split <;> simp <;> omega
  by_cases aQ:b.natAbs≤a.natAbs
  ·simp[fU,aQ,Nat.add_assoc];refine zaB (.sl (zak (lim (a.natAbs-b.natAbs))) .none) (λJ=>di a b ha hb aQ _ _ ⟨rfl,rfl⟩) ?_;refine zaB (.agg (zai (a+b))) (λJ=>zfk _ _ (cq _ (by omega)) (by
    by_cases h1:a<0 <;> by_cases h2:b<0 <;> simp[h1,h2]at kK ⊢ <;> omega) _ _ ⟨rfl,rfl⟩) ?_
   simp[Nat.add_assoc];exact zbN hs hK
  ·simp[fU,aQ,Nat.add_assoc];refine zaB (.sl (zak (lim (b.natAbs-a.natAbs))) .none) (λJ=>di b a hb ha (by omega) _ _ ⟨rfl,rfl⟩) ?_;refine zaB (.agg (zai (a+b))) (λJ=>zfk _ _ (cq _ (by omega)) (by
    by_cases h1:a<0 <;> by_cases h2:b<0 <;> simp[h1,h2]at kK ⊢ <;> omega) _ _ ⟨rfl,rfl⟩) ?_
   simp[Nat.add_assoc];exact zbN hs hK
theorem Sm.neg {z:Int} (h:Sm z):Sm (-z):=by unfold Sm at h ⊢;rwa [Int.natAbs_neg]
theorem zQF (a b:Int) (ha:Sm a) (hb:Sm b) (H:zaa) (K:Kt) (hK:K (.agg (zai (a-b))) H):ACalls tP zp8 [.agg (zai a),.agg (zai b)] H K:=by refine ACalls.out (zQE λhs=>?_);simp[zCq,zai,Nat.add_assoc];refine zaB (.agg (zai (-b))) (λJ=>zRQ b hb _ _ ⟨rfl,rfl⟩) ?_;refine zaB (.agg (zai (a-b))) (λJ=>zuQ a (-b) ha hb.neg _ _ ⟨by rw[Int.sub_eq_add_neg],rfl⟩) ?_;simp[Nat.add_assoc];exact zbN hs hK
theorem zME (q d:Nat) (hq:q*d<1000000000 ^ 30) (dq:0<d) (hd:d<1000000000) (H:zaa) (K:Kt) (hK:K (.tup [.agg (zai q),.bool true]) H) :
  ACalls tP zpT [.agg (zai ((q*d:Nat):Int)),.agg (zai d)] H K:=by
 refine ACalls.out (zMD λhs=>?_);have hdS:(d:Nat)<1000000000 ^ 30:=Nat.lt_of_lt_of_le hd (by decide);have ha:Sm ((q*d:Nat):Int):=by unfold Sm;rw[Int.natAbs_natCast];exact hq
 have hb:Sm (d:Int):=by unfold Sm;rw[Int.natAbs_natCast];exact hdS
 have ea:(zai ((q*d:Nat):Int))=[.bool false,.sl (zak (lim (q*d))) .none,.sl (zak [1]) .none]:=by unfold zai;rw[Int.natAbs_natCast,decide_eq_false (by omega)]
 have eb:(zai (d:Int))=[.bool false,.sl (zak (lim d)) .none,.sl (zak [1]) .none]:=by unfold zai;rw[Int.natAbs_natCast,decide_eq_false (by omega)]
 have dL:lim d=[d]:=zeT (by omega) hd;rw[ea,eb];simp[zAY,Nat.add_assoc];refine zaB (.agg (zai ((q*d:Nat):Int))) (λJ=>by rw[←ea];exact zf1 _ ha _ _ ⟨rfl,rfl⟩) ?_;refine zaB (.agg (zai (d:Int))) (λJ=>by rw[←eb];exact zf1 _ hb _ _ ⟨rfl,rfl⟩) ?_;rw[ea,eb];simp[AV.known,Nat.add_assoc,show (lim d).length=1 by rw[dL];rfl];refine zaB (.sl (zak (lim (q*d))) .none) (λJ=>zpC _ hq _ _ ⟨rfl,rfl⟩) ?_;refine zaB (.sl (zak (lim d)) .none) (λJ=>zGY _ hdS _ _ ⟨rfl,rfl⟩) ?_;refine zaB (.agg (zai q)) (λJ=>zwt false q d (Nat.lt_of_lt_of_le hq zoV) dq hd (by simp) _ _ ⟨rfl,rfl⟩) ?_;simp[Nat.add_assoc];exact⟨⟨rfl,rfl⟩,Out.tup (bs:=[.agg (zai q),.bool true]) hs hK ⟨zaU rfl rfl,zaU rfl rfl,trivial⟩⟩
theorem zDU (L:List Nat) (hL:L.length≤1000) (H:zaa) (K:Kt) (hK:K (.bool true) H):ACalls tP zjW [.sl (zak L) .none,.sl (zak L) .none] H K:=by
 refine ACalls.out (zU0 λhs=>?_);simp[zDS];refine zUY (Inv:=λq t13 H'=>∃ i:Nat,i≤L.length∧L.length-i=q∧t13=.int .i64 i∧H'=H) L.length ?_ ?_
 ·intro _;exact⟨0,by omega,rfl,rfl,rfl⟩
 ·rintro q t13 H' ⟨i,hi,rfl,rfl,rfl⟩ aM aq aO Kb aw;by_cases ap:i<L.length
  ·simp[zuR,ap,wi i (by omega)];exact aw _ _ ⟨L.length-(i+1),by omega,Back.here (by simp) hs (by simp[znP,ux,AV.sc,AV.scA,AV.scB,AV.scV]) ⟨_,rfl,i+1,by omega,rfl,rfl,rfl⟩⟩
  ·simp[zuR,ap];exact Out.bool (J:=[]) (by simp) (Nat.le_refl _) hs hK
theorem zCD (z:Int) (hz:Sm z) (H:zaa) (K:Kt) (hK:K (.bool true) H):ACalls tP zjD [.agg (zai z),.agg (zai z)] H K:=by refine ACalls.out (zRe λhs=>?_);have:=hz.len;simp[zCl,zai,Nat.add_assoc];refine zDU _ (by omega) _ _ ?_;simp[Nat.add_assoc];refine zDU _ (by simp) _ _ ?_;exact Out.bool rfl (Nat.le_refl _) hs hK
theorem zdD {n:Nat} (h:n<1000000000 ^ 30):Sm (n:Int):=by unfold Sm;rw[Int.natAbs_natCast];exact h
theorem zwA {n k:Nat} (hn:n≤1000000) (hk:k≤40):chs n k≤1000000 ^ 40:=by
 refine Nat.le_trans (zha n k) ?_;by_cases h0:n=0
 ·subst h0;by_cases cH:k=0
  ·subst cH;simp
  ·rw[Nat.zero_pow (by omega)];omega
 ·exact Nat.le_trans (Nat.pow_le_pow_left hn k) (Nat.pow_le_pow_right (by omega) hk)
@[simp] theorem ybh (z:Int):List.take 3 (zai z)=zai z:=rfl
@[simp] theorem ybg (z:Int):List.drop 3 (zai z)=[]:=rfl
@[simp] theorem zcQ (z:Int):(∀ x∈zai z,x.known=true)=True:=by simp[zai,AV.known]
theorem zM7 (n k:Nat) (hn:n≤1000000) (hk:k≤40) (H:zaa) (K:Kt) (hK:K (.agg (zai (chs n k))) H) :
  ACalls tP zpV [.agg (zai n),.int .i64 k] H K:=by
 refine ACalls.out (zM5 λhs=>?_);have hS:∀ m:Nat,m≤1000000 ^ 41→Sm (m:Int):=λm hm=>zdD (Nat.lt_of_le_of_lt hm (by decide));simp[zA0,Nat.add_assoc];refine zea 1 (by omega) _ _ ?_;simp[Nat.add_assoc];have hsc:∀ z:Int,HSc (H++[.cells (zai n),.cells [.bool false,.snil,.snil],.cells (zai z)]):=λz=>hs.append (by simp[AB.sc,zai,AV.scA,AV.scB]);refine zM3 (Inv:=λq t6 H'=>∃ i:Nat,i≤k∧k-i=q∧t6=.int .i64 i∧H'=H++[.cells (zai n),.cells [.bool false,.snil,.snil],.cells (zai ((chs n i:Nat):Int))]) k ?_ ?_
 ·intro _;exact⟨0,by omega,rfl,rfl,by simp⟩
 ·rintro q t6 H' ⟨i,hi,rfl,rfl,rfl⟩ aM aq aO Kb aw;by_cases ap:i<k
  ·have lC:=zwA (n:=n) (k:=i) hn (by omega);have hci1:=zwA (n:=n) (k:=i+1) hn (by omega);have aP:=zhb n i;obtain⟨m,ct⟩:∃ m,m=chs n (i+1)*(i+1):=⟨_,rfl⟩;have hmb:m≤1000000 ^ 41:=by
    rw[ct];calc _≤1000000 ^ 40*1000000:=Nat.mul_le_mul hci1 (by omega)
     _=1000000 ^ 41:=(Nat.pow_succ ..).symm
   have hm:((chs n i:Nat):Int)*((n:Int)-(i:Int))=(m:Int):=by
    rw[ct,Nat.mul_comm,aP];by_cases h:i≤n
    ·rw[Int.natCast_mul,Int.natCast_sub h]
    ·rw[zga (by omega)];simp
   simp[zsA,ap,Nat.add_assoc,wi i (by omega)];refine zaB (.agg (zai i)) (λJ=>zea i (by omega) _ _ ⟨rfl,rfl⟩) ?_;refine zaB (.agg (zai ((n:Int)-i))) (λJ=>zQF n i (hS _ (by omega)) (hS _ (by omega)) _ _ ⟨rfl,rfl⟩) ?_;refine zaB (.agg (zai (m:Int))) (λJ=>ziy _ _ (hS _ (by omega)) (by
    have:((n:Int)-i).natAbs≤1000000:=by omega
    exact Nat.lt_of_le_of_lt this (by decide)) _ _ ⟨by rw[hm],rfl⟩) ?_
   simp[Nat.add_assoc];refine zaB (.agg (zai ((i+1:Nat):Int))) (λJ=>zea (i+1) (by omega) _ _ ⟨rfl,rfl⟩) ?_;refine zaB (.tup [.agg (zai ((chs n (i+1):Nat):Int)),.bool true]) (λJ=>by
    rw[ct];exact zME (chs n (i+1)) (i+1) (by rw[←ct];exact Nat.lt_of_le_of_lt hmb (by decide)) (by omega) (by omega) _ _ ⟨rfl,rfl⟩) ?_
   simp[Nat.add_assoc];exact aw _ _ ⟨k-(i+1),by omega,Back.here (by simp) (hsc _) (by simp[zlP,ux,AV.sc,AV.scA,AV.scB,AV.scV]) ⟨_,rfl,i+1,by omega,rfl,rfl,rfl⟩⟩
  ·obtain rfl:i=k:=by omega
   simp[zsA,Nat.add_assoc];exact zbN hs hK
theorem zXF (n k:Nat) (hn:n≤1000000) (hk:k≤40) (H:zaa) (K:Kt) (hK:K (.agg (zai (chs n k))) H) :
  ACalls tP zqA [.agg (zai n),.int .i64 k] H K:=by
 refine ACalls.out (zXE λhs=>?_);simp[zES,Nat.add_assoc];refine zSr n (zdD (Nat.lt_of_le_of_lt hn (by decide))) _ _ ?_;have h0:¬ ((n:Int).sign<0):=by
  by_cases h:n=0
  ·subst h;decide
  ·rw[Int.sign_eq_one_of_pos (by omega)];decide
 simp[h0,Nat.add_assoc,zvA];refine zM7 n k hn hk _ _ ?_;simp[Nat.add_assoc];exact zbN hs hK
structure AtOk (aa:List Dat) (i:IT) (t v:VT):Prop where
 tn:t.nodes≤1000
 tv:zaZ aa 0 t=true
 rd:0≤rdV aa i t
 hv:zaI aa v t=true
 vn:v.nodes≤1000
 inn:i.nodes≤900
theorem AtOk.le {aa:List Dat} {i:IT} {t v:VT} (h8:∀ D∈aa,D.cons.length≤8) (h:AtOk aa i t v):atV aa i t v≤1000 ^ 6:=by have h1:=zoT (N:=1000) (by omega) i t v h.vn h.rd;have h2:=zqR (h8:=h8) i t;exact Nat.le_trans h1 (Nat.pow_le_pow_right (by omega) (by omega))
def zgW (aa:List Dat) (m:Nat):Prop:=∀ i:IT,i.nodes≤m→∀ t v:VT,AtOk aa i t v→∀ (H:zaa) (K:Kt),K (.agg (zai ((atV aa i t v:Nat):Int))) H →
 ACalls tP zfA [.sl (aa.map Dat.cs) .none,.agg t.cs,.agg i.cs,.agg v.cs] H K
theorem zdh {n k:Nat} (h:n≤1000 ^ k) (hk:k≤60):Sm (n:Int):=zdD (Nat.lt_of_le_of_lt h (Nat.lt_of_le_of_lt (Nat.pow_le_pow_right (by omega) hk) (by decide)))
theorem zER {aa:List Dat} (h8:∀ D∈aa,D.cons.length≤8) {m:Nat} (a7:zgW aa m) (ks:List IT) (ts vs:List VT) (dR:ks.length=ts.length) (dT:vs.length=ts.length) (hl:ts.length≤1000)
  (aA:∀ (i:Nat) (h1:i<ks.length) (h2:i<ts.length) (h3:i<vs.length),(ks[i]).nodes≤m∧AtOk aa ks[i] ts[i] vs[i]) (dc:0≤rdA aa ks ts 0) (H:zaa) (K:Kt) (hK:K (.agg (zai ((atL aa ks ts vs:Nat):Int))) H) :
  ACalls tP zhX [.sl (aa.map Dat.cs) .none,.sl (VT.css ts) .none,.sl (IT.css ks) .none,.sl (VT.css vs) .none] H K:=by
 refine ACalls.out (zXA λhs=>?_);simp[zEP,Nat.add_assoc];refine zea 1 (by omega) _ _ ?_;simp[Nat.add_assoc];have hsc:∀ z:Int,HSc (H++[.cells [.bool false,.snil,.snil],.cells (zai z)]):=λz=>hs.append (by simp[AB.sc,zai,AV.scA,AV.scB]);refine zXy (Inv:=λq t14 H'=>∃ (i p:Nat) (a:Int),i≤ts.length∧ts.length-i=q∧t14=.int .i64 i∧0≤a∧a≤6∧p≤1000 ^ a.toNat∧0≤rdA aa (ks.drop i) (ts.drop i) a ∧
  p*atL aa (ks.drop i) (ts.drop i) (vs.drop i)=atL aa ks ts vs∧H'=H++[.cells [.bool false,.snil,.snil],.cells (zai (p:Int))]) ts.length ?_ ?_
 ·intro _;exact⟨0,1,0,by omega,rfl,rfl,by omega,by omega,by simp,by simpa using dc,by simp,rfl⟩
 ·rintro q t14 H' ⟨i,p,a,hi,rfl,rfl,iq,kC,hp,hr,dw,rfl⟩ aM aq aO Kb aw;by_cases ap:i<ts.length
  ·have hk:i<ks.length:=by omega
   have cK:i<vs.length:=by omega
   obtain⟨g9,hA⟩:=aA i hk ap cK;obtain⟨x,y,z,aB,hx,hy,hz⟩:=za2 ts[i];obtain⟨x2,y2,z2,aJ,bh,fa,kF⟩:=za2 vs[i];obtain⟨x3,y3,aY,bC,lD⟩:=zdw ks[i];rw[List.drop_eq_getElem_cons hk,List.drop_eq_getElem_cons ap]at hr;rw[List.drop_eq_getElem_cons hk,List.drop_eq_getElem_cons ap,List.drop_eq_getElem_cons cK]at dw;simp only[rdA]at hr;simp only[atL]at dw;by_cases hc:rdV aa ks[i] ts[i]<0∨a+rdV aa ks[i] ts[i]>6
   ·rw[if_pos hc]at hr;omega
   ·rw[if_neg hc]at hr;have aQ:=zoT (N:=1000) (by omega) ks[i] ts[i] vs[i] hA.vn hA.rd;have jX:p*atV aa ks[i] ts[i] vs[i]≤1000 ^ (a+rdV aa ks[i] ts[i]).toNat:=by rw[show (a+rdV aa ks[i] ts[i]).toNat=a.toNat+(rdV aa ks[i] ts[i]).toNat by omega,Nat.pow_add];exact Nat.mul_le_mul hp aQ
    simp[zvy,ap,hk,cK,aB,aJ,aY,Nat.add_assoc,wi i (by omega)];rw[←aB,←aJ,←aY];refine zaB (.agg (zai ((atV aa ks[i] ts[i] vs[i]:Nat):Int))) (λJ=>a7 ks[i] g9 ts[i] vs[i] hA _ _ ⟨rfl,rfl⟩) ?_;refine zaB (.agg (zai ((p*atV aa ks[i] ts[i] vs[i]:Nat):Int))) (λJ=>ziy _ _ (zdh hp (by omega)) (zdh (hA.le h8) (by omega)) _ _ ⟨by rw[Int.natCast_mul],rfl⟩) ?_;obtain⟨p',lE⟩:∃ p',p'=p*atV aa ks[i] ts[i] vs[i]:=⟨_,rfl⟩;rw[←lE]at jX ⊢;simp[Nat.add_assoc];exact aw _ _ ⟨ts.length-(i+1),by omega,Back.here (by simp) (hsc _) (by simp[zow,ux,AV.sc,AV.scA,AV.scB,AV.scV]) ⟨_,rfl,i+1,p',a+rdV aa ks[i] ts[i],by omega,rfl,rfl,by omega,by omega,jX,hr,by rw[lE,←dw,Nat.mul_assoc],rfl⟩⟩
  ·obtain rfl:i=ts.length:=by omega
   rw[List.drop_of_length_le (by omega)]at dw;simp only[atL,Nat.mul_one]at dw;subst dw;simp[zvy,Nat.add_assoc];exact zbN hs hK
theorem zFC {aa:List Dat} (hk:zbb aa) (h8:∀ D∈aa,D.cons.length≤8) {m:Nat} (a7:zgW aa m)
  (hdata:∀ (i:IT),i.nodes≤m+1→∀ (n tn:Int) (ks:List IT) (tks:List VT) (v:VT),i=.mk n ks→AtOk aa i (.mk 5 tn tks) v→∀ (H:zaa) (K:Kt),K (.agg (zai ((atV aa i (.mk 5 tn tks) v:Nat):Int))) H →
   ACalls tP zfA [.sl (aa.map Dat.cs) .none,.agg (VT.mk 5 tn tks).cs,.agg i.cs,.agg v.cs] H K):zgW aa (m+1):=by
 intro i hi t v hA H K hK;obtain⟨k,tn,tks⟩:=t;obtain⟨n,ks⟩:=i;by_cases h5:k=5
 ·subst h5;exact hdata _ hi n tn ks tks v rfl hA H K hK
 ·refine ACalls.out (zDN λhs=>?_);obtain⟨vk,vn,vks⟩:=v;have dc:=hA.rd;have cK:=hA.hv;rw[rdV]at dc;by_cases h6:k=6
  ·subst h6;simp only[VT.kind,VT.kids,if_true]at dc;by_cases hn:n=0
   ·by_cases hl:tks.length=ks.length
    ·subst hn;have dc:0≤rdA aa ks tks 0:=by have h0:=dc;simp[hl]at h0;exact h0
     simp[zaI]at cK;have gJ:=zhn cK.2;have jy:=(zdA (aa:=aa) ks tks 0 (by omega) hl.symm dc).1;have e:atV aa (.mk 0 ks) (.mk 6 tn tks) (.mk vk vn vks)=atL aa ks tks vks:=by simp[atV,VT.kind,VT.kids]
     rw[e]at hK;have gN:=hA.tn;have li:=hA.vn;have g9:=hA.inn;have mE:=VT.len_le tks;have e1:(VT.mk 6 tn tks).nodes=VT.nodesL tks+1:=by simp[VT.nodes]
     simp[ziG,VT.cs,IT.cs,Nat.add_assoc];refine zER h8 a7 ks tks vks hl.symm (by omega) (by omega) (λi h1 h2 h3=>?_) dc _ _ ?_
     ·have g1:=IT.kid_lt (n:=0) h1;have g2:=VT.kid_lt (k:=6) (n:=tn) h2;have g3:=VT.kid_lt (k:=vk) (n:=vn) h3;exact⟨by omega,⟨by omega,zry hA.tv _ (List.getElem_mem h2),jy i h1 h2,zhm cK.2 i h3 h2,by omega,by omega⟩⟩
     ·simp[Nat.add_assoc];exact zbN hs hK
    ·simp[hn,hl]at dc
   ·simp[hn]at dc
  ·by_cases h7:k=7
   ·subst h7;simp[VT.kind]at dc;by_cases hc:0≤n∧n≤6∧ks=[]
    ·obtain⟨c1,c2,rfl⟩:=hc;obtain⟨j,rfl⟩:∃ j:Nat,n=j:=⟨n.toNat,by omega⟩;have e:atV aa (.mk j []) (.mk 7 tn tks) (.mk vk vn vks)=chs vks.length j:=by simp[atV,VT.kind,VT.kids]
     rw[e]at hK;have li:=hA.vn;have gJ:=VT.len_le vks;have e1:(VT.mk vk vn vks).nodes=VT.nodesL vks+1:=by simp[VT.nodes]
     simp[ziG,VT.cs,IT.cs,Nat.add_assoc];refine zaB (.agg (zai ((vks.length:Nat):Int))) (λJ=>zea _ (by omega) _ _ ⟨rfl,rfl⟩) ?_;refine zaB (.agg (zai ((chs vks.length j:Nat):Int))) (λJ=>zXF _ _ (by omega) (by omega) _ _ ⟨rfl,rfl⟩) ?_;simp[Nat.add_assoc];exact zbN hs hK
    ·rw[if_neg hc]at dc;omega
   ·have e:atV aa (.mk n ks) (.mk k tn tks) (.mk vk vn vks)=1:=by simp[atV,VT.kind,h5,h6,h7]
    rw[e]at hK;have b6:(k == 6)=false:=by simpa using h6
    have b7:(k == 7)=false:=by simpa using h7
    have b5:(k == 5)=false:=by simpa using h5
    simp[ziG,VT.cs,IT.cs,Nat.add_assoc,b6,b7,b5];refine zea 1 (by omega) _ _ ?_;simp[Nat.add_assoc];exact zbN hs hK
def zrC:List AV:=[.bool false,.snil,.snil]
def rz (l:List Nat):List AV:=(l.map λ(z:Nat)=>zai (z:Int)).flatten
def zz (m:Nat):List AV:=(List.replicate m zrC).flatten
@[simp] theorem ybl (l:List Nat):(rz l).length=l.length*3:=by
 induction l with
 | nil=>rfl
 | cons x l ih=>simp only[rz,List.map_cons,List.flatten_cons,List.length_append,zHM,List.length_cons]at ih ⊢;omega
@[simp] theorem ybL (m:Nat):(zz m).length=m*3:=by
 induction m with
 | zero=>rfl
 | succ m ih=>simp only[zz,List.replicate_succ,List.flatten_cons,List.length_append]at ih ⊢;rw[ih];simp[zrC];omega
theorem zvB (m:Nat):zz (m+1)=zrC++zz m:=by simp[zz,List.replicate_succ]
theorem zgy (a b:List Nat):rz (a++b)=rz a++rz b:=by simp[rz]
theorem zq4 (x:Nat):rz [x]=zai (x:Int):=by simp[rz]
theorem zyN (l:List Nat) (n:Nat):(rz l).all (AV.scA n)=true:=by
 induction l with
 | nil=>rfl
 | cons x l ih=>rw[show rz (x::l)=zai (x:Int)++rz l from rfl,List.all_append,ih];rfl
theorem zXO (m n:Nat):(zz m).all (AV.scA n)=true:=by
 induction m with
 | zero=>rfl
 | succ m ih=>rw[zvB,List.all_append,ih];rfl
theorem zH7 (l:List Nat) (m x:Nat):(rz l++zz (m+1)).take (l.length*3)++zai (x:Int)++(rz l++zz (m+1)).drop (l.length*3+3)=rz (l++[x])++zz m:=by rw[List.take_left' (by simp),zvB,←List.append_assoc (rz l),List.drop_left' (by simp[zrC]),zgy,zq4]
theorem zH8 (l:List Nat) (k x:Nat) (h:k<l.length):(rz l).take (k*3)++zai (x:Int)++(rz l).drop (k*3+3)=rz (l.set k x):=by
 have e:rz l=rz (l.take k)++(zai ((l[k]:Nat):Int)++rz (l.drop (k+1))):=by rw[←zq4,←zgy,←zgy];congr 1;rw[List.singleton_append,←List.drop_eq_getElem_cons h,List.take_append_drop]
 have hl:(rz (l.take k)).length=k*3:=by simp[Nat.min_eq_left (Nat.le_of_lt h)]
 have e1:(rz l).take (k*3)=rz (l.take k):=by rw[e,List.take_left' hl]
 have e2:(rz l).drop (k*3+3)=rz (l.drop (k+1)):=by rw[e,←List.append_assoc,List.drop_left' (by simp[hl])]
 rw[e1,e2,List.set_eq_take_append_cons_drop,if_pos h,zgy,show rz (x::l.drop (k+1))=zai (x:Int)++rz (l.drop (k+1)) from rfl,List.append_assoc]
theorem zq3 (l:List Nat) (k:Nat) (h:k<l.length):((rz l).drop (k*3)).take 3=zai ((l[k]:Nat):Int):=by
 have e:rz l=rz (l.take k)++(zai ((l[k]:Nat):Int)++rz (l.drop (k+1))):=by rw[←zq4,←zgy,←zgy];congr 1;rw[List.singleton_append,←List.drop_eq_getElem_cons h,List.take_append_drop]
 have hl:(rz (l.take k)).length=k*3:=by simp[Nat.min_eq_left (Nat.le_of_lt h)]
 rw[e,List.drop_left' hl,List.take_left' (by simp)]
theorem zkg {aa:List Dat} {k n:Int} {ks:List VT} {c:Int} {l:List VT} (hk:zbb aa) (hf:za6 aa (.mk k n ks) c=some l) :
  ∃ bs,(zbK aa n.toNat).getD c.toNat []=bs∧l.length=bs.length∧l.length≤8∧za7 aa (.mk k n ks) c=some (pick l bs)∧(∀ x∈l,x.nodes≤200)∧k=5 ∧
   (∀ H K,K (.sl (zbH bs) .none) H→ACalls tP zfw [.sl (aa.map Dat.cs) .none,.int .i64 n,.int .i64 c] H K) ∧
   (∀ H K,K (.sl (zbH bs) .none) H→ACalls tP zeX [.sl (aa.map Dat.cs) .none,.int .i64 n,.int .i64 c] H K) ∧
   (∀ j,bs.getD j false=true→l.getD j tz=.mk 5 n ks)∧0≤c∧∃ (hn:n.toNat<aa.length) (hc:c.toNat<(aa[n.toNat]).cons.length),l.length=((aa[n.toNat]).cons[c.toNat]).args.length:=by
 obtain⟨k5,n0,c0,hn,hc,hv,rfl,cg⟩:=zgf hf;obtain⟨f1,f2,f3⟩:=zeS hk;have hd:=List.getElem_mem hn;have bF:=List.getElem_mem hc;obtain⟨g1,g2⟩:=f2 _ hd _ bF;have g3:=f3 _ hd;have h8:=((hk.2 _ hd).2.2 _ bF).2.1;refine⟨zb2 n.toNat aa[n.toNat] (aa[n.toNat]).cons[c.toNat],by simp[zbK,hn,hc,List.getD_eq_getElem?_getD],by simp[zb2],by simpa using h8,?_,cg,k5,λH K hK=>?_,λH K hK=>?_,λj hj=>?_,c0,hn,hc,by simp⟩
 ·simp[za7,hf,zbK,hn,hc,List.getD_eq_getElem?_getD,VT.num]
 ·have:=ztg aa n.toNat c.toNat hn hc f1 g3 (by omega) (λx hx=>by have:=g2 x hx;omega) H K (by simpa[zbH,zb2,Function.comp_def]using hK);rwa [Int.toNat_of_nonneg n0,Int.toNat_of_nonneg c0]at this
 ·have:=ztA aa n.toNat c.toNat hn hc f1 g3 (by omega) (λx hx=>by have:=g2 x hx;omega) H K hK;rwa [Int.toNat_of_nonneg n0,Int.toNat_of_nonneg c0]at this
 ·have a6:j<((aa[n.toNat]).cons[c.toNat]).args.length:=by refine Nat.lt_of_not_le λaQ=>?_;rw[List.getD_eq_getElem?_getD,List.getElem?_eq_none (by simpa[zb2]using aQ)]at hj;simp at hj
  simp only[List.getD_eq_getElem?_getD,zb2,List.getElem?_map,List.getElem?_eq_getElem a6,Option.map_some,Option.getD_some]at hj ⊢;rw[zyS hj hv,Int.toNat_of_nonneg n0]
theorem zzK {aa:List Dat} {t:VT} (ht:zaZ aa 0 t=true):za5 aa 0 t=true:=by rw[zaZ,Bool.and_eq_true]at ht;exact ht.2
theorem zrc:∀ l:List IT,l=(l.map λx=>[x]).flatten
 | []=>rfl
 | x::l=>by rw[List.map_cons,List.flatten_cons,←zrc l];rfl
theorem zkp {aa:List Dat} (h8:∀ D∈aa,D.cons.length≤8) {t:VT} {ks:List IT} (h:0≤rdE aa ks t 0) {j:Nat} (hj:j<ks.length) {c:Int} {eks:List IT} (he:ks[j]=.mk c eks) :
  ∃ ps,za7 aa t c=some ps∧ps.length=eks.length∧0≤rdA aa eks ps 0∧rdA aa eks ps 0≤6:=by
 rw[zrc ks]at h;have h1:=(zfD h8 t (ks.map λx=>[x]) 0 (by omega) (by omega) h).1 [ks[j]] (List.mem_map.2 ⟨ks[j],List.getElem_mem hj,rfl⟩);rw[he,zev]at h1;split at h1
 ·omega
 ·split at h1
  ·omega
  ·rename_i ps hp;split at h1
   ·rename_i hl;split at h1
    ·omega
    ·rename_i hc;exact⟨ps,hp,hl,by omega,by omega⟩
   ·omega
theorem zx4 {aa:List Dat} {n c:Int} {tks nks l:List VT} {bs:List Bool} (hh:zaI aa (.mk 5 c nks) (.mk 5 n tks)=true) (hf:za6 aa (.mk 5 n tks) c=some l) (bn:l.length=bs.length) :
  nks.length=l.length∧∀ i (h1:i<(pick nks bs).length) (h2:i<(pick l bs).length),zaI aa (pick nks bs)[i] (pick l bs)[i]=true:=by
 have hl:zbR aa nks l=true:=by simp[zaI]at hh;rw[hf,zpk]at hh;exact hh.2
 have aq:=zhn hl;refine⟨aq,λi h1 h2=>?_⟩;have e1:=ze1 (l:=nks) (bs:=bs) (by omega) tz nks.length (Nat.le_refl _);have e2:=ze1 (l:=l) (bs:=bs) bn tz l.length (Nat.le_refl _);rw[List.take_length,aq,bn,List.take_length]at e1;rw[List.take_length,bn,List.take_length]at e2;have hp:i<(pos false bs bs.length).length:=by rw[e1]at h1;simpa using h1
 have hq:=zkl (List.getElem_mem hp);have g1:(pick nks bs)[i]=nks[(pos false bs bs.length)[i]]'(by omega):=by simp only[e1,List.getElem_map,List.getD_eq_getElem?_getD];rw[List.getElem?_eq_getElem (by omega),Option.getD_some]
 have g2:(pick l bs)[i]=l[(pos false bs bs.length)[i]]'(by omega):=by simp only[e2,List.getElem_map,List.getD_eq_getElem?_getD];rw[List.getElem?_eq_getElem (by omega),Option.getD_some]
 rw[g1,g2];exact zhm hl _ (by omega) (by omega)
def hpA (H:zaa) (tn:Int) (tks:List VT) (ks:List IT) (vk vn:Int) (vks:List VT) (c:List AV):zaa:=
 H++[.cells [.int .i64 5,.int .i64 tn,.sl (VT.css tks) .none],.cells [.int .i64 0,.sl (IT.css ks) .none],.cells [.int .i64 vk,.int .i64 vn,.sl (VT.css vks) .none],.cells [.bool false,.snil,.snil],.cells c]
theorem zxg {H:zaa} (hs:HSc H) {tn:Int} {tks:List VT} {ks:List IT} {vk vn:Int} {vks:List VT} {c:List AV} (hc:∀ n,c.all (AV.scA n)=true):HSc (hpA H tn tks ks vk vn vks c):=
 hs.append (by simp only[AB.sc,List.all_cons,List.all_nil,hc];simp[AV.scA,AV.scB])
theorem zFB {aa:List Dat} (hk:zbb aa) (hD:zbn aa=true) (h8:∀ D∈aa,D.cons.length≤8) {m:Nat} (a7:zgW aa m) (n tn:Int) (ks:List IT) (tks:List VT) (v:VT) (g9:(IT.mk n ks).nodes≤m+1)
  (hA:AtOk aa (.mk n ks) (.mk 5 tn tks) v) (H:zaa) (K:Kt) (hK:K (.agg (zai ((atV aa (.mk n ks) (.mk 5 tn tks) v:Nat):Int))) H) :
  ACalls tP zfA [.sl (aa.map Dat.cs) .none,.agg (VT.mk 5 tn tks).cs,.agg (IT.mk n ks).cs,.agg v.cs] H K:=by
 refine ACalls.out (zDN λhs=>?_);obtain⟨vk,vn,vks⟩:=v;have dc:=hA.rd;have cK:=hA.hv;rw[rdV]at dc;simp[VT.kind]at dc;obtain⟨hv5,htn0,_⟩:=zgg cK;obtain⟨d,rfl⟩:∃ d:Nat,tn=d:=⟨tn.toNat,by omega⟩;by_cases hn:n=0∧ks.length≤6
 ·rw[if_pos hn]at dc;obtain⟨rfl,hl6⟩:=hn;have e:atV aa (.mk 0 ks) (.mk 5 d tks) (.mk vk vn vks)=zaD (wtL aa ks (.mk 5 d tks)) (zbU (zbK aa d) (.mk vk vn vks)):=by simp[atV,VT.kind,VT.num]
  rw[e]at hK;have eD:=zyt (aa:=aa) (n:=d) (al:=tks) _ (.mk vk vn vks) (Nat.le_refl _) cK;have cy:=zyu (zbK aa d) 1000 (.mk vk vn vks) hA.vn;have bS:=zkm (zbK aa d) (.mk vk vn vks);have li:=hA.vn;generalize hN:zbU (zbK aa d) (.mk vk vn vks)=N at *;generalize hW:wtL aa ks (.mk 5 d tks)=W at *;have hWl:W.length=ks.length:=by rw[←hW,zih];simp
  have w1:IntKind.i64.wrap ((ks.length:Int)+1)=((ks.length+1:Nat):Int):=wi _ (by omega);simp[ziG,VT.cs,IT.cs,Nat.add_assoc,w1,zba];refine⟨⟨by omega,by omega,by omega⟩,?_⟩;refine zea 1 (by omega) _ _ ?_;have hcss:∀ c,(hpA H d tks ks vk vn vks c).length=H.length+5:=λc=>by simp[hpA]
  have kL:(List.replicate (ks.length+1) [AV.bool false,AV.snil,AV.snil]).flatten=zz (ks.length+1):=rfl;simp[Nat.add_assoc,kL,zvB,zrC,zcQ];refine⟨by omega,?_⟩;show zuO (.sl (aa.map Dat.cs) .none) (.ptr H.length 0) (.ptr (H.length+1) 0) (.ptr (H.length+2) 0) (.ptr (H.length+3) 0) (.ms (H.length+4) 0 (ks.length+1) (ks.length+1)) (.int .i64 1) (hpA H d tks ks vk vn vks (rz [1]++zz ks.length)) (Out H.length K);refine zUK (Inv:=λq t10 H'=>∃ j:Nat,1≤j∧j≤ks.length+1∧ks.length+1-j=q∧t10=.int .i64 j∧H'=hpA H d tks ks vk vn vks (rz (1::List.replicate (j-1) 0)++zz (ks.length+1-j))) ks.length ?_ ?_
  ·intro _;exact⟨1,by omega,by omega,by omega,rfl,by simp⟩
  ·rintro q t10 H' ⟨j,hj0,hj,rfl,rfl,rfl⟩ aM aq aO Kb aw;by_cases ap:j<ks.length+1
   ·have bi:=zH7 (1::List.replicate (j-1) 0) (ks.length-j) 0;have el:(1::List.replicate (j-1) 0).length=j:=by simp;omega
    rw[el,show ks.length-j+1=ks.length+1-j by omega]at bi;have er:(1::List.replicate (j-1) 0)++[0]=1::List.replicate (j+1-1) 0:=by rw[List.cons_append,←List.replicate_succ',show j-1+1=j+1-1 by omega]
    rw[er]at bi;have hfl2:=(List.append_assoc ..).symm.trans bi;simp only[zuI];have aS:(j:Int)<(ks.length:Int)+1:=by omega
    simp[ap,aS,wi j (by omega),Nat.add_assoc];refine zea 0 (by omega) _ _ ?_;simp[hpA,Nat.add_assoc];refine⟨by omega,?_⟩;have hfl3:List.take (j*3) (rz (1::List.replicate (j-1) 0)++zz (ks.length+1-j))++(zai 0++List.drop (j*3+3) (rz (1::List.replicate (j-1) 0)++zz (ks.length+1-j)))=rz (1::List.replicate (j+1-1) 0)++zz (ks.length-j):=hfl2;rw[hfl3];exact aw _ _ ⟨ks.length+1-(j+1),by omega,Back.here (by simp[hpA]) (zxg hs λn=>by rw[List.all_append,zyN,zXO];rfl) (by simp[znJ,ux,AV.sc,AV.scA,AV.scB,AV.scV]) ⟨_,rfl,j+1,by omega,by omega,rfl,rfl,by rw[show ks.length+1-(j+1)=ks.length-j by omega];rfl⟩⟩
   ·obtain rfl:j=ks.length+1:=by omega
    simp[zuI,hpA,Nat.add_assoc];refine zXJ hk (n:=d) (al:=tks) (.mk vk vn vks) (by omega) cK _ _ ?_;rw[hN,show zz 0=[] from rfl,List.append_nil];simp;show zuP _ _ _ _ _ _ _ _ (hpA H d tks ks vk vn vks (rz (1::List.replicate ks.length 0))) _;have hcsc:∀ M:List Nat,HSc (hpA H d tks ks vk vn vks (rz M)):=λM=>zxg hs λn=>zyN M n;refine zUL (Inv:=λq t69 H'=>∃ (p:Nat) (M:List Nat),p≤N.length∧N.length-p=q∧t69=.int .i64 p∧M.length=ks.length+1∧(∀ (j:Nat) (h:j<M.length),M[j]=zaD (W.take j) (N.take p))∧H'=hpA H d tks ks vk vn vks (rz M)) N.length ?_ ?_
    ·intro _;refine⟨0,_,by omega,rfl,rfl,by simp,λj h=>?_,rfl⟩;have h':j<ks.length+1:=by simpa using h
     rw[List.take_zero,zIe];cases j with
     | zero=>simp
     | succ j=>
      have:W.take (j+1)≠[]:=by intro h0;have:=congrArg List.length h0;simp at this;rw[this]at hWl;simp at hWl;omega
      simp[this]
    ·rintro q t69 H' ⟨p,M,hp,rfl,rfl,hMl,hM,rfl⟩ d7 cS gp Kb14 gq;by_cases bW:p<N.length
     ·cases fc:N[p] with
      | mk nk cn nks=>
      simp[zuJ,bW,fc,VT.cs,hpA,Nat.add_assoc];have gu:=eD N[p] (List.getElem_mem bW);have hnno:=cy N[p] (List.getElem_mem bW);rw[fc]at gu hnno;obtain⟨rfl,_,hcn0,_⟩:=zgg gu;have hB:∀ M J,(hpA H d tks ks vk vn vks (rz M)++[AB.cells [.int .i64 5,.int .i64 cn,.sl (VT.css nks) .none]]++J)=H++([.cells [.int .i64 5,.int .i64 d,.sl (VT.css tks) .none],.cells [.int .i64 0,.sl (IT.css ks) .none],.cells [.int .i64 vk,.int .i64 vn,.sl (VT.css vks) .none],.cells [.bool false,.snil,.snil],.cells (rz M),.cells [.int .i64 5,.int .i64 cn,.sl (VT.css nks) .none]]++J):=λM J=>by simp[hpA]
      have hBsc:∀ M,HSc (hpA H d tks ks vk vn vks (rz M)++[AB.cells [.int .i64 5,.int .i64 cn,.sl (VT.css nks) .none]]):=λM=>(hcsc M).append (by simp[AB.sc,AV.scA,AV.scB]);refine zUM (Inv:=λq t13 H'=>∃ (k:Nat) (M':List Nat),k≤ks.length∧k=q∧t13=.int .i64 k∧M'.length=ks.length+1∧(∀ (j:Nat) (h:j<M'.length),M'[j]=if j≤k then zaD (W.take j) (N.take p) else zaD (W.take j) (N.take (p+1))) ∧
       H'=hpA H d tks ks vk vn vks (rz M')++[AB.cells [.int .i64 5,.int .i64 cn,.sl (VT.css nks) .none]]) ks.length ?_ ?_
      ·intro _;exact⟨ks.length,M,by omega,rfl,rfl,hMl,λj h=>by rw[if_pos (by omega)];exact hM j h,by simp[hpA]⟩
      ·rintro q t13 H' ⟨k,M',fV,rfl,rfl,jz,kM,rfl⟩ dZ hlen3 hsF3 Kb17 hKb17;by_cases cH:k=0
       ·subst cH;simp[znI,wi p (by omega)];refine gq _ _ ⟨N.length-(p+1),by omega,Back.at (J:=[AB.cells [.int .i64 5,.int .i64 cn,.sl (VT.css nks) .none]]) (H2:=hpA H d tks ks vk vn vks (rz M')) rfl (by simp[hpA]) (hcsc M') (by simp[znK,ux,AV.sc,AV.scA,AV.scB,AV.scV,hpA]) ⟨_,rfl,p+1,M',by omega,rfl,rfl,jz,λj h=>?_,rfl⟩⟩;rw[kM j h];split
        ·rename_i h0;obtain rfl:j=0:=by omega
         simp[zaD]
        ·rfl
       ·obtain⟨j,rfl⟩:∃ j,k=j+1:=⟨k-1,by omega⟩;have gP:j<ks.length:=by omega
        have hjW:j<W.length:=by omega
        cases cF:ks[j] with
        | mk c eks=>
        have hWj:W[j]=wtE aa (.mk c eks) (.mk 5 d tks):=by
         have:W=ks.map λe=>wtE aa e (.mk 5 d tks):=by rw[←hW,zih]
         simp[this,cF]
        have iS:=zky W[j] N[p] (W.take j) (N.take p);rw[←List.take_succ_eq_append_getElem hjW,←List.take_succ_eq_append_getElem bW]at iS;have hwd:IntKind.i64.wrap (((j+1:Nat):Int)-1)=(j:Int):=by rw[wd _ (by omega) (by omega)];simp
        have ix:IntKind.i64.wrap ((j:Int)+1-1)=(j:Int):=by simpa using hwd
        have hnextM:∀ x:Nat,x=zaD (W.take (j+1)) (N.take (p+1))→∀ (i:Nat) (h:i<(M'.set (j+1) x).length),(M'.set (j+1) x)[i]=if i≤j then zaD (W.take i) (N.take p) else zaD (W.take i) (N.take (p+1)):=by
         intro x hx i h;by_cases iM:i=j+1
         ·subst iM;rw[List.getElem_set_self,if_neg (by omega)];exact hx
         ·rw[List.getElem_set_ne (λe=>iM e.symm),kM i (by simpa using h)];by_cases h2:i≤j
          ·rw[if_pos (by omega),if_pos h2]
          ·rw[if_neg (by omega),if_neg h2]
        have lF:IntKind.i64.wrap (j:Int)=(j:Int):=zat (by omega) (by omega);have hX:∀ M,hpA H d tks ks vk vn vks (rz M)++[AB.cells [.int .i64 5,.int .i64 cn,.sl (VT.css nks) .none]]=H++[.cells [.int .i64 5,.int .i64 d,.sl (VT.css tks) .none],.cells [.int .i64 0,.sl (IT.css ks) .none],.cells [.int .i64 vk,.int .i64 vn,.sl (VT.css vks) .none],.cells [.bool false,.snil,.snil],.cells (rz M),.cells [.int .i64 5,.int .i64 cn,.sl (VT.css nks) .none]]:=λM=>by simp[hpA]
        rw[hX]at dZ hlen3 ⊢;have hbackk:∀ (M2:List Nat) (J:zaa),M2.length=ks.length+1→(∀ (i:Nat) (h:i<M2.length),M2[i]=if i≤j then zaD (W.take i) (N.take p) else zaD (W.take i) (N.take (p+1))) →
          Kb17 (ziI (.sl (aa.map Dat.cs) .none) (.ptr H.length 0) (.ptr (H.length+1) 0) (.ptr (H.length+3) 0) (.ms (H.length+4) 0 (ks.length+1) (ks.length+1)) (.ptr (H.length+5) 0) (.int .i64 j) (.sl (VT.css N) .none) (.int .i64 N.length) (.int .i64 p))
           (H++([.cells [.int .i64 5,.int .i64 d,.sl (VT.css tks) .none],.cells [.int .i64 0,.sl (IT.css ks) .none],.cells [.int .i64 vk,.int .i64 vn,.sl (VT.css vks) .none],.cells [.bool false,.snil,.snil],.cells (rz M2),.cells [.int .i64 5,.int .i64 cn,.sl (VT.css nks) .none]]++J)):=by
         intro M2 J h1 h2;refine hKb17 _ _ ⟨j,by omega,Back.at (J:=J) (H2:=hpA H d tks ks vk vn vks (rz M2)++[AB.cells [.int .i64 5,.int .i64 cn,.sl (VT.css nks) .none]]) (by simp[hpA]) (by simp[hpA]) (hBsc M2) (by simp[ziI,ux,AV.sc,AV.scA,AV.scB,AV.scV,hpA]) ⟨_,rfl,j,M2,by omega,rfl,rfl,h1,h2,rfl⟩⟩
        by_cases bR:c=cn
        ·subst bR;obtain⟨ps,iy,hps2,jA,hps6⟩:=zkp h8 dc gP cF;have hT:(VT.mk 5 (d:Int) tks).nodes≤1000:=hA.tn;obtain⟨l,hf⟩:∃ l,za6 aa (.mk 5 d tks) c=some l:=by
          cases hf:za6 aa (.mk 5 d tks) c with
          | none=>simp[za7,hf]at iy
          | some l=>exact⟨l,rfl⟩
         obtain⟨bs,ie,bn,gM,bt,cg,_,_,cw,_,dW,_⟩:=zkg hk hf;rw[iy]at bt;obtain rfl:ps=pick l bs:=Option.some.inj bt;obtain⟨bS,mF⟩:=zx4 gu hf bn;simp[znI,gP,cF,ix,lF,IT.cs,Nat.add_assoc];refine zz8 aa hk (.mk 5 d tks) hT c _ _ ?_;rw[iy];simp[zcx,Nat.add_assoc];refine zKc aa hk 5 d tks hT c hf bn gM cw _ _ ?_;simp[Nat.add_assoc,zeY];unfold znN;refine ALoop.own 19 zcf 3 rfl ?_;have jw:=ze1 (l:=nks) (bs:=bs) (by omega) tz nks.length (Nat.le_refl _);rw[List.take_length,bS,bn,List.take_length]at jw;have hpl2:(pick l bs).length=(pos false bs bs.length).length:=by have h0:=ze1 (l:=l) (bs:=bs) bn tz l.length (Nat.le_refl _);rw[List.take_length,bn,List.take_length]at h0;rw[h0];simp
         have hPlt:∀ j∈pos false bs bs.length,j<nks.length:=λj hj=>by have:=zkl hj;omega
         have hP8:=zkk false bs bs.length;generalize pos false bs bs.length=P at *;have hpn3:(pick nks bs).length=P.length:=by rw[jw];simp
         have hE:∀ n,HSc (H++[.cells [.int .i64 5,.int .i64 d,.sl (VT.css tks) .none],.cells [.int .i64 0,.sl (IT.css ks) .none],.cells [.int .i64 vk,.int .i64 vn,.sl (VT.css vks) .none],.cells [.bool false,.snil,.snil],.cells (rz M'),.cells [.int .i64 5,.int .i64 c,.sl (VT.css nks) .none],.cells [.int .i64 c,.sl (IT.css eks) .none],.perm zcf 3 n]):=λn=>by have:=(hBsc M').append (J:=[.cells [.int .i64 c,.sl (IT.css eks) .none],.perm zcf 3 n]) (by simp[AB.sc,AV.scA,AV.scB]);rw[hX]at this;simpa using this
         have ar:(H++[AB.cells [.int .i64 5,.int .i64 d,.sl (VT.css tks) .none],.cells [.int .i64 0,.sl (IT.css ks) .none],.cells [.int .i64 vk,.int .i64 vn,.sl (VT.css vks) .none],.cells [.bool false,.snil,.snil],.cells (rz M'),.cells [.int .i64 5,.int .i64 c,.sl (VT.css nks) .none],.cells [.int .i64 c,.sl (IT.css eks) .none]]).length=H.length+7:=by simp
         rw[ar,List.append_assoc];show znN _ _ _ _ _ _ _ _ _ (.sl [] (.own (H.length+7))) _ _ _ _ _ _ (H++[.cells [.int .i64 5,.int .i64 d,.sl (VT.css tks) .none],.cells [.int .i64 0,.sl (IT.css ks) .none],.cells [.int .i64 vk,.int .i64 vn,.sl (VT.css vks) .none],.cells [.bool false,.snil,.snil],.cells (rz M'),.cells [.int .i64 5,.int .i64 c,.sl (VT.css nks) .none],.cells [.int .i64 c,.sl (IT.css eks) .none],.perm zcf 3 0]) (Out H.length K) Kb14 Kb17;refine zUN (Inv:=λq t19 t109 H'=>∃ i:Nat,i≤P.length∧P.length-i=q∧t109=.int .i64 i∧t19=.sl (VT.css ((P.take i).map λj=>nks.getD j tz)) (.own (H.length+7)) ∧
          H'=H++[.cells [.int .i64 5,.int .i64 d,.sl (VT.css tks) .none],.cells [.int .i64 0,.sl (IT.css ks) .none],.cells [.int .i64 vk,.int .i64 vn,.sl (VT.css vks) .none],.cells [.bool false,.snil,.snil],.cells (rz M'),.cells [.int .i64 5,.int .i64 c,.sl (VT.css nks) .none],.cells [.int .i64 c,.sl (IT.css eks) .none],.perm zcf 3 i]) P.length ?_ ?_
         ·intro _;exact⟨0,by omega,rfl,rfl,rfl,rfl⟩
         ·rintro q t19 t109 H' ⟨i,hi,rfl,rfl,rfl,rfl⟩ hsc4 hlen4 hsF4 Kb25 hKb25;by_cases ap:i<P.length
          ·have jB:=hPlt _ (List.getElem_mem ap);obtain⟨x,y,z,aB,hx,hy,hz⟩:=za2 nks[P[i]];have hnat:=zx0 (l:=P) (i:=i) (by simpa[zeY]using ap);simp[zuK,ap,zeY,hnat,jB,aB,wi i (by omega),Nat.add_assoc];rw[←aB,zei];have aT:(P.take (i+1)).map (λj=>nks.getD j tz)=(P.take i).map (λj=>nks.getD j tz)++[nks[P[i]]]:=by rw[List.take_succ_eq_append_getElem ap,List.map_append];simp[List.getD_eq_getElem?_getD,jB]
           have jC:VT.css ((P.take i).map λj=>nks.getD j tz)++[(nks[P[i]]).cs]=VT.css ((P.take (i+1)).map λj=>nks.getD j tz):=by rw[aT,zwL]
           have gv:VT.css (List.take i (List.map (λj=>nks[j]?.getD tz) P))++[(nks[P[i]]).cs]=VT.css ((P.take (i+1)).map λj=>nks.getD j tz):=by rw[←jC];simp[List.getD_eq_getElem?_getD]
           simp[zax,zaN,zaK,Nat.min_eq_left (Nat.le_of_lt ap),List.set_append];refine⟨⟨by omega,by omega⟩,?_⟩;rw[gv];exact hKb25 _ _ ⟨P.length-(i+1),by omega,Back.here (by simp) (hE _) (by simp[znL,ux,AV.sc,AV.scA,AV.scB,AV.scV]) ⟨_,_,rfl,i+1,by omega,rfl,rfl,rfl,rfl⟩⟩
          ·obtain rfl:i=P.length:=by omega
           rw[List.take_length]at *;rw[←jw]at *;have hMj:M'[j]'(by omega)=zaD (W.take j) (N.take p):=by rw[kM j (by omega),if_pos (by omega)]
           have hMj1:M'[j+1]'(by omega)=zaD (W.take (j+1)) (N.take p):=by rw[kM (j+1) (by omega),if_pos (by omega)]
           have eY:=zq3 M' j (by omega);have jV:=zq3 M' (j+1) (by omega);rw[hMj]at eY;rw[hMj1]at jV;obtain⟨A,gw⟩:∃ A,A=atL aa eks (pick l bs) (pick nks bs):=⟨_,rfl⟩;have hwA:W[j] N[p]=A:=by rw[hWj,wtE,fc,gw];simp only[VT.num,if_true,VT.kids,iy,Option.getD_some,ie]
           rw[hwA]at iS;have gx:∀ i≤ks.length,zaD (W.take i) (N.take p)≤1000 ^ 6:=by
            intro i hi;have e1:W.take i=wtL aa (ks.take i) (.mk 5 d tks):=by rw[←hW,zih,zih,List.map_take]
            rw[e1];have h0:0≤rdE aa (ks.take i) (.mk 5 d tks) 0:=by
             have e2:[ks.take i,ks.drop i].flatten=ks:=by simp
             rw[←e2]at dc;exact (zfD h8 _ _ 0 (by omega) (by omega) dc).1 _ (by simp)
            have h6:=zHN (h8:=h8) (ks.take i) (.mk 5 (d:Int) tks);refine Nat.le_trans (zq7 (N:=1000) (by omega) _ _ (N.take p) 0 (by omega) (by simp;omega) (λx hx=>cy x (List.mem_of_mem_take hx)) h0) (Nat.pow_le_pow_right (by omega) (by omega))
           have jY:A≤1000 ^ 6:=by rw[gw];refine Nat.le_trans (zi1 (N:=1000) (by omega) eks (pick l bs) (pick nks bs) 0 (by omega) (λx hx=>?_) jA) (Nat.pow_le_pow_right (by omega) (by omega));have eS:x∈nks:=ze0 hx;have:=zgi (k:=5) (n:=c) x eS;omega
           have bG:=gx j (by omega);have bz:=gx (j+1) (by omega);have hmulb:zaD (W.take j) (N.take p)*A≤1000 ^ 12:=by rw[show 12=6+6 from rfl,Nat.pow_add];exact Nat.mul_le_mul bG jY
           have aN:∀ (H:zaa) (K:Kt),K (.agg (zai (A:Int))) H→ACalls tP zhX [.sl (aa.map Dat.cs) .none,.sl (VT.css (pick l bs)) .none,.sl (IT.css eks) .none,.sl (VT.css (pick nks bs)) .none] H K:=by
            intro H K hK;have hpl3:(pick l bs).length=(pick nks bs).length:=by rw[hpl2,hpn3]
            have jy:=(zdA (aa:=aa) eks (pick l bs) 0 (by omega) hps2.symm jA).1;have mG:=IT.kid_lt (n:=0) gP;rw[cF]at mG;have hie:=hA.inn;refine zER h8 a7 eks (pick l bs) (pick nks bs) hps2.symm hpl3.symm (by rw[hpl2];omega) (λi h1 h2 h3=>?_) jA _ _ (by rw[←gw];exact hK);have g1:=IT.kid_lt (n:=c) h1;have g2:(pick l bs)[i]∈l:=ze0 (List.getElem_mem h2);have g3:(pick nks bs)[i]∈nks:=ze0 (List.getElem_mem h3);have g4:=zgi (k:=5) (n:=c) _ g3;have g5:=cg _ g2;exact⟨by omega,⟨by omega,zpf hD (zzK hA.tv) hf _ g2,jy i h1 h2,mF i h3 h2,by omega,by omega⟩⟩
           simp[zuK,lF,ix,Nat.add_assoc];refine⟨⟨by omega,gP⟩,by omega,by omega,by omega,?_⟩;rw[eY,jV];refine zaB (.agg (zai (A:Int))) (λJ=>ACalls.wk (args':=[.sl (aa.map Dat.cs) .none,.sl (VT.css (pick l bs)) .none,.sl (IT.css eks) .none,.sl (VT.css (pick nks bs)) .none]) (aN _ _ ⟨rfl,rfl⟩) ⟨.rfl',.rfl',.rfl',.atom (.sl _ _),trivial⟩) ?_;refine zaB (.agg (zai ((zaD (W.take j) (N.take p)*A:Nat):Int))) (λJ=>ziy _ _ (zdh bG (by omega)) (zdh jY (by omega)) _ _ ⟨by rw[Int.natCast_mul],rfl⟩) ?_;refine zaB (.agg (zai ((zaD (W.take (j+1)) (N.take (p+1)):Nat):Int))) (λJ=>zuQ _ _ (zdh bz (by omega)) (zdh hmulb (by omega)) _ _ ⟨by rw[iS,Int.natCast_add],rfl⟩) ?_;have aX:=(List.append_assoc ..).symm.trans (zH8 M' (j+1) (zaD (W.take (j+1)) (N.take (p+1))) (by omega));simp[znM,zuN,lF,ix,Nat.add_assoc,zcQ];refine⟨⟨by omega,gP⟩,by omega,?_⟩;rw[aX];exact hbackk (M'.set (j+1) _) [.cells [.int .i64 c,.sl (IT.css eks) .none],.perm zcf 3 P.length] (by simp[jz]) (hnextM _ rfl)
        ·have hb:(c != cn)=true:=by simpa using bR
         simp[znI,gP,cF,ix,lF,IT.cs,Nat.add_assoc,hb,znM,zuN];have kW:W[j] N[p]=0:=by rw[hWj,wtE,fc];exact if_neg (λh=>bR (Eq.symm h))
         have iS:zaD (W.take (j+1)) (N.take (p+1))=zaD (W.take (j+1)) (N.take p):=by rw[iS,kW];simp
         refine hbackk M' [.cells [.int .i64 c,.sl (IT.css eks) .none]] jz λi h=>?_;rw[kM i h];by_cases iM:i=j+1
         ·subst iM;rw[if_pos (by omega),if_neg (by omega),iS]
         ·by_cases h2:i≤j
          ·rw[if_pos (by omega),if_pos h2]
          ·rw[if_neg (by omega),if_neg h2]
     ·obtain rfl:p=N.length:=by omega
      have hML:=hM ks.length (by omega);rw[List.take_length,List.take_of_length_le (by omega)]at hML;have hg:=zq3 M ks.length (by omega);rw[hML]at hg;simp[zuJ,hpA,Nat.add_assoc];rw[hg];refine⟨by omega,by omega,⟨by omega,by rw[zcQ];trivial⟩,by omega,?_⟩;exact zbN hs hK
 ·rw[if_neg hn]at dc;omega
end Go.Proofs.YtdmamdnkcefmmaaGreatDoor
