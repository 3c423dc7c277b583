import Derived.Test.YtdmamdnkcefmmaaGreatDoorKNum
import Derived.Test.YtdmamdnkcefmmaaGreatDoorProg
import Derived.KernelRfl
import Derived.Test.YtdmamdnkcefmmaaGreatDoorKV1
import Derived.Test.YtdmamdnkcefmmaaGreatDoorKI2
import Derived.Test.YtdmamdnkcefmmaaGreatDoorAbsQ1
import Derived.Lib.AppendStr
set_option linter.unusedSimpArgs false
set_option linter.unusedVariables false
set_option maxRecDepth 100000
namespace Go.Proofs.YtdmamdnkcefmmaaGreatDoor
section
variable (t0 t1 t3 t4 t5 t6 t8 t15 t16 t17 t18 t19 t20 t21 t31 t32 t33 t38 t39 t40 t45 t46 t47 t48:AV) (H:zaa) (K:Kt) (Kb5 Kb6 Kb11:Lt)
def zK7(_:Nat):List Bool:=[]
noncomputable def zK8:=Tryz.f122.body.getD .skip
def zz5:=zaw t0 H λt1 H=>zaf 0 t1 λt3=>zae false 1 t3 H λt4=>ACalls tP zpI [t4] H λt5 H=>zac t5 true H (λK'=>zae true 4 t1 H (K' · H)) λt7 H=>zac t5 true H (λK'=>ACalls tP zpJ [t7] H K') λt8 H=>zak t5 t8 (.bool false) λt9=>zac t9 true H (λK'=>zae true 4 t1 H (K' · H)) λt11 H=>zac t9 true H (λK'=>ACalls tP zpK [t11] H K') λt12 H=>zak t9 t12 (.bool false) λt13=>zac t13 true H (λK'=>zae true 4 t1 H (K' · H)) λt15 H=>zac t13 true H (λK'=>ACalls tP zpL [t15] H K') λt16 H=>zak t13 t16 (.bool false) λt17=>zac t17 true H (λK'=>zae true 4 t1 H (K' · H)) λt19 H=>zac t17 true H (λK'=>ACalls tP zpM [t19] H K') λt20 H=>zak t17 t20 (.bool false) λt21=>zac t21 true H (λK'=>zae true 4 t1 H (K' · H)) λt23 H=>zac t21 true H (λK'=>ACalls tP zpN [t23] H K') λt24 H=>zak t21 t24 (.bool false) λt25=>zac t25 true H (λK'=>zae true 4 t1 H (K' · H)) λt27 H=>zac t25 true H (λK'=>ACalls tP zpO [t27] H K') λt28 H=>zak t25 t28 (.bool false) λt29=>K t29 H
def zND(_:Nat):List Bool:=[]
noncomputable def zNE:=Tryz.f160.body.getD .skip
def zAN:=zaw t0 H λt1 H=>zaf 2 t1 λt3=>zae false 1 t3 H λt4=>zai 1 t4 λt5=>zad .leq false t5 (.int .i64 3000) λt6=>zac t6 true H (λK'=>zaf 2 t1 (K' · H)) λt8 H=>zac t6 true H (λK'=>zae false 1 t8 H (K' · H)) λt9 H=>zac t6 true H (λK'=>zcp zxh [t1] (K' · H)) λt10 H=>zac t6 true H (λK'=>ACalls tP zfy [t9,t10] H K') λt11 H=>zac t6 true H (λK'=>aUn .not t11 (K' · H)) λt12 H=>zak t6 t12 (.bool false) λt13=>K t13 H
def zl5:Nat→List Bool|6=>rl false [1,1,1,2,14,3,59]|_=>[]
noncomputable def zst:=Tryz.f161.body.getD .skip
noncomputable def zNL:=Tryz.f161.results.toList
def zsu:=ux 1 (t1::ux 1 (t3::t4::ux 14 (t19::t20::t21::ux 59 [])))
def zNJ:=zl5 6
noncomputable def zNH:=zas [1,1,1,1,0,1,0,0] zst
def zNG:=zat tP zl5 [1,1,1,1,0,1,0] zst (zaB tP zNL K)
def zAR:=ALoop tP zNH (zNG K) (zsu t1 t3 t4 t19 t20 t21) H
def zAQ:=zaf 0 t6 λt42=>zae false 1 t42 H λt43=>zcT t3 t43 (.bool true) H λH=>zaf 1 t6 λt44=>zae false 1 t44 H λt45=>zai 1 t45 λt46=>zad .gtr false t46 (.int .i64 6) λt47=>zac t47 false H (λK'=>zaf 0 t1 (K' · H)) λt49 H=>zac t47 false H (λK'=>zae false 1 t49 H (K' · H)) λt50 H=>zac t47 false H (λK'=>zaf 3 t6 (K' · H)) λt51 H=>zac t47 false H (λK'=>zae true 3 t51 H (K' · H)) λt52 H=>zac t47 false H (λK'=>ACalls tP zhI [t50,t52,(.int .i64 0)] H K') λt53 H=>zac t47 false H (λK'=>aUn .not t53 (K' · H)) λt54 H=>zak t47 (.bool true) t54 λt55=>zag t55 (K (.bool false) H) (apu H (zaf 6 t6) λt56=>apu H (zal false 1 t56 H) λt57=>apu H (zad .lss false t57 (.int .i64 0)) λt58=>apm H t58 λt59=>zac t59 false H (λK'=>zab H (λK''=>zaf 6 t6 (K'' · H)) (K' · H)) λt60 H=>zac t59 false H (λK'=>zab H (λK''=>zal false 1 t60 H (K'' · H)) (K' · H)) λt61 H=>zac t59 false H (λK'=>zab H (λK''=>zaf 3 t1 (K'' · H)) (K' · H)) λt62 H=>zac t59 false H (λK'=>zab H (λK''=>zal false 1 t62 H (K'' · H)) (K' · H)) λt63 H=>zac t59 false H (λK'=>zab H (λK''=>zai 1 t63 (K'' · H)) (K' · H)) λt64 H=>zac t59 false H (λK'=>zab H (λK''=>zad .geq false t61 t64 (K'' · H)) (K' · H)) λt65 H=>apu H (zak t59 (.bool true) t65) λt66=>apm H t66 λt67=>zac t67 false H (λK'=>zab H (λK''=>zaf 3 t1 (K'' · H)) (K' · H)) λt68 H=>zac t67 false H (λK'=>zab H (λK''=>zal false 1 t68 H (K'' · H)) (K' · H)) λt69 H=>zac t67 false H (λK'=>zab H (λK''=>zaf 6 t6 (K'' · H)) (K' · H)) λt70 H=>zac t67 false H (λK'=>zab H (λK''=>zal false 1 t70 H (K'' · H)) (K' · H)) λt71 H=>zac t67 false H (λK'=>zab H (λK''=>zaj 8 t69 t71 (K'' · H)) (K' · H)) λt72 H=>zac t67 false H (λK'=>zab H (λK''=>zaf 5 t72 (K'' · H)) (K' · H)) λt73 H=>zac t67 false H (λK'=>zab H (λK''=>zal true 3 t73 H (K'' · H)) (K' · H)) λt74 H=>zac t67 false H (λK'=>zab H (λK''=>zaf 3 t6 (K'' · H)) (K' · H)) λt75 H=>zac t67 false H (λK'=>zab H (λK''=>zal true 3 t75 H (K'' · H)) (K' · H)) λt76 H=>zac t67 false H (λK'=>zaJ H (λH K''=>ACalls tP zGD [t74,t76] H K'') (K' · H)) λt77 H=>zac t67 false H (λK'=>zab H (λK''=>aUn .not t77 (K'' · H)) (K' · H)) λt78 H=>apu H (zak t67 (.bool true) t78) λt79=>zag t79 (K (.bool false) H) (zad .add false t21 (.int .i64 1) λt80=>Kb6 (zsu t1 t3 t4 t19 t20 t80) H))
def zAP:=zad .lss false t21 t20 λt22=>zag t22 (zaj 7 t19 t21 λt23=>zae true 7 t23 H λt24=>zaz [(.str []),.snil,.snil,(.int .i64 0),(.int .i64 0),.snil,(.int .i64 0)] H λt6 H=>zao 7 t6 t24 H λH=>zaf 0 t6 λt25=>zae false 1 t25 H λt26=>zad .eql false t26 (.str []) λt27=>zag t27 (zAQ t1 t3 (.bool true) t6 t19 t20 t21 H K Kb6) (zac t4 false H (λK'=>K' t3 H) λt30 H=>zac t4 false H (λK'=>zaf 0 t6 (K' · H)) λt31 H=>zac t4 false H (λK'=>zae false 1 t31 H (K' · H)) λt32 H=>zac t4 false H (λK'=>zdI (.bool false) false t30 t32 H (K' · H)) λt33 H=>zak t4 (.bool true) t33 λt34=>zac t34 false H (λK'=>zaf 2 t6 (K' · H)) λt36 H=>zac t34 false H (λK'=>zae false 1 t36 H (K' · H)) λt37 H=>zac t34 false H (λK'=>zai 1 t37 (K' · H)) λt38 H=>zac t34 false H (λK'=>zad .gtr false t38 (.int .i64 0) (K' · H)) λt39 H=>zak t34 (.bool true) t39 λt40=>zag t40 (K (.bool false) H) (zAQ t1 t3 t4 t6 t19 t20 t21 H K Kb6))) (K (.bool true) H)
def zAO:=zaw t0 H λt1 H=>zaf 1 t1 λt7=>zae false 1 t7 H λt8=>zai 1 t8 λt9=>zad .gtr false t9 (.int .i64 64) λt10=>zac t10 false H (λK'=>zaf 3 t1 (K' · H)) λt12 H=>zac t10 false H (λK'=>zae false 1 t12 H (K' · H)) λt13 H=>zac t10 false H (λK'=>zai 1 t13 (K' · H)) λt14 H=>zac t10 false H (λK'=>zad .gtr false t14 (.int .i64 3000) (K' · H)) λt15 H=>zak t10 (.bool true) t15 λt16=>zag t16 (K (.bool false) H) (zdY H λt17 H=>zaf 1 t1 λt18=>zae false 1 t18 H λt19=>zai 1 t19 λt20=>zAR t1 t17 (.bool false) t19 t20 (.int .i64 0) H K)
def zfc:Nat→List Bool|5=>rl false [1,1,2,2,12,3,54]|11=>rl false [1,1,2,2,25,3,41]|16=>rl false [1,1,2,2,2,1,22,3,12,3,26]|_=>[]
noncomputable def zix:=Tryz.f162.body.getD .skip
noncomputable def zA0:=Tryz.f162.results.toList
def zsw:=ux 1 (t1::ux 2 (t4::t5::ux 12 (t18::t19::t20::ux 54 [])))
def zNU:=zfc 5
noncomputable def zNP:=zas [1,1,1,1,0,1,0,0] zix
def zNN:=zat tP zfc [1,1,1,1,0,1,0] zix (zaB tP zA0 K)
def zAY:=ALoop tP zNP (zNN K) (zsw t1 t4 t5 t18 t19 t20) H
def zAW:=ux 1 (t1::ux 2 (t4::t5::ux 25 (t31::t32::t33::ux 41 [])))
def zAZ:=zfc 11
noncomputable def zsv:=zas [1,1,1,1,1,0,1,0,0] zix
def zAT:=zat tP zfc [1,1,1,1,1,0,1,0] zix (zaB tP zA0 K)
def zAX:=ALoop tP zsv (zAT K) (zAW t1 t4 t5 t31 t32 t33) H
def zNQ:=ux 1 (t1::ux 2 (t4::t5::ux 2 (t8::ux 22 (t31::t32::t33::ux 12 (t46::t47::t48::ux 26 [])))))
noncomputable def zNO:=zas [1,1,0,0,1,1,1,0,0] zsv
def zNM:=zat tP zfc [1,1,0,0,1,1,1,0] zsv (zbR zAZ Kb11 (zAT K))
def zNR:=ALoop tP zNO (zNM K Kb11) (zNQ t1 t4 t5 t8 t31 t32 t33 t46 t47 t48) H
def zAU:=zad .lss false t33 t32 λt34=>zag t34 (zaj 8 t31 t33 λt36=>zae true 8 t36 H λt37=>zaz [(.int .i64 0),(.int .i64 0),.snil,.snil,.snil,(.int .i64 0),(.int .i64 0),.snil] H λt9 H=>zao 8 t9 t37 H λH=>zaf 3 t9 λt38=>zae false 1 t38 H λt39=>zai 1 t39 λt40=>zaf 4 t9 λt41=>zae false 1 t41 H λt42=>zai 1 t42 λt43=>zad .neq false t40 t43 λt44=>zag t44 (K (.bool false) H) (zaf 4 t9 λt45=>zae false 1 t45 H λt46=>zai 1 t46 λt47=>zNR t1 t4 t5 t33 t31 t32 t33 t46 t47 (.int .i64 0) H K Kb11)) (zae false 1 t4 H λt70=>zaf 3 t1 λt71=>zae false 1 t71 H λt72=>zai 1 t72 λt73=>zad .eql false t70 t73 λt74=>K t74 H)
def zAV:=zad .lss false t20 t19 λt21=>zag t21 (zaj 7 t18 t20 λt22=>zae true 7 t22 H λt23=>zaz [(.str []),.snil,.snil,(.int .i64 0),(.int .i64 0),.snil,(.int .i64 0)] H λt7 H=>zao 7 t7 t23 H λH=>zaf 6 t7 λt25=>zae false 1 t25 H λt26=>aCallV tP t5 [t26] H λt27 H=>aUn .not t27 λt28=>zag t28 (K (.bool false) H) (zad .add false t20 (.int .i64 1) λt29=>Kb5 (zsw t1 t4 t5 t18 t19 t29) H)) (zaf 3 t1 λt30=>zae false 1 t30 H λt31=>zai 1 t31 λt32=>zAX t1 t4 t5 t31 t32 (.int .i64 0) H K)
def zAS:=zaw t0 H λt1 H=>zaf 3 t1 λt12=>zae false 1 t12 H λt13=>zai 1 t13 λt14=>zbu 1 [(.bool false)] t14 t14 H λt15 H=>zaz [.snil] H λt3 H=>zao 1 t3 t15 H λH=>zaz [(.int .i64 0)] H λt4 H=>zao 1 t4 (.int .i64 0) H λH=>zcp zGE [t3,t4] λt16=>zaf 1 t1 λt17=>zae false 1 t17 H λt18=>zai 1 t18 λt19=>zAY t1 t4 t16 t18 t19 (.int .i64 0) H K
def zfd:Nat→List Bool|5=>rl false [1,1,2,2,12,3,41]|11=>rl false [1,1,2,2,32,3,21]|14=>rl false [1,1,2,2,32,3,4,3,14]|_=>[]
noncomputable def ziy:=Tryz.f163.body.getD .skip
noncomputable def zA9:=Tryz.f163.results.toList
def zsy:=ux 1 (t1::ux 2 (t4::t5::ux 12 (t18::t19::t20::ux 41 [])))
def zN4:=zfd 5
noncomputable def zNZ:=zas [1,1,1,1,0,1,0,0] ziy
def zNX:=zat tP zfd [1,1,1,1,0,1,0] ziy (zaB tP zA9 K)
def zA7:=ALoop tP zNZ (zNX K) (zsy t1 t4 t5 t18 t19 t20) H
def zA5:=ux 1 (t1::ux 2 (t4::t5::ux 32 (t38::t39::t40::ux 21 [])))
def zA8:=zfd 11
noncomputable def zsx:=zas [1,1,1,1,1,0,1,0,0] ziy
def zA2:=zat tP zfd [1,1,1,1,1,0,1,0] ziy (zaB tP zA9 K)
def zA6:=ALoop tP zsx (zA2 K) (zA5 t1 t4 t5 t38 t39 t40) H
def zN0:=ux 1 (t1::ux 2 (t4::t5::ux 32 (t38::t39::t40::ux 4 (t45::t46::t47::ux 14 []))))
noncomputable def zNY:=zas [1,1,0,0,1,1,0,0] zsx
def zNW:=zat tP zfd [1,1,0,0,1,1,0] zsx (zbR zA8 Kb11 (zA2 K))
def zN1:=ALoop tP zNY (zNW K Kb11) (zN0 t1 t4 t5 t38 t39 t40 t45 t46 t47) H
def zA3:=zad .lss false t40 t39 λt41=>zag t41 (zaj 8 t38 t40 λt42=>zae true 8 t42 H λt43=>zaz [(.int .i64 0),(.int .i64 0),.snil,.snil,.snil,(.int .i64 0),(.int .i64 0),.snil] H λt9 H=>zao 8 t9 t43 H λH=>zaf 3 t9 λt44=>zae false 1 t44 H λt45=>zai 1 t45 λt46=>zN1 t1 t4 t5 t38 t39 t40 t45 t46 (.int .i64 0) H K Kb11) (zae false 1 t4 H λt57=>zaf 2 t1 λt58=>zae false 1 t58 H λt59=>zai 1 t59 λt60=>zad .eql false t57 t60 λt61=>K t61 H)
def zA4:=zad .lss false t20 t19 λt21=>zag t21 (zaj 7 t18 t20 λt22=>zae true 7 t22 H λt23=>zaz [(.str []),.snil,.snil,(.int .i64 0),(.int .i64 0),.snil,(.int .i64 0)] H λt7 H=>zao 7 t7 t23 H λH=>zaf 1 t7 λt25=>zae false 1 t25 H λt26=>aCallV tP t5 [t26] H λt27 H=>aUn .not t27 λt28=>zac t28 false H (λK'=>K' t5 H) λt30 H=>zac t28 false H (λK'=>zaf 2 t7 (K' · H)) λt31 H=>zac t28 false H (λK'=>zae false 1 t31 H (K' · H)) λt32 H=>zac t28 false H (λK'=>aCallV tP t30 [t32] H K') λt33 H=>zac t28 false H (λK'=>aUn .not t33 (K' · H)) λt34 H=>zak t28 (.bool true) t34 λt35=>zag t35 (K (.bool false) H) (zad .add false t20 (.int .i64 1) λt36=>Kb5 (zsy t1 t4 t5 t18 t19 t36) H)) (zaf 3 t1 λt37=>zae false 1 t37 H λt38=>zai 1 t38 λt39=>zA6 t1 t4 t5 t38 t39 (.int .i64 0) H K)
def zA1:=zaw t0 H λt1 H=>zaf 2 t1 λt12=>zae false 1 t12 H λt13=>zai 1 t13 λt14=>zbu 1 [(.bool false)] t14 t14 H λt15 H=>zaz [.snil] H λt3 H=>zao 1 t3 t15 H λH=>zaz [(.int .i64 0)] H λt4 H=>zao 1 t4 (.int .i64 0) H λH=>zcp zGF [t3,t4] λt16=>zaf 1 t1 λt17=>zae false 1 t17 H λt18=>zai 1 t18 λt19=>zA7 t1 t4 t16 t18 t19 (.int .i64 0) H K
def zl6:Nat→List Bool|6=>rl false [4,2,9,3,25]|_=>[]
noncomputable def zsz:=Tryz.f164.body.getD .skip
noncomputable def zOb:=Tryz.f164.results.toList
def zsA:=ux 4 (t4::t5::ux 9 (t15::t16::t17::ux 25 []))
def zN9:=zl6 6
noncomputable def zN7:=zas [1,1,1,1,1,0,1,0,0] zsz
def zN6:=zat tP zl6 [1,1,1,1,1,0,1,0] zsz (zaB tP zOb K)
def zBc:=ALoop tP zN7 (zN6 K) (zsA t4 t5 t15 t16 t17) H
def zBb:=zad .lss false t17 t16 λt18=>zag t18 (zaj 7 t15 t17 λt19=>zae true 7 t19 H λt20=>zaz [(.str []),.snil,.snil,(.int .i64 0),(.int .i64 0),.snil,(.int .i64 0)] H λt7 H=>zao 7 t7 t20 H λH=>zae false 1 t4 H λt21=>zaf 1 t7 λt22=>zae false 1 t22 H λt23=>aCallV tP t21 [t23,(.bool true)] H λt24 H=>zae false 1 t4 H λt25=>zaf 2 t7 λt26=>zae false 1 t26 H λt27=>aCallV tP t25 [t27,(.bool true)] H λt28 H=>zae false 1 t5 H λt29=>zaf 6 t7 λt30=>zae false 1 t30 H λt31=>aCallV tP t29 [t31] H λt32 H=>aUn .not t32 λt33=>zag t33 (K (.bool false) H) (zae false 1 t4 H λt34=>zaf 1 t7 λt35=>zae false 1 t35 H λt36=>aCallV tP t34 [t36,(.bool false)] H λt37 H=>zae false 1 t4 H λt38=>zaf 2 t7 λt39=>zae false 1 t39 H λt40=>aCallV tP t38 [t40,(.bool false)] H λt41 H=>zad .add false t17 (.int .i64 1) λt42=>Kb6 (zsA t4 t5 t15 t16 t42) H)) (K (.bool true) H)
def zBa:=zaw t0 H λt1 H=>zaf 2 t1 λt8=>zae false 1 t8 H λt9=>zai 1 t9 λt10=>zbu 1 [(.bool false)] t10 t10 H λt11 H=>zaz [.snil] H λt3 H=>zao 1 t3 t11 H λH=>zcp zGG [t3] λt12=>zaz [.nilfn] H λt4 H=>zao 1 t4 t12 H λH=>zaz [.nilfn] H λt5 H=>zcp zGH [t1,t3,t4,t5] λt13=>zao 1 t5 t13 H λH=>zaf 1 t1 λt14=>zae false 1 t14 H λt15=>zai 1 t15 λt16=>zBc t4 t5 t15 t16 (.int .i64 0) H K
variable {t0 t1 t3 t4 t5 t6 t8 t15 t16 t17 t18 t19 t20 t21 t31 t32 t33 t38 t39 t40 t45 t46 t47 t48} {H} {K} {Kb5 Kb6 Kb11}
theorem zLa(h:HSc H→zz5 t0 H K):ACalls tP zpu [t0] H K:=
 acb zK7 Tryz.func122 zK8 h
theorem zNF(h:HSc H→zAN t0 H K):ACalls tP zpJ [t0] H K:=
 acb zND Tryz.func160 zNE h
theorem zNI:Lo2 (λt4 t21=>zsu t1 t3 t4 t19 t20 t21) (λt4 t21 H Kb6=>zAP t1 t3 t4 t19 t20 t21 H K Kb6) t4 t21 H (zAR t1 t3 t4 t19 t20 t21 H K):=lq2 zl5 zNJ
theorem zNK(h:HSc H→zAO t0 H K):ACalls tP zpK [t0] H K:=
 acb zl5 Tryz.func161 zst h
theorem zNS:Lo1 (λt33=>zAW t1 t4 t5 t31 t32 t33) (λt33 H Kb11=>zAU t1 t4 t5 t31 t32 t33 H K Kb11) t33 H (zAX t1 t4 t5 t31 t32 t33 H K):=lq1 zfc zAZ
theorem zNT:Lo1 (λt20=>zsw t1 t4 t5 t18 t19 t20) (λt20 H Kb5=>zAV t1 t4 t5 t18 t19 t20 H K Kb5) t20 H (zAY t1 t4 t5 t18 t19 t20 H K):=lq1 zfc zNU
theorem zNV(h:HSc H→zAS t0 H K):ACalls tP zpL [t0] H K:=
 acb zfc Tryz.func162 zix h
theorem zN2:Lo1 (λt40=>zA5 t1 t4 t5 t38 t39 t40) (λt40 H Kb11=>zA3 t1 t4 t5 t38 t39 t40 H K Kb11) t40 H (zA6 t1 t4 t5 t38 t39 t40 H K):=lq1 zfd zA8
theorem zN3:Lo1 (λt20=>zsy t1 t4 t5 t18 t19 t20) (λt20 H Kb5=>zA4 t1 t4 t5 t18 t19 t20 H K Kb5) t20 H (zA7 t1 t4 t5 t18 t19 t20 H K):=lq1 zfd zN4
theorem zN5(h:HSc H→zA1 t0 H K):ACalls tP zpM [t0] H K:=
 acb zfd Tryz.func163 ziy h
theorem zN8:Lo1 (λt17=>zsA t4 t5 t15 t16 t17) (λt17 H Kb6=>zBb t4 t5 t15 t16 t17 H K Kb6) t17 H (zBc t4 t5 t15 t16 t17 H K):=lq1 zl6 zN9
theorem zOa(h:HSc H→zBa t0 H K):ACalls tP zpN [t0] H K:=
 acb zl6 Tryz.func164 zsz h
end
section
variable (t0 t1 t3 t16 t17 t18 t28 t29 t30:AV) (H:zaa) (K:Kt) (Kb3 Kb9:Lt)
def zfQ:Nat→List Bool|3=>rl false [1,1,1,1,12,3,30]|9=>rl false [3,1,24,3,18]|_=>[]
noncomputable def ziz:=Tryz.f165.body.getD .skip
noncomputable def zBi:=Tryz.f165.results.toList
def zsB:=ux 1 (t1::ux 1 (t3::ux 12 (t16::t17::t18::ux 30 [])))
def zOj:=zfQ 3
noncomputable def zOe:=zas [1,1,0,1,0,0] ziz
def zOc:=zat tP zfQ [1,1,0,1,0] ziz (zaB tP zBi K)
def zBg:=ALoop tP zOe (zOc K) (zsB t1 t3 t16 t17 t18) H
def zsC:=ux 3 (t3::ux 24 (t28::t29::t30::ux 18 []))
def zOk:=zfQ 9
noncomputable def zOg:=zas [1,1,1,0,1,0,0] ziz
def zOd:=zat tP zfQ [1,1,1,0,1,0] ziz (zaB tP zBi K)
def zBh:=ALoop tP zOg (zOd K) (zsC t3 t28 t29 t30) H
def zBf:=zad .lss false t30 t29 λt31=>zag t31 (zaj 7 t28 t30 λt33=>zae true 7 t33 H λt34=>zaz [(.str []),.snil,.snil,(.int .i64 0),(.int .i64 0),.snil,(.int .i64 0)] H λt7 H=>zao 7 t7 t34 H λH=>zaf 0 t7 λt35=>zae false 1 t35 H λt36=>zad .eql false t36 (.str []) λt37=>zac t37 true H (λK'=>K' t3 H) λt39 H=>zac t37 true H (λK'=>zbe t39 (K' · H)) λt40 H=>zac t37 true H (λK'=>zaf 4 t40 (K' · H)) λt41 H=>zac t37 true H (λK'=>zae false 1 t41 H (K' · H)) λt42 H=>zac t37 true H (λK'=>K' t30 H) λt43 H=>zac t37 true H (λK'=>zaj 1 t42 t43 (K' · H)) λt44 H=>zac t37 true H (λK'=>zae false 1 t44 H (K' · H)) λt45 H=>zac t37 true H (λK'=>zad .neq false t45 (.int .i64 1) (K' · H)) λt46 H=>zak t37 t46 (.bool false) λt47=>zag t47 (K (.bool false) H) (zad .add false t30 (.int .i64 1) λt48=>Kb9 (zsC t3 t28 t29 t48) H)) (K (.bool true) H)
def zBe:=zad .lss false t18 t17 λt19=>zag t19 (zaj 8 t16 t18 λt20=>zae true 8 t20 H λt21=>zaz [(.int .i64 0),(.int .i64 0),.snil,.snil,.snil,(.int .i64 0),(.int .i64 0),.snil] H λt5 H=>zao 8 t5 t21 H λH=>zae true 8 t5 H λt23=>ACalls tP zGI [t3,t23] H λt24 H=>aUn .not t24 λt25=>zag t25 (K (.bool false) H) (zad .add false t18 (.int .i64 1) λt26=>Kb3 (zsB t1 t3 t16 t17 t26) H)) (zaf 1 t1 λt27=>zae false 1 t27 H λt28=>zai 1 t28 λt29=>zBh t3 t28 t29 (.int .i64 0) H K)
def zBd:=zaw t0 H λt1 H=>apu H (zal true 4 t1 H) λt8=>apu H (zaf 1 t1) λt9=>apu H (zal false 1 t9 H) λt10=>apu H (zai 1 t10) λt11=>zbu 8 [(.int .i64 0)] t11 t11 H λt12 H=>apu H (zar [.snil,.snil,.snil,.snil,.snil] [(0,4),(4,1)] [(0,t8),(1,t12)]) λt13=>zaw t13 H λt14 H=>apm H t14 λt3=>zaf 3 t1 λt15=>zae false 1 t15 H λt16=>zai 1 t16 λt17=>zBg t1 t3 t16 t17 (.int .i64 0) H K
variable {t0 t1 t3 t16 t17 t18 t28 t29 t30} {H} {K} {Kb3 Kb9}
theorem zOi:Lo1 (λt30=>zsC t3 t28 t29 t30) (λt30 H Kb9=>zBf t3 t28 t29 t30 H K Kb9) t30 H (zBh t3 t28 t29 t30 H K):=lq1 zfQ zOk
theorem zOh:Lo1 (λt18=>zsB t1 t3 t16 t17 t18) (λt18 H Kb3=>zBe t1 t3 t16 t17 t18 H K Kb3) t18 H (zBg t1 t3 t16 t17 t18 H K):=lq1 zfQ zOj
theorem zOl(h:HSc H→zBd t0 H K):ACalls tP zpO [t0] H K:=
 acb zfQ Tryz.func165 ziz h
end
section
variable (t0 t1 t2 t4 t5 t7 t10 t117:AV) (H:zaa) (K:Kt) (Kb4 Kb21:Lt)
def zny:Nat→List Bool|21=>rl false [0,1,3,2,1,1,2,1,174]|_=>[]
noncomputable def zug:=Tryz.f51.body.getD .skip
noncomputable def zTH:=Tryz.f51.results.toList
def znz:=t0::ux 3 (t4::t5::ux 1 (t7::ux 2 (t10::ux 174 [])))
def zTF:=zny 21
noncomputable def zTD:=zas [1,1,0,1,0,1,1,1,1,1,1,1,1,1,1,1,0,1,0,1,0,0] zug
def zTC:=zat tP zny [1,1,0,1,0,1,1,1,1,1,1,1,1,1,1,1,0,1,0,1,0] zug (zaB tP zTH K)
def zuh:=ALoop tP zTD (zTC K) (znz t0 t4 t5 t7 t10) H
def zuf:=zad .lss false t10 t7 λt153=>zag t153 (apm H t0 λt156=>apu H (zaf 2 t4) λt157=>apu H (zal false 1 t157 H) λt158=>apm H t10 λt159=>apu H (zaj 3 t158 t159) λt160=>apu H (zal true 3 t160 H) λt161=>apu H (zaf 2 t5) λt162=>apu H (zal false 1 t162 H) λt163=>apu H (zaj 3 t163 (.int .i64 0)) λt164=>apu H (zal true 3 t164 H) λt165=>zaJ H (λH K'=>ACalls tP zjS [t156,t161,t165] H K') λt166=>apu H (aUn .not t166) λt167=>zag t167 (K (.bool false) H) (zad .add false t10 (.int .i64 1) λt155=>Kb21 (znz t0 t4 t5 t7 t155) H)) (K (.bool true) H)
def ziK:=zag t117 (zaf 0 t5 λt120=>zae false 1 t120 H λt121=>zad .eql false t121 (.int .i64 7) λt122=>zac t122 true H (λK'=>zaf 0 t4 (K' · H)) λt124 H=>zac t122 true H (λK'=>zae false 1 t124 H (K' · H)) λt125 H=>zac t122 true H (λK'=>zad .neq false t125 (.int .i64 6) (K' · H)) λt126 H=>zac t122 true H (λK'=>K' t126 H) λt127 H=>zac t127 false H (λK'=>K' t7 H) λt128 H=>zac t127 false H (λK'=>zad .gtr false t128 (.int .i64 4096) (K' · H)) λt129 H=>zac t122 true H (λK'=>zak t127 (.bool true) t129 (K' · H)) λt130 H=>zak t122 t130 (.bool false) λt131=>zac t131 false H (λK'=>zaf 0 t5 (K' · H)) λt133 H=>zac t131 false H (λK'=>zae false 1 t133 H (K' · H)) λt134 H=>zac t131 false H (λK'=>zad .eql false t134 (.int .i64 8) (K' · H)) λt135 H=>zac t131 false H (λK'=>K' t135 H) λt136 H=>zac t136 true H (λK'=>zaf 0 t4 (K' · H)) λt137 H=>zac t136 true H (λK'=>zae false 1 t137 H (K' · H)) λt138 H=>zac t136 true H (λK'=>zad .neq false t138 (.int .i64 7) (K' · H)) λt139 H=>zac t136 true H (λK'=>K' t139 H) λt140 H=>zac t140 false H (λK'=>K' t7 H) λt141 H=>zac t140 false H (λK'=>zad .neq false t141 (.int .i64 1) (K' · H)) λt142 H=>zac t136 true H (λK'=>zak t140 (.bool true) t142 (K' · H)) λt143 H=>zac t131 false H (λK'=>zak t136 t143 (.bool false) (K' · H)) λt144 H=>zak t131 (.bool true) t144 λt145=>zac t145 false H (λK'=>zaf 1 t4 (K' · H)) λt147 H=>zac t145 false H (λK'=>zae false 1 t147 H (K' · H)) λt148 H=>zac t145 false H (λK'=>zad .neq false t148 (.int .i64 0) (K' · H)) λt149 H=>zak t145 (.bool true) t149 λt150=>zag t150 (K (.bool false) H) (zuh t0 t4 t5 t7 (.int .i64 0) H K)) (zaf 0 t4 λt168=>zae false 1 t168 H λt169=>zad .eql false t169 (.int .i64 8) λt170=>zac t170 true H (λK'=>zaf 1 t4 (K' · H)) λt172 H=>zac t170 true H (λK'=>zae false 1 t172 H (K' · H)) λt173 H=>zac t170 true H (λK'=>zad .geq false t173 (.int .i64 0) (K' · H)) λt174 H=>zak t170 t174 (.bool false) λt175=>zac t175 true H (λK'=>zaf 1 t4 (K' · H)) λt177 H=>zac t175 true H (λK'=>zae false 1 t177 H (K' · H)) λt178 H=>zac t175 true H (λK'=>zad .lss false t178 (.int .i64 64) (K' · H)) λt179 H=>zak t175 t179 (.bool false) λt180=>zac t180 true H (λK'=>K' t7 H) λt182 H=>zac t180 true H (λK'=>zad .eql false t182 (.int .i64 0) (K' · H)) λt183 H=>zak t180 t183 (.bool false) λt184=>K t184 H)
def zeH:=zaw t1 H λt4 H=>zaw t2 H λt5 H=>zaf 2 t4 λt11=>zae false 1 t11 H λt12=>zai 1 t12 λt13=>zaf 0 t5 λt14=>zae false 1 t14 H λt15=>zad .eql false t15 (.int .i64 3) λt17=>zag t17 (zaf 0 t4 λt18=>zae false 1 t18 H λt19=>zad .eql false t19 (.int .i64 1) λt20=>zac t20 true H (λK'=>zaf 1 t4 (K' · H)) λt22 H=>zac t20 true H (λK'=>zae false 1 t22 H (K' · H)) λt23 H=>zac t20 true H (λK'=>zad .eql false t23 (.int .i64 0) (K' · H)) λt24 H=>zak t20 t24 (.bool false) λt25=>zac t25 true H (λK'=>K' t13 H) λt27 H=>zac t25 true H (λK'=>zad .eql false t27 (.int .i64 0) (K' · H)) λt28 H=>zak t25 t28 (.bool false) λt29=>K t29 H) (zad .eql false t15 (.int .i64 2) λt31=>zag t31 (zaf 0 t4 λt32=>zae false 1 t32 H λt33=>zad .eql false t33 (.int .i64 2) λt34=>zac t34 true H (λK'=>zaf 1 t4 (K' · H)) λt36 H=>zac t34 true H (λK'=>zae false 1 t36 H (K' · H)) λt37 H=>zac t34 true H (λK'=>zad .eql false t37 (.int .i64 0) (K' · H)) λt38 H=>zac t34 true H (λK'=>K' t38 H) λt39 H=>zac t39 false H (λK'=>zaf 1 t4 (K' · H)) λt40 H=>zac t39 false H (λK'=>zae false 1 t40 H (K' · H)) λt41 H=>zac t39 false H (λK'=>zad .eql false t41 (.int .i64 1) (K' · H)) λt42 H=>zac t34 true H (λK'=>zak t39 (.bool true) t42 (K' · H)) λt43 H=>zak t34 t43 (.bool false) λt44=>zac t44 true H (λK'=>K' t13 H) λt46 H=>zac t44 true H (λK'=>zad .eql false t46 (.int .i64 0) (K' · H)) λt47 H=>zak t44 t47 (.bool false) λt48=>K t48 H) (zad .eql false t15 (.int .i64 1) λt50=>zag t50 (zaf 0 t4 λt51=>zae false 1 t51 H λt52=>zad .eql false t52 (.int .i64 3) λt53=>zac t53 true H (λK'=>zaf 1 t4 (K' · H)) λt55 H=>zac t53 true H (λK'=>zae false 1 t55 H (K' · H)) λt56 H=>zac t53 true H (λK'=>zad .geq false t56 (.int .i64 (-1099511627776)) (K' · H)) λt57 H=>zak t53 t57 (.bool false) λt58=>zac t58 true H (λK'=>zaf 1 t4 (K' · H)) λt60 H=>zac t58 true H (λK'=>zae false 1 t60 H (K' · H)) λt61 H=>zac t58 true H (λK'=>zad .leq false t61 (.int .i64 1099511627776) (K' · H)) λt62 H=>zak t58 t62 (.bool false) λt63=>zac t63 true H (λK'=>K' t13 H) λt65 H=>zac t63 true H (λK'=>zad .eql false t65 (.int .i64 0) (K' · H)) λt66 H=>zak t63 t66 (.bool false) λt67=>K t67 H) (zad .eql false t15 (.int .i64 6) λt69=>zag t69 (zaf 0 t4 λt70=>zae false 1 t70 H λt71=>zad .eql false t71 (.int .i64 4) λt72=>zac t72 true H (λK'=>zaf 1 t4 (K' · H)) λt74 H=>zac t72 true H (λK'=>zae false 1 t74 H (K' · H)) λt75 H=>zac t72 true H (λK'=>zad .eql false t75 (.int .i64 0) (K' · H)) λt76 H=>zak t72 t76 (.bool false) λt77=>zac t77 true H (λK'=>K' t0 H) λt79 H=>zac t77 true H (λK'=>zaf 2 t4 (K' · H)) λt80 H=>zac t77 true H (λK'=>zae false 1 t80 H (K' · H)) λt81 H=>zac t77 true H (λK'=>zaf 2 t5 (K' · H)) λt82 H=>zac t77 true H (λK'=>zae false 1 t82 H (K' · H)) λt83 H=>zac t77 true H (λK'=>ACalls tP zj5 [t79,t81,t83] H K') λt84 H=>zak t77 t84 (.bool false) λt85=>K t85 H) (zad .eql false t15 (.int .i64 5) λt87=>zag t87 (zaf 0 t4 λt88=>zae false 1 t88 H λt89=>zad .neq false t89 (.int .i64 5) λt90=>zac t90 false H (λK'=>zaf 1 t4 (K' · H)) λt92 H=>zac t90 false H (λK'=>zae false 1 t92 H (K' · H)) λt93 H=>zac t90 false H (λK'=>zad .lss false t93 (.int .i64 0) (K' · H)) λt94 H=>zak t90 (.bool true) t94 λt95=>zac t95 false H (λK'=>zaf 1 t4 (K' · H)) λt97 H=>zac t95 false H (λK'=>zae false 1 t97 H (K' · H)) λt98 H=>zac t95 false H (λK'=>zad .geq false t98 (.int .i64 8) (K' · H)) λt99 H=>zak t95 (.bool true) t99 λt100=>zag t100 (K (.bool false) H) (zae true 3 t5 H λt103=>zaf 1 t4 λt104=>zae false 1 t104 H λt105=>ACalls tP zh5 [t0,t103,t105] H λt106 H=>zay t106 0 λt107=>zay t106 1 λt108=>zac t108 true H (λK'=>K' t0 H) λt111 H=>zac t108 true H (λK'=>zaf 2 t4 (K' · H)) λt112 H=>zac t108 true H (λK'=>zae false 1 t112 H (K' · H)) λt113 H=>zac t108 true H (λK'=>K' t107 H) λt114 H=>zac t108 true H (λK'=>ACalls tP zj5 [t111,t113,t114] H K') λt115 H=>zak t108 t115 (.bool false) λt116=>K t116 H)) (zad .eql false t15 (.int .i64 7) λt118=>zag t118 (ziK t0 t4 t5 t13 t118 H K) (zad .eql false t15 (.int .i64 8) λt119=>ziK t0 t4 t5 t13 t119 H K))))))
def zoc:Nat→List Bool|4=>rl false [0,3,4,1,22]|_=>[]
noncomputable def zuY:=Tryz.f97.body.getD .skip
noncomputable def zWu:=Tryz.f97.results.toList
def zod:=t0::t1::t2::ux 4 (t7::ux 22 [])
def zWs:=zoc 4
noncomputable def zWq:=zas [1,1,0,1,0,0] zuY
def zWp:=zat tP zoc [1,1,0,1,0] zuY (zaB tP zWu K)
def zDY:=ALoop tP zWq (zWp K) (zod t0 t1 t2 t7) H
def zuX:=zai 1 t1 λt15=>zad .lss false t7 t15 λt16=>zag t16 (apm H t0 λt19=>apm H t1 λt20=>apm H t7 λt21=>apu H (zaj 3 t20 t21) λt22=>apu H (zal true 3 t22 H) λt23=>apm H t2 λt24=>apm H t7 λt25=>apu H (zaj 3 t24 t25) λt26=>apu H (zal true 3 t26 H) λt27=>zaJ H (λH K'=>ACalls tP zjS [t19,t23,t27] H K') λt28=>apu H (aUn .not t28) λt29=>zag t29 (K (.bool false) H) (zad .add false t7 (.int .i64 1) λt18=>Kb4 (zod t0 t1 t2 t18) H)) (K (.bool true) H)
def zuW:=zai 1 t1 λt9=>zai 1 t2 λt11=>zad .neq false t9 t11 λt12=>zag t12 (K (.bool false) H) (zDY t0 t1 t2 (.int .i64 0) H K)
variable {t0 t1 t2 t4 t5 t7 t10 t117} {H} {K} {Kb4 Kb21}
theorem zTE:Lo1 (λt10=>znz t0 t4 t5 t7 t10) (λt10 H Kb21=>zuf t0 t4 t5 t7 t10 H K Kb21) t10 H (zuh t0 t4 t5 t7 t10 H K):=lq1 zny zTF
theorem zTG(h:HSc H→zeH t0 t1 t2 H K):ACalls tP zjS [t0,t1,t2] H K:=
 acb zny Tryz.func51 zug h
theorem zWr:Lo1 (λt7=>zod t0 t1 t2 t7) (λt7 H Kb4=>zuX t0 t1 t2 t7 H K Kb4) t7 H (zDY t0 t1 t2 t7 H K):=lq1 zoc zWs
theorem zWt(h:HSc H→zuW t0 t1 t2 H K):ACalls tP zj5 [t0,t1,t2] H K:=
 acb zoc Tryz.func97 zuY h
end
def d4(dU:List Dat):AV:=.agg [.sl (dU.map Dat.cs) .none,.snil,.snil,.snil]
section
variable {H:zaa} {K:Kt} (dU:List Dat)
theorem zJx(hK:K (.bool true) H):ACalls tP zpJ [d4 dU] H K:=by refine ACalls.out (zNF λhs=>?_);simp[zAN,d4];refine⟨rfl,ACalls.wk (args':=[.sl (VT.css []) .none,.fn zxh [.ptr H.length 0]]) ?_ ⟨.atom .snil,.atom (.refl _),trivial⟩⟩;refine zoM [] (by simp) _ _ _ (by simp[AV.sc,AV.scV,AV.scA,AV.scB]) (λ_ H'=>H'=H++[.cells [.sl (dU.map Dat.cs) .none,.snil,.snil,.snil]]) rfl (λi h=>by simp at h) ?_;rintro H' rfl;simp;exact Out.bool rfl (aa _) hs hK
theorem zFj(hK:K (.bool true) H):ACalls tP zpK [d4 dU] H K:=by refine ACalls.out (zNK λhs=>?_);simp[zAO,d4];refine zNI (Inv:=λ_ _ t H'=>t=.int .i64 0∧H'=_) 0 (λ_=>⟨rfl,rfl⟩) ?_;rintro q t4 t H' ⟨rfl,rfl⟩ _ _ _ Kb ee;simp[zAP];exact Out.bool rfl (aa _) hs hK
theorem zJp(hK:K (.bool true) H):ACalls tP zpL [d4 dU] H K:=by refine ACalls.out (zNV λhs=>?_);simp[zAS,d4,zbu];refine⟨⟨rfl,rfl⟩,zNT (Inv:=λ_ t H'=>t=.int .i64 0∧H'=_) 0 (λ_=>⟨rfl,rfl⟩) ?_⟩;rintro q t H' ⟨rfl,rfl⟩ _ _ _ Kb ee;simp[zAV];refine zNS (Inv:=λ_ t H'=>t=.int .i64 0∧H'=_) 0 (λ_=>⟨rfl,rfl⟩) ?_;rintro q t H' ⟨rfl,rfl⟩ _ _ _ Kb2 fK;simp[zAU,ae];exact Out.bool rfl (aa _) hs hK
theorem zE0(hK:K (.bool true) H):ACalls tP zpM [d4 dU] H K:=by refine ACalls.out (zN5 λhs=>?_);simp[zA1,d4,zbu];refine⟨⟨rfl,rfl⟩,zN3 (Inv:=λ_ t H'=>t=.int .i64 0∧H'=_) 0 (λ_=>⟨rfl,rfl⟩) ?_⟩;rintro q t H' ⟨rfl,rfl⟩ _ _ _ Kb ee;simp[zA4];refine zN2 (Inv:=λ_ t H'=>t=.int .i64 0∧H'=_) 0 (λ_=>⟨rfl,rfl⟩) ?_;rintro q t H' ⟨rfl,rfl⟩ _ _ _ Kb2 fK;simp[zA3,ae];exact Out.bool rfl (aa _) hs hK
theorem zHX(hK:K (.bool true) H):ACalls tP zpN [d4 dU] H K:=by refine ACalls.out (zOa λhs=>?_);simp[zBa,d4,zbu];refine⟨rfl,⟨rfl,rfl,rfl,rfl⟩,zN8 (Inv:=λ_ t H'=>t=.int .i64 0∧H'=_) 0 (λ_=>⟨rfl,rfl⟩) ?_⟩;rintro q t H' ⟨rfl,rfl⟩ _ _ _ Kb ee;simp[zBb];exact Out.bool rfl (aa _) hs hK
theorem zFJ(hK:K (.bool true) H):ACalls tP zpO [d4 dU] H K:=by refine ACalls.out (zOl λhs=>?_);simp[zBd,d4,zbu,zar,zaL];refine zOh (Inv:=λ_ t H'=>t=.int .i64 0∧H'=_) 0 (λ_=>⟨rfl,rfl⟩) ?_;rintro q t H' ⟨rfl,rfl⟩ _ _ _ Kb ee;simp[zBe];refine zOi (Inv:=λ_ t H'=>t=.int .i64 0∧H'=_) 0 (λ_=>⟨rfl,rfl⟩) ?_;rintro q t H' ⟨rfl,rfl⟩ _ _ _ Kb2 fK;simp[zBf];exact Out.bool rfl (aa _) hs hK
theorem zK9(hB:zgY dU)(hl:dU.length≤1000000)(hK:K (.bool (zbB dU)) H):ACalls tP zpu [d4 dU] H K:=by
 refine ACalls.out (zLa λhs=>?_);simp[zz5,d4];refine zNC dU hB hl _ _ ?_;cases hd:zbB dU with
 |false=>rw[hd]at hK;simp;exact Out.bool rfl (aa _) hs hK
 |true=>rw[hd]at hK;simp;refine zJx dU ?_;simp;refine zFj dU ?_;simp;refine zJp dU ?_;simp;refine zE0 dU ?_;simp;refine zHX dU ?_;simp;refine zFJ dU ?_;exact Out.bool rfl (aa _) hs hK
def za8(dU:List Dat)(t:VT):Bool:=zbB dU && za3 dU 0 t
end
theorem zo1(dU:List Dat):∀ vs ts:List VT,zcE dU vs ts=zcM (zaV dU) vs ts
 |[],[]=>by simp[zcE,zcM]
 |[],_::_=>by simp[zcE,zcM]
 |_::_,[]=>by simp[zcE,zcM]
 |v::vs,t::ts=>by simp[zcE,zcM,zo1 dU vs ts]
theorem zJu{dU:List Dat}{k n:Int}{ks:List VT}(h:za7 dU 0 (.mk k n ks)=true):(k=1∧ks=[])∨(k=2∧ks=[])∨(k=3∧ks=[])∨k=5∨(k=6∧2≤ks.length)∨(k=7∧ks.length=1)∨(k=8∧ks.length=1)∨(k=9∧1≤ks.length):=by
 rw[za7,ai]at h;have h:=h.1;unfold zbl at h;by_cases h1:k=1
 ·subst h1;simp at h;simp[h.2]
 by_cases h2:k=2
 ·subst h2;simp at h;simp[h.2]
 by_cases h3:k=3
 ·subst h3;simp at h;simp[h.2]
 by_cases h4:k=4
 ·subst h4;simp at h;omega
 by_cases h5:k=5
 ·subst h5;simp
 by_cases h6:k=6
 ·subst h6;simp at h;simp;omega
 by_cases h7:k=7
 ·subst h7;simp at h;simp;omega
 by_cases h8:k=8
 ·subst h8;simp at h;simp;omega
 by_cases h9:k=9
 ·subst h9;simp at h;simp;omega
 simp[h1,h2,h3,h4,h5,h6,h7,h8,h9]at h
structure DOk (dU:List Dat):Prop where
 ok:zbB dU=true
 k:zbw dU
theorem DOk.small{dU:List Dat}(h:DOk dU):zgY dU:=λD hD=>by obtain⟨_,h2⟩:=h.k;obtain⟨_,h3,h4⟩:=h2 D hD;refine⟨by omega,λc hc=>?_⟩;obtain⟨_,h5,h6⟩:=h4 c hc;exact⟨by omega,λx hx=>by have:=h6 x hx;omega⟩
theorem zfq{dU:List Dat}(h:zbw dU):dU.length≤1000000∧(∀d∈dU,∀c∈d.cons,c.args.length≤1000∧∀x∈c.args,x.nodes≤1000)∧∀d∈dU,d.cons.length≤1000000:=by
 obtain⟨h1,h2⟩:=h;refine⟨by omega,λD hD c hc=>?_,λD hD=>?_⟩
 ·obtain⟨_,h3,h4⟩:=h2 D hD;obtain⟨_,h5,h6⟩:=h4 c hc;exact⟨by omega,λx hx=>by have:=h6 x hx;omega⟩
 ·obtain⟨_,h3,h4⟩:=h2 D hD;omega
section
variable {dU:List Dat} (hD:DOk dU)
theorem i0(n:Nat):((n:Int) == 0)=(n == 0):=by rw[cr];simp
theorem zFT{ks:List VT}(h:0<ks.length):ks.getD 0 (.mk 0 0 [])=ks[0]:=by simp[List.getD_eq_getElem?_getD,h]
theorem zFX{dU:List Dat}{t:VT}{vs:List VT}{i:Nat}(h:i<vs.length):zdJ dU (vs.drop i) t=(zaV dU vs[i] t && zdJ dU (vs.drop (i+1)) t):=by rw[ag h,zdJ]
include hD in
end
theorem zxO:∀ (a:List VT) (b:List Bool) (x:VT) (y:Bool),a.length=b.length→pick (a++[x]) (b++[y])=pick a b++(if y then [] else [x])
 |[],[],x,y,_=>by cases y <;> rfl
 |[],_::_,_,_,h=>by cases h
 |_::_,[],_,_,h=>by cases h
 |c::a,d::b,x,y,h=>by have:=zxO a b x y (by simpa using h);cases d <;> simp[pick,this]
theorem zqq{l:List VT}{bs:List Bool}{i:Nat}(h:l.length=bs.length)(hi:i<l.length):pick (l.take (i+1)) (bs.take (i+1))=pick (l.take i) (bs.take i)++(if bs[i]'(by omega) then [] else [l[i]]):=by rw[af hi,af (by omega:i<bs.length)];exact zxO _ _ _ _ (by simp;omega)
theorem zkf:∀ (a:List VT) (b:List Bool),(pick a b).length≤a.length
 |[],b=>by simp[pick]
 |_::_,[]=>by simp[pick]
 |c::a,d::b=>by have:=zkf a b;cases d <;> simp[pick] <;> omega
theorem zhd{l:List Bool}{i:Nat}(h:i<(zbV l).length):(zbV l)[i]=[.bool (l[i]'(by simpa[zbV]using h))]:=by simp[zbV]
theorem zeQ(l:List Bool):(zbV l).length=l.length:=by simp[zbV]
theorem zxL{dU:List Dat}{k n:Int}{ks:List VT}{c:Int}{l:List VT}(hk:zbw dU)(hf:zbr dU (.mk k n ks) c=some l):
  ∃ bs,l.length=bs.length∧l.length≤8∧zbb dU (.mk k n ks) c=some (pick l bs)∧(∀ x∈l,x.nodes≤200)∧k=5 ∧
   (∀H K,K (.sl (zbV bs) .none) H→ACalls tP zfx [.sl (dU.map Dat.cs) .none,.int .i64 n,.int .i64 c] H K) ∧
   (∀H K,K (.sl (zbV bs) .none) H→ACalls tP zgp [.sl (dU.map Dat.cs) .none,.int .i64 n,.int .i64 c] H K):=by
 obtain⟨k5,n0,c0,hn,hc,hv,rfl,gq⟩:=zhn hf;obtain⟨f1,f2,f3⟩:=zfq hk;have hd:=ah hn;have fg:=ah hc;obtain⟨g1,g2⟩:=f2 _ hd _ fg;have g3:=f3 _ hd;have h8:=((hk.2 _ hd).2.2 _ fg).2.1;refine⟨zcv n.toNat dU[n.toNat] (dU[n.toNat]).cons[c.toNat],by simp[zcv],by simpa using h8,?_,gq,k5,λH K hK=>?_,λH K hK=>?_⟩
 ·simp[zbb,hf,zdQ,hn,hc,List.getD_eq_getElem?_getD,VT.num]
 ·have:=zsQ dU n.toNat c.toNat hn hc f1 g3 (by omega) (λx hx=>by have:=g2 x hx;omega) H K (by simpa[zbV,zcv,Function.comp_def]using hK);rwa [bn n0,bn c0]at this
 ·have:=zBM dU n.toNat c.toNat hn hc f1 g3 (by omega) (λx hx=>by have:=g2 x hx;omega) H K hK;rwa [bn n0,bn c0]at this
theorem zxK{dU:List Dat}{t:VT}{c:Int}(hf:zbr dU t c=none):zbb dU t c=none:=by simp[zbb,hf]
theorem zLq(dU:List Dat)(hk:zbw dU)(t:VT)(ht:t.nodes≤1000)(c:Int)(H:zaa)(K:Kt)(hK:K (zcC (zbb dU t c)) H):
  ACalls tP zpv [.sl (dU.map Dat.cs) .none,.agg t.cs,.int .i64 c] H K:=by
 refine ACalls.out (zLo λhs=>?_);obtain⟨f1,f2,f3⟩:=zfq hk;obtain⟨k,n,ks⟩:=t;simp[zAa,VT.cs,ae];refine zBq dU f1 f2 f3 (.mk k n ks) ht c _ _ ?_;cases hf:zbr dU (.mk k n ks) c with
 |none=>rw[zxK hf]at hK;simp[zcC];refine⟨⟨rfl,rfl⟩,?_⟩;exact Out.tup (bs:=[.sl [] .none,.bool false]) hs hK ⟨zdS,zaY rfl rfl,trivial⟩
 |some l=>
  obtain⟨bs,fV,nS,gY,gq,k5,hsc,_⟩:=zxL hk hf;rw[gY]at hK;simp[zcC];refine hsc _ _ ?_;simp[zeQ];unfold zlh;refine ALoop.own 10 za2 3 rfl ?_;have i7:(H++[AB.cells [AV.int IntKind.i64 k,AV.int IntKind.i64 n,AV.sl (VT.css ks) Tok.none]]).length=H.length+1:=by simp
  rw[i7];show zlh (.sl (VT.css l) .none) (.sl [] (.own (H.length+1))) (.sl (zbV bs) .none) (.int .i64 bs.length) (.int .i64 0) (H++[.cells [.int .i64 k,.int .i64 n,.sl (VT.css ks) .none]]++[.perm za2 3 0]) (Out H.length K);have et:∀m,HSc (H++[.cells [.int .i64 k,.int .i64 n,.sl (VT.css ks) .none],.perm za2 3 m]):=λm=>hs.append (by simp[AB.sc,AV.scA,AV.scB]);refine zLm (Inv:=λq t10 t28 H'=>∃i:Nat,i≤bs.length∧q=bs.length-i∧t28=.int .i64 i∧t10=.sl (VT.css (pick (l.take i) (bs.take i))) (.own (H.length+1))∧H'=H++[.cells [.int .i64 k,.int .i64 n,.sl (VT.css ks) .none],.perm za2 3 (pick (l.take i) (bs.take i)).length]) bs.length ?_ ?_
  ·intro _;exact⟨0,by omega,by omega,rfl,by simp[pick,VT.css],by simp[pick]⟩
  ·rintro q t10 t28 H' ⟨i,hi,rfl,rfl,rfl,rfl⟩ eA d8 eC Kb ee;by_cases d7:i<bs.length
   ·have iI:=zqq fV (by omega:i<l.length);have gd:=zkf (l.take i) (bs.take i);rw[aW]at gd;have eP:∀ J,zlg (.sl (VT.css l) .none) (.sl (VT.css (pick (l.take (i+1)) (bs.take (i+1)))) (.own (H.length+1))) (.sl (zbV bs) .none) (.int .i64 bs.length) (.int .i64 i)
      (H++.cells [.int .i64 k,.int .i64 n,.sl (VT.css ks) .none]::.perm za2 3 (pick (l.take (i+1)) (bs.take (i+1))).length::J) (Out H.length K) Kb:=by
     intro J;simp[zlg,zAb];rw[zav (by omega) (by omega)];refine ee _ _ ⟨bs.length-(i+1),by omega,Back.at (J:=J) (H2:=H++[.cells [.int .i64 k,.int .i64 n,.sl (VT.css ks) .none],.perm za2 3 (pick (l.take (i+1)) (bs.take (i+1))).length]) (by simp) (by simp) (et _) ?_ ⟨_,_,rfl,i+1,by omega,rfl,by simp,rfl,rfl⟩⟩;simp[zlf,AV.sc,AV.scV,AV.scA,AV.scB]
    simp[zrN,zeQ,d7,zhd];cases jX:bs[i] with
    |true=>rw[jX]at iI;simp at iI;simp;have:=eP [];rw[iI]at this;exact this
    |false=>rw[jX]at iI;simp only[aF,aH]at iI;simp[show i<l.length by omega];rw[zfk];simp[zax,zaO,zaK];have:=eP [];rw[iI]at this;rw[show VT.css (pick (l.take i) (bs.take i)++[l[i]])=VT.css (pick (l.take i) (bs.take i))++[l[i].cs] by simp[VT.css_map],show (pick (l.take i) (bs.take i)++[l[i]]).length=(pick (l.take i) (bs.take i)).length+1 by simp]at this;exact⟨⟨by omega,by omega⟩,this⟩
   ·obtain rfl:i=bs.length:=by omega
    rw[am (by omega),aq]at *;simp[zrN];refine⟨⟨rfl,rfl⟩,?_⟩;exact Out.tup (bs:=[.sl (VT.css (pick l bs)) .none,.bool true]) hs hK ⟨slV,zaY rfl rfl,trivial⟩
def pos(v:Bool)(bs:List Bool)(i:Nat):List Nat:=(List.range i).filter λj=>bs.getD j false == v
def zb0(l:List Nat):List (List AV):=l.map λ(n:Nat)=>[AV.int .i64 (Int.ofNat n)]
theorem zqu(v:Bool)(bs:List Bool)(i:Nat)(h:i<bs.length):pos v bs (i+1)=pos v bs i++(if bs[i] == v then [i] else []):=by unfold pos;rw[bO,cN];congr 1;simp[cz,List.getD_eq_getElem?_getD,h]
theorem zqt(v:Bool)(bs:List Bool)(i:Nat):(pos v bs i).length≤i:=by have:=cU (λj=>bs.getD j false == v) (List.range i);simpa[pos]using this
theorem zHl{v:Bool}{bs:List Bool}{i j:Nat}(h:j∈pos v bs i):j<i:=by simp[pos]at h;exact h.1
theorem zxN{l:List VT}{bs:List Bool}(h:l.length=bs.length)(d:VT):∀ i,i≤l.length→pick (l.take i) (bs.take i)=(pos false bs i).map λj=>l.getD j d
 |0,_=>by simp[pick,pos]
 |i+1,hi=>by rw[zqq h (by omega),zqu false bs i (by omega),aP,zxN h d i (by omega)];congr 1;cases hb:bs[i]'(by omega) <;> simp[List.getD_eq_getElem?_getD,show i<l.length by omega]
theorem zh6(l:List Nat):(zb0 l).length=l.length:=by simp[zb0]
theorem zGJ{l:List Nat}{i:Nat}(h:i<(zb0 l).length):(zb0 l)[i]=[.int .i64 ((l[i]'(by simpa[zb0]using h):Nat):Int)]:=by simp[zb0]
theorem zxm(l m:List Nat):zb0 (l++m)=zb0 l++zb0 m:=by simp[zb0]
theorem zMX(dU:List Dat)(hk:zbw dU)(k n:Int)(ks:List VT)(ht:(VT.mk k n ks).nodes≤1000)(c:Int){l:List VT}{bs:List Bool}(hf:zbr dU (.mk k n ks) c=some l)(fV:l.length=bs.length)(nS:l.length≤8)(jb:∀ H K,K (.sl (zbV bs) .none) H→ACalls tP zgp [.sl (dU.map Dat.cs) .none,.int .i64 n,.int .i64 c] H K)(H:zaa)(K:Kt)(hK:K (.tup [.sl (zb0 (pos false bs bs.length)) .none,.sl (zb0 (pos true bs bs.length)) .none,.bool true]) H):
  ACalls tP zpG [.sl (dU.map Dat.cs) .none,.agg (VT.mk k n ks).cs,.int .i64 c] H K:=by
 refine ACalls.out (zMV λhs=>?_);obtain⟨f1,f2,f3⟩:=zfq hk;simp[zAx,VT.cs,ae];refine zu1 dU f1 f2 f3 (.mk k n ks) ht c _ _ ?_;rw[hf];simp[zcC];refine jb _ _ ?_;simp[zeQ];unfold zlN;refine ALoop.own 11 zcL 1 rfl ?_;refine ALoop.own 12 zcL 1 rfl ?_;have i7:(H++[AB.cells [AV.int IntKind.i64 k,AV.int IntKind.i64 n,AV.sl (VT.css ks) Tok.none]]).length=H.length+1:=by simp
 have jq:(H++[AB.cells [AV.int IntKind.i64 k,AV.int IntKind.i64 n,AV.sl (VT.css ks) Tok.none]]++[AB.perm zcL 1 0]).length=H.length+2:=by simp
 rw[i7,jq];show zlN (.sl [] (.own (H.length+1))) (.sl [] (.own (H.length+2))) (.sl (zbV bs) .none) (.int .i64 bs.length) (.int .i64 0) (H++[.cells [.int .i64 k,.int .i64 n,.sl (VT.css ks) .none]]++[.perm zcL 1 0]++[.perm zcL 1 0]) (Out H.length K);have et:∀ m m2,HSc (H++[.cells [.int .i64 k,.int .i64 n,.sl (VT.css ks) .none],.perm zcL 1 m,.perm zcL 1 m2]):=λm m2=>hs.append (by simp[AB.sc,AV.scA,AV.scB]);refine zMT (Inv:=λq t11 t12 t30 H'=>∃ i:Nat,i≤bs.length∧q=bs.length-i∧t30=.int .i64 i∧t11=.sl (zb0 (pos false bs i)) (.own (H.length+1))∧t12=.sl (zb0 (pos true bs i)) (.own (H.length+2)) ∧
  H'=H++[.cells [.int .i64 k,.int .i64 n,.sl (VT.css ks) .none],.perm zcL 1 (pos false bs i).length,.perm zcL 1 (pos true bs i).length]) bs.length ?_ ?_
 ·intro _;exact⟨0,by omega,by omega,rfl,by simp[pos,zb0],by simp[pos,zb0],by simp[pos]⟩
 ·rintro q t11 t12 t30 H' ⟨i,hi,rfl,rfl,rfl,rfl,rfl⟩ eA d8 eC Kb ee;by_cases d7:i<bs.length
  ·have gZ:=zqu false bs i d7;have kK:=zqu true bs i d7;have iK:=zqt false bs i;have jR:=zqt true bs i;have eP:zlM (.sl (zb0 (pos false bs (i+1))) (.own (H.length+1))) (.sl (zb0 (pos true bs (i+1))) (.own (H.length+2))) (.sl (zbV bs) .none) (.int .i64 bs.length) (.int .i64 i)
     (H++[.cells [.int .i64 k,.int .i64 n,.sl (VT.css ks) .none],.perm zcL 1 (pos false bs (i+1)).length,.perm zcL 1 (pos true bs (i+1)).length]) (Out H.length K) Kb:=by
    simp[zlM,zAy];rw[zav (by omega) (by omega)];refine ee _ _ ⟨bs.length-(i+1),by omega,Back.at (J:=[]) (H2:=H++[.cells [.int .i64 k,.int .i64 n,.sl (VT.css ks) .none],.perm zcL 1 (pos false bs (i+1)).length,.perm zcL 1 (pos true bs (i+1)).length]) (by simp) (by simp) (et _ _) ?_ ⟨_,_,_,rfl,i+1,by omega,rfl,by simp,rfl,rfl,rfl⟩⟩;simp[zlL,AV.sc,AV.scV,AV.scA,AV.scB]
   cases jX:bs[i] with
   |true=>rw[jX]at gZ kK;simp at gZ kK;rw[gZ,kK]at eP;simp[zlK,zeQ,d7,zhd,jX,zau,zaU,plain,AV.pd,zax,zaO,zaK,zh6];refine⟨⟨by omega,by omega⟩,?_⟩;simpa[zxm,zb0]using eP
   |false=>rw[jX]at gZ kK;simp at gZ kK;rw[gZ,kK]at eP;simp[zlK,zeQ,d7,zhd,jX,zau,zaU,plain,AV.pd,zax,zaO,zaK,zh6];refine⟨⟨by omega,by omega⟩,?_⟩;simpa[zxm,zb0]using eP
  ·obtain rfl:i=bs.length:=by omega
   simp[zlK];refine⟨⟨rfl,rfl,rfl⟩,?_⟩;exact Out.tup (bs:=[.sl (zb0 (pos false bs bs.length)) .none,.sl (zb0 (pos true bs bs.length)) .none,.bool true]) hs hK ⟨slV,slV,zaY rfl rfl,trivial⟩
section
open Go.RowKit
variable {P:Program} {B:Nat} {w:World} {G:Gh} {H:zaa}
theorem HRel.frz(h:HRel B w G H){id:Nat}{cs:List AV}(hH:H[id]?=some (.cells cs)):
  ∃G',Ext B w G w G'∧HRel B w G' (H.set id .dead)∧∃b,G.μ[id]?=some (.blk b)∧G'.L b=cs.length∧∃(vs:Array Value) (e:TypeId),w.heap[b]?=some (.cells vs e (0,0))∧All2 (ARel w G) vs.toList cs:=by
 have d7:id<G.μ.length:=by rw[h.len];exact(List.getElem?_eq_some_iff.1 hH).1
 obtain⟨gi,gE⟩:∃gi,G.μ[id]?=some gi:=⟨_,List.getElem?_eq_getElem d7⟩;have eh:=h.ok id _ _ hH gE;cases gi with
 |gap=>exact eh.elim
 |own v s n=>exact eh.elim
 |blk b=>
  obtain⟨hB,hL,vs,e,hw,ew⟩:=eh;have hl:vs.size=cs.length:=by simpa using ew.length
  have he:Ext B w G w ⟨λx=>if x=b then cs.length else G.L x,G.μ⟩:=
   ⟨aa _,Below.refl _ _,λx=>by by_cases hx:x=b <;> simp[hx,hL],λ_ _ _=>rfl,λ_ gi h=>⟨gi,h,gi.le_refl⟩⟩
  refine⟨_,he,⟨by simp[h.len],?_,h.dist,λx hx=>?_,h.lt,h.base⟩,b,gE,by simp,vs,e,hw,ew⟩
  ·intro id' ab gi h1 h2;by_cases d9:id'=id
   ·subst d9;rw[List.getElem?_set_self (List.getElem?_eq_some_iff.1 hH).1]at h1;cases h1;have h2:G.μ[id']?=some gi:=h2;rw[gE]at h2;cases h2;exact⟨vs,e,(0,0),hw,by simp[hl]⟩
   ·rw[List.getElem?_set_ne (λh=>d9 h.symm)]at h1;refine(h.ok id' ab gi h1 h2).keep he (λx hx=>⟨rfl,?_⟩);have:¬x=b:=λiQ=>d9 (h.dist id' id gi _ b h2 gE (by rw[hx,iQ]) rfl);simp[this]
  ·have:=h.lt id _ b gE rfl;have h3:¬ x=b:=by omega
   simp[h3,h.fresh x hx]
inductive FzA (id off len cap:Nat) (es:List (List AV)):AV→AV→Prop
 |refl (a:AV):FzA id off len cap es a a
 |ms:FzA id off len cap es (.ms id off len cap) (.sl es .none)
inductive FzT (id off len cap:Nat) (es:List (List AV)):AV→AV→Prop
 |one {a b:AV} (h:FzA id off len cap es a b):FzT id off len cap es a b
 |agg {asx bs:List AV} (h:All2 (FzA id off len cap es) asx bs):FzT id off len cap es (.agg asx) (.agg bs)
theorem FzA.rel{id off len cap size:Nat}{cs:List AV}{es:List (List AV)}(eU:off+len*size≤cs.length)(hp:plain ((cs.drop off).take (len*size))=some es.flatten)(d8:es.length=len)(ep:∀c∈es,c.length=size)(ey:len≤cap){G':Gh}(hE:Ext B w G w G'){b:Nat}(hμ:G.μ[id]?=some (.blk b))(li:G'.L b=cs.length){vs0:Array Value}{e:TypeId}(hw:w.heap[b]?=some (.cells vs0 e (0,0)))(ew:All2 (ARel w G) vs0.toList cs){v:Value}{a b':AV}(eS:FzA id off len cap es a b')(hr:ARel w G v a):ARel w G' v b':=by
 cases eS with
 |refl a=>exact hE.arel hr
 |ms=>
  obtain⟨b2,fq,rfl⟩:=hr;rw[hμ]at fq;cases fq;show DRel w G'.L _ _;subst d8;by_cases en:es=[]
  ·subst en;exact .slE _ _
  ·have hl:=ew.length;have hd:=zdx ((ew.drop off).take (es.length*size)) hp;refine DRel.of_flat_at (zs:=(vs0.toList.drop off).take (es.length*size)) ep en ey (by rw[li];exact eU) (hd.mono λ_ _=>hE.drel) ?_;intro j u hj;rw[List.getElem?_take]at hj;split at hj
   ·simp only[World.cell?,hw];simpa using hj
   ·cases hj
theorem zox{R R':Value→AV→Prop}{S:AV→AV→Prop}(h:∀v a b,S a b→R v a→R' v b){vs:List Value}{asx bs:List AV}(hr:All2 R vs asx)(hs:All2 S asx bs):All2 R' vs bs:=
 All2.of_get (hr.length.trans hs.length) λi x y hx hy=>by obtain⟨a,ha,kL⟩:=All2.get' hr hx;obtain⟨y',ic,lK⟩:=All2.get' hs ha;rw[hy]at ic;cases ic;exact h _ _ _ lK kL
theorem ACalls.frz{f:FuncId}{args args':List AV}{K:Kt}(id off len cap size:Nat)(cs:List AV)(es:List (List AV))(hH:H[id]?=some (.cells cs))(eU:off+len*size≤cs.length)(hp:plain ((cs.drop off).take (len*size))=some es.flatten)(d8:es.length=len)(ep:∀c∈es,c.length=size)(ey:len≤cap)(ha:All2 (FzT id off len cap es) args args')(h:ACalls P f args' (H.set id .dead) K):ACalls P f args H K:=by
 intro B w G vs hR hv;obtain⟨G',hE,iN,b,hμ,li,vs0,e,hw,ew⟩:=hR.frz hH;have h1:∀v a b,FzA id off len cap es a b→ARel w G v a→ARel w G' v b:=λv a b' eS hr=>FzA.rel eU hp d8 ep ey hE hμ li hw ew eS hr;have h2:∀v a b,FzT id off len cap es a b→TRel w G v a→TRel w G' v b:=by
  intro v a b' eS hr;cases eS with
  |one eS=>
   cases eS with
   |refl a=>exact hE.trel hr
   |ms=>exact TRel.of_v (VRel.of_a (h1 _ _ _ .ms hr))
  |agg eS=>obtain⟨us,hu,hr⟩:=hr;exact⟨us,hu,zox h1 hr eS⟩
 refine(h B w G' vs iN (zox h2 hv ha)).mono λe w' ⟨v,r,H',G'',k1,k2,k3,k4,k5⟩=>⟨v,r,H',G'',k1,hE.trans k2,k3,k4,k5⟩
theorem AWp.frz{c:Code}{Q:AExit→List AV→zaa→Prop}{F:List AV}(id off len cap size:Nat)(cs:List AV)(es:List (List AV))(id2:Nat)(cs2 cs2':List AV)(hH:H[id]?=some (.cells cs))(eU:off+len*size≤cs.length)(hp:plain ((cs.drop off).take (len*size))=some es.flatten)(d8:es.length=len)(ep:∀c∈es,c.length=size)(ey:len≤cap)(en:id≠id2)(gg:H[id2]?=some (.cells cs2))(ha:All2 (FzA id off len cap es) cs2 cs2')(h:AWp P c Q F ((H.set id .dead).set id2 (.cells cs2'))):AWp P c Q F H:=by
 intro B w G a hR hF hd;obtain⟨G',hE,iN,b,hμ,li,vs0,e,hw,ew⟩:=hR.frz hH;have h1:∀v a b,FzA id off len cap es a b→ARel w G v a→ARel w G' v b:=λv a b' eS hr=>FzA.rel eU hp d8 ep ey hE hμ li hw ew eS hr;have eM:id2<G.μ.length:=by rw[hR.len];exact(List.getElem?_eq_some_iff.1 gg).1
 have hH2':(H.set id .dead)[id2]?=some (.cells cs2):=by rw[List.getElem?_set_ne en];exact gg
 have ie:HRel B w G' ((H.set id .dead).set id2 (.cells cs2')):=by
  refine⟨by simp[iN.len],?_,iN.dist,iN.fresh,iN.lt,iN.base⟩;intro i ab gi k1 k2;by_cases hi:i=id2
  ·subst hi;rw[List.getElem?_set_self (List.getElem?_eq_some_iff.1 hH2').1]at k1;cases k1;have eh:=iN.ok i _ _ hH2' k2;have gE:G.μ[i]?=some gi:=by
    obtain⟨gi0,mR⟩:∃gi0,G.μ[i]?=some gi0:=⟨_,List.getElem?_eq_getElem eM⟩;have lL:=hR.ok i _ _ gg mR;obtain⟨gi1,ky,eH⟩:=hE.ids i gi0 mR;rw[k2]at ky;cases ky;cases gi0 with
    | blk x=>cases gi with
     |blk y=>obtain rfl:x=y:=eH;exact mR
     |own v s n=>exact eH.elim
     |gap=>exact eH.elim
    |own v s n=>exact lL.elim
    |gap=>exact lL.elim
   have lL:=hR.ok i _ _ gg gE;cases gi with
   |blk x=>obtain⟨k3,k4,vs,e',k5,k6⟩:=eh;obtain⟨_,_,vs1,e1,k7,k8⟩:=lL;rw[k5]at k7;cases k7;exact⟨k3,k4,vs,e',k5,zox h1 k8 ha⟩
   |own v s n=>exact eh.elim
   |gap=>exact eh.elim
  ·rw[List.getElem?_set_ne (λh=>hi h.symm)]at k1;exact iN.ok i ab gi k1 k2
 refine wp_mono (h B w G' a ie (hF.ext hE) hd) λe a' w' hp=>?_;obtain⟨F',H',G'',e',rfl,k1,k2,k3,k4,k5⟩:=hp;exact⟨F',H',G'',e',rfl,hE.trans k1,k2,k3,k4,k5⟩
end
section
open Go.RowKit
variable {P:Program} {B:Nat} {w:World} {G:Gh} {H:zaa}
inductive OutW (H:zaa) (n:Nat):AV→AV→Prop
 |one {a b:AV} (h:OutV H n a b):OutW H n a b
 | rows (id e m:Nat) (cs:List AV) (rs:List (List (List AV))) (d9:n≤id) (hH:H[id]?=some (.vec e 1 m cs)) (hm:rs.length=m)
   (eB:All2 (OutV H n) cs (rs.map λr=>.sl r .none)):OutW H n (.ov id m) (.sl (rs.map λr=>[.sl r .none]) .none)
theorem OutW.vrel(hH:HRel B w G H){n:Nat}{v:Value}{a b:AV}(h:OutW H n a b)(hr:TRel w G v a):VRel w (G.cut w n) v b:=by
 cases h with
 |one h=>exact h.vrel hH hr
 |rows id e m cs rs d9 gh hm eB=>
  obtain⟨⟨a,cap0,rfl,_⟩,v',s0,n',hμ,_,heq⟩:=hr;obtain⟨rfl,rfl,⟨xs,ed,ew⟩,_⟩:=hH.ok id _ _ gh hμ;obtain rfl:=heq rfl;subst hm;show DRel w (G.cut w n).L _ _;by_cases en:rs=[]
  ·subst en;exact .slE _ _
  ·have fJ:=ed;obtain⟨hl,eW⟩:=fJ;have hd:All2 (DRel w (G.cut w n).L) xs (rs.map λr=>AV.sl r .none):=All2.of_get (ew.length.trans eB.length) λi x y hx hy=>by
    obtain⟨a,ha,kL⟩:=All2.get' ew hx;obtain⟨y',ic,lK⟩:=All2.get' eB ha;rw[hy]at ic;cases ic;obtain⟨r,hr,rfl⟩:∃r,rs[i]?=some r∧AV.sl r .none=y:=by simpa using hy
    exact lK.vrel hH (TRel.of_v (VRel.of_a kL))
   rcases eW with ⟨h1,h2⟩|⟨g,cap,cur,h1,h2,h3,h4,h5,h6,h7⟩
   ·cases rs <;> simp_all
   ·simp at h1;obtain⟨rfl,rfl⟩:=h1;obtain⟨_,_,_,er⟩:=zdw ed;have eZ:∀l:List (List (List AV)),(l.map λr=>[AV.sl r .none]).flatten=l.map λr=>AV.sl r .none:=by
     intro l;induction l with
     |nil=>rfl
     |cons r l ih=>simp[ih]
    have:=DRel.of_flat_at (w:=w) (L:=(G.cut w n).L) (g:=g) (off:=0) (size:=1) (cap:=cap0) (es:=rs.map λr=>[AV.sl r .none]) (zs:=xs) (by simp) (by simpa using en) (by simpa using h4) ?_ (by rw[eZ rs];exact hd) ?_
    ·simpa using this
    ·have:(G.cut w n).L g=cur.size:=by simp only[Gh.cut];rw[aA (cut_dropped.2 ⟨id,_,d9,hμ,rfl⟩),h3]
     rw[this,h6];simpa using h4
    ·intro j u hj;rw[aG,er j (by rw[←hl];exact(List.getElem?_eq_some_iff.1 hj).1)];exact hj
inductive OutT2 (H:zaa) (n:Nat):AV→AV→Prop
 |one {a b:AV} (h:OutW H n a b):OutT2 H n a b
 |tup {asx bs:List AV} (h:All2 (OutW H n) asx bs):OutT2 H n (.tup asx) (.tup bs)
def zEc(n:Nat)(K:AV→zaa→Prop)(r:AV)(H':zaa):Prop:=∃r2 H2 J,H'=H2++J∧n≤H2.length∧HSc H2∧OutT2 H' H2.length r r2∧K r2 H2
theorem Out.two{n:Nat}{K:AV→zaa→Prop}{r:AV}(h:Out n K r H):zEc n K r H:=by
 obtain⟨r2,H2,J,hJ,hn,hsc,ho,hk⟩:=h;refine⟨r2,H2,J,hJ,hn,hsc,?_,hk⟩;cases ho with
 |one h=>exact .one (.one h)
 |tup h=>exact .tup (All2.of_get h.length λi x y hx hy=>by
   obtain⟨y',ic,lK⟩:=All2.get' h hx;rw[hy]at ic;cases ic;exact .one lK)
end
section
open Go.Lib
open Go.RowKit
variable {P:Program} {B:Nat} {w:World}
theorem zG8{t u ty e:TypeId}{i:TypeInfo}(ht:P.underlying t=some (.slice e))(hu:P.underlying u=some .string)(hi:P.info? e=some i)(hz:i.zero=some (.int .u8 0))(fH:i.size=1)(fh:i.bytes=1){v:Value}{n:Nat}{xs:List Value}(ed:w.ownsRow B e 1 v n xs)(s:ByteArray)(hm:0<s.size)(mn:n+s.size≤maxLen)(fQ:n+s.size≤140737488355328)(ik:B≤w.heap.size):
  ∃ v' w',(Builtin.append_ #[t,u] ty #[v,.string s]).run P w=.ok v' w'∧w'.ownsRow B e 1 v' (n+s.size) (xs++strCells s) ∧
   ((∃g,v.ownBlock=some g∧v'.ownBlock=some g∧GrB w w' (some g))∨(v'.ownBlock=some w.heap.size∧GrB w w' none)):=by
 have fN:xs.length=n:=by simpa using ed.1
 have d8:(xs++strCells s).length=(n+s.size)*1:=by rw[az,fN,strCells_length,bv]
 have grown:∀ (old:Nat),old<n+s.size →
   (w.drew.alloc (.cells (xs.toArray++(strCells s).toArray++Builtin.zeroCells (Value.int .u8 0).cells (grownCap w (n+s.size) old e-(n+s.size))) e)).ownsRow B e 1
    (.slice (some ⟨w.heap.size,0,none⟩) (n+s.size) (grownCap w (n+s.size) old e)) (n+s.size) (xs++strCells s) ∧
   GrB w (w.drew.alloc (.cells (xs.toArray++(strCells s).toArray++Builtin.zeroCells (Value.int .u8 0).cells (grownCap w (n+s.size) old e-(n+s.size))) e)) none:=by
  intro old ho;have iT:=grownCap_ge w (n+s.size) old e;have fg:grownCap w (n+s.size) old e≤maxLen:=grownCap_le_maxLen w (n+s.size) old e mn;refine⟨⟨d8,.inr ⟨w.heap.size,_,_,rfl,ik,zdq (w:=w.drew) _,iT,fg,?_,?_⟩⟩,⟨zoT w _,rfl,rfl,rfl,by simp,λk hk _=>zcI (w:=w.drew) hk⟩⟩
  ·have hz1:(Value.int IntKind.u8 0).cells.size=1:=rfl;simp only[cv,bR,size_zeroCells,hz1,fN,strCells_length];omega
  ·simp only[de,aw];rw[←aw,←d8];exact cy
 rcases ed.2 with ⟨rfl,rfl⟩|⟨g,cap,cur,rfl,gA,hg,mj,fg,ew,fb⟩
 ·have hx:xs=[]:=aB fN;subst hx;have hr:=run_append_nil_string (P:=P) w t u ty e i (.int .u8 0) ht hu hi hz s hm (by omega) (by rw[fh];omega);have fk:=grown 0 (by omega);simp only[aG,List.nil_append,cM]at fk ⊢;have e1:(s.data.map λb=>Value.int .u8 b.toNat)=(strCells s).toArray:=by apply Array.ext';simp[strCells]
  rw[e1]at hr;exact⟨_,_,hr,fk.1,.inr ⟨rfl,fk.2⟩⟩
 ·by_cases gM:n+s.size≤cap
  ·have hcs':cur.size=cap:=by simpa using ew
   have hr:=run_append_room_string (P:=P) w t u ty e i ht hu hi fH g n cap cur hg s gM (by omega);refine⟨_,_,hr,⟨d8,.inr ⟨g,cap,_,rfl,gA,setRow_heap w g cur _ e _ hg,gM,fg,?_,?_⟩⟩,.inl ⟨g,rfl,rfl,⟨aa _,rfl,rfl,rfl,by simp,λk _ hk=>setRow_other w g k _ (λe=>hk (by simp[e]))⟩⟩⟩
   ·simp only[bR,az,aW,cX,Array.length_toList,strCells_length];omega
   ·have ht':cur.toList.take n=xs:=by simpa using fb
    rw[ht',←d8];exact cy
  ·have holds:∀j u,xs[j]?=some u→w.cell? ((⟨g,0,none⟩:Addr).add j)=some u:=ed.cells (g:=g) rfl;have hr:=run_append_grow_string (P:=P) w t u ty e i (.int .u8 0) ht hu hi hz ⟨g,0,none⟩ n cap xs (by rw[fH];simpa using fN) holds s (by omega) (by omega) (by rw[fh];exact growslice_fits (by omega) (by omega));have fk:=grown cap (by omega);exact⟨_,_,hr,fk.1,.inr ⟨rfl,fk.2⟩⟩
theorem zG9{t u ty e:TypeId}{i:TypeInfo}(ht:P.underlying t=some (.slice e))(hu:P.underlying u=some .string)(hi:P.info? e=some i)(fH:i.size=1){v:Value}{n:Nat}{xs:List Value}(ed:w.ownsRow B e 1 v n xs)(s:ByteArray)(hm:s.size=0):(Builtin.append_ #[t,u] ty #[v,.string s]).run P w=.ok v w:=by
 have hn:strCells s=[]:=aB (by rw[strCells_length];exact hm);have hf:=run_firstCells_string (P:=P) w 1 s;rw[hm,hn]at hf;have eD:∀x,(storeCells x [] 0).run P w=.ok () w:=λx=>rfl;rcases ed.2 with ⟨rfl,rfl⟩|⟨g,cap,cur,rfl,gA,hg,mj,fg,ew,fb⟩
 ·simp[Builtin.append_,run_underlying ht,run_underlying hu,sizeOf,typeInfo,hi,fH,Builtin.lenOf,hm,hf]
 ·simp[Builtin.append_,run_underlying ht,run_underlying hu,sizeOf,typeInfo,hi,fH,Builtin.lenOf,hm,hf,mj,eD]
theorem wpList_append_str{d6:Array Oper}{rest:List Oper}{o:Oper}{a:Act}{Q:Exit→Act→World→Prop}(mS:o.guard=none)(sl x:Operand)(t u:TypeId)(ho:o.op=.call { callee:=.builtin .append,args:=#[sl,x],argTypes:=#[t,u] }){v v':Value}{w':World}{s:ByteArray}(hs:a.eval sl=v)(hx:a.eval x=.string s)(hr:∀ty,(Builtin.append_ #[t,u] ty #[v,.string s]).run P w=.ok v' w')(h:wpList P d6 Q rest (a.put o.dst v') w'):wpList P d6 Q (o::rest) a w:=by
 refine wpList_plain mS λK hK=>?_;unfold Oper.wp execOp;simp only[ho,resolve,invoke,builtin,Sem.run_bind,Sem.run_pure,Result.andThen_ok,ci,aD,bJ,hs,hx,hr];exact hK _ _ h
end
end Go.Proofs.YtdmamdnkcefmmaaGreatDoor
