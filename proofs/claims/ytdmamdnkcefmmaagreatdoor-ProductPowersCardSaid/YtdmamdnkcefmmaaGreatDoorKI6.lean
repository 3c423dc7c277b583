import Derived.Test.YtdmamdnkcefmmaaGreatDoorKNum
import Derived.Test.YtdmamdnkcefmmaaGreatDoorProg
import Derived.KernelRfl
import Derived.Test.YtdmamdnkcefmmaaGreatDoorKV1
import Derived.Test.YtdmamdnkcefmmaaGreatDoorKI2
import Derived.Test.YtdmamdnkcefmmaaGreatDoorKN4
set_option linter.unusedSimpArgs false
set_option linter.unusedVariables false
set_option maxRecDepth 100000
namespace Go.Proofs.YtdmamdnkcefmmaaGreatDoor
section
variable (t0 t1 t3 t4 t5 t6 t8 t15 t16 t17 t18 t19 t20 t21 t31 t32 t33 t38 t39 t40 t45 t46 t47 t48:AV) (H:zaa) (K:Kt) (Kb5 Kb6 Kb11:Lt)
def zNJ(_:Nat):List Bool:=[]
noncomputable def zNK:=Tryz.f122.body.getD .skip
def zCq:=zav t0 H λt1 H=>zaf 0 t1 λt3=>zae false 1 t3 H λt4=>ACalls tP zrq [t4] H λt5 H=>zad t5 true H (λK'=>zae true 4 t1 H (K' · H)) λt7 H=>zad t5 true H (λK'=>ACalls tP zrr [t7] H K') λt8 H=>zam t5 t8 (.bool false) λt9=>zad t9 true H (λK'=>zae true 4 t1 H (K' · H)) λt11 H=>zad t9 true H (λK'=>ACalls tP zrs [t11] H K') λt12 H=>zam t9 t12 (.bool false) λt13=>zad t13 true H (λK'=>zae true 4 t1 H (K' · H)) λt15 H=>zad t13 true H (λK'=>ACalls tP zrt [t15] H K') λt16 H=>zam t13 t16 (.bool false) λt17=>zad t17 true H (λK'=>zae true 4 t1 H (K' · H)) λt19 H=>zad t17 true H (λK'=>ACalls tP zru [t19] H K') λt20 H=>zam t17 t20 (.bool false) λt21=>zad t21 true H (λK'=>zae true 4 t1 H (K' · H)) λt23 H=>zad t21 true H (λK'=>ACalls tP zrv [t23] H K') λt24 H=>zam t21 t24 (.bool false) λt25=>zad t25 true H (λK'=>zae true 4 t1 H (K' · H)) λt27 H=>zad t25 true H (λK'=>ACalls tP zrw [t27] H K') λt28 H=>zam t25 t28 (.bool false) λt29=>K t29 H
def zQx(_:Nat):List Bool:=[]
noncomputable def zQy:=Tryz.f160.body.getD .skip
def zDb:=zav t0 H λt1 H=>zaf 2 t1 λt3=>zae false 1 t3 H λt4=>zah 1 t4 λt5=>zac .leq false t5 (.int .i64 3000) λt6=>zad t6 true H (λK'=>zaf 2 t1 (K' · H)) λt8 H=>zad t6 true H (λK'=>zae false 1 t8 H (K' · H)) λt9 H=>zad t6 true H (λK'=>zcN zzA [t1] (K' · H)) λt10 H=>zad t6 true H (λK'=>ACalls tP zfR [t9,t10] H K') λt11 H=>zad t6 true H (λK'=>aUn .not t11 (K' · H)) λt12 H=>zam t6 t12 (.bool false) λt13=>K t13 H
def zm6:Nat→List Bool|6=>rl false [1,1,1,2,14,3,59]|_=>[]
noncomputable def zuf:=Tryz.f161.body.getD .skip
noncomputable def zQF:=Tryz.f161.results.toList
def zug:=ux 1 (t1::ux 1 (t3::t4::ux 14 (t19::t20::t21::ux 59 [])))
def zQD:=zm6 6
noncomputable def zQB:=zar [1,1,1,1,0,1,0,0] zuf
def zQA:=zas tP zm6 [1,1,1,1,0,1,0] zuf (zaB tP zQF K)
def zDf:=ALoop tP zQB (zQA K) (zug t1 t3 t4 t19 t20 t21) H
def zDe:=zaf 0 t6 λt42=>zae false 1 t42 H λt43=>zc9 t3 t43 (.bool true) H λH=>zaf 1 t6 λt44=>zae false 1 t44 H λt45=>zah 1 t45 λt46=>zac .gtr false t46 (.int .i64 6) λt47=>zad t47 false H (λK'=>zaf 0 t1 (K' · H)) λt49 H=>zad t47 false H (λK'=>zae false 1 t49 H (K' · H)) λt50 H=>zad t47 false H (λK'=>zaf 3 t6 (K' · H)) λt51 H=>zad t47 false H (λK'=>zae true 3 t51 H (K' · H)) λt52 H=>zad t47 false H (λK'=>ACalls tP zib [t50,t52,(.int .i64 0)] H K') λt53 H=>zad t47 false H (λK'=>aUn .not t53 (K' · H)) λt54 H=>zam t47 (.bool true) t54 λt55=>zag t55 (K (.bool false) H) (apu H (zaf 6 t6) λt56=>apu H (zaj false 1 t56 H) λt57=>apu H (zac .lss false t57 (.int .i64 0)) λt58=>apm H t58 λt59=>zad t59 false H (λK'=>zab H (λK''=>zaf 6 t6 (K'' · H)) (K' · H)) λt60 H=>zad t59 false H (λK'=>zab H (λK''=>zaj false 1 t60 H (K'' · H)) (K' · H)) λt61 H=>zad t59 false H (λK'=>zab H (λK''=>zaf 3 t1 (K'' · H)) (K' · H)) λt62 H=>zad t59 false H (λK'=>zab H (λK''=>zaj false 1 t62 H (K'' · H)) (K' · H)) λt63 H=>zad t59 false H (λK'=>zab H (λK''=>zah 1 t63 (K'' · H)) (K' · H)) λt64 H=>zad t59 false H (λK'=>zab H (λK''=>zac .geq false t61 t64 (K'' · H)) (K' · H)) λt65 H=>apu H (zam t59 (.bool true) t65) λt66=>apm H t66 λt67=>zad t67 false H (λK'=>zab H (λK''=>zaf 3 t1 (K'' · H)) (K' · H)) λt68 H=>zad t67 false H (λK'=>zab H (λK''=>zaj false 1 t68 H (K'' · H)) (K' · H)) λt69 H=>zad t67 false H (λK'=>zab H (λK''=>zaf 6 t6 (K'' · H)) (K' · H)) λt70 H=>zad t67 false H (λK'=>zab H (λK''=>zaj false 1 t70 H (K'' · H)) (K' · H)) λt71 H=>zad t67 false H (λK'=>zab H (λK''=>zak 8 t69 t71 (K'' · H)) (K' · H)) λt72 H=>zad t67 false H (λK'=>zab H (λK''=>zaf 5 t72 (K'' · H)) (K' · H)) λt73 H=>zad t67 false H (λK'=>zab H (λK''=>zaj true 3 t73 H (K'' · H)) (K' · H)) λt74 H=>zad t67 false H (λK'=>zab H (λK''=>zaf 3 t6 (K'' · H)) (K' · H)) λt75 H=>zad t67 false H (λK'=>zab H (λK''=>zaj true 3 t75 H (K'' · H)) (K' · H)) λt76 H=>zad t67 false H (λK'=>zaC H (λH K''=>ACalls tP zJi [t74,t76] H K'') (K' · H)) λt77 H=>zad t67 false H (λK'=>zab H (λK''=>aUn .not t77 (K'' · H)) (K' · H)) λt78 H=>apu H (zam t67 (.bool true) t78) λt79=>zag t79 (K (.bool false) H) (zac .add false t21 (.int .i64 1) λt80=>Kb6 (zug t1 t3 t4 t19 t20 t80) H))
def zDd:=zac .lss false t21 t20 λt22=>zag t22 (zak 7 t19 t21 λt23=>zae true 7 t23 H λt24=>zaz [(.str []),.snil,.snil,(.int .i64 0),(.int .i64 0),.snil,(.int .i64 0)] H λt6 H=>zan 7 t6 t24 H λH=>zaf 0 t6 λt25=>zae false 1 t25 H λt26=>zac .eql false t26 (.str []) λt27=>zag t27 (zDe t1 t3 (.bool true) t6 t19 t20 t21 H K Kb6) (zad t4 false H (λK'=>K' t3 H) λt30 H=>zad t4 false H (λK'=>zaf 0 t6 (K' · H)) λt31 H=>zad t4 false H (λK'=>zae false 1 t31 H (K' · H)) λt32 H=>zad t4 false H (λK'=>zdU (.bool false) false t30 t32 H (K' · H)) λt33 H=>zam t4 (.bool true) t33 λt34=>zad t34 false H (λK'=>zaf 2 t6 (K' · H)) λt36 H=>zad t34 false H (λK'=>zae false 1 t36 H (K' · H)) λt37 H=>zad t34 false H (λK'=>zah 1 t37 (K' · H)) λt38 H=>zad t34 false H (λK'=>zac .gtr false t38 (.int .i64 0) (K' · H)) λt39 H=>zam t34 (.bool true) t39 λt40=>zag t40 (K (.bool false) H) (zDe t1 t3 t4 t6 t19 t20 t21 H K Kb6))) (K (.bool true) H)
def zDc:=zav t0 H λt1 H=>zaf 1 t1 λt7=>zae false 1 t7 H λt8=>zah 1 t8 λt9=>zac .gtr false t9 (.int .i64 64) λt10=>zad t10 false H (λK'=>zaf 3 t1 (K' · H)) λt12 H=>zad t10 false H (λK'=>zae false 1 t12 H (K' · H)) λt13 H=>zad t10 false H (λK'=>zah 1 t13 (K' · H)) λt14 H=>zad t10 false H (λK'=>zac .gtr false t14 (.int .i64 3000) (K' · H)) λt15 H=>zam t10 (.bool true) t15 λt16=>zag t16 (K (.bool false) H) (zec H λt17 H=>zaf 1 t1 λt18=>zae false 1 t18 H λt19=>zah 1 t19 λt20=>zDf t1 t17 (.bool false) t19 t20 (.int .i64 0) H K)
def zfv:Nat→List Bool|5=>rl false [1,1,2,2,12,3,54]|11=>rl false [1,1,2,2,25,3,41]|16=>rl false [1,1,2,2,2,1,22,3,12,3,26]|_=>[]
noncomputable def zi2:=Tryz.f162.body.getD .skip
noncomputable def zDo:=Tryz.f162.results.toList
def zui:=ux 1 (t1::ux 2 (t4::t5::ux 12 (t18::t19::t20::ux 54 [])))
def zQO:=zfv 5
noncomputable def zQJ:=zar [1,1,1,1,0,1,0,0] zi2
def zQH:=zas tP zfv [1,1,1,1,0,1,0] zi2 (zaB tP zDo K)
def zDm:=ALoop tP zQJ (zQH K) (zui t1 t4 t5 t18 t19 t20) H
def zDk:=ux 1 (t1::ux 2 (t4::t5::ux 25 (t31::t32::t33::ux 41 [])))
def zDn:=zfv 11
noncomputable def zuh:=zar [1,1,1,1,1,0,1,0,0] zi2
def zDh:=zas tP zfv [1,1,1,1,1,0,1,0] zi2 (zaB tP zDo K)
def zDl:=ALoop tP zuh (zDh K) (zDk t1 t4 t5 t31 t32 t33) H
def zQK:=ux 1 (t1::ux 2 (t4::t5::ux 2 (t8::ux 22 (t31::t32::t33::ux 12 (t46::t47::t48::ux 26 [])))))
noncomputable def zQI:=zar [1,1,0,0,1,1,1,0,0] zuh
def zQG:=zas tP zfv [1,1,0,0,1,1,1,0] zuh (zbC zDn Kb11 (zDh K))
def zQL:=ALoop tP zQI (zQG K Kb11) (zQK t1 t4 t5 t8 t31 t32 t33 t46 t47 t48) H
def zDi:=zac .lss false t33 t32 λt34=>zag t34 (zak 8 t31 t33 λt36=>zae true 8 t36 H λt37=>zaz [(.int .i64 0),(.int .i64 0),.snil,.snil,.snil,(.int .i64 0),(.int .i64 0),.snil] H λt9 H=>zan 8 t9 t37 H λH=>zaf 3 t9 λt38=>zae false 1 t38 H λt39=>zah 1 t39 λt40=>zaf 4 t9 λt41=>zae false 1 t41 H λt42=>zah 1 t42 λt43=>zac .neq false t40 t43 λt44=>zag t44 (K (.bool false) H) (zaf 4 t9 λt45=>zae false 1 t45 H λt46=>zah 1 t46 λt47=>zQL t1 t4 t5 t33 t31 t32 t33 t46 t47 (.int .i64 0) H K Kb11)) (zae false 1 t4 H λt70=>zaf 3 t1 λt71=>zae false 1 t71 H λt72=>zah 1 t72 λt73=>zac .eql false t70 t73 λt74=>K t74 H)
def zDj:=zac .lss false t20 t19 λt21=>zag t21 (zak 7 t18 t20 λt22=>zae true 7 t22 H λt23=>zaz [(.str []),.snil,.snil,(.int .i64 0),(.int .i64 0),.snil,(.int .i64 0)] H λt7 H=>zan 7 t7 t23 H λH=>zaf 6 t7 λt25=>zae false 1 t25 H λt26=>aCallV tP t5 [t26] H λt27 H=>aUn .not t27 λt28=>zag t28 (K (.bool false) H) (zac .add false t20 (.int .i64 1) λt29=>Kb5 (zui t1 t4 t5 t18 t19 t29) H)) (zaf 3 t1 λt30=>zae false 1 t30 H λt31=>zah 1 t31 λt32=>zDl t1 t4 t5 t31 t32 (.int .i64 0) H K)
def zDg:=zav t0 H λt1 H=>zaf 3 t1 λt12=>zae false 1 t12 H λt13=>zah 1 t13 λt14=>zbp 1 [(.bool false)] t14 t14 H λt15 H=>zaz [.snil] H λt3 H=>zan 1 t3 t15 H λH=>zaz [(.int .i64 0)] H λt4 H=>zan 1 t4 (.int .i64 0) H λH=>zcN zJj [t3,t4] λt16=>zaf 1 t1 λt17=>zae false 1 t17 H λt18=>zah 1 t18 λt19=>zDm t1 t4 t16 t18 t19 (.int .i64 0) H K
def zfw:Nat→List Bool|5=>rl false [1,1,2,2,12,3,41]|11=>rl false [1,1,2,2,32,3,21]|14=>rl false [1,1,2,2,32,3,4,3,14]|_=>[]
noncomputable def zi3:=Tryz.f163.body.getD .skip
noncomputable def zDx:=Tryz.f163.results.toList
def zuk:=ux 1 (t1::ux 2 (t4::t5::ux 12 (t18::t19::t20::ux 41 [])))
def zQY:=zfw 5
noncomputable def zQT:=zar [1,1,1,1,0,1,0,0] zi3
def zQR:=zas tP zfw [1,1,1,1,0,1,0] zi3 (zaB tP zDx K)
def zDv:=ALoop tP zQT (zQR K) (zuk t1 t4 t5 t18 t19 t20) H
def zDt:=ux 1 (t1::ux 2 (t4::t5::ux 32 (t38::t39::t40::ux 21 [])))
def zDw:=zfw 11
noncomputable def zuj:=zar [1,1,1,1,1,0,1,0,0] zi3
def zDq:=zas tP zfw [1,1,1,1,1,0,1,0] zi3 (zaB tP zDx K)
def zDu:=ALoop tP zuj (zDq K) (zDt t1 t4 t5 t38 t39 t40) H
def zQU:=ux 1 (t1::ux 2 (t4::t5::ux 32 (t38::t39::t40::ux 4 (t45::t46::t47::ux 14 []))))
noncomputable def zQS:=zar [1,1,0,0,1,1,0,0] zuj
def zQQ:=zas tP zfw [1,1,0,0,1,1,0] zuj (zbC zDw Kb11 (zDq K))
def zQV:=ALoop tP zQS (zQQ K Kb11) (zQU t1 t4 t5 t38 t39 t40 t45 t46 t47) H
def zDr:=zac .lss false t40 t39 λt41=>zag t41 (zak 8 t38 t40 λt42=>zae true 8 t42 H λt43=>zaz [(.int .i64 0),(.int .i64 0),.snil,.snil,.snil,(.int .i64 0),(.int .i64 0),.snil] H λt9 H=>zan 8 t9 t43 H λH=>zaf 3 t9 λt44=>zae false 1 t44 H λt45=>zah 1 t45 λt46=>zQV t1 t4 t5 t38 t39 t40 t45 t46 (.int .i64 0) H K Kb11) (zae false 1 t4 H λt57=>zaf 2 t1 λt58=>zae false 1 t58 H λt59=>zah 1 t59 λt60=>zac .eql false t57 t60 λt61=>K t61 H)
def zDs:=zac .lss false t20 t19 λt21=>zag t21 (zak 7 t18 t20 λt22=>zae true 7 t22 H λt23=>zaz [(.str []),.snil,.snil,(.int .i64 0),(.int .i64 0),.snil,(.int .i64 0)] H λt7 H=>zan 7 t7 t23 H λH=>zaf 1 t7 λt25=>zae false 1 t25 H λt26=>aCallV tP t5 [t26] H λt27 H=>aUn .not t27 λt28=>zad t28 false H (λK'=>K' t5 H) λt30 H=>zad t28 false H (λK'=>zaf 2 t7 (K' · H)) λt31 H=>zad t28 false H (λK'=>zae false 1 t31 H (K' · H)) λt32 H=>zad t28 false H (λK'=>aCallV tP t30 [t32] H K') λt33 H=>zad t28 false H (λK'=>aUn .not t33 (K' · H)) λt34 H=>zam t28 (.bool true) t34 λt35=>zag t35 (K (.bool false) H) (zac .add false t20 (.int .i64 1) λt36=>Kb5 (zuk t1 t4 t5 t18 t19 t36) H)) (zaf 3 t1 λt37=>zae false 1 t37 H λt38=>zah 1 t38 λt39=>zDu t1 t4 t5 t38 t39 (.int .i64 0) H K)
def zDp:=zav t0 H λt1 H=>zaf 2 t1 λt12=>zae false 1 t12 H λt13=>zah 1 t13 λt14=>zbp 1 [(.bool false)] t14 t14 H λt15 H=>zaz [.snil] H λt3 H=>zan 1 t3 t15 H λH=>zaz [(.int .i64 0)] H λt4 H=>zan 1 t4 (.int .i64 0) H λH=>zcN zJk [t3,t4] λt16=>zaf 1 t1 λt17=>zae false 1 t17 H λt18=>zah 1 t18 λt19=>zDv t1 t4 t16 t18 t19 (.int .i64 0) H K
def zm7:Nat→List Bool|6=>rl false [4,2,9,3,25]|_=>[]
noncomputable def zul:=Tryz.f164.body.getD .skip
noncomputable def zQ5:=Tryz.f164.results.toList
def zum:=ux 4 (t4::t5::ux 9 (t15::t16::t17::ux 25 []))
def zQ3:=zm7 6
noncomputable def zQ1:=zar [1,1,1,1,1,0,1,0,0] zul
def zQ0:=zas tP zm7 [1,1,1,1,1,0,1,0] zul (zaB tP zQ5 K)
def zDA:=ALoop tP zQ1 (zQ0 K) (zum t4 t5 t15 t16 t17) H
def zDz:=zac .lss false t17 t16 λt18=>zag t18 (zak 7 t15 t17 λt19=>zae true 7 t19 H λt20=>zaz [(.str []),.snil,.snil,(.int .i64 0),(.int .i64 0),.snil,(.int .i64 0)] H λt7 H=>zan 7 t7 t20 H λH=>zae false 1 t4 H λt21=>zaf 1 t7 λt22=>zae false 1 t22 H λt23=>aCallV tP t21 [t23,(.bool true)] H λt24 H=>zae false 1 t4 H λt25=>zaf 2 t7 λt26=>zae false 1 t26 H λt27=>aCallV tP t25 [t27,(.bool true)] H λt28 H=>zae false 1 t5 H λt29=>zaf 6 t7 λt30=>zae false 1 t30 H λt31=>aCallV tP t29 [t31] H λt32 H=>aUn .not t32 λt33=>zag t33 (K (.bool false) H) (zae false 1 t4 H λt34=>zaf 1 t7 λt35=>zae false 1 t35 H λt36=>aCallV tP t34 [t36,(.bool false)] H λt37 H=>zae false 1 t4 H λt38=>zaf 2 t7 λt39=>zae false 1 t39 H λt40=>aCallV tP t38 [t40,(.bool false)] H λt41 H=>zac .add false t17 (.int .i64 1) λt42=>Kb6 (zum t4 t5 t15 t16 t42) H)) (K (.bool true) H)
def zDy:=zav t0 H λt1 H=>zaf 2 t1 λt8=>zae false 1 t8 H λt9=>zah 1 t9 λt10=>zbp 1 [(.bool false)] t10 t10 H λt11 H=>zaz [.snil] H λt3 H=>zan 1 t3 t11 H λH=>zcN zJl [t3] λt12=>zaz [.nilfn] H λt4 H=>zan 1 t4 t12 H λH=>zaz [.nilfn] H λt5 H=>zcN zJm [t1,t3,t4,t5] λt13=>zan 1 t5 t13 H λH=>zaf 1 t1 λt14=>zae false 1 t14 H λt15=>zah 1 t15 λt16=>zDA t4 t5 t15 t16 (.int .i64 0) H K
variable {t0 t1 t3 t4 t5 t6 t8 t15 t16 t17 t18 t19 t20 t21 t31 t32 t33 t38 t39 t40 t45 t46 t47 t48} {H} {K} {Kb5 Kb6 Kb11}
theorem zNM(h:HSc H→zCq t0 H K):ACalls tP zq7 [t0] H K:=
 acb zNJ Tryz.func122 zNK h
theorem zQz(h:HSc H→zDb t0 H K):ACalls tP zrr [t0] H K:=
 acb zQx Tryz.func160 zQy h
theorem zQC:Lo2 (λt4 t21=>zug t1 t3 t4 t19 t20 t21) (λt4 t21 H Kb6=>zDd t1 t3 t4 t19 t20 t21 H K Kb6) t4 t21 H (zDf t1 t3 t4 t19 t20 t21 H K):=lq2 zm6 zQD
theorem zQE(h:HSc H→zDc t0 H K):ACalls tP zrs [t0] H K:=
 acb zm6 Tryz.func161 zuf h
theorem zQM:Lo1 (λt33=>zDk t1 t4 t5 t31 t32 t33) (λt33 H Kb11=>zDi t1 t4 t5 t31 t32 t33 H K Kb11) t33 H (zDl t1 t4 t5 t31 t32 t33 H K):=lq1 zfv zDn
theorem zQN:Lo1 (λt20=>zui t1 t4 t5 t18 t19 t20) (λt20 H Kb5=>zDj t1 t4 t5 t18 t19 t20 H K Kb5) t20 H (zDm t1 t4 t5 t18 t19 t20 H K):=lq1 zfv zQO
theorem zQP(h:HSc H→zDg t0 H K):ACalls tP zrt [t0] H K:=
 acb zfv Tryz.func162 zi2 h
theorem zQW:Lo1 (λt40=>zDt t1 t4 t5 t38 t39 t40) (λt40 H Kb11=>zDr t1 t4 t5 t38 t39 t40 H K Kb11) t40 H (zDu t1 t4 t5 t38 t39 t40 H K):=lq1 zfw zDw
theorem zQX:Lo1 (λt20=>zuk t1 t4 t5 t18 t19 t20) (λt20 H Kb5=>zDs t1 t4 t5 t18 t19 t20 H K Kb5) t20 H (zDv t1 t4 t5 t18 t19 t20 H K):=lq1 zfw zQY
theorem zQZ(h:HSc H→zDp t0 H K):ACalls tP zru [t0] H K:=
 acb zfw Tryz.func163 zi3 h
theorem zQ2:Lo1 (λt17=>zum t4 t5 t15 t16 t17) (λt17 H Kb6=>zDz t4 t5 t15 t16 t17 H K Kb6) t17 H (zDA t4 t5 t15 t16 t17 H K):=lq1 zm7 zQ3
theorem zQ4(h:HSc H→zDy t0 H K):ACalls tP zrv [t0] H K:=
 acb zm7 Tryz.func164 zul h
end
section
variable (t0 t1 t3 t16 t17 t18 t28 t29 t30:AV) (H:zaa) (K:Kt) (Kb3 Kb9:Lt)
def zge:Nat→List Bool|3=>rl false [1,1,1,1,12,3,30]|9=>rl false [3,1,24,3,18]|_=>[]
noncomputable def zi4:=Tryz.f165.body.getD .skip
noncomputable def zDG:=Tryz.f165.results.toList
def zun:=ux 1 (t1::ux 1 (t3::ux 12 (t16::t17::t18::ux 30 [])))
def zRc:=zge 3
noncomputable def zQ8:=zar [1,1,0,1,0,0] zi4
def zQ6:=zas tP zge [1,1,0,1,0] zi4 (zaB tP zDG K)
def zDE:=ALoop tP zQ8 (zQ6 K) (zun t1 t3 t16 t17 t18) H
def zuo:=ux 3 (t3::ux 24 (t28::t29::t30::ux 18 []))
def zRd:=zge 9
noncomputable def zQ9:=zar [1,1,1,0,1,0,0] zi4
def zQ7:=zas tP zge [1,1,1,0,1,0] zi4 (zaB tP zDG K)
def zDF:=ALoop tP zQ9 (zQ7 K) (zuo t3 t28 t29 t30) H
def zDD:=zac .lss false t30 t29 λt31=>zag t31 (zak 7 t28 t30 λt33=>zae true 7 t33 H λt34=>zaz [(.str []),.snil,.snil,(.int .i64 0),(.int .i64 0),.snil,(.int .i64 0)] H λt7 H=>zan 7 t7 t34 H λH=>zaf 0 t7 λt35=>zae false 1 t35 H λt36=>zac .eql false t36 (.str []) λt37=>zad t37 true H (λK'=>K' t3 H) λt39 H=>zad t37 true H (λK'=>zbf t39 (K' · H)) λt40 H=>zad t37 true H (λK'=>zaf 4 t40 (K' · H)) λt41 H=>zad t37 true H (λK'=>zae false 1 t41 H (K' · H)) λt42 H=>zad t37 true H (λK'=>K' t30 H) λt43 H=>zad t37 true H (λK'=>zak 1 t42 t43 (K' · H)) λt44 H=>zad t37 true H (λK'=>zae false 1 t44 H (K' · H)) λt45 H=>zad t37 true H (λK'=>zac .neq false t45 (.int .i64 1) (K' · H)) λt46 H=>zam t37 t46 (.bool false) λt47=>zag t47 (K (.bool false) H) (zac .add false t30 (.int .i64 1) λt48=>Kb9 (zuo t3 t28 t29 t48) H)) (K (.bool true) H)
def zDC:=zac .lss false t18 t17 λt19=>zag t19 (zak 8 t16 t18 λt20=>zae true 8 t20 H λt21=>zaz [(.int .i64 0),(.int .i64 0),.snil,.snil,.snil,(.int .i64 0),(.int .i64 0),.snil] H λt5 H=>zan 8 t5 t21 H λH=>zae true 8 t5 H λt23=>ACalls tP zJn [t3,t23] H λt24 H=>aUn .not t24 λt25=>zag t25 (K (.bool false) H) (zac .add false t18 (.int .i64 1) λt26=>Kb3 (zun t1 t3 t16 t17 t26) H)) (zaf 1 t1 λt27=>zae false 1 t27 H λt28=>zah 1 t28 λt29=>zDF t3 t28 t29 (.int .i64 0) H K)
def zDB:=zav t0 H λt1 H=>apu H (zaj true 4 t1 H) λt8=>apu H (zaf 1 t1) λt9=>apu H (zaj false 1 t9 H) λt10=>apu H (zah 1 t10) λt11=>zbp 8 [(.int .i64 0)] t11 t11 H λt12 H=>apu H (zaq [.snil,.snil,.snil,.snil,.snil] [(0,4),(4,1)] [(0,t8),(1,t12)]) λt13=>zav t13 H λt14 H=>apm H t14 λt3=>zaf 3 t1 λt15=>zae false 1 t15 H λt16=>zah 1 t16 λt17=>zDE t1 t3 t16 t17 (.int .i64 0) H K
variable {t0 t1 t3 t16 t17 t18 t28 t29 t30} {H} {K} {Kb3 Kb9}
theorem zRb:Lo1 (λt30=>zuo t3 t28 t29 t30) (λt30 H Kb9=>zDD t3 t28 t29 t30 H K Kb9) t30 H (zDF t3 t28 t29 t30 H K):=lq1 zge zRd
theorem zRa:Lo1 (λt18=>zun t1 t3 t16 t17 t18) (λt18 H Kb3=>zDC t1 t3 t16 t17 t18 H K Kb3) t18 H (zDE t1 t3 t16 t17 t18 H K):=lq1 zge zRc
theorem zRe(h:HSc H→zDB t0 H K):ACalls tP zrw [t0] H K:=
 acb zge Tryz.func165 zi4 h
end
section
variable (t0 t1 t2 t4 t5 t7 t10 t117:AV) (H:zaa) (K:Kt) (Kb4 Kb21:Lt)
def zoO:Nat→List Bool|21=>rl false [0,1,3,2,1,1,2,1,174]|_=>[]
noncomputable def zwe:=Tryz.f51.body.getD .skip
noncomputable def zW9:=Tryz.f51.results.toList
def zoP:=t0::ux 3 (t4::t5::ux 1 (t7::ux 2 (t10::ux 174 [])))
def zW7:=zoO 21
noncomputable def zW5:=zar [1,1,0,1,0,1,1,1,1,1,1,1,1,1,1,1,0,1,0,1,0,0] zwe
def zW4:=zas tP zoO [1,1,0,1,0,1,1,1,1,1,1,1,1,1,1,1,0,1,0,1,0] zwe (zaB tP zW9 K)
def zwf:=ALoop tP zW5 (zW4 K) (zoP t0 t4 t5 t7 t10) H
def zwd:=zac .lss false t10 t7 λt153=>zag t153 (apm H t0 λt156=>apu H (zaf 2 t4) λt157=>apu H (zaj false 1 t157 H) λt158=>apm H t10 λt159=>apu H (zak 3 t158 t159) λt160=>apu H (zaj true 3 t160 H) λt161=>apu H (zaf 2 t5) λt162=>apu H (zaj false 1 t162 H) λt163=>apu H (zak 3 t163 (.int .i64 0)) λt164=>apu H (zaj true 3 t164 H) λt165=>zaC H (λH K'=>ACalls tP zkF [t156,t161,t165] H K') λt166=>apu H (aUn .not t166) λt167=>zag t167 (K (.bool false) H) (zac .add false t10 (.int .i64 1) λt155=>Kb21 (zoP t0 t4 t5 t7 t155) H)) (K (.bool true) H)
def zji:=zag t117 (zaf 0 t5 λt120=>zae false 1 t120 H λt121=>zac .eql false t121 (.int .i64 7) λt122=>zad t122 true H (λK'=>zaf 0 t4 (K' · H)) λt124 H=>zad t122 true H (λK'=>zae false 1 t124 H (K' · H)) λt125 H=>zad t122 true H (λK'=>zac .neq false t125 (.int .i64 6) (K' · H)) λt126 H=>zad t122 true H (λK'=>K' t126 H) λt127 H=>zad t127 false H (λK'=>K' t7 H) λt128 H=>zad t127 false H (λK'=>zac .gtr false t128 (.int .i64 4096) (K' · H)) λt129 H=>zad t122 true H (λK'=>zam t127 (.bool true) t129 (K' · H)) λt130 H=>zam t122 t130 (.bool false) λt131=>zad t131 false H (λK'=>zaf 0 t5 (K' · H)) λt133 H=>zad t131 false H (λK'=>zae false 1 t133 H (K' · H)) λt134 H=>zad t131 false H (λK'=>zac .eql false t134 (.int .i64 8) (K' · H)) λt135 H=>zad t131 false H (λK'=>K' t135 H) λt136 H=>zad t136 true H (λK'=>zaf 0 t4 (K' · H)) λt137 H=>zad t136 true H (λK'=>zae false 1 t137 H (K' · H)) λt138 H=>zad t136 true H (λK'=>zac .neq false t138 (.int .i64 7) (K' · H)) λt139 H=>zad t136 true H (λK'=>K' t139 H) λt140 H=>zad t140 false H (λK'=>K' t7 H) λt141 H=>zad t140 false H (λK'=>zac .neq false t141 (.int .i64 1) (K' · H)) λt142 H=>zad t136 true H (λK'=>zam t140 (.bool true) t142 (K' · H)) λt143 H=>zad t131 false H (λK'=>zam t136 t143 (.bool false) (K' · H)) λt144 H=>zam t131 (.bool true) t144 λt145=>zad t145 false H (λK'=>zaf 1 t4 (K' · H)) λt147 H=>zad t145 false H (λK'=>zae false 1 t147 H (K' · H)) λt148 H=>zad t145 false H (λK'=>zac .neq false t148 (.int .i64 0) (K' · H)) λt149 H=>zam t145 (.bool true) t149 λt150=>zag t150 (K (.bool false) H) (zwf t0 t4 t5 t7 (.int .i64 0) H K)) (zaf 0 t4 λt168=>zae false 1 t168 H λt169=>zac .eql false t169 (.int .i64 8) λt170=>zad t170 true H (λK'=>zaf 1 t4 (K' · H)) λt172 H=>zad t170 true H (λK'=>zae false 1 t172 H (K' · H)) λt173 H=>zad t170 true H (λK'=>zac .geq false t173 (.int .i64 0) (K' · H)) λt174 H=>zam t170 t174 (.bool false) λt175=>zad t175 true H (λK'=>zaf 1 t4 (K' · H)) λt177 H=>zad t175 true H (λK'=>zae false 1 t177 H (K' · H)) λt178 H=>zad t175 true H (λK'=>zac .lss false t178 (.int .i64 64) (K' · H)) λt179 H=>zam t175 t179 (.bool false) λt180=>zad t180 true H (λK'=>K' t7 H) λt182 H=>zad t180 true H (λK'=>zac .eql false t182 (.int .i64 0) (K' · H)) λt183 H=>zam t180 t183 (.bool false) λt184=>K t184 H)
def zeZ:=zav t1 H λt4 H=>zav t2 H λt5 H=>zaf 2 t4 λt11=>zae false 1 t11 H λt12=>zah 1 t12 λt13=>zaf 0 t5 λt14=>zae false 1 t14 H λt15=>zac .eql false t15 (.int .i64 3) λt17=>zag t17 (zaf 0 t4 λt18=>zae false 1 t18 H λt19=>zac .eql false t19 (.int .i64 1) λt20=>zad t20 true H (λK'=>zaf 1 t4 (K' · H)) λt22 H=>zad t20 true H (λK'=>zae false 1 t22 H (K' · H)) λt23 H=>zad t20 true H (λK'=>zac .eql false t23 (.int .i64 0) (K' · H)) λt24 H=>zam t20 t24 (.bool false) λt25=>zad t25 true H (λK'=>K' t13 H) λt27 H=>zad t25 true H (λK'=>zac .eql false t27 (.int .i64 0) (K' · H)) λt28 H=>zam t25 t28 (.bool false) λt29=>K t29 H) (zac .eql false t15 (.int .i64 2) λt31=>zag t31 (zaf 0 t4 λt32=>zae false 1 t32 H λt33=>zac .eql false t33 (.int .i64 2) λt34=>zad t34 true H (λK'=>zaf 1 t4 (K' · H)) λt36 H=>zad t34 true H (λK'=>zae false 1 t36 H (K' · H)) λt37 H=>zad t34 true H (λK'=>zac .eql false t37 (.int .i64 0) (K' · H)) λt38 H=>zad t34 true H (λK'=>K' t38 H) λt39 H=>zad t39 false H (λK'=>zaf 1 t4 (K' · H)) λt40 H=>zad t39 false H (λK'=>zae false 1 t40 H (K' · H)) λt41 H=>zad t39 false H (λK'=>zac .eql false t41 (.int .i64 1) (K' · H)) λt42 H=>zad t34 true H (λK'=>zam t39 (.bool true) t42 (K' · H)) λt43 H=>zam t34 t43 (.bool false) λt44=>zad t44 true H (λK'=>K' t13 H) λt46 H=>zad t44 true H (λK'=>zac .eql false t46 (.int .i64 0) (K' · H)) λt47 H=>zam t44 t47 (.bool false) λt48=>K t48 H) (zac .eql false t15 (.int .i64 1) λt50=>zag t50 (zaf 0 t4 λt51=>zae false 1 t51 H λt52=>zac .eql false t52 (.int .i64 3) λt53=>zad t53 true H (λK'=>zaf 1 t4 (K' · H)) λt55 H=>zad t53 true H (λK'=>zae false 1 t55 H (K' · H)) λt56 H=>zad t53 true H (λK'=>zac .geq false t56 (.int .i64 (-1099511627776)) (K' · H)) λt57 H=>zam t53 t57 (.bool false) λt58=>zad t58 true H (λK'=>zaf 1 t4 (K' · H)) λt60 H=>zad t58 true H (λK'=>zae false 1 t60 H (K' · H)) λt61 H=>zad t58 true H (λK'=>zac .leq false t61 (.int .i64 1099511627776) (K' · H)) λt62 H=>zam t58 t62 (.bool false) λt63=>zad t63 true H (λK'=>K' t13 H) λt65 H=>zad t63 true H (λK'=>zac .eql false t65 (.int .i64 0) (K' · H)) λt66 H=>zam t63 t66 (.bool false) λt67=>K t67 H) (zac .eql false t15 (.int .i64 6) λt69=>zag t69 (zaf 0 t4 λt70=>zae false 1 t70 H λt71=>zac .eql false t71 (.int .i64 4) λt72=>zad t72 true H (λK'=>zaf 1 t4 (K' · H)) λt74 H=>zad t72 true H (λK'=>zae false 1 t74 H (K' · H)) λt75 H=>zad t72 true H (λK'=>zac .eql false t75 (.int .i64 0) (K' · H)) λt76 H=>zam t72 t76 (.bool false) λt77=>zad t77 true H (λK'=>K' t0 H) λt79 H=>zad t77 true H (λK'=>zaf 2 t4 (K' · H)) λt80 H=>zad t77 true H (λK'=>zae false 1 t80 H (K' · H)) λt81 H=>zad t77 true H (λK'=>zaf 2 t5 (K' · H)) λt82 H=>zad t77 true H (λK'=>zae false 1 t82 H (K' · H)) λt83 H=>zad t77 true H (λK'=>ACalls tP zkS [t79,t81,t83] H K') λt84 H=>zam t77 t84 (.bool false) λt85=>K t85 H) (zac .eql false t15 (.int .i64 5) λt87=>zag t87 (zaf 0 t4 λt88=>zae false 1 t88 H λt89=>zac .neq false t89 (.int .i64 5) λt90=>zad t90 false H (λK'=>zaf 1 t4 (K' · H)) λt92 H=>zad t90 false H (λK'=>zae false 1 t92 H (K' · H)) λt93 H=>zad t90 false H (λK'=>zac .lss false t93 (.int .i64 0) (K' · H)) λt94 H=>zam t90 (.bool true) t94 λt95=>zad t95 false H (λK'=>zaf 1 t4 (K' · H)) λt97 H=>zad t95 false H (λK'=>zae false 1 t97 H (K' · H)) λt98 H=>zad t95 false H (λK'=>zac .geq false t98 (.int .i64 8) (K' · H)) λt99 H=>zam t95 (.bool true) t99 λt100=>zag t100 (K (.bool false) H) (zae true 3 t5 H λt103=>zaf 1 t4 λt104=>zae false 1 t104 H λt105=>ACalls tP ziv [t0,t103,t105] H λt106 H=>zaE t106 0 λt107=>zaE t106 1 λt108=>zad t108 true H (λK'=>K' t0 H) λt111 H=>zad t108 true H (λK'=>zaf 2 t4 (K' · H)) λt112 H=>zad t108 true H (λK'=>zae false 1 t112 H (K' · H)) λt113 H=>zad t108 true H (λK'=>K' t107 H) λt114 H=>zad t108 true H (λK'=>ACalls tP zkS [t111,t113,t114] H K') λt115 H=>zam t108 t115 (.bool false) λt116=>K t116 H)) (zac .eql false t15 (.int .i64 7) λt118=>zag t118 (zji t0 t4 t5 t13 t118 H K) (zac .eql false t15 (.int .i64 8) λt119=>zji t0 t4 t5 t13 t119 H K))))))
def zpM:Nat→List Bool|4=>rl false [0,3,4,1,22]|_=>[]
noncomputable def zxf:=Tryz.f97.body.getD .skip
noncomputable def yaI:=Tryz.f97.results.toList
def zpN:=t0::t1::t2::ux 4 (t7::ux 22 [])
def yaG:=zpM 4
noncomputable def yaE:=zar [1,1,0,1,0,0] zxf
def yaD:=zas tP zpM [1,1,0,1,0] zxf (zaB tP yaI K)
def zGT:=ALoop tP yaE (yaD K) (zpN t0 t1 t2 t7) H
def zxe:=zah 1 t1 λt15=>zac .lss false t7 t15 λt16=>zag t16 (apm H t0 λt19=>apm H t1 λt20=>apm H t7 λt21=>apu H (zak 3 t20 t21) λt22=>apu H (zaj true 3 t22 H) λt23=>apm H t2 λt24=>apm H t7 λt25=>apu H (zak 3 t24 t25) λt26=>apu H (zaj true 3 t26 H) λt27=>zaC H (λH K'=>ACalls tP zkF [t19,t23,t27] H K') λt28=>apu H (aUn .not t28) λt29=>zag t29 (K (.bool false) H) (zac .add false t7 (.int .i64 1) λt18=>Kb4 (zpN t0 t1 t2 t18) H)) (K (.bool true) H)
def zxd:=zah 1 t1 λt9=>zah 1 t2 λt11=>zac .neq false t9 t11 λt12=>zag t12 (K (.bool false) H) (zGT t0 t1 t2 (.int .i64 0) H K)
variable {t0 t1 t2 t4 t5 t7 t10 t117} {H} {K} {Kb4 Kb21}
theorem zW6:Lo1 (λt10=>zoP t0 t4 t5 t7 t10) (λt10 H Kb21=>zwd t0 t4 t5 t7 t10 H K Kb21) t10 H (zwf t0 t4 t5 t7 t10 H K):=lq1 zoO zW7
theorem zW8(h:HSc H→zeZ t0 t1 t2 H K):ACalls tP zkF [t0,t1,t2] H K:=
 acb zoO Tryz.func51 zwe h
theorem yaF:Lo1 (λt7=>zpN t0 t1 t2 t7) (λt7 H Kb4=>zxe t0 t1 t2 t7 H K Kb4) t7 H (zGT t0 t1 t2 t7 H K):=lq1 zpM yaG
theorem yaH(h:HSc H→zxd t0 t1 t2 H K):ACalls tP zkS [t0,t1,t2] H K:=
 acb zpM Tryz.func97 zxf h
end
def d4(d7:List Dat):AV:=.agg [.sl (d7.map Dat.cs) .none,.snil,.snil,.snil]
section
variable {H:zaa} {K:Kt} (d7:List Dat)
theorem zLW(hK:K (.bool true) H):ACalls tP zrr [d4 d7] H K:=by refine ACalls.out (zQz λhs=>?_);simp[zDb,d4];refine⟨rfl,ACalls.wk (args':=[.sl (VT.css []) .none,.fn zzA [.ptr H.length 0]]) ?_ ⟨.atom .snil,.atom (.refl _),trivial⟩⟩;refine zqp [] (by simp) _ _ _ (by simp[AV.sc,AV.scV,AV.scA,AV.scB]) (λ_ H'=>H'=H++[.cells [.sl (d7.map Dat.cs) .none,.snil,.snil,.snil]]) rfl (λi h=>by simp at h) ?_;rintro H' rfl;simp;exact Out.bool rfl (ac _) hs hK
theorem zH5(hK:K (.bool true) H):ACalls tP zrs [d4 d7] H K:=by refine ACalls.out (zQE λhs=>?_);simp[zDc,d4];refine zQC (Inv:=λ_ _ t H'=>t=.int .i64 0∧H'=_) 0 (λ_=>⟨rfl,rfl⟩) ?_;rintro q t4 t H' ⟨rfl,rfl⟩ _ _ _ Kb eq;simp[zDd];exact Out.bool rfl (ac _) hs hK
theorem zLP(hK:K (.bool true) H):ACalls tP zrt [d4 d7] H K:=by refine ACalls.out (zQP λhs=>?_);simp[zDg,d4,zbp];refine⟨⟨rfl,rfl⟩,zQN (Inv:=λ_ t H'=>t=.int .i64 0∧H'=_) 0 (λ_=>⟨rfl,rfl⟩) ?_⟩;rintro q t H' ⟨rfl,rfl⟩ _ _ _ Kb eq;simp[zDj];refine zQM (Inv:=λ_ t H'=>t=.int .i64 0∧H'=_) 0 (λ_=>⟨rfl,rfl⟩) ?_;rintro q t H' ⟨rfl,rfl⟩ _ _ _ Kb2 fF;simp[zDi,aa];exact Out.bool rfl (ac _) hs hK
theorem zHR(hK:K (.bool true) H):ACalls tP zru [d4 d7] H K:=by refine ACalls.out (zQZ λhs=>?_);simp[zDp,d4,zbp];refine⟨⟨rfl,rfl⟩,zQX (Inv:=λ_ t H'=>t=.int .i64 0∧H'=_) 0 (λ_=>⟨rfl,rfl⟩) ?_⟩;rintro q t H' ⟨rfl,rfl⟩ _ _ _ Kb eq;simp[zDs];refine zQW (Inv:=λ_ t H'=>t=.int .i64 0∧H'=_) 0 (λ_=>⟨rfl,rfl⟩) ?_;rintro q t H' ⟨rfl,rfl⟩ _ _ _ Kb2 fF;simp[zDr,aa];exact Out.bool rfl (ac _) hs hK
theorem zKu(hK:K (.bool true) H):ACalls tP zrv [d4 d7] H K:=by refine ACalls.out (zQ4 λhs=>?_);simp[zDy,d4,zbp];refine⟨rfl,⟨rfl,rfl,rfl,rfl⟩,zQ2 (Inv:=λ_ t H'=>t=.int .i64 0∧H'=_) 0 (λ_=>⟨rfl,rfl⟩) ?_⟩;rintro q t H' ⟨rfl,rfl⟩ _ _ _ Kb eq;simp[zDz];exact Out.bool rfl (ac _) hs hK
theorem zIs(hK:K (.bool true) H):ACalls tP zrw [d4 d7] H K:=by refine ACalls.out (zRe λhs=>?_);simp[zDB,d4,zbp,zaq,zaJ];refine zRa (Inv:=λ_ t H'=>t=.int .i64 0∧H'=_) 0 (λ_=>⟨rfl,rfl⟩) ?_;rintro q t H' ⟨rfl,rfl⟩ _ _ _ Kb eq;simp[zDC];refine zRb (Inv:=λ_ t H'=>t=.int .i64 0∧H'=_) 0 (λ_=>⟨rfl,rfl⟩) ?_;rintro q t H' ⟨rfl,rfl⟩ _ _ _ Kb2 fF;simp[zDD];exact Out.bool rfl (ac _) hs hK
theorem zNL(hB:zhu d7)(hl:d7.length≤1000000)(hK:K (.bool (zbz d7)) H):ACalls tP zq7 [d4 d7] H K:=by
 refine ACalls.out (zNM λhs=>?_);simp[zCq,d4];refine zQw d7 hB hl _ _ ?_;cases hd:zbz d7 with
 |false=>rw[hd]at hK;simp;exact Out.bool rfl (ac _) hs hK
 |true=>rw[hd]at hK;simp;refine zLW d7 ?_;simp;refine zH5 d7 ?_;simp;refine zLP d7 ?_;simp;refine zHR d7 ?_;simp;refine zKu d7 ?_;simp;refine zIs d7 ?_;exact Out.bool rfl (ac _) hs hK
def zb3(d7:List Dat)(t:VT):Bool:=zbz d7 && za0 d7 0 t
end
theorem zqF(d7:List Dat):∀ vs ts:List VT,zcP d7 vs ts=zc0 (za2 d7) vs ts
 |[],[]=>by simp[zcP,zc0]
 |[],_::_=>by simp[zcP,zc0]
 |_::_,[]=>by simp[zcP,zc0]
 |v::vs,t::ts=>by simp[zcP,zc0,zqF d7 vs ts]
theorem zLT{d7:List Dat}{k n:Int}{ks:List VT}(h:zbb d7 0 (.mk k n ks)=true):(k=1∧ks=[])∨(k=2∧ks=[])∨(k=3∧ks=[])∨k=5∨(k=6∧2≤ks.length)∨(k=7∧ks.length=1)∨(k=8∧ks.length=1)∨(k=9∧1≤ks.length):=by
 rw[zbb,aj]at h;have h:=h.1;unfold zbu at h;by_cases h1:k=1
 ·subst h1;simp at h;simp[h.2]
 by_cases h2:k=2
 ·subst h2;simp at h;simp[h.2]
 by_cases h3:k=3
 ·subst h3;simp at h;simp[h.2]
 by_cases h4:k=4
 ·subst h4;simp at h;omega
 by_cases h5:k=5
 ·subst h5;simp
 by_cases h6:k=6
 ·subst h6;simp at h;simp;omega
 by_cases h7:k=7
 ·subst h7;simp at h;simp;omega
 by_cases h8:k=8
 ·subst h8;simp at h;simp;omega
 by_cases h9:k=9
 ·subst h9;simp at h;simp;omega
 simp[h1,h2,h3,h4,h5,h6,h7,h8,h9]at h
structure DOk (d7:List Dat):Prop where
 ok:zbz d7=true
 k:zbx d7
theorem DOk.small{d7:List Dat}(h:DOk d7):zhu d7:=λD hD=>by obtain⟨_,h2⟩:=h.k;obtain⟨_,h3,h4⟩:=h2 D hD;refine⟨by omega,λc hc=>?_⟩;obtain⟨_,h5,h6⟩:=h4 c hc;exact⟨by omega,λx hx=>by have:=h6 x hx;omega⟩
theorem zfM{d7:List Dat}(h:zbx d7):d7.length≤1000000∧(∀d∈d7,∀c∈d.cons,c.args.length≤1000∧∀x∈c.args,x.nodes≤1000)∧∀d∈d7,d.cons.length≤1000000:=by
 obtain⟨h1,h2⟩:=h;refine⟨by omega,λD hD c hc=>?_,λD hD=>?_⟩
 ·obtain⟨_,h3,h4⟩:=h2 D hD;obtain⟨_,h5,h6⟩:=h4 c hc;exact⟨by omega,λx hx=>by have:=h6 x hx;omega⟩
 ·obtain⟨_,h3,h4⟩:=h2 D hD;omega
section
variable {d7:List Dat} (hD:DOk d7)
theorem i0(n:Nat):((n:Int) == 0)=(n == 0):=by rw[ct];simp
theorem zIB{ks:List VT}(h:0<ks.length):ks.getD 0 (.mk 0 0 [])=ks[0]:=by simp[List.getD_eq_getElem?_getD,h]
theorem zIF{d7:List Dat}{t:VT}{vs:List VT}{i:Nat}(h:i<vs.length):zdV d7 (vs.drop i) t=(za2 d7 vs[i] t && zdV d7 (vs.drop (i+1)) t):=by rw[ag h,zdV]
include hD in
end
theorem zAb:∀ (a:List VT) (b:List Bool) (x:VT) (y:Bool),a.length=b.length→pick (a++[x]) (b++[y])=pick a b++(if y then [] else [x])
 |[],[],x,y,_=>by cases y <;> rfl
 |[],_::_,_,_,h=>by cases h
 |_::_,[],_,_,h=>by cases h
 |c::a,d::b,x,y,h=>by have:=zAb a b x y (by simpa using h);cases d <;> simp[pick,this]
theorem zsb{l:List VT}{bs:List Bool}{i:Nat}(h:l.length=bs.length)(hi:i<l.length):pick (l.take (i+1)) (bs.take (i+1))=pick (l.take i) (bs.take i)++(if bs[i]'(by omega) then [] else [l[i]]):=by rw[ae hi,ae (by omega:i<bs.length)];exact zAb _ _ _ _ (by simp;omega)
theorem ziB:∀ (a:List VT) (b:List Bool),(pick a b).length≤a.length
 |[],b=>by simp[pick]
 |_::_,[]=>by simp[pick]
 |c::a,d::b=>by have:=ziB a b;cases d <;> simp[pick] <;> omega
theorem zhE{l:List Bool}{i:Nat}(h:i<(zb2 l).length):(zb2 l)[i]=[.bool (l[i]'(by simpa[zb2]using h))]:=by simp[zb2]
theorem ze7(l:List Bool):(zb2 l).length=l.length:=by simp[zb2]
theorem zz8{d7:List Dat}{k n:Int}{ks:List VT}{c:Int}{l:List VT}(hk:zbx d7)(hf:zbt d7 (.mk k n ks) c=some l):
  ∃ bs,l.length=bs.length∧l.length≤8∧zbi d7 (.mk k n ks) c=some (pick l bs)∧(∀ x∈l,x.nodes≤200)∧k=5 ∧
   (∀H K,K (.sl (zb2 bs) .none) H→ACalls tP zfQ [.sl (d7.map Dat.cs) .none,.int .i64 n,.int .i64 c] H K) ∧
   (∀H K,K (.sl (zb2 bs) .none) H→ACalls tP zgR [.sl (d7.map Dat.cs) .none,.int .i64 n,.int .i64 c] H K):=by
 obtain⟨k5,n0,c0,hn,hc,hv,rfl,gn⟩:=zhO hf;obtain⟨f1,f2,f3⟩:=zfM hk;have hd:=af hn;have fO:=af hc;obtain⟨g1,g2⟩:=f2 _ hd _ fO;have g3:=f3 _ hd;have h8:=((hk.2 _ hd).2.2 _ fO).2.1;refine⟨zcI n.toNat d7[n.toNat] (d7[n.toNat]).cons[c.toNat],by simp[zcI],by simpa using h8,?_,gn,k5,λH K hK=>?_,λH K hK=>?_⟩
 ·simp[zbi,hf,zd4,hn,hc,List.getD_eq_getElem?_getD,VT.num]
 ·have:=zuB d7 n.toNat c.toNat hn hc f1 g3 (by omega) (λx hx=>by have:=g2 x hx;omega) H K (by simpa[zb2,zcI,Function.comp_def]using hK);rwa [bp n0,bp c0]at this
 ·have:=zEa d7 n.toNat c.toNat hn hc f1 g3 (by omega) (λx hx=>by have:=g2 x hx;omega) H K hK;rwa [bp n0,bp c0]at this
theorem zz7{d7:List Dat}{t:VT}{c:Int}(hf:zbt d7 t c=none):zbi d7 t c=none:=by simp[zbi,hf]
theorem zN2(d7:List Dat)(hk:zbx d7)(t:VT)(ht:t.nodes≤1000)(c:Int)(H:zaa)(K:Kt)(hK:K (zcO (zbi d7 t c)) H):
  ACalls tP zra [.sl (d7.map Dat.cs) .none,.agg t.cs,.int .i64 c] H K:=by
 refine ACalls.out (zN0 λhs=>?_);obtain⟨f1,f2,f3⟩:=zfM hk;obtain⟨k,n,ks⟩:=t;simp[zCv,VT.cs,aa];refine zDO d7 f1 f2 f3 (.mk k n ks) ht c _ _ ?_;cases hf:zbt d7 (.mk k n ks) c with
 |none=>rw[zz7 hf]at hK;simp[zcO];refine⟨⟨rfl,rfl⟩,?_⟩;exact Out.tup (bs:=[.sl [] .none,.bool false]) hs hK ⟨zdj,zaV rfl rfl,trivial⟩
 |some l=>
  obtain⟨bs,gf,oF,gD,gn,k5,hsc,_⟩:=zz8 hk hf;rw[gD]at hK;simp[zcO];refine hsc _ _ ?_;simp[ze7];unfold zmf;refine ALoop.own 10 za9 3 rfl ?_;have i9:(H++[AB.cells [AV.int IntKind.i64 k,AV.int IntKind.i64 n,AV.sl (VT.css ks) Tok.none]]).length=H.length+1:=by simp
  rw[i9];show zmf (.sl (VT.css l) .none) (.sl [] (.own (H.length+1))) (.sl (zb2 bs) .none) (.int .i64 bs.length) (.int .i64 0) (H++[.cells [.int .i64 k,.int .i64 n,.sl (VT.css ks) .none]]++[.perm za9 3 0]) (Out H.length K);have eH:∀m,HSc (H++[.cells [.int .i64 k,.int .i64 n,.sl (VT.css ks) .none],.perm za9 3 m]):=λm=>hs.append (by simp[AB.sc,AV.scA,AV.scB]);refine zNY (Inv:=λq t10 t28 H'=>∃i:Nat,i≤bs.length∧q=bs.length-i∧t28=.int .i64 i∧t10=.sl (VT.css (pick (l.take i) (bs.take i))) (.own (H.length+1))∧H'=H++[.cells [.int .i64 k,.int .i64 n,.sl (VT.css ks) .none],.perm za9 3 (pick (l.take i) (bs.take i)).length]) bs.length ?_ ?_
  ·intro _;exact⟨0,by omega,by omega,rfl,by simp[pick,VT.css],by simp[pick]⟩
  ·rintro q t10 t28 H' ⟨i,hi,rfl,rfl,rfl,rfl⟩ eE ek eK Kb eq;by_cases ei:i<bs.length
   ·have gJ:=zsb gf (by omega:i<l.length);have fe:=ziB (l.take i) (bs.take i);rw[aT]at fe;have eV:∀ J,zme (.sl (VT.css l) .none) (.sl (VT.css (pick (l.take (i+1)) (bs.take (i+1)))) (.own (H.length+1))) (.sl (zb2 bs) .none) (.int .i64 bs.length) (.int .i64 i)
      (H++.cells [.int .i64 k,.int .i64 n,.sl (VT.css ks) .none]::.perm za9 3 (pick (l.take (i+1)) (bs.take (i+1))).length::J) (Out H.length K) Kb:=by
     intro J;simp[zme,zCw];rw[zay (by omega) (by omega)];refine eq _ _ ⟨bs.length-(i+1),by omega,Back.at (J:=J) (H2:=H++[.cells [.int .i64 k,.int .i64 n,.sl (VT.css ks) .none],.perm za9 3 (pick (l.take (i+1)) (bs.take (i+1))).length]) (by simp) (by simp) (eH _) ?_ ⟨_,_,rfl,i+1,by omega,rfl,by simp,rfl,rfl⟩⟩;simp[zmd,AV.sc,AV.scV,AV.scA,AV.scB]
    simp[ztw,ze7,ei,zhE];cases kP:bs[i] with
    |true=>rw[kP]at gJ;simp at gJ;simp;have:=eV [];rw[gJ]at this;exact this
    |false=>rw[kP]at gJ;simp only[aH,aN]at gJ;simp[show i<l.length by omega];rw[zfG];simp[zax,zaM,zaK];have:=eV [];rw[gJ]at this;rw[show VT.css (pick (l.take i) (bs.take i)++[l[i]])=VT.css (pick (l.take i) (bs.take i))++[l[i].cs] by simp[VT.css_map],show (pick (l.take i) (bs.take i)++[l[i]]).length=(pick (l.take i) (bs.take i)).length+1 by simp]at this;exact⟨⟨by omega,by omega⟩,this⟩
   ·obtain rfl:i=bs.length:=by omega
    rw[ai (by omega),ak]at *;simp[ztw];refine⟨⟨rfl,rfl⟩,?_⟩;exact Out.tup (bs:=[.sl (VT.css (pick l bs)) .none,.bool true]) hs hK ⟨slV,zaV rfl rfl,trivial⟩
def pos(v:Bool)(bs:List Bool)(i:Nat):List Nat:=(List.range i).filter λj=>bs.getD j false == v
def zb9(l:List Nat):List (List AV):=l.map λ(n:Nat)=>[AV.int .i64 (Int.ofNat n)]
theorem zse(v:Bool)(bs:List Bool)(i:Nat)(h:i<bs.length):pos v bs (i+1)=pos v bs i++(if bs[i] == v then [i] else []):=by unfold pos;rw[bU,cN];congr 1;simp[cG,List.getD_eq_getElem?_getD,h]
theorem zsd(v:Bool)(bs:List Bool)(i:Nat):(pos v bs i).length≤i:=by have:=c6 (λj=>bs.getD j false == v) (List.range i);simpa[pos]using this
theorem zJV{v:Bool}{bs:List Bool}{i j:Nat}(h:j∈pos v bs i):j<i:=by simp[pos]at h;exact h.1
theorem zAa{l:List VT}{bs:List Bool}(h:l.length=bs.length)(d:VT):∀ i,i≤l.length→pick (l.take i) (bs.take i)=(pos false bs i).map λj=>l.getD j d
 |0,_=>by simp[pick,pos]
 |i+1,hi=>by rw[zsb h (by omega),zse false bs i (by omega),aK,zAa h d i (by omega)];congr 1;cases hb:bs[i]'(by omega) <;> simp[List.getD_eq_getElem?_getD,show i<l.length by omega]
theorem ziw(l:List Nat):(zb9 l).length=l.length:=by simp[zb9]
theorem zJo{l:List Nat}{i:Nat}(h:i<(zb9 l).length):(zb9 l)[i]=[.int .i64 ((l[i]'(by simpa[zb9]using h):Nat):Int)]:=by simp[zb9]
theorem zzF(l m:List Nat):zb9 (l++m)=zb9 l++zb9 m:=by simp[zb9]
theorem zPO(d7:List Dat)(hk:zbx d7)(k n:Int)(ks:List VT)(ht:(VT.mk k n ks).nodes≤1000)(c:Int){l:List VT}{bs:List Bool}(hf:zbt d7 (.mk k n ks) c=some l)(gf:l.length=bs.length)(oF:l.length≤8)(jI:∀ H K,K (.sl (zb2 bs) .none) H→ACalls tP zgR [.sl (d7.map Dat.cs) .none,.int .i64 n,.int .i64 c] H K)(H:zaa)(K:Kt)(hK:K (.tup [.sl (zb9 (pos false bs bs.length)) .none,.sl (zb9 (pos true bs bs.length)) .none,.bool true]) H):
  ACalls tP zrn [.sl (d7.map Dat.cs) .none,.agg (VT.mk k n ks).cs,.int .i64 c] H K:=by
 refine ACalls.out (zPM λhs=>?_);obtain⟨f1,f2,f3⟩:=zfM hk;simp[zCV,VT.cs,aa];refine zxi d7 f1 f2 f3 (.mk k n ks) ht c _ _ ?_;rw[hf];simp[zcO];refine jI _ _ ?_;simp[ze7];unfold zmO;refine ALoop.own 11 zcZ 1 rfl ?_;refine ALoop.own 12 zcZ 1 rfl ?_;have i9:(H++[AB.cells [AV.int IntKind.i64 k,AV.int IntKind.i64 n,AV.sl (VT.css ks) Tok.none]]).length=H.length+1:=by simp
 have jY:(H++[AB.cells [AV.int IntKind.i64 k,AV.int IntKind.i64 n,AV.sl (VT.css ks) Tok.none]]++[AB.perm zcZ 1 0]).length=H.length+2:=by simp
 rw[i9,jY];show zmO (.sl [] (.own (H.length+1))) (.sl [] (.own (H.length+2))) (.sl (zb2 bs) .none) (.int .i64 bs.length) (.int .i64 0) (H++[.cells [.int .i64 k,.int .i64 n,.sl (VT.css ks) .none]]++[.perm zcZ 1 0]++[.perm zcZ 1 0]) (Out H.length K);have eH:∀ m m2,HSc (H++[.cells [.int .i64 k,.int .i64 n,.sl (VT.css ks) .none],.perm zcZ 1 m,.perm zcZ 1 m2]):=λm m2=>hs.append (by simp[AB.sc,AV.scA,AV.scB]);refine zPK (Inv:=λq t11 t12 t30 H'=>∃ i:Nat,i≤bs.length∧q=bs.length-i∧t30=.int .i64 i∧t11=.sl (zb9 (pos false bs i)) (.own (H.length+1))∧t12=.sl (zb9 (pos true bs i)) (.own (H.length+2)) ∧
  H'=H++[.cells [.int .i64 k,.int .i64 n,.sl (VT.css ks) .none],.perm zcZ 1 (pos false bs i).length,.perm zcZ 1 (pos true bs i).length]) bs.length ?_ ?_
 ·intro _;exact⟨0,by omega,by omega,rfl,by simp[pos,zb9],by simp[pos,zb9],by simp[pos]⟩
 ·rintro q t11 t12 t30 H' ⟨i,hi,rfl,rfl,rfl,rfl,rfl⟩ eE ek eK Kb eq;by_cases ei:i<bs.length
  ·have iC:=zse false bs i ei;have mg:=zse true bs i ei;have jq:=zsd false bs i;have l6:=zsd true bs i;have eV:zmN (.sl (zb9 (pos false bs (i+1))) (.own (H.length+1))) (.sl (zb9 (pos true bs (i+1))) (.own (H.length+2))) (.sl (zb2 bs) .none) (.int .i64 bs.length) (.int .i64 i)
     (H++[.cells [.int .i64 k,.int .i64 n,.sl (VT.css ks) .none],.perm zcZ 1 (pos false bs (i+1)).length,.perm zcZ 1 (pos true bs (i+1)).length]) (Out H.length K) Kb:=by
    simp[zmN,zCW];rw[zay (by omega) (by omega)];refine eq _ _ ⟨bs.length-(i+1),by omega,Back.at (J:=[]) (H2:=H++[.cells [.int .i64 k,.int .i64 n,.sl (VT.css ks) .none],.perm zcZ 1 (pos false bs (i+1)).length,.perm zcZ 1 (pos true bs (i+1)).length]) (by simp) (by simp) (eH _ _) ?_ ⟨_,_,_,rfl,i+1,by omega,rfl,by simp,rfl,rfl,rfl⟩⟩;simp[zmM,AV.sc,AV.scV,AV.scA,AV.scB]
   cases kP:bs[i] with
   |true=>rw[kP]at iC mg;simp at iC mg;rw[iC,mg]at eV;simp[zmL,ze7,ei,zhE,kP,zaw,zaR,plain,AV.pd,zax,zaM,zaK,ziw];refine⟨⟨by omega,by omega⟩,?_⟩;simpa[zzF,zb9]using eV
   |false=>rw[kP]at iC mg;simp at iC mg;rw[iC,mg]at eV;simp[zmL,ze7,ei,zhE,kP,zaw,zaR,plain,AV.pd,zax,zaM,zaK,ziw];refine⟨⟨by omega,by omega⟩,?_⟩;simpa[zzF,zb9]using eV
  ·obtain rfl:i=bs.length:=by omega
   simp[zmL];refine⟨⟨rfl,rfl,rfl⟩,?_⟩;exact Out.tup (bs:=[.sl (zb9 (pos false bs bs.length)) .none,.sl (zb9 (pos true bs bs.length)) .none,.bool true]) hs hK ⟨slV,slV,zaV rfl rfl,trivial⟩
def zKc(r:List IT):List AV:=(IT.css r).flatten
def CellR(H:zaa)(lo id:Nat)(c:AV)(r:List IT):Prop:=
 (r=[]∧c=.sl [] .none)∨(r≠[]∧∃b,c=.ov b r.length∧lo≤b∧b≠id∧H[b]?=some (.vec zaY 2 r.length (zKc r)))
theorem CellR.keep{H H':zaa}{lo id lo' id':Nat}{c:AV}{r:List IT}(h:CellR H lo id c r)(jg:lo'≤lo)(en:∀b,lo≤b→b≠id→b<H.length→b≠id'∧H'[b]?=H[b]?):CellR H' lo' id' c r:=by
 rcases h with h|⟨h0,b,rfl,h1,h2,h3⟩
 ·exact .inl h
 ·have:=en b h1 h2 (List.getElem?_eq_some_iff.1 h3).1;exact .inr ⟨h0,b,rfl,by omega,this.1,by rw[this.2];exact h3⟩
theorem CellR.sc{H:zaa}{lo id:Nat}{c:AV}{r:List IT}(h:CellR H lo id c r):c.scA H.length=true∧c.known=true:=by
 rcases h with ⟨_,rfl⟩|⟨h0,b,rfl,h1,h2,h3⟩
 ·exact⟨rfl,rfl⟩
 ·have:=(List.getElem?_eq_some_iff.1 h3).1;exact⟨by simpa[AV.scA,AV.scB]using this,rfl⟩
theorem RowA.pre{H X:zaa}{a:AV}{n:Nat}{ds:List AV}(h:RowA H a n ds)(hp:H <+: X):RowA X a n ds:=by obtain⟨J,rfl⟩:=hp;exact h.app
theorem zB0(d7:List Dat)(hk:zbx d7)(t:VT)(ht:t.nodes≤1000)(c:Int)(H:zaa)(K:Kt)(hK:K (zcO (zbi d7 t c)) H):
  ACalls tP zj2 [.sl (d7.map Dat.cs) .none,.agg t.cs,.int .i64 c] H K:=by
 refine ACalls.out (zMj λhs=>?_);obtain⟨f1,f2,f3⟩:=zfM hk;obtain⟨k,n,ks⟩:=t;simp[zBZ,VT.cs,aa];refine zxi d7 f1 f2 f3 (.mk k n ks) ht c _ _ ?_;cases hf:zbt d7 (.mk k n ks) c with
 |none=>rw[zz7 hf]at hK;simp[zcO];refine⟨⟨rfl,rfl⟩,?_⟩;exact Out.tup (bs:=[.sl [] .none,.bool false]) hs hK ⟨zdj,zaV rfl rfl,trivial⟩
 |some l=>
  obtain⟨bs,gf,oF,gD,gn,k5,_,jI⟩:=zz8 hk hf;rw[gD]at hK;simp[zcO];refine zPO d7 hk k n ks ht c hf gf oF jI _ _ ?_;simp[ziw];unfold zlE;refine ALoop.own 13 za9 3 rfl ?_;have i9:(H++[AB.cells [AV.int IntKind.i64 k,AV.int IntKind.i64 n,AV.sl (VT.css ks) Tok.none]]).length=H.length+1:=by simp
  rw[i9];have hpp:=zAa gf (.mk 0 0 []) l.length (ac _);rw[ak,gf,ak]at hpp;rw[hpp]at hK;have hpt:∀j∈pos false bs bs.length,j<l.length:=λj hj=>by have:=zJV hj;omega
  have hp8:=zsd false bs bs.length;generalize pos false bs bs.length=P at *;show zlE (.sl (VT.css l) .none) (.sl [] (.own (H.length+1))) (.sl (zb9 P) .none) (.int .i64 P.length) (.int .i64 0) (H++[.cells [.int .i64 k,.int .i64 n,.sl (VT.css ks) .none]]++[.perm za9 3 0]) (Out H.length K);have eH:∀m,HSc (H++[.cells [.int .i64 k,.int .i64 n,.sl (VT.css ks) .none],.perm za9 3 m]):=λm=>hs.append (by simp[AB.sc,AV.scA,AV.scB]);refine zMh (Inv:=λq t13 t35 H'=>∃i:Nat,i≤P.length∧q=P.length-i∧t35=.int .i64 i∧t13=.sl (VT.css ((P.take i).map λj=>l.getD j (.mk 0 0 []))) (.own (H.length+1))∧H'=H++[.cells [.int .i64 k,.int .i64 n,.sl (VT.css ks) .none],.perm za9 3 i]) P.length ?_ ?_
  ·intro _;exact⟨0,by omega,by omega,rfl,by simp[VT.css],by simp⟩
  ·rintro q t13 t35 H' ⟨i,hi,rfl,rfl,rfl,rfl⟩ eE ek eK Kb eq;by_cases ei:i<P.length
   ·have hj:=hpt _ (af ei);simp[zs2,ziw,zJo,ei,hj];rw[zfG];simp[zax,zaM,zaK,bc hi];refine⟨⟨by omega,by omega⟩,?_⟩;rw[zay (by omega) (by omega)];have eL:VT.css (List.take i (List.map (λj=>l[j]?.getD (VT.mk 0 0 [])) P))++[(l[P[i]]'hj).cs]=VT.css ((P.take (i+1)).map λj=>l.getD j (.mk 0 0 [])):=by rw[ae ei,VT.css_map,VT.css_map,aK,aK,bC];simp[List.getD_eq_getElem?_getD,hj]
    rw[eL];refine eq _ _ ⟨P.length-(i+1),by omega,Back.at (J:=[]) (H2:=H++[.cells [.int .i64 k,.int .i64 n,.sl (VT.css ks) .none],.perm za9 3 (i+1)]) (by simp) (by simp) (eH _) ?_ ⟨_,_,rfl,i+1,by omega,rfl,by simp,rfl,rfl⟩⟩;simp[zlD,AV.sc,AV.scV,AV.scA,AV.scB]
   ·obtain rfl:i=P.length:=by omega
    rw[ak]at *;simp[zs2,ziw];refine⟨⟨rfl,rfl⟩,?_⟩;exact Out.tup (bs:=[.sl (VT.css (P.map λj=>l.getD j (.mk 0 0 []))) .none,.bool true]) hs hK ⟨slV,zaV rfl rfl,trivial⟩
theorem it2(v:IT):∃a b,v.cs=[a,b]∧a.known=true∧b.known=true:=by obtain⟨n,ks⟩:=v;exact⟨_,_,rfl,rfl,rfl⟩
theorem zzh{d7:List Dat}(h8:∀D∈d7,D.cons.length≤8)(v:IT)(t:VT)(h:(zcz d7 v t).2=true):0≤(zcz d7 v t).1∧(zcz d7 v t).1≤6:=by obtain⟨e1,e2,e3⟩:=(zhA h8 v t).1 h;omega
theorem zzg{d7:List Dat}(h8:∀ D∈d7,D.cons.length≤8):∀ (vs:List IT) (ts:List VT) (a:Int),0≤a→0≤(zb8 d7 vs ts a).1∧(zb8 d7 vs ts a).1≤a+6*vs.length
 |[],ts,a,h=>by simp[zb8];omega
 |v::vs,[],a,h=>by simp[zb8];omega
 |v::vs,t::ts,a,h=>by
  simp only[zb8];split
  ·rename_i hb;have:=zzh h8 v t hb;have:=zzg h8 vs ts (a+(zcz d7 v t).1) (by omega);simp only[List.length_cons];omega
  ·simp;omega
theorem zgY{x:VT}:∀ {l:List VT} {bs:List Bool},x∈pick l bs→x∈l
 |[],_,h=>by simp[pick]at h
 |_::_,[],h=>by simp[pick]at h
 |c::l,b::bs,h=>by
  cases b with
  |true=>simp[pick]at h;exact aU _ (zgY h)
  |false=>
   simp[pick]at h;rcases h with rfl|h
   ·exact aR
   ·exact aU _ (zgY h)
theorem zz6{d7:List Dat}{t:VT}{c:Int}{ps:List VT}(h:zbi d7 t c=some ps):∀x∈ps,x.nodes≤1000:=by
 unfold zbi at h;obtain⟨k,n,ks⟩:=t;cases hf:zbt d7 (.mk k n ks) c with
 |none=>rw[hf]at h;cases h
 |some l=>rw[hf]at h;obtain⟨_,_,_,_,_,_,_,h2⟩:=zhO hf;simp at h;subst h;exactλx hx=>by have:=h2 x (zgY hx);omega
theorem zI5(d7:List Dat)(n:Int)(ks:List IT)(tk tn:Int)(tks:List VT):zcz d7 (.mk n ks) (.mk tk tn tks) =
  if tk=6 then (if n=0 then (if tks.length=ks.length then zb8 d7 ks tks 0 else (0,false)) else (0,false))
  else if tk=7 then (n,decide (0≤n) && decide (n≤6) && decide (ks.length=0))
  else if tk=5 then (if n=0 then zde d7 ks (.mk tk tn tks) 0 else (0,false))
  else (0,decide (n=0) && decide (ks.length=0)):=by
 rw[zcz];rfl
def zc8(d7:List Dat)(vs:List IT)(ts:List VT):Int×Bool:=if ts.length=vs.length then zb8 d7 vs ts 0 else (0,false)
def zjv(d7:List Dat)(v:IT):Prop:=∀t:VT,t.nodes≤1000→∀(H:zaa) (K:Kt),K (.tup [.int .i64 (zcz d7 v t).1,.bool (zcz d7 v t).2]) H→ACalls tP zkI [.sl (d7.map Dat.cs) .none,.agg t.cs,.agg v.cs] H K
theorem zdl{H:zaa}{K:Kt}{a:Int}{b:Bool}(hs:HSc H)(h:K (.tup [.int .i64 a,.bool b]) H)(J:zaa):Out H.length K (.tup [.int .i64 a,.bool b]) (H++J):=Out.tup hs h ⟨zaV rfl rfl,zaV rfl rfl,trivial⟩
theorem zCu{d7:List Dat}(h8:∀D∈d7,D.cons.length≤8)(vs:List IT)(hv:vs.length≤1000)(iG:∀v∈vs,zjv d7 v)(ts:List VT)(ht:∀t∈ts,t.nodes≤1000)(H:zaa)(K:Kt)(hK:K (.tup [.int .i64 (zc8 d7 vs ts).1,.bool (zc8 d7 vs ts).2]) H):ACalls tP zj7 [.sl (d7.map Dat.cs) .none,.sl (VT.css ts) .none,.sl (IT.css vs) .none] H K:=by
 refine ACalls.out (zNU λhs=>?_);have h0:∀b J,zc8 d7 vs ts=(0,b)→Out H.length K (.tup [.int .i64 0,.bool b]) (H++J):=λb J h=>by rw[h]at hK;exact zdl hs hK J
 by_cases hl:ts.length=vs.length;case neg=>
  have:((ts.length:Int) != (vs.length:Int))=true:=by simp[bne];omega
  simp[ztt,this];refine⟨⟨rfl,rfl⟩,?_⟩;simpa using h0 false [] (by simp[zc8,hl])
 have lr:zc8 d7 vs ts=zb8 d7 vs ts 0:=by simp[zc8,hl]
 rw[lr]at hK h0;simp[ztt,hl];refine zNS (Inv:=λq t8 t20 H'=>∃(i:Nat) (a:Int),i≤vs.length∧q=vs.length-i∧t20=.int .i64 i∧t8=.int .i64 a∧0≤a∧a≤6*i∧zb8 d7 (vs.drop i) (ts.drop i) a=zb8 d7 vs ts 0∧H'=H) vs.length ?_ ?_
 ·intro _;exact⟨0,0,by omega,by omega,rfl,rfl,by omega,by omega,by simp,rfl⟩
 ·rintro q t8 t20 H' ⟨i,a,hi,rfl,rfl,rfl,m5,pK,ho,rfl⟩ eE ek eK Kb eq;by_cases ei:i<vs.length
  ·have eC:i<ts.length:=by omega
   rw[ag ei,ag eC]at ho;simp only[zb8]at ho;obtain⟨x,y,z,ew,hx,hy,hz⟩:=zbk ts[i];obtain⟨x2,y2,eF,fc,jm⟩:=it2 vs[i];have qH:=ht _ (af eC);have qI:=iG _ (af ei);simp[ztu,hl,ei,eC,ew,eF,aa];refine⟨⟨hx,hy,hz⟩,?_⟩;rw[←ew,←eF];refine zaD (.tup [.int .i64 (zcz d7 vs[i] ts[i]).1,.bool (zcz d7 vs[i] ts[i]).2]) (λJ=>qI _ qH _ _ ⟨rfl,rfl⟩) ?_;cases hb:(zcz d7 vs[i] ts[i]).2 with
   |false=>rw[hb]at ho;simp at ho;simp;exact⟨⟨rfl,rfl⟩,h0 _ _ ho.symm⟩
   |true=>rw[hb]at ho;simp at ho;have pe:=zzh h8 _ _ hb;simp;rw[zay (by omega) (by omega),zay (by omega) (by omega)];refine eq _ _ ⟨vs.length-(i+1),by omega,Back.at (J:=[_]) rfl (ac _) hs ?_ ⟨_,_,rfl,i+1,_,by omega,rfl,by simp,rfl,by omega,by simp;omega,ho,rfl⟩⟩;simp[zmb,AV.sc,AV.scV,AV.scA,AV.scB]
  ·obtain rfl:i=vs.length:=by omega
   rw[aI]at ho;simp only[zb8]at ho;rw[←ho]at hK;simp[ztu,hl];refine⟨⟨rfl,rfl⟩,?_⟩;have:=zdl hs hK [];simpa using this
theorem zYB{d7:List Dat}(hk:zbx d7)(h8:∀D∈d7,D.cons.length≤8):∀(m:Nat) (v:IT),v.nodes≤m→v.nodes≤900→zjv d7 v:=by
 intro m;induction m with
 |zero=>intro v h;have:=v.nodes_pos;omega
 |succ m ih=>
  intro v hv hb t ht H K hK;obtain⟨n,ks⟩:=v;obtain⟨tk,tn,tks⟩:=t;have gd:IT.nodesL ks+1≤900:=by simpa[IT.nodes]using hb
  have fh:=IT.len_le ks;have gX:∀v∈ks,zjv d7 v:=λv mJ=>by obtain⟨i,hi,rfl⟩:=be mJ;have:=IT.kid_lt (n:=n) hi;exact ih _ (by omega) (by omega)
  refine ACalls.out (zYz λhs=>?_);rw[zI5]at hK;by_cases h6:tk=6
  ·subst h6;by_cases hn:n=0
   ·subst hn;simp[zdS,VT.cs,IT.cs,aa];have ff:∀ t∈tks,t.nodes≤1000:=λt mh=>by obtain⟨i,hi,rfl⟩:=be mh;have:=VT.kid_lt (k:=6) (n:=tn) hi;omega
    refine zCu h8 ks (by omega) gX tks ff _ _ ?_;simp;refine⟨⟨rfl,rfl⟩,?_⟩;exact zdl hs (by simpa[zc8]using hK) _
   ·have:(n != 0)=true:=by simp[bne,hn]
    simp[zdS,VT.cs,IT.cs,aa,this];simp[hn]at hK;exact⟨⟨rfl,rfl⟩,zdl hs hK _⟩
  have jJ:(tk == 6)=false:=by simp[h6]
  rw[au h6]at hK;by_cases h7:tk=7
  ·subst h7;simp only[a6]at hK;by_cases g1:0≤n
   ·by_cases g2:n≤6
    ·by_cases g3:ks.length=0
     ·simp[zdS,VT.cs,IT.cs,aa,g1,g2,g3];simp[g1,g2,g3]at hK;exact⟨⟨rfl,rfl⟩,zdl hs hK _⟩
     ·have g3':((ks.length:Int) == 0)=false:=by simp;exact λh=>g3 (by simp[h])
      simp[zdS,VT.cs,IT.cs,aa,g1,g2,g3,g3'];simp[g1,g2,g3]at hK;exact⟨⟨rfl,rfl⟩,zdl hs hK _⟩
    ·simp[zdS,VT.cs,IT.cs,aa,g1,g2];simp[g1,g2]at hK;exact⟨⟨rfl,rfl⟩,zdl hs hK _⟩
   ·simp[zdS,VT.cs,IT.cs,aa,g1];simp[g1]at hK;exact⟨⟨rfl,rfl⟩,zdl hs hK _⟩
  have nT:(tk == 7)=false:=by simp[h7]
  rw[au h7]at hK;by_cases h5:tk=5;case neg=>
   have lz:(tk == 5)=false:=by simp[h5]
   rw[au h5]at hK;by_cases g1:n=0
   ·by_cases g2:ks.length=0
    ·simp[zdS,VT.cs,IT.cs,aa,jJ,nT,lz,g1,g2,zab];simp[g1,g2]at hK;exact⟨⟨rfl,rfl⟩,zdl hs hK _⟩
    ·have g2':((ks.length:Int) == 0)=false:=by simp;exact λh=>g2 (by simp[h])
     simp[zdS,VT.cs,IT.cs,aa,jJ,nT,lz,g1,g2,g2',zab];simp[g1,g2]at hK;exact⟨⟨rfl,rfl⟩,zdl hs hK _⟩
   ·have g1':(n == 0)=false:=by simp[g1]
    simp[zdS,VT.cs,IT.cs,aa,jJ,nT,lz,g1,g1',zab];simp[g1]at hK;exact⟨⟨rfl,rfl⟩,zdl hs hK _⟩
  subst h5;simp only[a6]at hK;by_cases hn:n=0;case neg=>
   have:(n != 0)=true:=by simp[bne,hn]
   simp[zdS,VT.cs,IT.cs,aa,this];simp[hn]at hK;exact⟨⟨rfl,rfl⟩,zdl hs hK _⟩
  subst hn;simp only[a6]at hK;simp[zdS,VT.cs,IT.cs,aa];have hT:(VT.mk 5 tn tks).nodes≤1000:=ht;have pf:(VT.mk 5 tn tks).cs=[.int .i64 5,.int .i64 tn,.sl (VT.css tks) .none]:=rfl;generalize hTg:VT.mk 5 tn tks=T at *;have gm:HSc (H++[.cells [.int .i64 5,.int .i64 tn,.sl (VT.css tks) .none],.cells [.int .i64 0,.sl (IT.css ks) .none]]):=hs.append (by simp[AB.sc,AV.scA,AV.scB]);have hF:zde d7 ks T 0=(0,false)→∀ J,Out H.length K (.tup [.int .i64 0,.bool false]) (H++J):=λh J=>zdl hs (by rw[h]at hK;exact hK) J;refine zYx (Inv:=λq t8 t55 H'=>∃ (i:Nat) (a:Int),i≤ks.length∧q=ks.length-i∧t55=.int .i64 i∧t8=.int .i64 a∧0≤a∧a≤6∧zde d7 (ks.drop i) T a=zde d7 ks T 0 ∧
   H'=H++[.cells [.int .i64 5,.int .i64 tn,.sl (VT.css tks) .none],.cells [.int .i64 0,.sl (IT.css ks) .none]]) ks.length ?_ ?_
  ·intro _;exact⟨0,0,by omega,by omega,rfl,rfl,by omega,by omega,by simp,rfl⟩
  ·rintro q t8 t55 H' ⟨i,a,hi,rfl,rfl,rfl,m5,pK,ho,rfl⟩ eE ek eK Kb eq;by_cases ei:i<ks.length
   ·rw[ag ei]at ho;have fI:=IT.kid_lt (n:=0) ei;obtain⟨c,es,hx⟩:∃ c es,ks[i]=IT.mk c es:=by cases h:ks[i] with | mk a b=>exact⟨a,b,rfl⟩
    rw[hx]at ho fI;have hesl:=IT.len_le es;have hen:IT.nodesL es+1≤900:=by
     have:(IT.mk c es).nodes=IT.nodesL es+1:=by simp[IT.nodes]
     have:(IT.mk 0 ks).nodes=IT.nodesL ks+1:=by simp[IT.nodes]
     omega
    have eX:∀v∈es,zjv d7 v:=λv mJ=>by obtain⟨j,hj,rfl⟩:=be mJ;have:=IT.kid_lt (n:=c) hj;exact ih _ (by omega) (by omega)
    simp only[zde]at ho;simp[zwy,ei,hx,IT.cs,aa];rw[←pf];refine zN2 d7 hk T hT c _ _ ?_;cases hp:zbi d7 T c with
    |none=>rw[hp]at ho;simp only at ho;simp[zcO];exact⟨⟨rfl,rfl⟩,hF ho.symm _⟩
    |some ps=>
     rw[hp]at ho;simp only at ho;simp[zcO];have qJ:∀t∈ps,t.nodes≤1000:=zz6 hp;refine zCu h8 es (by omega) eX ps qJ _ _ ?_;have htb:0≤(zc8 d7 es ps).1∧(zc8 d7 es ps).1≤6*es.length:=by
      unfold zc8;split
      ·have:=zzg h8 es ps 0 (by omega);omega
      ·simp;omega
     have gv:(if (zc8 d7 es ps).2 && decide (a+(1+(zc8 d7 es ps).1)≤6) then zde d7 (ks.drop (i+1)) T (a+(1+(zc8 d7 es ps).1)) else (0,false))=zde d7 ks T 0:=by
      rw[←ho];unfold zc8;by_cases hl:ps.length=es.length
      ·simp only[hl,a6]
      ·simp only[hl,aN];rfl
     generalize zc8 d7 es ps=w at *;obtain⟨w1,w2⟩:=w;simp only at htb gv;simp;have q1:IntKind.i64.wrap (1+w1)=1+w1:=zay (by omega) (by omega);have q2:IntKind.i64.wrap (a+(1+w1))=a+(1+w1):=zay (by omega) (by omega);rw[q1,q2];cases w2 with
     |false=>simp at gv ⊢;exact⟨⟨rfl,rfl⟩,hF gv.symm _⟩
     |true=>
      by_cases hh:a+(1+w1)≤6
      ·have qK:¬ (6:Int)<a+(1+w1):=by omega
       simp[hh]at gv;simp[qK];rw[zay (by omega) (by omega)];refine eq _ _ ⟨ks.length-(i+1),by omega,Back.at (J:=[.cells [.int .i64 c,.sl (IT.css es) .none]]) (H2:=H++[.cells [.int .i64 5,.int .i64 tn,.sl (VT.css tks) .none],.cells [.int .i64 0,.sl (IT.css ks) .none]]) (by simp[pf]) (by simp) gm ?_ ⟨_,_,rfl,i+1,_,by omega,rfl,by simp,rfl,by omega,by omega,gv,rfl⟩⟩;simp[zpc,AV.sc,AV.scV,AV.scA,AV.scB]
      ·have qK:(6:Int)<a+(1+w1):=by omega
       simp[hh]at gv;simp[qK];exact⟨⟨rfl,rfl⟩,hF gv.symm _⟩
   ·obtain rfl:i=ks.length:=by omega
    rw[aI]at ho;simp only[zde]at ho;rw[←ho]at hK;simp[zwy];exact⟨⟨rfl,rfl⟩,zdl hs hK _⟩
end Go.Proofs.YtdmamdnkcefmmaaGreatDoor
