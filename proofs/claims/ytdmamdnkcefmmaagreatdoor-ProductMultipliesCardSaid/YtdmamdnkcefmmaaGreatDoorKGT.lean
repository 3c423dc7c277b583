import Derived.Test.YtdmamdnkcefmmaaGreatDoorKNum
import Derived.Test.YtdmamdnkcefmmaaGreatDoorProg
import Derived.KernelRfl
import Derived.Test.YtdmamdnkcefmmaaGreatDoorAbsQ1
import Derived.Test.YtdmamdnkcefmmaaGreatDoorVO
set_option linter.unusedSimpArgs false
set_option linter.unusedVariables false
set_option maxRecDepth 100000
namespace Go.Proofs.YtdmamdnkcefmmaaGreatDoor
section
variable (t0 t1 t2 t3 t5 t6 t7 t8 t13 t14 t15 t20 t21 t30 t31 t32 t47 t48 t49 t74:AV) (H:zaa) (K:Kt) (Kb2 Kb4 Kb5 Kb9:Lt)
def zob:Nat→List Bool | 5=>rl false [1,2,2,1,24] | _=>[]
noncomputable def zvi:Code:=Tryz.f72.body.getD .skip
noncomputable def zVX:List ResultVar:=Tryz.f72.results.toList
def zoc:List AV:=ux 1 (t1::t2::ux 2 (t5::ux 24 []))
def zVV:List Bool:=zob 5
noncomputable def zVT:Code:=zar [1,1,1,0,1,0,0] zvi
def zVS:AExit→List AV→zaa→Prop:=zas tP zob [1,1,1,0,1,0] zvi (zaz tP zVX K)
def zEq:Prop:=ALoop tP zVT (zVS K) (zoc t1 t2 t5) H
def zvh:Prop:=zaf 2 t2 λt16=>zae false 1 t16 H λt17=>zah 1 t17 λt18=>zac .lss false t5 t18 λt19=>zag t19 (zaf 2 t2 λt22=>zae false 1 t22 H λt23=>zak 3 t23 t5 λt25=>zae true 3 t25 H λt26=>ACalls tP zh0 [t26,t1] H λt28 H=>aUn .not t28 λt29=>zag t29 (K (.bool false) H) (zac .add false t5 (.int .i64 1) λt21=>Kb5 (zoc t1 t2 t21) H)) (K (.bool true) H)
def zEp:Prop:=zat t0 H λt2 H=>za7 t1 λt7=>zae false 1 t7 H λt8=>zac .sub false t8 (.int .i64 1) λt9=>za7 t1 λt10=>zao 1 t10 t9 H λH=>za7 t1 λt12=>zae false 1 t12 H λt13=>zac .lss false t13 (.int .i64 0) λt14=>zag t14 (K (.bool false) H) (zEq t1 t2 (.int .i64 0) H K)
def zTx (_:Nat):List Bool:=[]
noncomputable def zTy:Code:=Tryz.f38.body.getD .skip
def zDF:Prop:=zat t0 H λt1 H=>zay [(.int .i64 0)] H λt3 H=>zao 1 t3 (.int .i64 250) H λH=>zae true 3 t1 H λt4=>ACalls tP zh0 [t4,t3] H λt5 H=>K t5 H
def zea:Nat→List Bool | 4=>rl false [13,3,43] | 9=>rl false [13,3,14,3,26] | 15=>rl false [7,1,5,3,14,3,14,3,9] | _=>[]
noncomputable def zuv:Code:=Tryz.f37.body.getD .skip
noncomputable def zTv:List ResultVar:=Tryz.f37.results.toList
def ziK:List AV:=ux 13 (t13::t14::t15::ux 43 [])
def zDD:List Bool:=zea 4
noncomputable def zuw:Code:=zar [1,1,0,1,0,0] zuv
def zDy:AExit→List AV→zaa→Prop:=zas tP zea [1,1,0,1,0] zuv (zaz tP zTv K)
def zDB:Prop:=ALoop tP zuw (zDy K) (ziK t13 t14 t15) H
def znn:List AV:=ux 13 (t13::t14::t15::ux 14 (t30::t31::t32::ux 26 []))
def zDE:List Bool:=zea 9
noncomputable def zux:Code:=zar [1,1,0,0,1,1,1,0,0] zuw
def zDz:AExit→List AV→zaa→Prop:=zas tP zea [1,1,0,0,1,1,1,0] zuw (zbL zDD Kb4 (zDy K))
def zDC:Prop:=ALoop tP zux (zDz K Kb4) (znn t13 t14 t15 t30 t31 t32) H
def znm:List AV:=ux 7 (t7::ux 5 (t13::t14::t15::ux 14 (t30::t31::t32::ux 14 (t47::t48::t49::ux 9 []))))
def zTt:List Bool:=zea 15
noncomputable def zTp:Code:=zar [1,1,0,0,1,1,1,1,0,0] zux
def zTo:AExit→List AV→zaa→Prop:=zas tP zea [1,1,0,0,1,1,1,1,0] zux (zbL zDE Kb9 (zDz K Kb4))
def zDA:Prop:=ALoop tP zTp (zTo K Kb4 Kb9) (znm t7 t13 t14 t15 t30 t31 t32 t47 t48 t49) H
def zus (t7 t13 t14 t15 t30 t31 t32 t47 t48 t49:AV) (H:zaa) (K:Kt) (Kb4:Lt) (Kb9:Lt) (Kb15:Lt):Prop:=zac .lss false t49 t48 λt50=>zag t50 (zak 3 t47 t49 λt51=>zae true 3 t51 H λt52=>zay [(.int .i64 0),(.int .i64 0),.snil] H λt9 H=>zao 3 t9 t52 H λH=>zae true 3 t9 H λt53=>ACalls tP zh0 [t53,t7] H λt54 H=>aUn .not t54 λt55=>zag t55 (K (.bool false) H) (zac .add false t49 (.int .i64 1) λt56=>Kb15 (znm t7 t13 t14 t15 t30 t31 t32 t47 t48 t56) H)) (zac .add false t32 (.int .i64 1) λt57=>Kb9 (znn t13 t14 t15 t30 t31 t57) H)
def zuu:Prop:=zac .lss false t32 t31 λt33=>zag t33 (zak 2 t30 t32 λt34=>zae true 2 t34 H λt35=>zay [(.str []),.snil] H λt6 H=>zao 2 t6 t35 H λH=>zaf 0 t6 λt36=>zae false 1 t36 H λt37=>zah 0 t37 λt38=>zac .gtr false t38 (.int .i64 40) λt39=>zad t39 false H (λK'=>zaf 1 t6 (K' · H)) λt41 H=>zad t39 false H (λK'=>zae false 1 t41 H (K' · H)) λt42 H=>zad t39 false H (λK'=>zah 1 t42 (K' · H)) λt43 H=>zad t39 false H (λK'=>zac .gtr false t43 (.int .i64 8) (K' · H)) λt44 H=>zam t39 (.bool true) t44 λt45=>zag t45 (K (.bool false) H) (zay [(.int .i64 0)] H λt7 H=>zao 1 t7 (.int .i64 20) H λH=>zaf 1 t6 λt46=>zae false 1 t46 H λt47=>zah 1 t47 λt48=>zDA t7 t13 t14 t15 t30 t31 t32 t47 t48 (.int .i64 0) H K Kb4 Kb9)) (zac .add false t15 (.int .i64 1) λt58=>Kb4 (ziK t13 t14 t58) H)
def zut:Prop:=zac .lss false t15 t14 λt16=>zag t16 (zak 3 t13 t15 λt17=>zae true 3 t17 H λt18=>zay [(.str []),(.int .i64 0),.snil] H λt4 H=>zao 3 t4 t18 H λH=>zaf 0 t4 λt19=>zae false 1 t19 H λt20=>zah 0 t20 λt21=>zac .gtr false t21 (.int .i64 40) λt22=>zad t22 false H (λK'=>zaf 2 t4 (K' · H)) λt24 H=>zad t22 false H (λK'=>zae false 1 t24 H (K' · H)) λt25 H=>zad t22 false H (λK'=>zah 1 t25 (K' · H)) λt26 H=>zad t22 false H (λK'=>zac .gtr false t26 (.int .i64 10) (K' · H)) λt27 H=>zam t22 (.bool true) t27 λt28=>zag t28 (K (.bool false) H) (zaf 2 t4 λt29=>zae false 1 t29 H λt30=>zah 1 t30 λt31=>zDC t13 t14 t15 t30 t31 (.int .i64 0) H K Kb4)) (K (.bool true) H)
def zur:Prop:=zah 1 t0 λt11=>zac .gtr false t11 (.int .i64 14) λt12=>zag t12 (K (.bool false) H) (zah 1 t0 λt14=>zDB t0 t14 (.int .i64 0) H K)
def zLS (_:Nat):List Bool:=[]
noncomputable def zLT:Code:=Tryz.f123.body.getD .skip
def zA2:Prop:=zat t1 H λt4 H=>zaq [.snil,(.int .i64 0),(.int .i64 0)] [(0,1),(1,1),(2,1)] [(0,t0),(1,t2),(2,(.int .i64 200))] λt10=>zat t10 H λt11 H=>zae true 3 t4 H λt13=>ACalls tP zjF [t11,t13] H λt14 H=>K t14 H
def zeC:Nat→List Bool | 171022=>rl false [2,2,16,1,53,1,34] | 150010=>rl false [2,2,1,2,13,2,87] | 100007=>rl false [2,2,1,2,13,1,88] | 100002=>rl false [2,2,105] | _=>[]
noncomputable def zeD:Code:=Tryz.f166.body.getD .skip
noncomputable def zmq:List ResultVar:=Tryz.f166.results.toList
def zgV:Prop:=zaf 0 t3 λt79=>zae false 1 t79 H λt80=>zac .neq false t80 (.int .i64 4) λt81=>zad t81 true H (λK'=>zaf 0 t3 (K' · H)) λt83 H=>zad t81 true H (λK'=>zae false 1 t83 H (K' · H)) λt84 H=>zad t81 true H (λK'=>zac .neq false t84 (.int .i64 5) (K' · H)) λt85 H=>zam t81 t85 (.bool false) λt86=>zad t86 true H (λK'=>zaf 1 t3 (K' · H)) λt88 H=>zad t86 true H (λK'=>zae false 1 t88 H (K' · H)) λt89 H=>zad t86 true H (λK'=>zac .neq false t89 (.int .i64 0) (K' · H)) λt90 H=>zam t86 t90 (.bool false) λt91=>zag t91 (K (.bool false) H) (zaf 2 t3 λt92=>zae false 1 t92 H λt93=>zah 1 t93 λt94=>zac .lss false t94 t5 λt96=>zad t96 false H (λK'=>zaf 2 t3 (K' · H)) λt98 H=>zad t96 false H (λK'=>zae false 1 t98 H (K' · H)) λt99 H=>zad t96 false H (λK'=>zah 1 t99 (K' · H)) λt100 H=>zad t96 false H (λK'=>K' t6 H) λt101 H=>zad t96 false H (λK'=>zac .gtr false t100 t101 (K' · H)) λt102 H=>zam t96 (.bool true) t102 λt103=>zag t103 (K (.bool false) H) (zaf 2 t3 λt104=>zae false 1 t104 H λt105=>zcE zjQ [t2] λt106=>ACalls tP zfz [t105,t106] H λt107 H=>aUn .not t107 λt108=>K t108 H))
def zdH:Prop:=zgV t2 t3 t5 t6 H K
noncomputable def zPs:Code:=zar [1,1,1,1,0,1,0,1,1,1,1,1,1,1,1,1] zeD
def zPr:AExit→List AV→zaa→Prop:=zas tP zeC [1,1,1,1,0,1,0,1,1,1,1,1,1,1,1,1] zeD (zaz tP zmq K)
def zts:Prop:=AWp tP zPs (zPr K) (ux 2 (t2::t3::ux 16 (t20::ux 53 (t74::ux 34 [])))) H
def zmp:Prop:=zag t74 (zdH t2 t3 (.int .i64 1) (.int .i64 1) H K) (zac .eql false t20 (.int .i64 9) λt78=>zag t78 (zdH t2 t3 (.int .i64 1) (.int .i64 7) H K) (K (.bool false) H))
noncomputable def zPq:Code:=zar [1,1,1,1,0,1,0,1] zeD
def zPp:AExit→List AV→zaa→Prop:=zas tP zeC [1,1,1,1,0,1,0,1] zeD (zaz tP zmq K)
def zmo:Prop:=AWp tP zPq (zPp K) (ux 2 (t2::t3::ux 1 (t5::t6::ux 13 (t20::t21::ux 87 [])))) H
def zdV:Prop:=zag t21 (zdH t2 t3 t5 t6 H K) (zac .eql false t20 (.int .i64 4) λt26=>zag t26 (zab H (λK'=>zaf 1 t3 (K' · H)) λt27=>zab H (λK'=>zaj false 1 t27 H (K' · H)) λt28=>zab H (λK'=>zac .lss false t28 (.int .i64 0) (K' · H)) λt29=>zab H (λK'=>K' t29 H) λt30=>zad t30 false H (λK'=>zab H (λK''=>zaf 1 t3 (K'' · H)) (K' · H)) λt31 H=>zad t30 false H (λK'=>zab H (λK''=>zaj false 1 t31 H (K'' · H)) (K' · H)) λt32 H=>zad t30 false H (λK'=>zab H (λK''=>zaj false 1 t2 H (K'' · H)) (K' · H)) λt33 H=>zad t30 false H (λK'=>zab H (λK''=>za7 t33 (K'' · H)) (K' · H)) λt34 H=>zad t30 false H (λK'=>zab H (λK''=>zaf 1 t34 (K'' · H)) (K' · H)) λt35 H=>zad t30 false H (λK'=>zab H (λK''=>zaj false 1 t35 H (K'' · H)) (K' · H)) λt36 H=>zad t30 false H (λK'=>zab H (λK''=>zac .geq false t32 t36 (K'' · H)) (K' · H)) λt37 H=>zab H (λK'=>zam t30 (.bool true) t37 (K' · H)) λt38=>zag t38 (K (.bool false) H) (zdH t2 t3 t5 t6 H K)) (zac .eql false t20 (.int .i64 5) λt40=>zag t40 (zab H (λK'=>zaf 1 t3 (K' · H)) λt41=>zab H (λK'=>zaj false 1 t41 H (K' · H)) λt42=>zab H (λK'=>zac .lss false t42 (.int .i64 0) (K' · H)) λt43=>zab H (λK'=>K' t43 H) λt44=>zad t44 false H (λK'=>zab H (λK''=>zaf 1 t3 (K'' · H)) (K' · H)) λt45 H=>zad t44 false H (λK'=>zab H (λK''=>zaj false 1 t45 H (K'' · H)) (K' · H)) λt46 H=>zad t44 false H (λK'=>zab H (λK''=>zaj false 1 t2 H (K'' · H)) (K' · H)) λt47 H=>zad t44 false H (λK'=>zab H (λK''=>za7 t47 (K'' · H)) (K' · H)) λt48 H=>zad t44 false H (λK'=>zab H (λK''=>zaf 0 t48 (K'' · H)) (K' · H)) λt49 H=>zad t44 false H (λK'=>zab H (λK''=>zaj false 1 t49 H (K'' · H)) (K' · H)) λt50 H=>zad t44 false H (λK'=>zab H (λK''=>zah 1 t50 (K'' · H)) (K' · H)) λt51 H=>zad t44 false H (λK'=>zab H (λK''=>zac .geq false t46 t51 (K'' · H)) (K' · H)) λt52 H=>zab H (λK'=>zam t44 (.bool true) t52 (K' · H)) λt53=>zag t53 (K (.bool false) H) (zab H (λK'=>zaj false 1 t2 H (K' · H)) λt54=>zab H (λK'=>za7 t54 (K' · H)) λt55=>zab H (λK'=>zaf 0 t55 (K' · H)) λt56=>zab H (λK'=>zaj false 1 t56 H (K' · H)) λt57=>zab H (λK'=>zaf 1 t3 (K' · H)) λt58=>zab H (λK'=>zaj false 1 t58 H (K' · H)) λt59=>zab H (λK'=>zak 3 t57 t59 (K' · H)) λt60=>zab H (λK'=>zaf 1 t60 (K' · H)) λt61=>zab H (λK'=>zaj false 1 t61 H (K' · H)) λt62=>zab H (λK'=>zaj false 1 t2 H (K' · H)) λt63=>zab H (λK'=>za7 t63 (K' · H)) λt64=>zab H (λK'=>zaf 0 t64 (K' · H)) λt65=>zab H (λK'=>zaj false 1 t65 H (K' · H)) λt66=>zab H (λK'=>zaf 1 t3 (K' · H)) λt67=>zab H (λK'=>zaj false 1 t67 H (K' · H)) λt68=>zab H (λK'=>zak 3 t66 t68 (K' · H)) λt69=>zab H (λK'=>zaf 1 t69 (K' · H)) λt70=>zab H (λK'=>zaj false 1 t70 H (K' · H)) λt71=>zab H (λK'=>K' t62 H) λt5=>zab H (λK'=>K' t71 H) λt6=>zdH t2 t3 t5 t6 H K)) (zac .eql false t20 (.int .i64 6) λt73=>zag t73 (zdH t2 t3 (.int .i64 2) (.int .i64 6) H K) (zac .eql false t20 (.int .i64 7) λt75=>zag t75 (zts t2 t3 t20 t75 H K) (zac .eql false t20 (.int .i64 8) λt76=>zts t2 t3 t20 t76 H K)))))
noncomputable def zPn:Code:=zar [1,1,1,1,0,1] zeD
def zPm:AExit→List AV→zaa→Prop:=zas tP zeC [1,1,1,1,0,1] zeD (zaz tP zmq K)
def zCk:Prop:=AWp tP zPn (zPm K) (ux 2 (t2::t3::ux 1 (t5::t6::ux 13 (t20::ux 88 [])))) H
def ztr:Prop:=zac .eql false t20 (.int .i64 1) λt22=>zag t22 (zmo t2 t3 t5 t6 t20 t22 H K) (zac .eql false t20 (.int .i64 2) λt23=>zag t23 (zmo t2 t3 t5 t6 t20 t23 H K) (zac .eql false t20 (.int .i64 3) λt24=>zmo t2 t3 t5 t6 t20 t24 H K))
noncomputable def zPk:Code:=zar [1,1] zeD
def zPj:AExit→List AV→zaa→Prop:=zas tP zeC [1,1] zeD (zaz tP zmq K)
def ztp:Prop:=AWp tP zPk (zPj K) (ux 2 (t2::t3::ux 105 [])) H
def ztq:Prop:=zae false 1 t2 H λt14=>za7 t14 λt15=>zaf 2 t15 λt16=>zae false 1 t16 H λt17=>zac .lss false t17 (.int .i64 0) λt18=>zag t18 (K (.bool false) H) (zaf 0 t3 λt19=>zae false 1 t19 H λt20=>zCk t2 t3 (.int .i64 0) (.int .i64 0) t20 H K)
def zCj:Prop:=zat t0 H λt2 H=>zat t1 H λt3 H=>zae false 1 t2 H λt7=>za7 t7 λt8=>zaf 2 t8 λt9=>zae false 1 t9 H λt10=>zac .sub false t10 (.int .i64 1) λt11=>za7 t7 λt12=>zaf 2 t12 λt13=>zao 1 t13 t11 H λH=>ztp t2 t3 H K
def zRw (_:Nat):List Bool:=[]
noncomputable def zRx:Code:=Tryz.f210.body.getD .skip
def zC1:Prop:=zat t0 H λt2 H=>zae false 1 t1 H λt4=>zae true 3 t2 H λt5=>ACalls tP zjF [t4,t5] H λt6 H=>aUn .not t6 λt7=>K t7 H
def zRt (_:Nat):List Bool:=[]
noncomputable def zRu:Code:=Tryz.f202.body.getD .skip
def zC0:Prop:=ACalls tP zqH [t0,t1] H λt7 H=>zac .geq false t7 (.int .i64 0) λt8=>K t8 H
def zne:Nat→List Bool | 2=>rl false [0,2,5,2,10] | _=>[]
noncomputable def zuk:Code:=Tryz.f229.body.getD .skip
noncomputable def zSw:List ResultVar:=Tryz.f229.results.toList
def znf:List AV:=t0::t1::ux 5 (t7::t8::ux 10 [])
def zSu:List Bool:=zne 2
noncomputable def zSs:Code:=zar [1,0,1,0,0] zuk
def zSr:AExit→List AV→zaa→Prop:=zas tP zne [1,0,1,0] zuk (zaz tP zSw K)
def zDi:Prop:=ALoop tP zSs (zSr K) (znf t0 t1 t7 t8) H
def zuj:Prop:=zac .lss false t8 t7 λt9=>zag t9 (zak 3 t0 t8 λt14=>zae true 3 t14 H λt15=>aCallV tP t1 [t15] H λt16 H=>zag t16 (K t8 H) (zac .add false t8 (.int .i64 1) λt18=>Kb2 (znf t0 t1 t7 t18) H)) (K (.int .i64 (-1)) H)
def zDh:Prop:=zah 1 t0 λt7=>zDi t0 t1 t7 (.int .i64 0) H K
variable {t0 t1 t2 t3 t5 t6 t7 t8 t13 t14 t15 t20 t21 t30 t31 t32 t47 t48 t49 t74} {H} {K} {Kb2 Kb4 Kb5 Kb9}
theorem zVU (Inv:Nat→AV→zaa→Prop) (n:Nat) (h0:HSc H→Inv n t5 H)
  (ac:Rd1 (λt5=>zoc t1 t2 t5) (λt5=>λH Kb5=>zvh t1 t2 t5 H K Kb5) H Inv):zEq t1 t2 t5 H K:=
 lp1 (M:=zob) zVV t5 (by kernel_rfl) Inv n h0 ac
theorem zVW (h:HSc H→zEp t0 t1 H K):ACalls tP zh0 [t0,t1] H K:=
 acb zob Tryz.func72 zvi (by kernel_rfl) (by kernel_rfl) h
theorem zTz (h:HSc H→zDF t0 H K):ACalls tP zqO [t0] H K:=
 acb zTx Tryz.func38 zTy (by kernel_rfl) (by kernel_rfl) h
theorem zTq (Inv:Nat→AV→zaa→Prop) (n:Nat) (h0:HSc H→Inv n t49 H)
  (ac:Rd1 (λt49=>znm t7 t13 t14 t15 t30 t31 t32 t47 t48 t49) (λt49=>λH Kb15=>zus t7 t13 t14 t15 t30 t31 t32 t47 t48 t49 H K Kb4 Kb9 Kb15) H Inv):zDA t7 t13 t14 t15 t30 t31 t32 t47 t48 t49 H K Kb4 Kb9:=
 lp1 (M:=zea) zTt t49 (by kernel_rfl) Inv n h0 ac
theorem zTs (Inv:Nat→AV→zaa→Prop) (n:Nat) (h0:HSc H→Inv n t32 H)
  (ac:Rd1 (λt32=>znn t13 t14 t15 t30 t31 t32) (λt32=>λH Kb9=>zuu t13 t14 t15 t30 t31 t32 H K Kb4 Kb9) H Inv):zDC t13 t14 t15 t30 t31 t32 H K Kb4:=
 lp1 (M:=zea) zDE t32 (by kernel_rfl) Inv n h0 ac
theorem zTr (Inv:Nat→AV→zaa→Prop) (n:Nat) (h0:HSc H→Inv n t15 H)
  (ac:Rd1 (λt15=>ziK t13 t14 t15) (λt15=>λH Kb4=>zut t13 t14 t15 H K Kb4) H Inv):zDB t13 t14 t15 H K:=
 lp1 (M:=zea) zDD t15 (by kernel_rfl) Inv n h0 ac
theorem zTu (h:HSc H→zur t0 H K):ACalls tP zqN [t0] H K:=
 acb zea Tryz.func37 zuv (by kernel_rfl) (by kernel_rfl) h
theorem zLU (h:HSc H→zA2 t0 t1 t2 H K):ACalls tP zhM [t0,t1,t2] H K:=
 acb zLS Tryz.func123 zLT (by kernel_rfl) (by kernel_rfl) h
theorem zCm (h:HSc H→zmp t2 t3 t20 t74 H K):zts t2 t3 t20 t74 H K:=
 λB w G a hH hF hd=>zge (M:=zeC) _ _ _ _ (Eq.mpr (by kernel_rfl) (h hH.sc)) B w G a hH hF hd
theorem zCl (h:HSc H→zdV t2 t3 t5 t6 t20 t21 H K):zmo t2 t3 t5 t6 t20 t21 H K:=
 λB w G a hH hF hd=>zge (M:=zeC) _ _ _ _ (Eq.mpr (by kernel_rfl) (h hH.sc)) B w G a hH hF hd
theorem zPo (h:HSc H→ztr t2 t3 t5 t6 t20 H K):zCk t2 t3 t5 t6 t20 H K:=
 λB w G a hH hF hd=>zge (M:=zeC) _ _ _ _ (Eq.mpr (by kernel_rfl) (h hH.sc)) B w G a hH hF hd
theorem zPl (h:HSc H→ztq t2 t3 H K):ztp t2 t3 H K:=
 λB w G a hH hF hd=>zge (M:=zeC) _ _ _ _ (Eq.mpr (by kernel_rfl) (h hH.sc)) B w G a hH hF hd
theorem zPt (h:HSc H→zCj t0 t1 H K):ACalls tP zjF [t0,t1] H K:=
 acb zeC Tryz.func166 zeD (by kernel_rfl) (by kernel_rfl) h
theorem zRy (h:HSc H→zC1 t0 t1 H K):ACalls tP zjQ [t0,t1] H K:=
 acb zRw Tryz.func210 zRx (by kernel_rfl) (by kernel_rfl) h
theorem zRv (h:HSc H→zC0 t0 t1 H K):ACalls tP zfz [t0,t1] H K:=
 acb zRt Tryz.func202 zRu (by kernel_rfl) (by kernel_rfl) h
theorem zSt (Inv:Nat→AV→zaa→Prop) (n:Nat) (h0:HSc H→Inv n t8 H)
  (ac:Rd1 (λt8=>znf t0 t1 t7 t8) (λt8=>λH Kb2=>zuj t0 t1 t7 t8 H K Kb2) H Inv):zDi t0 t1 t7 t8 H K:=
 lp1 (M:=zne) zSu t8 (by kernel_rfl) Inv n h0 ac
theorem zSv (h:HSc H→zDh t0 t1 H K):ACalls tP zqH [t0,t1] H K:=
 acb zne Tryz.func229 zuk (by kernel_rfl) (by kernel_rfl) h
end
section
variable (t0 t1 t2 t3 t4 t5 t7 t8 t9 t14 t29 t30 t31 t35 t36 t37 t59 t60 t61 t77 t78 t79 t93 t94 t95:AV) (H:zaa) (K:Kt) (Kb3 Kb5 Kb8 Kb13 Kb20:Lt)
def zd9:Nat→List Bool | 8=>rl false [2,1,1,1,3,2,49,3,46] | 13=>rl false [2,1,1,1,3,2,67,3,28] | 20=>rl false [4,1,9,1,78,3,12] | _=>[]
noncomputable def zfU:Code:=Tryz.f167.body.getD .skip
noncomputable def ztw:List ResultVar:=Tryz.f167.results.toList
def zmt:List AV:=ux 2 (t2::ux 1 (t4::ux 3 (t8::t9::ux 49 (t59::t60::t61::ux 46 []))))
def zPF:List Bool:=zd9 8
noncomputable def zPz:Code:=zar [1,1,1,1,1,0,1,0,0] zfU
def zPw:AExit→List AV→zaa→Prop:=zas tP zd9 [1,1,1,1,1,0,1,0] zfU (zaz tP ztw K)
def zCp:Prop:=ALoop tP zPz (zPw K) (zmt t2 t4 t8 t9 t59 t60 t61) H
def zmr:List AV:=ux 2 (t2::ux 1 (t4::ux 3 (t8::t9::ux 67 (t77::t78::t79::ux 28 []))))
def zPD:List Bool:=zd9 13
noncomputable def zPx:Code:=zar [1,1,1,1,1,1,0,1,0,0] zfU
def zPu:AExit→List AV→zaa→Prop:=zas tP zd9 [1,1,1,1,1,1,0,1,0] zfU (zaz tP ztw K)
def zCo:Prop:=ALoop tP zPx (zPu K) (zmr t2 t4 t8 t9 t77 t78 t79) H
def zms:List AV:=ux 4 (t4::ux 9 (t14::ux 78 (t93::t94::t95::ux 12 [])))
def zPE:List Bool:=zd9 20
noncomputable def zPy:Code:=zar [1,1,1,1,1,1,1,1,0,1,0,0] zfU
def zPv:AExit→List AV→zaa→Prop:=zas tP zd9 [1,1,1,1,1,1,1,1,0,1,0] zfU (zaz tP ztw K)
def zmu:Prop:=ALoop tP zPy (zPv K) (zms t4 t14 t93 t94 t95) H
def ztu:Prop:=zac .lss false t95 t94 λt96=>zag t96 (zak 3 t93 t95 λt97=>zae true 3 t97 H λt98=>zay [(.int .i64 0),(.int .i64 0),.snil] H λt16 H=>zao 3 t16 t98 H λH=>zae true 3 t16 H λt100=>zaf 2 t4 λt101=>zae false 1 t101 H λt102=>ACalls tP zhR [t100,t102] H λt103 H=>zau 3 [(.int .i64 0),(.int .i64 0),.snil] 1 [(0,t103)] λt104=>zav za1 3 40 t14 t104 H λt105 H=>zac .add false t95 (.int .i64 1) λt106=>Kb20 (zms t4 t105 t93 t94 t106) H) (zaF [t14,(.bool true)] (K · H))
def ztt:Prop:=zac .lss false t79 t78 λt80=>zag t80 (zak 3 t77 t79 λt81=>zae true 3 t81 H λt82=>zay [(.int .i64 0),(.int .i64 0),.snil] H λt13 H=>zao 3 t13 t82 H λH=>zae true 3 t13 H λt83=>ACalls tP zjT [t83,t9] H λt85 H=>zac .gtr false t85 (.int .i64 200) λt86=>zag t86 (zaF [.snil,(.bool false)] (K · H)) (zac .add false t79 (.int .i64 1) λt87=>Kb13 (zmr t2 t4 t8 t9 t77 t78 t87) H)) (zaf 2 t8 λt88=>zae false 1 t88 H λt89=>zak 2 t89 t2 λt91=>zaf 1 t91 λt92=>zae false 1 t92 H λt93=>zah 1 t93 λt94=>zmu t4 .snil t93 t94 (.int .i64 0) H K)
def ztv:Prop:=zac .lss false t61 t60 λt62=>zag t62 (zak 3 t59 t61 λt64=>zae true 3 t64 H λt65=>zay [(.int .i64 0),(.int .i64 0),.snil] H λt11 H=>zao 3 t11 t65 H λH=>zae true 3 t11 H λt68=>ACalls tP zjR [t68] H λt69 H=>zak 1 t9 t61 λt70=>zao 1 t70 t69 H λH=>zac .add false t61 (.int .i64 1) λt71=>Kb8 (zmt t2 t4 t8 t9 t59 t60 t71) H) (zaf 2 t8 λt72=>zae false 1 t72 H λt73=>zak 2 t73 t2 λt75=>zaf 1 t75 λt76=>zae false 1 t76 H λt77=>zah 1 t77 λt78=>zCo t2 t4 t8 t9 t77 t78 (.int .i64 0) H K)
def zCn:Prop:=zat t1 H λt4 H=>zaf 0 t4 λt17=>zae false 1 t17 H λt18=>zac .neq false t18 (.int .i64 5) λt19=>zad t19 false H (λK'=>zaf 1 t4 (K' · H)) λt21 H=>zad t19 false H (λK'=>zae false 1 t21 H (K' · H)) λt22 H=>zad t19 false H (λK'=>zac .lss false t22 (.int .i64 0) (K' · H)) λt23 H=>zam t19 (.bool true) t23 λt24=>zad t24 false H (λK'=>zaf 1 t4 (K' · H)) λt26 H=>zad t24 false H (λK'=>zae false 1 t26 H (K' · H)) λt27 H=>zad t24 false H (λK'=>K' t0 H) λt28 H=>zad t24 false H (λK'=>zah 1 t28 (K' · H)) λt29 H=>zad t24 false H (λK'=>zac .geq false t27 t29 (K' · H)) λt30 H=>zam t24 (.bool true) t30 λt31=>zag t31 (zaF [.snil,(.bool false)] (K · H)) (zaf 1 t4 λt33=>zae false 1 t33 H λt34=>zak 3 t0 t34 λt35=>zae true 3 t35 H λt36=>zay [(.str []),(.int .i64 0),.snil] H λt8 H=>zao 3 t8 t36 H λH=>zaf 2 t4 λt37=>zae false 1 t37 H λt38=>zah 1 t38 λt39=>zaf 1 t8 λt40=>zae false 1 t40 H λt41=>zac .neq false t39 t41 λt42=>zad t42 false H (λK'=>K' t2 H) λt44 H=>zad t42 false H (λK'=>zac .lss false t44 (.int .i64 0) (K' · H)) λt45 H=>zam t42 (.bool true) t45 λt46=>zad t46 false H (λK'=>K' t2 H) λt48 H=>zad t46 false H (λK'=>zaf 2 t8 (K' · H)) λt49 H=>zad t46 false H (λK'=>zae false 1 t49 H (K' · H)) λt50 H=>zad t46 false H (λK'=>zah 1 t50 (K' · H)) λt51 H=>zad t46 false H (λK'=>zac .geq false t48 t51 (K' · H)) λt52 H=>zam t46 (.bool true) t52 λt53=>zag t53 (zaF [.snil,(.bool false)] (K · H)) (zaf 2 t4 λt54=>zae false 1 t54 H λt55=>zah 1 t55 λt56=>zbe 8 [(.int .i64 0)] t56 t56 H λt57 H=>zaf 2 t4 λt58=>zae false 1 t58 H λt59=>zah 1 t59 λt60=>zCp t2 t4 t8 t57 t59 t60 (.int .i64 0) H K))
def zm0:Nat→List Bool | 3=>rl false [3,1,3,3,9] | _=>[]
noncomputable def zt1:Code:=Tryz.f211.body.getD .skip
noncomputable def zRE:List ResultVar:=Tryz.f211.results.toList
def zm1:List AV:=ux 3 (t3::ux 3 (t7::t8::t9::ux 9 []))
def zRC:List Bool:=zm0 3
noncomputable def zRA:Code:=zar [1,1,0,1,0,0] zt1
def zRz:AExit→List AV→zaa→Prop:=zas tP zm0 [1,1,0,1,0] zt1 (zaz tP zRE K)
def zC3:Prop:=ALoop tP zRA (zRz K) (zm1 t3 t7 t8 t9) H
def zt0:Prop:=zac .lss false t9 t8 λt10=>zag t10 (zak 3 t7 t9 λt11=>zae true 3 t11 H λt12=>zay [(.int .i64 0),(.int .i64 0),.snil] H λt5 H=>zao 3 t5 t12 H λH=>zae true 3 t5 H λt14=>ACalls tP zjR [t14] H λt15 H=>zac .add false t3 t15 λt16=>zac .add false t9 (.int .i64 1) λt17=>Kb3 (zm1 t16 t7 t8 t17) H) (K t3 H)
def zC2:Prop:=zat t0 H λt1 H=>zaf 2 t1 λt6=>zae false 1 t6 H λt7=>zah 1 t7 λt8=>zC3 (.int .i64 1) t7 t8 (.int .i64 0) H K
def zm2:Nat→List Bool | 5=>rl false [1,1,3,1,23,3,12] | _=>[]
noncomputable def zt4:Code:=Tryz.f212.body.getD .skip
noncomputable def zRO:List ResultVar:=Tryz.f212.results.toList
def zm3:List AV:=ux 1 (t1::ux 3 (t5::ux 23 (t29::t30::t31::ux 12 [])))
def zRM:List Bool:=zm2 5
noncomputable def zRK:Code:=zar [1,1,1,0,1,0,0] zt4
def zRJ:AExit→List AV→zaa→Prop:=zas tP zm2 [1,1,1,0,1,0] zt4 (zaz tP zRO K)
def zt6:Prop:=ALoop tP zRK (zRJ K) (zm3 t1 t5 t29 t30 t31) H
def zt5:Prop:=K t5 H
def zm4:Prop:=zt5 t5 H K
def zt3:Prop:=zac .lss false t31 t30 λt32=>zag t32 (zak 3 t29 t31 λt33=>zae true 3 t33 H λt34=>zay [(.int .i64 0),(.int .i64 0),.snil] H λt7 H=>zao 3 t7 t34 H λH=>zae true 3 t7 H λt36=>ACalls tP zjT [t36,t1] H λt38 H=>zac .add false t5 t38 λt39=>zac .gtr false t39 (.int .i64 200) λt41=>zag t41 (zm4 t39 H K) (zac .add false t31 (.int .i64 1) λt42=>Kb5 (zm3 t1 t39 t29 t30 t42) H)) (zm4 t5 H K)
def zt2:Prop:=zat t0 H λt2 H=>zaf 0 t2 λt8=>zae false 1 t8 H λt9=>zac .eql false t9 (.int .i64 4) λt10=>zad t10 true H (λK'=>zaf 1 t2 (K' · H)) λt12 H=>zad t10 true H (λK'=>zae false 1 t12 H (K' · H)) λt13 H=>zad t10 true H (λK'=>zac .geq false t13 (.int .i64 0) (K' · H)) λt14 H=>zam t10 t14 (.bool false) λt15=>zad t15 true H (λK'=>zaf 1 t2 (K' · H)) λt17 H=>zad t15 true H (λK'=>zae false 1 t17 H (K' · H)) λt18 H=>zad t15 true H (λK'=>K' t1 H) λt19 H=>zad t15 true H (λK'=>zah 1 t19 (K' · H)) λt20 H=>zad t15 true H (λK'=>zac .lss false t18 t20 (K' · H)) λt21 H=>zam t15 t21 (.bool false) λt22=>zag t22 (zaf 1 t2 λt24=>zae false 1 t24 H λt25=>zak 1 t1 t25 λt26=>zae false 1 t26 H λt27=>K t27 H) (zaf 2 t2 λt28=>zae false 1 t28 H λt29=>zah 1 t29 λt30=>zt6 t1 (.int .i64 1) t29 t30 (.int .i64 0) H K)
def zm5:Nat→List Bool | 5=>rl false [1,1,2,2,29,3,13] | _=>[]
noncomputable def zt9:Code:=Tryz.f213.body.getD .skip
noncomputable def zRV:List ResultVar:=Tryz.f213.results.toList
def zm6:List AV:=ux 1 (t1::ux 2 (t4::t5::ux 29 (t35::t36::t37::ux 13 [])))
def zRT:List Bool:=zm5 5
noncomputable def zRR:Code:=zar [1,1,1,0,1,0,0] zt9
def zRQ:AExit→List AV→zaa→Prop:=zas tP zm5 [1,1,1,0,1,0] zt9 (zaz tP zRV K)
def ziJ:Prop:=ALoop tP zRR (zRQ K) (zm6 t1 t4 t5 t35 t36 t37) H
def zt8:Prop:=zac .lss false t37 t36 λt38=>zag t38 (zak 3 t35 t37 λt39=>zae true 3 t39 H λt40=>zay [(.int .i64 0),(.int .i64 0),.snil] H λt7 H=>zao 3 t7 t40 H λH=>zab H (λK'=>zaf 2 t5 (K' · H)) λt41=>zab H (λK'=>zaj false 1 t41 H (K' · H)) λt42=>zab H (λK'=>zaj true 3 t7 H (K' · H)) λt43=>zab H (λK'=>K' t1 H) λt44=>zaA H (λH K'=>ACalls tP zhR [t43,t44] H K') λt45=>zab H (λK'=>zau 3 [(.int .i64 0),(.int .i64 0),.snil] 1 [(0,t45)] (K' · H)) λt46=>zav za1 3 40 t42 t46 H λt47 H=>zab H (λK'=>zaf 2 t5 (K' · H)) λt48=>zao 1 t48 t47 H λH=>zac .add false t37 (.int .i64 1) λt49=>Kb5 (zm6 t1 t4 t5 t35 t36 t49) H) (zae true 3 t5 H λt50=>zao 3 t4 t50 H λH=>zae true 3 t4 H λr0=>K r0 H)
def zt7:Prop:=zat t0 H λt2 H=>zay [(.int .i64 0),(.int .i64 0),.snil] H λt4 H=>zaf 0 t2 λt8=>zae false 1 t8 H λt9=>zac .eql false t9 (.int .i64 4) λt10=>zad t10 true H (λK'=>zaf 1 t2 (K' · H)) λt12 H=>zad t10 true H (λK'=>zae false 1 t12 H (K' · H)) λt13 H=>zad t10 true H (λK'=>zac .geq false t13 (.int .i64 0) (K' · H)) λt14 H=>zam t10 t14 (.bool false) λt15=>zad t15 true H (λK'=>zaf 1 t2 (K' · H)) λt17 H=>zad t15 true H (λK'=>zae false 1 t17 H (K' · H)) λt18 H=>zad t15 true H (λK'=>K' t1 H) λt19 H=>zad t15 true H (λK'=>zah 1 t19 (K' · H)) λt20 H=>zad t15 true H (λK'=>zac .lss false t18 t20 (K' · H)) λt21 H=>zam t15 t21 (.bool false) λt22=>zag t22 (zaf 1 t2 λt24=>zae false 1 t24 H λt25=>zak 3 t1 t25 λt26=>zae true 3 t26 H λt27=>ACalls tP zhR [t27,.snil] H λt28 H=>zao 3 t4 t28 H λH=>zae true 3 t4 H λr0=>K r0 H) (zaf 0 t2 λt29=>zae false 1 t29 H λt30=>zaf 1 t2 λt31=>zae false 1 t31 H λt32=>zaq [(.int .i64 0),(.int .i64 0),.snil] [(0,1),(1,1),(2,1)] [(0,t30),(1,t32)] λt33=>zay [(.int .i64 0),(.int .i64 0),.snil] H λt5 H=>zao 3 t5 t33 H λH=>zaf 2 t2 λt34=>zae false 1 t34 H λt35=>zah 1 t35 λt36=>ziJ t1 t4 t5 t35 t36 (.int .i64 0) H K)
def zUL (_:Nat):List Bool:=[]
noncomputable def zUM:Code:=Tryz.f49.body.getD .skip
def zD1:Prop:=zat t1 H λt4 H=>zae true 3 t4 H λt7=>ACalls tP zh3 [t7] H λt8 H=>zac .leq false t8 (.int .i64 200) λt9=>zad t9 true H (λK'=>K' t0 H) λt11 H=>zad t9 true H (λK'=>zae true 3 t4 H (K' · H)) λt12 H=>zad t9 true H (λK'=>K' t2 H) λt13 H=>zad t9 true H (λK'=>ACalls tP zkf [t11,t12,t13] H K') λt14 H=>zam t9 t14 (.bool false) λt15=>K t15 H
def zoK:Nat→List Bool | 3=>rl false [1,1,1,2,16] | _=>[]
noncomputable def zvU:Code:=Tryz.f95.body.getD .skip
noncomputable def zX2:List ResultVar:=Tryz.f95.results.toList
def zoL:List AV:=ux 1 (t1::ux 1 (t3::t4::ux 16 []))
def zX0:List Bool:=zoK 3
noncomputable def zXY:Code:=zar [1,1,0,1,0,0] zvU
def zXX:AExit→List AV→zaa→Prop:=zas tP zoK [1,1,0,1,0] zvU (zaz tP zX2 K)
def zFe:Prop:=ALoop tP zXY (zXX K) (zoL t1 t3 t4) H
def zvT:Prop:=zaf 2 t1 λt6=>zae false 1 t6 H λt7=>zah 1 t7 λt8=>zac .lss false t4 t8 λt9=>zag t9 (zaf 2 t1 λt13=>zae false 1 t13 H λt14=>zak 3 t14 t4 λt16=>zae true 3 t16 H λt17=>ACalls tP zh3 [t17] H λt18 H=>zac .add false t3 t18 λt19=>zac .add false t4 (.int .i64 1) λt11=>Kb3 (zoL t1 t19 t11) H) (K t3 H)
def zFd:Prop:=zat t0 H λt1 H=>zFe t1 (.int .i64 1) (.int .i64 0) H K
variable {t0 t1 t2 t3 t4 t5 t7 t8 t9 t14 t29 t30 t31 t35 t36 t37 t59 t60 t61 t77 t78 t79 t93 t94 t95} {H} {K} {Kb3 Kb5 Kb8 Kb13 Kb20}
theorem zPB (Inv:Nat→AV→AV→zaa→Prop) (n:Nat) (h0:HSc H→Inv n t14 t95 H)
  (ac:Rd2 (λt14=>λt95=>zms t4 t14 t93 t94 t95) (λt14=>λt95=>λH Kb20=>ztu t4 t14 t93 t94 t95 H K Kb20) H Inv):zmu t4 t14 t93 t94 t95 H K:=
 lp2 (M:=zd9) zPE t14 t95 (by kernel_rfl) Inv n h0 ac
theorem zPA (Inv:Nat→AV→zaa→Prop) (n:Nat) (h0:HSc H→Inv n t79 H)
  (ac:Rd1 (λt79=>zmr t2 t4 t8 t9 t77 t78 t79) (λt79=>λH Kb13=>ztt t2 t4 t8 t9 t77 t78 t79 H K Kb13) H Inv):zCo t2 t4 t8 t9 t77 t78 t79 H K:=
 lp1 (M:=zd9) zPD t79 (by kernel_rfl) Inv n h0 ac
theorem zPC (Inv:Nat→AV→zaa→Prop) (n:Nat) (h0:HSc H→Inv n t61 H)
  (ac:Rd1 (λt61=>zmt t2 t4 t8 t9 t59 t60 t61) (λt61=>λH Kb8=>ztv t2 t4 t8 t9 t59 t60 t61 H K Kb8) H Inv):zCp t2 t4 t8 t9 t59 t60 t61 H K:=
 lp1 (M:=zd9) zPF t61 (by kernel_rfl) Inv n h0 ac
theorem zPG (h:HSc H→zCn t0 t1 t2 H K):ACalls tP zjG [t0,t1,t2] H K:=
 acb zd9 Tryz.func167 zfU (by kernel_rfl) (by kernel_rfl) h
theorem zRB (Inv:Nat→AV→AV→zaa→Prop) (n:Nat) (h0:HSc H→Inv n t3 t9 H)
  (ac:Rd2 (λt3=>λt9=>zm1 t3 t7 t8 t9) (λt3=>λt9=>λH Kb3=>zt0 t3 t7 t8 t9 H K Kb3) H Inv):zC3 t3 t7 t8 t9 H K:=
 lp2 (M:=zm0) zRC t3 t9 (by kernel_rfl) Inv n h0 ac
theorem zRD (h:HSc H→zC2 t0 H K):ACalls tP zjR [t0] H K:=
 acb zm0 Tryz.func211 zt1 (by kernel_rfl) (by kernel_rfl) h
theorem zRL (Inv:Nat→AV→AV→zaa→Prop) (n:Nat) (h0:HSc H→Inv n t5 t31 H)
  (ac:Rd2 (λt5=>λt31=>zm3 t1 t5 t29 t30 t31) (λt5=>λt31=>λH Kb5=>zt3 t1 t5 t29 t30 t31 H K Kb5) H Inv):zt6 t1 t5 t29 t30 t31 H K:=
 lp2 (M:=zm2) zRM t5 t31 (by kernel_rfl) Inv n h0 ac
theorem zRN (h:HSc H→zt2 t0 t1 H K):ACalls tP zjT [t0,t1] H K:=
 acb zm2 Tryz.func212 zt4 (by kernel_rfl) (by kernel_rfl) h
theorem zRS (Inv:Nat→AV→zaa→Prop) (n:Nat) (h0:HSc H→Inv n t37 H)
  (ac:Rd1 (λt37=>zm6 t1 t4 t5 t35 t36 t37) (λt37=>λH Kb5=>zt8 t1 t4 t5 t35 t36 t37 H K Kb5) H Inv):ziJ t1 t4 t5 t35 t36 t37 H K:=
 lp1 (M:=zm5) zRT t37 (by kernel_rfl) Inv n h0 ac
theorem zRU (h:HSc H→zt7 t0 t1 H K):ACalls tP zhR [t0,t1] H K:=
 acb zm5 Tryz.func213 zt9 (by kernel_rfl) (by kernel_rfl) h
theorem zUN (h:HSc H→zD1 t0 t1 t2 H K):ACalls tP zj2 [t0,t1,t2] H K:=
 acb zUL Tryz.func49 zUM (by kernel_rfl) (by kernel_rfl) h
theorem zXZ (Inv:Nat→AV→AV→zaa→Prop) (n:Nat) (h0:HSc H→Inv n t3 t4 H)
  (ac:Rd2 (λt3=>λt4=>zoL t1 t3 t4) (λt3=>λt4=>λH Kb3=>zvT t1 t3 t4 H K Kb3) H Inv):zFe t1 t3 t4 H K:=
 lp2 (M:=zoK) zX0 t3 t4 (by kernel_rfl) Inv n h0 ac
theorem zX1 (h:HSc H→zFd t0 H K):ACalls tP zh3 [t0] H K:=
 acb zoK Tryz.func95 zvU (by kernel_rfl) (by kernel_rfl) h
end
section
variable (t0 t1 t2 t3 t4 t5 t6 t7 t8 t13 t14 t63 t64 t65 t75:AV) (H:zaa) (K:Kt) (Kb3 Kb5 Kb24:Lt)
def zoM:Nat→List Bool | 24=>rl false [0,1,1,1,1,1,2,2,103] | _=>[]
noncomputable def zvW:Code:=Tryz.f96.body.getD .skip
noncomputable def zX8:List ResultVar:=Tryz.f96.results.toList
def zoN:List AV:=t0::ux 1 (t2::ux 1 (t4::ux 2 (t7::t8::ux 103 [])))
def zX6:List Bool:=zoM 24
noncomputable def zX4:Code:=zar [1,1,1,0,1,0,0] zvW
def zX3:AExit→List AV→zaa→Prop:=zas tP zoM [1,1,1,0,1,0] zvW (zaz tP zX8 K)
def zvX:Prop:=ALoop tP zX4 (zX3 K) (zoN t0 t2 t4 t7 t8) H
def zvV:Prop:=zac .lss false t8 t7 λt100=>zag t100 (zaf 2 t4 λt104=>zae false 1 t104 H λt105=>zak 3 t105 t8 λt107=>zae true 3 t107 H λt108=>ACalls tP zkf [t0,t108,t2] H λt110 H=>aUn .not t110 λt111=>zag t111 (K (.bool false) H) (zac .add false t8 (.int .i64 1) λt102=>Kb24 (zoN t0 t2 t4 t7 t102) H)) (K (.bool true) H)
def ziX:Prop:=zvX t0 t2 t4 t7 (.int .i64 0) H K
def zfc:Prop:=ziX t0 t2 t4 t7 H K
def zeg:Prop:=zag t75 (zaf 1 t4 λt78=>zae false 1 t78 H λt79=>zac .neq false t79 (.int .i64 0) λt80=>zad t80 false H (λK'=>K' t7 H) λt82 H=>zad t80 false H (λK'=>zac .neq false t82 (.int .i64 1) (K' · H)) λt83 H=>zam t80 (.bool true) t83 λt84=>zag t84 (K (.bool false) H) (zfc t0 t2 t4 t7 H K)) (zac .eql false t13 (.int .i64 9) λt86=>zag t86 (zaf 1 t4 λt87=>zae false 1 t87 H λt88=>zac .neq false t88 (.int .i64 0) λt89=>zad t89 false H (λK'=>K' t7 H) λt91 H=>zad t89 false H (λK'=>zac .lss false t91 (.int .i64 1) (K' · H)) λt92 H=>zam t89 (.bool true) t92 λt93=>zad t93 false H (λK'=>K' t7 H) λt95 H=>zad t93 false H (λK'=>zac .gtr false t95 (.int .i64 7) (K' · H)) λt96 H=>zam t93 (.bool true) t96 λt97=>zag t97 (K (.bool false) H) (zfc t0 t2 t4 t7 H K)) (K (.bool false) H))
def zbX:Prop:=zag t14 (zaf 1 t4 λt18=>zae false 1 t18 H λt19=>zac .eql false t19 (.int .i64 0) λt20=>zad t20 true H (λK'=>K' t7 H) λt22 H=>zad t20 true H (λK'=>zac .eql false t22 (.int .i64 0) (K' · H)) λt23 H=>zam t20 t23 (.bool false) λt24=>K t24 H) (zac .eql false t13 (.int .i64 4) λt26=>zag t26 (zaf 1 t4 λt27=>zae false 1 t27 H λt28=>zac .geq false t28 (.int .i64 0) λt29=>zad t29 true H (λK'=>zaf 1 t4 (K' · H)) λt31 H=>zad t29 true H (λK'=>zae false 1 t31 H (K' · H)) λt32 H=>zad t29 true H (λK'=>K' t2 H) λt33 H=>zad t29 true H (λK'=>zac .lss false t32 t33 (K' · H)) λt34 H=>zam t29 t34 (.bool false) λt35=>zad t35 true H (λK'=>K' t7 H) λt37 H=>zad t35 true H (λK'=>zac .eql false t37 (.int .i64 0) (K' · H)) λt38 H=>zam t35 t38 (.bool false) λt39=>K t39 H) (zac .eql false t13 (.int .i64 5) λt41=>zag t41 (zaf 1 t4 λt42=>zae false 1 t42 H λt43=>zac .lss false t43 (.int .i64 0) λt44=>zad t44 false H (λK'=>zaf 1 t4 (K' · H)) λt46 H=>zad t44 false H (λK'=>zae false 1 t46 H (K' · H)) λt47 H=>zad t44 false H (λK'=>K' t0 H) λt48 H=>zad t44 false H (λK'=>zah 1 t48 (K' · H)) λt49 H=>zad t44 false H (λK'=>zac .geq false t47 t49 (K' · H)) λt50 H=>zam t44 (.bool true) t50 λt51=>zad t51 false H (λK'=>K' t7 H) λt53 H=>zad t51 false H (λK'=>K' t0 H) λt54 H=>zad t51 false H (λK'=>zaf 1 t4 (K' · H)) λt55 H=>zad t51 false H (λK'=>zae false 1 t55 H (K' · H)) λt56 H=>zad t51 false H (λK'=>zak 3 t54 t56 (K' · H)) λt57 H=>zad t51 false H (λK'=>zaf 1 t57 (K' · H)) λt58 H=>zad t51 false H (λK'=>zae false 1 t58 H (K' · H)) λt59 H=>zad t51 false H (λK'=>zac .neq false t53 t59 (K' · H)) λt60 H=>zam t51 (.bool true) t60 λt61=>zag t61 (K (.bool false) H) (zfc t0 t2 t4 t7 H K)) (zac .eql false t13 (.int .i64 6) λt63=>zag t63 (zaf 1 t4 λt64=>zae false 1 t64 H λt65=>zac .neq false t65 (.int .i64 0) λt66=>zad t66 false H (λK'=>K' t7 H) λt68 H=>zad t66 false H (λK'=>zac .lss false t68 (.int .i64 2) (K' · H)) λt69 H=>zam t66 (.bool true) t69 λt70=>zad t70 false H (λK'=>K' t7 H) λt72 H=>zad t70 false H (λK'=>zac .gtr false t72 (.int .i64 6) (K' · H)) λt73 H=>zam t70 (.bool true) t73 λt74=>zag t74 (K (.bool false) H) (zfc t0 t2 t4 t7 H K)) (zac .eql false t13 (.int .i64 7) λt76=>zag t76 (zeg t0 t2 t4 t7 t13 t76 H K) (zac .eql false t13 (.int .i64 8) λt77=>zeg t0 t2 t4 t7 t13 t77 H K)))))
def zcL:Prop:=zat t1 H λt4 H=>zaf 2 t4 λt9=>zae false 1 t9 H λt10=>zah 1 t10 λt11=>zaf 0 t4 λt12=>zae false 1 t12 H λt13=>zac .eql false t13 (.int .i64 1) λt15=>zag t15 (zbX t0 t2 t4 t11 t13 t15 H K) (zac .eql false t13 (.int .i64 2) λt16=>zag t16 (zbX t0 t2 t4 t11 t13 t16 H K) (zac .eql false t13 (.int .i64 3) λt17=>zbX t0 t2 t4 t11 t13 t17 H K))
def zoQ:Nat→List Bool | 5=>rl false [4,1,3,1,54,3,16] | _=>[]
noncomputable def zv2:Code:=Tryz.f98.body.getD .skip
noncomputable def zYl:List ResultVar:=Tryz.f98.results.toList
def zoR:List AV:=ux 4 (t4::ux 3 (t8::ux 54 (t63::t64::t65::ux 16 [])))
def zYj:List Bool:=zoQ 5
noncomputable def zYh:Code:=zar [1,1,1,0,1,0,0] zv2
def zYg:AExit→List AV→zaa→Prop:=zas tP zoQ [1,1,1,0,1,0] zv2 (zaz tP zYl K)
def zoS:Prop:=ALoop tP zYh (zYg K) (zoR t4 t8 t63 t64 t65) H
def zv1:Prop:=zac .lss false t65 t64 λt66=>zag t66 (zak 3 t63 t65 λt67=>zae true 3 t67 H λt68=>zay [(.int .i64 0),(.int .i64 0),.snil] H λt10 H=>zao 3 t10 t68 H λH=>zae true 3 t10 H λt69=>zaf 2 t4 λt70=>zae false 1 t70 H λt71=>ACalls tP zjB [t69,t71] H λt72 H=>zay [(.int .i64 0),(.int .i64 0),.snil] H λt11 H=>zao 3 t11 t72 H λH=>zae true 3 t11 H λt73=>ACalls tP zh3 [t73] H λt74 H=>zac .gtr false t74 (.int .i64 200) λt75=>zag t75 (zaF [.snil,(.bool false)] (K · H)) (zae true 3 t11 H λt77=>zau 3 [(.int .i64 0),(.int .i64 0),.snil] 1 [(0,t77)] λt78=>zav za1 3 40 t8 t78 H λt79 H=>zac .add false t65 (.int .i64 1) λt80=>Kb5 (zoR t4 t79 t63 t64 t80) H)) (zaF [t8,(.bool true)] (K · H))
def zFi:Prop:=zat t1 H λt4 H=>zab H (λK'=>zaf 0 t4 (K' · H)) λt12=>zab H (λK'=>zaj false 1 t12 H (K' · H)) λt13=>zab H (λK'=>zac .neq false t13 (.int .i64 5) (K' · H)) λt14=>zab H (λK'=>K' t14 H) λt15=>zad t15 false H (λK'=>zab H (λK''=>zaf 1 t4 (K'' · H)) (K' · H)) λt16 H=>zad t15 false H (λK'=>zab H (λK''=>zaj false 1 t16 H (K'' · H)) (K' · H)) λt17 H=>zad t15 false H (λK'=>zab H (λK''=>zac .lss false t17 (.int .i64 0) (K'' · H)) (K' · H)) λt18 H=>zab H (λK'=>zam t15 (.bool true) t18 (K' · H)) λt19=>zab H (λK'=>K' t19 H) λt20=>zad t20 false H (λK'=>zab H (λK''=>zaf 1 t4 (K'' · H)) (K' · H)) λt21 H=>zad t20 false H (λK'=>zab H (λK''=>zaj false 1 t21 H (K'' · H)) (K' · H)) λt22 H=>zad t20 false H (λK'=>zab H (λK''=>K'' t0 H) (K' · H)) λt23 H=>zad t20 false H (λK'=>zab H (λK''=>zah 1 t23 (K'' · H)) (K' · H)) λt24 H=>zad t20 false H (λK'=>zab H (λK''=>zac .geq false t22 t24 (K'' · H)) (K' · H)) λt25 H=>zab H (λK'=>zam t20 (.bool true) t25 (K' · H)) λt26=>zab H (λK'=>K' t26 H) λt27=>zad t27 false H (λK'=>zab H (λK''=>zaf 2 t4 (K'' · H)) (K' · H)) λt28 H=>zad t27 false H (λK'=>zab H (λK''=>zaj false 1 t28 H (K'' · H)) (K' · H)) λt29 H=>zad t27 false H (λK'=>zab H (λK''=>zah 1 t29 (K'' · H)) (K' · H)) λt30 H=>zad t27 false H (λK'=>zab H (λK''=>K'' t0 H) (K' · H)) λt31 H=>zad t27 false H (λK'=>zab H (λK''=>zaf 1 t4 (K'' · H)) (K' · H)) λt32 H=>zad t27 false H (λK'=>zab H (λK''=>zaj false 1 t32 H (K'' · H)) (K' · H)) λt33 H=>zad t27 false H (λK'=>zab H (λK''=>zak 3 t31 t33 (K'' · H)) (K' · H)) λt34 H=>zad t27 false H (λK'=>zab H (λK''=>zaf 1 t34 (K'' · H)) (K' · H)) λt35 H=>zad t27 false H (λK'=>zab H (λK''=>zaj false 1 t35 H (K'' · H)) (K' · H)) λt36 H=>zad t27 false H (λK'=>zab H (λK''=>zac .neq false t30 t36 (K'' · H)) (K' · H)) λt37 H=>zab H (λK'=>zam t27 (.bool true) t37 (K' · H)) λt38=>zab H (λK'=>K' t38 H) λt39=>zad t39 false H (λK'=>zab H (λK''=>K'' t2 H) (K' · H)) λt40 H=>zad t39 false H (λK'=>zab H (λK''=>zac .lss false t40 (.int .i64 0) (K'' · H)) (K' · H)) λt41 H=>zab H (λK'=>zam t39 (.bool true) t41 (K' · H)) λt42=>zab H (λK'=>K' t42 H) λt43=>zad t43 false H (λK'=>zab H (λK''=>K'' t2 H) (K' · H)) λt44 H=>zad t43 false H (λK'=>zab H (λK''=>K'' t0 H) (K' · H)) λt45 H=>zad t43 false H (λK'=>zab H (λK''=>zaf 1 t4 (K'' · H)) (K' · H)) λt46 H=>zad t43 false H (λK'=>zab H (λK''=>zaj false 1 t46 H (K'' · H)) (K' · H)) λt47 H=>zad t43 false H (λK'=>zab H (λK''=>zak 3 t45 t47 (K'' · H)) (K' · H)) λt48 H=>zad t43 false H (λK'=>zab H (λK''=>zaf 2 t48 (K'' · H)) (K' · H)) λt49 H=>zad t43 false H (λK'=>zab H (λK''=>zaj false 1 t49 H (K'' · H)) (K' · H)) λt50 H=>zad t43 false H (λK'=>zab H (λK''=>zah 1 t50 (K'' · H)) (K' · H)) λt51 H=>zad t43 false H (λK'=>zab H (λK''=>zac .geq false t44 t51 (K'' · H)) (K' · H)) λt52 H=>zab H (λK'=>zam t43 (.bool true) t52 (K' · H)) λt53=>zag t53 (zaF [.snil,(.bool false)] (K · H)) (zaf 1 t4 λt55=>zae false 1 t55 H λt56=>zak 3 t0 t56 λt57=>zaf 2 t57 λt58=>zae false 1 t58 H λt59=>zak 2 t59 t2 λt61=>zaf 1 t61 λt62=>zae false 1 t62 H λt63=>zah 1 t63 λt64=>zoS t4 .snil t63 t64 (.int .i64 0) H K)
def zlY:Nat→List Bool | 5=>rl false [1,2,1,3,46] | _=>[]
noncomputable def zsY:Code:=Tryz.f146.body.getD .skip
noncomputable def zNJ:List ResultVar:=Tryz.f146.results.toList
def zlZ:List AV:=ux 1 (t1::t2::ux 1 (t4::t5::t6::ux 46 []))
def zNH:List Bool:=zlY 5
noncomputable def zNF:Code:=zar [1,1,1,0,1,0,0] zsY
def zNE:AExit→List AV→zaa→Prop:=zas tP zlY [1,1,1,0,1,0] zsY (zaz tP zNJ K)
def zsZ:Prop:=ALoop tP zNF (zNE K) (zlZ t1 t2 t4 t5 t6) H
def zsX:Prop:=zaf 2 t2 λt34=>zae false 1 t34 H λt35=>zah 1 t35 λt36=>zac .lss false t6 t36 λt37=>zag t37 (zab H (λK'=>zaf 2 t5 (K' · H)) λt40=>zab H (λK'=>zaj false 1 t40 H (K' · H)) λt41=>zab H (λK'=>zaf 2 t2 (K' · H)) λt42=>zab H (λK'=>zaj false 1 t42 H (K' · H)) λt43=>zab H (λK'=>K' t6 H) λt44=>zab H (λK'=>zak 3 t43 t44 (K' · H)) λt45=>zab H (λK'=>zaj true 3 t45 H (K' · H)) λt46=>zab H (λK'=>K' t1 H) λt47=>zaA H (λH K'=>ACalls tP zjB [t46,t47] H K') λt48=>zab H (λK'=>zau 3 [(.int .i64 0),(.int .i64 0),.snil] 1 [(0,t48)] (K' · H)) λt49=>zav za1 3 40 t41 t49 H λt50 H=>zab H (λK'=>zaf 2 t5 (K' · H)) λt51=>zao 1 t51 t50 H λH=>zac .add false t6 (.int .i64 1) λt39=>Kb5 (zlZ t1 t2 t4 t5 t39) H) (zae true 3 t5 H λt52=>zao 3 t4 t52 H λH=>zae true 3 t4 H λr0=>K r0 H)
def zsW:Prop:=zat t0 H λt2 H=>zay [(.int .i64 0),(.int .i64 0),.snil] H λt4 H=>zaf 0 t2 λt7=>zae false 1 t7 H λt8=>zac .eql false t8 (.int .i64 4) λt9=>zad t9 true H (λK'=>zaf 1 t2 (K' · H)) λt11 H=>zad t9 true H (λK'=>zae false 1 t11 H (K' · H)) λt12 H=>zad t9 true H (λK'=>zac .geq false t12 (.int .i64 0) (K' · H)) λt13 H=>zam t9 t13 (.bool false) λt14=>zad t14 true H (λK'=>zaf 1 t2 (K' · H)) λt16 H=>zad t14 true H (λK'=>zae false 1 t16 H (K' · H)) λt17 H=>zad t14 true H (λK'=>K' t1 H) λt18 H=>zad t14 true H (λK'=>zah 1 t18 (K' · H)) λt19 H=>zad t14 true H (λK'=>zac .lss false t17 t19 (K' · H)) λt20 H=>zam t14 t20 (.bool false) λt21=>zag t21 (zaf 1 t2 λt23=>zae false 1 t23 H λt24=>zak 3 t1 t24 λt25=>zae true 3 t25 H λt26=>ACalls tP zjN [t26] H λt27 H=>zao 3 t4 t27 H λH=>zae true 3 t4 H λr0=>K r0 H) (zaf 0 t2 λt28=>zae false 1 t28 H λt29=>zaf 1 t2 λt30=>zae false 1 t30 H λt31=>zaq [(.int .i64 0),(.int .i64 0),.snil] [(0,1),(1,1),(2,1)] [(0,t29),(1,t31)] λt32=>zay [(.int .i64 0),(.int .i64 0),.snil] H λt5 H=>zao 3 t5 t32 H λH=>zsZ t1 t2 t4 t5 (.int .i64 0) H K)
def zmS:Nat→List Bool | 3=>rl false [1,4,24] | _=>[]
noncomputable def ztP:Code:=Tryz.f194.body.getD .skip
noncomputable def zQQ:List ResultVar:=Tryz.f194.results.toList
def zmT:List AV:=ux 1 (t1::t2::t3::t4::ux 24 [])
def zQO:List Bool:=zmS 3
noncomputable def zQM:Code:=zar [1,1,0,1,0,0] ztP
def zQL:AExit→List AV→zaa→Prop:=zas tP zmS [1,1,0,1,0] ztP (zaz tP zQQ K)
def zCK:Prop:=ALoop tP zQM (zQL K) (zmT t1 t2 t3 t4) H
def ztO:Prop:=zaf 2 t1 λt11=>zae false 1 t11 H λt12=>zah 1 t12 λt13=>zac .lss false t4 t13 λt14=>zag t14 (zab H (λK'=>zaf 2 t3 (K' · H)) λt17=>zab H (λK'=>zaj false 1 t17 H (K' · H)) λt18=>zab H (λK'=>zaf 2 t1 (K' · H)) λt19=>zab H (λK'=>zaj false 1 t19 H (K' · H)) λt20=>zab H (λK'=>K' t4 H) λt21=>zab H (λK'=>zak 3 t20 t21 (K' · H)) λt22=>zab H (λK'=>zaj true 3 t22 H (K' · H)) λt23=>zaA H (λH K'=>ACalls tP zjN [t23] H K') λt24=>zab H (λK'=>zau 3 [(.int .i64 0),(.int .i64 0),.snil] 1 [(0,t24)] (K' · H)) λt25=>zav za1 3 40 t18 t25 H λt26 H=>zab H (λK'=>zaf 2 t3 (K' · H)) λt27=>zao 1 t27 t26 H λH=>zac .add false t4 (.int .i64 1) λt16=>Kb3 (zmT t1 t2 t3 t16) H) (zae true 3 t3 H λt28=>zao 3 t2 t28 H λH=>zae true 3 t2 H λr0=>K r0 H)
def zCJ:Prop:=zat t0 H λt1 H=>zay [(.int .i64 0),(.int .i64 0),.snil] H λt2 H=>zaf 0 t1 λt5=>zae false 1 t5 H λt6=>zaf 1 t1 λt7=>zae false 1 t7 H λt8=>zaq [(.int .i64 0),(.int .i64 0),.snil] [(0,1),(1,1),(2,1)] [(0,t6),(1,t8)] λt9=>zay [(.int .i64 0),(.int .i64 0),.snil] H λt3 H=>zao 3 t3 t9 H λH=>zCK t1 t2 t3 (.int .i64 0) H K
variable {t0 t1 t2 t3 t4 t5 t6 t7 t8 t13 t14 t63 t64 t65 t75} {H} {K} {Kb3 Kb5 Kb24}
theorem zX5 (Inv:Nat→AV→zaa→Prop) (n:Nat) (h0:HSc H→Inv n t8 H)
  (ac:Rd1 (λt8=>zoN t0 t2 t4 t7 t8) (λt8=>λH Kb24=>zvV t0 t2 t4 t7 t8 H K Kb24) H Inv):zvX t0 t2 t4 t7 t8 H K:=
 lp1 (M:=zoM) zX6 t8 (by kernel_rfl) Inv n h0 ac
theorem zX7 (h:HSc H→zcL t0 t1 t2 H K):ACalls tP zkf [t0,t1,t2] H K:=
 acb zoM Tryz.func96 zvW (by kernel_rfl) (by kernel_rfl) h
theorem zYi (Inv:Nat→AV→AV→zaa→Prop) (n:Nat) (h0:HSc H→Inv n t8 t65 H)
  (ac:Rd2 (λt8=>λt65=>zoR t4 t8 t63 t64 t65) (λt8=>λt65=>λH Kb5=>zv1 t4 t8 t63 t64 t65 H K Kb5) H Inv):zoS t4 t8 t63 t64 t65 H K:=
 lp2 (M:=zoQ) zYj t8 t65 (by kernel_rfl) Inv n h0 ac
theorem zYk (h:HSc H→zFi t0 t1 t2 H K):ACalls tP zh4 [t0,t1,t2] H K:=
 acb zoQ Tryz.func98 zv2 (by kernel_rfl) (by kernel_rfl) h
theorem zNG (Inv:Nat→AV→zaa→Prop) (n:Nat) (h0:HSc H→Inv n t6 H)
  (ac:Rd1 (λt6=>zlZ t1 t2 t4 t5 t6) (λt6=>λH Kb5=>zsX t1 t2 t4 t5 t6 H K Kb5) H Inv):zsZ t1 t2 t4 t5 t6 H K:=
 lp1 (M:=zlY) zNH t6 (by kernel_rfl) Inv n h0 ac
theorem zNI (h:HSc H→zsW t0 t1 H K):ACalls tP zjB [t0,t1] H K:=
 acb zlY Tryz.func146 zsY (by kernel_rfl) (by kernel_rfl) h
theorem zQN (Inv:Nat→AV→zaa→Prop) (n:Nat) (h0:HSc H→Inv n t4 H)
  (ac:Rd1 (λt4=>zmT t1 t2 t3 t4) (λt4=>λH Kb3=>ztO t1 t2 t3 t4 H K Kb3) H Inv):zCK t1 t2 t3 t4 H K:=
 lp1 (M:=zmS) zQO t4 (by kernel_rfl) Inv n h0 ac
theorem zQP (h:HSc H→zCJ t0 H K):ACalls tP zjN [t0] H K:=
 acb zmS Tryz.func194 ztP (by kernel_rfl) (by kernel_rfl) h
end
section
variable (t0 t1 t2 t3 t7 t8 t9 t47 t48 t49 t78 t79 t80:AV) (H:zaa) (K:Kt) (Kb4 Kb6 Kb10:Lt)
def zfV:Nat→List Bool | 6=>rl false [0,2,6,1,38,3,56] | 10=>rl false [0,2,6,2,37,3,28,3,25] | _=>[]
noncomputable def ztx:Code:=Tryz.f168.body.getD .skip
noncomputable def zPN:List ResultVar:=Tryz.f168.results.toList
def zmw:List AV:=t0::t1::ux 6 (t8::ux 38 (t47::t48::t49::ux 56 []))
def zCu:List Bool:=zfV 6
noncomputable def zty:Code:=zar [1,1,1,1,0,1,0,0] ztx
def zCs:AExit→List AV→zaa→Prop:=zas tP zfV [1,1,1,1,0,1,0] ztx (zaz tP zPN K)
def zCt:Prop:=ALoop tP zty (zCs K) (zmw t0 t1 t8 t47 t48 t49) H
def zmv:List AV:=t0::t1::ux 6 (t8::t9::ux 37 (t47::t48::t49::ux 28 (t78::t79::t80::ux 25 [])))
def zPL:List Bool:=zfV 10
noncomputable def zPI:Code:=zar [1,1,0,0,1,1,1,0,0] zty
def zPH:AExit→List AV→zaa→Prop:=zas tP zfV [1,1,0,0,1,1,1,0] zty (zbL zCu Kb6 (zCs K))
def ztA:Prop:=ALoop tP zPI (zPH K Kb6) (zmv t0 t1 t8 t9 t47 t48 t49 t78 t79 t80) H
def ztz (t0 t1 t8 t9 t47 t48 t49 t78 t79 t80:AV) (H:zaa) (K:Kt) (Kb6:Lt) (Kb10:Lt):Prop:=zac .add false t80 (.int .i64 1) λt103=>Kb10 (zmv t0 t1 t8 t9 t47 t48 t49 t78 t79 t103) H
def zgX:Prop:=ztz t0 t1 t8 t9 t47 t48 t49 t78 t79 t80 H K Kb6 Kb10
def zgW:Prop:=zac .lss false t80 t79 λt81=>zag t81 (zak 3 t78 t80 λt83=>zae true 3 t83 H λt84=>zay [(.int .i64 0),(.int .i64 0),.snil] H λt12 H=>zao 3 t12 t84 H λH=>zaf 0 t12 λt85=>zae false 1 t85 H λt86=>zac .neq false t86 (.int .i64 4) λt87=>zad t87 false H (λK'=>zaf 1 t12 (K' · H)) λt89 H=>zad t87 false H (λK'=>zae false 1 t89 H (K' · H)) λt90 H=>zad t87 false H (λK'=>K' t80 H) λt91 H=>zad t87 false H (λK'=>zac .neq false t90 t91 (K' · H)) λt92 H=>zam t87 (.bool true) t92 λt93=>zad t93 false H (λK'=>zaf 2 t12 (K' · H)) λt95 H=>zad t93 false H (λK'=>zae false 1 t95 H (K' · H)) λt96 H=>zad t93 false H (λK'=>zah 1 t96 (K' · H)) λt97 H=>zad t93 false H (λK'=>zac .gtr false t97 (.int .i64 0) (K' · H)) λt98 H=>zam t93 (.bool true) t98 λt99=>zag t99 (zak 1 t8 t9 λt102=>zao 1 t102 (.bool false) H λH=>zgX t0 t1 t8 t9 t47 t48 t49 t78 t79 t80 H K Kb6 Kb10) (zgX t0 t1 t8 t9 t47 t48 t49 t78 t79 t80 H K Kb6 Kb10)) (zac .add false t49 (.int .i64 1) λt104=>Kb6 (zmw t0 t1 t8 t47 t48 t104) H)
def ziE:Prop:=zac .lss false t49 t48 λt50=>zag t50 (zak 3 t47 t49 λt52=>zae true 3 t52 H λt53=>zay [(.int .i64 0),(.int .i64 0),.snil] H λt10 H=>zao 3 t10 t53 H λH=>zab H (λK'=>K' t8 H) λt54=>zab H (λK'=>K' t49 H) λt55=>zab H (λK'=>zaf 0 t10 (K' · H)) λt56=>zab H (λK'=>zaj false 1 t56 H (K' · H)) λt57=>zab H (λK'=>zac .eql false t57 (.int .i64 5) (K' · H)) λt58=>zab H (λK'=>K' t58 H) λt59=>zad t59 true H (λK'=>zab H (λK''=>zaf 1 t10 (K'' · H)) (K' · H)) λt60 H=>zad t59 true H (λK'=>zab H (λK''=>zaj false 1 t60 H (K'' · H)) (K' · H)) λt61 H=>zad t59 true H (λK'=>zab H (λK''=>K'' t1 H) (K' · H)) λt62 H=>zad t59 true H (λK'=>zab H (λK''=>zac .eql false t61 t62 (K'' · H)) (K' · H)) λt63 H=>zab H (λK'=>zam t59 t63 (.bool false) (K' · H)) λt64=>zab H (λK'=>K' t64 H) λt65=>zad t65 true H (λK'=>zab H (λK''=>zaf 2 t10 (K'' · H)) (K' · H)) λt66 H=>zad t65 true H (λK'=>zab H (λK''=>zaj false 1 t66 H (K'' · H)) (K' · H)) λt67 H=>zad t65 true H (λK'=>zab H (λK''=>zah 1 t67 (K'' · H)) (K' · H)) λt68 H=>zad t65 true H (λK'=>zab H (λK''=>K'' t0 H) (K' · H)) λt69 H=>zad t65 true H (λK'=>zab H (λK''=>K'' t1 H) (K' · H)) λt70 H=>zad t65 true H (λK'=>zab H (λK''=>zak 3 t69 t70 (K'' · H)) (K' · H)) λt71 H=>zad t65 true H (λK'=>zab H (λK''=>zaf 1 t71 (K'' · H)) (K' · H)) λt72 H=>zad t65 true H (λK'=>zab H (λK''=>zaj false 1 t72 H (K'' · H)) (K' · H)) λt73 H=>zad t65 true H (λK'=>zab H (λK''=>zac .eql false t68 t73 (K'' · H)) (K' · H)) λt74 H=>zab H (λK'=>zam t65 t74 (.bool false) (K' · H)) λt75=>zab H (λK'=>zak 1 t54 t55 (K' · H)) λt76=>zao 1 t76 t75 H λH=>zaf 2 t10 λt77=>zae false 1 t77 H λt78=>zah 1 t78 λt79=>ztA t0 t1 t8 t49 t47 t48 t49 t78 t79 (.int .i64 0) H K Kb6) (K t8 H)
def zCr:Prop:=zac .lss false t1 (.int .i64 0) λt14=>zad t14 false H (λK'=>K' t1 H) λt16 H=>zad t14 false H (λK'=>K' t0 H) λt17 H=>zad t14 false H (λK'=>zah 1 t17 (K' · H)) λt18 H=>zad t14 false H (λK'=>zac .geq false t16 t18 (K' · H)) λt19 H=>zam t14 (.bool true) t19 λt20=>zad t20 false H (λK'=>K' t2 H) λt22 H=>zad t20 false H (λK'=>zac .lss false t22 (.int .i64 0) (K' · H)) λt23 H=>zam t20 (.bool true) t23 λt24=>zad t24 false H (λK'=>K' t2 H) λt26 H=>zad t24 false H (λK'=>K' t0 H) λt27 H=>zad t24 false H (λK'=>K' t1 H) λt28 H=>zad t24 false H (λK'=>zak 3 t27 t28 (K' · H)) λt29 H=>zad t24 false H (λK'=>zaf 2 t29 (K' · H)) λt30 H=>zad t24 false H (λK'=>zae false 1 t30 H (K' · H)) λt31 H=>zad t24 false H (λK'=>zah 1 t31 (K' · H)) λt32 H=>zad t24 false H (λK'=>zac .geq false t26 t32 (K' · H)) λt33 H=>zam t24 (.bool true) t33 λt34=>zag t34 (K .snil H) (zak 3 t0 t1 λt37=>zaf 2 t37 λt38=>zae false 1 t38 H λt39=>zak 2 t39 t2 λt41=>zaf 1 t41 λt42=>zae false 1 t42 H λt43=>zah 1 t43 λt45=>zbe 1 [(.bool false)] t45 t45 H λt46 H=>zah 1 t43 λt48=>zCt t0 t1 t46 t43 t48 (.int .i64 0) H K)
def zSn (_:Nat):List Bool:=[]
noncomputable def zSo:Code:=Tryz.f228.body.getD .skip
def zDg:Prop:=zat t0 H λt2 H=>zat t1 H λt3 H=>zaf 0 t2 λt5=>zae false 1 t5 H λt6=>zac .eql false t6 (.int .i64 5) λt7=>zad t7 true H (λK'=>zaf 1 t2 (K' · H)) λt9 H=>zad t7 true H (λK'=>zae false 1 t9 H (K' · H)) λt10 H=>zad t7 true H (λK'=>zae false 1 t3 H (K' · H)) λt11 H=>zad t7 true H (λK'=>zac .eql false t10 t11 (K' · H)) λt12 H=>zam t7 t12 (.bool false) λt13=>zad t13 false H (λK'=>zaf 2 t2 (K' · H)) λt15 H=>zad t13 false H (λK'=>zae false 1 t15 H (K' · H)) λt16 H=>zad t13 false H (λK'=>zcE zjW [t3] (K' · H)) λt17 H=>zad t13 false H (λK'=>ACalls tP zfz [t16,t17] H K') λt18 H=>zam t13 (.bool true) t18 λt19=>K t19 H
def zSJ (_:Nat):List Bool:=[]
noncomputable def zSK:Code:=Tryz.f247.body.getD .skip
def zDm:Prop:=zat t0 H λt2 H=>zae true 3 t2 H λt4=>zae false 1 t1 H λt5=>ACalls tP zjV [t4,t5] H λt6 H=>K t6 H
def zoG:Nat→List Bool | 4=>rl false [3,1,3,1,50] | _=>[]
noncomputable def zvO:Code:=Tryz.f93.body.getD .skip
noncomputable def zXO:List ResultVar:=Tryz.f93.results.toList
def zoH:List AV:=ux 3 (t3::ux 3 (t7::ux 50 []))
def zXM:List Bool:=zoG 4
noncomputable def zXK:Code:=zar [1,1,0,1,0,0] zvO
def zXJ:AExit→List AV→zaa→Prop:=zas tP zoG [1,1,0,1,0] zvO (zaz tP zXO K)
def zE7:Prop:=ALoop tP zXK (zXJ K) (zoH t3 t7) H
def zg4:Prop:=zaf 2 t3 λt25=>zae false 1 t25 H λt26=>zah 1 t26 λt27=>zac .lss false t7 t27 λt28=>zag t28 (zaf 2 t3 λt31=>zae false 1 t31 H λt32=>zak 3 t32 t7 λt34=>zaf 0 t34 λt35=>zae false 1 t35 H λt36=>zac .neq false t36 (.int .i64 4) λt37=>zad t37 false H (λK'=>zaf 2 t3 (K' · H)) λt39 H=>zad t37 false H (λK'=>zae false 1 t39 H (K' · H)) λt40 H=>zad t37 false H (λK'=>K' t7 H) λt41 H=>zad t37 false H (λK'=>zak 3 t40 t41 (K' · H)) λt42 H=>zad t37 false H (λK'=>zaf 1 t42 (K' · H)) λt43 H=>zad t37 false H (λK'=>zae false 1 t43 H (K' · H)) λt44 H=>zad t37 false H (λK'=>K' t7 H) λt45 H=>zad t37 false H (λK'=>zac .neq false t44 t45 (K' · H)) λt46 H=>zam t37 (.bool true) t46 λt47=>zad t47 false H (λK'=>zaf 2 t3 (K' · H)) λt49 H=>zad t47 false H (λK'=>zae false 1 t49 H (K' · H)) λt50 H=>zad t47 false H (λK'=>K' t7 H) λt51 H=>zad t47 false H (λK'=>zak 3 t50 t51 (K' · H)) λt52 H=>zad t47 false H (λK'=>zaf 2 t52 (K' · H)) λt53 H=>zad t47 false H (λK'=>zae false 1 t53 H (K' · H)) λt54 H=>zad t47 false H (λK'=>zah 1 t54 (K' · H)) λt55 H=>zad t47 false H (λK'=>zac .gtr false t55 (.int .i64 0) (K' · H)) λt56 H=>zam t47 (.bool true) t56 λt57=>zag t57 (K (.bool false) H) (zac .add false t7 (.int .i64 1) λt30=>Kb4 (zoH t3 t30) H)) (K (.bool true) H)
def zE6:Prop:=zat t0 H λt3 H=>zaf 0 t3 λt8=>zae false 1 t8 H λt9=>zac .neq false t9 (.int .i64 5) λt10=>zad t10 false H (λK'=>zaf 1 t3 (K' · H)) λt12 H=>zad t10 false H (λK'=>zae false 1 t12 H (K' · H)) λt13 H=>zad t10 false H (λK'=>K' t1 H) λt14 H=>zad t10 false H (λK'=>zac .neq false t13 t14 (K' · H)) λt15 H=>zam t10 (.bool true) t15 λt16=>zad t16 false H (λK'=>zaf 2 t3 (K' · H)) λt18 H=>zad t16 false H (λK'=>zae false 1 t18 H (K' · H)) λt19 H=>zad t16 false H (λK'=>zah 1 t19 (K' · H)) λt20 H=>zad t16 false H (λK'=>K' t2 H) λt21 H=>zad t16 false H (λK'=>zac .neq false t20 t21 (K' · H)) λt22 H=>zam t16 (.bool true) t22 λt23=>zag t23 (K (.bool false) H) (zE7 t3 (.int .i64 0) H K)
variable {t0 t1 t2 t3 t7 t8 t9 t47 t48 t49 t78 t79 t80} {H} {K} {Kb4 Kb6 Kb10}
theorem zPJ (Inv:Nat→AV→zaa→Prop) (n:Nat) (h0:HSc H→Inv n t80 H)
  (ac:Rd1 (λt80=>zmv t0 t1 t8 t9 t47 t48 t49 t78 t79 t80) (λt80=>λH Kb10=>zgW t0 t1 t8 t9 t47 t48 t49 t78 t79 t80 H K Kb6 Kb10) H Inv):ztA t0 t1 t8 t9 t47 t48 t49 t78 t79 t80 H K Kb6:=
 lp1 (M:=zfV) zPL t80 (by kernel_rfl) Inv n h0 ac
theorem zPK (Inv:Nat→AV→zaa→Prop) (n:Nat) (h0:HSc H→Inv n t49 H)
  (ac:Rd1 (λt49=>zmw t0 t1 t8 t47 t48 t49) (λt49=>λH Kb6=>ziE t0 t1 t8 t47 t48 t49 H K Kb6) H Inv):zCt t0 t1 t8 t47 t48 t49 H K:=
 lp1 (M:=zfV) zCu t49 (by kernel_rfl) Inv n h0 ac
theorem zPM (h:HSc H→zCr t0 t1 t2 H K):ACalls tP zfx [t0,t1,t2] H K:=
 acb zfV Tryz.func168 ztx (by kernel_rfl) (by kernel_rfl) h
theorem zSp (h:HSc H→zDg t0 t1 H K):ACalls tP zjV [t0,t1] H K:=
 acb zSn Tryz.func228 zSo (by kernel_rfl) (by kernel_rfl) h
theorem zSL (h:HSc H→zDm t0 t1 H K):ACalls tP zjW [t0,t1] H K:=
 acb zSJ Tryz.func247 zSK (by kernel_rfl) (by kernel_rfl) h
theorem zXL (Inv:Nat→AV→zaa→Prop) (n:Nat) (h0:HSc H→Inv n t7 H)
  (ac:Rd1 (λt7=>zoH t3 t7) (λt7=>λH Kb4=>zg4 t3 t7 H K Kb4) H Inv):zE7 t3 t7 H K:=
 lp1 (M:=zoG) zXM t7 (by kernel_rfl) Inv n h0 ac
theorem zXN (h:HSc H→zE6 t0 t1 t2 H K):ACalls tP zke [t0,t1,t2] H K:=
 acb zoG Tryz.func93 zvO (by kernel_rfl) (by kernel_rfl) h
end
theorem zEr:∀ (m:Nat) (v:VT),v.nodes≤m→∀ (left:Int),left≤1000000→-1≤left→∀ (H:zaa) (id:Nat),H[id]?=some (.cells [.int .i64 left])→∀ (K:AV→zaa→Prop),
  ((v.nodes:Int)≤left→K (.bool true) (H.set id (.cells [.int .i64 (left-v.nodes)])))→(¬ (v.nodes:Int)≤left→∀ l',K (.bool false) (H.set id (.cells [.int .i64 l']))) →
  ACalls tP zh0 [.agg v.cs,.ptr id 0] H K:=by
 intro m;induction m with
 | zero=>intro v h;have:=v.nodes_pos;omega
 | succ m ih=>
  intro v hv left dG dc H id ap K hK hF;obtain⟨k,n,ks⟩:=v;have ak:=zbr ap;have dU:(VT.mk k n ks).nodes=VT.nodesL ks+1:=by simp[VT.nodes]
  refine ACalls.out (zVW λhs=>?_);have aA:(H++[AB.cells [.int .i64 k,.int .i64 n,.sl (VT.css ks) .none]])[id]?=some (.cells [.int .i64 left]):=zb8 ap;have bad:(¬ ((VT.mk k n ks).nodes:Int)≤left)→∀ l' H',H'=H.set id (.cells [.int .i64 l'])++[.cells [.int .i64 k,.int .i64 n,.sl (VT.css ks) .none]]→Out H.length K (.bool false) H':=by intro h l' H' he;exact Out.bool he (by simp) (hs.set rfl) (hF h l')
  simp[zEp,VT.cs,aA,AV.known];rw[zaw (by omega) (by omega),zej _ ap,zb8 (zdC _ ap)];by_cases h0:left-1<0
  ·simp[h0];exact bad (by omega) _ _ rfl
  ·simp[h0];refine zVU (Inv:=λq t5 H'=>∃ i:Nat,i≤ks.length∧q=ks.length-i∧t5=.int .i64 i∧((VT.nodesL (ks.take i):Int)+1≤left)∧H'=H.set id (.cells [.int .i64 (left-1-VT.nodesL (ks.take i))])++[.cells [.int .i64 k,.int .i64 n,.sl (VT.css ks) .none]]) ks.length ?_ ?_
   ·intro _;exact⟨0,by omega,by omega,rfl,by simp[VT.nodesL];omega,by simp[VT.nodesL]⟩
   ·rintro q t5 H' ⟨i,hi,rfl,rfl,hb,rfl⟩ hsc am aM Kb au;by_cases be:i<ks.length
    ·have bl:=VT.kid_lt (k:=k) (n:=n) be;have h1:=VT.nodesL_take be;have h2:=VT.nodesL_take_le ks (i+1);have bm:=VT.len_le (ks.take i);simp only[List.length_take]at bm;have cF:(H.set id (.cells [.int .i64 (left-1-VT.nodesL (ks.take i))])++[AB.cells [.int .i64 k,.int .i64 n,.sl (VT.css ks) .none]])[id]?=some (.cells [.int .i64 (left-1-VT.nodesL (ks.take i))]):=zb8 (zdC _ ap);simp[zvh,be];refine ih ks[i] (by omega) (left-1-VT.nodesL (ks.take i)) (by omega) (by omega) _ id cF _ ?_ ?_
     ·intro aS;rw[zej _ (zdC _ ap),List.set_set];simp;rw[zaw (by omega) (by omega)];refine au _ _ ⟨ks.length-(i+1),by omega,Back.here (by simp) ((hs.set rfl).snoc rfl) ?_ ⟨_,rfl,i+1,by omega,rfl,by simp,by omega,?_⟩⟩
      ·simp[zoc,AV.sc,AV.scV,AV.scA,AV.scB];omega
      ·rw[h1];congr 5;omega
     ·intro aS l';rw[zej _ (zdC _ ap),List.set_set];simp;exact bad (by omega) _ _ rfl
    ·obtain rfl:i=ks.length:=by omega
     rw[List.take_length]at hb ⊢;simp[zvh];refine Out.bool rfl (by simp) (hs.set rfl) ?_;have:=hK (by omega);rw[dU]at this;rw[show left-1-(VT.nodesL ks:Int)=left-((VT.nodesL ks+1:Nat):Int) by omega];exact this
theorem zTA (v:VT) (H:zaa) (K:AV→zaa→Prop) (hK:∀ b,(b=true→v.nodes≤250)→K (.bool b) H):ACalls tP zqO [.agg v.cs] H K:=by
 refine ACalls.out (zTz λhs=>?_);simp[zDF,AV.known];refine zEr _ v (Nat.le_refl _) 250 (by omega) (by omega) _ (H.length+1) (by simp) _ ?_ ?_
 ·intro h;exact Out.bool (J:=[_,_]) (by simp;exact⟨rfl,rfl⟩) (Nat.le_refl _) hs (hK true λ_=>by omega)
 ·intro h l';exact Out.bool (J:=[_,_]) (by simp;exact⟨rfl,rfl⟩) (Nat.le_refl _) hs (hK false λh=>by cases h)
theorem zFf:∀ (m:Nat) (v:VT),v.nodes≤m→v.nodes≤1000000000→∀ (H:zaa) (K:AV→zaa→Prop),K (.int .i64 v.nodes) H→ACalls tP zh3 [.agg v.cs] H K:=by
 intro m;induction m with
 | zero=>intro v h;have:=v.nodes_pos;omega
 | succ m ih=>
  intro v hv hb H K hK;obtain⟨k,n,ks⟩:=v;have cc:VT.nodesL ks+1≤1000000000:=by simpa[VT.nodes]using hb
  have bm:=VT.len_le ks;refine ACalls.out (zX1 λhs=>?_);simp[VT.cs,zFd];refine zXZ (Inv:=λq t3 t4 H'=>∃ i:Nat,i≤ks.length∧q=ks.length-i∧t4=.int .i64 i∧t3=.int .i64 (1+VT.nodesL (ks.take i):Nat)∧H'=H++[.cells [.int .i64 k,.int .i64 n,.sl (VT.css ks) .none]]) ks.length ?_ ?_
  ·intro _;exact⟨0,by omega,by omega,rfl,by simp[VT.nodesL],rfl⟩
  ·rintro q t3 t4 H' ⟨i,hi,rfl,rfl,rfl,rfl⟩ hsc am aM Kb au;by_cases ak:i<ks.length
   ·have bl:=VT.kid_lt (k:=k) (n:=n) ak;have h1:=VT.nodesL_take ak;have h2:=VT.nodesL_take_le ks (i+1);simp[zvT,ak];refine ih ks[i] (by omega) (by omega) _ _ ?_;simp;rw[zaw (by omega) (by omega),zaw (by omega) (by omega)];refine au _ _ ⟨ks.length-(i+1),by omega,Back.here (by simp) hsc ?_ ⟨_,_,rfl,i+1,by omega,rfl,by simp,?_,rfl⟩⟩
    ·simp[zoL,AV.sc,AV.scV,AV.scA,AV.scB]
    ·rw[h1];congr 1;omega
   ·obtain rfl:i=ks.length:=by omega
    simp[zvT];refine Out.int rfl (Nat.le_refl _) hs ?_;simpa[VT.nodes,Int.add_comm]using hK
theorem zX9 (aa:List Dat) (gO:aa.length≤1000000) (vars:Int):∀ (m:Nat) (v:VT),v.nodes≤m→v.nodes≤1000000000→∀ (H:zaa) (K:AV→zaa→Prop),K (.bool (za4 aa vars v)) H→ACalls tP zkf [.sl (aa.map Dat.cs) .none,.agg v.cs,.int .i64 vars] H K:=by
 intro m;induction m with
 | zero=>intro v h;have:=v.nodes_pos;omega
 | succ m ih=>
  intro v hv hb H K hK;obtain⟨k,n,ks⟩:=v;have cc:VT.nodesL ks+1≤1000000000:=by simpa[VT.nodes]using hb
  have bm:=VT.len_le ks;refine ACalls.out (zX7 λhs=>?_);have hO:∀ J,Out H.length K (.bool (zbk aa vars k n ks.length && zbi aa vars ks)) (H++J):=λJ=>Out.bool rfl (Nat.le_refl _) hs (by simpa[za4]using hK);have hF:zbk aa vars k n ks.length=false→∀ J,Out H.length K (.bool false) (H++J):=λh J=>by have:=hO J;rwa [h,Bool.false_and]at this
  have loop:zbk aa vars k n ks.length=true→zvX (.sl (aa.map Dat.cs) .none) (.int .i64 vars) (.ptr H.length 0) (.int .i64 ks.length) (.int .i64 0) (H++[.cells [.int .i64 k,.int .i64 n,.sl (VT.css ks) .none]]) (Out H.length K):=by
   intro aU;rw[aU]at hO;simp only[Bool.true_and]at hO;refine zX5 (Inv:=λq t8 H'=>∃ i:Nat,i≤ks.length∧q=ks.length-i∧t8=.int .i64 i∧zbi aa vars (ks.drop i)=zbi aa vars ks∧H'=H++[.cells [.int .i64 k,.int .i64 n,.sl (VT.css ks) .none]]) ks.length ?_ ?_
   ·intro _;exact⟨0,by omega,by omega,rfl,by simp,rfl⟩
   ·rintro q t8 H' ⟨i,hi,rfl,rfl,ho,rfl⟩ hsc am aM Kb au;by_cases ak:i<ks.length
    ·have bl:=VT.kid_lt (k:=k) (n:=n) ak;rw[List.drop_eq_getElem_cons ak,zbi]at ho;simp[zvV,ak];refine ih ks[i] (by omega) (by omega) _ _ ?_;cases hb:za4 aa vars ks[i] with
     | false=>rw[hb,Bool.false_and]at ho;rw[←ho]at hO;simp;exact hO _
     | true=>rw[hb,Bool.true_and]at ho;simp;rw[zaw (by omega) (by omega)];refine au _ _ ⟨ks.length-(i+1),by omega,Back.here (by simp) hsc ?_ ⟨_,rfl,i+1,by omega,rfl,by simp,ho,rfl⟩⟩;simp[zoN,AV.sc,AV.scV,AV.scA,AV.scB]
    ·obtain rfl:i=ks.length:=by omega
     rw[List.drop_length,zbi]at ho;rw[←ho]at hO;simp[zvV];exact hO _
  have prim:(k=1∨k=2∨k=3)→Out H.length K (.bool (n == 0 && ks.length == 0)) (H++[.cells [.int .i64 k,.int .i64 n,.sl (VT.css ks) .none]]):=by
   intro h;have aU:zbk aa vars k n ks.length=(n == 0 && ks.length == 0):=by rcases h with rfl | rfl | rfl <;> rfl
   have:=hO [.cells [.int .i64 k,.int .i64 n,.sl (VT.css ks) .none]];rw[aU]at this;cases ks with
   | nil=>simpa[zbi]using this
   | cons x l=>simpa using this
  by_cases fx:k=1∨k=2∨k=3
  ·have:=prim fx;cases hn:(n == 0) with
   | false=>rw[hn,Bool.false_and]at this;rcases fx with rfl | rfl | rfl <;> simp[zcL,VT.cs,zbX,hn] <;> exact this
   | true=>
    rw[hn,Bool.true_and]at this;have e:((ks.length:Int) == 0)=(ks.length == 0):=by rw[Bool.eq_iff_iff];simp
    rw[←e]at this;rcases fx with rfl | rfl | rfl <;> simp only[zcL,VT.cs] <;> simp[zbX,hn] <;> simpa using this
  by_cases h4:k=4
  ·subst h4;have aU:zbk aa vars 4 n ks.length=(decide (0≤n) && decide (n<vars) && ks.length == 0):=rfl;have kW:∀ J,Out H.length K (.bool (decide (0≤n) && decide (n<vars) && ks.length == 0)) (H++J):=λJ=>by
    have:=hO J;rw[aU]at this;cases ks with
    | nil=>simpa[zbi]using this
    | cons x l=>simpa using this
   have e:((ks.length:Int) == 0)=(ks.length == 0):=by rw[Bool.eq_iff_iff];simp
   rw[←e]at kW;by_cases g1:0≤n
   ·by_cases g2:n<vars
    ·simp only[zcL,VT.cs];simp[zbX,g1,g2];simpa[g1,g2]using kW _
    ·simp only[zcL,VT.cs];simp[zbX,g1,g2];simpa[g1,g2]using kW _
   ·simp only[zcL,VT.cs];simp[zbX,g1];simpa[g1]using kW _
  by_cases h5:k=5
  ·subst h5;have aU:zbk aa vars 5 n ks.length=(decide (0≤n) && (match aa[n.toNat]? with | some d=>(ks.length:Int) == d.vars | none=>false)):=rfl;by_cases g1:0≤n
   ·have g1':¬ n<0:=by omega
    by_cases g2:n<aa.length
    ·have cc:n.toNat<aa.length:=by omega
     have g2':¬ (aa.length:Int)≤n:=by omega
     have ba:(aa.map Dat.cs)[n.toNat]?.getD []=[.str aa[n.toNat].name,.int .i64 aa[n.toNat].vars,.sl (aa[n.toNat].cons.map Con.cs) .none]:=by simp[cc,Dat.cs]
     rw[List.getElem?_eq_getElem cc]at aU;simp only[g1,decide_true,Bool.true_and]at aU;cases hv:((ks.length:Int) == aa[n.toNat].vars) with
     | false=>
      rw[hv]at aU;have bK:((ks.length:Int) != aa[n.toNat].vars)=true:=by simp[bne,hv]
      simp only[zcL,VT.cs];simp[zbX,g1',g2',g1,g2,cc,Dat.cs,bK];exact hF aU _
     | true=>
      rw[hv]at aU;have bK:((ks.length:Int) != aa[n.toNat].vars)=false:=by simp[bne,hv]
      simp only[zcL,VT.cs];simp[zbX,g1',g2',g1,g2,cc,Dat.cs,bK,zfc,ziX];exact loop aU
    ·have g2':(aa.length:Int)≤n:=by omega
     rw[List.getElem?_eq_none (by omega)]at aU;simp only[zcL,VT.cs];simp[zbX,g1',g2'];exact hF (by rw[aU];simp) _
   ·have g1':n<0:=by omega
    simp only[zcL,VT.cs];simp[zbX,g1'];exact hF (by rw[aU];simp[g1]) _
  by_cases h6:k=6
  ·subst h6;have aU:zbk aa vars 6 n ks.length=(n == 0 && decide (2≤ks.length) && decide (ks.length≤6)):=rfl;simp only[zcL,VT.cs];cases hn:(n == 0) with
   | false=>
    have:(n != 0)=true:=by simp[bne,hn]
    simp[zbX,this];exact hF (by rw[aU,hn];rfl) _
   | true=>
    have bT:(n != 0)=false:=by simp[bne,hn]
    by_cases g1:ks.length<2
    ·have:(ks.length:Int)<2:=by omega
     simp[zbX,bT,this];exact hF (by rw[aU];simp;omega) _
    ·have g1':¬ (ks.length:Int)<2:=by omega
     by_cases g2:6<ks.length
     ·have:(6:Int)<ks.length:=by omega
      simp[zbX,bT,g1',this];exact hF (by rw[aU];simp;omega) _
     ·have:¬ (6:Int)<ks.length:=by omega
      simp[zbX,bT,g1',this,zfc,ziX];exact loop (by rw[aU,hn];simp;omega)
  by_cases i4:k=7∨k=8
  ·have aU:zbk aa vars k n ks.length=(n == 0 && ks.length == 1):=by rcases i4 with rfl | rfl <;> rfl
   cases hn:(n == 0) with
   | false=>
    have:(n != 0)=true:=by simp[bne,hn]
    have fin:=hF (by rw[aU,hn];rfl);simp only[zcL,VT.cs];rcases i4 with rfl | rfl <;> simp[zbX,zeg,this] <;> exact fin _
   | true=>
    have bT:(n != 0)=false:=by simp[bne,hn]
    by_cases g1:ks.length=1
    ·have g1':((ks.length:Int) != 1)=false:=by simp[g1]
     have fin:=loop (by rw[aU,hn,g1];rfl);simp only[zcL,VT.cs];rcases i4 with rfl | rfl <;> simp[zbX,zeg,bT,g1',zfc,ziX] <;> exact fin
    ·have g1':((ks.length:Int) != 1)=true:=by simp;omega
     have fin:=hF (by rw[aU];simp[g1]);simp only[zcL,VT.cs];rcases i4 with rfl | rfl <;> simp[zbX,zeg,bT,g1'] <;> exact fin _
  have b1:(k == 1)=false:=by simp;omega
  have b2:(k == 2)=false:=by simp;omega
  have b3:(k == 3)=false:=by simp;omega
  have b4:(k == 4)=false:=by simp;omega
  have b5:(k == 5)=false:=by simp;omega
  have b6:(k == 6)=false:=by simp;omega
  have b7:(k == 7)=false:=by simp;omega
  have b8:(k == 8)=false:=by simp;omega
  by_cases h9:k=9
  ·subst h9;have aU:zbk aa vars 9 n ks.length=(n == 0 && decide (1≤ks.length) && decide (ks.length≤7)):=rfl;simp only[zcL,VT.cs];cases hn:(n == 0) with
   | false=>
    have:(n != 0)=true:=by simp[bne,hn]
    simp[zbX,zeg,this];exact hF (by rw[aU,hn];rfl) _
   | true=>
    have bT:(n != 0)=false:=by simp[bne,hn]
    by_cases g1:ks.length<1
    ·have:(ks.length:Int)<1:=by omega
     simp[zbX,zeg,bT,this];exact hF (by rw[aU];simp;omega) _
    ·have g1':¬ (ks.length:Int)<1:=by omega
     by_cases g2:7<ks.length
     ·have:(7:Int)<ks.length:=by omega
      simp[zbX,zeg,bT,g1',this];exact hF (by rw[aU];simp;omega) _
     ·have:¬ (7:Int)<ks.length:=by omega
      simp[zbX,zeg,bT,g1',this,zfc,ziX];exact loop (by rw[aU,hn];simp;omega)
  ·have b9:(k == 9)=false:=by simp;omega
   simp only[zcL,VT.cs];simp[zbX,zeg,b1,b2,b3,b4,b5,b6,b7,b8,b9];exact hF (by unfold zbk;simp[b1,b2,b3,b4,b5,b6,b7,b8,b9]) _
theorem zD2 (aa:List Dat) (gO:aa.length≤1000000) (vars:Int) (v:VT) (hb:v.nodes≤1000000000) (H:zaa) (K:AV→zaa→Prop) (hK:K (.bool (zaV aa vars v)) H):ACalls tP zj2 [.sl (aa.map Dat.cs) .none,.agg v.cs,.int .i64 vars] H K:=by
 refine ACalls.out (zUN λhs=>?_);have hO:∀ J,Out H.length K (.bool (zaV aa vars v)) (H++J):=λJ=>Out.bool rfl (Nat.le_refl _) hs hK;unfold zaV at hO;simp[zD1];refine zFf _ v (Nat.le_refl _) hb _ _ ?_;by_cases h:v.nodes≤200
 ·have h':(v.nodes:Int)≤200:=by omega
  simp[h'];refine zX9 aa gO vars _ v (Nat.le_refl _) hb _ _ ?_;simpa[h]using hO _
 ·have h':¬ (v.nodes:Int)≤200:=by omega
  simp[h'];simpa[h]using hO _
def zb2 (es:List (List AV)) (id:Nat):AV:=match es with | []=>.snil | _=>.sl es (.own id)
def zcY (e s:Nat) (n:Nat):zaa:=match n with | 0=>[] | n=>[.perm e s n]
theorem zFN (es:List (List AV)) (id:Nat):WkA (zb2 es id) (.sl es .none):=by
 cases es with
 | nil=>exact .snil
 | cons e es=>exact .sl _ _
theorem zws (es:List (List AV)) {id n:Nat} (h:es=[]∨id<n):(zb2 es id).scA n=true:=by
 cases es with
 | nil=>rfl
 | cons e es=>
  rcases h with h | h
  ·cases h
  ·simpa[zb2,AV.scA,AV.scB]using h
theorem zFM (es:List (List AV)) (id:Nat):(zb2 es id).known=true:=by cases es <;> rfl
theorem zFL (es:List (List AV)) (id:Nat):(zb2 es id).cs?=some [zb2 es id]:=by cases es <;> rfl
theorem zFO {e s bytes:Nat} {es:List (List AV)} {y:List AV} {t:Tok} {H:zaa} {K:AV→zaa→Prop} (hy:y.length=s) (hb:(es.length+1)*bytes≤140737488355328) (hl:es.length+1≤9223372036854775807)
  (hk:K (zb2 (es++[y]) H.length) (H++zcY e s (es.length+1))):zav e s bytes (zb2 es H.length) (.sl [y] t) (H++zcY e s es.length) K:=by
 unfold zav zaM;refine⟨by simpa using hy,?_⟩;cases es with
 | nil=>unfold zaJ;simp[zb2,zcY]at *;exact⟨by omega,hk⟩
 | cons x es=>unfold zaJ;simp[zb2,zcY]at *;refine⟨⟨by omega,by omega⟩,hk⟩
theorem zwt {e s bytes id n:Nat} {es:List (List AV)} {y:List AV} {t:Tok} {H0 Hh:zaa} {K:AV→zaa→Prop} (hn:n=es.length) (he:Hh=H0++zcY e s n) (ap:id=H0.length) (hy:y.length=s) (hb:(es.length+1)*bytes≤140737488355328) (hl:es.length+1≤9223372036854775807)
  (hk:K (zb2 (es++[y]) id) (H0++zcY e s (n+1))):zav e s bytes (zb2 es id) (.sl [y] t) Hh K:=by
 subst he ap hn;exact zFO hy hb hl hk
@[simp] theorem ya4 (es:List (List AV)) (id:Nat):(zb2 es id).cs?=some [zb2 es id]:=zFL es id
@[simp] theorem ya5 (es:List (List AV)) (id:Nat):(zb2 es id).known=true:=zFM es id
theorem zfm {v:VT} {k:AV→Prop}:zau 3 [.int .i64 0,.int .i64 0,.snil] 1 [(0,.agg v.cs)] k=k (.sl [v.cs] .full):=by cases v;exact propext Iff.rfl
theorem zhk {l:List VT} {i:Nat} (h:i<l.length):VT.css (l.take (i+1))=VT.css (l.take i)++[(l[i]).cs]:=by rw[VT.css_map,VT.css_map,List.take_succ_eq_append_getElem h,List.map_append];rfl
theorem zyH {H J:zaa} {K:AV→zaa→Prop} {k n:Int} {ks:List VT} {id:Nat} (hs:HSc H) (hK:K (.agg (VT.mk k n ks).cs) H):Out H.length K (.agg [.int .i64 k,.int .i64 n,zb2 (VT.css ks) id]) (H++J):=
 Out.at rfl (Nat.le_refl _) hs (WkV.agg (ds:=[.int .i64 k,.int .i64 n,.sl (VT.css ks) .none]) ⟨.refl _,.refl _,zFN _ _,trivial⟩) rfl (by simp[AV.scV,AV.scA,AV.scB]) (by simpa[VT.cs]using hK)
theorem zGu:∀ (m:Nat) (v:VT),v.nodes≤m→v.nodes≤1000000→∀ (H:zaa) (K:AV→zaa→Prop),K (.agg v.cs) H→ACalls tP zjN [.agg v.cs] H K:=by
 intro m;induction m with
 | zero=>intro v h;have:=v.nodes_pos;omega
 | succ m ih=>
  intro v hv hb H K hK;obtain⟨k,n,ks⟩:=v;have cc:VT.nodesL ks+1≤1000000:=by simpa[VT.nodes]using hb
  have bm:=VT.len_le ks;refine ACalls.out (zQP λhs=>?_);simp[VT.cs,zCJ,zaq,zaI,Nat.add_assoc];refine zQN (Inv:=λq t4 H'=>∃ i:Nat,i≤ks.length∧q=ks.length-i∧t4=.int .i64 i∧H'=H++[.cells [.int .i64 k,.int .i64 n,.sl (VT.css ks) .none],.cells [.int .i64 0,.int .i64 0,.snil],.cells [.int .i64 k,.int .i64 n,zb2 (VT.css (ks.take i)) (H.length+3)]]++zcY za1 3 i) ks.length ?_ ?_
  ·intro _;exact⟨0,by omega,by omega,rfl,by simp[zcY,zb2,VT.css]⟩
  ·rintro q t4 H' ⟨i,hi,rfl,rfl,rfl⟩ hsc am aM Kb au;by_cases ak:i<ks.length
   ·have bl:=VT.kid_lt (k:=k) (n:=n) ak;simp[ztO,ak];refine zaB (.agg (ks[i]).cs) (λJ=>ih ks[i] (by omega) (by omega) _ _ ⟨rfl,rfl⟩) ?_;rw[zfm];refine zwt (H0:=H++[.cells [.int .i64 k,.int .i64 n,.sl (VT.css ks) .none],.cells [.int .i64 0,.int .i64 0,.snil],.cells [.int .i64 k,.int .i64 n,zb2 (VT.css (ks.take i)) (H.length+3)]]) (n:=i) (by simp;omega) (by simp) (by simp) (by simp) (by simp;omega) (by simp;omega) ?_;rw[←zhk ak];simp;rw[zaw (by omega) (by omega)];refine au _ _ ⟨ks.length-(i+1),by omega,Back.here (by simp[zcY]) ?_ ?_ ⟨_,rfl,i+1,by omega,rfl,by simp,by simp⟩⟩
    ·refine hs.append ?_;simp[AB.sc,zcY,AV.scA,AV.scB];exact zws _ (.inr (by omega))
    ·simp[zmT,AV.sc,AV.scV,AV.scA,AV.scB]
   ·obtain rfl:i=ks.length:=by omega
    rw[List.take_length]at *;simp[ztO];exact zyH hs hK
theorem zeA (args:List VT):∀ l:List VT,zaR args l=l.map (subst args)
 | []=>rfl
 | t::ts=>by rw[zaR,zeA args ts];rfl
theorem zNK (args:List VT) (ha:∀ x∈args,x.nodes≤1000000) (dX:args.length≤1000000):∀ (m:Nat) (v:VT),v.nodes≤m→v.nodes≤1000000→∀ (H:zaa) (K:AV→zaa→Prop),K (.agg (subst args v).cs) H→ACalls tP zjB [.agg v.cs,.sl (VT.css args) .none] H K:=by
 intro m;induction m with
 | zero=>intro v h;have:=v.nodes_pos;omega
 | succ m ih=>
  intro v hv hb H K hK;obtain⟨k,n,ks⟩:=v;have cc:VT.nodesL ks+1≤1000000:=by simpa[VT.nodes]using hb
  have bm:=VT.len_le ks;refine ACalls.out (zNI λhs=>?_);by_cases cN:k=4∧0≤n∧n<args.length
  ·obtain⟨rfl,h0,h1⟩:=cN;have hn:n.toNat<args.length:=by omega
   have cK:K (.agg (args[n.toNat]).cs) H:=by rw[subst,if_pos ⟨rfl,h0,h1⟩,List.getElem?_eq_getElem hn]at hK;exact hK
   simp[VT.cs,zsW,h0,h1,hn];refine zGu _ _ (Nat.le_refl _) (ha _ (List.getElem_mem hn)) _ _ ?_;generalize args[n.toNat]=x at *;obtain⟨k',n',ks'⟩:=x;simp[VT.cs];exact Out.at rfl (Nat.le_refl _) hs .rfl' rfl rfl cK
  ·have cK:K (.agg (VT.mk k n (zaR args ks)).cs) H:=by rw[subst,if_neg cN]at hK;exact hK
   have go:∀ H1,H1=H++[.cells [.int .i64 k,.int .i64 n,.sl (VT.css ks) .none],.cells [.int .i64 0,.int .i64 0,.snil],.cells [.int .i64 k,.int .i64 n,.snil]]→zsZ (.sl (VT.css args) .none) (.ptr H.length 0) (.ptr (H.length+1) 0) (.ptr (H.length+2) 0) (.int .i64 0) H1 (Out H.length K):=by
    rintro _ rfl;refine zNG (Inv:=λq t6 H'=>∃ i:Nat,i≤ks.length∧q=ks.length-i∧t6=.int .i64 i∧H'=H++[.cells [.int .i64 k,.int .i64 n,.sl (VT.css ks) .none],.cells [.int .i64 0,.int .i64 0,.snil],.cells [.int .i64 k,.int .i64 n,zb2 (VT.css ((zaR args ks).take i)) (H.length+3)]]++zcY za1 3 i) ks.length ?_ ?_
    ·intro _;exact⟨0,by omega,by omega,rfl,by simp[zcY,zb2,VT.css]⟩
    ·rintro q t6 H' ⟨i,hi,rfl,rfl,rfl⟩ hsc am aM Kb au;by_cases ak:i<ks.length
     ·have bl:=VT.kid_lt (k:=k) (n:=n) ak;have aG:i<(zaR args ks).length:=by rw[zeA];simpa using ak
      have kf:(zaR args ks)[i]=subst args ks[i]:=by simp[zeA]
      simp[zsX,ak];refine zaB (.agg (subst args ks[i]).cs) (λJ=>ih ks[i] (by omega) (by omega) _ _ ⟨rfl,rfl⟩) ?_;rw[zfm,←kf];refine zwt (H0:=H++[.cells [.int .i64 k,.int .i64 n,.sl (VT.css ks) .none],.cells [.int .i64 0,.int .i64 0,.snil],.cells [.int .i64 k,.int .i64 n,zb2 (VT.css ((zaR args ks).take i)) (H.length+3)]]) (n:=i) (by simp;omega) (by simp) (by simp) (by simp) (by simp;omega) (by simp;omega) ?_;rw[←zhk aG];simp;rw[zaw (by omega) (by omega)];refine au _ _ ⟨ks.length-(i+1),by omega,Back.here (by simp[zcY]) ?_ ?_ ⟨_,rfl,i+1,by omega,rfl,by simp,by simp⟩⟩
      ·refine hs.append ?_;simp[AB.sc,zcY,AV.scA,AV.scB];exact zws _ (.inr (by omega))
      ·simp[zlZ,AV.sc,AV.scV,AV.scA,AV.scB]
     ·obtain rfl:i=ks.length:=by omega
      have e:(zaR args ks).take ks.length=zaR args ks:=List.take_of_length_le (by rw[zeA];simp);rw[e];simp[zsX];exact zyH hs cK
   simp only[VT.cs,zsW];by_cases h4:k=4
   ·subst h4;by_cases h0:0≤n
    ·have h1:¬ n<args.length:=λh=>cN ⟨rfl,h0,h⟩;simp[h0,h1,zaq,zaI,Nat.add_assoc];exact go _ rfl
    ·simp[h0,zaq,zaI,Nat.add_assoc];exact go _ rfl
   ·have i5:(k == 4)=false:=by simpa using h4
    simp[i5,zaq,zaI,Nat.add_assoc];exact go _ rfl
mutual
theorem zzG {args:List VT} {M:Nat} (h1:1≤M) (ha:∀ x∈args,x.nodes≤M):∀ v:VT,(subst args v).nodes≤v.nodes*M
 | .mk k n ks=>by
  unfold subst;split
  ·rename_i h;have hn:n.toNat<args.length:=by omega
   rw[List.getElem?_eq_getElem hn];have:=ha _ (List.getElem_mem hn);have h2:M≤(VT.mk k n ks).nodes*M:=by have:=(VT.mk k n ks).nodes_pos;exact Nat.le_mul_of_pos_left M this
   simp only[Option.getD_some];omega
  ·have:=zzD h1 ha ks;simp only[VT.nodes,Nat.succ_mul];omega
theorem zzD {args:List VT} {M:Nat} (h1:1≤M) (ha:∀ x∈args,x.nodes≤M):∀ l:List VT,VT.nodesL (zaR args l)≤VT.nodesL l*M
 | []=>by simp[zaR,VT.nodesL]
 | t::ts=>by have h2:=zzG h1 ha t;have h3:=zzD h1 ha ts;simp only[zaR,VT.nodesL,Nat.add_mul];omega
end
theorem zhx {k n:Int} {ks:List VT}:∀ x∈ks,x.nodes≤(VT.mk k n ks).nodes:=by intro x hx;obtain⟨i,hi,rfl⟩:=List.mem_iff_getElem.1 hx;exact Nat.le_of_lt (VT.kid_lt hi)
theorem zjl {k n:Int} {ks:List VT}:∀ x∈ks,x.nodes<(VT.mk k n ks).nodes:=by intro x hx;obtain⟨i,hi,rfl⟩:=List.mem_iff_getElem.1 hx;exact VT.kid_lt hi
theorem zz4 {H:zaa} {x y:AB}:H++[x,y]=(H++[x])++[y]:=by simp
theorem zdc (aa:List Dat) (k n:Int) (ks:List VT) (c:Int):zbj aa (.mk k n ks) c=(if k=5∧0≤n∧0≤c then
  match aa[n.toNat]? with
  | some d=>if (ks.length:Int)=d.vars then
    match d.cons[c.toNat]? with
    | some co=>if (co.args.map (subst ks)).all (λx=>decide (x.nodes≤200))=true then some (co.args.map (subst ks)) else none
    | none=>none
   else none
  | none=>none
 else none):=rfl
def zcF (o:Option (List VT)):AV:=match o with
 | some l=>.tup [.sl (VT.css l) .none,.bool true]
 | none=>.tup [.sl [] .none,.bool false]
theorem zx3 {α:Type} {l:List α} {i:Nat} (h:i<l.length) {p:α→Prop} (h1:∀ x∈l.take i,p x) (h2:p l[i]):∀ x∈l.take (i+1),p x:=by
 rw[List.take_succ_eq_append_getElem h];intro x hx;rcases List.mem_append.1 hx with hx | hx
 ·exact h1 x hx
 ·simp at hx;subst hx;exact h2
theorem zbs (v:VT):∃ a b c,v.cs=[a,b,c]∧a.known=true∧b.known=true∧c.known=true:=by obtain⟨k,n,ks⟩:=v;exact⟨_,_,_,rfl,rfl,rfl,rfl⟩
theorem zv3 (aa:List Dat) (gO:aa.length≤1000000) (lY:∀ d∈aa,∀ c∈d.cons,c.args.length≤1000∧∀ x∈c.args,x.nodes≤1000) (hdc:∀ d∈aa,d.cons.length≤1000000) (t:VT) (ht:t.nodes≤1000) (c:Int) (H:zaa) (K:AV→zaa→Prop) (hK:K (zcF (zbj aa t c)) H) :
  ACalls tP zh4 [.sl (aa.map Dat.cs) .none,.agg t.cs,.int .i64 c] H K:=by
 refine ACalls.out (zYk λhs=>?_);obtain⟨k,n,ks⟩:=t;have cI:VT.nodesL ks+1≤1000:=by simpa[VT.nodes]using ht
 have dP:=VT.len_le ks;have hF:zbj aa (.mk k n ks) c=none→∀ J,Out H.length K (.tup [.snil,.bool false]) (H++J):=λh J=>by rw[h]at hK;exact Out.tup hs hK ⟨zdE,zaY rfl rfl,trivial⟩
 have hFF:∀ J,zbj aa (.mk k n ks) c=none→Out H.length K (.tup [.snil,.bool false]) (H++J):=λJ h=>hF h J;simp only[VT.cs,zFi];by_cases h5:k=5;case neg=>
  have:(k != 5)=true:=by simpa using h5
  simp[this,AV.isV];exact hF (by rw[zdc,if_neg (λh=>h5 h.1)]) _
 subst h5;by_cases h0:n<0
 ·simp[h0,AV.isV];exact hF (by rw[zdc,if_neg (λh=>by have:=h.2.1;omega)]) _
 by_cases h1:(aa.length:Int)≤n
 ·simp[h0,h1,AV.isV];exact hF (by
   rw[zdc];split
   ·rw[List.getElem?_eq_none (by omega)]
   ·rfl) _
 have hn:n.toNat<aa.length:=by omega
 have cu:n<aa.length:=by omega
 have fZ:0≤n:=by omega
 generalize c9:aa[n.toNat]=d at *;have hd:d∈aa:=by rw[←c9];exact List.getElem_mem hn
 have aA:aa[n.toNat]?=some d:=by rw[List.getElem?_eq_getElem hn,c9]
 cases hv:((ks.length:Int) == d.vars) with
 | false=>
  have bK:((ks.length:Int) != d.vars)=true:=by simp[bne,hv]
  simp[h0,h1,fZ,cu,hn,c9,Dat.cs,bK,AV.isV,aA];exact hF (by
   rw[zdc];split
   ·rw[aA];simp only;rw[if_neg (by simpa using hv)]
   ·rfl) _
 | true=>
 have bK:((ks.length:Int) != d.vars)=false:=by simp[bne,hv]
 have lZ:(ks.length:Int)=d.vars:=by simpa using hv
 by_cases cH:c<0
 ·simp[h0,h1,fZ,cu,hn,c9,Dat.cs,bK,AV.isV,aA,cH];exact hF (by rw[zdc,if_neg (λh=>by have:=h.2.2;omega)]) _
 have eq:∀ o,(match d.cons[c.toNat]? with | some k=>if (k.args.map (subst ks)).all (λx=>decide (x.nodes≤200))=true then some (k.args.map (subst ks)) else none | none=>none)=o→zbj aa (.mk 5 n ks) c=o:=λo h=>by rw[zdc,if_pos ⟨rfl,fZ,by omega⟩,aA];simp only;rw[if_pos lZ];exact h
 by_cases bG:(d.cons.length:Int)≤c
 ·simp[h0,h1,fZ,cu,hn,c9,Dat.cs,bK,AV.isV,aA,cH,bG];exact hF (eq none (by rw[List.getElem?_eq_none (by omega)])) _
 have cp:c.toNat<d.cons.length:=by omega
 have bQ:c<d.cons.length:=by omega
 have f5:0≤c:=by omega
 generalize ci:d.cons[c.toNat]=co at *;have c6:co∈d.cons:=by rw[←ci];exact List.getElem_mem cp
 have jL:d.cons[c.toNat]?=some co:=by rw[List.getElem?_eq_getElem cp,ci]
 obtain⟨dX,kg⟩:=lY d hd co c6;have dH:=λo=>eq o;rw[jL]at dH;simp only at dH;have db:∀ x∈co.args,(subst ks x).nodes≤1000000:=λx hx=>by have h2:=zzG (M:=1000) (by omega) (λy hy=>Nat.le_trans (zhx (k:=5) (n:=n) y hy) ht) x;have h3:=kg x hx;have:x.nodes*1000≤1000*1000:=Nat.mul_le_mul_right _ h3;omega
 simp[h0,h1,fZ,cu,hn,c9,Dat.cs,bK,AV.isV,aA,cH,bG,f5,bQ,cp,ci,Con.cs,jL];have aI:∀ m,HSc (H++[.cells [.int .i64 5,.int .i64 n,.sl (VT.css ks) .none],.perm za1 3 m]):=λm=>hs.append rfl;unfold zoS;refine ALoop.own 8 za1 3 rfl ?_;have bL:(H++[AB.cells [.int .i64 5,.int .i64 n,.sl (VT.css ks) .none]]).length=H.length+1:=by simp
 rw[bL,List.append_assoc];show zoS (.ptr H.length 0) (.sl [] (.own (H.length+1))) (.sl (VT.css co.args) .none) (.int .i64 co.args.length) (.int .i64 0) (H++[.cells [.int .i64 5,.int .i64 n,.sl (VT.css ks) .none],.perm za1 3 0]) (Out H.length K);refine zYi (Inv:=λq t8 t65 H'=>∃ i:Nat,i≤co.args.length∧q=co.args.length-i∧t65=.int .i64 i∧t8=.sl (VT.css ((co.args.map (subst ks)).take i)) (.own (H.length+1))∧(∀ x∈co.args.take i,(subst ks x).nodes≤200)∧H'=H++[.cells [.int .i64 5,.int .i64 n,.sl (VT.css ks) .none],.perm za1 3 i]) co.args.length ?_ ?_
 ·intro _;exact⟨0,by omega,by omega,rfl,by simp[VT.css],by simp,rfl⟩
 ·rintro q t8 t65 H' ⟨i,hi,rfl,rfl,rfl,aO,rfl⟩ hsc am aM Kb au;by_cases ak:i<co.args.length
  ·have bf:=List.getElem_mem ak;have bz:=db _ bf;obtain⟨x,y,z,aC,hx,hy,hz⟩:=zbs co.args[i];simp[zv1,ak,aC,hx,hy,hz];rw[←aC];refine zNK ks (λy hy=>by have:=zhx (k:=5) (n:=n) y hy;omega) (by omega) _ co.args[i] (Nat.le_refl _) (by have:=kg _ bf;omega) _ _ ?_;obtain⟨x',y',z',hvx',fH,dQ,g7⟩:=zbs (subst ks co.args[i]);simp[hvx',fH,dQ,g7];rw[←hvx'];refine zFf _ _ (Nat.le_refl _) (by omega) _ _ ?_;by_cases cj:(subst ks co.args[i]).nodes≤200
   ·have f7:¬ (200:Int)<(subst ks co.args[i]).nodes:=by omega
    simp[f7];rw[zfm];simp[zav,zaM,zaJ];refine⟨by omega,by omega,?_⟩;rw[zaw (by omega) (by omega),show min i co.args.length=i by omega];refine au _ _ ⟨co.args.length-(i+1),by omega,Back.at (H2:=H++[.cells [.int .i64 5,.int .i64 n,.sl (VT.css ks) .none],.perm za1 3 (i+1)]) (J:=[_,_]) (by simp;exact⟨rfl,rfl⟩) (by simp) (aI _) ?_ ⟨_,_,rfl,i+1,by omega,rfl,by simp,?_,zx3 ak aO cj,rfl⟩⟩
    ·simp[zoR,AV.sc,AV.scV,AV.scA,AV.scB]
    ·rw[zhk (by simpa using ak)];simp
   ·have f7:(200:Int)<(subst ks co.args[i]).nodes:=by omega
    simp[f7,AV.isV];refine hF (dH none ?_) _;rw[if_neg];intro i6;have:=List.all_eq_true.1 i6 (subst ks co.args[i]) (List.mem_map.2 ⟨_,bf,rfl⟩);exact cj (of_decide_eq_true this)
  ·obtain rfl:i=co.args.length:=by omega
   rw[List.take_length]at aO;rw[List.take_of_length_le (by simp)];simp[zv1,AV.isV];have fQ:=dH (some (co.args.map (subst ks))) (if_pos (List.all_eq_true.2 λy hy=>by
    obtain⟨x,hx,rfl⟩:=List.mem_map.1 hy;exact decide_eq_true (aO x hx)))
   rw[fQ]at hK;exact Out.tup hs hK ⟨slV,zaY rfl rfl,trivial⟩
theorem zRF:∀ (m:Nat) (v:VT),v.nodes≤m→v.nodes≤1000000000→∀ (H:zaa) (K:AV→zaa→Prop),K (.int .i64 v.nodes) H→ACalls tP zjR [.agg v.cs] H K:=by
 intro m;induction m with
 | zero=>intro v h;have:=v.nodes_pos;omega
 | succ m ih=>
  intro v hv hb H K hK;obtain⟨k,n,ks⟩:=v;have cc:VT.nodesL ks+1≤1000000000:=by simpa[VT.nodes]using hb
  have bm:=VT.len_le ks;refine ACalls.out (zRD λhs=>?_);simp[VT.cs,zC2];refine zRB (Inv:=λq t3 t4 H'=>∃ i:Nat,i≤ks.length∧q=ks.length-i∧t4=.int .i64 i∧t3=.int .i64 (1+VT.nodesL (ks.take i):Nat)∧H'=H++[.cells [.int .i64 k,.int .i64 n,.sl (VT.css ks) .none]]) ks.length ?_ ?_
  ·intro _;exact⟨0,by omega,by omega,rfl,by simp[VT.nodesL],rfl⟩
  ·rintro q t3 t4 H' ⟨i,hi,rfl,rfl,rfl,rfl⟩ hsc am aM Kb au;by_cases ak:i<ks.length
   ·have bl:=VT.kid_lt (k:=k) (n:=n) ak;have h1:=VT.nodesL_take ak;have h2:=VT.nodesL_take_le ks (i+1);obtain⟨x,y,z,aC,hx,hy,hz⟩:=zbs ks[i];simp[zt0,ak,aC,hx,hy,hz];rw[←aC];refine ih ks[i] (by omega) (by omega) _ _ ?_;simp;rw[zaw (by omega) (by omega),zaw (by omega) (by omega),zz4];refine au _ _ ⟨ks.length-(i+1),by omega,Back.same (by simp) hsc ?_ ⟨_,_,rfl,i+1,by omega,rfl,by simp,?_,rfl⟩⟩
    ·simp[zm1,AV.sc,AV.scV,AV.scA,AV.scB]
    ·rw[h1];congr 1;omega
   ·obtain rfl:i=ks.length:=by omega
    simp[zt0];refine Out.int rfl (Nat.le_refl _) hs ?_;simpa[VT.nodes,Int.add_comm]using hK
def zcQ (f:VT→VT→Bool):List VT→List VT→Bool
 | [],[]=>true
 | a::x,b::y=>f a b && zcQ f x y
 | _,_=>false
theorem zpB {f:VT→VT→Bool}:∀ {x y:List VT},x.length≠y.length→zcQ f x y=false
 | [],[],h=>(h rfl).elim
 | a::x,b::y,h=>by have:x.length≠y.length:=λe=>h (by simp[e]);simp[zcQ,zpB this]
 | [],_::_,_=>rfl
 | _::_,[],_=>rfl
theorem zG5 (x:List VT) (hl:x.length≤1000000000) (fv:AV) (H:zaa) (K:AV→zaa→Prop) (jS:fv.sc H.length=true) (Inv:Nat→zaa→Prop) (h0:Inv 0 H)
  (step:∀ (i:Nat) (h:i<x.length) (H':zaa),H.length≤H'.length→Inv i H'→aCallV tP fv [.agg (x[i]).cs] H' λr H''=>(r=.bool false∧Inv (i+1) H'')∨(r=.bool true∧K (.int .i64 i) H''))
  (fin:∀ H',Inv x.length H'→K (.int .i64 (-1)) H'):ACalls tP zqH [.sl (VT.css x) .none,fv] H K:=by
 refine zSv λhs=>?_;simp[zDh];refine zSt (Inv:=λq t8 H'=>∃ i:Nat,i≤x.length∧q=x.length-i∧t8=.int .i64 i∧H.length≤H'.length∧Inv i H') x.length ?_ ?_
 ·intro _;exact⟨0,by omega,by omega,rfl,Nat.le_refl _,h0⟩
 ·rintro q t8 H' ⟨i,hi,rfl,rfl,aS,hI⟩ hsc am aM Kb au;by_cases ak:i<x.length
  ·simp[zuj,ak];refine (step i ak H' aS hI).mono' λr H'' aJ hle' hr=>?_;rcases hr with ⟨rfl,hI'⟩ | ⟨rfl,hk⟩
   ·simp;rw[zaw (by omega) (by omega)];refine au _ _ ⟨x.length-(i+1),by omega,Back.here (by omega) aJ ?_ ⟨_,rfl,i+1,by omega,rfl,by simp,by omega,hI'⟩⟩;simp[znf,AV.sc,AV.scV,AV.scA,AV.scB];exact zcg (by omega) jS
   ·simpa using hk
  ·obtain rfl:i=x.length:=by omega
   simp[zuj];exact fin H' hI
theorem zpr (x:List VT) (hl:x.length≤1000000000) (fv:AV) (H:zaa) (K:AV→zaa→Prop) (jS:fv.sc H.length=true) (Inv:Nat→zaa→Prop) (h0:Inv 0 H)
  (step:∀ (i:Nat) (h:i<x.length) (H':zaa),H.length≤H'.length→Inv i H'→aCallV tP fv [.agg (x[i]).cs] H' λr H''=>(r=.bool false∧Inv (i+1) H'')∨(r=.bool true∧K (.bool true) H''))
  (fin:∀ H',Inv x.length H'→K (.bool false) H'):ACalls tP zfz [.sl (VT.css x) .none,fv] H K:=by
 refine zRv λhs=>?_;unfold zC0;refine zG5 x hl fv H _ jS Inv h0 (λi h H' aS hI=>(step i h H' aS hI).mono' λr H'' _ _ hr=>?_) (λH' hI=>?_)
 ·rcases hr with hr | ⟨h1,h2⟩
  ·exact .inl hr
  ·refine .inr ⟨h1,?_⟩;have:decide ((0:Int)≤i)=true:=by simp
   simpa using h2
 ·simpa using fin H' hI
theorem zGf:zel tP zjQ=true:=by kernel_rfl
section
variable (aa:List Dat) (vars:Int)
theorem zJ1:∀ (l:List VT) (i:Nat) (h:i<l.length),zbi aa vars l=true→za4 aa vars l[i]=true:=by
 intro l;induction l with
 | nil=>intro i h;simp at h
 | cons a l ih=>
  intro i h hl;simp[zbi]at hl;cases i with
  | zero=>exact hl.1
  | succ i=>exact ih i (by simpa using h) hl.2
def zbQ (left:Int):AB:=.cells [.sl (aa.map Dat.cs) .none,.int .i64 vars,.int .i64 left]
theorem zKa:∀ (m:Nat) (v:VT),v.nodes≤m→v.nodes≤1000000000→∀ (left:Int),left≤1000000→-1≤left→∀ (H:zaa) (id:Nat),H[id]?=some (zbQ aa vars left)→∀ (K:AV→zaa→Prop),
  (za4 aa vars v=true→(v.nodes:Int)≤left→K (.bool true) (H.set id (zbQ aa vars (left-v.nodes))))→(¬ (za4 aa vars v=true∧(v.nodes:Int)≤left)→∀ l',K (.bool false) (H.set id (zbQ aa vars l'))) →
  ACalls tP zjF [.ptr id 0,.agg v.cs] H K:=by
 intro m;induction m with
 | zero=>intro v h;have:=v.nodes_pos;omega
 | succ m ih=>
  intro v hv hb left dG dc H id ap K hK hF;obtain⟨k,n,ks⟩:=v;have ak:=zbr ap;have dU:(VT.mk k n ks).nodes=VT.nodesL ks+1:=by simp[VT.nodes]
  have bm:=VT.len_le ks;refine ACalls.out (zPt λhs=>?_)
  -- the heap within: the receiver's copy and the type's
  generalize hJ:([.cells [.ptr id 0],.cells [.int .i64 k,.int .i64 n,.sl (VT.css ks) .none]]:zaa)=J;have iD:J[0]?=some (.cells [.ptr id 0]):=by subst hJ;rfl
  have fy:J[1]?=some (.cells [.int .i64 k,.int .i64 n,.sl (VT.css ks) .none]):=by subst hJ;rfl
  have aA:∀ l',(H.set id (zbQ aa vars l')++J)[id]?=some (zbQ aa vars l'):=λl'=>zb8 (zdC _ ap);have bad:(¬ (za4 aa vars (.mk k n ks)=true∧((VT.mk k n ks).nodes:Int)≤left))→∀ l',Out H.length K (.bool false) (H.set id (zbQ aa vars l')++J):=λh l'=>
   Out.bool rfl (by simp) (hs.set rfl) (hF h l')
  have badS:zbk aa vars k n ks.length=false→∀ l',Out H.length K (.bool false) (H.set id (zbQ aa vars l')++J):=λh l'=>bad (λ⟨h1,_⟩=>by simp[za4,h]at h1) l'
  -- the arguments
  have args:zbk aa vars k n ks.length=true→1≤left→∀ KK:AV→zaa→Prop,(∀ H',Out H.length K (.bool true) H'→KK (.bool false) H')→(∀ H',Out H.length K (.bool false) H'→KK (.bool true) H') →
    ACalls tP zfz [.sl (VT.css ks) .none,.fn zjQ [.ptr H.length 0]] (H.set id (zbQ aa vars (left-1))++J) KK:=by
   intro aU h1 KK hKf hKt;subst hJ;refine zpr ks (by omega) _ _ _ (by simp[AV.sc,AV.scV,AV.scA,AV.scB]) (λi H'=>(VT.nodesL (ks.take i):Int)+1≤left∧zbi aa vars (ks.take i)=true∧H'=H.set id (zbQ aa vars (left-1-VT.nodesL (ks.take i)))++[.cells [.ptr id 0],.cells [.int .i64 k,.int .i64 n,.sl (VT.css ks) .none]]) ⟨by simp[VT.nodesL];omega,by simp[zbi],by simp[VT.nodesL]⟩ ?_ ?_
   ·rintro i hi H' aS ⟨bI,bq,rfl⟩;have bl:=VT.kid_lt (k:=k) (n:=n) hi;have h1:=VT.nodesL_take hi;have h2:=VT.nodesL_take_le ks (i+1);have hokL:zbi aa vars (ks.take (i+1))=(zbi aa vars (ks.take i) && za4 aa vars ks[i]):=by
     rw[List.take_succ_eq_append_getElem hi];have:∀ (l:List VT) (x:VT),zbi aa vars (l++[x])=(zbi aa vars l && za4 aa vars x):=by
      intro l x;induction l with
      | nil=>simp[zbi]
      | cons a l ih=>simp[zbi,ih,Bool.and_assoc]
     exact this _ _
    simp only[aCallV,zGf,List.singleton_append];refine ACalls.out (zRy λa7=>?_);have di:∀ l',HSc (H.set id (zbQ aa vars l')++[.cells [.ptr id 0],.cells [.int .i64 k,.int .i64 n,.sl (VT.css ks) .none]]):=λl'=>(hs.set rfl).append (by simp[AB.sc,AV.scA,AV.scB];omega);obtain⟨x1,x2,x3,aC,bC,bg,bz⟩:=zbs ks[i];have hll2:(H.set id (zbQ aa vars (left-1-VT.nodesL (ks.take i)))).length=H.length:=by simp
    have f8:(H.set id (zbQ aa vars (left-1-VT.nodesL (ks.take i)))++[AB.cells [.ptr id 0],.cells [.int .i64 k,.int .i64 n,.sl (VT.css ks) .none],.cells [x1,x2,x3]])[H.length]?=some (.cells [.ptr id 0]):=by rw[List.getElem?_append_right (by simp)];simp
    have ki:(H.set id (zbQ aa vars (left-1-VT.nodesL (ks.take i)))++[AB.cells [.ptr id 0],.cells [.int .i64 k,.int .i64 n,.sl (VT.css ks) .none],.cells [x1,x2,x3]])[H.length+2]?=some (.cells [x1,x2,x3]):=by rw[List.getElem?_append_right (by simp)];simp
    simp[zC1,aC,f8,ki,hll2];rw[←aC];refine ih ks[i] (by omega) (by omega) (left-1-VT.nodesL (ks.take i)) (by omega) (by omega) _ id (zb8 (zdC _ ap)) _ ?_ ?_
    ·intro ho hle2;rw[zej _ (zdC _ ap),List.set_set,show left-1-(VT.nodesL (ks.take i):Int)-(ks[i]).nodes=left-1-VT.nodesL (ks.take (i+1)) by omega];simp;refine Out.bool (J:=[_]) (H2:=H.set id (zbQ aa vars (left-1-VT.nodesL (ks.take (i+1))))++[.cells [.ptr id 0],.cells [.int .i64 k,.int .i64 n,.sl (VT.css ks) .none]]) (by simp;rfl) (by simp) (di _) (.inl ⟨rfl,by omega,by rw[hokL,bq,ho];rfl,rfl⟩)
    ·intro ho l';rw[zej _ (zdC _ ap),List.set_set];simp;have dt:¬ (za4 aa vars (.mk k n ks)=true∧((VT.mk k n ks).nodes:Int)≤left):=by
      rintro⟨g1,g2⟩;have aO:zbi aa vars ks=true:=by simp[za4]at g1;exact g1.2
      exact ho ⟨zJ1 aa vars ks i hi aO,by omega⟩
     have hb3:=bad dt l';exact Out.bool (J:=[_]) (H2:=H.set id (zbQ aa vars l')++[.cells [.ptr id 0],.cells [.int .i64 k,.int .i64 n,.sl (VT.css ks) .none]]) (by simp;rfl) (by simp) (di _) (.inr ⟨rfl,hKt _ hb3⟩)
   ·rintro H' ⟨bI,bq,rfl⟩;rw[List.take_length]at *;refine hKf _ ?_;refine Out.bool rfl (by simp) (hs.set rfl) ?_;have:=hK (by simp[za4,aU,bq]) (by omega);rw[dU]at this;rw[show left-1-(VT.nodesL ks:Int)=left-((VT.nodesL ks+1:Nat):Int) by omega];exact this
  -- behind the shape
  have fin:∀ lo hi:Int,(k≠4→k≠5→n≠0→zbk aa vars k n ks.length=false)→((ks.length:Int)<lo∨hi<(ks.length:Int)→zbk aa vars k n ks.length=false)→1≤left →
    ((k=4∨k=5∨n=0)→lo≤(ks.length:Int)→(ks.length:Int)≤hi→zbk aa vars k n ks.length=true) →
    zgV (.ptr H.length 0) (.ptr (H.length+1) 0) (.int .i64 lo) (.int .i64 hi) (H.set id (zbQ aa vars (left-1))++J) (Out H.length K):=by
   intro lo hi hz hr h1 az;have kX:(H.set id (zbQ aa vars (left-1))++J)[H.length+1]?=some (.cells [.int .i64 k,.int .i64 n,.sl (VT.css ks) .none]):=by rw[List.getElem?_append_right (by simp)];subst hJ;simp
   by_cases aF:k=4∨k=5∨n=0
   ·have h3:(k != 4)=false∨((k != 4)=true∧(k != 5)=false)∨((k != 4)=true∧(k != 5)=true∧(n != 0)=false):=by
     by_cases g4:k=4
     ·left;simp[g4]
     ·by_cases g5:k=5
      ·right;left;simp[g5]
      ·right;right;simp[g4,g5];omega
    rcases h3 with g | ⟨g,g'⟩ | ⟨g,g',g''⟩;case' inl=>simp[zgV,kX,fy,g]
    case' inr.inl=>simp[zgV,kX,fy,g,g']
    case' inr.inr=>simp[zgV,kX,fy,g,g',g'']
    all_goals
     by_cases d9:(ks.length:Int)<lo
     ·simp[d9];exact badS (hr (.inl d9)) _
     ·by_cases d8:hi<(ks.length:Int)
      ·simp[d9,d8,fy];exact badS (hr (.inr d8)) _
      ·simp[d9,d8,AV.isB,fy];refine args (az aF (by omega) (by omega)) h1 _ (λH' ho=>?_) (λH' ho=>?_) <;> simpa using ho
   ·have g:(k != 4)=true:=by simp;omega
    have g':(k != 5)=true:=by simp;omega
    have g'':(n != 0)=true:=by simp;omega
    simp[zgV,kX,fy,g,g',g''];exact badS (hz (by omega) (by omega) (by omega)) _
  have start:(H++J)[id]?=some (zbQ aa vars left):=zb8 ap;have cO:ztp (.ptr H.length 0) (.ptr (H.length+1) 0) (H.set id (zbQ aa vars (left-1))++J) (Out H.length K):=by
   refine zPl λa7=>?_;have g8:=aA (left-1);unfold zbQ at g8;by_cases h0:left-1<0
   ·simp[ztq,iD,zbQ,g8,h0];exact bad (λh=>by have:=h.2;rw[dU]at this;omega) _
   have h1:1≤left:=by omega
   simp[ztq,iD,fy,zbQ,g8,h0];refine zPo λ_=>?_;have cx:=λlo hi a b c=>fin lo hi a b h1 c;unfold zbQ at cx badS
   -- the three without arguments
   by_cases fx:k=1∨k=2∨k=3
   ·have aU:zbk aa vars k n ks.length=(n == 0 && ks.length == 0):=by rcases fx with rfl | rfl | rfl <;> rfl
    have:=cx 0 0 (λ_ _ hn=>by rw[aU];simp[hn]) (λh=>by rw[aU];simp;intro _;rintro rfl;simp at h) (λh h2 h3=>by
     have hn:n=0:=by omega
     have hl:ks.length=0:=by omega
     rw[aU,hn,hl];rfl)
    rcases fx with rfl | rfl | rfl <;> simp[ztr] <;> refine zCl λ_=>?_ <;> simp[zdV,zdH] <;> exact this
   have b1:(k == 1)=false:=by simp;omega
   have b2:(k == 2)=false:=by simp;omega
   have b3:(k == 3)=false:=by simp;omega
   simp[ztr,b1,b2,b3];refine zCl λ_=>?_;by_cases h4:k=4
   ·subst h4;have aU:zbk aa vars 4 n ks.length=(decide (0≤n) && decide (n<vars) && ks.length == 0):=rfl;by_cases g1:n<0
    ·simp[zdV,iD,fy,g8,g1];exact badS (by rw[aU];simp;omega) _
    by_cases g2:vars≤n
    ·simp[zdV,iD,fy,g8,g1,g2];exact badS (by rw[aU];simp;omega) _
    have:=cx 0 0 (λh=>(h rfl).elim) (λh=>by rw[aU];simp;intro _ _;rintro rfl;simp at h) (λh h2 h3=>by
     have hl:ks.length=0:=by omega
     rw[aU,hl];simp;omega)
    simp[zdV,iD,fy,g8,g1,g2,zdH];exact this
   have b4:(k == 4)=false:=by simp;omega
   by_cases h5:k=5
   ·subst h5;have aU:zbk aa vars 5 n ks.length=(decide (0≤n) && (match aa[n.toNat]? with | some d=>(ks.length:Int) == d.vars | none=>false)):=rfl;by_cases g1:n<0
    ·simp[zdV,iD,fy,g8,g1];exact badS (by rw[aU];simp;omega) _
    by_cases g2:(aa.length:Int)≤n
    ·simp[zdV,iD,fy,g8,g1,g2];exact badS (by rw[aU,List.getElem?_eq_none (by omega)];simp) _
    have cc:n.toNat<aa.length:=by omega
    have g2':n<aa.length:=by omega
    have g1':0≤n:=by omega
    rw[List.getElem?_eq_getElem cc]at aU;simp only[g1',decide_true,Bool.true_and]at aU;have:=cx (aa[n.toNat]).vars (aa[n.toNat]).vars (λ_ h=>(h rfl).elim) (λh=>by rw[aU];simp;omega) (λh h2 h3=>by rw[aU];simp;omega);simp[zdV,iD,fy,g8,g1,g2,g1',g2',cc,Dat.cs,zdH];exact this
   have b5:(k == 5)=false:=by simp;omega
   by_cases h6:k=6
   ·subst h6;have aU:zbk aa vars 6 n ks.length=(n == 0 && decide (2≤ks.length) && decide (ks.length≤6)):=rfl;have:=cx 2 6 (λ_ _ hn=>by rw[aU];simp[hn]) (λh=>by rw[aU];simp;intros;omega) (λh h2 h3=>by rw[aU];simp;omega);simp[zdV,zdH];exact this
   have b6:(k == 6)=false:=by simp;omega
   by_cases i4:k=7∨k=8
   ·have aU:zbk aa vars k n ks.length=(n == 0 && ks.length == 1):=by rcases i4 with rfl | rfl <;> rfl
    have:=cx 1 1 (λ_ _ hn=>by rw[aU];simp[hn]) (λh=>by rw[aU];simp;intros;omega) (λh h2 h3=>by rw[aU];simp;omega);rcases i4 with rfl | rfl <;> simp[zdV] <;> refine zCm λ_=>?_ <;> simp[zmp,zdH] <;> exact this
   have b7:(k == 7)=false:=by simp;omega
   have b8:(k == 8)=false:=by simp;omega
   simp[zdV,b4,b5,b6,b7,b8];refine zCm λ_=>?_;by_cases h9:k=9
   ·subst h9;have aU:zbk aa vars 9 n ks.length=(n == 0 && decide (1≤ks.length) && decide (ks.length≤7)):=rfl;have:=cx 1 7 (λ_ _ hn=>by rw[aU];simp[hn]) (λh=>by rw[aU];simp;intros;omega) (λh h2 h3=>by rw[aU];simp;omega);simp[zmp,zdH];exact this
   ·have b9:(k == 9)=false:=by simp;omega
    simp[zmp,b9];exact badS (by unfold zbk;simp[b1,b2,b3,b4,b5,b6,b7,b8,b9]) _
  subst hJ;unfold zbQ at start;simp[zCj,VT.cs,start];rw[zaw (by omega) (by omega),zej _ ap];exact cO
theorem zA3 (v:VT) (hb:v.nodes≤1000000000) (H:zaa) (K:AV→zaa→Prop) (hK:K (.bool (zaV aa vars v)) H):ACalls tP zhM [.sl (aa.map Dat.cs) .none,.agg v.cs,.int .i64 vars] H K:=by
 refine ACalls.out (zLU λhs=>?_);have hO:∀ J,Out H.length K (.bool (zaV aa vars v)) (H++J):=λJ=>Out.bool rfl (Nat.le_refl _) hs hK;obtain⟨x1,x2,x3,aC,bC,bg,bz⟩:=zbs v;simp[zA2,aC,zaq,zaI];rw[←aC];refine zKa aa vars _ v (Nat.le_refl _) hb 200 (by omega) (by omega) _ (H.length+1) (by simp[zbQ]) _ ?_ ?_
 ·intro ho hn;have:zaV aa vars v=true:=by simp[zaV,ho];omega
  rw[this]at hO;simp;exact hO _
 ·intro dt l';have:zaV aa vars v=false:=by
   cases h:zaV aa vars v with
   | false=>rfl
   | true=>simp[zaV]at h;exact (dt ⟨h.2,by omega⟩).elim
  rw[this]at hO;simp;exact hO _
end
mutual
theorem zzH:∀ v:VT,subst [] v=v
 | .mk k n ks=>by rw[subst,if_neg (by rintro⟨_,h1,h2⟩;simp at h2;omega),zzF ks]
theorem zzF:∀ l:List VT,zaR [] l=l
 | []=>rfl
 | t::ts=>by rw[zaR,zzH t,zzF ts]
end
theorem zRW:∀ (m:Nat) (args:List VT),(∀ x∈args,x.nodes≤1000000)→args.length≤1000000→∀ (v:VT),(if args=[] then v.nodes else v.nodes+1000001)≤m→v.nodes≤1000000→∀ (H:zaa) (K:AV→zaa→Prop),K (.agg (subst args v).cs) H→ACalls tP zhR [.agg v.cs,.sl (VT.css args) .none] H K:=by
 intro m;induction m with
 | zero=>intro args _ _ v h;have:=v.nodes_pos;split at h <;> omega
 | succ m ih=>
  intro args ha dX v hv hb H K hK;obtain⟨k,n,ks⟩:=v;have cc:VT.nodesL ks+1≤1000000:=by simpa[VT.nodes]using hb
  have bm:=VT.len_le ks;refine ACalls.out (zRU λhs=>?_);by_cases cN:k=4∧0≤n∧n<args.length
  ·obtain⟨rfl,h0,h1⟩:=cN;have hn:n.toNat<args.length:=by omega
   have aB:args≠[]:=by rintro rfl;simp at hn
   have cK:K (.agg (args[n.toNat]).cs) H:=by rw[subst,if_pos ⟨rfl,h0,h1⟩,List.getElem?_eq_getElem hn]at hK;exact hK
   have aS:=ha _ (List.getElem_mem hn);simp[VT.cs,zt7,h0,h1,hn];rw[if_neg aB]at hv;refine ACalls.wk (args':=[.agg (args[n.toNat]).cs,.sl (VT.css []) .none]) ?_ ⟨.rfl',.atom .snil,trivial⟩;refine ih [] (by simp) (by simp) _ (by simp;omega) aS _ _ ?_;rw[zzH];generalize args[n.toNat]=x at *;obtain⟨k',n',ks'⟩:=x;simp[VT.cs];exact Out.at rfl (Nat.le_refl _) hs .rfl' rfl rfl cK
  ·have cK:K (.agg (VT.mk k n (zaR args ks)).cs) H:=by rw[subst,if_neg cN]at hK;exact hK
   have go:∀ H1,H1=H++[.cells [.int .i64 k,.int .i64 n,.sl (VT.css ks) .none],.cells [.int .i64 0,.int .i64 0,.snil],.cells [.int .i64 k,.int .i64 n,.snil]]→ziJ (.sl (VT.css args) .none) (.ptr (H.length+1) 0) (.ptr (H.length+2) 0) (.sl (VT.css ks) .none) (.int .i64 ks.length) (.int .i64 0) H1 (Out H.length K):=by
    rintro _ rfl;unfold ziJ;refine ALoop.ownC (cs:=[.int .i64 k,.int .i64 n,.snil]) (H.length+2) 2 za1 3 (by simp) rfl ?_;have e0:(H++[AB.cells [.int .i64 k,.int .i64 n,.sl (VT.css ks) .none],.cells [.int .i64 0,.int .i64 0,.snil],.cells [.int .i64 k,.int .i64 n,.snil]]).length=H.length+3:=by simp
    rw[e0,zzm,List.append_assoc];have hJ:∀ i X,HSc (H++[.cells [.int .i64 k,.int .i64 n,.sl (VT.css ks) .none],.cells [.int .i64 0,.int .i64 0,.snil],.cells [.int .i64 k,.int .i64 n,.sl X (.own (H.length+3))],.perm za1 3 i]):=λi X=>hs.append (by simp[AB.sc,AV.scA,AV.scB]);show ziJ (.sl (VT.css args) .none) (.ptr (H.length+1) 0) (.ptr (H.length+2) 0) (.sl (VT.css ks) .none) (.int .i64 ks.length) (.int .i64 0) (H++[.cells [.int .i64 k,.int .i64 n,.sl (VT.css ks) .none],.cells [.int .i64 0,.int .i64 0,.snil],.cells [.int .i64 k,.int .i64 n,.sl [] (.own (H.length+3))],.perm za1 3 0]) (Out H.length K);refine zRS (Inv:=λq t37 H'=>∃ i:Nat,i≤ks.length∧q=ks.length-i∧t37=.int .i64 i∧H'=H++[.cells [.int .i64 k,.int .i64 n,.sl (VT.css ks) .none],.cells [.int .i64 0,.int .i64 0,.snil],.cells [.int .i64 k,.int .i64 n,.sl (VT.css ((zaR args ks).take i)) (.own (H.length+3))],.perm za1 3 i]) ks.length ?_ ?_
    ·intro _;exact⟨0,by omega,by omega,rfl,by simp[VT.css]⟩
    ·rintro q t37 H' ⟨i,hi,rfl,rfl,rfl⟩ hsc am aM Kb au;by_cases ak:i<ks.length
     ·have bl:=VT.kid_lt (k:=k) (n:=n) ak;have dD:(zaR args ks).length=ks.length:=by rw[zeA];simp
      have aG:i<(zaR args ks).length:=by omega
      have kf:(zaR args ks)[i]=subst args ks[i]:=by simp[zeA]
      obtain⟨x1,x2,x3,aC,bC,bg,bz⟩:=zbs ks[i];simp[zt8,ak,aC,bC,bg,bz];rw[←aC];refine zaB (.agg (subst args ks[i]).cs) (λJ=>ih args ha dX ks[i] (by by_cases he:args=[] <;> simp only[he,if_true,if_false]at hv ⊢ <;> omega) (by omega) _ _ ⟨rfl,rfl⟩) ?_;rw[zfm,←kf];simp[zav,zaM,zaJ,dD];refine⟨by omega,⟨by omega,by omega⟩,?_⟩;rw[zaw (by omega) (by omega),show min i ks.length=i by omega];refine au _ _ ⟨ks.length-(i+1),by omega,Back.at (J:=[_]) (H2:=H++[.cells [.int .i64 k,.int .i64 n,.sl (VT.css ks) .none],.cells [.int .i64 0,.int .i64 0,.snil],.cells [.int .i64 k,.int .i64 n,.sl (VT.css ((zaR args ks).take (i+1))) (.own (H.length+3))],.perm za1 3 (i+1)]) (by rw[zhk aG];simp;rfl) (by simp) (hJ _ _) ?_ ⟨_,rfl,i+1,by omega,rfl,by simp,rfl⟩⟩;simp[zm6,AV.sc,AV.scV,AV.scA,AV.scB]
     ·obtain rfl:i=ks.length:=by omega
      have e:(zaR args ks).take ks.length=zaR args ks:=List.take_of_length_le (by rw[zeA];simp);rw[e];simp[zt8];exact Out.at rfl (Nat.le_refl _) hs (WkV.agg (ds:=[.int .i64 k,.int .i64 n,.sl (VT.css (zaR args ks)) .none]) ⟨.refl _,.refl _,.sl _ _,trivial⟩) rfl (by simp[AV.scV,AV.scA,AV.scB]) (by simpa[VT.cs]using cK)
   simp only[VT.cs,zt7];by_cases h4:k=4
   ·subst h4;by_cases h0:0≤n
    ·have h1:¬ n<args.length:=λh=>cN ⟨rfl,h0,h⟩;simp[h0,h1,zaq,zaI,Nat.add_assoc];exact go _ rfl
    ·simp[h0,zaq,zaI,Nat.add_assoc];exact go _ rfl
   ·have i5:(k == 4)=false:=by simpa using h4
    simp[i5,zaq,zaI,Nat.add_assoc];exact go _ rfl
def zkB (args:List VT):AB:=.cells (args.map λx=>.int .i64 x.nodes)
theorem zRP (args:List VT) (ha:∀ x∈args,x.nodes≤1000000) (dX:args.length≤1000000):∀ (m:Nat) (v:VT),v.nodes≤m→v.nodes≤1000000→∀ (H:zaa) (id:Nat),H[id]?=some (zkB args)→∀ (K:AV→zaa→Prop),
  (∀ r:Nat,(r≤200↔(subst args v).nodes≤200)→(r≤200→r=(subst args v).nodes)→r≤1000000+200*v.nodes→K (.int .i64 r) H)→ACalls tP zjT [.agg v.cs,.ms id 0 args.length args.length] H K:=by
 intro m;induction m with
 | zero=>intro v h;have:=v.nodes_pos;omega
 | succ m ih=>
  intro v hv hb H id ap K hK;obtain⟨k,n,ks⟩:=v;have cc:VT.nodesL ks+1≤1000000:=by simpa[VT.nodes]using hb
  have bm:=VT.len_le ks;have fz:=zbr ap;refine ACalls.out (zRN λhs=>?_);by_cases cN:k=4∧0≤n∧n<args.length
  ·obtain⟨rfl,h0,h1⟩:=cN;have hn:n.toNat<args.length:=by omega
   have db:subst args (.mk 4 n ks)=args[n.toNat]:=by rw[subst,if_pos ⟨rfl,h0,h1⟩,List.getElem?_eq_getElem hn];rfl
   rw[db]at hK;have hg:(H++[AB.cells [.int .i64 4,.int .i64 n,.sl (VT.css ks) .none]])[id]?=some (zkB args):=zb8 ap;have aS:=ha _ (List.getElem_mem hn);unfold zkB at hg;simp[VT.cs,zt2,h0,h1,hn,hg,zbp];exact Out.int rfl (Nat.le_refl _) hs (hK _ Iff.rfl (λ_=>rfl) (by omega))
  ·have db:subst args (.mk k n ks)=.mk k n (zaR args ks):=by rw[subst,if_neg cN]
   have hnodes:(subst args (.mk k n ks)).nodes=VT.nodesL (zaR args ks)+1:=by rw[db];rfl
   rw[hnodes]at hK;have hO:∀ r:Nat,(r≤200↔VT.nodesL (zaR args ks)+1≤200)→(r≤200→r=VT.nodesL (zaR args ks)+1)→r≤1000000+200*(VT.mk k n ks).nodes→∀ J,Out H.length K (.int .i64 r) (H++J):=λr h1 h2 h3 J=>Out.int rfl (Nat.le_refl _) hs (hK r h1 h2 h3);have dD:(zaR args ks).length=ks.length:=by rw[zeA];simp
   have go:zt6 (.ms id 0 args.length args.length) (.int .i64 1) (.sl (VT.css ks) .none) (.int .i64 ks.length) (.int .i64 0) (H++[.cells [.int .i64 k,.int .i64 n,.sl (VT.css ks) .none]]) (Out H.length K):=by
    refine zRL (Inv:=λq t5 t31 H'=>∃ i:Nat,i≤ks.length∧q=ks.length-i∧t31=.int .i64 i∧t5=.int .i64 (1+VT.nodesL ((zaR args ks).take i):Nat)∧1+VT.nodesL ((zaR args ks).take i)≤200∧H'=H++[.cells [.int .i64 k,.int .i64 n,.sl (VT.css ks) .none]]) ks.length ?_ ?_
    ·intro _;exact⟨0,by omega,by omega,rfl,by simp[VT.nodesL],by simp[VT.nodesL],rfl⟩
    ·rintro q t5 t31 H' ⟨i,hi,rfl,rfl,rfl,bq,rfl⟩ hsc am aM Kb au;by_cases ak:i<ks.length
     ·have bl:=VT.kid_lt (k:=k) (n:=n) ak;have aG:i<(zaR args ks).length:=by omega
      have kf:(zaR args ks)[i]=subst args ks[i]:=by simp[zeA]
      have h1:=VT.nodesL_take aG;have h2:=VT.nodesL_take_le (zaR args ks) (i+1);rw[kf]at h1;obtain⟨x1,x2,x3,aC,bC,bg,bz⟩:=zbs ks[i];simp[zt3,ak,aC,bC,bg,bz];rw[←aC];refine ih ks[i] (by omega) (by omega) _ id (zb8 ap) _ λr eU du kY=>?_;simp;rw[zaw (by omega) (by omega)];by_cases ce:(200:Int)<1+VT.nodesL ((zaR args ks).take i)+r
      ·simp[ce,zm4,zt5];have:=hO (1+VT.nodesL ((zaR args ks).take i)+r) (by constructor <;> intro h <;> omega) (by omega) (by omega);have e:((1+VT.nodesL ((zaR args ks).take i)+r:Nat):Int)=1+(VT.nodesL ((zaR args ks).take i):Int)+r:=by omega
       rw[e]at this;exact this _
      ·have hr:r=(subst args ks[i]).nodes:=du (by omega);simp[ce];rw[zaw (by omega) (by omega),zz4];refine au _ _ ⟨ks.length-(i+1),by omega,Back.same (by simp) hsc ?_ ⟨_,_,rfl,i+1,by omega,rfl,by simp,?_,by omega,rfl⟩⟩
       ·simp[zm3,AV.sc,AV.scV,AV.scA,AV.scB];omega
       ·congr 1;omega
     ·obtain rfl:i=ks.length:=by omega
      rw[List.take_of_length_le (by omega)]at *;simp[zt3,zm4,zt5];have:=hO (1+VT.nodesL (zaR args ks)) (by omega) (by omega) (by omega);have e:((1+VT.nodesL (zaR args ks):Nat):Int)=1+(VT.nodesL (zaR args ks):Int):=by omega
      rw[e]at this;exact this _
   simp only[VT.cs,zt2];by_cases h4:k=4
   ·subst h4;by_cases h0:0≤n
    ·have h1:¬ n<args.length:=λh=>cN ⟨rfl,h0,h⟩;simp[h0,h1];exact go
    ·simp[h0];exact go
   ·have i5:(k == 4)=false:=by simpa using h4
    simp[i5];exact go
def zc5 (args:List VT) (i:Nat):List AV:=(args.take i).map (λx=>.int .i64 x.nodes)++List.replicate (args.length-i) (.int .i64 0)
theorem zIN (args:List VT) {i:Nat} (h:i≤args.length):(zc5 args i).length=args.length:=by simp[zc5];omega
theorem zIO (args:List VT) {i:Nat} (h:i<args.length):(zc5 args i).take i++[.int .i64 (args[i]).nodes]++(zc5 args i).drop (i+1)=zc5 args (i+1):=by
 have e1:((args.take i).map λx=>AV.int .i64 x.nodes).length=i:=by simp;omega
 unfold zc5;rw[List.take_append_of_le_length (by omega),List.take_of_length_le (by omega),List.drop_append,List.drop_of_length_le (by omega),List.nil_append,e1,List.take_succ_eq_append_getElem h,List.map_append];congr 1;rw[show i+1-i=1 by omega,List.drop_replicate];congr 1
theorem zCq (aa:List Dat) (gO:aa.length≤1000000) (lY:∀ d∈aa,∀ c∈d.cons,c.args.length≤1000∧∀ x∈c.args,x.nodes≤1000) (hdc:∀ d∈aa,d.cons.length≤1000000) (t:VT) (ht:t.nodes≤1000) (c:Int) (H:zaa) (K:AV→zaa→Prop) (hK:K (zcF (zbj aa t c)) H) :
  ACalls tP zjG [.sl (aa.map Dat.cs) .none,.agg t.cs,.int .i64 c] H K:=by
 refine ACalls.out (zPG λhs=>?_);obtain⟨k,n,ks⟩:=t;have cI:VT.nodesL ks+1≤1000:=by simpa[VT.nodes]using ht
 have dP:=VT.len_le ks;have hF:zbj aa (.mk k n ks) c=none→∀ J,Out H.length K (.tup [.snil,.bool false]) (H++J):=λh J=>by rw[h]at hK;exact Out.tup hs hK ⟨zdE,zaY rfl rfl,trivial⟩
 simp only[VT.cs,zCn];by_cases h5:k=5;case neg=>
  have:(k != 5)=true:=by simpa using h5
  simp[this,AV.isV];exact hF (by rw[zdc,if_neg (λh=>h5 h.1)]) _
 subst h5;by_cases h0:n<0
 ·simp[h0,AV.isV];exact hF (by rw[zdc,if_neg (λh=>by have:=h.2.1;omega)]) _
 by_cases h1:(aa.length:Int)≤n
 ·simp[h0,h1,AV.isV];exact hF (by
   rw[zdc];split
   ·rw[List.getElem?_eq_none (by omega)]
   ·rfl) _
 have hn:n.toNat<aa.length:=by omega
 have cu:n<aa.length:=by omega
 have fZ:0≤n:=by omega
 generalize c9:aa[n.toNat]=d at *;have hd:d∈aa:=by rw[←c9];exact List.getElem_mem hn
 have aA:aa[n.toNat]?=some d:=by rw[List.getElem?_eq_getElem hn,c9]
 cases hv:((ks.length:Int) == d.vars) with
 | false=>
  have bK:((ks.length:Int) != d.vars)=true:=by simp[bne,hv]
  simp[h0,h1,fZ,cu,hn,c9,Dat.cs,bK,AV.isV,aA];exact hF (by
   rw[zdc];split
   ·rw[aA];simp only;rw[if_neg (by simpa using hv)]
   ·rfl) _
 | true=>
 have bK:((ks.length:Int) != d.vars)=false:=by simp[bne,hv]
 have lZ:(ks.length:Int)=d.vars:=by simpa using hv
 by_cases cH:c<0
 ·simp[h0,h1,fZ,cu,hn,c9,Dat.cs,bK,AV.isV,aA,cH];exact hF (by rw[zdc,if_neg (λh=>by have:=h.2.2;omega)]) _
 have eq:∀ o,(match d.cons[c.toNat]? with | some k=>if (k.args.map (subst ks)).all (λx=>decide (x.nodes≤200))=true then some (k.args.map (subst ks)) else none | none=>none)=o→zbj aa (.mk 5 n ks) c=o:=λo h=>by rw[zdc,if_pos ⟨rfl,fZ,by omega⟩,aA];simp only;rw[if_pos lZ];exact h
 by_cases bG:(d.cons.length:Int)≤c
 ·simp[h0,h1,fZ,cu,hn,c9,Dat.cs,bK,AV.isV,aA,cH,bG];exact hF (eq none (by rw[List.getElem?_eq_none (by omega)])) _
 have cp:c.toNat<d.cons.length:=by omega
 have bQ:c<d.cons.length:=by omega
 have f5:0≤c:=by omega
 generalize ci:d.cons[c.toNat]=co at *;have c6:co∈d.cons:=by rw[←ci];exact List.getElem_mem cp
 have jL:d.cons[c.toNat]?=some co:=by rw[List.getElem?_eq_getElem cp,ci]
 obtain⟨dX,kg⟩:=lY d hd co c6;have dH:=λo=>eq o;rw[jL]at dH;simp only at dH;have i7:∀ x∈ks,x.nodes≤1000:=λy hy=>Nat.le_trans (zhx (k:=5) (n:=n) y hy) ht;simp[h0,h1,fZ,cu,hn,c9,Dat.cs,bK,AV.isV,aA,cH,bG,f5,bQ,cp,ci,zbe];refine⟨by omega,?_⟩;have ez:List.replicate ks.length (AV.int .i64 0)=zc5 ks 0:=by simp[zc5]
 rw[ez];have eA:∀ (l:List AV),(l.all λa=>a.scA (H.length+3))=true→HSc (H++[.cells [.int .i64 5,.int .i64 n,.sl (VT.css ks) .none],.cells [.str d.name,.int .i64 d.vars,.sl (d.cons.map Con.cs) .none],.cells l]):=λl hl=>hs.append (by simp[AB.sc];simpa using hl);have hszsc:∀ i,((zc5 ks i).all λa=>a.scA (H.length+3))=true:=λi=>by
  rw[List.all_eq_true];intro x hx;unfold zc5 at hx;rcases List.mem_append.1 hx with h | h
  ·obtain⟨y,_,rfl⟩:=List.mem_map.1 h;rfl
  ·rw[List.eq_of_mem_replicate h];rfl
 refine zPC (Inv:=λq t61 H'=>∃ i:Nat,i≤ks.length∧q=ks.length-i∧t61=.int .i64 i∧H'=H++[.cells [.int .i64 5,.int .i64 n,.sl (VT.css ks) .none],.cells [.str d.name,.int .i64 d.vars,.sl (d.cons.map Con.cs) .none],.cells (zc5 ks i)]) ks.length ?_ ?_
 ·intro _;exact⟨0,by omega,by omega,rfl,rfl⟩
 ·rintro q t61 H' ⟨i,hi,rfl,rfl,rfl⟩ hsc8 hlen8 hsF8 Kb8 hKb8;by_cases ak:i<ks.length
  ·have aS:=i7 _ (List.getElem_mem ak);obtain⟨x1,x2,x3,aC,bC,bg,bz⟩:=zbs ks[i];simp[ztv,ak,aC,bC,bg,bz];rw[←aC];refine zRF _ _ (Nat.le_refl _) (by omega) _ _ ?_;have bm:=zIN ks hi;simp[ak,bm];refine⟨by omega,?_⟩;rw[zaw (by omega) (by omega)];have e:=zIO ks ak;rw[List.append_assoc,List.singleton_append]at e;rw[e];refine hKb8 _ _ ⟨ks.length-(i+1),by omega,Back.at (J:=[_]) (H2:=H++[.cells [.int .i64 5,.int .i64 n,.sl (VT.css ks) .none],.cells [.str d.name,.int .i64 d.vars,.sl (d.cons.map Con.cs) .none],.cells (zc5 ks (i+1))]) (by simp;rfl) (by simp) (eA _ (hszsc _)) ?_ ⟨_,rfl,i+1,by omega,rfl,by simp,rfl⟩⟩;simp[zmt,AV.sc,AV.scV,AV.scA,AV.scB]
  ·obtain rfl:i=ks.length:=by omega
   have efull:zc5 ks ks.length=ks.map λx=>.int .i64 x.nodes:=by simp[zc5]
   have f9:=hsc8;rw[efull]at f9 ⊢;simp[ztv,f5,bQ,cp,ci,Con.cs,jL];refine zPA (Inv:=λq t79 H'=>∃ i:Nat,i≤co.args.length∧q=co.args.length-i∧t79=.int .i64 i∧(∀ x∈co.args.take i,(subst ks x).nodes≤200)∧H'=H++[.cells [.int .i64 5,.int .i64 n,.sl (VT.css ks) .none],.cells [.str d.name,.int .i64 d.vars,.sl (d.cons.map Con.cs) .none],.cells (ks.map λx=>.int .i64 x.nodes)]) co.args.length ?_ ?_
   ·intro _;exact⟨0,by omega,by omega,rfl,by simp,rfl⟩
   ·rintro q t79 H' ⟨i,hi,rfl,rfl,aO,rfl⟩ hsc13 hlen13 hsF13 Kb13 dv;by_cases ak:i<co.args.length
    ·have bf:=List.getElem_mem ak;obtain⟨x1,x2,x3,aC,bC,bg,bz⟩:=zbs co.args[i];simp[ztt,ak,aC,bC,bg,bz];rw[←aC];refine zRP ks (λy hy=>by have:=i7 y hy;omega) (by omega) _ co.args[i] (Nat.le_refl _) (by have:=kg _ bf;omega) _ (H.length+2) (by simp[zkB]) _ λr eU du kY=>?_;by_cases ce:r≤200
     ·have cP:¬ (200:Int)<r:=by omega
      simp[cP];rw[zaw (by omega) (by omega)];refine dv _ _ ⟨co.args.length-(i+1),by omega,Back.at (J:=[_]) (H2:=H++[.cells [.int .i64 5,.int .i64 n,.sl (VT.css ks) .none],.cells [.str d.name,.int .i64 d.vars,.sl (d.cons.map Con.cs) .none],.cells (ks.map λx=>.int .i64 x.nodes)]) (by simp;rfl) (by simp) f9 ?_ ⟨_,rfl,i+1,by omega,rfl,by simp,zx3 ak aO (eU.1 ce),rfl⟩⟩;simp[zmr,AV.sc,AV.scV,AV.scA,AV.scB]
     ·have cP:(200:Int)<r:=by omega
      simp[cP,AV.isV];refine hF (dH none ?_) _;rw[if_neg];intro i6;have:=List.all_eq_true.1 i6 (subst ks co.args[i]) (List.mem_map.2 ⟨_,bf,rfl⟩);exact ce (eU.2 (of_decide_eq_true this))
    ·obtain rfl:i=co.args.length:=by omega
     rw[List.take_length]at aO;have fQ:=dH (some (co.args.map (subst ks))) (if_pos (List.all_eq_true.2 λy hy=>by
      obtain⟨x,hx,rfl⟩:=List.mem_map.1 hy;exact decide_eq_true (aO x hx)))
     rw[fQ]at hK;simp[ztt,f5,bQ,cp,ci,Con.cs,jL];unfold zmu;refine ALoop.own 14 za1 3 rfl ?_;have bL:(H++[AB.cells [.int .i64 5,.int .i64 n,.sl (VT.css ks) .none],.cells [.str d.name,.int .i64 d.vars,.sl (d.cons.map Con.cs) .none],.cells (ks.map λx=>.int .i64 x.nodes)]).length=H.length+3:=by simp
     rw[bL];have aI:∀ m,HSc (H++[.cells [.int .i64 5,.int .i64 n,.sl (VT.css ks) .none],.cells [.str d.name,.int .i64 d.vars,.sl (d.cons.map Con.cs) .none],.cells (ks.map λx=>.int .i64 x.nodes),.perm za1 3 m]):=λm=>by have:=f9.append (J:=[.perm za1 3 m]) rfl;simpa using this
     rw[List.append_assoc];show zmu (.ptr H.length 0) (.sl [] (.own (H.length+3))) (.sl (VT.css co.args) .none) (.int .i64 co.args.length) (.int .i64 0) (H++[.cells [.int .i64 5,.int .i64 n,.sl (VT.css ks) .none],.cells [.str d.name,.int .i64 d.vars,.sl (d.cons.map Con.cs) .none],.cells (ks.map λx=>.int .i64 x.nodes),.perm za1 3 0]) (Out H.length K);refine zPB (Inv:=λq t14 t95 H'=>∃ i:Nat,i≤co.args.length∧q=co.args.length-i∧t95=.int .i64 i∧t14=.sl (VT.css ((co.args.map (subst ks)).take i)) (.own (H.length+3))∧H'=H++[.cells [.int .i64 5,.int .i64 n,.sl (VT.css ks) .none],.cells [.str d.name,.int .i64 d.vars,.sl (d.cons.map Con.cs) .none],.cells (ks.map λx=>.int .i64 x.nodes),.perm za1 3 i]) co.args.length ?_ ?_
     ·intro _;exact⟨0,by omega,by omega,rfl,by simp[VT.css],rfl⟩
     ·rintro q t14 t95 H' ⟨i,hi,rfl,rfl,rfl,rfl⟩ hsc20 hlen20 hsF20 Kb20 hKb20;by_cases ak:i<co.args.length
      ·have bf:=List.getElem_mem ak;obtain⟨x1,x2,x3,aC,bC,bg,bz⟩:=zbs co.args[i];simp[ztu,ak,aC,bC,bg,bz];rw[←aC];refine zRW _ ks (λy hy=>by have:=i7 y hy;omega) (by omega) co.args[i] (Nat.le_refl _) (by have:=kg _ bf;omega) _ _ ?_;rw[zfm];simp[zav,zaM,zaJ];refine⟨by omega,⟨by omega,by omega⟩,?_⟩;rw[zaw (by omega) (by omega),show min i co.args.length=i by omega];refine hKb20 _ _ ⟨co.args.length-(i+1),by omega,Back.at (H2:=H++[.cells [.int .i64 5,.int .i64 n,.sl (VT.css ks) .none],.cells [.str d.name,.int .i64 d.vars,.sl (d.cons.map Con.cs) .none],.cells (ks.map λx=>.int .i64 x.nodes),.perm za1 3 (i+1)]) (J:=[_]) (by simp;rfl) (by simp) (aI _) ?_ ⟨_,_,rfl,i+1,by omega,rfl,by simp,?_,rfl⟩⟩
       ·simp[zms,AV.sc,AV.scV,AV.scA,AV.scB]
       ·rw[zhk (by simpa using ak)];simp
      ·obtain rfl:i=co.args.length:=by omega
       rw[List.take_of_length_le (by simp)];simp[ztu,AV.isV];exact Out.tup hs hK ⟨slV,zaY rfl rfl,trivial⟩
def zhw (i:Nat):VT→Bool
 | .mk k n ks=>k == 4 && n == i && ks.length == 0
def zcR:List VT→Nat→Bool
 | [],_=>true
 | x::l,i=>zhw i x && zcR l (i+1)
def zb4 (d vars:Int):VT→Bool
 | .mk k n ks=>k == 5 && n == d && (ks.length:Int) == vars && zcR ks 0
mutual
def zcu (d:Int):VT→Bool
 | .mk k n ks=>(k == 5 && n == d) || zeU d ks
def zeU (d:Int):List VT→Bool
 | []=>false
 | t::ts=>zcu d t || zeU d ts
end
theorem zv6 (v:VT) (d vars:Int) (hb:v.nodes≤1000000) (H:zaa) (K:AV→zaa→Prop) (hK:K (.bool (zb4 d vars v)) H):ACalls tP zke [.agg v.cs,.int .i64 d,.int .i64 vars] H K:=by
 refine ACalls.out (zXN λhs=>?_);obtain⟨k,n,ks⟩:=v;have cc:VT.nodesL ks+1≤1000000:=by simpa[VT.nodes]using hb
 have bm:=VT.len_le ks;have hO:∀ J,Out H.length K (.bool (k == 5 && n == d && (ks.length:Int) == vars && zcR ks 0)) (H++J):=λJ=>Out.bool rfl (Nat.le_refl _) hs (by simpa[zb4]using hK);simp only[VT.cs,zE6];cases h5:(k == 5) with
 | false=>
  have:(k != 5)=true:=by simp[bne,h5]
  rw[h5]at hO;simp[this];exact hO _
 | true=>
 have ga:(k != 5)=false:=by simp[bne,h5]
 cases hn:(n == d) with
 | false=>
  have:(n != d)=true:=by simp[bne,hn]
  rw[h5,hn]at hO;simp[ga,this];exact hO _
 | true=>
 have bT:(n != d)=false:=by simp[bne,hn]
 cases hv:((ks.length:Int) == vars) with
 | false=>
  have:((ks.length:Int) != vars)=true:=by simp[bne,hv]
  rw[h5,hn,hv]at hO;simp[ga,bT,this];exact hO _
 | true=>
 have bK:((ks.length:Int) != vars)=false:=by simp[bne,hv]
 rw[h5,hn,hv]at hO;simp only[Bool.true_and]at hO;simp[ga,bT,bK];refine zXL (Inv:=λq t7 H'=>∃ i:Nat,i≤ks.length∧q=ks.length-i∧t7=.int .i64 i∧zcR (ks.drop i) i=zcR ks 0∧H'=H++[.cells [.int .i64 k,.int .i64 n,.sl (VT.css ks) .none]]) ks.length ?_ ?_
 ·intro _;exact⟨0,by omega,by omega,rfl,by simp,rfl⟩
 ·rintro q t7 H' ⟨i,hi,rfl,rfl,ho,rfl⟩ hsc am aM Kb au;by_cases ak:i<ks.length
  ·rw[List.drop_eq_getElem_cons ak,zcR]at ho;obtain⟨k',n',ks',hx⟩:∃ k' n' ks',ks[i]=.mk k' n' ks':=by cases h:ks[i] with | mk a b c=>exact⟨a,b,c,rfl⟩
   rw[hx,zhw]at ho;cases g1:(k' == 4) with
   | false=>
    have:(k' != 4)=true:=by simp[bne,g1]
    rw[g1]at ho;simp only[Bool.false_and]at ho;rw[←ho]at hO;simp[zg4,ak,hx,VT.cs,this];exact hO _
   | true=>
   have g1':(k' != 4)=false:=by simp[bne,g1]
   cases g2:(n' == (i:Int)) with
   | false=>
    have:(n' != (i:Int))=true:=by simp[bne,g2]
    rw[g1,g2]at ho;simp only[Bool.false_and,Bool.and_false]at ho;rw[←ho]at hO;simp[zg4,ak,hx,VT.cs,g1',this];exact hO _
   | true=>
   have g2':(n' != (i:Int))=false:=by simp[bne,g2]
   by_cases g3:ks'.length=0
   ·have g3':¬ (0:Int)<ks'.length:=by omega
    have g3'':¬ 0<ks'.length:=by omega
    rw[g1,g2,g3]at ho;simp only[Bool.true_and,BEq.rfl]at ho;simp[zg4,ak,hx,VT.cs,g1',g2',g3',g3''];rw[zaw (by omega) (by omega)];refine au _ _ ⟨ks.length-(i+1),by omega,Back.here (by simp) hsc ?_ ⟨_,rfl,i+1,by omega,rfl,by simp,ho,rfl⟩⟩;simp[zoH,AV.sc,AV.scV,AV.scA,AV.scB]
   ·have g3':(0:Int)<ks'.length:=by omega
    have g3'':0<ks'.length:=by omega
    have g4:(ks'.length == 0)=false:=by simpa using g3
    rw[g4]at ho;simp only[Bool.and_false,Bool.false_and]at ho;rw[←ho]at hO;simp[zg4,ak,hx,VT.cs,g1',g2',g3',g3''];exact hO _
  ·obtain rfl:i=ks.length:=by omega
   rw[List.drop_length,zcR]at ho;rw[←ho]at hO;simp[zg4];exact hO _
theorem zGe:zel tP zjW=true:=by kernel_rfl
theorem zx6 (d:Int):∀ l:List VT,zeU d l=l.any (zcu d)
 | []=>rfl
 | t::ts=>by simp[zeU,zx6 d ts]
theorem zSq (d:Int):∀ (m:Nat) (v:VT),v.nodes≤m→v.nodes≤1000000→∀ (H:zaa) (K:AV→zaa→Prop),K (.bool (zcu d v)) H→ACalls tP zjV [.agg v.cs,.int .i64 d] H K:=by
 intro m;induction m with
 | zero=>intro v h;have:=v.nodes_pos;omega
 | succ m ih=>
  intro v hv hb H K hK;obtain⟨k,n,ks⟩:=v;have cc:VT.nodesL ks+1≤1000000:=by simpa[VT.nodes]using hb
  have bm:=VT.len_le ks;refine ACalls.out (zSp λhs=>?_);have hO:∀ J,Out H.length K (.bool ((k == 5 && n == d) || ks.any (zcu d))) (H++J):=λJ=>Out.bool rfl (Nat.le_refl _) hs (by simpa[zcu,zx6]using hK);have go:(k == 5 && n == d)=false→∀ KK:AV→zaa→Prop,(∀ b,Out H.length K (.bool b) (H++[.cells [.int .i64 k,.int .i64 n,.sl (VT.css ks) .none],.cells [.int .i64 d]])→KK (.bool b) (H++[.cells [.int .i64 k,.int .i64 n,.sl (VT.css ks) .none],.cells [.int .i64 d]])) →
    ACalls tP zfz [.sl (VT.css ks) .none,.fn zjW [.ptr (H.length+1) 0]] (H++[.cells [.int .i64 k,.int .i64 n,.sl (VT.css ks) .none],.cells [.int .i64 d]]) KK:=by
   intro dt KK hKK;rw[dt,Bool.false_or]at hO;refine zpr ks (by omega) _ _ _ (by simp[AV.sc,AV.scV,AV.scA,AV.scB]) (λi H'=>(ks.drop i).any (zcu d)=ks.any (zcu d)∧H'=H++[.cells [.int .i64 k,.int .i64 n,.sl (VT.css ks) .none],.cells [.int .i64 d]]) ⟨by simp,rfl⟩ ?_ ?_
   ·rintro i hi H' aS ⟨ho,rfl⟩;have bl:=VT.kid_lt (k:=k) (n:=n) hi;rw[List.drop_eq_getElem_cons hi,List.any_cons]at ho;simp only[aCallV,zGe,List.singleton_append];refine ACalls.out (zSL λa7=>?_);obtain⟨x1,x2,x3,aC,bC,bg,bz⟩:=zbs ks[i];simp[zDm,aC];rw[←aC];refine ih ks[i] (by omega) (by omega) _ _ ?_;refine Out.bool (J:=[_]) (H2:=H++[.cells [.int .i64 k,.int .i64 n,.sl (VT.css ks) .none],.cells [.int .i64 d]]) (by simp;rfl) (by simp) a7 ?_;cases hb:zcu d ks[i] with
    | false=>rw[hb,Bool.false_or]at ho;exact .inl ⟨rfl,ho,rfl⟩
    | true=>rw[hb,Bool.true_or]at ho;rw[←ho]at hO;exact .inr ⟨rfl,hKK _ (hO _)⟩
   ·rintro H' ⟨ho,rfl⟩;rw[List.drop_length,List.any_nil]at ho;rw[←ho]at hO;exact hKK _ (hO _)
  simp only[VT.cs,zDg];cases h5:(k == 5) with
  | false=>simp[h5,AV.isB];refine go (by rw[h5];rfl) _ λb hb=>?_;simpa using hb
  | true=>
   cases hn:(n == d) with
   | false=>simp[h5,hn,AV.isB];refine go (by rw[hn];simp) _ λb hb=>?_;simpa using hb
   | true=>rw[h5,hn]at hO;simp[h5,hn];exact hO _
def zbH (l:List Bool):List AV:=l.map AV.bool
@[simp] theorem ya6 (l:List Bool):(zbH l).length=l.length:=by simp[zbH]
theorem zGb (n:Nat):(List.replicate n [AV.bool false]).flatten=zbH (List.replicate n false):=by
 induction n with
 | zero=>rfl
 | succ n ih=>simp[List.replicate_succ,ih,zbH]
theorem zwW {l:List Bool} {i:Nat} (h:i<l.length) (b:Bool):(zbH l).take i++.bool b::(zbH l).drop (i+1)=zbH (l.set i b):=by simp[zbH,List.set_eq_take_append_cons_drop,h]
theorem zwV (m:Nat) (l:List Bool):(zbH l).all (AV.scA m)=true:=by simp[zbH]
theorem zyO:∀ l:List Bool,plain (zbH l)=some (l.map λb=>[AV.bool b]).flatten
 | []=>rfl
 | b::l=>by have:=zyO l;simp[zbH]at this ⊢;simp[plain,this,AV.pd]
theorem ztB (aa:List Dat) (d:Nat) (c:Nat) (hd:d<aa.length) (hc:c<(aa[d]).cons.length) (hl:aa.length≤1000000) (bP:(aa[d]).cons.length≤1000000) (dX:((aa[d]).cons[c]).args.length≤1000000)
  (hb:∀ x∈((aa[d]).cons[c]).args,x.nodes≤1000000) (H:zaa) (K:AV→zaa→Prop)
  (hK:K (.sl (((aa[d]).cons[c]).args.map λt=>[.bool (zb4 d (aa[d]).vars t)]) .none) H) :
  ACalls tP zfx [.sl (aa.map Dat.cs) .none,.int .i64 d,.int .i64 c] H K:=by
 refine ACalls.out (zPM λhs=>?_);have e1:(aa.map Dat.cs)[d]?=some (aa[d]).cs:=by simp[hd]
 have e2:((aa[d]).cons.map Con.cs)[c]?=some ((aa[d]).cons[c]).cs:=by simp[hc]
 generalize hD:aa[d]=D at *;generalize hA:D.cons[c]=C at *;have h1:¬ (d:Int)<0:=by omega
 have h2:¬ (aa.length:Int)≤d:=by omega
 have h3:¬ (c:Int)<0:=by omega
 have h4:¬ (D.cons.length:Int)≤c:=by omega
 simp[zCr,h1,h2,h3,h4,e1,e2,Dat.cs,Con.cs,hd,hD,hc,hA];simp only[zbe,Int.toNat_natCast,zGb];refine⟨⟨by omega,by omega,by omega,by omega⟩,?_⟩;refine zPK (Inv:=λq t49 H'=>∃ (i:Nat) (bs:List Bool),i≤C.args.length∧q=C.args.length-i∧t49=.int .i64 i∧bs.length=C.args.length∧(∀ j (hj:j<i) (h':j<C.args.length),bs[j]?=some (zb4 d D.vars C.args[j]))∧H'=H++[.cells (zbH bs)]) C.args.length ?_ ?_
 ·intro _;exact⟨0,_,by omega,by omega,rfl,by simp,by omega,rfl⟩
 ·rintro q t49 H' ⟨i,bs,hi,rfl,rfl,cQ,kj,rfl⟩ hsc am aM Kb au;by_cases ak:i<C.args.length
  ·obtain⟨k,n,ks,hx⟩:∃ k n ks,C.args[i]=.mk k n ks:=by cases h:C.args[i] with | mk a b c=>exact⟨a,b,c,rfl⟩
   have gb:=hb _ (List.getElem_mem ak);rw[hx,VT.nodes]at gb;have bm:=VT.len_le ks;have inner:∀ b0:Bool,b0=(k == 5 && n == (d:Int) && (ks.length:Int) == D.vars) →
     ztA (.sl (aa.map Dat.cs) .none) (.int .i64 d) (.ms H.length 0 C.args.length C.args.length) (.int .i64 i) (.sl (VT.css C.args) .none) (.int .i64 C.args.length) (.int .i64 i) (.sl (VT.css ks) .none) (.int .i64 ks.length) (.int .i64 0)
      (H++[.cells (zbH (bs.set i b0)),.cells [.int .i64 k,.int .i64 n,.sl (VT.css ks) .none]]) (Out H.length K) Kb:=by
    intro b0 bE;refine zPJ (Inv:=λq t80 H'=>∃ (j:Nat) (b:Bool),j≤ks.length∧q=ks.length-j∧t80=.int .i64 j∧(b && zcR (ks.drop j) j)=zb4 d D.vars C.args[i]∧H'=H++[.cells (zbH (bs.set i b)),.cells [.int .i64 k,.int .i64 n,.sl (VT.css ks) .none]]) ks.length ?_ ?_
    ·intro _;exact⟨0,b0,by omega,by omega,rfl,by simp[hx,zb4,bE],rfl⟩
    ·rintro q t80 H' ⟨j,b,hj,rfl,rfl,er,rfl⟩ i8 bL i9 Kb1 eB;have hsc0:∀ b:Bool,HSc (H++[.cells (zbH (bs.set i b))]):=λb=>hs.snoc (by simp[AB.sc,zwV]);have ck:∀ b:Bool,HSc (H++[.cells (zbH (bs.set i b)),.cells [.int .i64 k,.int .i64 n,.sl (VT.css ks) .none]]):=λb=>hs.append (by simp[AB.sc,zwV]);by_cases aQ:j<ks.length
     ·obtain⟨k',n',ks',fH⟩:∃ k' n' ks',ks[j]=.mk k' n' ks':=by cases h:ks[j] with | mk a b c=>exact⟨a,b,c,rfl⟩
      have l0:i<bs.length:=by omega
      rw[List.drop_eq_getElem_cons aQ,zcR,fH,zhw]at er;have eV:∀ (b':Bool) J,(b' && zcR (ks.drop (j+1)) (j+1))=zb4 d D.vars C.args[i]→ztz (.sl (aa.map Dat.cs) .none) (.int .i64 d) (.ms H.length 0 C.args.length C.args.length) (.int .i64 i) (.sl (VT.css C.args) .none) (.int .i64 C.args.length) (.int .i64 i) (.sl (VT.css ks) .none) (.int .i64 ks.length) (.int .i64 j)
        (H++.cells (zbH (bs.set i b'))::.cells [.int .i64 k,.int .i64 n,.sl (VT.css ks) .none]::J) (Out H.length K) Kb Kb1:=by
       intro b' J km;simp[ztz];rw[zaw (by omega) (by omega)];refine eB _ _ ⟨ks.length-(j+1),by omega,Back.at (J:=J) (H2:=H++[.cells (zbH (bs.set i b')),.cells [.int .i64 k,.int .i64 n,.sl (VT.css ks) .none]]) (by simp) (by simp) (ck _) ?_ ⟨_,rfl,j+1,b',by omega,rfl,by simp,km,rfl⟩⟩;simp[zmv,AV.sc,AV.scV,AV.scA,AV.scB]
      have bR:∀ l,List.take i (zbH (bs.set i b))++.bool false::List.drop (i+1) (zbH (bs.set i b))=l→l=zbH (bs.set i false):=by rintro _ rfl;rw[zwW (by simpa using l0)];simp
      cases g1:(k' == 4) with
      | false=>
       have:(k' != 4)=true:=by simp[bne,g1]
       rw[g1]at er;simp[zgW,zgX,aQ,fH,VT.cs,this,ak,cQ,bR _ rfl];refine⟨by omega,eV _ _ ?_⟩;simpa using er.symm
      | true=>
      have g1':(k' != 4)=false:=by simp[bne,g1]
      cases g2:(n' == (j:Int)) with
      | false=>
       have:(n' != (j:Int))=true:=by simp[bne,g2]
       rw[g1,g2]at er;simp[zgW,zgX,aQ,fH,VT.cs,g1',this,ak,cQ,bR _ rfl];refine⟨by omega,eV _ _ ?_⟩;simpa using er.symm
      | true=>
      have g2':(n' != (j:Int))=false:=by simp[bne,g2]
      by_cases g3:ks'.length=0
      ·have g3':¬ (0:Int)<ks'.length:=by omega
       have g3'':¬ 0<ks'.length:=by omega
       simp[zgW,zgX,aQ,fH,VT.cs,g1',g2',g3',g3''];refine eV _ _ ?_;simpa[g1,g2,g3]using er
      ·have g3':(0:Int)<ks'.length:=by omega
       have g3'':0<ks'.length:=by omega
       have g4:(ks'.length == 0)=false:=by simpa using g3
       rw[g4]at er;simp[zgW,zgX,aQ,fH,VT.cs,g1',g2',g3',g3'',ak,cQ,bR _ rfl];refine⟨by omega,eV _ _ ?_⟩;simpa using er.symm
     ·obtain rfl:j=ks.length:=by omega
      rw[List.drop_length,zcR,Bool.and_true]at er;simp[zgW];rw[zaw (by omega) (by omega)];refine au _ _ ⟨C.args.length-(i+1),by omega,Back.at (J:=[.cells [.int .i64 k,.int .i64 n,.sl (VT.css ks) .none]]) (H2:=H++[.cells (zbH (bs.set i b))]) (by simp) (by simp) (hsc0 _) ?_ ⟨_,rfl,i+1,bs.set i b,by omega,rfl,by simp,by simpa using cQ,?_,rfl⟩⟩
      ·simp[zmw,AV.sc,AV.scV,AV.scA,AV.scB]
      ·intro j hj h';by_cases cY:j=i
       ·subst cY;rw[←er];simp[cQ,ak]
       ·rw[List.getElem?_set_ne (by omega)];exact kj j (by omega) h'
   have bR:∀ b l,List.take i (zbH bs)++.bool b::List.drop (i+1) (zbH bs)=l→l=zbH (bs.set i b):=by rintro b _ rfl;rw[zwW (by omega)]
   cases h5:(k == 5) with
   | false=>simp[ziE,ak,hx,VT.cs,e1,hd,hD,Dat.cs,h5,cQ,bR _ _ rfl];refine⟨by omega,inner _ ?_⟩;simp[h5]
   | true=>
   cases hn:(n == (d:Int)) with
   | false=>simp[ziE,ak,hx,VT.cs,e1,hd,hD,Dat.cs,h5,hn,cQ,bR _ _ rfl];refine⟨by omega,inner _ ?_⟩;simp[h5,hn]
   | true=>simp[ziE,ak,hx,VT.cs,e1,hd,hD,Dat.cs,h5,hn,cQ,bR _ _ rfl];refine⟨by omega,inner _ ?_⟩;simp[h5,hn]
  ·obtain rfl:i=C.args.length:=by omega
   simp[ziE];have gF:bs=C.args.map (zb4 d D.vars):=by refine List.ext_getElem (by simpa using cQ) λj h1 h2=>?_;have:=kj j (by omega) (by omega);rw[List.getElem?_eq_getElem h1]at this;simpa using this
   subst gF;refine⟨_,H,_,rfl,Nat.le_refl _,hs,.one (.frz H.length 0 _ _ 1 (zbH (C.args.map (zb4 d D.vars))) (C.args.map λt=>[.bool (zb4 d D.vars t)]) (Nat.le_refl _) (by simp) (by simp) ?_ (by simp) (by simp) (Nat.le_refl _)),hK⟩;rw[List.drop_zero,List.take_of_length_le (by simp),zyO,List.map_map];rfl
def zb3 (b:UInt8):Bool:=decide (97≤(b.toNat:Int)) && decide ((b.toNat:Int)≤122)
def bUp (b:UInt8):Bool:=decide (65≤(b.toNat:Int)) && decide ((b.toNat:Int)≤90)
def za2 (b:UInt8):Bool:=decide (48≤(b.toNat:Int)) && decide ((b.toNat:Int)≤57)
def bIn (b:UInt8):Bool:=zb3 b || bUp b || za2 b || b == 95
def zdu (b:UInt8):Bool:=b == 9 || b == 10 || b == 13 || b == 32
def zch:List UInt8→Int→Bool
 | [],_=>true
 | b::l,n=>let m:=n*10+((b.toNat:Int)-48)
  if m>1000000 then false else zch l m
def zdD (r:List UInt8):Bool:=r.take 2 == [45,62] || r.take 2 == [60,61] || r.take 2 == [61,61]
def sgns:List UInt8:=[40,41,44,61,124,43,45,42,47,37,60,59,95]
def sgn (r:List UInt8):Nat:=
 if zdD r=true then 2 else match r with
 | []=>0
 | b::_=>if sgns.contains b=true then 1 else 0
structure Tk where
 kind:Int
 text:List UInt8
 pos:Nat
def tok (kw:List UInt8→Bool) (b:UInt8) (r:List UInt8):Except Int (Int × Nat):=
 if (zb3 b || bUp b)=true then
  let n:=(r.takeWhile bIn).length+1
  if n>24 then .error 9 else .ok (if bUp b=true then 2 else if kw ((b::r).take n)=true then 4 else 1,n)
 else if za2 b=true then
  let n:=(r.takeWhile za2).length+1
  if b == 48 && decide (n>1) then .error 2 else if zch ((b::r).take n) 0=true then .ok (3,n) else .error 9
 else
  let n:=sgn (b::r)
  if n=0 then .error 2 else .ok (5,n)
theorem zrP {kw:List UInt8→Bool} {b:UInt8} {r:List UInt8} {k:Int} {n:Nat} (h:tok kw b r=.ok (k,n)):0<n:=by
 unfold tok at h;split at h
 ·simp only at h;split at h <;> simp at h;omega
 ·split at h
  ·simp only at h;split at h
   ·simp at h
   ·split at h <;> simp at h;omega
  ·simp only at h;split at h <;> simp at h;omega
def zbG (kw:List UInt8→Bool) (r:List UInt8) (pos:Nat):Except (Nat × Int) (List Tk):=
 match r with
 | []=>.ok [⟨6,[],pos⟩]
 | b::r'=>
  if zdu b=true then zbG kw r' (pos+1)
  else if b == 35 then zbG kw (r'.dropWhile (· != 10)) (pos+1+(r'.takeWhile (· != 10)).length)
  else match tok kw b r' with
   | .error e=>.error (pos,e)
   | .ok (k,n)=>match zbG kw (r'.drop (n-1)) (pos+n) with
    | .error e=>.error e
    | .ok l=>.ok (⟨k,(b::r').take n,pos⟩::l)
termination_by r.length
decreasing_by
 ·simp
 ·have:=(List.dropWhile_sublist (p:=(· != 10)) (l:=r')).length_le;simp;omega
 ·simp;omega
section
variable (t0 t5 t6 t7 t8 t9:AV) (H:zaa) (K:Kt) (Kb5 Kb9 Kb10 Kb18 Kb29:Lt)
def zfX:Nat→List Bool | 5=>rl false [0,1,4,2,54] | 9=>rl false [0,1,4,2,54] | _=>[]
noncomputable def zuh:Code:=Tryz.f227.body.getD .skip
noncomputable def zSm:List ResultVar:=Tryz.f227.results.toList
def zgZ:List AV:=t0::ux 4 (t5::t6::ux 54 [])
def zDf:List Bool:=zfX 5
noncomputable def zui:Code:=zar [1,0,1,1,1,1,0,0,0] zuh
def zDc:AExit→List AV→zaa→Prop:=zas tP zfX [1,0,1,1,1,1,0,0] zuh (zaz tP zSm K)
def znd:Prop:=ALoop tP zui (zDc K) (zgZ t0 t5 t6) H
def zg0 (t0 t5 t6:AV) (H:zaa) (K:Kt) (Kb5:Lt):Prop:=Kb5 (zgZ t0 t5 t6) H
def znb:List AV:=t0::ux 4 (t5::t6::ux 54 [])
def zSk:List Bool:=zfX 9
noncomputable def zSh:Code:=zar [1,0,1,0,1,0,0,0,0] zui
def zSg:AExit→List AV→zaa→Prop:=zas tP zfX [1,0,1,0,1,0,0,0] zui (zbL zDf Kb5 (zDc K))
def zDe:Prop:=ALoop tP zSh (zSg K Kb5) (znb t0 t5 t6) H
def zDd:Prop:=zah 0 t0 λt57=>zaq [(.int .i64 0),(.str []),(.int .i64 0)] [(0,1),(1,1),(2,1)] [(0,(.int .i64 6)),(2,t57)] λt58=>zau 3 [(.int .i64 0),(.str []),(.int .i64 0)] 1 [(0,t58)] λt59=>zav zeR 3 32 t5 t59 H λt60 H=>zaF [t60,(.int .i64 0),(.int .i64 0)] (K · H)
def znc:Prop:=zDd t0 t5 H K
def zug:Prop:=zah 0 t0 λt28=>zac .lss false t6 t28 λt29=>zag t29 (zbI t0 t6 λt34=>zac .eql false t34 (.int .u8 10) λt35=>zag t35 (zg0 t0 t5 t6 H K Kb5) (zac .add false t6 (.int .i64 1) λt31=>Kb9 (znb t0 t5 t31) H)) (znc t0 t5 H K)
def zuf:Prop:=zah 0 t0 λt14=>zac .lss false t6 t14 λt15=>zag t15 (zbI t0 t6 λt18=>ACalls tP zqJ [t18] H λt19 H=>zag t19 (zac .add false t6 (.int .i64 1) λt21=>zg0 t0 t5 t21 H K Kb5) (zbI t0 t6 λt24=>zac .eql false t24 (.int .u8 35) λt25=>zag t25 (zDe t0 t5 t6 H K Kb5) (ACalls tP zqK [t0,t6] H λt39 H=>zaC t39 0 λt40=>zaC t39 1 λt41=>zay [(.int .i64 0),(.str []),(.int .i64 0)] H λt7 H=>zao 3 t7 t40 H λH=>zac .neq false t41 (.int .i64 0) λt43=>zag t43 (zaF [.snil,t6,t41] (K · H)) (zae true 3 t7 H λt47=>zau 3 [(.int .i64 0),(.str []),(.int .i64 0)] 1 [(0,t47)] λt48=>zav zeR 3 32 t5 t48 H λt49 H=>zaf 1 t7 λt51=>zae false 1 t51 H λt52=>zah 0 t52 λt53=>zac .add false t6 t53 λt54=>zg0 t0 t49 t54 H K Kb5)))) (znc t0 t5 H K)
def zue:Prop:=zah 0 t0 λt10=>zac .gtr false t10 (.int .i64 16384) λt11=>zag t11 (zaF [.snil,(.int .i64 0),(.int .i64 9)] (K · H)) (znd t0 .snil (.int .i64 0) H K)
def zdk:Nat→List Bool | 5=>rl false [0,1,4,2,193] | 10=>rl false [0,1,4,2,193] | 18=>rl false [0,1,4,4,191] | 29=>rl false [0,1,4,4,191] | _=>[]
noncomputable def zsT:Code:=Tryz.f145.body.getD .skip
noncomputable def zND:List ResultVar:=Tryz.f145.results.toList
def zfR:List AV:=t0::ux 4 (t5::t6::ux 193 [])
def zlX:List Bool:=zdk 5
noncomputable def zfQ:Code:=zar [1,1,1,0,1,0,0] zsT
def zlR:AExit→List AV→zaa→Prop:=zas tP zdk [1,1,1,0,1,0] zsT (zaz tP zND K)
def zlW:Prop:=ALoop tP zfQ (zlR K) (zfR t0 t5 t6) H
def ze5 (t0 t5 t6:AV) (H:zaa) (K:Kt) (Kb5:Lt):Prop:=Kb5 (zfR t0 t5 t6) H
def zlU:List AV:=t0::ux 4 (t5::t6::ux 193 [])
def zNz:List Bool:=zdk 10
noncomputable def zNs:Code:=zar [1,0,1,1,0,1,0,0,0,0] zfQ
def zNp:AExit→List AV→zaa→Prop:=zas tP zdk [1,0,1,1,0,1,0,0,0] zfQ (zbL zlX Kb5 (zlR K))
def zBw:Prop:=ALoop tP zNs (zNp K Kb5) (zlU t0 t5 t6) H
def zsQ:Prop:=zah 0 t0 λt42=>zac .lss false t6 t42 λt43=>zad t43 true H (λK'=>K' t0 H) λt45 H=>zad t43 true H (λK'=>K' t6 H) λt46 H=>zad t43 true H (λK'=>zbI t45 t46 (K' · H)) λt47 H=>zad t43 true H (λK'=>zac .neq false t47 (.int .u8 10) (K' · H)) λt48 H=>zam t43 t48 (.bool false) λt49=>zag t49 (zac .add false t6 (.int .i64 1) λt51=>Kb10 (zlU t0 t5 t51) H) (ze5 t0 t5 t6 H K Kb5)
def ziz:List AV:=t0::ux 4 (t5::t6::t7::t8::ux 191 [])
def zNA:List Bool:=zdk 18
noncomputable def zNt:Code:=zar [1,0,1,1,1,1,0,0,1,0,0,0,0] zfQ
def zNq:AExit→List AV→zaa→Prop:=zas tP zdk [1,0,1,1,1,1,0,0,1,0,0,0] zfQ (zbL zlX Kb5 (zlR K))
def zsU:Prop:=ALoop tP zNt (zNq K Kb5) (ziz t0 t5 t6 t7 t8) H
def ziA:Prop:=zac .add false t6 t8 λt193=>ze5 t0 t5 t193 H K Kb5
def ze7:Prop:=ziA t0 t5 t6 t8 H K Kb5
def ze6:Prop:=zac .add false t6 t8 λt135=>zaN 0 0 t0 (some t6) (some t135) λt136=>zaq [(.int .i64 0),(.str []),(.int .i64 0)] [(0,1),(1,1),(2,1)] [(0,t9),(1,t136),(2,t6)] λt138=>zau 3 [(.int .i64 0),(.str []),(.int .i64 0)] 1 [(0,t138)] λt139=>zav zbx 3 32 t5 t139 H λt140 H=>ze7 t0 t140 t6 t8 H K Kb5
def zsR:Prop:=zac .add false t6 t8 λt79=>zah 0 t0 λt81=>zac .lss false t79 t81 λt82=>zad t82 true H (λK'=>K' t0 H) λt84 H=>zad t82 true H (λK'=>K' t6 H) λt85 H=>zad t82 true H (λK'=>K' t8 H) λt86 H=>zad t82 true H (λK'=>zac .add false t85 t86 (K' · H)) λt87 H=>zad t82 true H (λK'=>zbI t84 t87 (K' · H)) λt88 H=>zad t82 true H (λK'=>ACalls tP zjK [t88] H K') λt89 H=>zad t82 true H (λK'=>K' t89 H) λt90 H=>zad t90 false H (λK'=>K' t0 H) λt91 H=>zad t90 false H (λK'=>K' t6 H) λt92 H=>zad t90 false H (λK'=>K' t8 H) λt93 H=>zad t90 false H (λK'=>zac .add false t92 t93 (K' · H)) λt94 H=>zad t90 false H (λK'=>zbI t91 t94 (K' · H)) λt95 H=>zad t90 false H (λK'=>ACalls tP zgr [t95] H K') λt96 H=>zad t82 true H (λK'=>zam t90 (.bool true) t96 (K' · H)) λt97 H=>zad t82 true H (λK'=>K' t97 H) λt98 H=>zad t98 false H (λK'=>K' t0 H) λt99 H=>zad t98 false H (λK'=>K' t6 H) λt100 H=>zad t98 false H (λK'=>K' t8 H) λt101 H=>zad t98 false H (λK'=>zac .add false t100 t101 (K' · H)) λt102 H=>zad t98 false H (λK'=>zbI t99 t102 (K' · H)) λt103 H=>zad t98 false H (λK'=>ACalls tP zhP [t103] H K') λt104 H=>zad t82 true H (λK'=>zam t98 (.bool true) t104 (K' · H)) λt105 H=>zad t82 true H (λK'=>K' t105 H) λt106 H=>zad t106 false H (λK'=>K' t0 H) λt107 H=>zad t106 false H (λK'=>K' t6 H) λt108 H=>zad t106 false H (λK'=>K' t8 H) λt109 H=>zad t106 false H (λK'=>zac .add false t108 t109 (K' · H)) λt110 H=>zad t106 false H (λK'=>zbI t107 t110 (K' · H)) λt111 H=>zad t106 false H (λK'=>zac .eql false t111 (.int .u8 95) (K' · H)) λt112 H=>zad t82 true H (λK'=>zam t106 (.bool true) t112 (K' · H)) λt113 H=>zam t82 t113 (.bool false) λt114=>zag t114 (zac .add false t8 (.int .i64 1) λt116=>Kb18 (ziz t0 t5 t6 t7 t116) H) (zac .gtr false t8 (.int .i64 24) λt118=>zag t118 (zaF [.snil,t6,(.int .i64 9)] (K · H)) (ACalls tP zgr [t7] H λt121 H=>zag t121 (ze6 t0 t5 t6 t8 (.int .i64 2) H K Kb5) (zac .add false t6 t8 λt126=>zaN 0 0 t0 (some t6) (some t126) λt127=>ACalls tP zjL [t127] H λt128 H=>zag t128 (ze6 t0 t5 t6 t8 (.int .i64 4) H K Kb5) (ze6 t0 t5 t6 t8 (.int .i64 1) H K Kb5))))
def zlV:List AV:=t0::ux 4 (t5::t6::t7::t8::ux 191 [])
def zNB:List Bool:=zdk 29
noncomputable def zNu:Code:=zar [1,0,1,1,1,1,0,0,1,1,1,0,0,0,0] zfQ
def zNr:AExit→List AV→zaa→Prop:=zas tP zdk [1,0,1,1,1,1,0,0,1,1,1,0,0,0] zfQ (zbL zlX Kb5 (zlR K))
def zsV:Prop:=ALoop tP zNu (zNr K Kb5) (zlV t0 t5 t6 t7 t8) H
def zsS:Prop:=zac .add false t6 t8 λt146=>zah 0 t0 λt148=>zac .lss false t146 t148 λt149=>zad t149 true H (λK'=>K' t0 H) λt151 H=>zad t149 true H (λK'=>K' t6 H) λt152 H=>zad t149 true H (λK'=>K' t8 H) λt153 H=>zad t149 true H (λK'=>zac .add false t152 t153 (K' · H)) λt154 H=>zad t149 true H (λK'=>zbI t151 t154 (K' · H)) λt155 H=>zad t149 true H (λK'=>ACalls tP zhP [t155] H K') λt156 H=>zam t149 t156 (.bool false) λt157=>zag t157 (zac .add false t8 (.int .i64 1) λt159=>Kb29 (zlV t0 t5 t6 t7 t159) H) (zac .gtr false t8 (.int .i64 1) λt161=>zad t161 true H (λK'=>K' t7 H) λt163 H=>zad t161 true H (λK'=>zac .eql false t163 (.int .u8 48) (K' · H)) λt164 H=>zam t161 t164 (.bool false) λt165=>zag t165 (zaF [.snil,t6,(.int .i64 2)] (K · H)) (zac .add false t6 t8 λt172=>zaN 0 0 t0 (some t6) (some t172) λt173=>ACalls tP zgs [t173] H λt174 H=>zaC t174 0 λt175=>zaC t174 1 λt176=>aUn .not t176 λt178=>zag t178 (zaF [.snil,t6,(.int .i64 9)] (K · H)) (zac .add false t6 t8 λt185=>zaN 0 0 t0 (some t6) (some t185) λt186=>zaq [(.int .i64 0),(.str []),(.int .i64 0)] [(0,1),(1,1),(2,1)] [(0,(.int .i64 3)),(1,t186),(2,t6)] λt188=>zau 3 [(.int .i64 0),(.str []),(.int .i64 0)] 1 [(0,t188)] λt189=>zav zbx 3 32 t5 t189 H λt190 H=>ze7 t0 t190 t6 t8 H K Kb5)))
def zlS:Prop:=zah 0 t0 λt17=>zac .lss false t6 t17 λt18=>zag t18 (zbI t0 t6 λt21=>zac .eql false t21 (.int .u8 9) λt23=>zad t23 false H (λK'=>K' t21 H) λt25 H=>zad t23 false H (λK'=>zac .eql false t25 (.int .u8 10) (K' · H)) λt26 H=>zam t23 (.bool true) t26 λt27=>zad t27 false H (λK'=>K' t21 H) λt29 H=>zad t27 false H (λK'=>zac .eql false t29 (.int .u8 13) (K' · H)) λt30 H=>zam t27 (.bool true) t30 λt31=>zad t31 false H (λK'=>K' t21 H) λt33 H=>zad t31 false H (λK'=>zac .eql false t33 (.int .u8 32) (K' · H)) λt34 H=>zam t31 (.bool true) t34 λt35=>zag t35 (zac .add false t6 (.int .i64 1) λt37=>ze5 t0 t5 t37 H K Kb5) (zac .eql false t21 (.int .u8 35) λt39=>zag t39 (zBw t0 t5 t6 H K Kb5) (ACalls tP zjK [t21] H λt72 H=>zad t72 false H (λK'=>K' t21 H) λt74 H=>zad t72 false H (λK'=>ACalls tP zgr [t74] H K') λt75 H=>zam t72 (.bool true) t75 λt76=>zag t76 (zsU t0 t5 t6 t21 (.int .i64 1) H K Kb5) (ACalls tP zhP [t21] H λt143 H=>zag t143 (zsV t0 t5 t6 t21 (.int .i64 1) H K Kb5) (zaN 0 0 t0 (some t6) none λt54=>ACalls tP zqA [t54] H λt55 H=>zac .eql false t55 (.int .i64 0) λt57=>zag t57 (zaF [.snil,t6,(.int .i64 2)] (K · H)) (zac .add false t6 t55 λt64=>zaN 0 0 t0 (some t6) (some t64) λt65=>zaq [(.int .i64 0),(.str []),(.int .i64 0)] [(0,1),(1,1),(2,1)] [(0,(.int .i64 5)),(1,t65),(2,t6)] λt67=>zau 3 [(.int .i64 0),(.str []),(.int .i64 0)] 1 [(0,t67)] λt68=>zav zbx 3 32 t5 t68 H λt69 H=>ze7 t0 t69 t6 t55 H K Kb5)))))) (zah 0 t0 λt196=>zaq [(.int .i64 0),(.str []),(.int .i64 0)] [(0,1),(1,1),(2,1)] [(0,(.int .i64 6)),(1,(.str [])),(2,t196)] λt197=>zau 3 [(.int .i64 0),(.str []),(.int .i64 0)] 1 [(0,t197)] λt198=>zav zbx 3 32 t5 t198 H λt199 H=>zaF [t199,(.int .i64 0),(.int .i64 0)] (K · H))
def zsP:Prop:=zah 0 t0 λt13=>zac .gtr false t13 (.int .i64 16384) λt14=>zag t14 (zaF [.snil,(.int .i64 0),(.int .i64 9)] (K · H)) (zlW t0 .snil (.int .i64 0) H K)
def zSD (_:Nat):List Bool:=[]
noncomputable def zSE:Code:=Tryz.f245.body.getD .skip
def zDk:Prop:=zac .eql false t0 (.int .u8 9) λt4=>zad t4 false H (λK'=>K' t0 H) λt6 H=>zad t4 false H (λK'=>zac .eql false t6 (.int .u8 10) (K' · H)) λt7 H=>zam t4 (.bool true) t7 λt8=>zad t8 false H (λK'=>K' t0 H) λt10 H=>zad t8 false H (λK'=>zac .eql false t10 (.int .u8 13) (K' · H)) λt11 H=>zam t8 (.bool true) t11 λt12=>zad t12 false H (λK'=>K' t0 H) λt14 H=>zad t12 false H (λK'=>zac .eql false t14 (.int .u8 32) (K' · H)) λt15 H=>zam t12 (.bool true) t15 λt16=>K t16 H
variable {t0 t5 t6 t7 t8 t9} {H} {K} {Kb5 Kb9 Kb10 Kb18 Kb29}
theorem zSj (Inv:Nat→AV→zaa→Prop) (n:Nat) (h0:HSc H→Inv n t6 H)
  (ac:Rd1 (λt6=>znb t0 t5 t6) (λt6=>λH Kb9=>zug t0 t5 t6 H K Kb5 Kb9) H Inv):zDe t0 t5 t6 H K Kb5:=
 lp1 (M:=zfX) zSk t6 (by kernel_rfl) Inv n h0 ac
theorem zSi (Inv:Nat→AV→AV→zaa→Prop) (n:Nat) (h0:HSc H→Inv n t5 t6 H)
  (ac:Rd2 (λt5=>λt6=>zgZ t0 t5 t6) (λt5=>λt6=>λH Kb5=>zuf t0 t5 t6 H K Kb5) H Inv):znd t0 t5 t6 H K:=
 lp2 (M:=zfX) zDf t5 t6 (by kernel_rfl) Inv n h0 ac
theorem zSl (h:HSc H→zue t0 H K):ACalls tP zqG [t0] H K:=
 acb zfX Tryz.func227 zuh (by kernel_rfl) (by kernel_rfl) h
theorem zNv (Inv:Nat→AV→zaa→Prop) (n:Nat) (h0:HSc H→Inv n t6 H)
  (ac:Rd1 (λt6=>zlU t0 t5 t6) (λt6=>λH Kb10=>zsQ t0 t5 t6 H K Kb5 Kb10) H Inv):zBw t0 t5 t6 H K Kb5:=
 lp1 (M:=zdk) zNz t6 (by kernel_rfl) Inv n h0 ac
theorem zNw (Inv:Nat→AV→zaa→Prop) (n:Nat) (h0:HSc H→Inv n t8 H)
  (ac:Rd1 (λt8=>ziz t0 t5 t6 t7 t8) (λt8=>λH Kb18=>zsR t0 t5 t6 t7 t8 H K Kb5 Kb18) H Inv):zsU t0 t5 t6 t7 t8 H K Kb5:=
 lp1 (M:=zdk) zNA t8 (by kernel_rfl) Inv n h0 ac
theorem zNx (Inv:Nat→AV→zaa→Prop) (n:Nat) (h0:HSc H→Inv n t8 H)
  (ac:Rd1 (λt8=>zlV t0 t5 t6 t7 t8) (λt8=>λH Kb29=>zsS t0 t5 t6 t7 t8 H K Kb5 Kb29) H Inv):zsV t0 t5 t6 t7 t8 H K Kb5:=
 lp1 (M:=zdk) zNB t8 (by kernel_rfl) Inv n h0 ac
theorem zNy (Inv:Nat→AV→AV→zaa→Prop) (n:Nat) (h0:HSc H→Inv n t5 t6 H)
  (ac:Rd2 (λt5=>λt6=>zfR t0 t5 t6) (λt5=>λt6=>λH Kb5=>zlS t0 t5 t6 H K Kb5) H Inv):zlW t0 t5 t6 H K:=
 lp2 (M:=zdk) zlX t5 t6 (by kernel_rfl) Inv n h0 ac
theorem zNC (h:HSc H→zsP t0 H K):ACalls tP zqn [t0] H K:=
 acb zdk Tryz.func145 zsT (by kernel_rfl) (by kernel_rfl) h
theorem zSF (h:HSc H→zDk t0 H K):ACalls tP zqJ [t0] H K:=
 acb zSD Tryz.func245 zSE (by kernel_rfl) (by kernel_rfl) h
end
section
variable (t0 t1 t3 t4 t5 t6 t7:AV) (H:zaa) (K:Kt) (Kb2 Kb3 Kb5:Lt)
def zSG (_:Nat):List Bool:=[]
noncomputable def zSH:Code:=Tryz.f246.body.getD .skip
def zDl:Prop:=zae true 3 t6 H λt74=>zao 3 t4 t74 H λH=>zae true 3 t4 H λr0=>zaF [r0,(.int .i64 0)] (K · H)
def zg2:Prop:=zDl t4 t6 H K
def zg1:Prop:=zg2 t4 t6 H K
def zum:Prop:=zay [(.int .i64 0),(.str []),(.int .i64 0)] H λt4 H=>zaq [(.int .i64 0),(.str []),(.int .i64 0)] [(0,1),(1,1),(2,1)] [(2,t1)] λt9=>zay [(.int .i64 0),(.str []),(.int .i64 0)] H λt6 H=>zao 3 t6 t9 H λH=>zbI t0 t1 λt12=>ACalls tP zjX [t12] H λt25 H=>zad t25 false H (λK'=>K' t12 H) λt27 H=>zad t25 false H (λK'=>ACalls tP zhT [t27] H K') λt28 H=>zam t25 (.bool true) t28 λt29=>zag t29 (zaN 0 0 t0 (some t1) none λt32=>ACalls tP zjY [t32,(.fn zhU [])] H λt33 H=>zaf 1 t6 λt34=>zao 1 t34 t33 H λH=>zaf 1 t6 λt37=>zae false 1 t37 H λt38=>zah 0 t38 λt39=>zac .gtr false t39 (.int .i64 24) λt40=>zag t40 (zaq [(.int .i64 0),(.str []),(.int .i64 0)] [(0,1),(1,1),(2,1)] [] λt41=>zao 3 t4 t41 H λH=>zae true 3 t4 H λr0=>zaF [r0,(.int .i64 9)] (K · H)) (ACalls tP zhT [t12] H λt44 H=>zag t44 (zaf 0 t6 λt45=>zao 1 t45 (.int .i64 2) H λH=>zg1 t4 t6 H K) (zaf 1 t6 λt47=>zae false 1 t47 H λt48=>ACalls tP zqL [t48] H λt49 H=>zag t49 (zaf 0 t6 λt50=>zao 1 t50 (.int .i64 4) H λH=>zg1 t4 t6 H K) (zaf 0 t6 λt35=>zao 1 t35 (.int .i64 1) H λH=>zg1 t4 t6 H K)))) (ACalls tP zfA [t12] H λt53 H=>zag t53 (zaf 0 t6 λt54=>zao 1 t54 (.int .i64 3) H λH=>zaN 0 0 t0 (some t1) none λt57=>ACalls tP zjY [t57,(.fn zfA [])] H λt58 H=>zaf 1 t6 λt59=>zao 1 t59 t58 H λH=>zac .eql false t12 (.int .u8 48) λt61=>zad t61 true H (λK'=>zaf 1 t6 (K' · H)) λt63 H=>zad t61 true H (λK'=>zae false 1 t63 H (K' · H)) λt64 H=>zad t61 true H (λK'=>zah 0 t64 (K' · H)) λt65 H=>zad t61 true H (λK'=>zac .gtr false t65 (.int .i64 1) (K' · H)) λt66 H=>zam t61 t66 (.bool false) λt67=>zag t67 (zaq [(.int .i64 0),(.str []),(.int .i64 0)] [(0,1),(1,1),(2,1)] [] λt68=>zao 3 t4 t68 H λH=>zae true 3 t4 H λr0=>zaF [r0,(.int .i64 2)] (K · H)) (zaf 1 t6 λt69=>zae false 1 t69 H λt70=>ACalls tP zhV [t70] H λt71 H=>aUn .not t71 λt72=>zag t72 (zaq [(.int .i64 0),(.str []),(.int .i64 0)] [(0,1),(1,1),(2,1)] [] λt73=>zao 3 t4 t73 H λH=>zae true 3 t4 H λr0=>zaF [r0,(.int .i64 9)] (K · H)) (zg2 t4 t6 H K))) (zaf 0 t6 λt13=>zao 1 t13 (.int .i64 5) H λH=>zaN 0 0 t0 (some t1) none λt16=>ACalls tP zqM [t16] H λt17 H=>zaf 1 t6 λt18=>zao 1 t18 t17 H λH=>zaf 1 t6 λt19=>zae false 1 t19 H λt20=>zac .eql false t20 (.str []) λt21=>zag t21 (zaq [(.int .i64 0),(.str []),(.int .i64 0)] [(0,1),(1,1),(2,1)] [] λt22=>zao 3 t4 t22 H λH=>zae true 3 t4 H λr0=>zaF [r0,(.int .i64 2)] (K · H)) (zg2 t4 t6 H K)))
def zQk (_:Nat):List Bool:=[]
noncomputable def zQl:Code:=Tryz.f188.body.getD .skip
def zCC:Prop:=zac .geq false t0 (.int .u8 97) λt4=>zad t4 true H (λK'=>K' t0 H) λt6 H=>zad t4 true H (λK'=>zac .leq false t6 (.int .u8 122) (K' · H)) λt7 H=>zam t4 t7 (.bool false) λt8=>K t8 H
def zQn (_:Nat):List Bool:=[]
noncomputable def zQo:Code:=Tryz.f189.body.getD .skip
def zCD:Prop:=zac .geq false t0 (.int .u8 65) λt4=>zad t4 true H (λK'=>K' t0 H) λt6 H=>zad t4 true H (λK'=>zac .leq false t6 (.int .u8 90) (K' · H)) λt7 H=>zam t4 t7 (.bool false) λt8=>K t8 H
def zQq (_:Nat):List Bool:=[]
noncomputable def zQr:Code:=Tryz.f190.body.getD .skip
def zCE:Prop:=zac .geq false t0 (.int .u8 48) λt4=>zad t4 true H (λK'=>K' t0 H) λt6 H=>zad t4 true H (λK'=>zac .leq false t6 (.int .u8 57) (K' · H)) λt7 H=>zam t4 t7 (.bool false) λt8=>K t8 H
def zmK:Nat→List Bool | 3=>rl false [0,1,2,2,13] | _=>[]
noncomputable def ztI:Code:=Tryz.f191.body.getD .skip
noncomputable def zQy:List ResultVar:=Tryz.f191.results.toList
def zmM:List AV:=t0::ux 2 (t3::t4::ux 13 [])
def zQw:List Bool:=zmK 3
noncomputable def zQu:Code:=zar [1,1,0,1,0,0] ztI
def zQt:AExit→List AV→zaa→Prop:=zas tP zmK [1,1,0,1,0] ztI (zaz tP zQy K)
def ztJ:Prop:=ALoop tP zQu (zQt K) (zmM t0 t3 t4) H
def zmL:Prop:=zah 1 t3 λt8=>zac .lss false t4 t8 λt9=>zag t9 (zak 1 t3 t4 λt14=>zae false 1 t14 H λt15=>zac .eql false t15 t0 λt17=>zag t17 (K (.bool true) H) (zac .add false t4 (.int .i64 1) λt11=>Kb3 (zmM t0 t3 t11) H)) (K (.bool false) H)
def zCF:Prop:=zau 1 [(.str [])] 28 [(0,(.str [97,114,114,97,121])),(1,(.str [98,111,111,108])),(2,(.str [99,97,116,99,104])),(3,(.str [100,97,116,97])),(4,(.str [101,108,115,101])),(5,(.str [101,110,100])),(6,(.str [102,97,108,115,101])),(7,(.str [102,110])),(8,(.str [102,117,110])),(9,(.str [103,101,116])),(10,(.str [105,102])),(11,(.str [105,110])),(12,(.str [105,110,116])),(13,(.str [108,101,110])),(14,(.str [108,101,116])),(15,(.str [109,97,116,99,104])),(16,(.str [110,101,119])),(17,(.str [114,97,105,115,101])),(18,(.str [114,101,97,100])),(19,(.str [114,101,102])),(20,(.str [115,101,116])),(21,(.str [116,104,101,110])),(22,(.str [116,105,99,107])),(23,(.str [116,114,117,101])),(24,(.str [116,114,121])),(25,(.str [117,110,105,116])),(26,(.str [119,105,116,104])),(27,(.str [119,114,105,116,101]))] λt5=>ztJ t0 t5 (.int .i64 0) H K
def zmN:Nat→List Bool | 3=>rl false [0,1,3,2,17] | _=>[]
noncomputable def ztL:Code:=Tryz.f192.body.getD .skip
noncomputable def zQE:List ResultVar:=Tryz.f192.results.toList
def zmO:List AV:=t0::ux 3 (t4::t5::ux 17 [])
def zQC:List Bool:=zmN 3
noncomputable def zQA:Code:=zar [1,1,0,1,0,0] ztL
def zQz:AExit→List AV→zaa→Prop:=zas tP zmN [1,1,0,1,0] ztL (zaz tP zQE K)
def zCI:Prop:=ALoop tP zQA (zQz K) (zmO t0 t4 t5) H
def ztK:Prop:=zah 0 t0 λt8=>zac .lss false t5 t8 λt9=>zag t9 (zac .mul false t4 (.int .i64 10) λt13=>zbI t0 t5 λt16=>zac .sub false t16 (.int .u8 48) λt17=>za0 .i64 t17 λt18=>zac .add false t13 t18 λt19=>zac .gtr false t19 (.int .i64 1000000) λt21=>zag t21 (zaF [(.int .i64 0),(.bool false)] (K · H)) (zac .add false t5 (.int .i64 1) λt11=>Kb3 (zmO t0 t19 t11) H)) (zaF [t4,(.bool true)] (K · H))
def zCH:Prop:=zCI t0 (.int .i64 0) (.int .i64 0) H K
def zmP:Nat→List Bool | 5=>rl false [0,1,2,2,30] | _=>[]
noncomputable def ztM:Code:=Tryz.f193.body.getD .skip
noncomputable def zQK:List ResultVar:=Tryz.f193.results.toList
def zmR:List AV:=t0::ux 2 (t3::t4::ux 30 [])
def zQI:List Bool:=zmP 5
noncomputable def zQG:Code:=zar [1,1,1,0,1,0,0] ztM
def zQF:AExit→List AV→zaa→Prop:=zas tP zmP [1,1,1,0,1,0] ztM (zaz tP zQK K)
def ztN:Prop:=ALoop tP zQG (zQF K) (zmR t0 t3 t4) H
def zmQ:Prop:=zah 0 t3 λt25=>zac .lss false t4 t25 λt26=>zag t26 (zab H (λK'=>K' t0 H) λt29=>zab H (λK'=>zbI t29 (.int .i64 0) (K' · H)) λt30=>zab H (λK'=>K' t3 H) λt31=>zab H (λK'=>K' t4 H) λt32=>zab H (λK'=>zbI t31 t32 (K' · H)) λt33=>zab H (λK'=>zac .eql false t30 t33 (K' · H)) λt34=>zag t34 (K (.int .i64 1) H) (zac .add false t4 (.int .i64 1) λt28=>Kb5 (zmR t0 t3 t28) H)) (K (.int .i64 0) H)
def zgY:Prop:=zah 0 t0 λt6=>zac .geq false t6 (.int .i64 2) λt7=>zad t7 true H (λK'=>K' t0 H) λt9 H=>zad t7 true H (λK'=>zaN 0 0 t9 none (some (.int .i64 2)) (K' · H)) λt10 H=>zad t7 true H (λK'=>zac .eql false t10 (.str [45,62]) (K' · H)) λt11 H=>zad t7 true H (λK'=>K' t11 H) λt12 H=>zad t12 false H (λK'=>K' t0 H) λt13 H=>zad t12 false H (λK'=>zaN 0 0 t13 none (some (.int .i64 2)) (K' · H)) λt14 H=>zad t12 false H (λK'=>zac .eql false t14 (.str [60,61]) (K' · H)) λt15 H=>zad t7 true H (λK'=>zam t12 (.bool true) t15 (K' · H)) λt16 H=>zad t7 true H (λK'=>K' t16 H) λt17 H=>zad t17 false H (λK'=>K' t0 H) λt18 H=>zad t17 false H (λK'=>zaN 0 0 t18 none (some (.int .i64 2)) (K' · H)) λt19 H=>zad t17 false H (λK'=>zac .eql false t19 (.str [61,61]) (K' · H)) λt20 H=>zad t7 true H (λK'=>zam t17 (.bool true) t20 (K' · H)) λt21 H=>zam t7 t21 (.bool false) λt22=>zag t22 (K (.int .i64 2) H) (ztN t0 (.str [40,41,44,61,124,43,45,42,47,37,60,59,95]) (.int .i64 0) H K)
def zSM (_:Nat):List Bool:=[]
noncomputable def zSN:Code:=Tryz.f255.body.getD .skip
def zDn:Prop:=zac .geq false t0 (.int .u8 97) λt4=>zad t4 true H (λK'=>K' t0 H) λt6 H=>zad t4 true H (λK'=>zac .leq false t6 (.int .u8 122) (K' · H)) λt7 H=>zam t4 t7 (.bool false) λt8=>K t8 H
def zSP (_:Nat):List Bool:=[]
noncomputable def zSQ:Code:=Tryz.f256.body.getD .skip
def zDo:Prop:=zac .geq false t0 (.int .u8 65) λt4=>zad t4 true H (λK'=>K' t0 H) λt6 H=>zad t4 true H (λK'=>zac .leq false t6 (.int .u8 90) (K' · H)) λt7 H=>zam t4 t7 (.bool false) λt8=>K t8 H
def znh:Nat→List Bool | 2=>rl false [0,2,3,1,16] | _=>[]
noncomputable def zuo:Code:=Tryz.f257.body.getD .skip
noncomputable def zSX:List ResultVar:=Tryz.f257.results.toList
def zni:List AV:=t0::t1::ux 3 (t5::ux 16 [])
def zSV:List Bool:=znh 2
noncomputable def zST:Code:=zar [1,1,0,0,0] zuo
def zSS:AExit→List AV→zaa→Prop:=zas tP znh [1,1,0,0] zuo (zaz tP zSX K)
def zDq:Prop:=ALoop tP zST (zSS K) (zni t0 t1 t5) H
def zun:Prop:=zah 0 t0 λt8=>zac .lss false t5 t8 λt9=>zad t9 true H (λK'=>K' t1 H) λt11 H=>zad t9 true H (λK'=>K' t0 H) λt12 H=>zad t9 true H (λK'=>K' t5 H) λt13 H=>zad t9 true H (λK'=>zbI t12 t13 (K' · H)) λt14 H=>zad t9 true H (λK'=>aCallV tP t11 [t14] H K') λt15 H=>zam t9 t15 (.bool false) λt16=>zag t16 (zac .add false t5 (.int .i64 1) λt18=>Kb2 (zni t0 t1 t18) H) (zaN 0 0 t0 none (some t5) λt21=>K t21 H)
def zDp:Prop:=zDq t0 t1 (.int .i64 0) H K
def zSY (_:Nat):List Bool:=[]
noncomputable def zSZ:Code:=Tryz.f258.body.getD .skip
def zDr:Prop:=ACalls tP zjX [t0] H λt4 H=>zad t4 false H (λK'=>K' t0 H) λt6 H=>zad t4 false H (λK'=>ACalls tP zhT [t6] H K') λt7 H=>zam t4 (.bool true) t7 λt8=>zad t8 false H (λK'=>K' t0 H) λt10 H=>zad t8 false H (λK'=>ACalls tP zfA [t10] H K') λt11 H=>zam t8 (.bool true) t11 λt12=>zad t12 false H (λK'=>K' t0 H) λt14 H=>zad t12 false H (λK'=>zac .eql false t14 (.int .u8 95) (K' · H)) λt15 H=>zam t12 (.bool true) t15 λt16=>K t16 H
def zS1 (_:Nat):List Bool:=[]
noncomputable def zS2:Code:=Tryz.f259.body.getD .skip
def zbt:Prop:=zag t4 (K (.bool true) H) (K (.bool false) H)
def zDs:Prop:=zac .eql false t0 (.str [97,114,114,97,121]) λt5=>zag t5 (zbt t5 H K) (zac .eql false t0 (.str [98,111,111,108]) λt6=>zag t6 (zbt t6 H K) (zac .eql false t0 (.str [99,97,116,99,104]) λt7=>zag t7 (zbt t7 H K) (zac .eql false t0 (.str [100,97,116,97]) λt8=>zag t8 (zbt t8 H K) (zac .eql false t0 (.str [101,108,115,101]) λt9=>zag t9 (zbt t9 H K) (zac .eql false t0 (.str [101,110,100]) λt10=>zag t10 (zbt t10 H K) (zac .eql false t0 (.str [102,97,108,115,101]) λt11=>zag t11 (zbt t11 H K) (zac .eql false t0 (.str [102,110]) λt12=>zag t12 (zbt t12 H K) (zac .eql false t0 (.str [102,117,110]) λt13=>zag t13 (zbt t13 H K) (zac .eql false t0 (.str [103,101,116]) λt14=>zag t14 (zbt t14 H K) (zac .eql false t0 (.str [105,102]) λt15=>zag t15 (zbt t15 H K) (zac .eql false t0 (.str [105,110]) λt16=>zag t16 (zbt t16 H K) (zac .eql false t0 (.str [105,110,116]) λt17=>zag t17 (zbt t17 H K) (zac .eql false t0 (.str [108,101,110]) λt18=>zag t18 (zbt t18 H K) (zac .eql false t0 (.str [108,101,116]) λt19=>zag t19 (zbt t19 H K) (zac .eql false t0 (.str [109,97,116,99,104]) λt20=>zag t20 (zbt t20 H K) (zac .eql false t0 (.str [110,101,119]) λt21=>zag t21 (zbt t21 H K) (zac .eql false t0 (.str [114,97,105,115,101]) λt22=>zag t22 (zbt t22 H K) (zac .eql false t0 (.str [114,101,97,100]) λt23=>zag t23 (zbt t23 H K) (zac .eql false t0 (.str [114,101,102]) λt24=>zag t24 (zbt t24 H K) (zac .eql false t0 (.str [115,101,116]) λt25=>zag t25 (zbt t25 H K) (zac .eql false t0 (.str [116,104,101,110]) λt26=>zag t26 (zbt t26 H K) (zac .eql false t0 (.str [116,105,99,107]) λt27=>zag t27 (zbt t27 H K) (zac .eql false t0 (.str [116,114,117,101]) λt28=>zag t28 (zbt t28 H K) (zac .eql false t0 (.str [116,114,121]) λt29=>zag t29 (zbt t29 H K) (zac .eql false t0 (.str [117,110,105,116]) λt30=>zag t30 (zbt t30 H K) (zac .eql false t0 (.str [119,105,116,104]) λt31=>zag t31 (zbt t31 H K) (zac .eql false t0 (.str [119,114,105,116,101]) λt32=>zbt t32 H K)))))))))))))))))))))))))))
def zS4 (_:Nat):List Bool:=[]
noncomputable def zS5:Code:=Tryz.f260.body.getD .skip
def zDt:Prop:=zac .geq false t0 (.int .u8 48) λt4=>zad t4 true H (λK'=>K' t0 H) λt6 H=>zad t4 true H (λK'=>zac .leq false t6 (.int .u8 57) (K' · H)) λt7 H=>zam t4 t7 (.bool false) λt8=>K t8 H
def znj:Nat→List Bool | 3=>rl false [0,1,2,1,2,2,13] | _=>[]
noncomputable def zuq:Code:=Tryz.f261.body.getD .skip
noncomputable def zTc:List ResultVar:=Tryz.f261.results.toList
def znk:List AV:=t0::ux 2 (t3::ux 2 (t6::t7::ux 13 []))
def zTa:List Bool:=znj 3
noncomputable def zS8:Code:=zar [1,1,0,1,0,0] zuq
def zS7:AExit→List AV→zaa→Prop:=zas tP znj [1,1,0,1,0] zuq (zaz tP zTc K)
def zDv:Prop:=ALoop tP zS8 (zS7 K) (znk t0 t3 t6 t7) H
def zup:Prop:=zac .lss false t7 t6 λt8=>zag t8 (zac .mul false t3 (.int .i64 10) λt11=>zbI t0 t7 λt14=>zac .sub false t14 (.int .u8 48) λt15=>za0 .i64 t15 λt16=>zac .add false t11 t16 λt17=>zac .gtr false t17 (.int .i64 1000000) λt19=>zag t19 (K (.bool false) H) (zac .add false t7 (.int .i64 1) λt20=>Kb3 (znk t0 t17 t6 t20) H)) (K (.bool true) H)
def zDu:Prop:=zah 0 t0 λt6=>zDv t0 (.int .i64 0) t6 (.int .i64 0) H K
variable {t0 t1 t3 t4 t5 t6 t7} {H} {K} {Kb2 Kb3 Kb5}
theorem zSI (h:HSc H→zum t0 t1 H K):ACalls tP zqK [t0,t1] H K:=
 acb zSG Tryz.func246 zSH (by kernel_rfl) (by kernel_rfl) h
theorem zQm (h:HSc H→zCC t0 H K):ACalls tP zjK [t0] H K:=
 acb zQk Tryz.func188 zQl (by kernel_rfl) (by kernel_rfl) h
theorem zQp (h:HSc H→zCD t0 H K):ACalls tP zgr [t0] H K:=
 acb zQn Tryz.func189 zQo (by kernel_rfl) (by kernel_rfl) h
theorem zQs (h:HSc H→zCE t0 H K):ACalls tP zhP [t0] H K:=
 acb zQq Tryz.func190 zQr (by kernel_rfl) (by kernel_rfl) h
theorem zQv (Inv:Nat→AV→zaa→Prop) (n:Nat) (h0:HSc H→Inv n t4 H)
  (ac:Rd1 (λt4=>zmM t0 t3 t4) (λt4=>λH Kb3=>zmL t0 t3 t4 H K Kb3) H Inv):ztJ t0 t3 t4 H K:=
 lp1 (M:=zmK) zQw t4 (by kernel_rfl) Inv n h0 ac
theorem zQx (h:HSc H→zCF t0 H K):ACalls tP zjL [t0] H K:=
 acb zmK Tryz.func191 ztI (by kernel_rfl) (by kernel_rfl) h
theorem zQB (Inv:Nat→AV→AV→zaa→Prop) (n:Nat) (h0:HSc H→Inv n t4 t5 H)
  (ac:Rd2 (λt4=>λt5=>zmO t0 t4 t5) (λt4=>λt5=>λH Kb3=>ztK t0 t4 t5 H K Kb3) H Inv):zCI t0 t4 t5 H K:=
 lp2 (M:=zmN) zQC t4 t5 (by kernel_rfl) Inv n h0 ac
theorem zQD (h:HSc H→zCH t0 H K):ACalls tP zgs [t0] H K:=
 acb zmN Tryz.func192 ztL (by kernel_rfl) (by kernel_rfl) h
theorem zQH (Inv:Nat→AV→zaa→Prop) (n:Nat) (h0:HSc H→Inv n t4 H)
  (ac:Rd1 (λt4=>zmR t0 t3 t4) (λt4=>λH Kb5=>zmQ t0 t3 t4 H K Kb5) H Inv):ztN t0 t3 t4 H K:=
 lp1 (M:=zmP) zQI t4 (by kernel_rfl) Inv n h0 ac
theorem zQJ (h:HSc H→zgY t0 H K):ACalls tP zqA [t0] H K:=
 acb zmP Tryz.func193 ztM (by kernel_rfl) (by kernel_rfl) h
theorem zSO (h:HSc H→zDn t0 H K):ACalls tP zjX [t0] H K:=
 acb zSM Tryz.func255 zSN (by kernel_rfl) (by kernel_rfl) h
theorem zSR (h:HSc H→zDo t0 H K):ACalls tP zhT [t0] H K:=
 acb zSP Tryz.func256 zSQ (by kernel_rfl) (by kernel_rfl) h
theorem zSU (Inv:Nat→AV→zaa→Prop) (n:Nat) (h0:HSc H→Inv n t5 H)
  (ac:Rd1 (λt5=>zni t0 t1 t5) (λt5=>λH Kb2=>zun t0 t1 t5 H K Kb2) H Inv):zDq t0 t1 t5 H K:=
 lp1 (M:=znh) zSV t5 (by kernel_rfl) Inv n h0 ac
theorem zSW (h:HSc H→zDp t0 t1 H K):ACalls tP zjY [t0,t1] H K:=
 acb znh Tryz.func257 zuo (by kernel_rfl) (by kernel_rfl) h
theorem zS0 (h:HSc H→zDr t0 H K):ACalls tP zhU [t0] H K:=
 acb zSY Tryz.func258 zSZ (by kernel_rfl) (by kernel_rfl) h
theorem zS3 (h:HSc H→zDs t0 H K):ACalls tP zqL [t0] H K:=
 acb zS1 Tryz.func259 zS2 (by kernel_rfl) (by kernel_rfl) h
theorem zS6 (h:HSc H→zDt t0 H K):ACalls tP zfA [t0] H K:=
 acb zS4 Tryz.func260 zS5 (by kernel_rfl) (by kernel_rfl) h
theorem zS9 (Inv:Nat→AV→AV→zaa→Prop) (n:Nat) (h0:HSc H→Inv n t3 t7 H)
  (ac:Rd2 (λt3=>λt7=>znk t0 t3 t6 t7) (λt3=>λt7=>λH Kb3=>zup t0 t3 t6 t7 H K Kb3) H Inv):zDv t0 t3 t6 t7 H K:=
 lp2 (M:=znj) zTa t3 t7 (by kernel_rfl) Inv n h0 ac
theorem zTb (h:HSc H→zDu t0 H K):ACalls tP zhV [t0] H K:=
 acb znj Tryz.func261 zuq (by kernel_rfl) (by kernel_rfl) h
end
section
variable (t0 t8 t16:AV) (H:zaa) (K:Kt)
def zTd (_:Nat):List Bool:=[]
noncomputable def zTe:Code:=Tryz.f262.body.getD .skip
def zcD:Prop:=zag t16 (zaN 0 0 t0 none (some (.int .i64 1)) λt31=>K t31 H) (K (.str []) H)
def znl:Prop:=zaN 0 0 t0 none (some (.int .i64 1)) λt15=>zac .eql false t15 (.str [40]) λt17=>zag t17 (zcD t0 t17 H K) (zac .eql false t15 (.str [41]) λt18=>zag t18 (zcD t0 t18 H K) (zac .eql false t15 (.str [44]) λt19=>zag t19 (zcD t0 t19 H K) (zac .eql false t15 (.str [61]) λt20=>zag t20 (zcD t0 t20 H K) (zac .eql false t15 (.str [124]) λt21=>zag t21 (zcD t0 t21 H K) (zac .eql false t15 (.str [43]) λt22=>zag t22 (zcD t0 t22 H K) (zac .eql false t15 (.str [45]) λt23=>zag t23 (zcD t0 t23 H K) (zac .eql false t15 (.str [42]) λt24=>zag t24 (zcD t0 t24 H K) (zac .eql false t15 (.str [47]) λt25=>zag t25 (zcD t0 t25 H K) (zac .eql false t15 (.str [37]) λt26=>zag t26 (zcD t0 t26 H K) (zac .eql false t15 (.str [60]) λt27=>zag t27 (zcD t0 t27 H K) (zac .eql false t15 (.str [59]) λt28=>zag t28 (zcD t0 t28 H K) (zac .eql false t15 (.str [95]) λt29=>zcD t0 t29 H K))))))))))))
def zfY:Prop:=zag t8 (zaN 0 0 t0 none (some (.int .i64 2)) λt13=>K t13 H) (znl t0 H K)
def zg3:Prop:=zah 0 t0 λt4=>zac .geq false t4 (.int .i64 2) λt5=>zag t5 (zaN 0 0 t0 none (some (.int .i64 2)) λt7=>zac .eql false t7 (.str [45,62]) λt9=>zag t9 (zfY t0 t9 H K) (zac .eql false t7 (.str [60,61]) λt10=>zag t10 (zfY t0 t10 H K) (zac .eql false t7 (.str [61,61]) λt11=>zfY t0 t11 H K))) (znl t0 H K)
def zRd (_:Nat):List Bool:=[]
noncomputable def zRe:Code:=Tryz.f200.body.getD .skip
def zCU:Prop:=ACalls tP zqG [t0] H λt8 H=>zaC t8 0 λt9=>zaC t8 1 λt10=>zaC t8 2 λt11=>zac .eql false t11 (.int .i64 0) λt13=>zad t13 true H (λK'=>K' t9 H) λt15 H=>zad t13 true H (λK'=>zah 1 t15 (K' · H)) λt16 H=>zad t13 true H (λK'=>zac .eql false t16 (.int .i64 2) (K' · H)) λt17 H=>zam t13 t17 (.bool false) λt18=>zad t18 true H (λK'=>K' t9 H) λt20 H=>zad t18 true H (λK'=>zak 3 t20 (.int .i64 0) (K' · H)) λt21 H=>zad t18 true H (λK'=>zaf 0 t21 (K' · H)) λt22 H=>zad t18 true H (λK'=>zae false 1 t22 H (K' · H)) λt23 H=>zad t18 true H (λK'=>zac .eql false t23 (.int .i64 2) (K' · H)) λt24 H=>zam t18 t24 (.bool false) λt25=>zad t25 true H (λK'=>K' t9 H) λt27 H=>zad t25 true H (λK'=>zak 3 t27 (.int .i64 0) (K' · H)) λt28 H=>zad t25 true H (λK'=>zaf 1 t28 (K' · H)) λt29 H=>zad t25 true H (λK'=>zae false 1 t29 H (K' · H)) λt30 H=>zad t25 true H (λK'=>K' t0 H) λt31 H=>zad t25 true H (λK'=>zac .eql false t30 t31 (K' · H)) λt32 H=>zam t25 t32 (.bool false) λt33=>K t33 H
def zXG (_:Nat):List Bool:=[]
noncomputable def zXH:Code:=Tryz.f92.body.getD .skip
def zE4:Prop:=ACalls tP zqn [t0] H λt8 H=>zaC t8 0 λt9=>zaC t8 1 λt10=>zaC t8 2 λt11=>zac .eql false t11 (.int .i64 0) λt13=>zad t13 true H (λK'=>K' t9 H) λt15 H=>zad t13 true H (λK'=>zah 1 t15 (K' · H)) λt16 H=>zad t13 true H (λK'=>zac .eql false t16 (.int .i64 2) (K' · H)) λt17 H=>zam t13 t17 (.bool false) λt18=>zad t18 true H (λK'=>K' t9 H) λt20 H=>zad t18 true H (λK'=>zak 3 t20 (.int .i64 0) (K' · H)) λt21 H=>zad t18 true H (λK'=>zaf 0 t21 (K' · H)) λt22 H=>zad t18 true H (λK'=>zae false 1 t22 H (K' · H)) λt23 H=>zad t18 true H (λK'=>zac .eql false t23 (.int .i64 2) (K' · H)) λt24 H=>zam t18 t24 (.bool false) λt25=>zad t25 true H (λK'=>K' t9 H) λt27 H=>zad t25 true H (λK'=>zak 3 t27 (.int .i64 0) (K' · H)) λt28 H=>zad t25 true H (λK'=>zaf 1 t28 (K' · H)) λt29 H=>zad t25 true H (λK'=>zae false 1 t29 H (K' · H)) λt30 H=>zad t25 true H (λK'=>K' t0 H) λt31 H=>zad t25 true H (λK'=>zac .eql false t30 t31 (K' · H)) λt32 H=>zam t25 t32 (.bool false) λt33=>K t33 H
variable {t0 t8 t16} {H} {K}
theorem zTf (h:HSc H→zg3 t0 H K):ACalls tP zqM [t0] H K:=
 acb zTd Tryz.func262 zTe (by kernel_rfl) (by kernel_rfl) h
theorem zRf (h:HSc H→zCU t0 H K):ACalls tP zjP [t0] H K:=
 acb zRd Tryz.func200 zRe (by kernel_rfl) (by kernel_rfl) h
theorem zXI (h:HSc H→zE4 t0 H K):ACalls tP zkd [t0] H K:=
 acb zXG Tryz.func92 zXH (by kernel_rfl) (by kernel_rfl) h
end
end Go.Proofs.YtdmamdnkcefmmaaGreatDoor
