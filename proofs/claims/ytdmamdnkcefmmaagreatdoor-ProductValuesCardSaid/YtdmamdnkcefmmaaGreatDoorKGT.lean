import Derived.Test.YtdmamdnkcefmmaaGreatDoorKNum
import Derived.Test.YtdmamdnkcefmmaaGreatDoorProg
import Derived.KernelRfl
import Derived.Test.YtdmamdnkcefmmaaGreatDoorAbsQ1
import Derived.Test.YtdmamdnkcefmmaaGreatDoorVO
set_option linter.unusedSimpArgs false
set_option linter.unusedVariables false
set_option maxRecDepth 8000
namespace Go.Proofs.YtdmamdnkcefmmaaGreatDoor
open Go Go.Abs
set_option maxRecDepth 100000
section
variable (t0 t1 t2 t3 t5 t6 t7 t8 t13 t14 t15 t20 t21 t30 t31 t32 t47 t48 t49 t74:AV) (H:zaa) (K:Kt) (Kb2 Kb4 Kb5 Kb9:Lt)
def zn1:Nat→List Bool | 5=>rl false [1,2,2,1,24] | _=>[]
noncomputable def zu1:Code:=Tryz.f72.body.getD .skip
noncomputable def zVE:List ResultVar:=Tryz.f72.results.toList
def zn2:List AV:=ux 1 (t1::t2::ux 2 (t5::ux 24 []))
def zVC:List Bool:=zn1 5
noncomputable def zVA:Code:=zar [1,1,1,0,1,0,0] zu1
def zVz:AExit→List AV→zaa→Prop:=zas tP zn1 [1,1,1,0,1,0] zu1 (zay tP zVE K)
def zD8:Prop:=ALoop tP zVA (zVz K) (zn2 t1 t2 t5) H
def zu0:Prop:=zaf 2 t2 λt16=>zae false 1 t16 H λt17=>zah 1 t17 λt18=>zac .lss false t5 t18 λt19=>zag t19 (zaf 2 t2 λt22=>zae false 1 t22 H λt23=>zaj 3 t23 t5 λt25=>zae true 3 t25 H λt26=>ACalls tP zhS [t26,t1] H λt28 H=>aUn .not t28 λt29=>zag t29 (K (.bool false) H) (zac .add false t5 (.int .i64 1) λt21=>Kb5 (zn2 t1 t2 t21) H)) (K (.bool true) H)
def zD7:Prop:=zaq t0 H λt2 H=>zaX t1 λt7=>zae false 1 t7 H λt8=>zac .sub false t8 (.int .i64 1) λt9=>zaX t1 λt10=>zan 1 t10 t9 H λH=>zaX t1 λt12=>zae false 1 t12 H λt13=>zac .lss false t13 (.int .i64 0) λt14=>zag t14 (K (.bool false) H) (zD8 t1 t2 (.int .i64 0) H K)
def zTq (_:Nat):List Bool:=[]
noncomputable def zTr:Code:=Tryz.f38.body.getD .skip
def zDk:Prop:=zaq t0 H λt1 H=>zav [(.int .i64 0)] H λt3 H=>zan 1 t3 (.int .i64 250) H λH=>zae true 3 t1 H λt4=>ACalls tP zhS [t4,t3] H λt5 H=>K t5 H
def zeb:Nat→List Bool | 4=>rl false [13,3,43] | 9=>rl false [13,3,14,3,26] | 15=>rl false [7,1,5,3,14,3,14,3,9] | _=>[]
noncomputable def zue:Code:=Tryz.f37.body.getD .skip
noncomputable def zTo:List ResultVar:=Tryz.f37.results.toList
def ziA:List AV:=ux 13 (t13::t14::t15::ux 43 [])
def zDi:List Bool:=zeb 4
noncomputable def zuf:Code:=zar [1,1,0,1,0,0] zue
def zDd:AExit→List AV→zaa→Prop:=zas tP zeb [1,1,0,1,0] zue (zay tP zTo K)
def zDg:Prop:=ALoop tP zuf (zDd K) (ziA t13 t14 t15) H
def znh:List AV:=ux 13 (t13::t14::t15::ux 14 (t30::t31::t32::ux 26 []))
def zDj:List Bool:=zeb 9
noncomputable def zug:Code:=zar [1,1,0,0,1,1,1,0,0] zuf
def zDe:AExit→List AV→zaa→Prop:=zas tP zeb [1,1,0,0,1,1,1,0] zuf (zbV zDi Kb4 (zDd K))
def zDh:Prop:=ALoop tP zug (zDe K Kb4) (znh t13 t14 t15 t30 t31 t32) H
def zng:List AV:=ux 7 (t7::ux 5 (t13::t14::t15::ux 14 (t30::t31::t32::ux 14 (t47::t48::t49::ux 9 []))))
def zTm:List Bool:=zeb 15
noncomputable def zTi:Code:=zar [1,1,0,0,1,1,1,1,0,0] zug
def zTh:AExit→List AV→zaa→Prop:=zas tP zeb [1,1,0,0,1,1,1,1,0] zug (zbV zDj Kb9 (zDe K Kb4))
def zDf:Prop:=ALoop tP zTi (zTh K Kb4 Kb9) (zng t7 t13 t14 t15 t30 t31 t32 t47 t48 t49) H
def zub (t7 t13 t14 t15 t30 t31 t32 t47 t48 t49:AV) (H:zaa) (K:Kt) (Kb4:Lt) (Kb9:Lt) (Kb15:Lt):Prop:=zac .lss false t49 t48 λt50=>zag t50 (zaj 3 t47 t49 λt51=>zae true 3 t51 H λt52=>zav [(.int .i64 0),(.int .i64 0),.snil] H λt9 H=>zan 3 t9 t52 H λH=>zae true 3 t9 H λt53=>ACalls tP zhS [t53,t7] H λt54 H=>aUn .not t54 λt55=>zag t55 (K (.bool false) H) (zac .add false t49 (.int .i64 1) λt56=>Kb15 (zng t7 t13 t14 t15 t30 t31 t32 t47 t48 t56) H)) (zac .add false t32 (.int .i64 1) λt57=>Kb9 (znh t13 t14 t15 t30 t31 t57) H)
def zud:Prop:=zac .lss false t32 t31 λt33=>zag t33 (zaj 2 t30 t32 λt34=>zae true 2 t34 H λt35=>zav [(.str []),.snil] H λt6 H=>zan 2 t6 t35 H λH=>zaf 0 t6 λt36=>zae false 1 t36 H λt37=>zah 0 t37 λt38=>zac .gtr false t38 (.int .i64 40) λt39=>zad t39 false H (λK'=>zaf 1 t6 (K' · H)) λt41 H=>zad t39 false H (λK'=>zae false 1 t41 H (K' · H)) λt42 H=>zad t39 false H (λK'=>zah 1 t42 (K' · H)) λt43 H=>zad t39 false H (λK'=>zac .gtr false t43 (.int .i64 8) (K' · H)) λt44 H=>zam t39 (.bool true) t44 λt45=>zag t45 (K (.bool false) H) (zav [(.int .i64 0)] H λt7 H=>zan 1 t7 (.int .i64 20) H λH=>zaf 1 t6 λt46=>zae false 1 t46 H λt47=>zah 1 t47 λt48=>zDf t7 t13 t14 t15 t30 t31 t32 t47 t48 (.int .i64 0) H K Kb4 Kb9)) (zac .add false t15 (.int .i64 1) λt58=>Kb4 (ziA t13 t14 t58) H)
def zuc:Prop:=zac .lss false t15 t14 λt16=>zag t16 (zaj 3 t13 t15 λt17=>zae true 3 t17 H λt18=>zav [(.str []),(.int .i64 0),.snil] H λt4 H=>zan 3 t4 t18 H λH=>zaf 0 t4 λt19=>zae false 1 t19 H λt20=>zah 0 t20 λt21=>zac .gtr false t21 (.int .i64 40) λt22=>zad t22 false H (λK'=>zaf 2 t4 (K' · H)) λt24 H=>zad t22 false H (λK'=>zae false 1 t24 H (K' · H)) λt25 H=>zad t22 false H (λK'=>zah 1 t25 (K' · H)) λt26 H=>zad t22 false H (λK'=>zac .gtr false t26 (.int .i64 10) (K' · H)) λt27 H=>zam t22 (.bool true) t27 λt28=>zag t28 (K (.bool false) H) (zaf 2 t4 λt29=>zae false 1 t29 H λt30=>zah 1 t30 λt31=>zDh t13 t14 t15 t30 t31 (.int .i64 0) H K Kb4)) (K (.bool true) H)
def zua:Prop:=zah 1 t0 λt11=>zac .gtr false t11 (.int .i64 14) λt12=>zag t12 (K (.bool false) H) (zah 1 t0 λt14=>zDg t0 t14 (.int .i64 0) H K)
def zLn (_:Nat):List Bool:=[]
noncomputable def zLo:Code:=Tryz.f123.body.getD .skip
def zAy:Prop:=zaq t1 H λt4 H=>zau [.snil,(.int .i64 0),(.int .i64 0)] [(0,1),(1,1),(2,1)] [(0,t0),(1,t2),(2,(.int .i64 200))] λt10=>zaq t10 H λt11 H=>zae true 3 t4 H λt13=>ACalls tP zjv [t11,t13] H λt14 H=>K t14 H
def zeC:Nat→List Bool | 171022=>rl false [2,2,16,1,53,1,34] | 150010=>rl false [2,2,1,2,13,2,87] | 100007=>rl false [2,2,1,2,13,1,88] | 100002=>rl false [2,2,105] | _=>[]
noncomputable def zeD:Code:=Tryz.f166.body.getD .skip
noncomputable def zmi:List ResultVar:=Tryz.f166.results.toList
def zgM:Prop:=zaf 0 t3 λt79=>zae false 1 t79 H λt80=>zac .neq false t80 (.int .i64 4) λt81=>zad t81 true H (λK'=>zaf 0 t3 (K' · H)) λt83 H=>zad t81 true H (λK'=>zae false 1 t83 H (K' · H)) λt84 H=>zad t81 true H (λK'=>zac .neq false t84 (.int .i64 5) (K' · H)) λt85 H=>zam t81 t85 (.bool false) λt86=>zad t86 true H (λK'=>zaf 1 t3 (K' · H)) λt88 H=>zad t86 true H (λK'=>zae false 1 t88 H (K' · H)) λt89 H=>zad t86 true H (λK'=>zac .neq false t89 (.int .i64 0) (K' · H)) λt90 H=>zam t86 t90 (.bool false) λt91=>zag t91 (K (.bool false) H) (zaf 2 t3 λt92=>zae false 1 t92 H λt93=>zah 1 t93 λt94=>zac .lss false t94 t5 λt96=>zad t96 false H (λK'=>zaf 2 t3 (K' · H)) λt98 H=>zad t96 false H (λK'=>zae false 1 t98 H (K' · H)) λt99 H=>zad t96 false H (λK'=>zah 1 t99 (K' · H)) λt100 H=>zad t96 false H (λK'=>K' t6 H) λt101 H=>zad t96 false H (λK'=>zac .gtr false t100 t101 (K' · H)) λt102 H=>zam t96 (.bool true) t102 λt103=>zag t103 (K (.bool false) H) (zaf 2 t3 λt104=>zae false 1 t104 H λt105=>zcD zjH [t2] λt106=>ACalls tP zfy [t105,t106] H λt107 H=>aUn .not t107 λt108=>K t108 H))
def zdH:Prop:=zgM t2 t3 t5 t6 H K
noncomputable def zOX:Code:=zar [1,1,1,1,0,1,0,1,1,1,1,1,1,1,1,1] zeD
def zOW:AExit→List AV→zaa→Prop:=zas tP zeC [1,1,1,1,0,1,0,1,1,1,1,1,1,1,1,1] zeD (zay tP zmi K)
def zs7:Prop:=AWp tP zOX (zOW K) (ux 2 (t2::t3::ux 16 (t20::ux 53 (t74::ux 34 [])))) H
def zmh:Prop:=zag t74 (zdH t2 t3 (.int .i64 1) (.int .i64 1) H K) (zac .eql false t20 (.int .i64 9) λt78=>zag t78 (zdH t2 t3 (.int .i64 1) (.int .i64 7) H K) (K (.bool false) H))
noncomputable def zOV:Code:=zar [1,1,1,1,0,1,0,1] zeD
def zOU:AExit→List AV→zaa→Prop:=zas tP zeC [1,1,1,1,0,1,0,1] zeD (zay tP zmi K)
def zmg:Prop:=AWp tP zOV (zOU K) (ux 2 (t2::t3::ux 1 (t5::t6::ux 13 (t20::t21::ux 87 [])))) H
def zdU:Prop:=zag t21 (zdH t2 t3 t5 t6 H K) (zac .eql false t20 (.int .i64 4) λt26=>zag t26 (zab H (λK'=>zaf 1 t3 (K' · H)) λt27=>zab H (λK'=>zal false 1 t27 H (K' · H)) λt28=>zab H (λK'=>zac .lss false t28 (.int .i64 0) (K' · H)) λt29=>zab H (λK'=>K' t29 H) λt30=>zad t30 false H (λK'=>zab H (λK''=>zaf 1 t3 (K'' · H)) (K' · H)) λt31 H=>zad t30 false H (λK'=>zab H (λK''=>zal false 1 t31 H (K'' · H)) (K' · H)) λt32 H=>zad t30 false H (λK'=>zab H (λK''=>zal false 1 t2 H (K'' · H)) (K' · H)) λt33 H=>zad t30 false H (λK'=>zab H (λK''=>zaX t33 (K'' · H)) (K' · H)) λt34 H=>zad t30 false H (λK'=>zab H (λK''=>zaf 1 t34 (K'' · H)) (K' · H)) λt35 H=>zad t30 false H (λK'=>zab H (λK''=>zal false 1 t35 H (K'' · H)) (K' · H)) λt36 H=>zad t30 false H (λK'=>zab H (λK''=>zac .geq false t32 t36 (K'' · H)) (K' · H)) λt37 H=>zab H (λK'=>zam t30 (.bool true) t37 (K' · H)) λt38=>zag t38 (K (.bool false) H) (zdH t2 t3 t5 t6 H K)) (zac .eql false t20 (.int .i64 5) λt40=>zag t40 (zab H (λK'=>zaf 1 t3 (K' · H)) λt41=>zab H (λK'=>zal false 1 t41 H (K' · H)) λt42=>zab H (λK'=>zac .lss false t42 (.int .i64 0) (K' · H)) λt43=>zab H (λK'=>K' t43 H) λt44=>zad t44 false H (λK'=>zab H (λK''=>zaf 1 t3 (K'' · H)) (K' · H)) λt45 H=>zad t44 false H (λK'=>zab H (λK''=>zal false 1 t45 H (K'' · H)) (K' · H)) λt46 H=>zad t44 false H (λK'=>zab H (λK''=>zal false 1 t2 H (K'' · H)) (K' · H)) λt47 H=>zad t44 false H (λK'=>zab H (λK''=>zaX t47 (K'' · H)) (K' · H)) λt48 H=>zad t44 false H (λK'=>zab H (λK''=>zaf 0 t48 (K'' · H)) (K' · H)) λt49 H=>zad t44 false H (λK'=>zab H (λK''=>zal false 1 t49 H (K'' · H)) (K' · H)) λt50 H=>zad t44 false H (λK'=>zab H (λK''=>zah 1 t50 (K'' · H)) (K' · H)) λt51 H=>zad t44 false H (λK'=>zab H (λK''=>zac .geq false t46 t51 (K'' · H)) (K' · H)) λt52 H=>zab H (λK'=>zam t44 (.bool true) t52 (K' · H)) λt53=>zag t53 (K (.bool false) H) (zab H (λK'=>zal false 1 t2 H (K' · H)) λt54=>zab H (λK'=>zaX t54 (K' · H)) λt55=>zab H (λK'=>zaf 0 t55 (K' · H)) λt56=>zab H (λK'=>zal false 1 t56 H (K' · H)) λt57=>zab H (λK'=>zaf 1 t3 (K' · H)) λt58=>zab H (λK'=>zal false 1 t58 H (K' · H)) λt59=>zab H (λK'=>zaj 3 t57 t59 (K' · H)) λt60=>zab H (λK'=>zaf 1 t60 (K' · H)) λt61=>zab H (λK'=>zal false 1 t61 H (K' · H)) λt62=>zab H (λK'=>zal false 1 t2 H (K' · H)) λt63=>zab H (λK'=>zaX t63 (K' · H)) λt64=>zab H (λK'=>zaf 0 t64 (K' · H)) λt65=>zab H (λK'=>zal false 1 t65 H (K' · H)) λt66=>zab H (λK'=>zaf 1 t3 (K' · H)) λt67=>zab H (λK'=>zal false 1 t67 H (K' · H)) λt68=>zab H (λK'=>zaj 3 t66 t68 (K' · H)) λt69=>zab H (λK'=>zaf 1 t69 (K' · H)) λt70=>zab H (λK'=>zal false 1 t70 H (K' · H)) λt71=>zab H (λK'=>K' t62 H) λt5=>zab H (λK'=>K' t71 H) λt6=>zdH t2 t3 t5 t6 H K)) (zac .eql false t20 (.int .i64 6) λt73=>zag t73 (zdH t2 t3 (.int .i64 2) (.int .i64 6) H K) (zac .eql false t20 (.int .i64 7) λt75=>zag t75 (zs7 t2 t3 t20 t75 H K) (zac .eql false t20 (.int .i64 8) λt76=>zs7 t2 t3 t20 t76 H K)))))
noncomputable def zOS:Code:=zar [1,1,1,1,0,1] zeD
def zOR:AExit→List AV→zaa→Prop:=zas tP zeC [1,1,1,1,0,1] zeD (zay tP zmi K)
def zBT:Prop:=AWp tP zOS (zOR K) (ux 2 (t2::t3::ux 1 (t5::t6::ux 13 (t20::ux 88 [])))) H
def zs6:Prop:=zac .eql false t20 (.int .i64 1) λt22=>zag t22 (zmg t2 t3 t5 t6 t20 t22 H K) (zac .eql false t20 (.int .i64 2) λt23=>zag t23 (zmg t2 t3 t5 t6 t20 t23 H K) (zac .eql false t20 (.int .i64 3) λt24=>zmg t2 t3 t5 t6 t20 t24 H K))
noncomputable def zOP:Code:=zar [1,1] zeD
def zOO:AExit→List AV→zaa→Prop:=zas tP zeC [1,1] zeD (zay tP zmi K)
def zs4:Prop:=AWp tP zOP (zOO K) (ux 2 (t2::t3::ux 105 [])) H
def zs5:Prop:=zae false 1 t2 H λt14=>zaX t14 λt15=>zaf 2 t15 λt16=>zae false 1 t16 H λt17=>zac .lss false t17 (.int .i64 0) λt18=>zag t18 (K (.bool false) H) (zaf 0 t3 λt19=>zae false 1 t19 H λt20=>zBT t2 t3 (.int .i64 0) (.int .i64 0) t20 H K)
def zBS:Prop:=zaq t0 H λt2 H=>zaq t1 H λt3 H=>zae false 1 t2 H λt7=>zaX t7 λt8=>zaf 2 t8 λt9=>zae false 1 t9 H λt10=>zac .sub false t10 (.int .i64 1) λt11=>zaX t7 λt12=>zaf 2 t12 λt13=>zan 1 t13 t11 H λH=>zs4 t2 t3 H K
def zRi (_:Nat):List Bool:=[]
noncomputable def zRj:Code:=Tryz.f210.body.getD .skip
def zCG:Prop:=zaq t0 H λt2 H=>zae false 1 t1 H λt4=>zae true 3 t2 H λt5=>ACalls tP zjv [t4,t5] H λt6 H=>aUn .not t6 λt7=>K t7 H
def zRf (_:Nat):List Bool:=[]
noncomputable def zRg:Code:=Tryz.f202.body.getD .skip
def zCF:Prop:=ACalls tP zqj [t0,t1] H λt7 H=>zac .geq false t7 (.int .i64 0) λt8=>K t8 H
def zm8:Nat→List Bool | 2=>rl false [0,2,5,2,10] | _=>[]
noncomputable def zt3:Code:=Tryz.f229.body.getD .skip
noncomputable def zSn:List ResultVar:=Tryz.f229.results.toList
def zm9:List AV:=t0::t1::ux 5 (t7::t8::ux 10 [])
def zSl:List Bool:=zm8 2
noncomputable def zSj:Code:=zar [1,0,1,0,0] zt3
def zSi:AExit→List AV→zaa→Prop:=zas tP zm8 [1,0,1,0] zt3 (zay tP zSn K)
def zCX:Prop:=ALoop tP zSj (zSi K) (zm9 t0 t1 t7 t8) H
def zt2:Prop:=zac .lss false t8 t7 λt9=>zag t9 (zaj 3 t0 t8 λt14=>zae true 3 t14 H λt15=>aCallV tP t1 [t15] H λt16 H=>zag t16 (K t8 H) (zac .add false t8 (.int .i64 1) λt18=>Kb2 (zm9 t0 t1 t7 t18) H)) (K (.int .i64 (-1)) H)
def zCW:Prop:=zah 1 t0 λt7=>zCX t0 t1 t7 (.int .i64 0) H K
variable {t0 t1 t2 t3 t5 t6 t7 t8 t13 t14 t15 t20 t21 t30 t31 t32 t47 t48 t49 t74} {H} {K} {Kb2 Kb4 Kb5 Kb9}
theorem zVB (Inv:Nat→AV→zaa→Prop) (n:Nat) (h0:HSc H→Inv n t5 H)
  (ac:Rd1 (λt5=>zn2 t1 t2 t5) (λt5=>λH Kb5=>zu0 t1 t2 t5 H K Kb5) H Inv):zD8 t1 t2 t5 H K:=
 lp1 (M:=zn1) zVC t5 (by kernel_rfl) Inv n h0 ac
theorem zVD (h:HSc H→zD7 t0 t1 H K):ACalls tP zhS [t0,t1] H K:=
 acb zn1 Tryz.func72 zu1 (by kernel_rfl) (by kernel_rfl) h
theorem zTs (h:HSc H→zDk t0 H K):ACalls tP zqq [t0] H K:=
 acb zTq Tryz.func38 zTr (by kernel_rfl) (by kernel_rfl) h
theorem zTj (Inv:Nat→AV→zaa→Prop) (n:Nat) (h0:HSc H→Inv n t49 H)
  (ac:Rd1 (λt49=>zng t7 t13 t14 t15 t30 t31 t32 t47 t48 t49) (λt49=>λH Kb15=>zub t7 t13 t14 t15 t30 t31 t32 t47 t48 t49 H K Kb4 Kb9 Kb15) H Inv):zDf t7 t13 t14 t15 t30 t31 t32 t47 t48 t49 H K Kb4 Kb9:=
 lp1 (M:=zeb) zTm t49 (by kernel_rfl) Inv n h0 ac
theorem zTl (Inv:Nat→AV→zaa→Prop) (n:Nat) (h0:HSc H→Inv n t32 H)
  (ac:Rd1 (λt32=>znh t13 t14 t15 t30 t31 t32) (λt32=>λH Kb9=>zud t13 t14 t15 t30 t31 t32 H K Kb4 Kb9) H Inv):zDh t13 t14 t15 t30 t31 t32 H K Kb4:=
 lp1 (M:=zeb) zDj t32 (by kernel_rfl) Inv n h0 ac
theorem zTk (Inv:Nat→AV→zaa→Prop) (n:Nat) (h0:HSc H→Inv n t15 H)
  (ac:Rd1 (λt15=>ziA t13 t14 t15) (λt15=>λH Kb4=>zuc t13 t14 t15 H K Kb4) H Inv):zDg t13 t14 t15 H K:=
 lp1 (M:=zeb) zDi t15 (by kernel_rfl) Inv n h0 ac
theorem zTn (h:HSc H→zua t0 H K):ACalls tP zqp [t0] H K:=
 acb zeb Tryz.func37 zue (by kernel_rfl) (by kernel_rfl) h
theorem zLp (h:HSc H→zAy t0 t1 t2 H K):ACalls tP zhE [t0,t1,t2] H K:=
 acb zLn Tryz.func123 zLo (by kernel_rfl) (by kernel_rfl) h
theorem zBV (h:HSc H→zmh t2 t3 t20 t74 H K):zs7 t2 t3 t20 t74 H K:=
 λB w G a hH hF hd=>zf9 (M:=zeC) _ _ _ _ (Eq.mpr (by kernel_rfl) (h hH.sc)) B w G a hH hF hd
theorem zBU (h:HSc H→zdU t2 t3 t5 t6 t20 t21 H K):zmg t2 t3 t5 t6 t20 t21 H K:=
 λB w G a hH hF hd=>zf9 (M:=zeC) _ _ _ _ (Eq.mpr (by kernel_rfl) (h hH.sc)) B w G a hH hF hd
theorem zOT (h:HSc H→zs6 t2 t3 t5 t6 t20 H K):zBT t2 t3 t5 t6 t20 H K:=
 λB w G a hH hF hd=>zf9 (M:=zeC) _ _ _ _ (Eq.mpr (by kernel_rfl) (h hH.sc)) B w G a hH hF hd
theorem zOQ (h:HSc H→zs5 t2 t3 H K):zs4 t2 t3 H K:=
 λB w G a hH hF hd=>zf9 (M:=zeC) _ _ _ _ (Eq.mpr (by kernel_rfl) (h hH.sc)) B w G a hH hF hd
theorem zOY (h:HSc H→zBS t0 t1 H K):ACalls tP zjv [t0,t1] H K:=
 acb zeC Tryz.func166 zeD (by kernel_rfl) (by kernel_rfl) h
theorem zRk (h:HSc H→zCG t0 t1 H K):ACalls tP zjH [t0,t1] H K:=
 acb zRi Tryz.func210 zRj (by kernel_rfl) (by kernel_rfl) h
theorem zRh (h:HSc H→zCF t0 t1 H K):ACalls tP zfy [t0,t1] H K:=
 acb zRf Tryz.func202 zRg (by kernel_rfl) (by kernel_rfl) h
theorem zSk (Inv:Nat→AV→zaa→Prop) (n:Nat) (h0:HSc H→Inv n t8 H)
  (ac:Rd1 (λt8=>zm9 t0 t1 t7 t8) (λt8=>λH Kb2=>zt2 t0 t1 t7 t8 H K Kb2) H Inv):zCX t0 t1 t7 t8 H K:=
 lp1 (M:=zm8) zSl t8 (by kernel_rfl) Inv n h0 ac
theorem zSm (h:HSc H→zCW t0 t1 H K):ACalls tP zqj [t0,t1] H K:=
 acb zm8 Tryz.func229 zt3 (by kernel_rfl) (by kernel_rfl) h
end
section
variable (t0 t1 t2 t3 t4 t5 t7 t8 t9 t14 t29 t30 t31 t35 t36 t37 t59 t60 t61 t77 t78 t79 t93 t94 t95:AV) (H:zaa) (K:Kt) (Kb3 Kb5 Kb8 Kb13 Kb20:Lt)
def zd9:Nat→List Bool | 8=>rl false [2,1,1,1,3,2,49,3,46] | 13=>rl false [2,1,1,1,3,2,67,3,28] | 20=>rl false [4,1,9,1,78,3,12] | _=>[]
noncomputable def zfR:Code:=Tryz.f167.body.getD .skip
noncomputable def ztb:List ResultVar:=Tryz.f167.results.toList
def zml:List AV:=ux 2 (t2::ux 1 (t4::ux 3 (t8::t9::ux 49 (t59::t60::t61::ux 46 []))))
def zPa:List Bool:=zd9 8
noncomputable def zO4:Code:=zar [1,1,1,1,1,0,1,0,0] zfR
def zO1:AExit→List AV→zaa→Prop:=zas tP zd9 [1,1,1,1,1,0,1,0] zfR (zay tP ztb K)
def zBY:Prop:=ALoop tP zO4 (zO1 K) (zml t2 t4 t8 t9 t59 t60 t61) H
def zmj:List AV:=ux 2 (t2::ux 1 (t4::ux 3 (t8::t9::ux 67 (t77::t78::t79::ux 28 []))))
def zO8:List Bool:=zd9 13
noncomputable def zO2:Code:=zar [1,1,1,1,1,1,0,1,0,0] zfR
def zOZ:AExit→List AV→zaa→Prop:=zas tP zd9 [1,1,1,1,1,1,0,1,0] zfR (zay tP ztb K)
def zBX:Prop:=ALoop tP zO2 (zOZ K) (zmj t2 t4 t8 t9 t77 t78 t79) H
def zmk:List AV:=ux 4 (t4::ux 9 (t14::ux 78 (t93::t94::t95::ux 12 [])))
def zO9:List Bool:=zd9 20
noncomputable def zO3:Code:=zar [1,1,1,1,1,1,1,1,0,1,0,0] zfR
def zO0:AExit→List AV→zaa→Prop:=zas tP zd9 [1,1,1,1,1,1,1,1,0,1,0] zfR (zay tP ztb K)
def zmm:Prop:=ALoop tP zO3 (zO0 K) (zmk t4 t14 t93 t94 t95) H
def zs9:Prop:=zac .lss false t95 t94 λt96=>zag t96 (zaj 3 t93 t95 λt97=>zae true 3 t97 H λt98=>zav [(.int .i64 0),(.int .i64 0),.snil] H λt16 H=>zan 3 t16 t98 H λH=>zae true 3 t16 H λt100=>zaf 2 t4 λt101=>zae false 1 t101 H λt102=>ACalls tP zhJ [t100,t102] H λt103 H=>zaw 3 [(.int .i64 0),(.int .i64 0),.snil] 1 [(0,t103)] λt104=>zax za1 3 40 t14 t104 H λt105 H=>zac .add false t95 (.int .i64 1) λt106=>Kb20 (zmk t4 t105 t93 t94 t106) H) (zaE [t14,(.bool true)] (K · H))
def zs8:Prop:=zac .lss false t79 t78 λt80=>zag t80 (zaj 3 t77 t79 λt81=>zae true 3 t81 H λt82=>zav [(.int .i64 0),(.int .i64 0),.snil] H λt13 H=>zan 3 t13 t82 H λH=>zae true 3 t13 H λt83=>ACalls tP zjJ [t83,t9] H λt85 H=>zac .gtr false t85 (.int .i64 200) λt86=>zag t86 (zaE [.snil,(.bool false)] (K · H)) (zac .add false t79 (.int .i64 1) λt87=>Kb13 (zmj t2 t4 t8 t9 t77 t78 t87) H)) (zaf 2 t8 λt88=>zae false 1 t88 H λt89=>zaj 2 t89 t2 λt91=>zaf 1 t91 λt92=>zae false 1 t92 H λt93=>zah 1 t93 λt94=>zmm t4 .snil t93 t94 (.int .i64 0) H K)
def zta:Prop:=zac .lss false t61 t60 λt62=>zag t62 (zaj 3 t59 t61 λt64=>zae true 3 t64 H λt65=>zav [(.int .i64 0),(.int .i64 0),.snil] H λt11 H=>zan 3 t11 t65 H λH=>zae true 3 t11 H λt68=>ACalls tP zjI [t68] H λt69 H=>zaj 1 t9 t61 λt70=>zan 1 t70 t69 H λH=>zac .add false t61 (.int .i64 1) λt71=>Kb8 (zml t2 t4 t8 t9 t59 t60 t71) H) (zaf 2 t8 λt72=>zae false 1 t72 H λt73=>zaj 2 t73 t2 λt75=>zaf 1 t75 λt76=>zae false 1 t76 H λt77=>zah 1 t77 λt78=>zBX t2 t4 t8 t9 t77 t78 (.int .i64 0) H K)
def zBW:Prop:=zaq t1 H λt4 H=>zaf 0 t4 λt17=>zae false 1 t17 H λt18=>zac .neq false t18 (.int .i64 5) λt19=>zad t19 false H (λK'=>zaf 1 t4 (K' · H)) λt21 H=>zad t19 false H (λK'=>zae false 1 t21 H (K' · H)) λt22 H=>zad t19 false H (λK'=>zac .lss false t22 (.int .i64 0) (K' · H)) λt23 H=>zam t19 (.bool true) t23 λt24=>zad t24 false H (λK'=>zaf 1 t4 (K' · H)) λt26 H=>zad t24 false H (λK'=>zae false 1 t26 H (K' · H)) λt27 H=>zad t24 false H (λK'=>K' t0 H) λt28 H=>zad t24 false H (λK'=>zah 1 t28 (K' · H)) λt29 H=>zad t24 false H (λK'=>zac .geq false t27 t29 (K' · H)) λt30 H=>zam t24 (.bool true) t30 λt31=>zag t31 (zaE [.snil,(.bool false)] (K · H)) (zaf 1 t4 λt33=>zae false 1 t33 H λt34=>zaj 3 t0 t34 λt35=>zae true 3 t35 H λt36=>zav [(.str []),(.int .i64 0),.snil] H λt8 H=>zan 3 t8 t36 H λH=>zaf 2 t4 λt37=>zae false 1 t37 H λt38=>zah 1 t38 λt39=>zaf 1 t8 λt40=>zae false 1 t40 H λt41=>zac .neq false t39 t41 λt42=>zad t42 false H (λK'=>K' t2 H) λt44 H=>zad t42 false H (λK'=>zac .lss false t44 (.int .i64 0) (K' · H)) λt45 H=>zam t42 (.bool true) t45 λt46=>zad t46 false H (λK'=>K' t2 H) λt48 H=>zad t46 false H (λK'=>zaf 2 t8 (K' · H)) λt49 H=>zad t46 false H (λK'=>zae false 1 t49 H (K' · H)) λt50 H=>zad t46 false H (λK'=>zah 1 t50 (K' · H)) λt51 H=>zad t46 false H (λK'=>zac .geq false t48 t51 (K' · H)) λt52 H=>zam t46 (.bool true) t52 λt53=>zag t53 (zaE [.snil,(.bool false)] (K · H)) (zaf 2 t4 λt54=>zae false 1 t54 H λt55=>zah 1 t55 λt56=>zba 8 [(.int .i64 0)] t56 t56 H λt57 H=>zaf 2 t4 λt58=>zae false 1 t58 H λt59=>zah 1 t59 λt60=>zBY t2 t4 t8 t57 t59 t60 (.int .i64 0) H K))
def zmU:Nat→List Bool | 3=>rl false [3,1,3,3,9] | _=>[]
noncomputable def ztK:Code:=Tryz.f211.body.getD .skip
noncomputable def zRq:List ResultVar:=Tryz.f211.results.toList
def zmV:List AV:=ux 3 (t3::ux 3 (t7::t8::t9::ux 9 []))
def zRo:List Bool:=zmU 3
noncomputable def zRm:Code:=zar [1,1,0,1,0,0] ztK
def zRl:AExit→List AV→zaa→Prop:=zas tP zmU [1,1,0,1,0] ztK (zay tP zRq K)
def zCI:Prop:=ALoop tP zRm (zRl K) (zmV t3 t7 t8 t9) H
def ztJ:Prop:=zac .lss false t9 t8 λt10=>zag t10 (zaj 3 t7 t9 λt11=>zae true 3 t11 H λt12=>zav [(.int .i64 0),(.int .i64 0),.snil] H λt5 H=>zan 3 t5 t12 H λH=>zae true 3 t5 H λt14=>ACalls tP zjI [t14] H λt15 H=>zac .add false t3 t15 λt16=>zac .add false t9 (.int .i64 1) λt17=>Kb3 (zmV t16 t7 t8 t17) H) (K t3 H)
def zCH:Prop:=zaq t0 H λt1 H=>zaf 2 t1 λt6=>zae false 1 t6 H λt7=>zah 1 t7 λt8=>zCI (.int .i64 1) t7 t8 (.int .i64 0) H K
def zmW:Nat→List Bool | 5=>rl false [1,1,3,1,23,3,12] | _=>[]
noncomputable def ztN:Code:=Tryz.f212.body.getD .skip
noncomputable def zRA:List ResultVar:=Tryz.f212.results.toList
def zmX:List AV:=ux 1 (t1::ux 3 (t5::ux 23 (t29::t30::t31::ux 12 [])))
def zRy:List Bool:=zmW 5
noncomputable def zRw:Code:=zar [1,1,1,0,1,0,0] ztN
def zRv:AExit→List AV→zaa→Prop:=zas tP zmW [1,1,1,0,1,0] ztN (zay tP zRA K)
def ztP:Prop:=ALoop tP zRw (zRv K) (zmX t1 t5 t29 t30 t31) H
def ztO:Prop:=K t5 H
def zmY:Prop:=ztO t5 H K
def ztM:Prop:=zac .lss false t31 t30 λt32=>zag t32 (zaj 3 t29 t31 λt33=>zae true 3 t33 H λt34=>zav [(.int .i64 0),(.int .i64 0),.snil] H λt7 H=>zan 3 t7 t34 H λH=>zae true 3 t7 H λt36=>ACalls tP zjJ [t36,t1] H λt38 H=>zac .add false t5 t38 λt39=>zac .gtr false t39 (.int .i64 200) λt41=>zag t41 (zmY t39 H K) (zac .add false t31 (.int .i64 1) λt42=>Kb5 (zmX t1 t39 t29 t30 t42) H)) (zmY t5 H K)
def ztL:Prop:=zaq t0 H λt2 H=>zaf 0 t2 λt8=>zae false 1 t8 H λt9=>zac .eql false t9 (.int .i64 4) λt10=>zad t10 true H (λK'=>zaf 1 t2 (K' · H)) λt12 H=>zad t10 true H (λK'=>zae false 1 t12 H (K' · H)) λt13 H=>zad t10 true H (λK'=>zac .geq false t13 (.int .i64 0) (K' · H)) λt14 H=>zam t10 t14 (.bool false) λt15=>zad t15 true H (λK'=>zaf 1 t2 (K' · H)) λt17 H=>zad t15 true H (λK'=>zae false 1 t17 H (K' · H)) λt18 H=>zad t15 true H (λK'=>K' t1 H) λt19 H=>zad t15 true H (λK'=>zah 1 t19 (K' · H)) λt20 H=>zad t15 true H (λK'=>zac .lss false t18 t20 (K' · H)) λt21 H=>zam t15 t21 (.bool false) λt22=>zag t22 (zaf 1 t2 λt24=>zae false 1 t24 H λt25=>zaj 1 t1 t25 λt26=>zae false 1 t26 H λt27=>K t27 H) (zaf 2 t2 λt28=>zae false 1 t28 H λt29=>zah 1 t29 λt30=>ztP t1 (.int .i64 1) t29 t30 (.int .i64 0) H K)
def zmZ:Nat→List Bool | 5=>rl false [1,1,2,2,29,3,13] | _=>[]
noncomputable def ztS:Code:=Tryz.f213.body.getD .skip
noncomputable def zRH:List ResultVar:=Tryz.f213.results.toList
def zm0:List AV:=ux 1 (t1::ux 2 (t4::t5::ux 29 (t35::t36::t37::ux 13 [])))
def zRF:List Bool:=zmZ 5
noncomputable def zRD:Code:=zar [1,1,1,0,1,0,0] ztS
def zRC:AExit→List AV→zaa→Prop:=zas tP zmZ [1,1,1,0,1,0] ztS (zay tP zRH K)
def ziz:Prop:=ALoop tP zRD (zRC K) (zm0 t1 t4 t5 t35 t36 t37) H
def ztR:Prop:=zac .lss false t37 t36 λt38=>zag t38 (zaj 3 t35 t37 λt39=>zae true 3 t39 H λt40=>zav [(.int .i64 0),(.int .i64 0),.snil] H λt7 H=>zan 3 t7 t40 H λH=>zab H (λK'=>zaf 2 t5 (K' · H)) λt41=>zab H (λK'=>zal false 1 t41 H (K' · H)) λt42=>zab H (λK'=>zal true 3 t7 H (K' · H)) λt43=>zab H (λK'=>K' t1 H) λt44=>zaC H (λH K'=>ACalls tP zhJ [t43,t44] H K') λt45=>zab H (λK'=>zaw 3 [(.int .i64 0),(.int .i64 0),.snil] 1 [(0,t45)] (K' · H)) λt46=>zax za1 3 40 t42 t46 H λt47 H=>zab H (λK'=>zaf 2 t5 (K' · H)) λt48=>zan 1 t48 t47 H λH=>zac .add false t37 (.int .i64 1) λt49=>Kb5 (zm0 t1 t4 t5 t35 t36 t49) H) (zae true 3 t5 H λt50=>zan 3 t4 t50 H λH=>zae true 3 t4 H λr0=>K r0 H)
def ztQ:Prop:=zaq t0 H λt2 H=>zav [(.int .i64 0),(.int .i64 0),.snil] H λt4 H=>zaf 0 t2 λt8=>zae false 1 t8 H λt9=>zac .eql false t9 (.int .i64 4) λt10=>zad t10 true H (λK'=>zaf 1 t2 (K' · H)) λt12 H=>zad t10 true H (λK'=>zae false 1 t12 H (K' · H)) λt13 H=>zad t10 true H (λK'=>zac .geq false t13 (.int .i64 0) (K' · H)) λt14 H=>zam t10 t14 (.bool false) λt15=>zad t15 true H (λK'=>zaf 1 t2 (K' · H)) λt17 H=>zad t15 true H (λK'=>zae false 1 t17 H (K' · H)) λt18 H=>zad t15 true H (λK'=>K' t1 H) λt19 H=>zad t15 true H (λK'=>zah 1 t19 (K' · H)) λt20 H=>zad t15 true H (λK'=>zac .lss false t18 t20 (K' · H)) λt21 H=>zam t15 t21 (.bool false) λt22=>zag t22 (zaf 1 t2 λt24=>zae false 1 t24 H λt25=>zaj 3 t1 t25 λt26=>zae true 3 t26 H λt27=>ACalls tP zhJ [t27,.snil] H λt28 H=>zan 3 t4 t28 H λH=>zae true 3 t4 H λr0=>K r0 H) (zaf 0 t2 λt29=>zae false 1 t29 H λt30=>zaf 1 t2 λt31=>zae false 1 t31 H λt32=>zau [(.int .i64 0),(.int .i64 0),.snil] [(0,1),(1,1),(2,1)] [(0,t30),(1,t32)] λt33=>zav [(.int .i64 0),(.int .i64 0),.snil] H λt5 H=>zan 3 t5 t33 H λH=>zaf 2 t2 λt34=>zae false 1 t34 H λt35=>zah 1 t35 λt36=>ziz t1 t4 t5 t35 t36 (.int .i64 0) H K)
def zUp (_:Nat):List Bool:=[]
noncomputable def zUq:Code:=Tryz.f49.body.getD .skip
def zDF:Prop:=zaq t1 H λt4 H=>zae true 3 t4 H λt7=>ACalls tP zhV [t7] H λt8 H=>zac .leq false t8 (.int .i64 200) λt9=>zad t9 true H (λK'=>K' t0 H) λt11 H=>zad t9 true H (λK'=>zae true 3 t4 H (K' · H)) λt12 H=>zad t9 true H (λK'=>K' t2 H) λt13 H=>zad t9 true H (λK'=>ACalls tP zj7 [t11,t12,t13] H K') λt14 H=>zam t9 t14 (.bool false) λt15=>K t15 H
def zom:Nat→List Bool | 3=>rl false [1,1,1,2,16] | _=>[]
noncomputable def zvo:Code:=Tryz.f95.body.getD .skip
noncomputable def zXc:List ResultVar:=Tryz.f95.results.toList
def zon:List AV:=ux 1 (t1::ux 1 (t3::t4::ux 16 []))
def zXa:List Bool:=zom 3
noncomputable def zW8:Code:=zar [1,1,0,1,0,0] zvo
def zW7:AExit→List AV→zaa→Prop:=zas tP zom [1,1,0,1,0] zvo (zay tP zXc K)
def zEK:Prop:=ALoop tP zW8 (zW7 K) (zon t1 t3 t4) H
def zvn:Prop:=zaf 2 t1 λt6=>zae false 1 t6 H λt7=>zah 1 t7 λt8=>zac .lss false t4 t8 λt9=>zag t9 (zaf 2 t1 λt13=>zae false 1 t13 H λt14=>zaj 3 t14 t4 λt16=>zae true 3 t16 H λt17=>ACalls tP zhV [t17] H λt18 H=>zac .add false t3 t18 λt19=>zac .add false t4 (.int .i64 1) λt11=>Kb3 (zon t1 t19 t11) H) (K t3 H)
def zEJ:Prop:=zaq t0 H λt1 H=>zEK t1 (.int .i64 1) (.int .i64 0) H K
variable {t0 t1 t2 t3 t4 t5 t7 t8 t9 t14 t29 t30 t31 t35 t36 t37 t59 t60 t61 t77 t78 t79 t93 t94 t95} {H} {K} {Kb3 Kb5 Kb8 Kb13 Kb20}
theorem zO6 (Inv:Nat→AV→AV→zaa→Prop) (n:Nat) (h0:HSc H→Inv n t14 t95 H)
  (ac:Rd2 (λt14=>λt95=>zmk t4 t14 t93 t94 t95) (λt14=>λt95=>λH Kb20=>zs9 t4 t14 t93 t94 t95 H K Kb20) H Inv):zmm t4 t14 t93 t94 t95 H K:=
 lp2 (M:=zd9) zO9 t14 t95 (by kernel_rfl) Inv n h0 ac
theorem zO5 (Inv:Nat→AV→zaa→Prop) (n:Nat) (h0:HSc H→Inv n t79 H)
  (ac:Rd1 (λt79=>zmj t2 t4 t8 t9 t77 t78 t79) (λt79=>λH Kb13=>zs8 t2 t4 t8 t9 t77 t78 t79 H K Kb13) H Inv):zBX t2 t4 t8 t9 t77 t78 t79 H K:=
 lp1 (M:=zd9) zO8 t79 (by kernel_rfl) Inv n h0 ac
theorem zO7 (Inv:Nat→AV→zaa→Prop) (n:Nat) (h0:HSc H→Inv n t61 H)
  (ac:Rd1 (λt61=>zml t2 t4 t8 t9 t59 t60 t61) (λt61=>λH Kb8=>zta t2 t4 t8 t9 t59 t60 t61 H K Kb8) H Inv):zBY t2 t4 t8 t9 t59 t60 t61 H K:=
 lp1 (M:=zd9) zPa t61 (by kernel_rfl) Inv n h0 ac
theorem zPb (h:HSc H→zBW t0 t1 t2 H K):ACalls tP zjw [t0,t1,t2] H K:=
 acb zd9 Tryz.func167 zfR (by kernel_rfl) (by kernel_rfl) h
theorem zRn (Inv:Nat→AV→AV→zaa→Prop) (n:Nat) (h0:HSc H→Inv n t3 t9 H)
  (ac:Rd2 (λt3=>λt9=>zmV t3 t7 t8 t9) (λt3=>λt9=>λH Kb3=>ztJ t3 t7 t8 t9 H K Kb3) H Inv):zCI t3 t7 t8 t9 H K:=
 lp2 (M:=zmU) zRo t3 t9 (by kernel_rfl) Inv n h0 ac
theorem zRp (h:HSc H→zCH t0 H K):ACalls tP zjI [t0] H K:=
 acb zmU Tryz.func211 ztK (by kernel_rfl) (by kernel_rfl) h
theorem zRx (Inv:Nat→AV→AV→zaa→Prop) (n:Nat) (h0:HSc H→Inv n t5 t31 H)
  (ac:Rd2 (λt5=>λt31=>zmX t1 t5 t29 t30 t31) (λt5=>λt31=>λH Kb5=>ztM t1 t5 t29 t30 t31 H K Kb5) H Inv):ztP t1 t5 t29 t30 t31 H K:=
 lp2 (M:=zmW) zRy t5 t31 (by kernel_rfl) Inv n h0 ac
theorem zRz (h:HSc H→ztL t0 t1 H K):ACalls tP zjJ [t0,t1] H K:=
 acb zmW Tryz.func212 ztN (by kernel_rfl) (by kernel_rfl) h
theorem zRE (Inv:Nat→AV→zaa→Prop) (n:Nat) (h0:HSc H→Inv n t37 H)
  (ac:Rd1 (λt37=>zm0 t1 t4 t5 t35 t36 t37) (λt37=>λH Kb5=>ztR t1 t4 t5 t35 t36 t37 H K Kb5) H Inv):ziz t1 t4 t5 t35 t36 t37 H K:=
 lp1 (M:=zmZ) zRF t37 (by kernel_rfl) Inv n h0 ac
theorem zRG (h:HSc H→ztQ t0 t1 H K):ACalls tP zhJ [t0,t1] H K:=
 acb zmZ Tryz.func213 ztS (by kernel_rfl) (by kernel_rfl) h
theorem zUr (h:HSc H→zDF t0 t1 t2 H K):ACalls tP zhO [t0,t1,t2] H K:=
 acb zUp Tryz.func49 zUq (by kernel_rfl) (by kernel_rfl) h
theorem zW9 (Inv:Nat→AV→AV→zaa→Prop) (n:Nat) (h0:HSc H→Inv n t3 t4 H)
  (ac:Rd2 (λt3=>λt4=>zon t1 t3 t4) (λt3=>λt4=>λH Kb3=>zvn t1 t3 t4 H K Kb3) H Inv):zEK t1 t3 t4 H K:=
 lp2 (M:=zom) zXa t3 t4 (by kernel_rfl) Inv n h0 ac
theorem zXb (h:HSc H→zEJ t0 H K):ACalls tP zhV [t0] H K:=
 acb zom Tryz.func95 zvo (by kernel_rfl) (by kernel_rfl) h
end
section
variable (t0 t1 t2 t3 t4 t5 t6 t7 t8 t13 t14 t63 t64 t65 t75:AV) (H:zaa) (K:Kt) (Kb3 Kb5 Kb24:Lt)
def zoo:Nat→List Bool | 24=>rl false [0,1,1,1,1,1,2,2,103] | _=>[]
noncomputable def zvq:Code:=Tryz.f96.body.getD .skip
noncomputable def zXi:List ResultVar:=Tryz.f96.results.toList
def zop:List AV:=t0::ux 1 (t2::ux 1 (t4::ux 2 (t7::t8::ux 103 [])))
def zXg:List Bool:=zoo 24
noncomputable def zXe:Code:=zar [1,1,1,0,1,0,0] zvq
def zXd:AExit→List AV→zaa→Prop:=zas tP zoo [1,1,1,0,1,0] zvq (zay tP zXi K)
def zvr:Prop:=ALoop tP zXe (zXd K) (zop t0 t2 t4 t7 t8) H
def zvp:Prop:=zac .lss false t8 t7 λt100=>zag t100 (zaf 2 t4 λt104=>zae false 1 t104 H λt105=>zaj 3 t105 t8 λt107=>zae true 3 t107 H λt108=>ACalls tP zj7 [t0,t108,t2] H λt110 H=>aUn .not t110 λt111=>zag t111 (K (.bool false) H) (zac .add false t8 (.int .i64 1) λt102=>Kb24 (zop t0 t2 t4 t7 t102) H)) (K (.bool true) H)
def ziN:Prop:=zvr t0 t2 t4 t7 (.int .i64 0) H K
def zfd:Prop:=ziN t0 t2 t4 t7 H K
def zef:Prop:=zag t75 (zaf 1 t4 λt78=>zae false 1 t78 H λt79=>zac .neq false t79 (.int .i64 0) λt80=>zad t80 false H (λK'=>K' t7 H) λt82 H=>zad t80 false H (λK'=>zac .neq false t82 (.int .i64 1) (K' · H)) λt83 H=>zam t80 (.bool true) t83 λt84=>zag t84 (K (.bool false) H) (zfd t0 t2 t4 t7 H K)) (zac .eql false t13 (.int .i64 9) λt86=>zag t86 (zaf 1 t4 λt87=>zae false 1 t87 H λt88=>zac .neq false t88 (.int .i64 0) λt89=>zad t89 false H (λK'=>K' t7 H) λt91 H=>zad t89 false H (λK'=>zac .lss false t91 (.int .i64 1) (K' · H)) λt92 H=>zam t89 (.bool true) t92 λt93=>zad t93 false H (λK'=>K' t7 H) λt95 H=>zad t93 false H (λK'=>zac .gtr false t95 (.int .i64 7) (K' · H)) λt96 H=>zam t93 (.bool true) t96 λt97=>zag t97 (K (.bool false) H) (zfd t0 t2 t4 t7 H K)) (K (.bool false) H))
def zbZ:Prop:=zag t14 (zaf 1 t4 λt18=>zae false 1 t18 H λt19=>zac .eql false t19 (.int .i64 0) λt20=>zad t20 true H (λK'=>K' t7 H) λt22 H=>zad t20 true H (λK'=>zac .eql false t22 (.int .i64 0) (K' · H)) λt23 H=>zam t20 t23 (.bool false) λt24=>K t24 H) (zac .eql false t13 (.int .i64 4) λt26=>zag t26 (zaf 1 t4 λt27=>zae false 1 t27 H λt28=>zac .geq false t28 (.int .i64 0) λt29=>zad t29 true H (λK'=>zaf 1 t4 (K' · H)) λt31 H=>zad t29 true H (λK'=>zae false 1 t31 H (K' · H)) λt32 H=>zad t29 true H (λK'=>K' t2 H) λt33 H=>zad t29 true H (λK'=>zac .lss false t32 t33 (K' · H)) λt34 H=>zam t29 t34 (.bool false) λt35=>zad t35 true H (λK'=>K' t7 H) λt37 H=>zad t35 true H (λK'=>zac .eql false t37 (.int .i64 0) (K' · H)) λt38 H=>zam t35 t38 (.bool false) λt39=>K t39 H) (zac .eql false t13 (.int .i64 5) λt41=>zag t41 (zaf 1 t4 λt42=>zae false 1 t42 H λt43=>zac .lss false t43 (.int .i64 0) λt44=>zad t44 false H (λK'=>zaf 1 t4 (K' · H)) λt46 H=>zad t44 false H (λK'=>zae false 1 t46 H (K' · H)) λt47 H=>zad t44 false H (λK'=>K' t0 H) λt48 H=>zad t44 false H (λK'=>zah 1 t48 (K' · H)) λt49 H=>zad t44 false H (λK'=>zac .geq false t47 t49 (K' · H)) λt50 H=>zam t44 (.bool true) t50 λt51=>zad t51 false H (λK'=>K' t7 H) λt53 H=>zad t51 false H (λK'=>K' t0 H) λt54 H=>zad t51 false H (λK'=>zaf 1 t4 (K' · H)) λt55 H=>zad t51 false H (λK'=>zae false 1 t55 H (K' · H)) λt56 H=>zad t51 false H (λK'=>zaj 3 t54 t56 (K' · H)) λt57 H=>zad t51 false H (λK'=>zaf 1 t57 (K' · H)) λt58 H=>zad t51 false H (λK'=>zae false 1 t58 H (K' · H)) λt59 H=>zad t51 false H (λK'=>zac .neq false t53 t59 (K' · H)) λt60 H=>zam t51 (.bool true) t60 λt61=>zag t61 (K (.bool false) H) (zfd t0 t2 t4 t7 H K)) (zac .eql false t13 (.int .i64 6) λt63=>zag t63 (zaf 1 t4 λt64=>zae false 1 t64 H λt65=>zac .neq false t65 (.int .i64 0) λt66=>zad t66 false H (λK'=>K' t7 H) λt68 H=>zad t66 false H (λK'=>zac .lss false t68 (.int .i64 2) (K' · H)) λt69 H=>zam t66 (.bool true) t69 λt70=>zad t70 false H (λK'=>K' t7 H) λt72 H=>zad t70 false H (λK'=>zac .gtr false t72 (.int .i64 6) (K' · H)) λt73 H=>zam t70 (.bool true) t73 λt74=>zag t74 (K (.bool false) H) (zfd t0 t2 t4 t7 H K)) (zac .eql false t13 (.int .i64 7) λt76=>zag t76 (zef t0 t2 t4 t7 t13 t76 H K) (zac .eql false t13 (.int .i64 8) λt77=>zef t0 t2 t4 t7 t13 t77 H K)))))
def zcI:Prop:=zaq t1 H λt4 H=>zaf 2 t4 λt9=>zae false 1 t9 H λt10=>zah 1 t10 λt11=>zaf 0 t4 λt12=>zae false 1 t12 H λt13=>zac .eql false t13 (.int .i64 1) λt15=>zag t15 (zbZ t0 t2 t4 t11 t13 t15 H K) (zac .eql false t13 (.int .i64 2) λt16=>zag t16 (zbZ t0 t2 t4 t11 t13 t16 H K) (zac .eql false t13 (.int .i64 3) λt17=>zbZ t0 t2 t4 t11 t13 t17 H K))
def zos:Nat→List Bool | 5=>rl false [4,1,3,1,54,3,16] | _=>[]
noncomputable def zvw:Code:=Tryz.f98.body.getD .skip
noncomputable def zXv:List ResultVar:=Tryz.f98.results.toList
def zot:List AV:=ux 4 (t4::ux 3 (t8::ux 54 (t63::t64::t65::ux 16 [])))
def zXt:List Bool:=zos 5
noncomputable def zXr:Code:=zar [1,1,1,0,1,0,0] zvw
def zXq:AExit→List AV→zaa→Prop:=zas tP zos [1,1,1,0,1,0] zvw (zay tP zXv K)
def zou:Prop:=ALoop tP zXr (zXq K) (zot t4 t8 t63 t64 t65) H
def zvv:Prop:=zac .lss false t65 t64 λt66=>zag t66 (zaj 3 t63 t65 λt67=>zae true 3 t67 H λt68=>zav [(.int .i64 0),(.int .i64 0),.snil] H λt10 H=>zan 3 t10 t68 H λH=>zae true 3 t10 H λt69=>zaf 2 t4 λt70=>zae false 1 t70 H λt71=>ACalls tP zjp [t69,t71] H λt72 H=>zav [(.int .i64 0),(.int .i64 0),.snil] H λt11 H=>zan 3 t11 t72 H λH=>zae true 3 t11 H λt73=>ACalls tP zhV [t73] H λt74 H=>zac .gtr false t74 (.int .i64 200) λt75=>zag t75 (zaE [.snil,(.bool false)] (K · H)) (zae true 3 t11 H λt77=>zaw 3 [(.int .i64 0),(.int .i64 0),.snil] 1 [(0,t77)] λt78=>zax za1 3 40 t8 t78 H λt79 H=>zac .add false t65 (.int .i64 1) λt80=>Kb5 (zot t4 t79 t63 t64 t80) H)) (zaE [t8,(.bool true)] (K · H))
def zEO:Prop:=zaq t1 H λt4 H=>zab H (λK'=>zaf 0 t4 (K' · H)) λt12=>zab H (λK'=>zal false 1 t12 H (K' · H)) λt13=>zab H (λK'=>zac .neq false t13 (.int .i64 5) (K' · H)) λt14=>zab H (λK'=>K' t14 H) λt15=>zad t15 false H (λK'=>zab H (λK''=>zaf 1 t4 (K'' · H)) (K' · H)) λt16 H=>zad t15 false H (λK'=>zab H (λK''=>zal false 1 t16 H (K'' · H)) (K' · H)) λt17 H=>zad t15 false H (λK'=>zab H (λK''=>zac .lss false t17 (.int .i64 0) (K'' · H)) (K' · H)) λt18 H=>zab H (λK'=>zam t15 (.bool true) t18 (K' · H)) λt19=>zab H (λK'=>K' t19 H) λt20=>zad t20 false H (λK'=>zab H (λK''=>zaf 1 t4 (K'' · H)) (K' · H)) λt21 H=>zad t20 false H (λK'=>zab H (λK''=>zal false 1 t21 H (K'' · H)) (K' · H)) λt22 H=>zad t20 false H (λK'=>zab H (λK''=>K'' t0 H) (K' · H)) λt23 H=>zad t20 false H (λK'=>zab H (λK''=>zah 1 t23 (K'' · H)) (K' · H)) λt24 H=>zad t20 false H (λK'=>zab H (λK''=>zac .geq false t22 t24 (K'' · H)) (K' · H)) λt25 H=>zab H (λK'=>zam t20 (.bool true) t25 (K' · H)) λt26=>zab H (λK'=>K' t26 H) λt27=>zad t27 false H (λK'=>zab H (λK''=>zaf 2 t4 (K'' · H)) (K' · H)) λt28 H=>zad t27 false H (λK'=>zab H (λK''=>zal false 1 t28 H (K'' · H)) (K' · H)) λt29 H=>zad t27 false H (λK'=>zab H (λK''=>zah 1 t29 (K'' · H)) (K' · H)) λt30 H=>zad t27 false H (λK'=>zab H (λK''=>K'' t0 H) (K' · H)) λt31 H=>zad t27 false H (λK'=>zab H (λK''=>zaf 1 t4 (K'' · H)) (K' · H)) λt32 H=>zad t27 false H (λK'=>zab H (λK''=>zal false 1 t32 H (K'' · H)) (K' · H)) λt33 H=>zad t27 false H (λK'=>zab H (λK''=>zaj 3 t31 t33 (K'' · H)) (K' · H)) λt34 H=>zad t27 false H (λK'=>zab H (λK''=>zaf 1 t34 (K'' · H)) (K' · H)) λt35 H=>zad t27 false H (λK'=>zab H (λK''=>zal false 1 t35 H (K'' · H)) (K' · H)) λt36 H=>zad t27 false H (λK'=>zab H (λK''=>zac .neq false t30 t36 (K'' · H)) (K' · H)) λt37 H=>zab H (λK'=>zam t27 (.bool true) t37 (K' · H)) λt38=>zab H (λK'=>K' t38 H) λt39=>zad t39 false H (λK'=>zab H (λK''=>K'' t2 H) (K' · H)) λt40 H=>zad t39 false H (λK'=>zab H (λK''=>zac .lss false t40 (.int .i64 0) (K'' · H)) (K' · H)) λt41 H=>zab H (λK'=>zam t39 (.bool true) t41 (K' · H)) λt42=>zab H (λK'=>K' t42 H) λt43=>zad t43 false H (λK'=>zab H (λK''=>K'' t2 H) (K' · H)) λt44 H=>zad t43 false H (λK'=>zab H (λK''=>K'' t0 H) (K' · H)) λt45 H=>zad t43 false H (λK'=>zab H (λK''=>zaf 1 t4 (K'' · H)) (K' · H)) λt46 H=>zad t43 false H (λK'=>zab H (λK''=>zal false 1 t46 H (K'' · H)) (K' · H)) λt47 H=>zad t43 false H (λK'=>zab H (λK''=>zaj 3 t45 t47 (K'' · H)) (K' · H)) λt48 H=>zad t43 false H (λK'=>zab H (λK''=>zaf 2 t48 (K'' · H)) (K' · H)) λt49 H=>zad t43 false H (λK'=>zab H (λK''=>zal false 1 t49 H (K'' · H)) (K' · H)) λt50 H=>zad t43 false H (λK'=>zab H (λK''=>zah 1 t50 (K'' · H)) (K' · H)) λt51 H=>zad t43 false H (λK'=>zab H (λK''=>zac .geq false t44 t51 (K'' · H)) (K' · H)) λt52 H=>zab H (λK'=>zam t43 (.bool true) t52 (K' · H)) λt53=>zag t53 (zaE [.snil,(.bool false)] (K · H)) (zaf 1 t4 λt55=>zae false 1 t55 H λt56=>zaj 3 t0 t56 λt57=>zaf 2 t57 λt58=>zae false 1 t58 H λt59=>zaj 2 t59 t2 λt61=>zaf 1 t61 λt62=>zae false 1 t62 H λt63=>zah 1 t63 λt64=>zou t4 .snil t63 t64 (.int .i64 0) H K)
def zlM:Nat→List Bool | 5=>rl false [1,2,1,3,46] | _=>[]
noncomputable def zsy:Code:=Tryz.f146.body.getD .skip
noncomputable def zMZ:List ResultVar:=Tryz.f146.results.toList
def zlN:List AV:=ux 1 (t1::t2::ux 1 (t4::t5::t6::ux 46 []))
def zMX:List Bool:=zlM 5
noncomputable def zMV:Code:=zar [1,1,1,0,1,0,0] zsy
def zMU:AExit→List AV→zaa→Prop:=zas tP zlM [1,1,1,0,1,0] zsy (zay tP zMZ K)
def zsz:Prop:=ALoop tP zMV (zMU K) (zlN t1 t2 t4 t5 t6) H
def zsx:Prop:=zaf 2 t2 λt34=>zae false 1 t34 H λt35=>zah 1 t35 λt36=>zac .lss false t6 t36 λt37=>zag t37 (zab H (λK'=>zaf 2 t5 (K' · H)) λt40=>zab H (λK'=>zal false 1 t40 H (K' · H)) λt41=>zab H (λK'=>zaf 2 t2 (K' · H)) λt42=>zab H (λK'=>zal false 1 t42 H (K' · H)) λt43=>zab H (λK'=>K' t6 H) λt44=>zab H (λK'=>zaj 3 t43 t44 (K' · H)) λt45=>zab H (λK'=>zal true 3 t45 H (K' · H)) λt46=>zab H (λK'=>K' t1 H) λt47=>zaC H (λH K'=>ACalls tP zjp [t46,t47] H K') λt48=>zab H (λK'=>zaw 3 [(.int .i64 0),(.int .i64 0),.snil] 1 [(0,t48)] (K' · H)) λt49=>zax za1 3 40 t41 t49 H λt50 H=>zab H (λK'=>zaf 2 t5 (K' · H)) λt51=>zan 1 t51 t50 H λH=>zac .add false t6 (.int .i64 1) λt39=>Kb5 (zlN t1 t2 t4 t5 t39) H) (zae true 3 t5 H λt52=>zan 3 t4 t52 H λH=>zae true 3 t4 H λr0=>K r0 H)
def zsw:Prop:=zaq t0 H λt2 H=>zav [(.int .i64 0),(.int .i64 0),.snil] H λt4 H=>zaf 0 t2 λt7=>zae false 1 t7 H λt8=>zac .eql false t8 (.int .i64 4) λt9=>zad t9 true H (λK'=>zaf 1 t2 (K' · H)) λt11 H=>zad t9 true H (λK'=>zae false 1 t11 H (K' · H)) λt12 H=>zad t9 true H (λK'=>zac .geq false t12 (.int .i64 0) (K' · H)) λt13 H=>zam t9 t13 (.bool false) λt14=>zad t14 true H (λK'=>zaf 1 t2 (K' · H)) λt16 H=>zad t14 true H (λK'=>zae false 1 t16 H (K' · H)) λt17 H=>zad t14 true H (λK'=>K' t1 H) λt18 H=>zad t14 true H (λK'=>zah 1 t18 (K' · H)) λt19 H=>zad t14 true H (λK'=>zac .lss false t17 t19 (K' · H)) λt20 H=>zam t14 t20 (.bool false) λt21=>zag t21 (zaf 1 t2 λt23=>zae false 1 t23 H λt24=>zaj 3 t1 t24 λt25=>zae true 3 t25 H λt26=>ACalls tP zjE [t26] H λt27 H=>zan 3 t4 t27 H λH=>zae true 3 t4 H λr0=>K r0 H) (zaf 0 t2 λt28=>zae false 1 t28 H λt29=>zaf 1 t2 λt30=>zae false 1 t30 H λt31=>zau [(.int .i64 0),(.int .i64 0),.snil] [(0,1),(1,1),(2,1)] [(0,t29),(1,t31)] λt32=>zav [(.int .i64 0),(.int .i64 0),.snil] H λt5 H=>zan 3 t5 t32 H λH=>zsz t1 t2 t4 t5 (.int .i64 0) H K)
def zmM:Nat→List Bool | 3=>rl false [1,4,24] | _=>[]
noncomputable def ztx:Code:=Tryz.f194.body.getD .skip
noncomputable def zQB:List ResultVar:=Tryz.f194.results.toList
def zmN:List AV:=ux 1 (t1::t2::t3::t4::ux 24 [])
def zQz:List Bool:=zmM 3
noncomputable def zQx:Code:=zar [1,1,0,1,0,0] ztx
def zQw:AExit→List AV→zaa→Prop:=zas tP zmM [1,1,0,1,0] ztx (zay tP zQB K)
def zCp:Prop:=ALoop tP zQx (zQw K) (zmN t1 t2 t3 t4) H
def ztw:Prop:=zaf 2 t1 λt11=>zae false 1 t11 H λt12=>zah 1 t12 λt13=>zac .lss false t4 t13 λt14=>zag t14 (zab H (λK'=>zaf 2 t3 (K' · H)) λt17=>zab H (λK'=>zal false 1 t17 H (K' · H)) λt18=>zab H (λK'=>zaf 2 t1 (K' · H)) λt19=>zab H (λK'=>zal false 1 t19 H (K' · H)) λt20=>zab H (λK'=>K' t4 H) λt21=>zab H (λK'=>zaj 3 t20 t21 (K' · H)) λt22=>zab H (λK'=>zal true 3 t22 H (K' · H)) λt23=>zaC H (λH K'=>ACalls tP zjE [t23] H K') λt24=>zab H (λK'=>zaw 3 [(.int .i64 0),(.int .i64 0),.snil] 1 [(0,t24)] (K' · H)) λt25=>zax za1 3 40 t18 t25 H λt26 H=>zab H (λK'=>zaf 2 t3 (K' · H)) λt27=>zan 1 t27 t26 H λH=>zac .add false t4 (.int .i64 1) λt16=>Kb3 (zmN t1 t2 t3 t16) H) (zae true 3 t3 H λt28=>zan 3 t2 t28 H λH=>zae true 3 t2 H λr0=>K r0 H)
def zCo:Prop:=zaq t0 H λt1 H=>zav [(.int .i64 0),(.int .i64 0),.snil] H λt2 H=>zaf 0 t1 λt5=>zae false 1 t5 H λt6=>zaf 1 t1 λt7=>zae false 1 t7 H λt8=>zau [(.int .i64 0),(.int .i64 0),.snil] [(0,1),(1,1),(2,1)] [(0,t6),(1,t8)] λt9=>zav [(.int .i64 0),(.int .i64 0),.snil] H λt3 H=>zan 3 t3 t9 H λH=>zCp t1 t2 t3 (.int .i64 0) H K
variable {t0 t1 t2 t3 t4 t5 t6 t7 t8 t13 t14 t63 t64 t65 t75} {H} {K} {Kb3 Kb5 Kb24}
theorem zXf (Inv:Nat→AV→zaa→Prop) (n:Nat) (h0:HSc H→Inv n t8 H)
  (ac:Rd1 (λt8=>zop t0 t2 t4 t7 t8) (λt8=>λH Kb24=>zvp t0 t2 t4 t7 t8 H K Kb24) H Inv):zvr t0 t2 t4 t7 t8 H K:=
 lp1 (M:=zoo) zXg t8 (by kernel_rfl) Inv n h0 ac
theorem zXh (h:HSc H→zcI t0 t1 t2 H K):ACalls tP zj7 [t0,t1,t2] H K:=
 acb zoo Tryz.func96 zvq (by kernel_rfl) (by kernel_rfl) h
theorem zXs (Inv:Nat→AV→AV→zaa→Prop) (n:Nat) (h0:HSc H→Inv n t8 t65 H)
  (ac:Rd2 (λt8=>λt65=>zot t4 t8 t63 t64 t65) (λt8=>λt65=>λH Kb5=>zvv t4 t8 t63 t64 t65 H K Kb5) H Inv):zou t4 t8 t63 t64 t65 H K:=
 lp2 (M:=zos) zXt t8 t65 (by kernel_rfl) Inv n h0 ac
theorem zXu (h:HSc H→zEO t0 t1 t2 H K):ACalls tP zhW [t0,t1,t2] H K:=
 acb zos Tryz.func98 zvw (by kernel_rfl) (by kernel_rfl) h
theorem zMW (Inv:Nat→AV→zaa→Prop) (n:Nat) (h0:HSc H→Inv n t6 H)
  (ac:Rd1 (λt6=>zlN t1 t2 t4 t5 t6) (λt6=>λH Kb5=>zsx t1 t2 t4 t5 t6 H K Kb5) H Inv):zsz t1 t2 t4 t5 t6 H K:=
 lp1 (M:=zlM) zMX t6 (by kernel_rfl) Inv n h0 ac
theorem zMY (h:HSc H→zsw t0 t1 H K):ACalls tP zjp [t0,t1] H K:=
 acb zlM Tryz.func146 zsy (by kernel_rfl) (by kernel_rfl) h
theorem zQy (Inv:Nat→AV→zaa→Prop) (n:Nat) (h0:HSc H→Inv n t4 H)
  (ac:Rd1 (λt4=>zmN t1 t2 t3 t4) (λt4=>λH Kb3=>ztw t1 t2 t3 t4 H K Kb3) H Inv):zCp t1 t2 t3 t4 H K:=
 lp1 (M:=zmM) zQz t4 (by kernel_rfl) Inv n h0 ac
theorem zQA (h:HSc H→zCo t0 H K):ACalls tP zjE [t0] H K:=
 acb zmM Tryz.func194 ztx (by kernel_rfl) (by kernel_rfl) h
end
section
variable (t0 t1 t2 t3 t7 t8 t9 t47 t48 t49 t78 t79 t80:AV) (H:zaa) (K:Kt) (Kb4 Kb6 Kb10:Lt)
def zfS:Nat→List Bool | 6=>rl false [0,2,6,1,38,3,56] | 10=>rl false [0,2,6,2,37,3,28,3,25] | _=>[]
noncomputable def ztc:Code:=Tryz.f168.body.getD .skip
noncomputable def zPi:List ResultVar:=Tryz.f168.results.toList
def zmo:List AV:=t0::t1::ux 6 (t8::ux 38 (t47::t48::t49::ux 56 []))
def zB3:List Bool:=zfS 6
noncomputable def ztd:Code:=zar [1,1,1,1,0,1,0,0] ztc
def zB1:AExit→List AV→zaa→Prop:=zas tP zfS [1,1,1,1,0,1,0] ztc (zay tP zPi K)
def zB2:Prop:=ALoop tP ztd (zB1 K) (zmo t0 t1 t8 t47 t48 t49) H
def zmn:List AV:=t0::t1::ux 6 (t8::t9::ux 37 (t47::t48::t49::ux 28 (t78::t79::t80::ux 25 [])))
def zPg:List Bool:=zfS 10
noncomputable def zPd:Code:=zar [1,1,0,0,1,1,1,0,0] ztd
def zPc:AExit→List AV→zaa→Prop:=zas tP zfS [1,1,0,0,1,1,1,0] ztd (zbV zB3 Kb6 (zB1 K))
def ztf:Prop:=ALoop tP zPd (zPc K Kb6) (zmn t0 t1 t8 t9 t47 t48 t49 t78 t79 t80) H
def zte (t0 t1 t8 t9 t47 t48 t49 t78 t79 t80:AV) (H:zaa) (K:Kt) (Kb6:Lt) (Kb10:Lt):Prop:=zac .add false t80 (.int .i64 1) λt103=>Kb10 (zmn t0 t1 t8 t9 t47 t48 t49 t78 t79 t103) H
def zgO:Prop:=zte t0 t1 t8 t9 t47 t48 t49 t78 t79 t80 H K Kb6 Kb10
def zgN:Prop:=zac .lss false t80 t79 λt81=>zag t81 (zaj 3 t78 t80 λt83=>zae true 3 t83 H λt84=>zav [(.int .i64 0),(.int .i64 0),.snil] H λt12 H=>zan 3 t12 t84 H λH=>zaf 0 t12 λt85=>zae false 1 t85 H λt86=>zac .neq false t86 (.int .i64 4) λt87=>zad t87 false H (λK'=>zaf 1 t12 (K' · H)) λt89 H=>zad t87 false H (λK'=>zae false 1 t89 H (K' · H)) λt90 H=>zad t87 false H (λK'=>K' t80 H) λt91 H=>zad t87 false H (λK'=>zac .neq false t90 t91 (K' · H)) λt92 H=>zam t87 (.bool true) t92 λt93=>zad t93 false H (λK'=>zaf 2 t12 (K' · H)) λt95 H=>zad t93 false H (λK'=>zae false 1 t95 H (K' · H)) λt96 H=>zad t93 false H (λK'=>zah 1 t96 (K' · H)) λt97 H=>zad t93 false H (λK'=>zac .gtr false t97 (.int .i64 0) (K' · H)) λt98 H=>zam t93 (.bool true) t98 λt99=>zag t99 (zaj 1 t8 t9 λt102=>zan 1 t102 (.bool false) H λH=>zgO t0 t1 t8 t9 t47 t48 t49 t78 t79 t80 H K Kb6 Kb10) (zgO t0 t1 t8 t9 t47 t48 t49 t78 t79 t80 H K Kb6 Kb10)) (zac .add false t49 (.int .i64 1) λt104=>Kb6 (zmo t0 t1 t8 t47 t48 t104) H)
def zit:Prop:=zac .lss false t49 t48 λt50=>zag t50 (zaj 3 t47 t49 λt52=>zae true 3 t52 H λt53=>zav [(.int .i64 0),(.int .i64 0),.snil] H λt10 H=>zan 3 t10 t53 H λH=>zab H (λK'=>K' t8 H) λt54=>zab H (λK'=>K' t49 H) λt55=>zab H (λK'=>zaf 0 t10 (K' · H)) λt56=>zab H (λK'=>zal false 1 t56 H (K' · H)) λt57=>zab H (λK'=>zac .eql false t57 (.int .i64 5) (K' · H)) λt58=>zab H (λK'=>K' t58 H) λt59=>zad t59 true H (λK'=>zab H (λK''=>zaf 1 t10 (K'' · H)) (K' · H)) λt60 H=>zad t59 true H (λK'=>zab H (λK''=>zal false 1 t60 H (K'' · H)) (K' · H)) λt61 H=>zad t59 true H (λK'=>zab H (λK''=>K'' t1 H) (K' · H)) λt62 H=>zad t59 true H (λK'=>zab H (λK''=>zac .eql false t61 t62 (K'' · H)) (K' · H)) λt63 H=>zab H (λK'=>zam t59 t63 (.bool false) (K' · H)) λt64=>zab H (λK'=>K' t64 H) λt65=>zad t65 true H (λK'=>zab H (λK''=>zaf 2 t10 (K'' · H)) (K' · H)) λt66 H=>zad t65 true H (λK'=>zab H (λK''=>zal false 1 t66 H (K'' · H)) (K' · H)) λt67 H=>zad t65 true H (λK'=>zab H (λK''=>zah 1 t67 (K'' · H)) (K' · H)) λt68 H=>zad t65 true H (λK'=>zab H (λK''=>K'' t0 H) (K' · H)) λt69 H=>zad t65 true H (λK'=>zab H (λK''=>K'' t1 H) (K' · H)) λt70 H=>zad t65 true H (λK'=>zab H (λK''=>zaj 3 t69 t70 (K'' · H)) (K' · H)) λt71 H=>zad t65 true H (λK'=>zab H (λK''=>zaf 1 t71 (K'' · H)) (K' · H)) λt72 H=>zad t65 true H (λK'=>zab H (λK''=>zal false 1 t72 H (K'' · H)) (K' · H)) λt73 H=>zad t65 true H (λK'=>zab H (λK''=>zac .eql false t68 t73 (K'' · H)) (K' · H)) λt74 H=>zab H (λK'=>zam t65 t74 (.bool false) (K' · H)) λt75=>zab H (λK'=>zaj 1 t54 t55 (K' · H)) λt76=>zan 1 t76 t75 H λH=>zaf 2 t10 λt77=>zae false 1 t77 H λt78=>zah 1 t78 λt79=>ztf t0 t1 t8 t49 t47 t48 t49 t78 t79 (.int .i64 0) H K Kb6) (K t8 H)
def zB0:Prop:=zac .lss false t1 (.int .i64 0) λt14=>zad t14 false H (λK'=>K' t1 H) λt16 H=>zad t14 false H (λK'=>K' t0 H) λt17 H=>zad t14 false H (λK'=>zah 1 t17 (K' · H)) λt18 H=>zad t14 false H (λK'=>zac .geq false t16 t18 (K' · H)) λt19 H=>zam t14 (.bool true) t19 λt20=>zad t20 false H (λK'=>K' t2 H) λt22 H=>zad t20 false H (λK'=>zac .lss false t22 (.int .i64 0) (K' · H)) λt23 H=>zam t20 (.bool true) t23 λt24=>zad t24 false H (λK'=>K' t2 H) λt26 H=>zad t24 false H (λK'=>K' t0 H) λt27 H=>zad t24 false H (λK'=>K' t1 H) λt28 H=>zad t24 false H (λK'=>zaj 3 t27 t28 (K' · H)) λt29 H=>zad t24 false H (λK'=>zaf 2 t29 (K' · H)) λt30 H=>zad t24 false H (λK'=>zae false 1 t30 H (K' · H)) λt31 H=>zad t24 false H (λK'=>zah 1 t31 (K' · H)) λt32 H=>zad t24 false H (λK'=>zac .geq false t26 t32 (K' · H)) λt33 H=>zam t24 (.bool true) t33 λt34=>zag t34 (K .snil H) (zaj 3 t0 t1 λt37=>zaf 2 t37 λt38=>zae false 1 t38 H λt39=>zaj 2 t39 t2 λt41=>zaf 1 t41 λt42=>zae false 1 t42 H λt43=>zah 1 t43 λt45=>zba 1 [(.bool false)] t45 t45 H λt46 H=>zah 1 t43 λt48=>zB2 t0 t1 t46 t43 t48 (.int .i64 0) H K)
def zSe (_:Nat):List Bool:=[]
noncomputable def zSf:Code:=Tryz.f228.body.getD .skip
def zCV:Prop:=zaq t0 H λt2 H=>zaq t1 H λt3 H=>zaf 0 t2 λt5=>zae false 1 t5 H λt6=>zac .eql false t6 (.int .i64 5) λt7=>zad t7 true H (λK'=>zaf 1 t2 (K' · H)) λt9 H=>zad t7 true H (λK'=>zae false 1 t9 H (K' · H)) λt10 H=>zad t7 true H (λK'=>zae false 1 t3 H (K' · H)) λt11 H=>zad t7 true H (λK'=>zac .eql false t10 t11 (K' · H)) λt12 H=>zam t7 t12 (.bool false) λt13=>zad t13 false H (λK'=>zaf 2 t2 (K' · H)) λt15 H=>zad t13 false H (λK'=>zae false 1 t15 H (K' · H)) λt16 H=>zad t13 false H (λK'=>zcD zjM [t3] (K' · H)) λt17 H=>zad t13 false H (λK'=>ACalls tP zfy [t16,t17] H K') λt18 H=>zam t13 (.bool true) t18 λt19=>K t19 H
def zSB (_:Nat):List Bool:=[]
noncomputable def zSC:Code:=Tryz.f247.body.getD .skip
def zC0:Prop:=zaq t0 H λt2 H=>zae true 3 t2 H λt4=>zae false 1 t1 H λt5=>ACalls tP zjL [t4,t5] H λt6 H=>K t6 H
def zoi:Nat→List Bool | 4=>rl false [3,1,3,1,50] | _=>[]
noncomputable def zvi:Code:=Tryz.f93.body.getD .skip
noncomputable def zWY:List ResultVar:=Tryz.f93.results.toList
def zoj:List AV:=ux 3 (t3::ux 3 (t7::ux 50 []))
def zWW:List Bool:=zoi 4
noncomputable def zWU:Code:=zar [1,1,0,1,0,0] zvi
def zWT:AExit→List AV→zaa→Prop:=zas tP zoi [1,1,0,1,0] zvi (zay tP zWY K)
def zED:Prop:=ALoop tP zWU (zWT K) (zoj t3 t7) H
def zgV:Prop:=zaf 2 t3 λt25=>zae false 1 t25 H λt26=>zah 1 t26 λt27=>zac .lss false t7 t27 λt28=>zag t28 (zaf 2 t3 λt31=>zae false 1 t31 H λt32=>zaj 3 t32 t7 λt34=>zaf 0 t34 λt35=>zae false 1 t35 H λt36=>zac .neq false t36 (.int .i64 4) λt37=>zad t37 false H (λK'=>zaf 2 t3 (K' · H)) λt39 H=>zad t37 false H (λK'=>zae false 1 t39 H (K' · H)) λt40 H=>zad t37 false H (λK'=>K' t7 H) λt41 H=>zad t37 false H (λK'=>zaj 3 t40 t41 (K' · H)) λt42 H=>zad t37 false H (λK'=>zaf 1 t42 (K' · H)) λt43 H=>zad t37 false H (λK'=>zae false 1 t43 H (K' · H)) λt44 H=>zad t37 false H (λK'=>K' t7 H) λt45 H=>zad t37 false H (λK'=>zac .neq false t44 t45 (K' · H)) λt46 H=>zam t37 (.bool true) t46 λt47=>zad t47 false H (λK'=>zaf 2 t3 (K' · H)) λt49 H=>zad t47 false H (λK'=>zae false 1 t49 H (K' · H)) λt50 H=>zad t47 false H (λK'=>K' t7 H) λt51 H=>zad t47 false H (λK'=>zaj 3 t50 t51 (K' · H)) λt52 H=>zad t47 false H (λK'=>zaf 2 t52 (K' · H)) λt53 H=>zad t47 false H (λK'=>zae false 1 t53 H (K' · H)) λt54 H=>zad t47 false H (λK'=>zah 1 t54 (K' · H)) λt55 H=>zad t47 false H (λK'=>zac .gtr false t55 (.int .i64 0) (K' · H)) λt56 H=>zam t47 (.bool true) t56 λt57=>zag t57 (K (.bool false) H) (zac .add false t7 (.int .i64 1) λt30=>Kb4 (zoj t3 t30) H)) (K (.bool true) H)
def zEC:Prop:=zaq t0 H λt3 H=>zaf 0 t3 λt8=>zae false 1 t8 H λt9=>zac .neq false t9 (.int .i64 5) λt10=>zad t10 false H (λK'=>zaf 1 t3 (K' · H)) λt12 H=>zad t10 false H (λK'=>zae false 1 t12 H (K' · H)) λt13 H=>zad t10 false H (λK'=>K' t1 H) λt14 H=>zad t10 false H (λK'=>zac .neq false t13 t14 (K' · H)) λt15 H=>zam t10 (.bool true) t15 λt16=>zad t16 false H (λK'=>zaf 2 t3 (K' · H)) λt18 H=>zad t16 false H (λK'=>zae false 1 t18 H (K' · H)) λt19 H=>zad t16 false H (λK'=>zah 1 t19 (K' · H)) λt20 H=>zad t16 false H (λK'=>K' t2 H) λt21 H=>zad t16 false H (λK'=>zac .neq false t20 t21 (K' · H)) λt22 H=>zam t16 (.bool true) t22 λt23=>zag t23 (K (.bool false) H) (zED t3 (.int .i64 0) H K)
variable {t0 t1 t2 t3 t7 t8 t9 t47 t48 t49 t78 t79 t80} {H} {K} {Kb4 Kb6 Kb10}
theorem zPe (Inv:Nat→AV→zaa→Prop) (n:Nat) (h0:HSc H→Inv n t80 H)
  (ac:Rd1 (λt80=>zmn t0 t1 t8 t9 t47 t48 t49 t78 t79 t80) (λt80=>λH Kb10=>zgN t0 t1 t8 t9 t47 t48 t49 t78 t79 t80 H K Kb6 Kb10) H Inv):ztf t0 t1 t8 t9 t47 t48 t49 t78 t79 t80 H K Kb6:=
 lp1 (M:=zfS) zPg t80 (by kernel_rfl) Inv n h0 ac
theorem zPf (Inv:Nat→AV→zaa→Prop) (n:Nat) (h0:HSc H→Inv n t49 H)
  (ac:Rd1 (λt49=>zmo t0 t1 t8 t47 t48 t49) (λt49=>λH Kb6=>zit t0 t1 t8 t47 t48 t49 H K Kb6) H Inv):zB2 t0 t1 t8 t47 t48 t49 H K:=
 lp1 (M:=zfS) zB3 t49 (by kernel_rfl) Inv n h0 ac
theorem zPh (h:HSc H→zB0 t0 t1 t2 H K):ACalls tP zfw [t0,t1,t2] H K:=
 acb zfS Tryz.func168 ztc (by kernel_rfl) (by kernel_rfl) h
theorem zSg (h:HSc H→zCV t0 t1 H K):ACalls tP zjL [t0,t1] H K:=
 acb zSe Tryz.func228 zSf (by kernel_rfl) (by kernel_rfl) h
theorem zSD (h:HSc H→zC0 t0 t1 H K):ACalls tP zjM [t0,t1] H K:=
 acb zSB Tryz.func247 zSC (by kernel_rfl) (by kernel_rfl) h
theorem zWV (Inv:Nat→AV→zaa→Prop) (n:Nat) (h0:HSc H→Inv n t7 H)
  (ac:Rd1 (λt7=>zoj t3 t7) (λt7=>λH Kb4=>zgV t3 t7 H K Kb4) H Inv):zED t3 t7 H K:=
 lp1 (M:=zoi) zWW t7 (by kernel_rfl) Inv n h0 ac
theorem zWX (h:HSc H→zEC t0 t1 t2 H K):ACalls tP zj6 [t0,t1,t2] H K:=
 acb zoi Tryz.func93 zvi (by kernel_rfl) (by kernel_rfl) h
end
end Go.Proofs.YtdmamdnkcefmmaaGreatDoor
section


end
namespace Go.Proofs.YtdmamdnkcefmmaaGreatDoor
open Go Go.Abs
theorem zD9:∀ (m:Nat) (v:VT),v.nodes≤m→∀ (left:Int),left≤1000000→-1≤left→∀ (H:zaa) (id:Nat),H[id]?=some (.cells [.int .i64 left])→∀ (K:AV→zaa→Prop),
  ((v.nodes:Int)≤left→K (.bool true) (H.set id (.cells [.int .i64 (left-v.nodes)])))→(¬ (v.nodes:Int)≤left→∀ l',K (.bool false) (H.set id (.cells [.int .i64 l']))) →
  ACalls tP zhS [.agg v.cs,.ptr id 0] H K:=by
 intro m;induction m with
 | zero=>intro v h;have:=v.nodes_pos;omega
 | succ m ih=>
  intro v hv left dR cM H id ar K hK hF;obtain⟨k,n,ks⟩:=v;have ap:=zbi ar;have cy:(VT.mk k n ks).nodes=VT.nodesL ks+1:=by simp[VT.nodes]
  refine ACalls.out (zVD λhs=>?_);have aC:(H++[AB.cells [.int .i64 k,.int .i64 n,.sl (VT.css ks) .none]])[id]?=some (.cells [.int .i64 left]):=zby ar;have bad:(¬ ((VT.mk k n ks).nodes:Int)≤left)→∀ l' H',H'=H.set id (.cells [.int .i64 l'])++[.cells [.int .i64 k,.int .i64 n,.sl (VT.css ks) .none]]→Out H.length K (.bool false) H':=by intro h l' H' he;exact Out.bool he (by simp) (hs.set rfl) (hF h l')
  simp[zD7,VT.cs,aC,AV.known];rw[zat (by omega) (by omega),zcw _ ar,zby (zb8 _ ar)];by_cases h0:left-1<0
  ·simp[h0];exact bad (by omega) _ _ rfl
  ·simp[h0];refine zVB (Inv:=λq t5 H'=>∃ i:Nat,i≤ks.length∧q=ks.length-i∧t5=.int .i64 i∧((VT.nodesL (ks.take i):Int)+1≤left)∧H'=H.set id (.cells [.int .i64 (left-1-VT.nodesL (ks.take i))])++[.cells [.int .i64 k,.int .i64 n,.sl (VT.css ks) .none]]) ks.length ?_ ?_
   ·intro _;exact⟨0,by omega,by omega,rfl,by simp[VT.nodesL];omega,by simp[VT.nodesL]⟩
   ·rintro q t5 H' ⟨i,hi,rfl,rfl,hb,rfl⟩ hsc aq aO Kb aw;by_cases bj:i<ks.length
    ·have bk:=VT.kid_lt (k:=k) (n:=n) bj;have h1:=VT.nodesL_take bj;have h2:=VT.nodesL_take_le ks (i+1);have bq:=VT.len_le (ks.take i);simp only[List.length_take]at bq;have cG:(H.set id (.cells [.int .i64 (left-1-VT.nodesL (ks.take i))])++[AB.cells [.int .i64 k,.int .i64 n,.sl (VT.css ks) .none]])[id]?=some (.cells [.int .i64 (left-1-VT.nodesL (ks.take i))]):=zby (zb8 _ ar);simp[zu0,bj];refine ih ks[i] (by omega) (left-1-VT.nodesL (ks.take i)) (by omega) (by omega) _ id cG _ ?_ ?_
     ·intro aQ;rw[zcw _ (zb8 _ ar),List.set_set];simp;rw[zat (by omega) (by omega)];refine aw _ _ ⟨ks.length-(i+1),by omega,Back.here (by simp) ((hs.set rfl).snoc rfl) ?_ ⟨_,rfl,i+1,by omega,rfl,by simp,by omega,?_⟩⟩
      ·simp[zn2,AV.sc,AV.scV,AV.scA,AV.scB];omega
      ·rw[h1];congr 5;omega
     ·intro aQ l';rw[zcw _ (zb8 _ ar),List.set_set];simp;exact bad (by omega) _ _ rfl
    ·obtain rfl:i=ks.length:=by omega
     rw[List.take_length]at hb ⊢;simp[zu0];refine Out.bool rfl (by simp) (hs.set rfl) ?_;have:=hK (by omega);rw[cy]at this;rw[show left-1-(VT.nodesL ks:Int)=left-((VT.nodesL ks+1:Nat):Int) by omega];exact this
theorem zTt (v:VT) (H:zaa) (K:AV→zaa→Prop) (hK:∀ b,(b=true→v.nodes≤250)→K (.bool b) H):ACalls tP zqq [.agg v.cs] H K:=by
 refine ACalls.out (zTs λhs=>?_);simp[zDk,AV.known];refine zD9 _ v (Nat.le_refl _) 250 (by omega) (by omega) _ (H.length+1) (by simp) _ ?_ ?_
 ·intro h;exact Out.bool (J:=[_,_]) (by simp;exact⟨rfl,rfl⟩) (Nat.le_refl _) hs (hK true λ_=>by omega)
 ·intro h l';exact Out.bool (J:=[_,_]) (by simp;exact⟨rfl,rfl⟩) (Nat.le_refl _) hs (hK false λh=>by cases h)
theorem zEL:∀ (m:Nat) (v:VT),v.nodes≤m→v.nodes≤1000000000→∀ (H:zaa) (K:AV→zaa→Prop),K (.int .i64 v.nodes) H→ACalls tP zhV [.agg v.cs] H K:=by
 intro m;induction m with
 | zero=>intro v h;have:=v.nodes_pos;omega
 | succ m ih=>
  intro v hv hb H K hK;obtain⟨k,n,ks⟩:=v;have bS:VT.nodesL ks+1≤1000000000:=by simpa[VT.nodes]using hb
  have bq:=VT.len_le ks;refine ACalls.out (zXb λhs=>?_);simp[VT.cs,zEJ];refine zW9 (Inv:=λq t3 t4 H'=>∃ i:Nat,i≤ks.length∧q=ks.length-i∧t4=.int .i64 i∧t3=.int .i64 (1+VT.nodesL (ks.take i):Nat)∧H'=H++[.cells [.int .i64 k,.int .i64 n,.sl (VT.css ks) .none]]) ks.length ?_ ?_
  ·intro _;exact⟨0,by omega,by omega,rfl,by simp[VT.nodesL],rfl⟩
  ·rintro q t3 t4 H' ⟨i,hi,rfl,rfl,rfl,rfl⟩ hsc aq aO Kb aw;by_cases ap:i<ks.length
   ·have bk:=VT.kid_lt (k:=k) (n:=n) ap;have h1:=VT.nodesL_take ap;have h2:=VT.nodesL_take_le ks (i+1);simp[zvn,ap];refine ih ks[i] (by omega) (by omega) _ _ ?_;simp;rw[zat (by omega) (by omega),zat (by omega) (by omega)];refine aw _ _ ⟨ks.length-(i+1),by omega,Back.here (by simp) hsc ?_ ⟨_,_,rfl,i+1,by omega,rfl,by simp,?_,rfl⟩⟩
    ·simp[zon,AV.sc,AV.scV,AV.scA,AV.scB]
    ·rw[h1];congr 1;omega
   ·obtain rfl:i=ks.length:=by omega
    simp[zvn];refine Out.int rfl (Nat.le_refl _) hs ?_;simpa[VT.nodes,Int.add_comm]using hK
theorem zXj (aa:List Dat) (iF:aa.length≤1000000) (vars:Int):∀ (m:Nat) (v:VT),v.nodes≤m→v.nodes≤1000000000→∀ (H:zaa) (K:AV→zaa→Prop),K (.bool (za5 aa vars v)) H→ACalls tP zj7 [.sl (aa.map Dat.cs) .none,.agg v.cs,.int .i64 vars] H K:=by
 intro m;induction m with
 | zero=>intro v h;have:=v.nodes_pos;omega
 | succ m ih=>
  intro v hv hb H K hK;obtain⟨k,n,ks⟩:=v;have bS:VT.nodesL ks+1≤1000000000:=by simpa[VT.nodes]using hb
  have bq:=VT.len_le ks;refine ACalls.out (zXh λhs=>?_);have hO:∀ J,Out H.length K (.bool (zbj aa vars k n ks.length && zbh aa vars ks)) (H++J):=λJ=>Out.bool rfl (Nat.le_refl _) hs (by simpa[za5]using hK);have hF:zbj aa vars k n ks.length=false→∀ J,Out H.length K (.bool false) (H++J):=λh J=>by have:=hO J;rwa [h,Bool.false_and]at this
  have loop:zbj aa vars k n ks.length=true→zvr (.sl (aa.map Dat.cs) .none) (.int .i64 vars) (.ptr H.length 0) (.int .i64 ks.length) (.int .i64 0) (H++[.cells [.int .i64 k,.int .i64 n,.sl (VT.css ks) .none]]) (Out H.length K):=by
   intro aV;rw[aV]at hO;simp only[Bool.true_and]at hO;refine zXf (Inv:=λq t8 H'=>∃ i:Nat,i≤ks.length∧q=ks.length-i∧t8=.int .i64 i∧zbh aa vars (ks.drop i)=zbh aa vars ks∧H'=H++[.cells [.int .i64 k,.int .i64 n,.sl (VT.css ks) .none]]) ks.length ?_ ?_
   ·intro _;exact⟨0,by omega,by omega,rfl,by simp,rfl⟩
   ·rintro q t8 H' ⟨i,hi,rfl,rfl,ho,rfl⟩ hsc aq aO Kb aw;by_cases ap:i<ks.length
    ·have bk:=VT.kid_lt (k:=k) (n:=n) ap;rw[List.drop_eq_getElem_cons ap,zbh]at ho;simp[zvp,ap];refine ih ks[i] (by omega) (by omega) _ _ ?_;cases hb:za5 aa vars ks[i] with
     | false=>rw[hb,Bool.false_and]at ho;rw[←ho]at hO;simp;exact hO _
     | true=>rw[hb,Bool.true_and]at ho;simp;rw[zat (by omega) (by omega)];refine aw _ _ ⟨ks.length-(i+1),by omega,Back.here (by simp) hsc ?_ ⟨_,rfl,i+1,by omega,rfl,by simp,ho,rfl⟩⟩;simp[zop,AV.sc,AV.scV,AV.scA,AV.scB]
    ·obtain rfl:i=ks.length:=by omega
     rw[List.drop_length,zbh]at ho;rw[←ho]at hO;simp[zvp];exact hO _
  have prim:(k=1∨k=2∨k=3)→Out H.length K (.bool (n == 0 && ks.length == 0)) (H++[.cells [.int .i64 k,.int .i64 n,.sl (VT.css ks) .none]]):=by
   intro h;have aV:zbj aa vars k n ks.length=(n == 0 && ks.length == 0):=by rcases h with rfl | rfl | rfl <;> rfl
   have:=hO [.cells [.int .i64 k,.int .i64 n,.sl (VT.css ks) .none]];rw[aV]at this;cases ks with
   | nil=>simpa[zbh]using this
   | cons x l=>simpa using this
  by_cases fx:k=1∨k=2∨k=3
  ·have:=prim fx;cases hn:(n == 0) with
   | false=>rw[hn,Bool.false_and]at this;rcases fx with rfl | rfl | rfl <;> simp[zcI,VT.cs,zbZ,hn] <;> exact this
   | true=>
    rw[hn,Bool.true_and]at this;have e:((ks.length:Int) == 0)=(ks.length == 0):=by rw[Bool.eq_iff_iff];simp
    rw[←e]at this;rcases fx with rfl | rfl | rfl <;> simp only[zcI,VT.cs] <;> simp[zbZ,hn] <;> simpa using this
  by_cases h4:k=4
  ·subst h4;have aV:zbj aa vars 4 n ks.length=(decide (0≤n) && decide (n<vars) && ks.length == 0):=rfl;have lj:∀ J,Out H.length K (.bool (decide (0≤n) && decide (n<vars) && ks.length == 0)) (H++J):=λJ=>by
    have:=hO J;rw[aV]at this;cases ks with
    | nil=>simpa[zbh]using this
    | cons x l=>simpa using this
   have e:((ks.length:Int) == 0)=(ks.length == 0):=by rw[Bool.eq_iff_iff];simp
   rw[←e]at lj;by_cases g1:0≤n
   ·by_cases g2:n<vars
    ·simp only[zcI,VT.cs];simp[zbZ,g1,g2];simpa[g1,g2]using lj _
    ·simp only[zcI,VT.cs];simp[zbZ,g1,g2];simpa[g1,g2]using lj _
   ·simp only[zcI,VT.cs];simp[zbZ,g1];simpa[g1]using lj _
  by_cases h5:k=5
  ·subst h5;have aV:zbj aa vars 5 n ks.length=(decide (0≤n) && (match aa[n.toNat]? with | some d=>(ks.length:Int) == d.vars | none=>false)):=rfl;by_cases g1:0≤n
   ·have g1':¬ n<0:=by omega
    by_cases g2:n<aa.length
    ·have bS:n.toNat<aa.length:=by omega
     have g2':¬ (aa.length:Int)≤n:=by omega
     have a7:(aa.map Dat.cs)[n.toNat]?.getD []=[.str aa[n.toNat].name,.int .i64 aa[n.toNat].vars,.sl (aa[n.toNat].cons.map Con.cs) .none]:=by simp[bS,Dat.cs]
     rw[List.getElem?_eq_getElem bS]at aV;simp only[g1,decide_true,Bool.true_and]at aV;cases hv:((ks.length:Int) == aa[n.toNat].vars) with
     | false=>
      rw[hv]at aV;have bN:((ks.length:Int) != aa[n.toNat].vars)=true:=by simp[bne,hv]
      simp only[zcI,VT.cs];simp[zbZ,g1',g2',g1,g2,bS,Dat.cs,bN];exact hF aV _
     | true=>
      rw[hv]at aV;have bN:((ks.length:Int) != aa[n.toNat].vars)=false:=by simp[bne,hv]
      simp only[zcI,VT.cs];simp[zbZ,g1',g2',g1,g2,bS,Dat.cs,bN,zfd,ziN];exact loop aV
    ·have g2':(aa.length:Int)≤n:=by omega
     rw[List.getElem?_eq_none (by omega)]at aV;simp only[zcI,VT.cs];simp[zbZ,g1',g2'];exact hF (by rw[aV];simp) _
   ·have g1':n<0:=by omega
    simp only[zcI,VT.cs];simp[zbZ,g1'];exact hF (by rw[aV];simp[g1]) _
  by_cases h6:k=6
  ·subst h6;have aV:zbj aa vars 6 n ks.length=(n == 0 && decide (2≤ks.length) && decide (ks.length≤6)):=rfl;simp only[zcI,VT.cs];cases hn:(n == 0) with
   | false=>
    have:(n != 0)=true:=by simp[bne,hn]
    simp[zbZ,this];exact hF (by rw[aV,hn];rfl) _
   | true=>
    have bB:(n != 0)=false:=by simp[bne,hn]
    by_cases g1:ks.length<2
    ·have:(ks.length:Int)<2:=by omega
     simp[zbZ,bB,this];exact hF (by rw[aV];simp;omega) _
    ·have g1':¬ (ks.length:Int)<2:=by omega
     by_cases g2:6<ks.length
     ·have:(6:Int)<ks.length:=by omega
      simp[zbZ,bB,g1',this];exact hF (by rw[aV];simp;omega) _
     ·have:¬ (6:Int)<ks.length:=by omega
      simp[zbZ,bB,g1',this,zfd,ziN];exact loop (by rw[aV,hn];simp;omega)
  by_cases jc:k=7∨k=8
  ·have aV:zbj aa vars k n ks.length=(n == 0 && ks.length == 1):=by rcases jc with rfl | rfl <;> rfl
   cases hn:(n == 0) with
   | false=>
    have:(n != 0)=true:=by simp[bne,hn]
    have fin:=hF (by rw[aV,hn];rfl);simp only[zcI,VT.cs];rcases jc with rfl | rfl <;> simp[zbZ,zef,this] <;> exact fin _
   | true=>
    have bB:(n != 0)=false:=by simp[bne,hn]
    by_cases g1:ks.length=1
    ·have g1':((ks.length:Int) != 1)=false:=by simp[g1]
     have fin:=loop (by rw[aV,hn,g1];rfl);simp only[zcI,VT.cs];rcases jc with rfl | rfl <;> simp[zbZ,zef,bB,g1',zfd,ziN] <;> exact fin
    ·have g1':((ks.length:Int) != 1)=true:=by simp;omega
     have fin:=hF (by rw[aV];simp[g1]);simp only[zcI,VT.cs];rcases jc with rfl | rfl <;> simp[zbZ,zef,bB,g1'] <;> exact fin _
  have b1:(k == 1)=false:=by simp;omega
  have b2:(k == 2)=false:=by simp;omega
  have b3:(k == 3)=false:=by simp;omega
  have b4:(k == 4)=false:=by simp;omega
  have b5:(k == 5)=false:=by simp;omega
  have b6:(k == 6)=false:=by simp;omega
  have b7:(k == 7)=false:=by simp;omega
  have b8:(k == 8)=false:=by simp;omega
  by_cases h9:k=9
  ·subst h9;have aV:zbj aa vars 9 n ks.length=(n == 0 && decide (1≤ks.length) && decide (ks.length≤7)):=rfl;simp only[zcI,VT.cs];cases hn:(n == 0) with
   | false=>
    have:(n != 0)=true:=by simp[bne,hn]
    simp[zbZ,zef,this];exact hF (by rw[aV,hn];rfl) _
   | true=>
    have bB:(n != 0)=false:=by simp[bne,hn]
    by_cases g1:ks.length<1
    ·have:(ks.length:Int)<1:=by omega
     simp[zbZ,zef,bB,this];exact hF (by rw[aV];simp;omega) _
    ·have g1':¬ (ks.length:Int)<1:=by omega
     by_cases g2:7<ks.length
     ·have:(7:Int)<ks.length:=by omega
      simp[zbZ,zef,bB,g1',this];exact hF (by rw[aV];simp;omega) _
     ·have:¬ (7:Int)<ks.length:=by omega
      simp[zbZ,zef,bB,g1',this,zfd,ziN];exact loop (by rw[aV,hn];simp;omega)
  ·have b9:(k == 9)=false:=by simp;omega
   simp only[zcI,VT.cs];simp[zbZ,zef,b1,b2,b3,b4,b5,b6,b7,b8,b9];exact hF (by unfold zbj;simp[b1,b2,b3,b4,b5,b6,b7,b8,b9]) _
theorem zuC (aa:List Dat) (iF:aa.length≤1000000) (vars:Int) (v:VT) (hb:v.nodes≤1000000000) (H:zaa) (K:AV→zaa→Prop) (hK:K (.bool (zaZ aa vars v)) H):ACalls tP zhO [.sl (aa.map Dat.cs) .none,.agg v.cs,.int .i64 vars] H K:=by
 refine ACalls.out (zUr λhs=>?_);have hO:∀ J,Out H.length K (.bool (zaZ aa vars v)) (H++J):=λJ=>Out.bool rfl (Nat.le_refl _) hs hK;unfold zaZ at hO;simp[zDF];refine zEL _ v (Nat.le_refl _) hb _ _ ?_;by_cases h:v.nodes≤200
 ·have h':(v.nodes:Int)≤200:=by omega
  simp[h'];refine zXj aa iF vars _ v (Nat.le_refl _) hb _ _ ?_;simpa[h]using hO _
 ·have h':¬ (v.nodes:Int)≤200:=by omega
  simp[h'];simpa[h]using hO _
def zb5 (es:List (List AV)) (id:Nat):AV:=match es with | []=>.snil | _=>.sl es (.own id)
def zcW (e s:Nat) (n:Nat):zaa:=match n with | 0=>[] | n=>[.perm e s n]
theorem zFn (es:List (List AV)) (id:Nat):WkA (zb5 es id) (.sl es .none):=by
 cases es with
 | nil=>exact .snil
 | cons e es=>exact .sl _ _
theorem zv0 (es:List (List AV)) {id n:Nat} (h:es=[]∨id<n):(zb5 es id).scA n=true:=by
 cases es with
 | nil=>rfl
 | cons e es=>
  rcases h with h | h
  ·cases h
  ·simpa[zb5,AV.scA,AV.scB]using h
theorem zFm (es:List (List AV)) (id:Nat):(zb5 es id).known=true:=by cases es <;> rfl
theorem zFl (es:List (List AV)) (id:Nat):(zb5 es id).cs?=some [zb5 es id]:=by cases es <;> rfl
theorem zFo {e s bytes:Nat} {es:List (List AV)} {y:List AV} {t:Tok} {H:zaa} {K:AV→zaa→Prop} (hy:y.length=s) (hb:(es.length+1)*bytes≤140737488355328) (hl:es.length+1≤9223372036854775807)
  (hk:K (zb5 (es++[y]) H.length) (H++zcW e s (es.length+1))):zax e s bytes (zb5 es H.length) (.sl [y] t) (H++zcW e s es.length) K:=by
 unfold zax zaN;refine⟨by simpa using hy,?_⟩;cases es with
 | nil=>unfold zaK;simp[zb5,zcW]at *;exact⟨by omega,hk⟩
 | cons x es=>unfold zaK;simp[zb5,zcW]at *;refine⟨⟨by omega,by omega⟩,hk⟩
theorem zv1 {e s bytes id n:Nat} {es:List (List AV)} {y:List AV} {t:Tok} {H0 Hh:zaa} {K:AV→zaa→Prop} (hn:n=es.length) (he:Hh=H0++zcW e s n) (ar:id=H0.length) (hy:y.length=s) (hb:(es.length+1)*bytes≤140737488355328) (hl:es.length+1≤9223372036854775807)
  (hk:K (zb5 (es++[y]) id) (H0++zcW e s (n+1))):zax e s bytes (zb5 es id) (.sl [y] t) Hh K:=by
 subst he ar hn;exact zFo hy hb hl hk
@[simp] theorem yau (es:List (List AV)) (id:Nat):(zb5 es id).cs?=some [zb5 es id]:=zFl es id
@[simp] theorem yav (es:List (List AV)) (id:Nat):(zb5 es id).known=true:=zFm es id
theorem zei {v:VT} {k:AV→Prop}:zaw 3 [.int .i64 0,.int .i64 0,.snil] 1 [(0,.agg v.cs)] k=k (.sl [v.cs] .full):=by cases v;exact propext Iff.rfl
theorem zhe {l:List VT} {i:Nat} (h:i<l.length):VT.css (l.take (i+1))=VT.css (l.take i)++[(l[i]).cs]:=by rw[VT.css_map,VT.css_map,List.take_succ_eq_append_getElem h,List.map_append];rfl
theorem zyk {H J:zaa} {K:AV→zaa→Prop} {k n:Int} {ks:List VT} {id:Nat} (hs:HSc H) (hK:K (.agg (VT.mk k n ks).cs) H):Out H.length K (.agg [.int .i64 k,.int .i64 n,zb5 (VT.css ks) id]) (H++J):=
 Out.at rfl (Nat.le_refl _) hs (WkV.agg (ds:=[.int .i64 k,.int .i64 n,.sl (VT.css ks) .none]) ⟨.refl _,.refl _,zFn _ _,trivial⟩) rfl (by simp[AV.scV,AV.scA,AV.scB]) (by simpa[VT.cs]using hK)
theorem zF4:∀ (m:Nat) (v:VT),v.nodes≤m→v.nodes≤1000000→∀ (H:zaa) (K:AV→zaa→Prop),K (.agg v.cs) H→ACalls tP zjE [.agg v.cs] H K:=by
 intro m;induction m with
 | zero=>intro v h;have:=v.nodes_pos;omega
 | succ m ih=>
  intro v hv hb H K hK;obtain⟨k,n,ks⟩:=v;have bS:VT.nodesL ks+1≤1000000:=by simpa[VT.nodes]using hb
  have bq:=VT.len_le ks;refine ACalls.out (zQA λhs=>?_);simp[VT.cs,zCo,zau,zaL,Nat.add_assoc];refine zQy (Inv:=λq t4 H'=>∃ i:Nat,i≤ks.length∧q=ks.length-i∧t4=.int .i64 i∧H'=H++[.cells [.int .i64 k,.int .i64 n,.sl (VT.css ks) .none],.cells [.int .i64 0,.int .i64 0,.snil],.cells [.int .i64 k,.int .i64 n,zb5 (VT.css (ks.take i)) (H.length+3)]]++zcW za1 3 i) ks.length ?_ ?_
  ·intro _;exact⟨0,by omega,by omega,rfl,by simp[zcW,zb5,VT.css]⟩
  ·rintro q t4 H' ⟨i,hi,rfl,rfl,rfl⟩ hsc aq aO Kb aw;by_cases ap:i<ks.length
   ·have bk:=VT.kid_lt (k:=k) (n:=n) ap;simp[ztw,ap];refine zaB (.agg (ks[i]).cs) (λJ=>ih ks[i] (by omega) (by omega) _ _ ⟨rfl,rfl⟩) ?_;rw[zei];refine zv1 (H0:=H++[.cells [.int .i64 k,.int .i64 n,.sl (VT.css ks) .none],.cells [.int .i64 0,.int .i64 0,.snil],.cells [.int .i64 k,.int .i64 n,zb5 (VT.css (ks.take i)) (H.length+3)]]) (n:=i) (by simp;omega) (by simp) (by simp) (by simp) (by simp;omega) (by simp;omega) ?_;rw[←zhe ap];simp;rw[zat (by omega) (by omega)];refine aw _ _ ⟨ks.length-(i+1),by omega,Back.here (by simp[zcW]) ?_ ?_ ⟨_,rfl,i+1,by omega,rfl,by simp,by simp⟩⟩
    ·refine hs.append ?_;simp[AB.sc,zcW,AV.scA,AV.scB];exact zv0 _ (.inr (by omega))
    ·simp[zmN,AV.sc,AV.scV,AV.scA,AV.scB]
   ·obtain rfl:i=ks.length:=by omega
    rw[List.take_length]at *;simp[ztw];exact zyk hs hK
theorem zez (args:List VT):∀ l:List VT,zaP args l=l.map (subst args)
 | []=>rfl
 | t::ts=>by rw[zaP,zez args ts];rfl
theorem zM0 (args:List VT) (ha:∀ x∈args,x.nodes≤1000000) (eH:args.length≤1000000):∀ (m:Nat) (v:VT),v.nodes≤m→v.nodes≤1000000→∀ (H:zaa) (K:AV→zaa→Prop),K (.agg (subst args v).cs) H→ACalls tP zjp [.agg v.cs,.sl (VT.css args) .none] H K:=by
 intro m;induction m with
 | zero=>intro v h;have:=v.nodes_pos;omega
 | succ m ih=>
  intro v hv hb H K hK;obtain⟨k,n,ks⟩:=v;have bS:VT.nodesL ks+1≤1000000:=by simpa[VT.nodes]using hb
  have bq:=VT.len_le ks;refine ACalls.out (zMY λhs=>?_);by_cases cU:k=4∧0≤n∧n<args.length
  ·obtain⟨rfl,h0,h1⟩:=cU;have hn:n.toNat<args.length:=by omega
   have cQ:K (.agg (args[n.toNat]).cs) H:=by rw[subst,if_pos ⟨rfl,h0,h1⟩,List.getElem?_eq_getElem hn]at hK;exact hK
   simp[VT.cs,zsw,h0,h1,hn];refine zF4 _ _ (Nat.le_refl _) (ha _ (List.getElem_mem hn)) _ _ ?_;generalize args[n.toNat]=x at *;obtain⟨k',n',ks'⟩:=x;simp[VT.cs];exact Out.at rfl (Nat.le_refl _) hs .rfl' rfl rfl cQ
  ·have cQ:K (.agg (VT.mk k n (zaP args ks)).cs) H:=by rw[subst,if_neg cU]at hK;exact hK
   have go:∀ H1,H1=H++[.cells [.int .i64 k,.int .i64 n,.sl (VT.css ks) .none],.cells [.int .i64 0,.int .i64 0,.snil],.cells [.int .i64 k,.int .i64 n,.snil]]→zsz (.sl (VT.css args) .none) (.ptr H.length 0) (.ptr (H.length+1) 0) (.ptr (H.length+2) 0) (.int .i64 0) H1 (Out H.length K):=by
    rintro _ rfl;refine zMW (Inv:=λq t6 H'=>∃ i:Nat,i≤ks.length∧q=ks.length-i∧t6=.int .i64 i∧H'=H++[.cells [.int .i64 k,.int .i64 n,.sl (VT.css ks) .none],.cells [.int .i64 0,.int .i64 0,.snil],.cells [.int .i64 k,.int .i64 n,zb5 (VT.css ((zaP args ks).take i)) (H.length+3)]]++zcW za1 3 i) ks.length ?_ ?_
    ·intro _;exact⟨0,by omega,by omega,rfl,by simp[zcW,zb5,VT.css]⟩
    ·rintro q t6 H' ⟨i,hi,rfl,rfl,rfl⟩ hsc aq aO Kb aw;by_cases ap:i<ks.length
     ·have bk:=VT.kid_lt (k:=k) (n:=n) ap;have aS:i<(zaP args ks).length:=by rw[zez];simpa using ap
      have kx:(zaP args ks)[i]=subst args ks[i]:=by simp[zez]
      simp[zsx,ap];refine zaB (.agg (subst args ks[i]).cs) (λJ=>ih ks[i] (by omega) (by omega) _ _ ⟨rfl,rfl⟩) ?_;rw[zei,←kx];refine zv1 (H0:=H++[.cells [.int .i64 k,.int .i64 n,.sl (VT.css ks) .none],.cells [.int .i64 0,.int .i64 0,.snil],.cells [.int .i64 k,.int .i64 n,zb5 (VT.css ((zaP args ks).take i)) (H.length+3)]]) (n:=i) (by simp;omega) (by simp) (by simp) (by simp) (by simp;omega) (by simp;omega) ?_;rw[←zhe aS];simp;rw[zat (by omega) (by omega)];refine aw _ _ ⟨ks.length-(i+1),by omega,Back.here (by simp[zcW]) ?_ ?_ ⟨_,rfl,i+1,by omega,rfl,by simp,by simp⟩⟩
      ·refine hs.append ?_;simp[AB.sc,zcW,AV.scA,AV.scB];exact zv0 _ (.inr (by omega))
      ·simp[zlN,AV.sc,AV.scV,AV.scA,AV.scB]
     ·obtain rfl:i=ks.length:=by omega
      have e:(zaP args ks).take ks.length=zaP args ks:=List.take_of_length_le (by rw[zez];simp);rw[e];simp[zsx];exact zyk hs cQ
   simp only[VT.cs,zsw];by_cases h4:k=4
   ·subst h4;by_cases h0:0≤n
    ·have h1:¬ n<args.length:=λh=>cU ⟨rfl,h0,h⟩;simp[h0,h1,zau,zaL,Nat.add_assoc];exact go _ rfl
    ·simp[h0,zau,zaL,Nat.add_assoc];exact go _ rfl
   ·have jd:(k == 4)=false:=by simpa using h4
    simp[jd,zau,zaL,Nat.add_assoc];exact go _ rfl
mutual
theorem zzf {args:List VT} {M:Nat} (h1:1≤M) (ha:∀ x∈args,x.nodes≤M):∀ v:VT,(subst args v).nodes≤v.nodes*M
 | .mk k n ks=>by
  unfold subst;split
  ·rename_i h;have hn:n.toNat<args.length:=by omega
   rw[List.getElem?_eq_getElem hn];have:=ha _ (List.getElem_mem hn);have h2:M≤(VT.mk k n ks).nodes*M:=by have:=(VT.mk k n ks).nodes_pos;exact Nat.le_mul_of_pos_left M this
   simp only[Option.getD_some];omega
  ·have:=zzc h1 ha ks;simp only[VT.nodes,Nat.succ_mul];omega
theorem zzc {args:List VT} {M:Nat} (h1:1≤M) (ha:∀ x∈args,x.nodes≤M):∀ l:List VT,VT.nodesL (zaP args l)≤VT.nodesL l*M
 | []=>by simp[zaP,VT.nodesL]
 | t::ts=>by have h2:=zzf h1 ha t;have h3:=zzc h1 ha ts;simp only[zaP,VT.nodesL,Nat.add_mul];omega
end
theorem zhr {k n:Int} {ks:List VT}:∀ x∈ks,x.nodes≤(VT.mk k n ks).nodes:=by intro x hx;obtain⟨i,hi,rfl⟩:=List.mem_iff_getElem.1 hx;exact Nat.le_of_lt (VT.kid_lt hi)
theorem zgi {k n:Int} {ks:List VT}:∀ x∈ks,x.nodes<(VT.mk k n ks).nodes:=by intro x hx;obtain⟨i,hi,rfl⟩:=List.mem_iff_getElem.1 hx;exact VT.kid_lt hi
theorem zzD {H:zaa} {x y:AB}:H++[x,y]=(H++[x])++[y]:=by simp
theorem zc9 (aa:List Dat) (k n:Int) (ks:List VT) (c:Int):za6 aa (.mk k n ks) c=(if k=5∧0≤n∧0≤c then
  match aa[n.toNat]? with
  | some d=>if (ks.length:Int)=d.vars then
    match d.cons[c.toNat]? with
    | some co=>if (co.args.map (subst ks)).all (λx=>decide (x.nodes≤200))=true then some (co.args.map (subst ks)) else none
    | none=>none
   else none
  | none=>none
 else none):=rfl
def zcx (o:Option (List VT)):AV:=match o with
 | some l=>.tup [.sl (VT.css l) .none,.bool true]
 | none=>.tup [.sl [] .none,.bool false]
theorem zxD {α:Type} {l:List α} {i:Nat} (h:i<l.length) {p:α→Prop} (h1:∀ x∈l.take i,p x) (h2:p l[i]):∀ x∈l.take (i+1),p x:=by
 rw[List.take_succ_eq_append_getElem h];intro x hx;rcases List.mem_append.1 hx with hx | hx
 ·exact h1 x hx
 ·simp at hx;subst hx;exact h2
theorem za2 (v:VT):∃ a b c,v.cs=[a,b,c]∧a.known=true∧b.known=true∧c.known=true:=by obtain⟨k,n,ks⟩:=v;exact⟨_,_,_,rfl,rfl,rfl,rfl⟩
theorem zvx (aa:List Dat) (iF:aa.length≤1000000) (mi:∀ d∈aa,∀ c∈d.cons,c.args.length≤1000∧∀ x∈c.args,x.nodes≤1000) (hdc:∀ d∈aa,d.cons.length≤1000000) (t:VT) (ht:t.nodes≤1000) (c:Int) (H:zaa) (K:AV→zaa→Prop) (hK:K (zcx (za6 aa t c)) H) :
  ACalls tP zhW [.sl (aa.map Dat.cs) .none,.agg t.cs,.int .i64 c] H K:=by
 refine ACalls.out (zXu λhs=>?_);obtain⟨k,n,ks⟩:=t;have dm:VT.nodesL ks+1≤1000:=by simpa[VT.nodes]using ht
 have cu:=VT.len_le ks;have hF:za6 aa (.mk k n ks) c=none→∀ J,Out H.length K (.tup [.snil,.bool false]) (H++J):=λh J=>by rw[h]at hK;exact Out.tup hs hK ⟨zdS,zaU rfl rfl,trivial⟩
 have hFF:∀ J,za6 aa (.mk k n ks) c=none→Out H.length K (.tup [.snil,.bool false]) (H++J):=λJ h=>hF h J;simp only[VT.cs,zEO];by_cases h5:k=5;case neg=>
  have:(k != 5)=true:=by simpa using h5
  simp[this,AV.isV];exact hF (by rw[zc9,if_neg (λh=>h5 h.1)]) _
 subst h5;by_cases h0:n<0
 ·simp[h0,AV.isV];exact hF (by rw[zc9,if_neg (λh=>by have:=h.2.1;omega)]) _
 by_cases h1:(aa.length:Int)≤n
 ·simp[h0,h1,AV.isV];exact hF (by
   rw[zc9];split
   ·rw[List.getElem?_eq_none (by omega)]
   ·rfl) _
 have hn:n.toNat<aa.length:=by omega
 have cC:n<aa.length:=by omega
 have fK:0≤n:=by omega
 generalize de:aa[n.toNat]=d at *;have hd:d∈aa:=by rw[←de];exact List.getElem_mem hn
 have aC:aa[n.toNat]?=some d:=by rw[List.getElem?_eq_getElem hn,de]
 cases hv:((ks.length:Int) == d.vars) with
 | false=>
  have bN:((ks.length:Int) != d.vars)=true:=by simp[bne,hv]
  simp[h0,h1,fK,cC,hn,de,Dat.cs,bN,AV.isV,aC];exact hF (by
   rw[zc9];split
   ·rw[aC];simp only;rw[if_neg (by simpa using hv)]
   ·rfl) _
 | true=>
 have bN:((ks.length:Int) != d.vars)=false:=by simp[bne,hv]
 have mj:(ks.length:Int)=d.vars:=by simpa using hv
 by_cases dW:c<0
 ·simp[h0,h1,fK,cC,hn,de,Dat.cs,bN,AV.isV,aC,dW];exact hF (by rw[zc9,if_neg (λh=>by have:=h.2.2;omega)]) _
 have eA:∀ o,(match d.cons[c.toNat]? with | some k=>if (k.args.map (subst ks)).all (λx=>decide (x.nodes≤200))=true then some (k.args.map (subst ks)) else none | none=>none)=o→za6 aa (.mk 5 n ks) c=o:=λo h=>by rw[zc9,if_pos ⟨rfl,fK,by omega⟩,aC];simp only;rw[if_pos mj];exact h
 by_cases bL:(d.cons.length:Int)≤c
 ·simp[h0,h1,fK,cC,hn,de,Dat.cs,bN,AV.isV,aC,dW,bL];exact hF (eA none (by rw[List.getElem?_eq_none (by omega)])) _
 have cx:c.toNat<d.cons.length:=by omega
 have bT:c<d.cons.length:=by omega
 have fZ:0≤c:=by omega
 generalize bR:d.cons[c.toNat]=co at *;have dM:co∈d.cons:=by rw[←bR];exact List.getElem_mem cx
 have jU:d.cons[c.toNat]?=some co:=by rw[List.getElem?_eq_getElem cx,bR]
 obtain⟨eH,ky⟩:=mi d hd co dM;have dG:=λo=>eA o;rw[jU]at dG;simp only at dG;have di:∀ x∈co.args,(subst ks x).nodes≤1000000:=λx hx=>by have h2:=zzf (M:=1000) (by omega) (λy hy=>Nat.le_trans (zhr (k:=5) (n:=n) y hy) ht) x;have h3:=ky x hx;have:x.nodes*1000≤1000*1000:=Nat.mul_le_mul_right _ h3;omega
 simp[h0,h1,fK,cC,hn,de,Dat.cs,bN,AV.isV,aC,dW,bL,fZ,bT,cx,bR,Con.cs,jU];have aI:∀ m,HSc (H++[.cells [.int .i64 5,.int .i64 n,.sl (VT.css ks) .none],.perm za1 3 m]):=λm=>hs.append rfl;unfold zou;refine ALoop.own 8 za1 3 rfl ?_;have cD:(H++[AB.cells [.int .i64 5,.int .i64 n,.sl (VT.css ks) .none]]).length=H.length+1:=by simp
 rw[cD,List.append_assoc];show zou (.ptr H.length 0) (.sl [] (.own (H.length+1))) (.sl (VT.css co.args) .none) (.int .i64 co.args.length) (.int .i64 0) (H++[.cells [.int .i64 5,.int .i64 n,.sl (VT.css ks) .none],.perm za1 3 0]) (Out H.length K);refine zXs (Inv:=λq t8 t65 H'=>∃ i:Nat,i≤co.args.length∧q=co.args.length-i∧t65=.int .i64 i∧t8=.sl (VT.css ((co.args.map (subst ks)).take i)) (.own (H.length+1))∧(∀ x∈co.args.take i,(subst ks x).nodes≤200)∧H'=H++[.cells [.int .i64 5,.int .i64 n,.sl (VT.css ks) .none],.perm za1 3 i]) co.args.length ?_ ?_
 ·intro _;exact⟨0,by omega,by omega,rfl,by simp[VT.css],by simp,rfl⟩
 ·rintro q t8 t65 H' ⟨i,hi,rfl,rfl,rfl,aN,rfl⟩ hsc aq aO Kb aw;by_cases ap:i<co.args.length
  ·have bp:=List.getElem_mem ap;have bC:=di _ bp;obtain⟨x,y,z,aB,hx,hy,hz⟩:=za2 co.args[i];simp[zvv,ap,aB,hx,hy,hz];rw[←aB];refine zM0 ks (λy hy=>by have:=zhr (k:=5) (n:=n) y hy;omega) (by omega) _ co.args[i] (Nat.le_refl _) (by have:=ky _ bp;omega) _ _ ?_;obtain⟨x',y',z',hvx',eS,dS,ib⟩:=za2 (subst ks co.args[i]);simp[hvx',eS,dS,ib];rw[←hvx'];refine zEL _ _ (Nat.le_refl _) (by omega) _ _ ?_;by_cases cg:(subst ks co.args[i]).nodes≤200
   ·have f5:¬ (200:Int)<(subst ks co.args[i]).nodes:=by omega
    simp[f5];rw[zei];simp[zax,zaN,zaK];refine⟨by omega,by omega,?_⟩;rw[zat (by omega) (by omega),show min i co.args.length=i by omega];refine aw _ _ ⟨co.args.length-(i+1),by omega,Back.at (H2:=H++[.cells [.int .i64 5,.int .i64 n,.sl (VT.css ks) .none],.perm za1 3 (i+1)]) (J:=[_,_]) (by simp;exact⟨rfl,rfl⟩) (by simp) (aI _) ?_ ⟨_,_,rfl,i+1,by omega,rfl,by simp,?_,zxD ap aN cg,rfl⟩⟩
    ·simp[zot,AV.sc,AV.scV,AV.scA,AV.scB]
    ·rw[zhe (by simpa using ap)];simp
   ·have f5:(200:Int)<(subst ks co.args[i]).nodes:=by omega
    simp[f5,AV.isV];refine hF (dG none ?_) _;rw[if_neg];intro je;have:=List.all_eq_true.1 je (subst ks co.args[i]) (List.mem_map.2 ⟨_,bp,rfl⟩);exact cg (of_decide_eq_true this)
  ·obtain rfl:i=co.args.length:=by omega
   rw[List.take_length]at aN;rw[List.take_of_length_le (by simp)];simp[zvv,AV.isV];have fO:=dG (some (co.args.map (subst ks))) (if_pos (List.all_eq_true.2 λy hy=>by
    obtain⟨x,hx,rfl⟩:=List.mem_map.1 hy;exact decide_eq_true (aN x hx)))
   rw[fO]at hK;exact Out.tup hs hK ⟨slV,zaU rfl rfl,trivial⟩
theorem zRr:∀ (m:Nat) (v:VT),v.nodes≤m→v.nodes≤1000000000→∀ (H:zaa) (K:AV→zaa→Prop),K (.int .i64 v.nodes) H→ACalls tP zjI [.agg v.cs] H K:=by
 intro m;induction m with
 | zero=>intro v h;have:=v.nodes_pos;omega
 | succ m ih=>
  intro v hv hb H K hK;obtain⟨k,n,ks⟩:=v;have bS:VT.nodesL ks+1≤1000000000:=by simpa[VT.nodes]using hb
  have bq:=VT.len_le ks;refine ACalls.out (zRp λhs=>?_);simp[VT.cs,zCH];refine zRn (Inv:=λq t3 t4 H'=>∃ i:Nat,i≤ks.length∧q=ks.length-i∧t4=.int .i64 i∧t3=.int .i64 (1+VT.nodesL (ks.take i):Nat)∧H'=H++[.cells [.int .i64 k,.int .i64 n,.sl (VT.css ks) .none]]) ks.length ?_ ?_
  ·intro _;exact⟨0,by omega,by omega,rfl,by simp[VT.nodesL],rfl⟩
  ·rintro q t3 t4 H' ⟨i,hi,rfl,rfl,rfl,rfl⟩ hsc aq aO Kb aw;by_cases ap:i<ks.length
   ·have bk:=VT.kid_lt (k:=k) (n:=n) ap;have h1:=VT.nodesL_take ap;have h2:=VT.nodesL_take_le ks (i+1);obtain⟨x,y,z,aB,hx,hy,hz⟩:=za2 ks[i];simp[ztJ,ap,aB,hx,hy,hz];rw[←aB];refine ih ks[i] (by omega) (by omega) _ _ ?_;simp;rw[zat (by omega) (by omega),zat (by omega) (by omega),zzD];refine aw _ _ ⟨ks.length-(i+1),by omega,Back.same (by simp) hsc ?_ ⟨_,_,rfl,i+1,by omega,rfl,by simp,?_,rfl⟩⟩
    ·simp[zmV,AV.sc,AV.scV,AV.scA,AV.scB]
    ·rw[h1];congr 1;omega
   ·obtain rfl:i=ks.length:=by omega
    simp[ztJ];refine Out.int rfl (Nat.le_refl _) hs ?_;simpa[VT.nodes,Int.add_comm]using hK
def zcN (f:VT→VT→Bool):List VT→List VT→Bool
 | [],[]=>true
 | a::x,b::y=>f a b && zcN f x y
 | _,_=>false
theorem zpe {f:VT→VT→Bool}:∀ {x y:List VT},x.length≠y.length→zcN f x y=false
 | [],[],h=>(h rfl).elim
 | a::x,b::y,h=>by have:x.length≠y.length:=λe=>h (by simp[e]);simp[zcN,zpe this]
 | [],_::_,_=>rfl
 | _::_,[],_=>rfl
theorem zGC (x:List VT) (hl:x.length≤1000000000) (fv:AV) (H:zaa) (K:AV→zaa→Prop) (ki:fv.sc H.length=true) (Inv:Nat→zaa→Prop) (h0:Inv 0 H)
  (step:∀ (i:Nat) (h:i<x.length) (H':zaa),H.length≤H'.length→Inv i H'→aCallV tP fv [.agg (x[i]).cs] H' λr H''=>(r=.bool false∧Inv (i+1) H'')∨(r=.bool true∧K (.int .i64 i) H''))
  (fin:∀ H',Inv x.length H'→K (.int .i64 (-1)) H'):ACalls tP zqj [.sl (VT.css x) .none,fv] H K:=by
 refine zSm λhs=>?_;simp[zCW];refine zSk (Inv:=λq t8 H'=>∃ i:Nat,i≤x.length∧q=x.length-i∧t8=.int .i64 i∧H.length≤H'.length∧Inv i H') x.length ?_ ?_
 ·intro _;exact⟨0,by omega,by omega,rfl,Nat.le_refl _,h0⟩
 ·rintro q t8 H' ⟨i,hi,rfl,rfl,aQ,hI⟩ hsc aq aO Kb aw;by_cases ap:i<x.length
  ·simp[zt2,ap];refine (step i ap H' aQ hI).mono' λr H'' aM hle' hr=>?_;rcases hr with ⟨rfl,hI'⟩ | ⟨rfl,hk⟩
   ·simp;rw[zat (by omega) (by omega)];refine aw _ _ ⟨x.length-(i+1),by omega,Back.here (by omega) aM ?_ ⟨_,rfl,i+1,by omega,rfl,by simp,by omega,hI'⟩⟩;simp[zm9,AV.sc,AV.scV,AV.scA,AV.scB];exact zcn (by omega) ki
   ·simpa using hk
  ·obtain rfl:i=x.length:=by omega
   simp[zt2];exact fin H' hI
theorem zo5 (x:List VT) (hl:x.length≤1000000000) (fv:AV) (H:zaa) (K:AV→zaa→Prop) (ki:fv.sc H.length=true) (Inv:Nat→zaa→Prop) (h0:Inv 0 H)
  (step:∀ (i:Nat) (h:i<x.length) (H':zaa),H.length≤H'.length→Inv i H'→aCallV tP fv [.agg (x[i]).cs] H' λr H''=>(r=.bool false∧Inv (i+1) H'')∨(r=.bool true∧K (.bool true) H''))
  (fin:∀ H',Inv x.length H'→K (.bool false) H'):ACalls tP zfy [.sl (VT.css x) .none,fv] H K:=by
 refine zRh λhs=>?_;unfold zCF;refine zGC x hl fv H _ ki Inv h0 (λi h H' aQ hI=>(step i h H' aQ hI).mono' λr H'' _ _ hr=>?_) (λH' hI=>?_)
 ·rcases hr with hr | ⟨h1,h2⟩
  ·exact .inl hr
  ·refine .inr ⟨h1,?_⟩;have:decide ((0:Int)≤i)=true:=by simp
   simpa using h2
 ·simpa using fin H' hI
theorem zFO:zej tP zjH=true:=by kernel_rfl
section
variable (aa:List Dat) (vars:Int)
theorem zJB:∀ (l:List VT) (i:Nat) (h:i<l.length),zbh aa vars l=true→za5 aa vars l[i]=true:=by
 intro l;induction l with
 | nil=>intro i h;simp at h
 | cons a l ih=>
  intro i h hl;simp[zbh]at hl;cases i with
  | zero=>exact hl.1
  | succ i=>exact ih i (by simpa using h) hl.2
def zbP (left:Int):AB:=.cells [.sl (aa.map Dat.cs) .none,.int .i64 vars,.int .i64 left]
theorem zJO:∀ (m:Nat) (v:VT),v.nodes≤m→v.nodes≤1000000000→∀ (left:Int),left≤1000000→-1≤left→∀ (H:zaa) (id:Nat),H[id]?=some (zbP aa vars left)→∀ (K:AV→zaa→Prop),
  (za5 aa vars v=true→(v.nodes:Int)≤left→K (.bool true) (H.set id (zbP aa vars (left-v.nodes))))→(¬ (za5 aa vars v=true∧(v.nodes:Int)≤left)→∀ l',K (.bool false) (H.set id (zbP aa vars l'))) →
  ACalls tP zjv [.ptr id 0,.agg v.cs] H K:=by
 intro m;induction m with
 | zero=>intro v h;have:=v.nodes_pos;omega
 | succ m ih=>
  intro v hv hb left dR cM H id ar K hK hF;obtain⟨k,n,ks⟩:=v;have ap:=zbi ar;have cy:(VT.mk k n ks).nodes=VT.nodesL ks+1:=by simp[VT.nodes]
  have bq:=VT.len_le ks;refine ACalls.out (zOY λhs=>?_)
  -- the heap within: the receiver's copy and the type's
  generalize hJ:([.cells [.ptr id 0],.cells [.int .i64 k,.int .i64 n,.sl (VT.css ks) .none]]:zaa)=J;have iK:J[0]?=some (.cells [.ptr id 0]):=by subst hJ;rfl
  have fy:J[1]?=some (.cells [.int .i64 k,.int .i64 n,.sl (VT.css ks) .none]):=by subst hJ;rfl
  have aC:∀ l',(H.set id (zbP aa vars l')++J)[id]?=some (zbP aa vars l'):=λl'=>zby (zb8 _ ar);have bad:(¬ (za5 aa vars (.mk k n ks)=true∧((VT.mk k n ks).nodes:Int)≤left))→∀ l',Out H.length K (.bool false) (H.set id (zbP aa vars l')++J):=λh l'=>
   Out.bool rfl (by simp) (hs.set rfl) (hF h l')
  have badS:zbj aa vars k n ks.length=false→∀ l',Out H.length K (.bool false) (H.set id (zbP aa vars l')++J):=λh l'=>bad (λ⟨h1,_⟩=>by simp[za5,h]at h1) l'
  -- the arguments
  have args:zbj aa vars k n ks.length=true→1≤left→∀ KK:AV→zaa→Prop,(∀ H',Out H.length K (.bool true) H'→KK (.bool false) H')→(∀ H',Out H.length K (.bool false) H'→KK (.bool true) H') →
    ACalls tP zfy [.sl (VT.css ks) .none,.fn zjH [.ptr H.length 0]] (H.set id (zbP aa vars (left-1))++J) KK:=by
   intro aV h1 KK hKf hKt;subst hJ;refine zo5 ks (by omega) _ _ _ (by simp[AV.sc,AV.scV,AV.scA,AV.scB]) (λi H'=>(VT.nodesL (ks.take i):Int)+1≤left∧zbh aa vars (ks.take i)=true∧H'=H.set id (zbP aa vars (left-1-VT.nodesL (ks.take i)))++[.cells [.ptr id 0],.cells [.int .i64 k,.int .i64 n,.sl (VT.css ks) .none]]) ⟨by simp[VT.nodesL];omega,by simp[zbh],by simp[VT.nodesL]⟩ ?_ ?_
   ·rintro i hi H' aQ ⟨bG,bz,rfl⟩;have bk:=VT.kid_lt (k:=k) (n:=n) hi;have h1:=VT.nodesL_take hi;have h2:=VT.nodesL_take_le ks (i+1);have hokL:zbh aa vars (ks.take (i+1))=(zbh aa vars (ks.take i) && za5 aa vars ks[i]):=by
     rw[List.take_succ_eq_append_getElem hi];have:∀ (l:List VT) (x:VT),zbh aa vars (l++[x])=(zbh aa vars l && za5 aa vars x):=by
      intro l x;induction l with
      | nil=>simp[zbh]
      | cons a l ih=>simp[zbh,ih,Bool.and_assoc]
     exact this _ _
    simp only[aCallV,zFO,List.singleton_append];refine ACalls.out (zRk λbe=>?_);have dF:∀ l',HSc (H.set id (zbP aa vars l')++[.cells [.ptr id 0],.cells [.int .i64 k,.int .i64 n,.sl (VT.css ks) .none]]):=λl'=>(hs.set rfl).append (by simp[AB.sc,AV.scA,AV.scB];omega);obtain⟨x1,x2,x3,aB,bH,bh,bC⟩:=za2 ks[i];have hll2:(H.set id (zbP aa vars (left-1-VT.nodesL (ks.take i)))).length=H.length:=by simp
    have eY:(H.set id (zbP aa vars (left-1-VT.nodesL (ks.take i)))++[AB.cells [.ptr id 0],.cells [.int .i64 k,.int .i64 n,.sl (VT.css ks) .none],.cells [x1,x2,x3]])[H.length]?=some (.cells [.ptr id 0]):=by rw[List.getElem?_append_right (by simp)];simp
    have jV:(H.set id (zbP aa vars (left-1-VT.nodesL (ks.take i)))++[AB.cells [.ptr id 0],.cells [.int .i64 k,.int .i64 n,.sl (VT.css ks) .none],.cells [x1,x2,x3]])[H.length+2]?=some (.cells [x1,x2,x3]):=by rw[List.getElem?_append_right (by simp)];simp
    simp[zCG,aB,eY,jV,hll2];rw[←aB];refine ih ks[i] (by omega) (by omega) (left-1-VT.nodesL (ks.take i)) (by omega) (by omega) _ id (zby (zb8 _ ar)) _ ?_ ?_
    ·intro ho hle2;rw[zcw _ (zb8 _ ar),List.set_set,show left-1-(VT.nodesL (ks.take i):Int)-(ks[i]).nodes=left-1-VT.nodesL (ks.take (i+1)) by omega];simp;refine Out.bool (J:=[_]) (H2:=H.set id (zbP aa vars (left-1-VT.nodesL (ks.take (i+1))))++[.cells [.ptr id 0],.cells [.int .i64 k,.int .i64 n,.sl (VT.css ks) .none]]) (by simp;rfl) (by simp) (dF _) (.inl ⟨rfl,by omega,by rw[hokL,bz,ho];rfl,rfl⟩)
    ·intro ho l';rw[zcw _ (zb8 _ ar),List.set_set];simp;have da:¬ (za5 aa vars (.mk k n ks)=true∧((VT.mk k n ks).nodes:Int)≤left):=by
      rintro⟨g1,g2⟩;have aN:zbh aa vars ks=true:=by simp[za5]at g1;exact g1.2
      exact ho ⟨zJB aa vars ks i hi aN,by omega⟩
     have ml:=bad da l';exact Out.bool (J:=[_]) (H2:=H.set id (zbP aa vars l')++[.cells [.ptr id 0],.cells [.int .i64 k,.int .i64 n,.sl (VT.css ks) .none]]) (by simp;rfl) (by simp) (dF _) (.inr ⟨rfl,hKt _ ml⟩)
   ·rintro H' ⟨bG,bz,rfl⟩;rw[List.take_length]at *;refine hKf _ ?_;refine Out.bool rfl (by simp) (hs.set rfl) ?_;have:=hK (by simp[za5,aV,bz]) (by omega);rw[cy]at this;rw[show left-1-(VT.nodesL ks:Int)=left-((VT.nodesL ks+1:Nat):Int) by omega];exact this
  -- behind the shape
  have fin:∀ lo hi:Int,(k≠4→k≠5→n≠0→zbj aa vars k n ks.length=false)→((ks.length:Int)<lo∨hi<(ks.length:Int)→zbj aa vars k n ks.length=false)→1≤left →
    ((k=4∨k=5∨n=0)→lo≤(ks.length:Int)→(ks.length:Int)≤hi→zbj aa vars k n ks.length=true) →
    zgM (.ptr H.length 0) (.ptr (H.length+1) 0) (.int .i64 lo) (.int .i64 hi) (H.set id (zbP aa vars (left-1))++J) (Out H.length K):=by
   intro lo hi hz hr h1 aA;have lk:(H.set id (zbP aa vars (left-1))++J)[H.length+1]?=some (.cells [.int .i64 k,.int .i64 n,.sl (VT.css ks) .none]):=by rw[List.getElem?_append_right (by simp)];subst hJ;simp
   by_cases aG:k=4∨k=5∨n=0
   ·have h3:(k != 4)=false∨((k != 4)=true∧(k != 5)=false)∨((k != 4)=true∧(k != 5)=true∧(n != 0)=false):=by
     by_cases g4:k=4
     ·left;simp[g4]
     ·by_cases g5:k=5
      ·right;left;simp[g5]
      ·right;right;simp[g4,g5];omega
    rcases h3 with g | ⟨g,g'⟩ | ⟨g,g',g''⟩;case' inl=>simp[zgM,lk,fy,g]
    case' inr.inl=>simp[zgM,lk,fy,g,g']
    case' inr.inr=>simp[zgM,lk,fy,g,g',g'']
    all_goals
     by_cases dh:(ks.length:Int)<lo
     ·simp[dh];exact badS (hr (.inl dh)) _
     ·by_cases ed:hi<(ks.length:Int)
      ·simp[dh,ed,fy];exact badS (hr (.inr ed)) _
      ·simp[dh,ed,AV.isB,fy];refine args (aA aG (by omega) (by omega)) h1 _ (λH' ho=>?_) (λH' ho=>?_) <;> simpa using ho
   ·have g:(k != 4)=true:=by simp;omega
    have g':(k != 5)=true:=by simp;omega
    have g'':(n != 0)=true:=by simp;omega
    simp[zgM,lk,fy,g,g',g''];exact badS (hz (by omega) (by omega) (by omega)) _
  have start:(H++J)[id]?=some (zbP aa vars left):=zby ar;have cV:zs4 (.ptr H.length 0) (.ptr (H.length+1) 0) (H.set id (zbP aa vars (left-1))++J) (Out H.length K):=by
   refine zOQ λbe=>?_;have ic:=aC (left-1);unfold zbP at ic;by_cases h0:left-1<0
   ·simp[zs5,iK,zbP,ic,h0];exact bad (λh=>by have:=h.2;rw[cy]at this;omega) _
   have h1:1≤left:=by omega
   simp[zs5,iK,fy,zbP,ic,h0];refine zOT λ_=>?_;have cI:=λlo hi a b c=>fin lo hi a b h1 c;unfold zbP at cI badS
   -- the three without arguments
   by_cases fx:k=1∨k=2∨k=3
   ·have aV:zbj aa vars k n ks.length=(n == 0 && ks.length == 0):=by rcases fx with rfl | rfl | rfl <;> rfl
    have:=cI 0 0 (λ_ _ hn=>by rw[aV];simp[hn]) (λh=>by rw[aV];simp;intro _;rintro rfl;simp at h) (λh h2 h3=>by
     have hn:n=0:=by omega
     have hl:ks.length=0:=by omega
     rw[aV,hn,hl];rfl)
    rcases fx with rfl | rfl | rfl <;> simp[zs6] <;> refine zBU λ_=>?_ <;> simp[zdU,zdH] <;> exact this
   have b1:(k == 1)=false:=by simp;omega
   have b2:(k == 2)=false:=by simp;omega
   have b3:(k == 3)=false:=by simp;omega
   simp[zs6,b1,b2,b3];refine zBU λ_=>?_;by_cases h4:k=4
   ·subst h4;have aV:zbj aa vars 4 n ks.length=(decide (0≤n) && decide (n<vars) && ks.length == 0):=rfl;by_cases g1:n<0
    ·simp[zdU,iK,fy,ic,g1];exact badS (by rw[aV];simp;omega) _
    by_cases g2:vars≤n
    ·simp[zdU,iK,fy,ic,g1,g2];exact badS (by rw[aV];simp;omega) _
    have:=cI 0 0 (λh=>(h rfl).elim) (λh=>by rw[aV];simp;intro _ _;rintro rfl;simp at h) (λh h2 h3=>by
     have hl:ks.length=0:=by omega
     rw[aV,hl];simp;omega)
    simp[zdU,iK,fy,ic,g1,g2,zdH];exact this
   have b4:(k == 4)=false:=by simp;omega
   by_cases h5:k=5
   ·subst h5;have aV:zbj aa vars 5 n ks.length=(decide (0≤n) && (match aa[n.toNat]? with | some d=>(ks.length:Int) == d.vars | none=>false)):=rfl;by_cases g1:n<0
    ·simp[zdU,iK,fy,ic,g1];exact badS (by rw[aV];simp;omega) _
    by_cases g2:(aa.length:Int)≤n
    ·simp[zdU,iK,fy,ic,g1,g2];exact badS (by rw[aV,List.getElem?_eq_none (by omega)];simp) _
    have bS:n.toNat<aa.length:=by omega
    have g2':n<aa.length:=by omega
    have g1':0≤n:=by omega
    rw[List.getElem?_eq_getElem bS]at aV;simp only[g1',decide_true,Bool.true_and]at aV;have:=cI (aa[n.toNat]).vars (aa[n.toNat]).vars (λ_ h=>(h rfl).elim) (λh=>by rw[aV];simp;omega) (λh h2 h3=>by rw[aV];simp;omega);simp[zdU,iK,fy,ic,g1,g2,g1',g2',bS,Dat.cs,zdH];exact this
   have b5:(k == 5)=false:=by simp;omega
   by_cases h6:k=6
   ·subst h6;have aV:zbj aa vars 6 n ks.length=(n == 0 && decide (2≤ks.length) && decide (ks.length≤6)):=rfl;have:=cI 2 6 (λ_ _ hn=>by rw[aV];simp[hn]) (λh=>by rw[aV];simp;intros;omega) (λh h2 h3=>by rw[aV];simp;omega);simp[zdU,zdH];exact this
   have b6:(k == 6)=false:=by simp;omega
   by_cases jc:k=7∨k=8
   ·have aV:zbj aa vars k n ks.length=(n == 0 && ks.length == 1):=by rcases jc with rfl | rfl <;> rfl
    have:=cI 1 1 (λ_ _ hn=>by rw[aV];simp[hn]) (λh=>by rw[aV];simp;intros;omega) (λh h2 h3=>by rw[aV];simp;omega);rcases jc with rfl | rfl <;> simp[zdU] <;> refine zBV λ_=>?_ <;> simp[zmh,zdH] <;> exact this
   have b7:(k == 7)=false:=by simp;omega
   have b8:(k == 8)=false:=by simp;omega
   simp[zdU,b4,b5,b6,b7,b8];refine zBV λ_=>?_;by_cases h9:k=9
   ·subst h9;have aV:zbj aa vars 9 n ks.length=(n == 0 && decide (1≤ks.length) && decide (ks.length≤7)):=rfl;have:=cI 1 7 (λ_ _ hn=>by rw[aV];simp[hn]) (λh=>by rw[aV];simp;intros;omega) (λh h2 h3=>by rw[aV];simp;omega);simp[zmh,zdH];exact this
   ·have b9:(k == 9)=false:=by simp;omega
    simp[zmh,b9];exact badS (by unfold zbj;simp[b1,b2,b3,b4,b5,b6,b7,b8,b9]) _
  subst hJ;unfold zbP at start;simp[zBS,VT.cs,start];rw[zat (by omega) (by omega),zcw _ ar];exact cV
theorem zAz (v:VT) (hb:v.nodes≤1000000000) (H:zaa) (K:AV→zaa→Prop) (hK:K (.bool (zaZ aa vars v)) H):ACalls tP zhE [.sl (aa.map Dat.cs) .none,.agg v.cs,.int .i64 vars] H K:=by
 refine ACalls.out (zLp λhs=>?_);have hO:∀ J,Out H.length K (.bool (zaZ aa vars v)) (H++J):=λJ=>Out.bool rfl (Nat.le_refl _) hs hK;obtain⟨x1,x2,x3,aB,bH,bh,bC⟩:=za2 v;simp[zAy,aB,zau,zaL];rw[←aB];refine zJO aa vars _ v (Nat.le_refl _) hb 200 (by omega) (by omega) _ (H.length+1) (by simp[zbP]) _ ?_ ?_
 ·intro ho hn;have:zaZ aa vars v=true:=by simp[zaZ,ho];omega
  rw[this]at hO;simp;exact hO _
 ·intro da l';have:zaZ aa vars v=false:=by
   cases h:zaZ aa vars v with
   | false=>rfl
   | true=>simp[zaZ]at h;exact (da ⟨h.2,by omega⟩).elim
  rw[this]at hO;simp;exact hO _
end
mutual
theorem zzg:∀ v:VT,subst [] v=v
 | .mk k n ks=>by rw[subst,if_neg (by rintro⟨_,h1,h2⟩;simp at h2;omega),zze ks]
theorem zze:∀ l:List VT,zaP [] l=l
 | []=>rfl
 | t::ts=>by rw[zaP,zzg t,zze ts]
end
theorem zRI:∀ (m:Nat) (args:List VT),(∀ x∈args,x.nodes≤1000000)→args.length≤1000000→∀ (v:VT),(if args=[] then v.nodes else v.nodes+1000001)≤m→v.nodes≤1000000→∀ (H:zaa) (K:AV→zaa→Prop),K (.agg (subst args v).cs) H→ACalls tP zhJ [.agg v.cs,.sl (VT.css args) .none] H K:=by
 intro m;induction m with
 | zero=>intro args _ _ v h;have:=v.nodes_pos;split at h <;> omega
 | succ m ih=>
  intro args ha eH v hv hb H K hK;obtain⟨k,n,ks⟩:=v;have bS:VT.nodesL ks+1≤1000000:=by simpa[VT.nodes]using hb
  have bq:=VT.len_le ks;refine ACalls.out (zRG λhs=>?_);by_cases cU:k=4∧0≤n∧n<args.length
  ·obtain⟨rfl,h0,h1⟩:=cU;have hn:n.toNat<args.length:=by omega
   have aD:args≠[]:=by rintro rfl;simp at hn
   have cQ:K (.agg (args[n.toNat]).cs) H:=by rw[subst,if_pos ⟨rfl,h0,h1⟩,List.getElem?_eq_getElem hn]at hK;exact hK
   have aQ:=ha _ (List.getElem_mem hn);simp[VT.cs,ztQ,h0,h1,hn];rw[if_neg aD]at hv;refine ACalls.wk (args':=[.agg (args[n.toNat]).cs,.sl (VT.css []) .none]) ?_ ⟨.rfl',.atom .snil,trivial⟩;refine ih [] (by simp) (by simp) _ (by simp;omega) aQ _ _ ?_;rw[zzg];generalize args[n.toNat]=x at *;obtain⟨k',n',ks'⟩:=x;simp[VT.cs];exact Out.at rfl (Nat.le_refl _) hs .rfl' rfl rfl cQ
  ·have cQ:K (.agg (VT.mk k n (zaP args ks)).cs) H:=by rw[subst,if_neg cU]at hK;exact hK
   have go:∀ H1,H1=H++[.cells [.int .i64 k,.int .i64 n,.sl (VT.css ks) .none],.cells [.int .i64 0,.int .i64 0,.snil],.cells [.int .i64 k,.int .i64 n,.snil]]→ziz (.sl (VT.css args) .none) (.ptr (H.length+1) 0) (.ptr (H.length+2) 0) (.sl (VT.css ks) .none) (.int .i64 ks.length) (.int .i64 0) H1 (Out H.length K):=by
    rintro _ rfl;unfold ziz;refine ALoop.ownC (cs:=[.int .i64 k,.int .i64 n,.snil]) (H.length+2) 2 za1 3 (by simp) rfl ?_;have e0:(H++[AB.cells [.int .i64 k,.int .i64 n,.sl (VT.css ks) .none],.cells [.int .i64 0,.int .i64 0,.snil],.cells [.int .i64 k,.int .i64 n,.snil]]).length=H.length+3:=by simp
    rw[e0,zyV,List.append_assoc];have hJ:∀ i X,HSc (H++[.cells [.int .i64 k,.int .i64 n,.sl (VT.css ks) .none],.cells [.int .i64 0,.int .i64 0,.snil],.cells [.int .i64 k,.int .i64 n,.sl X (.own (H.length+3))],.perm za1 3 i]):=λi X=>hs.append (by simp[AB.sc,AV.scA,AV.scB]);show ziz (.sl (VT.css args) .none) (.ptr (H.length+1) 0) (.ptr (H.length+2) 0) (.sl (VT.css ks) .none) (.int .i64 ks.length) (.int .i64 0) (H++[.cells [.int .i64 k,.int .i64 n,.sl (VT.css ks) .none],.cells [.int .i64 0,.int .i64 0,.snil],.cells [.int .i64 k,.int .i64 n,.sl [] (.own (H.length+3))],.perm za1 3 0]) (Out H.length K);refine zRE (Inv:=λq t37 H'=>∃ i:Nat,i≤ks.length∧q=ks.length-i∧t37=.int .i64 i∧H'=H++[.cells [.int .i64 k,.int .i64 n,.sl (VT.css ks) .none],.cells [.int .i64 0,.int .i64 0,.snil],.cells [.int .i64 k,.int .i64 n,.sl (VT.css ((zaP args ks).take i)) (.own (H.length+3))],.perm za1 3 i]) ks.length ?_ ?_
    ·intro _;exact⟨0,by omega,by omega,rfl,by simp[VT.css]⟩
    ·rintro q t37 H' ⟨i,hi,rfl,rfl,rfl⟩ hsc aq aO Kb aw;by_cases ap:i<ks.length
     ·have bk:=VT.kid_lt (k:=k) (n:=n) ap;have eh:(zaP args ks).length=ks.length:=by rw[zez];simp
      have aS:i<(zaP args ks).length:=by omega
      have kx:(zaP args ks)[i]=subst args ks[i]:=by simp[zez]
      obtain⟨x1,x2,x3,aB,bH,bh,bC⟩:=za2 ks[i];simp[ztR,ap,aB,bH,bh,bC];rw[←aB];refine zaB (.agg (subst args ks[i]).cs) (λJ=>ih args ha eH ks[i] (by by_cases he:args=[] <;> simp only[he,if_true,if_false]at hv ⊢ <;> omega) (by omega) _ _ ⟨rfl,rfl⟩) ?_;rw[zei,←kx];simp[zax,zaN,zaK,eh];refine⟨by omega,⟨by omega,by omega⟩,?_⟩;rw[zat (by omega) (by omega),show min i ks.length=i by omega];refine aw _ _ ⟨ks.length-(i+1),by omega,Back.at (J:=[_]) (H2:=H++[.cells [.int .i64 k,.int .i64 n,.sl (VT.css ks) .none],.cells [.int .i64 0,.int .i64 0,.snil],.cells [.int .i64 k,.int .i64 n,.sl (VT.css ((zaP args ks).take (i+1))) (.own (H.length+3))],.perm za1 3 (i+1)]) (by rw[zhe aS];simp;rfl) (by simp) (hJ _ _) ?_ ⟨_,rfl,i+1,by omega,rfl,by simp,rfl⟩⟩;simp[zm0,AV.sc,AV.scV,AV.scA,AV.scB]
     ·obtain rfl:i=ks.length:=by omega
      have e:(zaP args ks).take ks.length=zaP args ks:=List.take_of_length_le (by rw[zez];simp);rw[e];simp[ztR];exact Out.at rfl (Nat.le_refl _) hs (WkV.agg (ds:=[.int .i64 k,.int .i64 n,.sl (VT.css (zaP args ks)) .none]) ⟨.refl _,.refl _,.sl _ _,trivial⟩) rfl (by simp[AV.scV,AV.scA,AV.scB]) (by simpa[VT.cs]using cQ)
   simp only[VT.cs,ztQ];by_cases h4:k=4
   ·subst h4;by_cases h0:0≤n
    ·have h1:¬ n<args.length:=λh=>cU ⟨rfl,h0,h⟩;simp[h0,h1,zau,zaL,Nat.add_assoc];exact go _ rfl
    ·simp[h0,zau,zaL,Nat.add_assoc];exact go _ rfl
   ·have jd:(k == 4)=false:=by simpa using h4
    simp[jd,zau,zaL,Nat.add_assoc];exact go _ rfl
def zkz (args:List VT):AB:=.cells (args.map λx=>.int .i64 x.nodes)
theorem zRB (args:List VT) (ha:∀ x∈args,x.nodes≤1000000) (eH:args.length≤1000000):∀ (m:Nat) (v:VT),v.nodes≤m→v.nodes≤1000000→∀ (H:zaa) (id:Nat),H[id]?=some (zkz args)→∀ (K:AV→zaa→Prop),
  (∀ r:Nat,(r≤200↔(subst args v).nodes≤200)→(r≤200→r=(subst args v).nodes)→r≤1000000+200*v.nodes→K (.int .i64 r) H)→ACalls tP zjJ [.agg v.cs,.ms id 0 args.length args.length] H K:=by
 intro m;induction m with
 | zero=>intro v h;have:=v.nodes_pos;omega
 | succ m ih=>
  intro v hv hb H id ar K hK;obtain⟨k,n,ks⟩:=v;have bS:VT.nodesL ks+1≤1000000:=by simpa[VT.nodes]using hb
  have bq:=VT.len_le ks;have hidl:=zbi ar;refine ACalls.out (zRz λhs=>?_);by_cases cU:k=4∧0≤n∧n<args.length
  ·obtain⟨rfl,h0,h1⟩:=cU;have hn:n.toNat<args.length:=by omega
   have di:subst args (.mk 4 n ks)=args[n.toNat]:=by rw[subst,if_pos ⟨rfl,h0,h1⟩,List.getElem?_eq_getElem hn];rfl
   rw[di]at hK;have hg:(H++[AB.cells [.int .i64 4,.int .i64 n,.sl (VT.css ks) .none]])[id]?=some (zkz args):=zby ar;have aQ:=ha _ (List.getElem_mem hn);unfold zkz at hg;simp[VT.cs,ztL,h0,h1,hn,hg,zbq];exact Out.int rfl (Nat.le_refl _) hs (hK _ Iff.rfl (λ_=>rfl) (by omega))
  ·have di:subst args (.mk k n ks)=.mk k n (zaP args ks):=by rw[subst,if_neg cU]
   have hnodes:(subst args (.mk k n ks)).nodes=VT.nodesL (zaP args ks)+1:=by rw[di];rfl
   rw[hnodes]at hK;have hO:∀ r:Nat,(r≤200↔VT.nodesL (zaP args ks)+1≤200)→(r≤200→r=VT.nodesL (zaP args ks)+1)→r≤1000000+200*(VT.mk k n ks).nodes→∀ J,Out H.length K (.int .i64 r) (H++J):=λr h1 h2 h3 J=>Out.int rfl (Nat.le_refl _) hs (hK r h1 h2 h3);have eh:(zaP args ks).length=ks.length:=by rw[zez];simp
   have go:ztP (.ms id 0 args.length args.length) (.int .i64 1) (.sl (VT.css ks) .none) (.int .i64 ks.length) (.int .i64 0) (H++[.cells [.int .i64 k,.int .i64 n,.sl (VT.css ks) .none]]) (Out H.length K):=by
    refine zRx (Inv:=λq t5 t31 H'=>∃ i:Nat,i≤ks.length∧q=ks.length-i∧t31=.int .i64 i∧t5=.int .i64 (1+VT.nodesL ((zaP args ks).take i):Nat)∧1+VT.nodesL ((zaP args ks).take i)≤200∧H'=H++[.cells [.int .i64 k,.int .i64 n,.sl (VT.css ks) .none]]) ks.length ?_ ?_
    ·intro _;exact⟨0,by omega,by omega,rfl,by simp[VT.nodesL],by simp[VT.nodesL],rfl⟩
    ·rintro q t5 t31 H' ⟨i,hi,rfl,rfl,rfl,bz,rfl⟩ hsc aq aO Kb aw;by_cases ap:i<ks.length
     ·have bk:=VT.kid_lt (k:=k) (n:=n) ap;have aS:i<(zaP args ks).length:=by omega
      have kx:(zaP args ks)[i]=subst args ks[i]:=by simp[zez]
      have h1:=VT.nodesL_take aS;have h2:=VT.nodesL_take_le (zaP args ks) (i+1);rw[kx]at h1;obtain⟨x1,x2,x3,aB,bH,bh,bC⟩:=za2 ks[i];simp[ztM,ap,aB,bH,bh,bC];rw[←aB];refine ih ks[i] (by omega) (by omega) _ id (zby ar) _ λr f7 eZ lm=>?_;simp;rw[zat (by omega) (by omega)];by_cases cq:(200:Int)<1+VT.nodesL ((zaP args ks).take i)+r
      ·simp[cq,zmY,ztO];have:=hO (1+VT.nodesL ((zaP args ks).take i)+r) (by constructor <;> intro h <;> omega) (by omega) (by omega);have e:((1+VT.nodesL ((zaP args ks).take i)+r:Nat):Int)=1+(VT.nodesL ((zaP args ks).take i):Int)+r:=by omega
       rw[e]at this;exact this _
      ·have hr:r=(subst args ks[i]).nodes:=eZ (by omega);simp[cq];rw[zat (by omega) (by omega),zzD];refine aw _ _ ⟨ks.length-(i+1),by omega,Back.same (by simp) hsc ?_ ⟨_,_,rfl,i+1,by omega,rfl,by simp,?_,by omega,rfl⟩⟩
       ·simp[zmX,AV.sc,AV.scV,AV.scA,AV.scB];omega
       ·congr 1;omega
     ·obtain rfl:i=ks.length:=by omega
      rw[List.take_of_length_le (by omega)]at *;simp[ztM,zmY,ztO];have:=hO (1+VT.nodesL (zaP args ks)) (by omega) (by omega) (by omega);have e:((1+VT.nodesL (zaP args ks):Nat):Int)=1+(VT.nodesL (zaP args ks):Int):=by omega
      rw[e]at this;exact this _
   simp only[VT.cs,ztL];by_cases h4:k=4
   ·subst h4;by_cases h0:0≤n
    ·have h1:¬ n<args.length:=λh=>cU ⟨rfl,h0,h⟩;simp[h0,h1];exact go
    ·simp[h0];exact go
   ·have jd:(k == 4)=false:=by simpa using h4
    simp[jd];exact go
def zc3 (args:List VT) (i:Nat):List AV:=(args.take i).map (λx=>.int .i64 x.nodes)++List.replicate (args.length-i) (.int .i64 0)
theorem zIm (args:List VT) {i:Nat} (h:i≤args.length):(zc3 args i).length=args.length:=by simp[zc3];omega
theorem zIn (args:List VT) {i:Nat} (h:i<args.length):(zc3 args i).take i++[.int .i64 (args[i]).nodes]++(zc3 args i).drop (i+1)=zc3 args (i+1):=by
 have e1:((args.take i).map λx=>AV.int .i64 x.nodes).length=i:=by simp;omega
 unfold zc3;rw[List.take_append_of_le_length (by omega),List.take_of_length_le (by omega),List.drop_append,List.drop_of_length_le (by omega),List.nil_append,e1,List.take_succ_eq_append_getElem h,List.map_append];congr 1;rw[show i+1-i=1 by omega,List.drop_replicate];congr 1
theorem zBZ (aa:List Dat) (iF:aa.length≤1000000) (mi:∀ d∈aa,∀ c∈d.cons,c.args.length≤1000∧∀ x∈c.args,x.nodes≤1000) (hdc:∀ d∈aa,d.cons.length≤1000000) (t:VT) (ht:t.nodes≤1000) (c:Int) (H:zaa) (K:AV→zaa→Prop) (hK:K (zcx (za6 aa t c)) H) :
  ACalls tP zjw [.sl (aa.map Dat.cs) .none,.agg t.cs,.int .i64 c] H K:=by
 refine ACalls.out (zPb λhs=>?_);obtain⟨k,n,ks⟩:=t;have dm:VT.nodesL ks+1≤1000:=by simpa[VT.nodes]using ht
 have cu:=VT.len_le ks;have hF:za6 aa (.mk k n ks) c=none→∀ J,Out H.length K (.tup [.snil,.bool false]) (H++J):=λh J=>by rw[h]at hK;exact Out.tup hs hK ⟨zdS,zaU rfl rfl,trivial⟩
 simp only[VT.cs,zBW];by_cases h5:k=5;case neg=>
  have:(k != 5)=true:=by simpa using h5
  simp[this,AV.isV];exact hF (by rw[zc9,if_neg (λh=>h5 h.1)]) _
 subst h5;by_cases h0:n<0
 ·simp[h0,AV.isV];exact hF (by rw[zc9,if_neg (λh=>by have:=h.2.1;omega)]) _
 by_cases h1:(aa.length:Int)≤n
 ·simp[h0,h1,AV.isV];exact hF (by
   rw[zc9];split
   ·rw[List.getElem?_eq_none (by omega)]
   ·rfl) _
 have hn:n.toNat<aa.length:=by omega
 have cC:n<aa.length:=by omega
 have fK:0≤n:=by omega
 generalize de:aa[n.toNat]=d at *;have hd:d∈aa:=by rw[←de];exact List.getElem_mem hn
 have aC:aa[n.toNat]?=some d:=by rw[List.getElem?_eq_getElem hn,de]
 cases hv:((ks.length:Int) == d.vars) with
 | false=>
  have bN:((ks.length:Int) != d.vars)=true:=by simp[bne,hv]
  simp[h0,h1,fK,cC,hn,de,Dat.cs,bN,AV.isV,aC];exact hF (by
   rw[zc9];split
   ·rw[aC];simp only;rw[if_neg (by simpa using hv)]
   ·rfl) _
 | true=>
 have bN:((ks.length:Int) != d.vars)=false:=by simp[bne,hv]
 have mj:(ks.length:Int)=d.vars:=by simpa using hv
 by_cases dW:c<0
 ·simp[h0,h1,fK,cC,hn,de,Dat.cs,bN,AV.isV,aC,dW];exact hF (by rw[zc9,if_neg (λh=>by have:=h.2.2;omega)]) _
 have eA:∀ o,(match d.cons[c.toNat]? with | some k=>if (k.args.map (subst ks)).all (λx=>decide (x.nodes≤200))=true then some (k.args.map (subst ks)) else none | none=>none)=o→za6 aa (.mk 5 n ks) c=o:=λo h=>by rw[zc9,if_pos ⟨rfl,fK,by omega⟩,aC];simp only;rw[if_pos mj];exact h
 by_cases bL:(d.cons.length:Int)≤c
 ·simp[h0,h1,fK,cC,hn,de,Dat.cs,bN,AV.isV,aC,dW,bL];exact hF (eA none (by rw[List.getElem?_eq_none (by omega)])) _
 have cx:c.toNat<d.cons.length:=by omega
 have bT:c<d.cons.length:=by omega
 have fZ:0≤c:=by omega
 generalize bR:d.cons[c.toNat]=co at *;have dM:co∈d.cons:=by rw[←bR];exact List.getElem_mem cx
 have jU:d.cons[c.toNat]?=some co:=by rw[List.getElem?_eq_getElem cx,bR]
 obtain⟨eH,ky⟩:=mi d hd co dM;have dG:=λo=>eA o;rw[jU]at dG;simp only at dG;have jf:∀ x∈ks,x.nodes≤1000:=λy hy=>Nat.le_trans (zhr (k:=5) (n:=n) y hy) ht;simp[h0,h1,fK,cC,hn,de,Dat.cs,bN,AV.isV,aC,dW,bL,fZ,bT,cx,bR,zba];refine⟨by omega,?_⟩;have ez:List.replicate ks.length (AV.int .i64 0)=zc3 ks 0:=by simp[zc3]
 rw[ez];have dZ:∀ (l:List AV),(l.all λa=>a.scA (H.length+3))=true→HSc (H++[.cells [.int .i64 5,.int .i64 n,.sl (VT.css ks) .none],.cells [.str d.name,.int .i64 d.vars,.sl (d.cons.map Con.cs) .none],.cells l]):=λl hl=>hs.append (by simp[AB.sc];simpa using hl);have hszsc:∀ i,((zc3 ks i).all λa=>a.scA (H.length+3))=true:=λi=>by
  rw[List.all_eq_true];intro x hx;unfold zc3 at hx;rcases List.mem_append.1 hx with h | h
  ·obtain⟨y,_,rfl⟩:=List.mem_map.1 h;rfl
  ·rw[List.eq_of_mem_replicate h];rfl
 refine zO7 (Inv:=λq t61 H'=>∃ i:Nat,i≤ks.length∧q=ks.length-i∧t61=.int .i64 i∧H'=H++[.cells [.int .i64 5,.int .i64 n,.sl (VT.css ks) .none],.cells [.str d.name,.int .i64 d.vars,.sl (d.cons.map Con.cs) .none],.cells (zc3 ks i)]) ks.length ?_ ?_
 ·intro _;exact⟨0,by omega,by omega,rfl,rfl⟩
 ·rintro q t61 H' ⟨i,hi,rfl,rfl,rfl⟩ hsc8 hlen8 hsF8 Kb8 jg;by_cases ap:i<ks.length
  ·have aQ:=jf _ (List.getElem_mem ap);obtain⟨x1,x2,x3,aB,bH,bh,bC⟩:=za2 ks[i];simp[zta,ap,aB,bH,bh,bC];rw[←aB];refine zRr _ _ (Nat.le_refl _) (by omega) _ _ ?_;have bq:=zIm ks hi;simp[ap,bq];refine⟨by omega,?_⟩;rw[zat (by omega) (by omega)];have e:=zIn ks ap;rw[List.append_assoc,List.singleton_append]at e;rw[e];refine jg _ _ ⟨ks.length-(i+1),by omega,Back.at (J:=[_]) (H2:=H++[.cells [.int .i64 5,.int .i64 n,.sl (VT.css ks) .none],.cells [.str d.name,.int .i64 d.vars,.sl (d.cons.map Con.cs) .none],.cells (zc3 ks (i+1))]) (by simp;rfl) (by simp) (dZ _ (hszsc _)) ?_ ⟨_,rfl,i+1,by omega,rfl,by simp,rfl⟩⟩;simp[zml,AV.sc,AV.scV,AV.scA,AV.scB]
  ·obtain rfl:i=ks.length:=by omega
   have efull:zc3 ks ks.length=ks.map λx=>.int .i64 x.nodes:=by simp[zc3]
   have f8:=hsc8;rw[efull]at f8 ⊢;simp[zta,fZ,bT,cx,bR,Con.cs,jU];refine zO5 (Inv:=λq t79 H'=>∃ i:Nat,i≤co.args.length∧q=co.args.length-i∧t79=.int .i64 i∧(∀ x∈co.args.take i,(subst ks x).nodes≤200)∧H'=H++[.cells [.int .i64 5,.int .i64 n,.sl (VT.css ks) .none],.cells [.str d.name,.int .i64 d.vars,.sl (d.cons.map Con.cs) .none],.cells (ks.map λx=>.int .i64 x.nodes)]) co.args.length ?_ ?_
   ·intro _;exact⟨0,by omega,by omega,rfl,by simp,rfl⟩
   ·rintro q t79 H' ⟨i,hi,rfl,rfl,aN,rfl⟩ hsc13 hlen13 hsF13 Kb13 e5;by_cases ap:i<co.args.length
    ·have bp:=List.getElem_mem ap;obtain⟨x1,x2,x3,aB,bH,bh,bC⟩:=za2 co.args[i];simp[zs8,ap,aB,bH,bh,bC];rw[←aB];refine zRB ks (λy hy=>by have:=jf y hy;omega) (by omega) _ co.args[i] (Nat.le_refl _) (by have:=ky _ bp;omega) _ (H.length+2) (by simp[zkz]) _ λr f7 eZ lm=>?_;by_cases cq:r≤200
     ·have cW:¬ (200:Int)<r:=by omega
      simp[cW];rw[zat (by omega) (by omega)];refine e5 _ _ ⟨co.args.length-(i+1),by omega,Back.at (J:=[_]) (H2:=H++[.cells [.int .i64 5,.int .i64 n,.sl (VT.css ks) .none],.cells [.str d.name,.int .i64 d.vars,.sl (d.cons.map Con.cs) .none],.cells (ks.map λx=>.int .i64 x.nodes)]) (by simp;rfl) (by simp) f8 ?_ ⟨_,rfl,i+1,by omega,rfl,by simp,zxD ap aN (f7.1 cq),rfl⟩⟩;simp[zmj,AV.sc,AV.scV,AV.scA,AV.scB]
     ·have cW:(200:Int)<r:=by omega
      simp[cW,AV.isV];refine hF (dG none ?_) _;rw[if_neg];intro je;have:=List.all_eq_true.1 je (subst ks co.args[i]) (List.mem_map.2 ⟨_,bp,rfl⟩);exact cq (f7.2 (of_decide_eq_true this))
    ·obtain rfl:i=co.args.length:=by omega
     rw[List.take_length]at aN;have fO:=dG (some (co.args.map (subst ks))) (if_pos (List.all_eq_true.2 λy hy=>by
      obtain⟨x,hx,rfl⟩:=List.mem_map.1 hy;exact decide_eq_true (aN x hx)))
     rw[fO]at hK;simp[zs8,fZ,bT,cx,bR,Con.cs,jU];unfold zmm;refine ALoop.own 14 za1 3 rfl ?_;have cD:(H++[AB.cells [.int .i64 5,.int .i64 n,.sl (VT.css ks) .none],.cells [.str d.name,.int .i64 d.vars,.sl (d.cons.map Con.cs) .none],.cells (ks.map λx=>.int .i64 x.nodes)]).length=H.length+3:=by simp
     rw[cD];have aI:∀ m,HSc (H++[.cells [.int .i64 5,.int .i64 n,.sl (VT.css ks) .none],.cells [.str d.name,.int .i64 d.vars,.sl (d.cons.map Con.cs) .none],.cells (ks.map λx=>.int .i64 x.nodes),.perm za1 3 m]):=λm=>by have:=f8.append (J:=[.perm za1 3 m]) rfl;simpa using this
     rw[List.append_assoc];show zmm (.ptr H.length 0) (.sl [] (.own (H.length+3))) (.sl (VT.css co.args) .none) (.int .i64 co.args.length) (.int .i64 0) (H++[.cells [.int .i64 5,.int .i64 n,.sl (VT.css ks) .none],.cells [.str d.name,.int .i64 d.vars,.sl (d.cons.map Con.cs) .none],.cells (ks.map λx=>.int .i64 x.nodes),.perm za1 3 0]) (Out H.length K);refine zO6 (Inv:=λq t14 t95 H'=>∃ i:Nat,i≤co.args.length∧q=co.args.length-i∧t95=.int .i64 i∧t14=.sl (VT.css ((co.args.map (subst ks)).take i)) (.own (H.length+3))∧H'=H++[.cells [.int .i64 5,.int .i64 n,.sl (VT.css ks) .none],.cells [.str d.name,.int .i64 d.vars,.sl (d.cons.map Con.cs) .none],.cells (ks.map λx=>.int .i64 x.nodes),.perm za1 3 i]) co.args.length ?_ ?_
     ·intro _;exact⟨0,by omega,by omega,rfl,by simp[VT.css],rfl⟩
     ·rintro q t14 t95 H' ⟨i,hi,rfl,rfl,rfl,rfl⟩ hsc20 hlen20 hsF20 Kb20 hKb20;by_cases ap:i<co.args.length
      ·have bp:=List.getElem_mem ap;obtain⟨x1,x2,x3,aB,bH,bh,bC⟩:=za2 co.args[i];simp[zs9,ap,aB,bH,bh,bC];rw[←aB];refine zRI _ ks (λy hy=>by have:=jf y hy;omega) (by omega) co.args[i] (Nat.le_refl _) (by have:=ky _ bp;omega) _ _ ?_;rw[zei];simp[zax,zaN,zaK];refine⟨by omega,⟨by omega,by omega⟩,?_⟩;rw[zat (by omega) (by omega),show min i co.args.length=i by omega];refine hKb20 _ _ ⟨co.args.length-(i+1),by omega,Back.at (H2:=H++[.cells [.int .i64 5,.int .i64 n,.sl (VT.css ks) .none],.cells [.str d.name,.int .i64 d.vars,.sl (d.cons.map Con.cs) .none],.cells (ks.map λx=>.int .i64 x.nodes),.perm za1 3 (i+1)]) (J:=[_]) (by simp;rfl) (by simp) (aI _) ?_ ⟨_,_,rfl,i+1,by omega,rfl,by simp,?_,rfl⟩⟩
       ·simp[zmk,AV.sc,AV.scV,AV.scA,AV.scB]
       ·rw[zhe (by simpa using ap)];simp
      ·obtain rfl:i=co.args.length:=by omega
       rw[List.take_of_length_le (by simp)];simp[zs9,AV.isV];exact Out.tup hs hK ⟨slV,zaU rfl rfl,trivial⟩
def zhq (i:Nat):VT→Bool
 | .mk k n ks=>k == 4 && n == i && ks.length == 0
def zcO:List VT→Nat→Bool
 | [],_=>true
 | x::l,i=>zhq i x && zcO l (i+1)
def zbS (d vars:Int):VT→Bool
 | .mk k n ks=>k == 5 && n == d && (ks.length:Int) == vars && zcO ks 0
mutual
def zcA (d:Int):VT→Bool
 | .mk k n ks=>(k == 5 && n == d) || zeU d ks
def zeU (d:Int):List VT→Bool
 | []=>false
 | t::ts=>zcA d t || zeU d ts
end
theorem zvE (v:VT) (d vars:Int) (hb:v.nodes≤1000000) (H:zaa) (K:AV→zaa→Prop) (hK:K (.bool (zbS d vars v)) H):ACalls tP zj6 [.agg v.cs,.int .i64 d,.int .i64 vars] H K:=by
 refine ACalls.out (zWX λhs=>?_);obtain⟨k,n,ks⟩:=v;have bS:VT.nodesL ks+1≤1000000:=by simpa[VT.nodes]using hb
 have bq:=VT.len_le ks;have hO:∀ J,Out H.length K (.bool (k == 5 && n == d && (ks.length:Int) == vars && zcO ks 0)) (H++J):=λJ=>Out.bool rfl (Nat.le_refl _) hs (by simpa[zbS]using hK);simp only[VT.cs,zEC];cases h5:(k == 5) with
 | false=>
  have:(k != 5)=true:=by simp[bne,h5]
  rw[h5]at hO;simp[this];exact hO _
 | true=>
 have f9:(k != 5)=false:=by simp[bne,h5]
 cases hn:(n == d) with
 | false=>
  have:(n != d)=true:=by simp[bne,hn]
  rw[h5,hn]at hO;simp[f9,this];exact hO _
 | true=>
 have bB:(n != d)=false:=by simp[bne,hn]
 cases hv:((ks.length:Int) == vars) with
 | false=>
  have:((ks.length:Int) != vars)=true:=by simp[bne,hv]
  rw[h5,hn,hv]at hO;simp[f9,bB,this];exact hO _
 | true=>
 have bN:((ks.length:Int) != vars)=false:=by simp[bne,hv]
 rw[h5,hn,hv]at hO;simp only[Bool.true_and]at hO;simp[f9,bB,bN];refine zWV (Inv:=λq t7 H'=>∃ i:Nat,i≤ks.length∧q=ks.length-i∧t7=.int .i64 i∧zcO (ks.drop i) i=zcO ks 0∧H'=H++[.cells [.int .i64 k,.int .i64 n,.sl (VT.css ks) .none]]) ks.length ?_ ?_
 ·intro _;exact⟨0,by omega,by omega,rfl,by simp,rfl⟩
 ·rintro q t7 H' ⟨i,hi,rfl,rfl,ho,rfl⟩ hsc aq aO Kb aw;by_cases ap:i<ks.length
  ·rw[List.drop_eq_getElem_cons ap,zcO]at ho;obtain⟨k',n',ks',hx⟩:∃ k' n' ks',ks[i]=.mk k' n' ks':=by cases h:ks[i] with | mk a b c=>exact⟨a,b,c,rfl⟩
   rw[hx,zhq]at ho;cases g1:(k' == 4) with
   | false=>
    have:(k' != 4)=true:=by simp[bne,g1]
    rw[g1]at ho;simp only[Bool.false_and]at ho;rw[←ho]at hO;simp[zgV,ap,hx,VT.cs,this];exact hO _
   | true=>
   have g1':(k' != 4)=false:=by simp[bne,g1]
   cases g2:(n' == (i:Int)) with
   | false=>
    have:(n' != (i:Int))=true:=by simp[bne,g2]
    rw[g1,g2]at ho;simp only[Bool.false_and,Bool.and_false]at ho;rw[←ho]at hO;simp[zgV,ap,hx,VT.cs,g1',this];exact hO _
   | true=>
   have g2':(n' != (i:Int))=false:=by simp[bne,g2]
   by_cases g3:ks'.length=0
   ·have g3':¬ (0:Int)<ks'.length:=by omega
    have g3'':¬ 0<ks'.length:=by omega
    rw[g1,g2,g3]at ho;simp only[Bool.true_and,BEq.rfl]at ho;simp[zgV,ap,hx,VT.cs,g1',g2',g3',g3''];rw[zat (by omega) (by omega)];refine aw _ _ ⟨ks.length-(i+1),by omega,Back.here (by simp) hsc ?_ ⟨_,rfl,i+1,by omega,rfl,by simp,ho,rfl⟩⟩;simp[zoj,AV.sc,AV.scV,AV.scA,AV.scB]
   ·have g3':(0:Int)<ks'.length:=by omega
    have g3'':0<ks'.length:=by omega
    have g4:(ks'.length == 0)=false:=by simpa using g3
    rw[g4]at ho;simp only[Bool.and_false,Bool.false_and]at ho;rw[←ho]at hO;simp[zgV,ap,hx,VT.cs,g1',g2',g3',g3''];exact hO _
  ·obtain rfl:i=ks.length:=by omega
   rw[List.drop_length,zcO]at ho;rw[←ho]at hO;simp[zgV];exact hO _
theorem zFN:zej tP zjM=true:=by kernel_rfl
theorem zxG (d:Int):∀ l:List VT,zeU d l=l.any (zcA d)
 | []=>rfl
 | t::ts=>by simp[zeU,zxG d ts]
theorem zSh (d:Int):∀ (m:Nat) (v:VT),v.nodes≤m→v.nodes≤1000000→∀ (H:zaa) (K:AV→zaa→Prop),K (.bool (zcA d v)) H→ACalls tP zjL [.agg v.cs,.int .i64 d] H K:=by
 intro m;induction m with
 | zero=>intro v h;have:=v.nodes_pos;omega
 | succ m ih=>
  intro v hv hb H K hK;obtain⟨k,n,ks⟩:=v;have bS:VT.nodesL ks+1≤1000000:=by simpa[VT.nodes]using hb
  have bq:=VT.len_le ks;refine ACalls.out (zSg λhs=>?_);have hO:∀ J,Out H.length K (.bool ((k == 5 && n == d) || ks.any (zcA d))) (H++J):=λJ=>Out.bool rfl (Nat.le_refl _) hs (by simpa[zcA,zxG]using hK);have go:(k == 5 && n == d)=false→∀ KK:AV→zaa→Prop,(∀ b,Out H.length K (.bool b) (H++[.cells [.int .i64 k,.int .i64 n,.sl (VT.css ks) .none],.cells [.int .i64 d]])→KK (.bool b) (H++[.cells [.int .i64 k,.int .i64 n,.sl (VT.css ks) .none],.cells [.int .i64 d]])) →
    ACalls tP zfy [.sl (VT.css ks) .none,.fn zjM [.ptr (H.length+1) 0]] (H++[.cells [.int .i64 k,.int .i64 n,.sl (VT.css ks) .none],.cells [.int .i64 d]]) KK:=by
   intro da KK hKK;rw[da,Bool.false_or]at hO;refine zo5 ks (by omega) _ _ _ (by simp[AV.sc,AV.scV,AV.scA,AV.scB]) (λi H'=>(ks.drop i).any (zcA d)=ks.any (zcA d)∧H'=H++[.cells [.int .i64 k,.int .i64 n,.sl (VT.css ks) .none],.cells [.int .i64 d]]) ⟨by simp,rfl⟩ ?_ ?_
   ·rintro i hi H' aQ ⟨ho,rfl⟩;have bk:=VT.kid_lt (k:=k) (n:=n) hi;rw[List.drop_eq_getElem_cons hi,List.any_cons]at ho;simp only[aCallV,zFN,List.singleton_append];refine ACalls.out (zSD λbe=>?_);obtain⟨x1,x2,x3,aB,bH,bh,bC⟩:=za2 ks[i];simp[zC0,aB];rw[←aB];refine ih ks[i] (by omega) (by omega) _ _ ?_;refine Out.bool (J:=[_]) (H2:=H++[.cells [.int .i64 k,.int .i64 n,.sl (VT.css ks) .none],.cells [.int .i64 d]]) (by simp;rfl) (by simp) be ?_;cases hb:zcA d ks[i] with
    | false=>rw[hb,Bool.false_or]at ho;exact .inl ⟨rfl,ho,rfl⟩
    | true=>rw[hb,Bool.true_or]at ho;rw[←ho]at hO;exact .inr ⟨rfl,hKK _ (hO _)⟩
   ·rintro H' ⟨ho,rfl⟩;rw[List.drop_length,List.any_nil]at ho;rw[←ho]at hO;exact hKK _ (hO _)
  simp only[VT.cs,zCV];cases h5:(k == 5) with
  | false=>simp[h5,AV.isB];refine go (by rw[h5];rfl) _ λb hb=>?_;simpa using hb
  | true=>
   cases hn:(n == d) with
   | false=>simp[h5,hn,AV.isB];refine go (by rw[hn];simp) _ λb hb=>?_;simpa using hb
   | true=>rw[h5,hn]at hO;simp[h5,hn];exact hO _
def zbC (l:List Bool):List AV:=l.map AV.bool
@[simp] theorem yaw (l:List Bool):(zbC l).length=l.length:=by simp[zbC]
theorem zFJ (n:Nat):(List.replicate n [AV.bool false]).flatten=zbC (List.replicate n false):=by
 induction n with
 | zero=>rfl
 | succ n ih=>simp[List.replicate_succ,ih,zbC]
theorem zwr {l:List Bool} {i:Nat} (h:i<l.length) (b:Bool):(zbC l).take i++.bool b::(zbC l).drop (i+1)=zbC (l.set i b):=by simp[zbC,List.set_eq_take_append_cons_drop,h]
theorem zwq (m:Nat) (l:List Bool):(zbC l).all (AV.scA m)=true:=by simp[zbC]
theorem zyp:∀ l:List Bool,plain (zbC l)=some (l.map λb=>[AV.bool b]).flatten
 | []=>rfl
 | b::l=>by have:=zyp l;simp[zbC]at this ⊢;simp[plain,this,AV.pd]
theorem ztg (aa:List Dat) (d:Nat) (c:Nat) (hd:d<aa.length) (hc:c<(aa[d]).cons.length) (hl:aa.length≤1000000) (bQ:(aa[d]).cons.length≤1000000) (eH:((aa[d]).cons[c]).args.length≤1000000)
  (hb:∀ x∈((aa[d]).cons[c]).args,x.nodes≤1000000) (H:zaa) (K:AV→zaa→Prop)
  (hK:K (.sl (((aa[d]).cons[c]).args.map λt=>[.bool (zbS d (aa[d]).vars t)]) .none) H) :
  ACalls tP zfw [.sl (aa.map Dat.cs) .none,.int .i64 d,.int .i64 c] H K:=by
 refine ACalls.out (zPh λhs=>?_);have e1:(aa.map Dat.cs)[d]?=some (aa[d]).cs:=by simp[hd]
 have e2:((aa[d]).cons.map Con.cs)[c]?=some ((aa[d]).cons[c]).cs:=by simp[hc]
 generalize hD:aa[d]=D at *;generalize hA:D.cons[c]=C at *;have h1:¬ (d:Int)<0:=by omega
 have h2:¬ (aa.length:Int)≤d:=by omega
 have h3:¬ (c:Int)<0:=by omega
 have h4:¬ (D.cons.length:Int)≤c:=by omega
 simp[zB0,h1,h2,h3,h4,e1,e2,Dat.cs,Con.cs,hd,hD,hc,hA];simp only[zba,Int.toNat_natCast,zFJ];refine⟨⟨by omega,by omega,by omega,by omega⟩,?_⟩;refine zPf (Inv:=λq t49 H'=>∃ (i:Nat) (bs:List Bool),i≤C.args.length∧q=C.args.length-i∧t49=.int .i64 i∧bs.length=C.args.length∧(∀ j (hj:j<i) (h':j<C.args.length),bs[j]?=some (zbS d D.vars C.args[j]))∧H'=H++[.cells (zbC bs)]) C.args.length ?_ ?_
 ·intro _;exact⟨0,_,by omega,by omega,rfl,by simp,by omega,rfl⟩
 ·rintro q t49 H' ⟨i,bs,hi,rfl,rfl,ck,ie,rfl⟩ hsc aq aO Kb aw;by_cases ap:i<C.args.length
  ·obtain⟨k,n,ks,hx⟩:∃ k n ks,C.args[i]=.mk k n ks:=by cases h:C.args[i] with | mk a b c=>exact⟨a,b,c,rfl⟩
   have ga:=hb _ (List.getElem_mem ap);rw[hx,VT.nodes]at ga;have bq:=VT.len_le ks;have inner:∀ b0:Bool,b0=(k == 5 && n == (d:Int) && (ks.length:Int) == D.vars) →
     ztf (.sl (aa.map Dat.cs) .none) (.int .i64 d) (.ms H.length 0 C.args.length C.args.length) (.int .i64 i) (.sl (VT.css C.args) .none) (.int .i64 C.args.length) (.int .i64 i) (.sl (VT.css ks) .none) (.int .i64 ks.length) (.int .i64 0)
      (H++[.cells (zbC (bs.set i b0)),.cells [.int .i64 k,.int .i64 n,.sl (VT.css ks) .none]]) (Out H.length K) Kb:=by
    intro b0 bJ;refine zPe (Inv:=λq t80 H'=>∃ (j:Nat) (b:Bool),j≤ks.length∧q=ks.length-j∧t80=.int .i64 j∧(b && zcO (ks.drop j) j)=zbS d D.vars C.args[i]∧H'=H++[.cells (zbC (bs.set i b)),.cells [.int .i64 k,.int .i64 n,.sl (VT.css ks) .none]]) ks.length ?_ ?_
    ·intro _;exact⟨0,b0,by omega,by omega,rfl,by simp[hx,zbS,bJ],rfl⟩
    ·rintro q t80 H' ⟨j,b,hj,rfl,rfl,eB,rfl⟩ jh cD ji Kb1 eI;have hsc0:∀ b:Bool,HSc (H++[.cells (zbC (bs.set i b))]):=λb=>hs.snoc (by simp[AB.sc,zwq]);have cv:∀ b:Bool,HSc (H++[.cells (zbC (bs.set i b)),.cells [.int .i64 k,.int .i64 n,.sl (VT.css ks) .none]]):=λb=>hs.append (by simp[AB.sc,zwq]);by_cases a6:j<ks.length
     ·obtain⟨k',n',ks',eS⟩:∃ k' n' ks',ks[j]=.mk k' n' ks':=by cases h:ks[j] with | mk a b c=>exact⟨a,b,c,rfl⟩
      have mn:i<bs.length:=by omega
      rw[List.drop_eq_getElem_cons a6,zcO,eS,zhq]at eB;have cX:∀ (b':Bool) J,(b' && zcO (ks.drop (j+1)) (j+1))=zbS d D.vars C.args[i]→zte (.sl (aa.map Dat.cs) .none) (.int .i64 d) (.ms H.length 0 C.args.length C.args.length) (.int .i64 i) (.sl (VT.css C.args) .none) (.int .i64 C.args.length) (.int .i64 i) (.sl (VT.css ks) .none) (.int .i64 ks.length) (.int .i64 j)
        (H++.cells (zbC (bs.set i b'))::.cells [.int .i64 k,.int .i64 n,.sl (VT.css ks) .none]::J) (Out H.length K) Kb Kb1:=by
       intro b' J kz;simp[zte];rw[zat (by omega) (by omega)];refine eI _ _ ⟨ks.length-(j+1),by omega,Back.at (J:=J) (H2:=H++[.cells (zbC (bs.set i b')),.cells [.int .i64 k,.int .i64 n,.sl (VT.css ks) .none]]) (by simp) (by simp) (cv _) ?_ ⟨_,rfl,j+1,b',by omega,rfl,by simp,kz,rfl⟩⟩;simp[zmn,AV.sc,AV.scV,AV.scA,AV.scB]
      have bU:∀ l,List.take i (zbC (bs.set i b))++.bool false::List.drop (i+1) (zbC (bs.set i b))=l→l=zbC (bs.set i false):=by rintro _ rfl;rw[zwr (by simpa using mn)];simp
      cases g1:(k' == 4) with
      | false=>
       have:(k' != 4)=true:=by simp[bne,g1]
       rw[g1]at eB;simp[zgN,zgO,a6,eS,VT.cs,this,ap,ck,bU _ rfl];refine⟨by omega,cX _ _ ?_⟩;simpa using eB.symm
      | true=>
      have g1':(k' != 4)=false:=by simp[bne,g1]
      cases g2:(n' == (j:Int)) with
      | false=>
       have:(n' != (j:Int))=true:=by simp[bne,g2]
       rw[g1,g2]at eB;simp[zgN,zgO,a6,eS,VT.cs,g1',this,ap,ck,bU _ rfl];refine⟨by omega,cX _ _ ?_⟩;simpa using eB.symm
      | true=>
      have g2':(n' != (j:Int))=false:=by simp[bne,g2]
      by_cases g3:ks'.length=0
      ·have g3':¬ (0:Int)<ks'.length:=by omega
       have g3'':¬ 0<ks'.length:=by omega
       simp[zgN,zgO,a6,eS,VT.cs,g1',g2',g3',g3''];refine cX _ _ ?_;simpa[g1,g2,g3]using eB
      ·have g3':(0:Int)<ks'.length:=by omega
       have g3'':0<ks'.length:=by omega
       have g4:(ks'.length == 0)=false:=by simpa using g3
       rw[g4]at eB;simp[zgN,zgO,a6,eS,VT.cs,g1',g2',g3',g3'',ap,ck,bU _ rfl];refine⟨by omega,cX _ _ ?_⟩;simpa using eB.symm
     ·obtain rfl:j=ks.length:=by omega
      rw[List.drop_length,zcO,Bool.and_true]at eB;simp[zgN];rw[zat (by omega) (by omega)];refine aw _ _ ⟨C.args.length-(i+1),by omega,Back.at (J:=[.cells [.int .i64 k,.int .i64 n,.sl (VT.css ks) .none]]) (H2:=H++[.cells (zbC (bs.set i b))]) (by simp) (by simp) (hsc0 _) ?_ ⟨_,rfl,i+1,bs.set i b,by omega,rfl,by simp,by simpa using ck,?_,rfl⟩⟩
      ·simp[zmo,AV.sc,AV.scV,AV.scA,AV.scB]
      ·intro j hj h';by_cases c9:j=i
       ·subst c9;rw[←eB];simp[ck,ap]
       ·rw[List.getElem?_set_ne (by omega)];exact ie j (by omega) h'
   have bU:∀ b l,List.take i (zbC bs)++.bool b::List.drop (i+1) (zbC bs)=l→l=zbC (bs.set i b):=by rintro b _ rfl;rw[zwr (by omega)]
   cases h5:(k == 5) with
   | false=>simp[zit,ap,hx,VT.cs,e1,hd,hD,Dat.cs,h5,ck,bU _ _ rfl];refine⟨by omega,inner _ ?_⟩;simp[h5]
   | true=>
   cases hn:(n == (d:Int)) with
   | false=>simp[zit,ap,hx,VT.cs,e1,hd,hD,Dat.cs,h5,hn,ck,bU _ _ rfl];refine⟨by omega,inner _ ?_⟩;simp[h5,hn]
   | true=>simp[zit,ap,hx,VT.cs,e1,hd,hD,Dat.cs,h5,hn,ck,bU _ _ rfl];refine⟨by omega,inner _ ?_⟩;simp[h5,hn]
  ·obtain rfl:i=C.args.length:=by omega
   simp[zit];have kZ:bs=C.args.map (zbS d D.vars):=by refine List.ext_getElem (by simpa using ck) λj h1 h2=>?_;have:=ie j (by omega) (by omega);rw[List.getElem?_eq_getElem h1]at this;simpa using this
   subst kZ;refine⟨_,H,_,rfl,Nat.le_refl _,hs,.one (.frz H.length 0 _ _ 1 (zbC (C.args.map (zbS d D.vars))) (C.args.map λt=>[.bool (zbS d D.vars t)]) (Nat.le_refl _) (by simp) (by simp) ?_ (by simp) (by simp) (Nat.le_refl _)),hK⟩;rw[List.drop_zero,List.take_of_length_le (by simp),zyp,List.map_map];rfl
end Go.Proofs.YtdmamdnkcefmmaaGreatDoor
namespace Go.Abs
open Go
def zb6 (b:UInt8):Bool:=decide (97≤(b.toNat:Int)) && decide ((b.toNat:Int)≤122)
def bUp (b:UInt8):Bool:=decide (65≤(b.toNat:Int)) && decide ((b.toNat:Int)≤90)
def za3 (b:UInt8):Bool:=decide (48≤(b.toNat:Int)) && decide ((b.toNat:Int)≤57)
def bIn (b:UInt8):Bool:=zb6 b || bUp b || za3 b || b == 95
def zdt (b:UInt8):Bool:=b == 9 || b == 10 || b == 13 || b == 32
def zcj:List UInt8→Int→Bool
 | [],_=>true
 | b::l,n=>let m:=n*10+((b.toNat:Int)-48)
  if m>1000000 then false else zcj l m
def zdC (r:List UInt8):Bool:=r.take 2 == [45,62] || r.take 2 == [60,61] || r.take 2 == [61,61]
def sgns:List UInt8:=[40,41,44,61,124,43,45,42,47,37,60,59,95]
def sgn (r:List UInt8):Nat:=
 if zdC r=true then 2 else match r with
 | []=>0
 | b::_=>if sgns.contains b=true then 1 else 0
structure Tk where
 kind:Int
 text:List UInt8
 pos:Nat
def tok (kw:List UInt8→Bool) (b:UInt8) (r:List UInt8):Except Int (Int × Nat):=
 if (zb6 b || bUp b)=true then
  let n:=(r.takeWhile bIn).length+1
  if n>24 then .error 9 else .ok (if bUp b=true then 2 else if kw ((b::r).take n)=true then 4 else 1,n)
 else if za3 b=true then
  let n:=(r.takeWhile za3).length+1
  if b == 48 && decide (n>1) then .error 2 else if zcj ((b::r).take n) 0=true then .ok (3,n) else .error 9
 else
  let n:=sgn (b::r)
  if n=0 then .error 2 else .ok (5,n)
theorem zrw {kw:List UInt8→Bool} {b:UInt8} {r:List UInt8} {k:Int} {n:Nat} (h:tok kw b r=.ok (k,n)):0<n:=by
 unfold tok at h;split at h
 ·simp only at h;split at h <;> simp at h;omega
 ·split at h
  ·simp only at h;split at h
   ·simp at h
   ·split at h <;> simp at h;omega
  ·simp only at h;split at h <;> simp at h;omega
def zbB (kw:List UInt8→Bool) (r:List UInt8) (pos:Nat):Except (Nat × Int) (List Tk):=
 match r with
 | []=>.ok [⟨6,[],pos⟩]
 | b::r'=>
  if zdt b=true then zbB kw r' (pos+1)
  else if b == 35 then zbB kw (r'.dropWhile (· != 10)) (pos+1+(r'.takeWhile (· != 10)).length)
  else match tok kw b r' with
   | .error e=>.error (pos,e)
   | .ok (k,n)=>match zbB kw (r'.drop (n-1)) (pos+n) with
    | .error e=>.error e
    | .ok l=>.ok (⟨k,(b::r').take n,pos⟩::l)
termination_by r.length
decreasing_by
 ·simp
 ·have:=(List.dropWhile_sublist (p:=(· != 10)) (l:=r')).length_le;simp;omega
 ·simp;omega
end Go.Abs
namespace Go.Proofs.YtdmamdnkcefmmaaGreatDoor
open Go Go.Abs
set_option maxRecDepth 100000
section
variable (t0 t5 t6 t7 t8 t9:AV) (H:zaa) (K:Kt) (Kb5 Kb9 Kb10 Kb18 Kb29:Lt)
def zfV:Nat→List Bool | 5=>rl false [0,1,4,2,54] | 9=>rl false [0,1,4,2,54] | _=>[]
noncomputable def zt0:Code:=Tryz.f227.body.getD .skip
noncomputable def zSd:List ResultVar:=Tryz.f227.results.toList
def zgQ:List AV:=t0::ux 4 (t5::t6::ux 54 [])
def zCU:List Bool:=zfV 5
noncomputable def zt1:Code:=zar [1,0,1,1,1,1,0,0,0] zt0
def zCR:AExit→List AV→zaa→Prop:=zas tP zfV [1,0,1,1,1,1,0,0] zt0 (zay tP zSd K)
def zm7:Prop:=ALoop tP zt1 (zCR K) (zgQ t0 t5 t6) H
def zgR (t0 t5 t6:AV) (H:zaa) (K:Kt) (Kb5:Lt):Prop:=Kb5 (zgQ t0 t5 t6) H
def zm5:List AV:=t0::ux 4 (t5::t6::ux 54 [])
def zSb:List Bool:=zfV 9
noncomputable def zR8:Code:=zar [1,0,1,0,1,0,0,0,0] zt1
def zR7:AExit→List AV→zaa→Prop:=zas tP zfV [1,0,1,0,1,0,0,0] zt1 (zbV zCU Kb5 (zCR K))
def zCT:Prop:=ALoop tP zR8 (zR7 K Kb5) (zm5 t0 t5 t6) H
def zCS:Prop:=zah 0 t0 λt57=>zau [(.int .i64 0),(.str []),(.int .i64 0)] [(0,1),(1,1),(2,1)] [(0,(.int .i64 6)),(2,t57)] λt58=>zaw 3 [(.int .i64 0),(.str []),(.int .i64 0)] 1 [(0,t58)] λt59=>zax zeQ 3 32 t5 t59 H λt60 H=>zaE [t60,(.int .i64 0),(.int .i64 0)] (K · H)
def zm6:Prop:=zCS t0 t5 H K
def ztZ:Prop:=zah 0 t0 λt28=>zac .lss false t6 t28 λt29=>zag t29 (zbF t0 t6 λt34=>zac .eql false t34 (.int .u8 10) λt35=>zag t35 (zgR t0 t5 t6 H K Kb5) (zac .add false t6 (.int .i64 1) λt31=>Kb9 (zm5 t0 t5 t31) H)) (zm6 t0 t5 H K)
def ztY:Prop:=zah 0 t0 λt14=>zac .lss false t6 t14 λt15=>zag t15 (zbF t0 t6 λt18=>ACalls tP zql [t18] H λt19 H=>zag t19 (zac .add false t6 (.int .i64 1) λt21=>zgR t0 t5 t21 H K Kb5) (zbF t0 t6 λt24=>zac .eql false t24 (.int .u8 35) λt25=>zag t25 (zCT t0 t5 t6 H K Kb5) (ACalls tP zqm [t0,t6] H λt39 H=>zaA t39 0 λt40=>zaA t39 1 λt41=>zav [(.int .i64 0),(.str []),(.int .i64 0)] H λt7 H=>zan 3 t7 t40 H λH=>zac .neq false t41 (.int .i64 0) λt43=>zag t43 (zaE [.snil,t6,t41] (K · H)) (zae true 3 t7 H λt47=>zaw 3 [(.int .i64 0),(.str []),(.int .i64 0)] 1 [(0,t47)] λt48=>zax zeQ 3 32 t5 t48 H λt49 H=>zaf 1 t7 λt51=>zae false 1 t51 H λt52=>zah 0 t52 λt53=>zac .add false t6 t53 λt54=>zgR t0 t49 t54 H K Kb5)))) (zm6 t0 t5 H K)
def ztX:Prop:=zah 0 t0 λt10=>zac .gtr false t10 (.int .i64 16384) λt11=>zag t11 (zaE [.snil,(.int .i64 0),(.int .i64 9)] (K · H)) (zm7 t0 .snil (.int .i64 0) H K)
def zdj:Nat→List Bool | 5=>rl false [0,1,4,2,193] | 10=>rl false [0,1,4,2,193] | 18=>rl false [0,1,4,4,191] | 29=>rl false [0,1,4,4,191] | _=>[]
noncomputable def zst:Code:=Tryz.f145.body.getD .skip
noncomputable def zMT:List ResultVar:=Tryz.f145.results.toList
def zfO:List AV:=t0::ux 4 (t5::t6::ux 193 [])
def zlL:List Bool:=zdj 5
noncomputable def zfN:Code:=zar [1,1,1,0,1,0,0] zst
def zlF:AExit→List AV→zaa→Prop:=zas tP zdj [1,1,1,0,1,0] zst (zay tP zMT K)
def zlK:Prop:=ALoop tP zfN (zlF K) (zfO t0 t5 t6) H
def ze8 (t0 t5 t6:AV) (H:zaa) (K:Kt) (Kb5:Lt):Prop:=Kb5 (zfO t0 t5 t6) H
def zlI:List AV:=t0::ux 4 (t5::t6::ux 193 [])
def zMP:List Bool:=zdj 10
noncomputable def zMI:Code:=zar [1,0,1,1,0,1,0,0,0,0] zfN
def zMF:AExit→List AV→zaa→Prop:=zas tP zdj [1,0,1,1,0,1,0,0,0] zfN (zbV zlL Kb5 (zlF K))
def zAZ:Prop:=ALoop tP zMI (zMF K Kb5) (zlI t0 t5 t6) H
def zsq:Prop:=zah 0 t0 λt42=>zac .lss false t6 t42 λt43=>zad t43 true H (λK'=>K' t0 H) λt45 H=>zad t43 true H (λK'=>K' t6 H) λt46 H=>zad t43 true H (λK'=>zbF t45 t46 (K' · H)) λt47 H=>zad t43 true H (λK'=>zac .neq false t47 (.int .u8 10) (K' · H)) λt48 H=>zam t43 t48 (.bool false) λt49=>zag t49 (zac .add false t6 (.int .i64 1) λt51=>Kb10 (zlI t0 t5 t51) H) (ze8 t0 t5 t6 H K Kb5)
def zin:List AV:=t0::ux 4 (t5::t6::t7::t8::ux 191 [])
def zMQ:List Bool:=zdj 18
noncomputable def zMJ:Code:=zar [1,0,1,1,1,1,0,0,1,0,0,0,0] zfN
def zMG:AExit→List AV→zaa→Prop:=zas tP zdj [1,0,1,1,1,1,0,0,1,0,0,0] zfN (zbV zlL Kb5 (zlF K))
def zsu:Prop:=ALoop tP zMJ (zMG K Kb5) (zin t0 t5 t6 t7 t8) H
def zio:Prop:=zac .add false t6 t8 λt193=>ze8 t0 t5 t193 H K Kb5
def zfa:Prop:=zio t0 t5 t6 t8 H K Kb5
def ze9:Prop:=zac .add false t6 t8 λt135=>zaR 0 0 t0 (some t6) (some t135) λt136=>zau [(.int .i64 0),(.str []),(.int .i64 0)] [(0,1),(1,1),(2,1)] [(0,t9),(1,t136),(2,t6)] λt138=>zaw 3 [(.int .i64 0),(.str []),(.int .i64 0)] 1 [(0,t138)] λt139=>zax zbt 3 32 t5 t139 H λt140 H=>zfa t0 t140 t6 t8 H K Kb5
def zsr:Prop:=zac .add false t6 t8 λt79=>zah 0 t0 λt81=>zac .lss false t79 t81 λt82=>zad t82 true H (λK'=>K' t0 H) λt84 H=>zad t82 true H (λK'=>K' t6 H) λt85 H=>zad t82 true H (λK'=>K' t8 H) λt86 H=>zad t82 true H (λK'=>zac .add false t85 t86 (K' · H)) λt87 H=>zad t82 true H (λK'=>zbF t84 t87 (K' · H)) λt88 H=>zad t82 true H (λK'=>ACalls tP zjB [t88] H K') λt89 H=>zad t82 true H (λK'=>K' t89 H) λt90 H=>zad t90 false H (λK'=>K' t0 H) λt91 H=>zad t90 false H (λK'=>K' t6 H) λt92 H=>zad t90 false H (λK'=>K' t8 H) λt93 H=>zad t90 false H (λK'=>zac .add false t92 t93 (K' · H)) λt94 H=>zad t90 false H (λK'=>zbF t91 t94 (K' · H)) λt95 H=>zad t90 false H (λK'=>ACalls tP zgm [t95] H K') λt96 H=>zad t82 true H (λK'=>zam t90 (.bool true) t96 (K' · H)) λt97 H=>zad t82 true H (λK'=>K' t97 H) λt98 H=>zad t98 false H (λK'=>K' t0 H) λt99 H=>zad t98 false H (λK'=>K' t6 H) λt100 H=>zad t98 false H (λK'=>K' t8 H) λt101 H=>zad t98 false H (λK'=>zac .add false t100 t101 (K' · H)) λt102 H=>zad t98 false H (λK'=>zbF t99 t102 (K' · H)) λt103 H=>zad t98 false H (λK'=>ACalls tP zhH [t103] H K') λt104 H=>zad t82 true H (λK'=>zam t98 (.bool true) t104 (K' · H)) λt105 H=>zad t82 true H (λK'=>K' t105 H) λt106 H=>zad t106 false H (λK'=>K' t0 H) λt107 H=>zad t106 false H (λK'=>K' t6 H) λt108 H=>zad t106 false H (λK'=>K' t8 H) λt109 H=>zad t106 false H (λK'=>zac .add false t108 t109 (K' · H)) λt110 H=>zad t106 false H (λK'=>zbF t107 t110 (K' · H)) λt111 H=>zad t106 false H (λK'=>zac .eql false t111 (.int .u8 95) (K' · H)) λt112 H=>zad t82 true H (λK'=>zam t106 (.bool true) t112 (K' · H)) λt113 H=>zam t82 t113 (.bool false) λt114=>zag t114 (zac .add false t8 (.int .i64 1) λt116=>Kb18 (zin t0 t5 t6 t7 t116) H) (zac .gtr false t8 (.int .i64 24) λt118=>zag t118 (zaE [.snil,t6,(.int .i64 9)] (K · H)) (ACalls tP zgm [t7] H λt121 H=>zag t121 (ze9 t0 t5 t6 t8 (.int .i64 2) H K Kb5) (zac .add false t6 t8 λt126=>zaR 0 0 t0 (some t6) (some t126) λt127=>ACalls tP zjC [t127] H λt128 H=>zag t128 (ze9 t0 t5 t6 t8 (.int .i64 4) H K Kb5) (ze9 t0 t5 t6 t8 (.int .i64 1) H K Kb5))))
def zlJ:List AV:=t0::ux 4 (t5::t6::t7::t8::ux 191 [])
def zMR:List Bool:=zdj 29
noncomputable def zMK:Code:=zar [1,0,1,1,1,1,0,0,1,1,1,0,0,0,0] zfN
def zMH:AExit→List AV→zaa→Prop:=zas tP zdj [1,0,1,1,1,1,0,0,1,1,1,0,0,0] zfN (zbV zlL Kb5 (zlF K))
def zsv:Prop:=ALoop tP zMK (zMH K Kb5) (zlJ t0 t5 t6 t7 t8) H
def zss:Prop:=zac .add false t6 t8 λt146=>zah 0 t0 λt148=>zac .lss false t146 t148 λt149=>zad t149 true H (λK'=>K' t0 H) λt151 H=>zad t149 true H (λK'=>K' t6 H) λt152 H=>zad t149 true H (λK'=>K' t8 H) λt153 H=>zad t149 true H (λK'=>zac .add false t152 t153 (K' · H)) λt154 H=>zad t149 true H (λK'=>zbF t151 t154 (K' · H)) λt155 H=>zad t149 true H (λK'=>ACalls tP zhH [t155] H K') λt156 H=>zam t149 t156 (.bool false) λt157=>zag t157 (zac .add false t8 (.int .i64 1) λt159=>Kb29 (zlJ t0 t5 t6 t7 t159) H) (zac .gtr false t8 (.int .i64 1) λt161=>zad t161 true H (λK'=>K' t7 H) λt163 H=>zad t161 true H (λK'=>zac .eql false t163 (.int .u8 48) (K' · H)) λt164 H=>zam t161 t164 (.bool false) λt165=>zag t165 (zaE [.snil,t6,(.int .i64 2)] (K · H)) (zac .add false t6 t8 λt172=>zaR 0 0 t0 (some t6) (some t172) λt173=>ACalls tP zgn [t173] H λt174 H=>zaA t174 0 λt175=>zaA t174 1 λt176=>aUn .not t176 λt178=>zag t178 (zaE [.snil,t6,(.int .i64 9)] (K · H)) (zac .add false t6 t8 λt185=>zaR 0 0 t0 (some t6) (some t185) λt186=>zau [(.int .i64 0),(.str []),(.int .i64 0)] [(0,1),(1,1),(2,1)] [(0,(.int .i64 3)),(1,t186),(2,t6)] λt188=>zaw 3 [(.int .i64 0),(.str []),(.int .i64 0)] 1 [(0,t188)] λt189=>zax zbt 3 32 t5 t189 H λt190 H=>zfa t0 t190 t6 t8 H K Kb5)))
def zlG:Prop:=zah 0 t0 λt17=>zac .lss false t6 t17 λt18=>zag t18 (zbF t0 t6 λt21=>zac .eql false t21 (.int .u8 9) λt23=>zad t23 false H (λK'=>K' t21 H) λt25 H=>zad t23 false H (λK'=>zac .eql false t25 (.int .u8 10) (K' · H)) λt26 H=>zam t23 (.bool true) t26 λt27=>zad t27 false H (λK'=>K' t21 H) λt29 H=>zad t27 false H (λK'=>zac .eql false t29 (.int .u8 13) (K' · H)) λt30 H=>zam t27 (.bool true) t30 λt31=>zad t31 false H (λK'=>K' t21 H) λt33 H=>zad t31 false H (λK'=>zac .eql false t33 (.int .u8 32) (K' · H)) λt34 H=>zam t31 (.bool true) t34 λt35=>zag t35 (zac .add false t6 (.int .i64 1) λt37=>ze8 t0 t5 t37 H K Kb5) (zac .eql false t21 (.int .u8 35) λt39=>zag t39 (zAZ t0 t5 t6 H K Kb5) (ACalls tP zjB [t21] H λt72 H=>zad t72 false H (λK'=>K' t21 H) λt74 H=>zad t72 false H (λK'=>ACalls tP zgm [t74] H K') λt75 H=>zam t72 (.bool true) t75 λt76=>zag t76 (zsu t0 t5 t6 t21 (.int .i64 1) H K Kb5) (ACalls tP zhH [t21] H λt143 H=>zag t143 (zsv t0 t5 t6 t21 (.int .i64 1) H K Kb5) (zaR 0 0 t0 (some t6) none λt54=>ACalls tP zp7 [t54] H λt55 H=>zac .eql false t55 (.int .i64 0) λt57=>zag t57 (zaE [.snil,t6,(.int .i64 2)] (K · H)) (zac .add false t6 t55 λt64=>zaR 0 0 t0 (some t6) (some t64) λt65=>zau [(.int .i64 0),(.str []),(.int .i64 0)] [(0,1),(1,1),(2,1)] [(0,(.int .i64 5)),(1,t65),(2,t6)] λt67=>zaw 3 [(.int .i64 0),(.str []),(.int .i64 0)] 1 [(0,t67)] λt68=>zax zbt 3 32 t5 t68 H λt69 H=>zfa t0 t69 t6 t55 H K Kb5)))))) (zah 0 t0 λt196=>zau [(.int .i64 0),(.str []),(.int .i64 0)] [(0,1),(1,1),(2,1)] [(0,(.int .i64 6)),(1,(.str [])),(2,t196)] λt197=>zaw 3 [(.int .i64 0),(.str []),(.int .i64 0)] 1 [(0,t197)] λt198=>zax zbt 3 32 t5 t198 H λt199 H=>zaE [t199,(.int .i64 0),(.int .i64 0)] (K · H))
def zsp:Prop:=zah 0 t0 λt13=>zac .gtr false t13 (.int .i64 16384) λt14=>zag t14 (zaE [.snil,(.int .i64 0),(.int .i64 9)] (K · H)) (zlK t0 .snil (.int .i64 0) H K)
def zSv (_:Nat):List Bool:=[]
noncomputable def zSw:Code:=Tryz.f245.body.getD .skip
def zCY:Prop:=zac .eql false t0 (.int .u8 9) λt4=>zad t4 false H (λK'=>K' t0 H) λt6 H=>zad t4 false H (λK'=>zac .eql false t6 (.int .u8 10) (K' · H)) λt7 H=>zam t4 (.bool true) t7 λt8=>zad t8 false H (λK'=>K' t0 H) λt10 H=>zad t8 false H (λK'=>zac .eql false t10 (.int .u8 13) (K' · H)) λt11 H=>zam t8 (.bool true) t11 λt12=>zad t12 false H (λK'=>K' t0 H) λt14 H=>zad t12 false H (λK'=>zac .eql false t14 (.int .u8 32) (K' · H)) λt15 H=>zam t12 (.bool true) t15 λt16=>K t16 H
variable {t0 t5 t6 t7 t8 t9} {H} {K} {Kb5 Kb9 Kb10 Kb18 Kb29}
theorem zSa (Inv:Nat→AV→zaa→Prop) (n:Nat) (h0:HSc H→Inv n t6 H)
  (ac:Rd1 (λt6=>zm5 t0 t5 t6) (λt6=>λH Kb9=>ztZ t0 t5 t6 H K Kb5 Kb9) H Inv):zCT t0 t5 t6 H K Kb5:=
 lp1 (M:=zfV) zSb t6 (by kernel_rfl) Inv n h0 ac
theorem zR9 (Inv:Nat→AV→AV→zaa→Prop) (n:Nat) (h0:HSc H→Inv n t5 t6 H)
  (ac:Rd2 (λt5=>λt6=>zgQ t0 t5 t6) (λt5=>λt6=>λH Kb5=>ztY t0 t5 t6 H K Kb5) H Inv):zm7 t0 t5 t6 H K:=
 lp2 (M:=zfV) zCU t5 t6 (by kernel_rfl) Inv n h0 ac
theorem zSc (h:HSc H→ztX t0 H K):ACalls tP zqi [t0] H K:=
 acb zfV Tryz.func227 zt0 (by kernel_rfl) (by kernel_rfl) h
theorem zML (Inv:Nat→AV→zaa→Prop) (n:Nat) (h0:HSc H→Inv n t6 H)
  (ac:Rd1 (λt6=>zlI t0 t5 t6) (λt6=>λH Kb10=>zsq t0 t5 t6 H K Kb5 Kb10) H Inv):zAZ t0 t5 t6 H K Kb5:=
 lp1 (M:=zdj) zMP t6 (by kernel_rfl) Inv n h0 ac
theorem zMM (Inv:Nat→AV→zaa→Prop) (n:Nat) (h0:HSc H→Inv n t8 H)
  (ac:Rd1 (λt8=>zin t0 t5 t6 t7 t8) (λt8=>λH Kb18=>zsr t0 t5 t6 t7 t8 H K Kb5 Kb18) H Inv):zsu t0 t5 t6 t7 t8 H K Kb5:=
 lp1 (M:=zdj) zMQ t8 (by kernel_rfl) Inv n h0 ac
theorem zMN (Inv:Nat→AV→zaa→Prop) (n:Nat) (h0:HSc H→Inv n t8 H)
  (ac:Rd1 (λt8=>zlJ t0 t5 t6 t7 t8) (λt8=>λH Kb29=>zss t0 t5 t6 t7 t8 H K Kb5 Kb29) H Inv):zsv t0 t5 t6 t7 t8 H K Kb5:=
 lp1 (M:=zdj) zMR t8 (by kernel_rfl) Inv n h0 ac
theorem zMO (Inv:Nat→AV→AV→zaa→Prop) (n:Nat) (h0:HSc H→Inv n t5 t6 H)
  (ac:Rd2 (λt5=>λt6=>zfO t0 t5 t6) (λt5=>λt6=>λH Kb5=>zlG t0 t5 t6 H K Kb5) H Inv):zlK t0 t5 t6 H K:=
 lp2 (M:=zdj) zlL t5 t6 (by kernel_rfl) Inv n h0 ac
theorem zMS (h:HSc H→zsp t0 H K):ACalls tP zpU [t0] H K:=
 acb zdj Tryz.func145 zst (by kernel_rfl) (by kernel_rfl) h
theorem zSx (h:HSc H→zCY t0 H K):ACalls tP zql [t0] H K:=
 acb zSv Tryz.func245 zSw (by kernel_rfl) (by kernel_rfl) h
end
section
variable (t0 t1 t3 t4 t5 t6 t7:AV) (H:zaa) (K:Kt) (Kb2 Kb3 Kb5:Lt)
def zSy (_:Nat):List Bool:=[]
noncomputable def zSz:Code:=Tryz.f246.body.getD .skip
def zCZ:Prop:=zae true 3 t6 H λt74=>zan 3 t4 t74 H λH=>zae true 3 t4 H λr0=>zaE [r0,(.int .i64 0)] (K · H)
def zgT:Prop:=zCZ t4 t6 H K
def zgS:Prop:=zgT t4 t6 H K
def zt5:Prop:=zav [(.int .i64 0),(.str []),(.int .i64 0)] H λt4 H=>zau [(.int .i64 0),(.str []),(.int .i64 0)] [(0,1),(1,1),(2,1)] [(2,t1)] λt9=>zav [(.int .i64 0),(.str []),(.int .i64 0)] H λt6 H=>zan 3 t6 t9 H λH=>zbF t0 t1 λt12=>ACalls tP zjN [t12] H λt25 H=>zad t25 false H (λK'=>K' t12 H) λt27 H=>zad t25 false H (λK'=>ACalls tP zhK [t27] H K') λt28 H=>zam t25 (.bool true) t28 λt29=>zag t29 (zaR 0 0 t0 (some t1) none λt32=>ACalls tP zjO [t32,(.fn zhL [])] H λt33 H=>zaf 1 t6 λt34=>zan 1 t34 t33 H λH=>zaf 1 t6 λt37=>zae false 1 t37 H λt38=>zah 0 t38 λt39=>zac .gtr false t39 (.int .i64 24) λt40=>zag t40 (zau [(.int .i64 0),(.str []),(.int .i64 0)] [(0,1),(1,1),(2,1)] [] λt41=>zan 3 t4 t41 H λH=>zae true 3 t4 H λr0=>zaE [r0,(.int .i64 9)] (K · H)) (ACalls tP zhK [t12] H λt44 H=>zag t44 (zaf 0 t6 λt45=>zan 1 t45 (.int .i64 2) H λH=>zgS t4 t6 H K) (zaf 1 t6 λt47=>zae false 1 t47 H λt48=>ACalls tP zqn [t48] H λt49 H=>zag t49 (zaf 0 t6 λt50=>zan 1 t50 (.int .i64 4) H λH=>zgS t4 t6 H K) (zaf 0 t6 λt35=>zan 1 t35 (.int .i64 1) H λH=>zgS t4 t6 H K)))) (ACalls tP zfz [t12] H λt53 H=>zag t53 (zaf 0 t6 λt54=>zan 1 t54 (.int .i64 3) H λH=>zaR 0 0 t0 (some t1) none λt57=>ACalls tP zjO [t57,(.fn zfz [])] H λt58 H=>zaf 1 t6 λt59=>zan 1 t59 t58 H λH=>zac .eql false t12 (.int .u8 48) λt61=>zad t61 true H (λK'=>zaf 1 t6 (K' · H)) λt63 H=>zad t61 true H (λK'=>zae false 1 t63 H (K' · H)) λt64 H=>zad t61 true H (λK'=>zah 0 t64 (K' · H)) λt65 H=>zad t61 true H (λK'=>zac .gtr false t65 (.int .i64 1) (K' · H)) λt66 H=>zam t61 t66 (.bool false) λt67=>zag t67 (zau [(.int .i64 0),(.str []),(.int .i64 0)] [(0,1),(1,1),(2,1)] [] λt68=>zan 3 t4 t68 H λH=>zae true 3 t4 H λr0=>zaE [r0,(.int .i64 2)] (K · H)) (zaf 1 t6 λt69=>zae false 1 t69 H λt70=>ACalls tP zhM [t70] H λt71 H=>aUn .not t71 λt72=>zag t72 (zau [(.int .i64 0),(.str []),(.int .i64 0)] [(0,1),(1,1),(2,1)] [] λt73=>zan 3 t4 t73 H λH=>zae true 3 t4 H λr0=>zaE [r0,(.int .i64 9)] (K · H)) (zgT t4 t6 H K))) (zaf 0 t6 λt13=>zan 1 t13 (.int .i64 5) H λH=>zaR 0 0 t0 (some t1) none λt16=>ACalls tP zqo [t16] H λt17 H=>zaf 1 t6 λt18=>zan 1 t18 t17 H λH=>zaf 1 t6 λt19=>zae false 1 t19 H λt20=>zac .eql false t20 (.str []) λt21=>zag t21 (zau [(.int .i64 0),(.str []),(.int .i64 0)] [(0,1),(1,1),(2,1)] [] λt22=>zan 3 t4 t22 H λH=>zae true 3 t4 H λr0=>zaE [r0,(.int .i64 2)] (K · H)) (zgT t4 t6 H K)))
def zPV (_:Nat):List Bool:=[]
noncomputable def zPW:Code:=Tryz.f188.body.getD .skip
def zCe:Prop:=zac .geq false t0 (.int .u8 97) λt4=>zad t4 true H (λK'=>K' t0 H) λt6 H=>zad t4 true H (λK'=>zac .leq false t6 (.int .u8 122) (K' · H)) λt7 H=>zam t4 t7 (.bool false) λt8=>K t8 H
def zPY (_:Nat):List Bool:=[]
noncomputable def zPZ:Code:=Tryz.f189.body.getD .skip
def zCf:Prop:=zac .geq false t0 (.int .u8 65) λt4=>zad t4 true H (λK'=>K' t0 H) λt6 H=>zad t4 true H (λK'=>zac .leq false t6 (.int .u8 90) (K' · H)) λt7 H=>zam t4 t7 (.bool false) λt8=>K t8 H
def zP1 (_:Nat):List Bool:=[]
noncomputable def zP2:Code:=Tryz.f190.body.getD .skip
def zCg:Prop:=zac .geq false t0 (.int .u8 48) λt4=>zad t4 true H (λK'=>K' t0 H) λt6 H=>zad t4 true H (λK'=>zac .leq false t6 (.int .u8 57) (K' · H)) λt7 H=>zam t4 t7 (.bool false) λt8=>K t8 H
def zmC:Nat→List Bool | 3=>rl false [0,1,2,2,13] | _=>[]
noncomputable def zto:Code:=Tryz.f191.body.getD .skip
noncomputable def zP9:List ResultVar:=Tryz.f191.results.toList
def zmE:List AV:=t0::ux 2 (t3::t4::ux 13 [])
def zP7:List Bool:=zmC 3
noncomputable def zP5:Code:=zar [1,1,0,1,0,0] zto
def zP4:AExit→List AV→zaa→Prop:=zas tP zmC [1,1,0,1,0] zto (zay tP zP9 K)
def ztp:Prop:=ALoop tP zP5 (zP4 K) (zmE t0 t3 t4) H
def zmD:Prop:=zah 1 t3 λt8=>zac .lss false t4 t8 λt9=>zag t9 (zaj 1 t3 t4 λt14=>zae false 1 t14 H λt15=>zac .eql false t15 t0 λt17=>zag t17 (K (.bool true) H) (zac .add false t4 (.int .i64 1) λt11=>Kb3 (zmE t0 t3 t11) H)) (K (.bool false) H)
def zCh:Prop:=zaw 1 [(.str [])] 28 [(0,(.str [97,114,114,97,121])),(1,(.str [98,111,111,108])),(2,(.str [99,97,116,99,104])),(3,(.str [100,97,116,97])),(4,(.str [101,108,115,101])),(5,(.str [101,110,100])),(6,(.str [102,97,108,115,101])),(7,(.str [102,110])),(8,(.str [102,117,110])),(9,(.str [103,101,116])),(10,(.str [105,102])),(11,(.str [105,110])),(12,(.str [105,110,116])),(13,(.str [108,101,110])),(14,(.str [108,101,116])),(15,(.str [109,97,116,99,104])),(16,(.str [110,101,119])),(17,(.str [114,97,105,115,101])),(18,(.str [114,101,97,100])),(19,(.str [114,101,102])),(20,(.str [115,101,116])),(21,(.str [116,104,101,110])),(22,(.str [116,105,99,107])),(23,(.str [116,114,117,101])),(24,(.str [116,114,121])),(25,(.str [117,110,105,116])),(26,(.str [119,105,116,104])),(27,(.str [119,114,105,116,101]))] λt5=>ztp t0 t5 (.int .i64 0) H K
def zmH:Nat→List Bool | 3=>rl false [0,1,3,2,17] | _=>[]
noncomputable def ztt:Code:=Tryz.f192.body.getD .skip
noncomputable def zQp:List ResultVar:=Tryz.f192.results.toList
def zmI:List AV:=t0::ux 3 (t4::t5::ux 17 [])
def zQn:List Bool:=zmH 3
noncomputable def zQl:Code:=zar [1,1,0,1,0,0] ztt
def zQk:AExit→List AV→zaa→Prop:=zas tP zmH [1,1,0,1,0] ztt (zay tP zQp K)
def zCn:Prop:=ALoop tP zQl (zQk K) (zmI t0 t4 t5) H
def zts:Prop:=zah 0 t0 λt8=>zac .lss false t5 t8 λt9=>zag t9 (zac .mul false t4 (.int .i64 10) λt13=>zbF t0 t5 λt16=>zac .sub false t16 (.int .u8 48) λt17=>za0 .i64 t17 λt18=>zac .add false t13 t18 λt19=>zac .gtr false t19 (.int .i64 1000000) λt21=>zag t21 (zaE [(.int .i64 0),(.bool false)] (K · H)) (zac .add false t5 (.int .i64 1) λt11=>Kb3 (zmI t0 t19 t11) H)) (zaE [t4,(.bool true)] (K · H))
def zCm:Prop:=zCn t0 (.int .i64 0) (.int .i64 0) H K
def zmJ:Nat→List Bool | 5=>rl false [0,1,2,2,30] | _=>[]
noncomputable def ztu:Code:=Tryz.f193.body.getD .skip
noncomputable def zQv:List ResultVar:=Tryz.f193.results.toList
def zmL:List AV:=t0::ux 2 (t3::t4::ux 30 [])
def zQt:List Bool:=zmJ 5
noncomputable def zQr:Code:=zar [1,1,1,0,1,0,0] ztu
def zQq:AExit→List AV→zaa→Prop:=zas tP zmJ [1,1,1,0,1,0] ztu (zay tP zQv K)
def ztv:Prop:=ALoop tP zQr (zQq K) (zmL t0 t3 t4) H
def zmK:Prop:=zah 0 t3 λt25=>zac .lss false t4 t25 λt26=>zag t26 (zab H (λK'=>K' t0 H) λt29=>zab H (λK'=>zbF t29 (.int .i64 0) (K' · H)) λt30=>zab H (λK'=>K' t3 H) λt31=>zab H (λK'=>K' t4 H) λt32=>zab H (λK'=>zbF t31 t32 (K' · H)) λt33=>zab H (λK'=>zac .eql false t30 t33 (K' · H)) λt34=>zag t34 (K (.int .i64 1) H) (zac .add false t4 (.int .i64 1) λt28=>Kb5 (zmL t0 t3 t28) H)) (K (.int .i64 0) H)
def zgP:Prop:=zah 0 t0 λt6=>zac .geq false t6 (.int .i64 2) λt7=>zad t7 true H (λK'=>K' t0 H) λt9 H=>zad t7 true H (λK'=>zaR 0 0 t9 none (some (.int .i64 2)) (K' · H)) λt10 H=>zad t7 true H (λK'=>zac .eql false t10 (.str [45,62]) (K' · H)) λt11 H=>zad t7 true H (λK'=>K' t11 H) λt12 H=>zad t12 false H (λK'=>K' t0 H) λt13 H=>zad t12 false H (λK'=>zaR 0 0 t13 none (some (.int .i64 2)) (K' · H)) λt14 H=>zad t12 false H (λK'=>zac .eql false t14 (.str [60,61]) (K' · H)) λt15 H=>zad t7 true H (λK'=>zam t12 (.bool true) t15 (K' · H)) λt16 H=>zad t7 true H (λK'=>K' t16 H) λt17 H=>zad t17 false H (λK'=>K' t0 H) λt18 H=>zad t17 false H (λK'=>zaR 0 0 t18 none (some (.int .i64 2)) (K' · H)) λt19 H=>zad t17 false H (λK'=>zac .eql false t19 (.str [61,61]) (K' · H)) λt20 H=>zad t7 true H (λK'=>zam t17 (.bool true) t20 (K' · H)) λt21 H=>zam t7 t21 (.bool false) λt22=>zag t22 (K (.int .i64 2) H) (ztv t0 (.str [40,41,44,61,124,43,45,42,47,37,60,59,95]) (.int .i64 0) H K)
def zSE (_:Nat):List Bool:=[]
noncomputable def zSF:Code:=Tryz.f255.body.getD .skip
def zC1:Prop:=zac .geq false t0 (.int .u8 97) λt4=>zad t4 true H (λK'=>K' t0 H) λt6 H=>zad t4 true H (λK'=>zac .leq false t6 (.int .u8 122) (K' · H)) λt7 H=>zam t4 t7 (.bool false) λt8=>K t8 H
def zSH (_:Nat):List Bool:=[]
noncomputable def zSI:Code:=Tryz.f256.body.getD .skip
def zC2:Prop:=zac .geq false t0 (.int .u8 65) λt4=>zad t4 true H (λK'=>K' t0 H) λt6 H=>zad t4 true H (λK'=>zac .leq false t6 (.int .u8 90) (K' · H)) λt7 H=>zam t4 t7 (.bool false) λt8=>K t8 H
def znb:Nat→List Bool | 2=>rl false [0,2,3,1,16] | _=>[]
noncomputable def zt7:Code:=Tryz.f257.body.getD .skip
noncomputable def zSP:List ResultVar:=Tryz.f257.results.toList
def znc:List AV:=t0::t1::ux 3 (t5::ux 16 [])
def zSN:List Bool:=znb 2
noncomputable def zSL:Code:=zar [1,1,0,0,0] zt7
def zSK:AExit→List AV→zaa→Prop:=zas tP znb [1,1,0,0] zt7 (zay tP zSP K)
def zC4:Prop:=ALoop tP zSL (zSK K) (znc t0 t1 t5) H
def zt6:Prop:=zah 0 t0 λt8=>zac .lss false t5 t8 λt9=>zad t9 true H (λK'=>K' t1 H) λt11 H=>zad t9 true H (λK'=>K' t0 H) λt12 H=>zad t9 true H (λK'=>K' t5 H) λt13 H=>zad t9 true H (λK'=>zbF t12 t13 (K' · H)) λt14 H=>zad t9 true H (λK'=>aCallV tP t11 [t14] H K') λt15 H=>zam t9 t15 (.bool false) λt16=>zag t16 (zac .add false t5 (.int .i64 1) λt18=>Kb2 (znc t0 t1 t18) H) (zaR 0 0 t0 none (some t5) λt21=>K t21 H)
def zC3:Prop:=zC4 t0 t1 (.int .i64 0) H K
def zSQ (_:Nat):List Bool:=[]
noncomputable def zSR:Code:=Tryz.f258.body.getD .skip
def zC5:Prop:=ACalls tP zjN [t0] H λt4 H=>zad t4 false H (λK'=>K' t0 H) λt6 H=>zad t4 false H (λK'=>ACalls tP zhK [t6] H K') λt7 H=>zam t4 (.bool true) t7 λt8=>zad t8 false H (λK'=>K' t0 H) λt10 H=>zad t8 false H (λK'=>ACalls tP zfz [t10] H K') λt11 H=>zam t8 (.bool true) t11 λt12=>zad t12 false H (λK'=>K' t0 H) λt14 H=>zad t12 false H (λK'=>zac .eql false t14 (.int .u8 95) (K' · H)) λt15 H=>zam t12 (.bool true) t15 λt16=>K t16 H
def zST (_:Nat):List Bool:=[]
noncomputable def zSU:Code:=Tryz.f259.body.getD .skip
def zbp:Prop:=zag t4 (K (.bool true) H) (K (.bool false) H)
def zC6:Prop:=zac .eql false t0 (.str [97,114,114,97,121]) λt5=>zag t5 (zbp t5 H K) (zac .eql false t0 (.str [98,111,111,108]) λt6=>zag t6 (zbp t6 H K) (zac .eql false t0 (.str [99,97,116,99,104]) λt7=>zag t7 (zbp t7 H K) (zac .eql false t0 (.str [100,97,116,97]) λt8=>zag t8 (zbp t8 H K) (zac .eql false t0 (.str [101,108,115,101]) λt9=>zag t9 (zbp t9 H K) (zac .eql false t0 (.str [101,110,100]) λt10=>zag t10 (zbp t10 H K) (zac .eql false t0 (.str [102,97,108,115,101]) λt11=>zag t11 (zbp t11 H K) (zac .eql false t0 (.str [102,110]) λt12=>zag t12 (zbp t12 H K) (zac .eql false t0 (.str [102,117,110]) λt13=>zag t13 (zbp t13 H K) (zac .eql false t0 (.str [103,101,116]) λt14=>zag t14 (zbp t14 H K) (zac .eql false t0 (.str [105,102]) λt15=>zag t15 (zbp t15 H K) (zac .eql false t0 (.str [105,110]) λt16=>zag t16 (zbp t16 H K) (zac .eql false t0 (.str [105,110,116]) λt17=>zag t17 (zbp t17 H K) (zac .eql false t0 (.str [108,101,110]) λt18=>zag t18 (zbp t18 H K) (zac .eql false t0 (.str [108,101,116]) λt19=>zag t19 (zbp t19 H K) (zac .eql false t0 (.str [109,97,116,99,104]) λt20=>zag t20 (zbp t20 H K) (zac .eql false t0 (.str [110,101,119]) λt21=>zag t21 (zbp t21 H K) (zac .eql false t0 (.str [114,97,105,115,101]) λt22=>zag t22 (zbp t22 H K) (zac .eql false t0 (.str [114,101,97,100]) λt23=>zag t23 (zbp t23 H K) (zac .eql false t0 (.str [114,101,102]) λt24=>zag t24 (zbp t24 H K) (zac .eql false t0 (.str [115,101,116]) λt25=>zag t25 (zbp t25 H K) (zac .eql false t0 (.str [116,104,101,110]) λt26=>zag t26 (zbp t26 H K) (zac .eql false t0 (.str [116,105,99,107]) λt27=>zag t27 (zbp t27 H K) (zac .eql false t0 (.str [116,114,117,101]) λt28=>zag t28 (zbp t28 H K) (zac .eql false t0 (.str [116,114,121]) λt29=>zag t29 (zbp t29 H K) (zac .eql false t0 (.str [117,110,105,116]) λt30=>zag t30 (zbp t30 H K) (zac .eql false t0 (.str [119,105,116,104]) λt31=>zag t31 (zbp t31 H K) (zac .eql false t0 (.str [119,114,105,116,101]) λt32=>zbp t32 H K)))))))))))))))))))))))))))
def zSW (_:Nat):List Bool:=[]
noncomputable def zSX:Code:=Tryz.f260.body.getD .skip
def zC7:Prop:=zac .geq false t0 (.int .u8 48) λt4=>zad t4 true H (λK'=>K' t0 H) λt6 H=>zad t4 true H (λK'=>zac .leq false t6 (.int .u8 57) (K' · H)) λt7 H=>zam t4 t7 (.bool false) λt8=>K t8 H
def znd:Nat→List Bool | 3=>rl false [0,1,2,1,2,2,13] | _=>[]
noncomputable def zt9:Code:=Tryz.f261.body.getD .skip
noncomputable def zS4:List ResultVar:=Tryz.f261.results.toList
def zne:List AV:=t0::ux 2 (t3::ux 2 (t6::t7::ux 13 []))
def zS2:List Bool:=znd 3
noncomputable def zS0:Code:=zar [1,1,0,1,0,0] zt9
def zSZ:AExit→List AV→zaa→Prop:=zas tP znd [1,1,0,1,0] zt9 (zay tP zS4 K)
def zC9:Prop:=ALoop tP zS0 (zSZ K) (zne t0 t3 t6 t7) H
def zt8:Prop:=zac .lss false t7 t6 λt8=>zag t8 (zac .mul false t3 (.int .i64 10) λt11=>zbF t0 t7 λt14=>zac .sub false t14 (.int .u8 48) λt15=>za0 .i64 t15 λt16=>zac .add false t11 t16 λt17=>zac .gtr false t17 (.int .i64 1000000) λt19=>zag t19 (K (.bool false) H) (zac .add false t7 (.int .i64 1) λt20=>Kb3 (zne t0 t17 t6 t20) H)) (K (.bool true) H)
def zC8:Prop:=zah 0 t0 λt6=>zC9 t0 (.int .i64 0) t6 (.int .i64 0) H K
variable {t0 t1 t3 t4 t5 t6 t7} {H} {K} {Kb2 Kb3 Kb5}
theorem zSA (h:HSc H→zt5 t0 t1 H K):ACalls tP zqm [t0,t1] H K:=
 acb zSy Tryz.func246 zSz (by kernel_rfl) (by kernel_rfl) h
theorem zPX (h:HSc H→zCe t0 H K):ACalls tP zjB [t0] H K:=
 acb zPV Tryz.func188 zPW (by kernel_rfl) (by kernel_rfl) h
theorem zP0 (h:HSc H→zCf t0 H K):ACalls tP zgm [t0] H K:=
 acb zPY Tryz.func189 zPZ (by kernel_rfl) (by kernel_rfl) h
theorem zP3 (h:HSc H→zCg t0 H K):ACalls tP zhH [t0] H K:=
 acb zP1 Tryz.func190 zP2 (by kernel_rfl) (by kernel_rfl) h
theorem zP6 (Inv:Nat→AV→zaa→Prop) (n:Nat) (h0:HSc H→Inv n t4 H)
  (ac:Rd1 (λt4=>zmE t0 t3 t4) (λt4=>λH Kb3=>zmD t0 t3 t4 H K Kb3) H Inv):ztp t0 t3 t4 H K:=
 lp1 (M:=zmC) zP7 t4 (by kernel_rfl) Inv n h0 ac
theorem zP8 (h:HSc H→zCh t0 H K):ACalls tP zjC [t0] H K:=
 acb zmC Tryz.func191 zto (by kernel_rfl) (by kernel_rfl) h
theorem zQm (Inv:Nat→AV→AV→zaa→Prop) (n:Nat) (h0:HSc H→Inv n t4 t5 H)
  (ac:Rd2 (λt4=>λt5=>zmI t0 t4 t5) (λt4=>λt5=>λH Kb3=>zts t0 t4 t5 H K Kb3) H Inv):zCn t0 t4 t5 H K:=
 lp2 (M:=zmH) zQn t4 t5 (by kernel_rfl) Inv n h0 ac
theorem zQo (h:HSc H→zCm t0 H K):ACalls tP zgn [t0] H K:=
 acb zmH Tryz.func192 ztt (by kernel_rfl) (by kernel_rfl) h
theorem zQs (Inv:Nat→AV→zaa→Prop) (n:Nat) (h0:HSc H→Inv n t4 H)
  (ac:Rd1 (λt4=>zmL t0 t3 t4) (λt4=>λH Kb5=>zmK t0 t3 t4 H K Kb5) H Inv):ztv t0 t3 t4 H K:=
 lp1 (M:=zmJ) zQt t4 (by kernel_rfl) Inv n h0 ac
theorem zQu (h:HSc H→zgP t0 H K):ACalls tP zp7 [t0] H K:=
 acb zmJ Tryz.func193 ztu (by kernel_rfl) (by kernel_rfl) h
theorem zSG (h:HSc H→zC1 t0 H K):ACalls tP zjN [t0] H K:=
 acb zSE Tryz.func255 zSF (by kernel_rfl) (by kernel_rfl) h
theorem zSJ (h:HSc H→zC2 t0 H K):ACalls tP zhK [t0] H K:=
 acb zSH Tryz.func256 zSI (by kernel_rfl) (by kernel_rfl) h
theorem zSM (Inv:Nat→AV→zaa→Prop) (n:Nat) (h0:HSc H→Inv n t5 H)
  (ac:Rd1 (λt5=>znc t0 t1 t5) (λt5=>λH Kb2=>zt6 t0 t1 t5 H K Kb2) H Inv):zC4 t0 t1 t5 H K:=
 lp1 (M:=znb) zSN t5 (by kernel_rfl) Inv n h0 ac
theorem zSO (h:HSc H→zC3 t0 t1 H K):ACalls tP zjO [t0,t1] H K:=
 acb znb Tryz.func257 zt7 (by kernel_rfl) (by kernel_rfl) h
theorem zSS (h:HSc H→zC5 t0 H K):ACalls tP zhL [t0] H K:=
 acb zSQ Tryz.func258 zSR (by kernel_rfl) (by kernel_rfl) h
theorem zSV (h:HSc H→zC6 t0 H K):ACalls tP zqn [t0] H K:=
 acb zST Tryz.func259 zSU (by kernel_rfl) (by kernel_rfl) h
theorem zSY (h:HSc H→zC7 t0 H K):ACalls tP zfz [t0] H K:=
 acb zSW Tryz.func260 zSX (by kernel_rfl) (by kernel_rfl) h
theorem zS1 (Inv:Nat→AV→AV→zaa→Prop) (n:Nat) (h0:HSc H→Inv n t3 t7 H)
  (ac:Rd2 (λt3=>λt7=>zne t0 t3 t6 t7) (λt3=>λt7=>λH Kb3=>zt8 t0 t3 t6 t7 H K Kb3) H Inv):zC9 t0 t3 t6 t7 H K:=
 lp2 (M:=znd) zS2 t3 t7 (by kernel_rfl) Inv n h0 ac
theorem zS3 (h:HSc H→zC8 t0 H K):ACalls tP zhM [t0] H K:=
 acb znd Tryz.func261 zt9 (by kernel_rfl) (by kernel_rfl) h
end
section
variable (t0 t8 t16:AV) (H:zaa) (K:Kt)
def zS5 (_:Nat):List Bool:=[]
noncomputable def zS6:Code:=Tryz.f262.body.getD .skip
def zcC:Prop:=zag t16 (zaR 0 0 t0 none (some (.int .i64 1)) λt31=>K t31 H) (K (.str []) H)
def znf:Prop:=zaR 0 0 t0 none (some (.int .i64 1)) λt15=>zac .eql false t15 (.str [40]) λt17=>zag t17 (zcC t0 t17 H K) (zac .eql false t15 (.str [41]) λt18=>zag t18 (zcC t0 t18 H K) (zac .eql false t15 (.str [44]) λt19=>zag t19 (zcC t0 t19 H K) (zac .eql false t15 (.str [61]) λt20=>zag t20 (zcC t0 t20 H K) (zac .eql false t15 (.str [124]) λt21=>zag t21 (zcC t0 t21 H K) (zac .eql false t15 (.str [43]) λt22=>zag t22 (zcC t0 t22 H K) (zac .eql false t15 (.str [45]) λt23=>zag t23 (zcC t0 t23 H K) (zac .eql false t15 (.str [42]) λt24=>zag t24 (zcC t0 t24 H K) (zac .eql false t15 (.str [47]) λt25=>zag t25 (zcC t0 t25 H K) (zac .eql false t15 (.str [37]) λt26=>zag t26 (zcC t0 t26 H K) (zac .eql false t15 (.str [60]) λt27=>zag t27 (zcC t0 t27 H K) (zac .eql false t15 (.str [59]) λt28=>zag t28 (zcC t0 t28 H K) (zac .eql false t15 (.str [95]) λt29=>zcC t0 t29 H K))))))))))))
def zfW:Prop:=zag t8 (zaR 0 0 t0 none (some (.int .i64 2)) λt13=>K t13 H) (znf t0 H K)
def zgU:Prop:=zah 0 t0 λt4=>zac .geq false t4 (.int .i64 2) λt5=>zag t5 (zaR 0 0 t0 none (some (.int .i64 2)) λt7=>zac .eql false t7 (.str [45,62]) λt9=>zag t9 (zfW t0 t9 H K) (zac .eql false t7 (.str [60,61]) λt10=>zag t10 (zfW t0 t10 H K) (zac .eql false t7 (.str [61,61]) λt11=>zfW t0 t11 H K))) (znf t0 H K)
def zQ2 (_:Nat):List Bool:=[]
noncomputable def zQ3:Code:=Tryz.f200.body.getD .skip
def zCz:Prop:=ACalls tP zqi [t0] H λt8 H=>zaA t8 0 λt9=>zaA t8 1 λt10=>zaA t8 2 λt11=>zac .eql false t11 (.int .i64 0) λt13=>zad t13 true H (λK'=>K' t9 H) λt15 H=>zad t13 true H (λK'=>zah 1 t15 (K' · H)) λt16 H=>zad t13 true H (λK'=>zac .eql false t16 (.int .i64 2) (K' · H)) λt17 H=>zam t13 t17 (.bool false) λt18=>zad t18 true H (λK'=>K' t9 H) λt20 H=>zad t18 true H (λK'=>zaj 3 t20 (.int .i64 0) (K' · H)) λt21 H=>zad t18 true H (λK'=>zaf 0 t21 (K' · H)) λt22 H=>zad t18 true H (λK'=>zae false 1 t22 H (K' · H)) λt23 H=>zad t18 true H (λK'=>zac .eql false t23 (.int .i64 2) (K' · H)) λt24 H=>zam t18 t24 (.bool false) λt25=>zad t25 true H (λK'=>K' t9 H) λt27 H=>zad t25 true H (λK'=>zaj 3 t27 (.int .i64 0) (K' · H)) λt28 H=>zad t25 true H (λK'=>zaf 1 t28 (K' · H)) λt29 H=>zad t25 true H (λK'=>zae false 1 t29 H (K' · H)) λt30 H=>zad t25 true H (λK'=>K' t0 H) λt31 H=>zad t25 true H (λK'=>zac .eql false t30 t31 (K' · H)) λt32 H=>zam t25 t32 (.bool false) λt33=>K t33 H
def zWQ (_:Nat):List Bool:=[]
noncomputable def zWR:Code:=Tryz.f92.body.getD .skip
def zEA:Prop:=ACalls tP zpU [t0] H λt8 H=>zaA t8 0 λt9=>zaA t8 1 λt10=>zaA t8 2 λt11=>zac .eql false t11 (.int .i64 0) λt13=>zad t13 true H (λK'=>K' t9 H) λt15 H=>zad t13 true H (λK'=>zah 1 t15 (K' · H)) λt16 H=>zad t13 true H (λK'=>zac .eql false t16 (.int .i64 2) (K' · H)) λt17 H=>zam t13 t17 (.bool false) λt18=>zad t18 true H (λK'=>K' t9 H) λt20 H=>zad t18 true H (λK'=>zaj 3 t20 (.int .i64 0) (K' · H)) λt21 H=>zad t18 true H (λK'=>zaf 0 t21 (K' · H)) λt22 H=>zad t18 true H (λK'=>zae false 1 t22 H (K' · H)) λt23 H=>zad t18 true H (λK'=>zac .eql false t23 (.int .i64 2) (K' · H)) λt24 H=>zam t18 t24 (.bool false) λt25=>zad t25 true H (λK'=>K' t9 H) λt27 H=>zad t25 true H (λK'=>zaj 3 t27 (.int .i64 0) (K' · H)) λt28 H=>zad t25 true H (λK'=>zaf 1 t28 (K' · H)) λt29 H=>zad t25 true H (λK'=>zae false 1 t29 H (K' · H)) λt30 H=>zad t25 true H (λK'=>K' t0 H) λt31 H=>zad t25 true H (λK'=>zac .eql false t30 t31 (K' · H)) λt32 H=>zam t25 t32 (.bool false) λt33=>K t33 H
variable {t0 t8 t16} {H} {K}
theorem zS7 (h:HSc H→zgU t0 H K):ACalls tP zqo [t0] H K:=
 acb zS5 Tryz.func262 zS6 (by kernel_rfl) (by kernel_rfl) h
theorem zQ4 (h:HSc H→zCz t0 H K):ACalls tP zjG [t0] H K:=
 acb zQ2 Tryz.func200 zQ3 (by kernel_rfl) (by kernel_rfl) h
theorem zWS (h:HSc H→zEA t0 H K):ACalls tP zj5 [t0] H K:=
 acb zWQ Tryz.func92 zWR (by kernel_rfl) (by kernel_rfl) h
end
end Go.Proofs.YtdmamdnkcefmmaaGreatDoor
section


end
