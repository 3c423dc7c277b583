import Derived.Test.YtdmamdnkcefmmaaGreatDoorKNum
import Derived.Test.YtdmamdnkcefmmaaGreatDoorProg
import Derived.KernelRfl
import Derived.Test.YtdmamdnkcefmmaaGreatDoorKI2
import Derived.Test.YtdmamdnkcefmmaaGreatDoorAbsQ1
import Derived.Lib.AppendStr
import Derived.Lib.UnsafeStr
import Derived.Test.YtdmamdnkcefmmaaGreatDoorVO
import Derived.Sort.Grow
import Derived.Deep.Draws
import Derived.Test.YtdmamdnkcefmmaaGreatDoorIT
import Derived.Test.YtdmamdnkcefmmaaGreatDoorKGT
import Derived.Shelf.SlSortCmp.NoneTotal
set_option linter.unusedSimpArgs false
set_option linter.unusedVariables false
set_option maxRecDepth 8000
namespace Go.Proofs.YtdmamdnkcefmmaaGreatDoor
open Go Go.Abs
set_option maxRecDepth 100000
section
variable (t0 t1 t3 t4 t5 t6 t8 t15 t16 t17 t18 t19 t20 t21 t31 t32 t33 t38 t39 t40 t45 t46 t47 t48:AV) (H:zaa) (K:Kt) (Kb5 Kb6 Kb11:Lt)
def zLj (_:Nat):List Bool:=[]
noncomputable def zLk:Code:=Tryz.f122.body.getD .skip
def zAx:Prop:=zaq t0 H λt1 H=>zaf 0 t1 λt3=>zae false 1 t3 H λt4=>ACalls tP zpX [t4] H λt5 H=>zad t5 true H (λK'=>zae true 4 t1 H (K' · H)) λt7 H=>zad t5 true H (λK'=>ACalls tP zpY [t7] H K') λt8 H=>zam t5 t8 (.bool false) λt9=>zad t9 true H (λK'=>zae true 4 t1 H (K' · H)) λt11 H=>zad t9 true H (λK'=>ACalls tP zpZ [t11] H K') λt12 H=>zam t9 t12 (.bool false) λt13=>zad t13 true H (λK'=>zae true 4 t1 H (K' · H)) λt15 H=>zad t13 true H (λK'=>ACalls tP zp0 [t15] H K') λt16 H=>zam t13 t16 (.bool false) λt17=>zad t17 true H (λK'=>zae true 4 t1 H (K' · H)) λt19 H=>zad t17 true H (λK'=>ACalls tP zp1 [t19] H K') λt20 H=>zam t17 t20 (.bool false) λt21=>zad t21 true H (λK'=>zae true 4 t1 H (K' · H)) λt23 H=>zad t21 true H (λK'=>ACalls tP zp2 [t23] H K') λt24 H=>zam t21 t24 (.bool false) λt25=>zad t25 true H (λK'=>zae true 4 t1 H (K' · H)) λt27 H=>zad t25 true H (λK'=>ACalls tP zp3 [t27] H K') λt28 H=>zam t25 t28 (.bool false) λt29=>K t29 H
def zNY (_:Nat):List Bool:=[]
noncomputable def zNZ:Code:=Tryz.f160.body.getD .skip
def zBk:Prop:=zaq t0 H λt1 H=>zaf 2 t1 λt3=>zae false 1 t3 H λt4=>zah 1 t4 λt5=>zac .leq false t5 (.int .i64 3000) λt6=>zad t6 true H (λK'=>zaf 2 t1 (K' · H)) λt8 H=>zad t6 true H (λK'=>zae false 1 t8 H (K' · H)) λt9 H=>zad t6 true H (λK'=>zcD zxU [t1] (K' · H)) λt10 H=>zad t6 true H (λK'=>ACalls tP zfy [t9,t10] H K') λt11 H=>zad t6 true H (λK'=>aUn .not t11 (K' · H)) λt12 H=>zam t6 t12 (.bool false) λt13=>K t13 H
def zmc:Nat→List Bool | 6=>rl false [1,1,1,2,14,3,59] | _=>[]
noncomputable def zsS:Code:=Tryz.f161.body.getD .skip
noncomputable def zN6:List ResultVar:=Tryz.f161.results.toList
def zsT:List AV:=ux 1 (t1::ux 1 (t3::t4::ux 14 (t19::t20::t21::ux 59 [])))
def zN4:List Bool:=zmc 6
noncomputable def zN2:Code:=zar [1,1,1,1,0,1,0,0] zsS
def zN1:AExit→List AV→zaa→Prop:=zas tP zmc [1,1,1,1,0,1,0] zsS (zay tP zN6 K)
def zBo:Prop:=ALoop tP zN2 (zN1 K) (zsT t1 t3 t4 t19 t20 t21) H
def zBn:Prop:=zaf 0 t6 λt42=>zae false 1 t42 H λt43=>zcU t3 t43 (.bool true) H λH=>zaf 1 t6 λt44=>zae false 1 t44 H λt45=>zah 1 t45 λt46=>zac .gtr false t46 (.int .i64 6) λt47=>zad t47 false H (λK'=>zaf 0 t1 (K' · H)) λt49 H=>zad t47 false H (λK'=>zae false 1 t49 H (K' · H)) λt50 H=>zad t47 false H (λK'=>zaf 3 t6 (K' · H)) λt51 H=>zad t47 false H (λK'=>zae true 3 t51 H (K' · H)) λt52 H=>zad t47 false H (λK'=>ACalls tP zhE [t50,t52,(.int .i64 0)] H K') λt53 H=>zad t47 false H (λK'=>aUn .not t53 (K' · H)) λt54 H=>zam t47 (.bool true) t54 λt55=>zag t55 (K (.bool false) H) (zab H (λK'=>zaf 6 t6 (K' · H)) λt56=>zab H (λK'=>zal false 1 t56 H (K' · H)) λt57=>zab H (λK'=>zac .lss false t57 (.int .i64 0) (K' · H)) λt58=>zab H (λK'=>K' t58 H) λt59=>zad t59 false H (λK'=>zab H (λK''=>zaf 6 t6 (K'' · H)) (K' · H)) λt60 H=>zad t59 false H (λK'=>zab H (λK''=>zal false 1 t60 H (K'' · H)) (K' · H)) λt61 H=>zad t59 false H (λK'=>zab H (λK''=>zaf 3 t1 (K'' · H)) (K' · H)) λt62 H=>zad t59 false H (λK'=>zab H (λK''=>zal false 1 t62 H (K'' · H)) (K' · H)) λt63 H=>zad t59 false H (λK'=>zab H (λK''=>zah 1 t63 (K'' · H)) (K' · H)) λt64 H=>zad t59 false H (λK'=>zab H (λK''=>zac .geq false t61 t64 (K'' · H)) (K' · H)) λt65 H=>zab H (λK'=>zam t59 (.bool true) t65 (K' · H)) λt66=>zab H (λK'=>K' t66 H) λt67=>zad t67 false H (λK'=>zab H (λK''=>zaf 3 t1 (K'' · H)) (K' · H)) λt68 H=>zad t67 false H (λK'=>zab H (λK''=>zal false 1 t68 H (K'' · H)) (K' · H)) λt69 H=>zad t67 false H (λK'=>zab H (λK''=>zaf 6 t6 (K'' · H)) (K' · H)) λt70 H=>zad t67 false H (λK'=>zab H (λK''=>zal false 1 t70 H (K'' · H)) (K' · H)) λt71 H=>zad t67 false H (λK'=>zab H (λK''=>zaj 8 t69 t71 (K'' · H)) (K' · H)) λt72 H=>zad t67 false H (λK'=>zab H (λK''=>zaf 5 t72 (K'' · H)) (K' · H)) λt73 H=>zad t67 false H (λK'=>zab H (λK''=>zal true 3 t73 H (K'' · H)) (K' · H)) λt74 H=>zad t67 false H (λK'=>zab H (λK''=>zaf 3 t6 (K'' · H)) (K' · H)) λt75 H=>zad t67 false H (λK'=>zab H (λK''=>zal true 3 t75 H (K'' · H)) (K' · H)) λt76 H=>zad t67 false H (λK'=>zaC H (λH K''=>ACalls tP zG4 [t74,t76] H K'') (K' · H)) λt77 H=>zad t67 false H (λK'=>zab H (λK''=>aUn .not t77 (K'' · H)) (K' · H)) λt78 H=>zab H (λK'=>zam t67 (.bool true) t78 (K' · H)) λt79=>zag t79 (K (.bool false) H) (zac .add false t21 (.int .i64 1) λt80=>Kb6 (zsT t1 t3 t4 t19 t20 t80) H))
def zBm:Prop:=zac .lss false t21 t20 λt22=>zag t22 (zaj 7 t19 t21 λt23=>zae true 7 t23 H λt24=>zav [(.str []),.snil,.snil,(.int .i64 0),(.int .i64 0),.snil,(.int .i64 0)] H λt6 H=>zan 7 t6 t24 H λH=>zaf 0 t6 λt25=>zae false 1 t25 H λt26=>zac .eql false t26 (.str []) λt27=>zag t27 (zBn t1 t3 (.bool true) t6 t19 t20 t21 H K Kb6) (zad t4 false H (λK'=>K' t3 H) λt30 H=>zad t4 false H (λK'=>zaf 0 t6 (K' · H)) λt31 H=>zad t4 false H (λK'=>zae false 1 t31 H (K' · H)) λt32 H=>zad t4 false H (λK'=>zdK (.bool false) false t30 t32 H (K' · H)) λt33 H=>zam t4 (.bool true) t33 λt34=>zad t34 false H (λK'=>zaf 2 t6 (K' · H)) λt36 H=>zad t34 false H (λK'=>zae false 1 t36 H (K' · H)) λt37 H=>zad t34 false H (λK'=>zah 1 t37 (K' · H)) λt38 H=>zad t34 false H (λK'=>zac .gtr false t38 (.int .i64 0) (K' · H)) λt39 H=>zam t34 (.bool true) t39 λt40=>zag t40 (K (.bool false) H) (zBn t1 t3 t4 t6 t19 t20 t21 H K Kb6))) (K (.bool true) H)
def zBl:Prop:=zaq t0 H λt1 H=>zaf 1 t1 λt7=>zae false 1 t7 H λt8=>zah 1 t8 λt9=>zac .gtr false t9 (.int .i64 64) λt10=>zad t10 false H (λK'=>zaf 3 t1 (K' · H)) λt12 H=>zad t10 false H (λK'=>zae false 1 t12 H (K' · H)) λt13 H=>zad t10 false H (λK'=>zah 1 t13 (K' · H)) λt14 H=>zad t10 false H (λK'=>zac .gtr false t14 (.int .i64 3000) (K' · H)) λt15 H=>zam t10 (.bool true) t15 λt16=>zag t16 (K (.bool false) H) (zdY H λt17 H=>zaf 1 t1 λt18=>zae false 1 t18 H λt19=>zah 1 t19 λt20=>zBo t1 t17 (.bool false) t19 t20 (.int .i64 0) H K)
def zfb:Nat→List Bool | 5=>rl false [1,1,2,2,12,3,54] | 11=>rl false [1,1,2,2,25,3,41] | 16=>rl false [1,1,2,2,2,1,22,3,12,3,26] | _=>[]
noncomputable def ziq:Code:=Tryz.f162.body.getD .skip
noncomputable def zBz:List ResultVar:=Tryz.f162.results.toList
def zsX:List AV:=ux 1 (t1::ux 2 (t4::t5::ux 12 (t18::t19::t20::ux 54 [])))
def zOn:List Bool:=zfb 5
noncomputable def zOi:Code:=zar [1,1,1,1,0,1,0,0] ziq
def zOg:AExit→List AV→zaa→Prop:=zas tP zfb [1,1,1,1,0,1,0] ziq (zay tP zBz K)
def zBx:Prop:=ALoop tP zOi (zOg K) (zsX t1 t4 t5 t18 t19 t20) H
def zBv:List AV:=ux 1 (t1::ux 2 (t4::t5::ux 25 (t31::t32::t33::ux 41 [])))
def zBy:List Bool:=zfb 11
noncomputable def zsW:Code:=zar [1,1,1,1,1,0,1,0,0] ziq
def zBs:AExit→List AV→zaa→Prop:=zas tP zfb [1,1,1,1,1,0,1,0] ziq (zay tP zBz K)
def zBw:Prop:=ALoop tP zsW (zBs K) (zBv t1 t4 t5 t31 t32 t33) H
def zOj:List AV:=ux 1 (t1::ux 2 (t4::t5::ux 2 (t8::ux 22 (t31::t32::t33::ux 12 (t46::t47::t48::ux 26 [])))))
noncomputable def zOh:Code:=zar [1,1,0,0,1,1,1,0,0] zsW
def zOe:AExit→List AV→zaa→Prop:=zas tP zfb [1,1,0,0,1,1,1,0] zsW (zbV zBy Kb11 (zBs K))
def zOk:Prop:=ALoop tP zOh (zOe K Kb11) (zOj t1 t4 t5 t8 t31 t32 t33 t46 t47 t48) H
def zBt:Prop:=zac .lss false t33 t32 λt34=>zag t34 (zaj 8 t31 t33 λt36=>zae true 8 t36 H λt37=>zav [(.int .i64 0),(.int .i64 0),.snil,.snil,.snil,(.int .i64 0),(.int .i64 0),.snil] H λt9 H=>zan 8 t9 t37 H λH=>zaf 3 t9 λt38=>zae false 1 t38 H λt39=>zah 1 t39 λt40=>zaf 4 t9 λt41=>zae false 1 t41 H λt42=>zah 1 t42 λt43=>zac .neq false t40 t43 λt44=>zag t44 (K (.bool false) H) (zaf 4 t9 λt45=>zae false 1 t45 H λt46=>zah 1 t46 λt47=>zOk t1 t4 t5 t33 t31 t32 t33 t46 t47 (.int .i64 0) H K Kb11)) (zae false 1 t4 H λt70=>zaf 3 t1 λt71=>zae false 1 t71 H λt72=>zah 1 t72 λt73=>zac .eql false t70 t73 λt74=>K t74 H)
def zBu:Prop:=zac .lss false t20 t19 λt21=>zag t21 (zaj 7 t18 t20 λt22=>zae true 7 t22 H λt23=>zav [(.str []),.snil,.snil,(.int .i64 0),(.int .i64 0),.snil,(.int .i64 0)] H λt7 H=>zan 7 t7 t23 H λH=>zaf 6 t7 λt25=>zae false 1 t25 H λt26=>aCallV tP t5 [t26] H λt27 H=>aUn .not t27 λt28=>zag t28 (K (.bool false) H) (zac .add false t20 (.int .i64 1) λt29=>Kb5 (zsX t1 t4 t5 t18 t19 t29) H)) (zaf 3 t1 λt30=>zae false 1 t30 H λt31=>zah 1 t31 λt32=>zBw t1 t4 t5 t31 t32 (.int .i64 0) H K)
def zBr:Prop:=zaq t0 H λt1 H=>zaf 3 t1 λt12=>zae false 1 t12 H λt13=>zah 1 t13 λt14=>zba 1 [(.bool false)] t14 t14 H λt15 H=>zav [.snil] H λt3 H=>zan 1 t3 t15 H λH=>zav [(.int .i64 0)] H λt4 H=>zan 1 t4 (.int .i64 0) H λH=>zcD zG5 [t3,t4] λt16=>zaf 1 t1 λt17=>zae false 1 t17 H λt18=>zah 1 t18 λt19=>zBx t1 t4 t16 t18 t19 (.int .i64 0) H K
def zfc:Nat→List Bool | 5=>rl false [1,1,2,2,12,3,41] | 11=>rl false [1,1,2,2,32,3,21] | 14=>rl false [1,1,2,2,32,3,4,3,14] | _=>[]
noncomputable def zir:Code:=Tryz.f163.body.getD .skip
noncomputable def zBI:List ResultVar:=Tryz.f163.results.toList
def zsZ:List AV:=ux 1 (t1::ux 2 (t4::t5::ux 12 (t18::t19::t20::ux 41 [])))
def zOx:List Bool:=zfc 5
noncomputable def zOs:Code:=zar [1,1,1,1,0,1,0,0] zir
def zOq:AExit→List AV→zaa→Prop:=zas tP zfc [1,1,1,1,0,1,0] zir (zay tP zBI K)
def zBG:Prop:=ALoop tP zOs (zOq K) (zsZ t1 t4 t5 t18 t19 t20) H
def zBE:List AV:=ux 1 (t1::ux 2 (t4::t5::ux 32 (t38::t39::t40::ux 21 [])))
def zBH:List Bool:=zfc 11
noncomputable def zsY:Code:=zar [1,1,1,1,1,0,1,0,0] zir
def zBB:AExit→List AV→zaa→Prop:=zas tP zfc [1,1,1,1,1,0,1,0] zir (zay tP zBI K)
def zBF:Prop:=ALoop tP zsY (zBB K) (zBE t1 t4 t5 t38 t39 t40) H
def zOt:List AV:=ux 1 (t1::ux 2 (t4::t5::ux 32 (t38::t39::t40::ux 4 (t45::t46::t47::ux 14 []))))
noncomputable def zOr:Code:=zar [1,1,0,0,1,1,0,0] zsY
def zOp:AExit→List AV→zaa→Prop:=zas tP zfc [1,1,0,0,1,1,0] zsY (zbV zBH Kb11 (zBB K))
def zOu:Prop:=ALoop tP zOr (zOp K Kb11) (zOt t1 t4 t5 t38 t39 t40 t45 t46 t47) H
def zBC:Prop:=zac .lss false t40 t39 λt41=>zag t41 (zaj 8 t38 t40 λt42=>zae true 8 t42 H λt43=>zav [(.int .i64 0),(.int .i64 0),.snil,.snil,.snil,(.int .i64 0),(.int .i64 0),.snil] H λt9 H=>zan 8 t9 t43 H λH=>zaf 3 t9 λt44=>zae false 1 t44 H λt45=>zah 1 t45 λt46=>zOu t1 t4 t5 t38 t39 t40 t45 t46 (.int .i64 0) H K Kb11) (zae false 1 t4 H λt57=>zaf 2 t1 λt58=>zae false 1 t58 H λt59=>zah 1 t59 λt60=>zac .eql false t57 t60 λt61=>K t61 H)
def zBD:Prop:=zac .lss false t20 t19 λt21=>zag t21 (zaj 7 t18 t20 λt22=>zae true 7 t22 H λt23=>zav [(.str []),.snil,.snil,(.int .i64 0),(.int .i64 0),.snil,(.int .i64 0)] H λt7 H=>zan 7 t7 t23 H λH=>zaf 1 t7 λt25=>zae false 1 t25 H λt26=>aCallV tP t5 [t26] H λt27 H=>aUn .not t27 λt28=>zad t28 false H (λK'=>K' t5 H) λt30 H=>zad t28 false H (λK'=>zaf 2 t7 (K' · H)) λt31 H=>zad t28 false H (λK'=>zae false 1 t31 H (K' · H)) λt32 H=>zad t28 false H (λK'=>aCallV tP t30 [t32] H K') λt33 H=>zad t28 false H (λK'=>aUn .not t33 (K' · H)) λt34 H=>zam t28 (.bool true) t34 λt35=>zag t35 (K (.bool false) H) (zac .add false t20 (.int .i64 1) λt36=>Kb5 (zsZ t1 t4 t5 t18 t19 t36) H)) (zaf 3 t1 λt37=>zae false 1 t37 H λt38=>zah 1 t38 λt39=>zBF t1 t4 t5 t38 t39 (.int .i64 0) H K)
def zBA:Prop:=zaq t0 H λt1 H=>zaf 2 t1 λt12=>zae false 1 t12 H λt13=>zah 1 t13 λt14=>zba 1 [(.bool false)] t14 t14 H λt15 H=>zav [.snil] H λt3 H=>zan 1 t3 t15 H λH=>zav [(.int .i64 0)] H λt4 H=>zan 1 t4 (.int .i64 0) H λH=>zcD zG6 [t3,t4] λt16=>zaf 1 t1 λt17=>zae false 1 t17 H λt18=>zah 1 t18 λt19=>zBG t1 t4 t16 t18 t19 (.int .i64 0) H K
def zmf:Nat→List Bool | 6=>rl false [4,2,9,3,25] | _=>[]
noncomputable def zs0:Code:=Tryz.f164.body.getD .skip
noncomputable def zOE:List ResultVar:=Tryz.f164.results.toList
def zs1:List AV:=ux 4 (t4::t5::ux 9 (t15::t16::t17::ux 25 []))
def zOC:List Bool:=zmf 6
noncomputable def zOA:Code:=zar [1,1,1,1,1,0,1,0,0] zs0
def zOz:AExit→List AV→zaa→Prop:=zas tP zmf [1,1,1,1,1,0,1,0] zs0 (zay tP zOE K)
def zBL:Prop:=ALoop tP zOA (zOz K) (zs1 t4 t5 t15 t16 t17) H
def zBK:Prop:=zac .lss false t17 t16 λt18=>zag t18 (zaj 7 t15 t17 λt19=>zae true 7 t19 H λt20=>zav [(.str []),.snil,.snil,(.int .i64 0),(.int .i64 0),.snil,(.int .i64 0)] H λt7 H=>zan 7 t7 t20 H λH=>zae false 1 t4 H λt21=>zaf 1 t7 λt22=>zae false 1 t22 H λt23=>aCallV tP t21 [t23,(.bool true)] H λt24 H=>zae false 1 t4 H λt25=>zaf 2 t7 λt26=>zae false 1 t26 H λt27=>aCallV tP t25 [t27,(.bool true)] H λt28 H=>zae false 1 t5 H λt29=>zaf 6 t7 λt30=>zae false 1 t30 H λt31=>aCallV tP t29 [t31] H λt32 H=>aUn .not t32 λt33=>zag t33 (K (.bool false) H) (zae false 1 t4 H λt34=>zaf 1 t7 λt35=>zae false 1 t35 H λt36=>aCallV tP t34 [t36,(.bool false)] H λt37 H=>zae false 1 t4 H λt38=>zaf 2 t7 λt39=>zae false 1 t39 H λt40=>aCallV tP t38 [t40,(.bool false)] H λt41 H=>zac .add false t17 (.int .i64 1) λt42=>Kb6 (zs1 t4 t5 t15 t16 t42) H)) (K (.bool true) H)
def zBJ:Prop:=zaq t0 H λt1 H=>zaf 2 t1 λt8=>zae false 1 t8 H λt9=>zah 1 t9 λt10=>zba 1 [(.bool false)] t10 t10 H λt11 H=>zav [.snil] H λt3 H=>zan 1 t3 t11 H λH=>zcD zG7 [t3] λt12=>zav [.nilfn] H λt4 H=>zan 1 t4 t12 H λH=>zav [.nilfn] H λt5 H=>zcD zG8 [t1,t3,t4,t5] λt13=>zan 1 t5 t13 H λH=>zaf 1 t1 λt14=>zae false 1 t14 H λt15=>zah 1 t15 λt16=>zBL t4 t5 t15 t16 (.int .i64 0) H K
variable {t0 t1 t3 t4 t5 t6 t8 t15 t16 t17 t18 t19 t20 t21 t31 t32 t33 t38 t39 t40 t45 t46 t47 t48} {H} {K} {Kb5 Kb6 Kb11}
theorem zLm (h:HSc H→zAx t0 H K):ACalls tP zpH [t0] H K:=
 acb zLj Tryz.func122 zLk (by kernel_rfl) (by kernel_rfl) h
theorem zN0 (h:HSc H→zBk t0 H K):ACalls tP zpY [t0] H K:=
 acb zNY Tryz.func160 zNZ (by kernel_rfl) (by kernel_rfl) h
theorem zN3 (Inv:Nat→AV→AV→zaa→Prop) (n:Nat) (h0:HSc H→Inv n t4 t21 H)
  (ac:Rd2 (λt4=>λt21=>zsT t1 t3 t4 t19 t20 t21) (λt4=>λt21=>λH Kb6=>zBm t1 t3 t4 t19 t20 t21 H K Kb6) H Inv):zBo t1 t3 t4 t19 t20 t21 H K:=
 lp2 (M:=zmc) zN4 t4 t21 (by kernel_rfl) Inv n h0 ac
theorem zN5 (h:HSc H→zBl t0 H K):ACalls tP zpZ [t0] H K:=
 acb zmc Tryz.func161 zsS (by kernel_rfl) (by kernel_rfl) h
theorem zOl (Inv:Nat→AV→zaa→Prop) (n:Nat) (h0:HSc H→Inv n t33 H)
  (ac:Rd1 (λt33=>zBv t1 t4 t5 t31 t32 t33) (λt33=>λH Kb11=>zBt t1 t4 t5 t31 t32 t33 H K Kb11) H Inv):zBw t1 t4 t5 t31 t32 t33 H K:=
 lp1 (M:=zfb) zBy t33 (by kernel_rfl) Inv n h0 ac
theorem zOm (Inv:Nat→AV→zaa→Prop) (n:Nat) (h0:HSc H→Inv n t20 H)
  (ac:Rd1 (λt20=>zsX t1 t4 t5 t18 t19 t20) (λt20=>λH Kb5=>zBu t1 t4 t5 t18 t19 t20 H K Kb5) H Inv):zBx t1 t4 t5 t18 t19 t20 H K:=
 lp1 (M:=zfb) zOn t20 (by kernel_rfl) Inv n h0 ac
theorem zOo (h:HSc H→zBr t0 H K):ACalls tP zp0 [t0] H K:=
 acb zfb Tryz.func162 ziq (by kernel_rfl) (by kernel_rfl) h
theorem zOv (Inv:Nat→AV→zaa→Prop) (n:Nat) (h0:HSc H→Inv n t40 H)
  (ac:Rd1 (λt40=>zBE t1 t4 t5 t38 t39 t40) (λt40=>λH Kb11=>zBC t1 t4 t5 t38 t39 t40 H K Kb11) H Inv):zBF t1 t4 t5 t38 t39 t40 H K:=
 lp1 (M:=zfc) zBH t40 (by kernel_rfl) Inv n h0 ac
theorem zOw (Inv:Nat→AV→zaa→Prop) (n:Nat) (h0:HSc H→Inv n t20 H)
  (ac:Rd1 (λt20=>zsZ t1 t4 t5 t18 t19 t20) (λt20=>λH Kb5=>zBD t1 t4 t5 t18 t19 t20 H K Kb5) H Inv):zBG t1 t4 t5 t18 t19 t20 H K:=
 lp1 (M:=zfc) zOx t20 (by kernel_rfl) Inv n h0 ac
theorem zOy (h:HSc H→zBA t0 H K):ACalls tP zp1 [t0] H K:=
 acb zfc Tryz.func163 zir (by kernel_rfl) (by kernel_rfl) h
theorem zOB (Inv:Nat→AV→zaa→Prop) (n:Nat) (h0:HSc H→Inv n t17 H)
  (ac:Rd1 (λt17=>zs1 t4 t5 t15 t16 t17) (λt17=>λH Kb6=>zBK t4 t5 t15 t16 t17 H K Kb6) H Inv):zBL t4 t5 t15 t16 t17 H K:=
 lp1 (M:=zmf) zOC t17 (by kernel_rfl) Inv n h0 ac
theorem zOD (h:HSc H→zBJ t0 H K):ACalls tP zp2 [t0] H K:=
 acb zmf Tryz.func164 zs0 (by kernel_rfl) (by kernel_rfl) h
end
section
variable (t0 t1 t3 t16 t17 t18 t28 t29 t30:AV) (H:zaa) (K:Kt) (Kb3 Kb9:Lt)
def zfQ:Nat→List Bool | 3=>rl false [1,1,1,1,12,3,30] | 9=>rl false [3,1,24,3,18] | _=>[]
noncomputable def zis:Code:=Tryz.f165.body.getD .skip
noncomputable def zBR:List ResultVar:=Tryz.f165.results.toList
def zs2:List AV:=ux 1 (t1::ux 1 (t3::ux 12 (t16::t17::t18::ux 30 [])))
def zOL:List Bool:=zfQ 3
noncomputable def zOH:Code:=zar [1,1,0,1,0,0] zis
def zOF:AExit→List AV→zaa→Prop:=zas tP zfQ [1,1,0,1,0] zis (zay tP zBR K)
def zBP:Prop:=ALoop tP zOH (zOF K) (zs2 t1 t3 t16 t17 t18) H
def zs3:List AV:=ux 3 (t3::ux 24 (t28::t29::t30::ux 18 []))
def zOM:List Bool:=zfQ 9
noncomputable def zOI:Code:=zar [1,1,1,0,1,0,0] zis
def zOG:AExit→List AV→zaa→Prop:=zas tP zfQ [1,1,1,0,1,0] zis (zay tP zBR K)
def zBQ:Prop:=ALoop tP zOI (zOG K) (zs3 t3 t28 t29 t30) H
def zBO:Prop:=zac .lss false t30 t29 λt31=>zag t31 (zaj 7 t28 t30 λt33=>zae true 7 t33 H λt34=>zav [(.str []),.snil,.snil,(.int .i64 0),(.int .i64 0),.snil,(.int .i64 0)] H λt7 H=>zan 7 t7 t34 H λH=>zaf 0 t7 λt35=>zae false 1 t35 H λt36=>zac .eql false t36 (.str []) λt37=>zad t37 true H (λK'=>K' t3 H) λt39 H=>zad t37 true H (λK'=>zaX t39 (K' · H)) λt40 H=>zad t37 true H (λK'=>zaf 4 t40 (K' · H)) λt41 H=>zad t37 true H (λK'=>zae false 1 t41 H (K' · H)) λt42 H=>zad t37 true H (λK'=>K' t30 H) λt43 H=>zad t37 true H (λK'=>zaj 1 t42 t43 (K' · H)) λt44 H=>zad t37 true H (λK'=>zae false 1 t44 H (K' · H)) λt45 H=>zad t37 true H (λK'=>zac .neq false t45 (.int .i64 1) (K' · H)) λt46 H=>zam t37 t46 (.bool false) λt47=>zag t47 (K (.bool false) H) (zac .add false t30 (.int .i64 1) λt48=>Kb9 (zs3 t3 t28 t29 t48) H)) (K (.bool true) H)
def zBN:Prop:=zac .lss false t18 t17 λt19=>zag t19 (zaj 8 t16 t18 λt20=>zae true 8 t20 H λt21=>zav [(.int .i64 0),(.int .i64 0),.snil,.snil,.snil,(.int .i64 0),(.int .i64 0),.snil] H λt5 H=>zan 8 t5 t21 H λH=>zae true 8 t5 H λt23=>ACalls tP zG9 [t3,t23] H λt24 H=>aUn .not t24 λt25=>zag t25 (K (.bool false) H) (zac .add false t18 (.int .i64 1) λt26=>Kb3 (zs2 t1 t3 t16 t17 t26) H)) (zaf 1 t1 λt27=>zae false 1 t27 H λt28=>zah 1 t28 λt29=>zBQ t3 t28 t29 (.int .i64 0) H K)
def zBM:Prop:=zaq t0 H λt1 H=>zab H (λK'=>zal true 4 t1 H (K' · H)) λt8=>zab H (λK'=>zaf 1 t1 (K' · H)) λt9=>zab H (λK'=>zal false 1 t9 H (K' · H)) λt10=>zab H (λK'=>zah 1 t10 (K' · H)) λt11=>zba 8 [(.int .i64 0)] t11 t11 H λt12 H=>zab H (λK'=>zau [.snil,.snil,.snil,.snil,.snil] [(0,4),(4,1)] [(0,t8),(1,t12)] (K' · H)) λt13=>zaq t13 H λt14 H=>zab H (λK'=>K' t14 H) λt3=>zaf 3 t1 λt15=>zae false 1 t15 H λt16=>zah 1 t16 λt17=>zBP t1 t3 t16 t17 (.int .i64 0) H K
variable {t0 t1 t3 t16 t17 t18 t28 t29 t30} {H} {K} {Kb3 Kb9}
theorem zOK (Inv:Nat→AV→zaa→Prop) (n:Nat) (h0:HSc H→Inv n t30 H)
  (ac:Rd1 (λt30=>zs3 t3 t28 t29 t30) (λt30=>λH Kb9=>zBO t3 t28 t29 t30 H K Kb9) H Inv):zBQ t3 t28 t29 t30 H K:=
 lp1 (M:=zfQ) zOM t30 (by kernel_rfl) Inv n h0 ac
theorem zOJ (Inv:Nat→AV→zaa→Prop) (n:Nat) (h0:HSc H→Inv n t18 H)
  (ac:Rd1 (λt18=>zs2 t1 t3 t16 t17 t18) (λt18=>λH Kb3=>zBN t1 t3 t16 t17 t18 H K Kb3) H Inv):zBP t1 t3 t16 t17 t18 H K:=
 lp1 (M:=zfQ) zOL t18 (by kernel_rfl) Inv n h0 ac
theorem zON (h:HSc H→zBM t0 H K):ACalls tP zp3 [t0] H K:=
 acb zfQ Tryz.func165 zis (by kernel_rfl) (by kernel_rfl) h
end
end Go.Proofs.YtdmamdnkcefmmaaGreatDoor
section


end
namespace Go.Proofs.YtdmamdnkcefmmaaGreatDoor
open Go Go.Abs
set_option maxRecDepth 100000
section
variable (t0 t1 t2:AV) (H:zaa) (K:Kt)
def zNs (_:Nat):List Bool:=[]
noncomputable def zNt:Code:=Tryz.f16.body.getD .skip
def zAX:Prop:=zaq t0 H λt1 H=>zav [(.int .i64 0)] H λt3 H=>zan 1 t3 (.int .i64 400) H λH=>zae true 3 t1 H λt4=>ACalls tP zjS [t4,t3] H λt5 H=>K t5 H
def zPu (_:Nat):List Bool:=[]
noncomputable def zPv:Code:=Tryz.f18.body.getD .skip
def zBq:Prop:=zaq t1 H λt4 H=>zaq t2 H λt5 H=>zav [(.int .i64 0)] H λt7 H=>zan 1 t7 (.int .i64 5000) H λH=>ACalls tP zjT [t0] H λt9 H=>zad t9 true H (λK'=>K' t0 H) λt11 H=>zad t9 true H (λK'=>zae true 3 t5 H (K' · H)) λt12 H=>zad t9 true H (λK'=>ACalls tP zhO [t11,t12,(.int .i64 0)] H K') λt13 H=>zam t9 t13 (.bool false) λt14=>zad t14 true H (λK'=>zae true 3 t4 H (K' · H)) λt16 H=>zad t14 true H (λK'=>ACalls tP zjU [t16,t7] H K') λt17 H=>zam t14 t17 (.bool false) λt18=>zad t18 true H (λK'=>K' t0 H) λt20 H=>zad t18 true H (λK'=>zae true 3 t4 H (K' · H)) λt21 H=>zad t18 true H (λK'=>zae true 3 t5 H (K' · H)) λt22 H=>zad t18 true H (λK'=>ACalls tP zhP [t20,t21,t22] H K') λt23 H=>zam t18 t23 (.bool false) λt24=>K t24 H
variable {t0 t1 t2} {H} {K}
theorem zNu (h:HSc H→zAX t0 H K):ACalls tP zpS [t0] H K:=
 acb zNs Tryz.func16 zNt (by kernel_rfl) (by kernel_rfl) h
theorem zPw (h:HSc H→zBq t0 t1 t2 H K):ACalls tP zhF [t0,t1,t2] H K:=
 acb zPu Tryz.func18 zPv (by kernel_rfl) (by kernel_rfl) h
end
section
variable (t0 t1 t2 t4 t5 t7 t10 t117:AV) (H:zaa) (K:Kt) (Kb4 Kb5 Kb21:Lt)
def znE:Nat→List Bool | 5=>rl false [1,2,2,1,24] | _=>[]
noncomputable def zuE:Code:=Tryz.f50.body.getD .skip
noncomputable def zUx:List ResultVar:=Tryz.f50.results.toList
def znF:List AV:=ux 1 (t1::t2::ux 2 (t5::ux 24 []))
def zUv:List Bool:=znE 5
noncomputable def zUt:Code:=zar [1,1,1,0,1,0,0] zuE
def zUs:AExit→List AV→zaa→Prop:=zas tP znE [1,1,1,0,1,0] zuE (zay tP zUx K)
def zDH:Prop:=ALoop tP zUt (zUs K) (znF t1 t2 t5) H
def zuD:Prop:=zaf 2 t2 λt16=>zae false 1 t16 H λt17=>zah 1 t17 λt18=>zac .lss false t5 t18 λt19=>zag t19 (zaf 2 t2 λt22=>zae false 1 t22 H λt23=>zaj 3 t23 t5 λt25=>zae true 3 t25 H λt26=>ACalls tP zjU [t26,t1] H λt28 H=>aUn .not t28 λt29=>zag t29 (K (.bool false) H) (zac .add false t5 (.int .i64 1) λt21=>Kb5 (znF t1 t2 t21) H)) (K (.bool true) H)
def zDG:Prop:=zaq t0 H λt2 H=>zaX t1 λt7=>zae false 1 t7 H λt8=>zac .sub false t8 (.int .i64 1) λt9=>zaX t1 λt10=>zan 1 t10 t9 H λH=>zaX t1 λt12=>zae false 1 t12 H λt13=>zac .lss false t13 (.int .i64 0) λt14=>zag t14 (K (.bool false) H) (zDH t1 t2 (.int .i64 0) H K)
def znG:Nat→List Bool | 21=>rl false [0,1,3,2,1,1,2,1,174] | _=>[]
noncomputable def zuG:Code:=Tryz.f51.body.getD .skip
noncomputable def zUE:List ResultVar:=Tryz.f51.results.toList
def znH:List AV:=t0::ux 3 (t4::t5::ux 1 (t7::ux 2 (t10::ux 174 [])))
def zUC:List Bool:=znG 21
noncomputable def zUA:Code:=zar [1,1,0,1,0,1,1,1,1,1,1,1,1,1,1,1,0,1,0,1,0,0] zuG
def zUz:AExit→List AV→zaa→Prop:=zas tP znG [1,1,0,1,0,1,1,1,1,1,1,1,1,1,1,1,0,1,0,1,0] zuG (zay tP zUE K)
def zuH:Prop:=ALoop tP zUA (zUz K) (znH t0 t4 t5 t7 t10) H
def zuF:Prop:=zac .lss false t10 t7 λt153=>zag t153 (zab H (λK'=>K' t0 H) λt156=>zab H (λK'=>zaf 2 t4 (K' · H)) λt157=>zab H (λK'=>zal false 1 t157 H (K' · H)) λt158=>zab H (λK'=>K' t10 H) λt159=>zab H (λK'=>zaj 3 t158 t159 (K' · H)) λt160=>zab H (λK'=>zal true 3 t160 H (K' · H)) λt161=>zab H (λK'=>zaf 2 t5 (K' · H)) λt162=>zab H (λK'=>zal false 1 t162 H (K' · H)) λt163=>zab H (λK'=>zaj 3 t163 (.int .i64 0) (K' · H)) λt164=>zab H (λK'=>zal true 3 t164 H (K' · H)) λt165=>zaC H (λH K'=>ACalls tP zhP [t156,t161,t165] H K') λt166=>zab H (λK'=>aUn .not t166 (K' · H)) λt167=>zag t167 (K (.bool false) H) (zac .add false t10 (.int .i64 1) λt155=>Kb21 (znH t0 t4 t5 t7 t155) H)) (K (.bool true) H)
def ziF:Prop:=zag t117 (zaf 0 t5 λt120=>zae false 1 t120 H λt121=>zac .eql false t121 (.int .i64 7) λt122=>zad t122 true H (λK'=>zaf 0 t4 (K' · H)) λt124 H=>zad t122 true H (λK'=>zae false 1 t124 H (K' · H)) λt125 H=>zad t122 true H (λK'=>zac .neq false t125 (.int .i64 6) (K' · H)) λt126 H=>zad t122 true H (λK'=>K' t126 H) λt127 H=>zad t127 false H (λK'=>K' t7 H) λt128 H=>zad t127 false H (λK'=>zac .gtr false t128 (.int .i64 4096) (K' · H)) λt129 H=>zad t122 true H (λK'=>zam t127 (.bool true) t129 (K' · H)) λt130 H=>zam t122 t130 (.bool false) λt131=>zad t131 false H (λK'=>zaf 0 t5 (K' · H)) λt133 H=>zad t131 false H (λK'=>zae false 1 t133 H (K' · H)) λt134 H=>zad t131 false H (λK'=>zac .eql false t134 (.int .i64 8) (K' · H)) λt135 H=>zad t131 false H (λK'=>K' t135 H) λt136 H=>zad t136 true H (λK'=>zaf 0 t4 (K' · H)) λt137 H=>zad t136 true H (λK'=>zae false 1 t137 H (K' · H)) λt138 H=>zad t136 true H (λK'=>zac .neq false t138 (.int .i64 7) (K' · H)) λt139 H=>zad t136 true H (λK'=>K' t139 H) λt140 H=>zad t140 false H (λK'=>K' t7 H) λt141 H=>zad t140 false H (λK'=>zac .neq false t141 (.int .i64 1) (K' · H)) λt142 H=>zad t136 true H (λK'=>zam t140 (.bool true) t142 (K' · H)) λt143 H=>zad t131 false H (λK'=>zam t136 t143 (.bool false) (K' · H)) λt144 H=>zam t131 (.bool true) t144 λt145=>zad t145 false H (λK'=>zaf 1 t4 (K' · H)) λt147 H=>zad t145 false H (λK'=>zae false 1 t147 H (K' · H)) λt148 H=>zad t145 false H (λK'=>zac .neq false t148 (.int .i64 0) (K' · H)) λt149 H=>zam t145 (.bool true) t149 λt150=>zag t150 (K (.bool false) H) (zuH t0 t4 t5 t7 (.int .i64 0) H K)) (zaf 0 t4 λt168=>zae false 1 t168 H λt169=>zac .eql false t169 (.int .i64 8) λt170=>zad t170 true H (λK'=>zaf 1 t4 (K' · H)) λt172 H=>zad t170 true H (λK'=>zae false 1 t172 H (K' · H)) λt173 H=>zad t170 true H (λK'=>zac .geq false t173 (.int .i64 0) (K' · H)) λt174 H=>zam t170 t174 (.bool false) λt175=>zad t175 true H (λK'=>zaf 1 t4 (K' · H)) λt177 H=>zad t175 true H (λK'=>zae false 1 t177 H (K' · H)) λt178 H=>zad t175 true H (λK'=>zac .lss false t178 (.int .i64 64) (K' · H)) λt179 H=>zam t175 t179 (.bool false) λt180=>zad t180 true H (λK'=>K' t7 H) λt182 H=>zad t180 true H (λK'=>zac .eql false t182 (.int .i64 0) (K' · H)) λt183 H=>zam t180 t183 (.bool false) λt184=>K t184 H)
def zeE:Prop:=zaq t1 H λt4 H=>zaq t2 H λt5 H=>zaf 2 t4 λt11=>zae false 1 t11 H λt12=>zah 1 t12 λt13=>zaf 0 t5 λt14=>zae false 1 t14 H λt15=>zac .eql false t15 (.int .i64 3) λt17=>zag t17 (zaf 0 t4 λt18=>zae false 1 t18 H λt19=>zac .eql false t19 (.int .i64 1) λt20=>zad t20 true H (λK'=>zaf 1 t4 (K' · H)) λt22 H=>zad t20 true H (λK'=>zae false 1 t22 H (K' · H)) λt23 H=>zad t20 true H (λK'=>zac .eql false t23 (.int .i64 0) (K' · H)) λt24 H=>zam t20 t24 (.bool false) λt25=>zad t25 true H (λK'=>K' t13 H) λt27 H=>zad t25 true H (λK'=>zac .eql false t27 (.int .i64 0) (K' · H)) λt28 H=>zam t25 t28 (.bool false) λt29=>K t29 H) (zac .eql false t15 (.int .i64 2) λt31=>zag t31 (zaf 0 t4 λt32=>zae false 1 t32 H λt33=>zac .eql false t33 (.int .i64 2) λt34=>zad t34 true H (λK'=>zaf 1 t4 (K' · H)) λt36 H=>zad t34 true H (λK'=>zae false 1 t36 H (K' · H)) λt37 H=>zad t34 true H (λK'=>zac .eql false t37 (.int .i64 0) (K' · H)) λt38 H=>zad t34 true H (λK'=>K' t38 H) λt39 H=>zad t39 false H (λK'=>zaf 1 t4 (K' · H)) λt40 H=>zad t39 false H (λK'=>zae false 1 t40 H (K' · H)) λt41 H=>zad t39 false H (λK'=>zac .eql false t41 (.int .i64 1) (K' · H)) λt42 H=>zad t34 true H (λK'=>zam t39 (.bool true) t42 (K' · H)) λt43 H=>zam t34 t43 (.bool false) λt44=>zad t44 true H (λK'=>K' t13 H) λt46 H=>zad t44 true H (λK'=>zac .eql false t46 (.int .i64 0) (K' · H)) λt47 H=>zam t44 t47 (.bool false) λt48=>K t48 H) (zac .eql false t15 (.int .i64 1) λt50=>zag t50 (zaf 0 t4 λt51=>zae false 1 t51 H λt52=>zac .eql false t52 (.int .i64 3) λt53=>zad t53 true H (λK'=>zaf 1 t4 (K' · H)) λt55 H=>zad t53 true H (λK'=>zae false 1 t55 H (K' · H)) λt56 H=>zad t53 true H (λK'=>zac .geq false t56 (.int .i64 (-1099511627776)) (K' · H)) λt57 H=>zam t53 t57 (.bool false) λt58=>zad t58 true H (λK'=>zaf 1 t4 (K' · H)) λt60 H=>zad t58 true H (λK'=>zae false 1 t60 H (K' · H)) λt61 H=>zad t58 true H (λK'=>zac .leq false t61 (.int .i64 1099511627776) (K' · H)) λt62 H=>zam t58 t62 (.bool false) λt63=>zad t63 true H (λK'=>K' t13 H) λt65 H=>zad t63 true H (λK'=>zac .eql false t65 (.int .i64 0) (K' · H)) λt66 H=>zam t63 t66 (.bool false) λt67=>K t67 H) (zac .eql false t15 (.int .i64 6) λt69=>zag t69 (zaf 0 t4 λt70=>zae false 1 t70 H λt71=>zac .eql false t71 (.int .i64 4) λt72=>zad t72 true H (λK'=>zaf 1 t4 (K' · H)) λt74 H=>zad t72 true H (λK'=>zae false 1 t74 H (K' · H)) λt75 H=>zad t72 true H (λK'=>zac .eql false t75 (.int .i64 0) (K' · H)) λt76 H=>zam t72 t76 (.bool false) λt77=>zad t77 true H (λK'=>K' t0 H) λt79 H=>zad t77 true H (λK'=>zaf 2 t4 (K' · H)) λt80 H=>zad t77 true H (λK'=>zae false 1 t80 H (K' · H)) λt81 H=>zad t77 true H (λK'=>zaf 2 t5 (K' · H)) λt82 H=>zad t77 true H (λK'=>zae false 1 t82 H (K' · H)) λt83 H=>zad t77 true H (λK'=>ACalls tP zj8 [t79,t81,t83] H K') λt84 H=>zam t77 t84 (.bool false) λt85=>K t85 H) (zac .eql false t15 (.int .i64 5) λt87=>zag t87 (zaf 0 t4 λt88=>zae false 1 t88 H λt89=>zac .neq false t89 (.int .i64 5) λt90=>zad t90 false H (λK'=>zaf 1 t4 (K' · H)) λt92 H=>zad t90 false H (λK'=>zae false 1 t92 H (K' · H)) λt93 H=>zad t90 false H (λK'=>zac .lss false t93 (.int .i64 0) (K' · H)) λt94 H=>zam t90 (.bool true) t94 λt95=>zad t95 false H (λK'=>zaf 1 t4 (K' · H)) λt97 H=>zad t95 false H (λK'=>zae false 1 t97 H (K' · H)) λt98 H=>zad t95 false H (λK'=>zac .geq false t98 (.int .i64 8) (K' · H)) λt99 H=>zam t95 (.bool true) t99 λt100=>zag t100 (K (.bool false) H) (zae true 3 t5 H λt103=>zaf 1 t4 λt104=>zae false 1 t104 H λt105=>ACalls tP zhW [t0,t103,t105] H λt106 H=>zaA t106 0 λt107=>zaA t106 1 λt108=>zad t108 true H (λK'=>K' t0 H) λt111 H=>zad t108 true H (λK'=>zaf 2 t4 (K' · H)) λt112 H=>zad t108 true H (λK'=>zae false 1 t112 H (K' · H)) λt113 H=>zad t108 true H (λK'=>K' t107 H) λt114 H=>zad t108 true H (λK'=>ACalls tP zj8 [t111,t113,t114] H K') λt115 H=>zam t108 t115 (.bool false) λt116=>K t116 H)) (zac .eql false t15 (.int .i64 7) λt118=>zag t118 (ziF t0 t4 t5 t13 t118 H K) (zac .eql false t15 (.int .i64 8) λt119=>ziF t0 t4 t5 t13 t119 H K))))))
def zoq:Nat→List Bool | 4=>rl false [0,3,4,1,22] | _=>[]
noncomputable def zvu:Code:=Tryz.f97.body.getD .skip
noncomputable def zXp:List ResultVar:=Tryz.f97.results.toList
def zor:List AV:=t0::t1::t2::ux 4 (t7::ux 22 [])
def zXn:List Bool:=zoq 4
noncomputable def zXl:Code:=zar [1,1,0,1,0,0] zvu
def zXk:AExit→List AV→zaa→Prop:=zas tP zoq [1,1,0,1,0] zvu (zay tP zXp K)
def zEM:Prop:=ALoop tP zXl (zXk K) (zor t0 t1 t2 t7) H
def zvt:Prop:=zah 1 t1 λt15=>zac .lss false t7 t15 λt16=>zag t16 (zab H (λK'=>K' t0 H) λt19=>zab H (λK'=>K' t1 H) λt20=>zab H (λK'=>K' t7 H) λt21=>zab H (λK'=>zaj 3 t20 t21 (K' · H)) λt22=>zab H (λK'=>zal true 3 t22 H (K' · H)) λt23=>zab H (λK'=>K' t2 H) λt24=>zab H (λK'=>K' t7 H) λt25=>zab H (λK'=>zaj 3 t24 t25 (K' · H)) λt26=>zab H (λK'=>zal true 3 t26 H (K' · H)) λt27=>zaC H (λH K'=>ACalls tP zhP [t19,t23,t27] H K') λt28=>zab H (λK'=>aUn .not t28 (K' · H)) λt29=>zag t29 (K (.bool false) H) (zac .add false t7 (.int .i64 1) λt18=>Kb4 (zor t0 t1 t2 t18) H)) (K (.bool true) H)
def zvs:Prop:=zah 1 t1 λt9=>zah 1 t2 λt11=>zac .neq false t9 t11 λt12=>zag t12 (K (.bool false) H) (zEM t0 t1 t2 (.int .i64 0) H K)
def znx:Nat→List Bool | 5=>rl false [1,2,2,1,24] | _=>[]
noncomputable def zuv:Code:=Tryz.f47.body.getD .skip
noncomputable def zUf:List ResultVar:=Tryz.f47.results.toList
def zny:List AV:=ux 1 (t1::t2::ux 2 (t5::ux 24 []))
def zUd:List Bool:=znx 5
noncomputable def zUb:Code:=zar [1,1,1,0,1,0,0] zuv
def zUa:AExit→List AV→zaa→Prop:=zas tP znx [1,1,1,0,1,0] zuv (zay tP zUf K)
def zDw:Prop:=ALoop tP zUb (zUa K) (zny t1 t2 t5) H
def zuu:Prop:=zaf 2 t2 λt16=>zae false 1 t16 H λt17=>zah 1 t17 λt18=>zac .lss false t5 t18 λt19=>zag t19 (zaf 2 t2 λt22=>zae false 1 t22 H λt23=>zaj 3 t23 t5 λt25=>zae true 3 t25 H λt26=>ACalls tP zjS [t26,t1] H λt28 H=>aUn .not t28 λt29=>zag t29 (K (.bool false) H) (zac .add false t5 (.int .i64 1) λt21=>Kb5 (zny t1 t2 t21) H)) (K (.bool true) H)
def zDv:Prop:=zaq t0 H λt2 H=>zaX t1 λt7=>zae false 1 t7 H λt8=>zac .sub false t8 (.int .i64 1) λt9=>zaX t1 λt10=>zan 1 t10 t9 H λH=>zaX t1 λt12=>zae false 1 t12 H λt13=>zac .lss false t13 (.int .i64 0) λt14=>zag t14 (K (.bool false) H) (zDw t1 t2 (.int .i64 0) H K)
variable {t0 t1 t2 t4 t5 t7 t10 t117} {H} {K} {Kb4 Kb5 Kb21}
theorem zUu (Inv:Nat→AV→zaa→Prop) (n:Nat) (h0:HSc H→Inv n t5 H)
  (ac:Rd1 (λt5=>znF t1 t2 t5) (λt5=>λH Kb5=>zuD t1 t2 t5 H K Kb5) H Inv):zDH t1 t2 t5 H K:=
 lp1 (M:=znE) zUv t5 (by kernel_rfl) Inv n h0 ac
theorem zUw (h:HSc H→zDG t0 t1 H K):ACalls tP zjU [t0,t1] H K:=
 acb znE Tryz.func50 zuE (by kernel_rfl) (by kernel_rfl) h
theorem zUB (Inv:Nat→AV→zaa→Prop) (n:Nat) (h0:HSc H→Inv n t10 H)
  (ac:Rd1 (λt10=>znH t0 t4 t5 t7 t10) (λt10=>λH Kb21=>zuF t0 t4 t5 t7 t10 H K Kb21) H Inv):zuH t0 t4 t5 t7 t10 H K:=
 lp1 (M:=znG) zUC t10 (by kernel_rfl) Inv n h0 ac
theorem zUD (h:HSc H→zeE t0 t1 t2 H K):ACalls tP zhP [t0,t1,t2] H K:=
 acb znG Tryz.func51 zuG (by kernel_rfl) (by kernel_rfl) h
theorem zXm (Inv:Nat→AV→zaa→Prop) (n:Nat) (h0:HSc H→Inv n t7 H)
  (ac:Rd1 (λt7=>zor t0 t1 t2 t7) (λt7=>λH Kb4=>zvt t0 t1 t2 t7 H K Kb4) H Inv):zEM t0 t1 t2 t7 H K:=
 lp1 (M:=zoq) zXn t7 (by kernel_rfl) Inv n h0 ac
theorem zXo (h:HSc H→zvs t0 t1 t2 H K):ACalls tP zj8 [t0,t1,t2] H K:=
 acb zoq Tryz.func97 zvu (by kernel_rfl) (by kernel_rfl) h
theorem zUc (Inv:Nat→AV→zaa→Prop) (n:Nat) (h0:HSc H→Inv n t5 H)
  (ac:Rd1 (λt5=>zny t1 t2 t5) (λt5=>λH Kb5=>zuu t1 t2 t5 H K Kb5) H Inv):zDw t1 t2 t5 H K:=
 lp1 (M:=znx) zUd t5 (by kernel_rfl) Inv n h0 ac
theorem zUe (h:HSc H→zDv t0 t1 H K):ACalls tP zjS [t0,t1] H K:=
 acb znx Tryz.func47 zuv (by kernel_rfl) (by kernel_rfl) h
end
end Go.Proofs.YtdmamdnkcefmmaaGreatDoor
section


end
namespace Go.Proofs.YtdmamdnkcefmmaaGreatDoor
open Go Go.Abs
def d4 (aa:List Dat):AV:=.agg [.sl (aa.map Dat.cs) .none,.snil,.snil,.snil]
section
variable {H:zaa} {K:Kt} (aa:List Dat)
theorem zJJ (hK:K (.bool true) H):ACalls tP zpY [d4 aa] H K:=by refine ACalls.out (zN0 λhs=>?_);simp[zBk,d4];refine⟨rfl,ACalls.wk (args':=[.sl (VT.css []) .none,.fn zxU [.ptr H.length 0]]) ?_ ⟨.atom .snil,.atom (.refl _),trivial⟩⟩;refine zo5 [] (by simp) _ _ _ (by simp[AV.sc,AV.scV,AV.scA,AV.scB]) (λ_ H'=>H'=H++[.cells [.sl (aa.map Dat.cs) .none,.snil,.snil,.snil]]) rfl (λi h=>by simp at h) ?_;rintro H' rfl;simp;exact Out.bool rfl (Nat.le_refl _) hs hK
theorem zFX (hK:K (.bool true) H):ACalls tP zpZ [d4 aa] H K:=by refine ACalls.out (zN5 λhs=>?_);simp[zBl,d4];refine zN3 (Inv:=λ_ _ t H'=>t=.int .i64 0∧H'=_) 0 (λ_=>⟨rfl,rfl⟩) ?_;rintro q t4 t H' ⟨rfl,rfl⟩ _ _ _ Kb aw;simp[zBm];exact Out.bool rfl (Nat.le_refl _) hs hK
theorem zJy (hK:K (.bool true) H):ACalls tP zp0 [d4 aa] H K:=by refine ACalls.out (zOo λhs=>?_);simp[zBr,d4,zba];refine⟨⟨rfl,rfl⟩,zOm (Inv:=λ_ t H'=>t=.int .i64 0∧H'=_) 0 (λ_=>⟨rfl,rfl⟩) ?_⟩;rintro q t H' ⟨rfl,rfl⟩ _ _ _ Kb aw;simp[zBu];refine zOl (Inv:=λ_ t H'=>t=.int .i64 0∧H'=_) 0 (λ_=>⟨rfl,rfl⟩) ?_;rintro q t H' ⟨rfl,rfl⟩ _ _ _ Kb2 bE;simp[zBt,Nat.add_assoc];exact Out.bool rfl (Nat.le_refl _) hs hK
theorem zFH (hK:K (.bool true) H):ACalls tP zp1 [d4 aa] H K:=by refine ACalls.out (zOy λhs=>?_);simp[zBA,d4,zba];refine⟨⟨rfl,rfl⟩,zOw (Inv:=λ_ t H'=>t=.int .i64 0∧H'=_) 0 (λ_=>⟨rfl,rfl⟩) ?_⟩;rintro q t H' ⟨rfl,rfl⟩ _ _ _ Kb aw;simp[zBD];refine zOv (Inv:=λ_ t H'=>t=.int .i64 0∧H'=_) 0 (λ_=>⟨rfl,rfl⟩) ?_;rintro q t H' ⟨rfl,rfl⟩ _ _ _ Kb2 bE;simp[zBC,Nat.add_assoc];exact Out.bool rfl (Nat.le_refl _) hs hK
theorem zIc (hK:K (.bool true) H):ACalls tP zp2 [d4 aa] H K:=by refine ACalls.out (zOD λhs=>?_);simp[zBJ,d4,zba];refine⟨rfl,⟨rfl,rfl,rfl,rfl⟩,zOB (Inv:=λ_ t H'=>t=.int .i64 0∧H'=_) 0 (λ_=>⟨rfl,rfl⟩) ?_⟩;rintro q t H' ⟨rfl,rfl⟩ _ _ _ Kb aw;simp[zBK];exact Out.bool rfl (Nat.le_refl _) hs hK
theorem zGj (hK:K (.bool true) H):ACalls tP zp3 [d4 aa] H K:=by refine ACalls.out (zON λhs=>?_);simp[zBM,d4,zba,zau,zaL];refine zOJ (Inv:=λ_ t H'=>t=.int .i64 0∧H'=_) 0 (λ_=>⟨rfl,rfl⟩) ?_;rintro q t H' ⟨rfl,rfl⟩ _ _ _ Kb aw;simp[zBN];refine zOK (Inv:=λ_ t H'=>t=.int .i64 0∧H'=_) 0 (λ_=>⟨rfl,rfl⟩) ?_;rintro q t H' ⟨rfl,rfl⟩ _ _ _ Kb2 bE;simp[zBO];exact Out.bool rfl (Nat.le_refl _) hs hK
theorem zLl (hB:zgX aa) (hl:aa.length≤1000000) (hK:K (.bool (zbn aa)) H):ACalls tP zpH [d4 aa] H K:=by
 refine ACalls.out (zLm λhs=>?_);simp[zAx,d4];refine zNX aa hB hl _ _ ?_;cases hd:zbn aa with
 | false=>rw[hd]at hK;simp;exact Out.bool rfl (Nat.le_refl _) hs hK
 | true=>rw[hd]at hK;simp;refine zJJ aa ?_;simp;refine zFX aa ?_;simp;refine zJy aa ?_;simp;refine zFH aa ?_;simp;refine zIc aa ?_;simp;refine zGj aa ?_;exact Out.bool rfl (Nat.le_refl _) hs hK
def zbx (aa:List Dat) (t:VT):Bool:=zbn aa && zaZ aa 0 t
end
theorem zUg:∀ (m:Nat) (v:VT),v.nodes≤m→∀ (left:Int),left≤1000000→-1≤left→∀ (H:zaa) (id:Nat),H[id]?=some (.cells [.int .i64 left])→∀ (K:AV→zaa→Prop),
  ((v.nodes:Int)≤left→K (.bool true) (H.set id (.cells [.int .i64 (left-v.nodes)])))→(¬ (v.nodes:Int)≤left→∀ l',K (.bool false) (H.set id (.cells [.int .i64 l']))) →
  ACalls tP zjS [.agg v.cs,.ptr id 0] H K:=by
 intro m;induction m with
 | zero=>intro v h;have:=v.nodes_pos;omega
 | succ m ih=>
  intro v hv left dR cM H id ar K hK hF;obtain⟨k,n,ks⟩:=v;have ap:=zbi ar;have cy:(VT.mk k n ks).nodes=VT.nodesL ks+1:=by simp[VT.nodes]
  refine ACalls.out (zUe λhs=>?_);have aC:(H++[AB.cells [.int .i64 k,.int .i64 n,.sl (VT.css ks) .none]])[id]?=some (.cells [.int .i64 left]):=zby ar;have bad:(¬ ((VT.mk k n ks).nodes:Int)≤left)→∀ l' H',H'=H.set id (.cells [.int .i64 l'])++[.cells [.int .i64 k,.int .i64 n,.sl (VT.css ks) .none]]→Out H.length K (.bool false) H':=by intro h l' H' he;exact Out.bool he (by simp) (hs.set rfl) (hF h l')
  simp[zDv,VT.cs,aC,AV.known];rw[zat (by omega) (by omega),zcw _ ar,zby (zb8 _ ar)];by_cases h0:left-1<0
  ·simp[h0];exact bad (by omega) _ _ rfl
  ·simp[h0];refine zUc (Inv:=λq t5 H'=>∃ i:Nat,i≤ks.length∧q=ks.length-i∧t5=.int .i64 i∧((VT.nodesL (ks.take i):Int)+1≤left)∧H'=H.set id (.cells [.int .i64 (left-1-VT.nodesL (ks.take i))])++[.cells [.int .i64 k,.int .i64 n,.sl (VT.css ks) .none]]) ks.length ?_ ?_
   ·intro _;exact⟨0,by omega,by omega,rfl,by simp[VT.nodesL];omega,by simp[VT.nodesL]⟩
   ·rintro q t5 H' ⟨i,hi,rfl,rfl,hb,rfl⟩ hsc aq aO Kb aw;by_cases bj:i<ks.length
    ·have bk:=VT.kid_lt (k:=k) (n:=n) bj;have h1:=VT.nodesL_take bj;have h2:=VT.nodesL_take_le ks (i+1);have bq:=VT.len_le (ks.take i);simp only[List.length_take]at bq;have cG:(H.set id (.cells [.int .i64 (left-1-VT.nodesL (ks.take i))])++[AB.cells [.int .i64 k,.int .i64 n,.sl (VT.css ks) .none]])[id]?=some (.cells [.int .i64 (left-1-VT.nodesL (ks.take i))]):=zby (zb8 _ ar);simp[zuu,bj];refine ih ks[i] (by omega) (left-1-VT.nodesL (ks.take i)) (by omega) (by omega) _ id cG _ ?_ ?_
     ·intro aQ;rw[zcw _ (zb8 _ ar),List.set_set];simp;rw[zat (by omega) (by omega)];refine aw _ _ ⟨ks.length-(i+1),by omega,Back.here (by simp) ((hs.set rfl).snoc rfl) ?_ ⟨_,rfl,i+1,by omega,rfl,by simp,by omega,?_⟩⟩
      ·simp[zny,AV.sc,AV.scV,AV.scA,AV.scB];omega
      ·rw[h1];congr 5;omega
     ·intro aQ l';rw[zcw _ (zb8 _ ar),List.set_set];simp;exact bad (by omega) _ _ rfl
    ·obtain rfl:i=ks.length:=by omega
     rw[List.take_length]at hb ⊢;simp[zuu];refine Out.bool rfl (by simp) (hs.set rfl) ?_;have:=hK (by omega);rw[cy]at this;rw[show left-1-(VT.nodesL ks:Int)=left-((VT.nodesL ks+1:Nat):Int) by omega];exact this
theorem zUy:∀ (m:Nat) (v:VT),v.nodes≤m→∀ (left:Int),left≤1000000→-1≤left→∀ (H:zaa) (id:Nat),H[id]?=some (.cells [.int .i64 left])→∀ (K:AV→zaa→Prop),
  ((v.nodes:Int)≤left→K (.bool true) (H.set id (.cells [.int .i64 (left-v.nodes)])))→(¬ (v.nodes:Int)≤left→∀ l',K (.bool false) (H.set id (.cells [.int .i64 l']))) →
  ACalls tP zjU [.agg v.cs,.ptr id 0] H K:=by
 intro m;induction m with
 | zero=>intro v h;have:=v.nodes_pos;omega
 | succ m ih=>
  intro v hv left dR cM H id ar K hK hF;obtain⟨k,n,ks⟩:=v;have ap:=zbi ar;have cy:(VT.mk k n ks).nodes=VT.nodesL ks+1:=by simp[VT.nodes]
  refine ACalls.out (zUw λhs=>?_);have aC:(H++[AB.cells [.int .i64 k,.int .i64 n,.sl (VT.css ks) .none]])[id]?=some (.cells [.int .i64 left]):=zby ar;have bad:(¬ ((VT.mk k n ks).nodes:Int)≤left)→∀ l' H',H'=H.set id (.cells [.int .i64 l'])++[.cells [.int .i64 k,.int .i64 n,.sl (VT.css ks) .none]]→Out H.length K (.bool false) H':=by intro h l' H' he;exact Out.bool he (by simp) (hs.set rfl) (hF h l')
  simp[zDG,VT.cs,aC,AV.known];rw[zat (by omega) (by omega),zcw _ ar,zby (zb8 _ ar)];by_cases h0:left-1<0
  ·simp[h0];exact bad (by omega) _ _ rfl
  ·simp[h0];refine zUu (Inv:=λq t5 H'=>∃ i:Nat,i≤ks.length∧q=ks.length-i∧t5=.int .i64 i∧((VT.nodesL (ks.take i):Int)+1≤left)∧H'=H.set id (.cells [.int .i64 (left-1-VT.nodesL (ks.take i))])++[.cells [.int .i64 k,.int .i64 n,.sl (VT.css ks) .none]]) ks.length ?_ ?_
   ·intro _;exact⟨0,by omega,by omega,rfl,by simp[VT.nodesL];omega,by simp[VT.nodesL]⟩
   ·rintro q t5 H' ⟨i,hi,rfl,rfl,hb,rfl⟩ hsc aq aO Kb aw;by_cases bj:i<ks.length
    ·have bk:=VT.kid_lt (k:=k) (n:=n) bj;have h1:=VT.nodesL_take bj;have h2:=VT.nodesL_take_le ks (i+1);have bq:=VT.len_le (ks.take i);simp only[List.length_take]at bq;have cG:(H.set id (.cells [.int .i64 (left-1-VT.nodesL (ks.take i))])++[AB.cells [.int .i64 k,.int .i64 n,.sl (VT.css ks) .none]])[id]?=some (.cells [.int .i64 (left-1-VT.nodesL (ks.take i))]):=zby (zb8 _ ar);simp[zuD,bj];refine ih ks[i] (by omega) (left-1-VT.nodesL (ks.take i)) (by omega) (by omega) _ id cG _ ?_ ?_
     ·intro aQ;rw[zcw _ (zb8 _ ar),List.set_set];simp;rw[zat (by omega) (by omega)];refine aw _ _ ⟨ks.length-(i+1),by omega,Back.here (by simp) ((hs.set rfl).snoc rfl) ?_ ⟨_,rfl,i+1,by omega,rfl,by simp,by omega,?_⟩⟩
      ·simp[znF,AV.sc,AV.scV,AV.scA,AV.scB];omega
      ·rw[h1];congr 5;omega
     ·intro aQ l';rw[zcw _ (zb8 _ ar),List.set_set];simp;exact bad (by omega) _ _ rfl
    ·obtain rfl:i=ks.length:=by omega
     rw[List.take_length]at hb ⊢;simp[zuD];refine Out.bool rfl (by simp) (hs.set rfl) ?_;have:=hK (by omega);rw[cy]at this;rw[show left-1-(VT.nodesL ks:Int)=left-((VT.nodesL ks+1:Nat):Int) by omega];exact this
theorem zNv (v:VT) (H:zaa) (K:AV→zaa→Prop) (hK:∀ b,(b=true→v.nodes≤400)→K (.bool b) H):ACalls tP zpS [.agg v.cs] H K:=by
 refine ACalls.out (zNu λhs=>?_);simp[zAX,AV.known];refine zUg _ v (Nat.le_refl _) 400 (by omega) (by omega) _ (H.length+1) (by simp) _ ?_ ?_
 ·intro h;exact Out.bool (J:=[_,_]) (by simp;exact⟨rfl,rfl⟩) (Nat.le_refl _) hs (hK true λ_=>by omega)
 ·intro h l';exact Out.bool (J:=[_,_]) (by simp;exact⟨rfl,rfl⟩) (Nat.le_refl _) hs (hK false λh=>by cases h)
theorem zpl (aa:List Dat):∀ vs ts:List VT,zbR aa vs ts=zcN (zaI aa) vs ts
 | [],[]=>by simp[zbR,zcN]
 | [],_::_=>by simp[zbR,zcN]
 | _::_,[]=>by simp[zbR,zcN]
 | v::vs,t::ts=>by simp[zbR,zcN,zpl aa vs ts]
theorem zJC {aa:List Dat} {k n:Int} {ks:List VT} (h:za5 aa 0 (.mk k n ks)=true):(k=1∧ks=[])∨(k=2∧ks=[])∨(k=3∧ks=[])∨k=5∨(k=6∧2≤ks.length)∨(k=7∧ks.length=1)∨(k=8∧ks.length=1)∨(k=9∧1≤ks.length):=by
 rw[za5,Bool.and_eq_true]at h;have h:=h.1;unfold zbj at h;by_cases h1:k=1
 ·subst h1;simp at h;simp[h.2]
 by_cases h2:k=2
 ·subst h2;simp at h;simp[h.2]
 by_cases h3:k=3
 ·subst h3;simp at h;simp[h.2]
 by_cases h4:k=4
 ·subst h4;simp at h;omega
 by_cases h5:k=5
 ·subst h5;simp
 by_cases h6:k=6
 ·subst h6;simp at h;simp;omega
 by_cases h7:k=7
 ·subst h7;simp at h;simp;omega
 by_cases h8:k=8
 ·subst h8;simp at h;simp;omega
 by_cases h9:k=9
 ·subst h9;simp at h;simp;omega
 simp[h1,h2,h3,h4,h5,h6,h7,h8,h9]at h
structure DOk (aa:List Dat):Prop where
 ok:zbn aa=true
 k:zbb aa
theorem DOk.small {aa:List Dat} (h:DOk aa):zgX aa:=λD hD=>by obtain⟨_,h2⟩:=h.k;obtain⟨_,h3,h4⟩:=h2 D hD;refine⟨by omega,λc hc=>?_⟩;obtain⟨_,h5,h6⟩:=h4 c hc;exact⟨by omega,λx hx=>by have:=h6 x hx;omega⟩
theorem zeS {aa:List Dat} (h:zbb aa):aa.length≤1000000∧(∀ d∈aa,∀ c∈d.cons,c.args.length≤1000∧∀ x∈c.args,x.nodes≤1000)∧∀ d∈aa,d.cons.length≤1000000:=by
 obtain⟨h1,h2⟩:=h;refine⟨by omega,λD hD c hc=>?_,λD hD=>?_⟩
 ·obtain⟨_,h3,h4⟩:=h2 D hD;obtain⟨_,h5,h6⟩:=h4 c hc;exact⟨by omega,λx hx=>by have:=h6 x hx;omega⟩
 ·obtain⟨_,h3,h4⟩:=h2 D hD;omega
section
variable {aa:List Dat} (hD:DOk aa)
theorem i0 (n:Nat):((n:Int) == 0)=(n == 0):=by rw[Bool.eq_iff_iff];simp
theorem zGr {ks:List VT} (h:0<ks.length):ks.getD 0 (.mk 0 0 [])=ks[0]:=by simp[List.getD_eq_getElem?_getD,h]
theorem zGv {aa:List Dat} {t:VT} {vs:List VT} {i:Nat} (h:i<vs.length):zdL aa (vs.drop i) t=(zaI aa vs[i] t && zdL aa (vs.drop (i+1)) t):=by rw[List.drop_eq_getElem_cons h,zdL]
include hD in
end
theorem zyo:∀ (a:List VT) (b:List Bool) (x:VT) (y:Bool),a.length=b.length→pick (a++[x]) (b++[y])=pick a b++(if y then [] else [x])
 | [],[],x,y,_=>by cases y <;> rfl
 | [],_::_,_,_,h=>by cases h
 | _::_,[],_,_,h=>by cases h
 | c::a,d::b,x,y,h=>by have:=zyo a b x y (by simpa using h);cases d <;> simp[pick,this]
theorem zqI {l:List VT} {bs:List Bool} {i:Nat} (h:l.length=bs.length) (hi:i<l.length):pick (l.take (i+1)) (bs.take (i+1))=pick (l.take i) (bs.take i)++(if bs[i]'(by omega) then [] else [l[i]]):=by rw[List.take_succ_eq_append_getElem hi,List.take_succ_eq_append_getElem (by omega:i<bs.length)];exact zyo _ _ _ _ (by simp;omega)
theorem zkh:∀ (a:List VT) (b:List Bool),(pick a b).length≤a.length
 | [],b=>by simp[pick]
 | _::_,[]=>by simp[pick]
 | c::a,d::b=>by have:=zkh a b;cases d <;> simp[pick] <;> omega
theorem zg8 {l:List Bool} {i:Nat} (h:i<(zbH l).length):(zbH l)[i]=[.bool (l[i]'(by simpa[zbH]using h))]:=by simp[zbH]
theorem zeM (l:List Bool):(zbH l).length=l.length:=by simp[zbH]
theorem zyn {aa:List Dat} {k n:Int} {ks:List VT} {c:Int} {l:List VT} (hk:zbb aa) (hf:za6 aa (.mk k n ks) c=some l) :
  ∃ bs,l.length=bs.length∧l.length≤8∧za7 aa (.mk k n ks) c=some (pick l bs)∧(∀ x∈l,x.nodes≤200)∧k=5 ∧
   (∀ H K,K (.sl (zbH bs) .none) H→ACalls tP zfw [.sl (aa.map Dat.cs) .none,.int .i64 n,.int .i64 c] H K) ∧
   (∀ H K,K (.sl (zbH bs) .none) H→ACalls tP zeX [.sl (aa.map Dat.cs) .none,.int .i64 n,.int .i64 c] H K):=by
 obtain⟨k5,n0,c0,hn,hc,hv,rfl,cg⟩:=zgf hf;obtain⟨f1,f2,f3⟩:=zeS hk;have hd:=List.getElem_mem hn;have bF:=List.getElem_mem hc;obtain⟨g1,g2⟩:=f2 _ hd _ bF;have g3:=f3 _ hd;have h8:=((hk.2 _ hd).2.2 _ bF).2.1;refine⟨zb2 n.toNat aa[n.toNat] (aa[n.toNat]).cons[c.toNat],by simp[zb2],by simpa using h8,?_,cg,k5,λH K hK=>?_,λH K hK=>?_⟩
 ·simp[za7,hf,zbK,hn,hc,List.getD_eq_getElem?_getD,VT.num]
 ·have:=ztg aa n.toNat c.toNat hn hc f1 g3 (by omega) (λx hx=>by have:=g2 x hx;omega) H K (by simpa[zbH,zb2,Function.comp_def]using hK);rwa [Int.toNat_of_nonneg n0,Int.toNat_of_nonneg c0]at this
 ·have:=ztA aa n.toNat c.toNat hn hc f1 g3 (by omega) (λx hx=>by have:=g2 x hx;omega) H K hK;rwa [Int.toNat_of_nonneg n0,Int.toNat_of_nonneg c0]at this
theorem zym {aa:List Dat} {t:VT} {c:Int} (hf:za6 aa t c=none):za7 aa t c=none:=by simp[za7,hf]
theorem zLC (aa:List Dat) (hk:zbb aa) (t:VT) (ht:t.nodes≤1000) (c:Int) (H:zaa) (K:Kt) (hK:K (zcx (za7 aa t c)) H) :
  ACalls tP zpI [.sl (aa.map Dat.cs) .none,.agg t.cs,.int .i64 c] H K:=by
 refine ACalls.out (zLA λhs=>?_);obtain⟨f1,f2,f3⟩:=zeS hk;obtain⟨k,n,ks⟩:=t;simp[zAC,VT.cs,Nat.add_assoc];refine zBZ aa f1 f2 f3 (.mk k n ks) ht c _ _ ?_;cases hf:za6 aa (.mk k n ks) c with
 | none=>rw[zym hf]at hK;simp[zcx];refine⟨⟨rfl,rfl⟩,?_⟩;exact Out.tup (bs:=[.sl [] .none,.bool false]) hs hK ⟨zdS,zaU rfl rfl,trivial⟩
 | some l=>
  obtain⟨bs,bn,gM,bt,cg,k5,hsc,_⟩:=zyn hk hf;rw[bt]at hK;simp[zcx];refine hsc _ _ ?_;simp[zeM];unfold zlo;refine ALoop.own 10 za1 3 rfl ?_;have dR:(H++[AB.cells [AV.int IntKind.i64 k,AV.int IntKind.i64 n,AV.sl (VT.css ks) Tok.none]]).length=H.length+1:=by simp
  rw[dR];show zlo (.sl (VT.css l) .none) (.sl [] (.own (H.length+1))) (.sl (zbH bs) .none) (.int .i64 bs.length) (.int .i64 0) (H++[.cells [.int .i64 k,.int .i64 n,.sl (VT.css ks) .none]]++[.perm za1 3 0]) (Out H.length K);have aI:∀ m,HSc (H++[.cells [.int .i64 k,.int .i64 n,.sl (VT.css ks) .none],.perm za1 3 m]):=λm=>hs.append (by simp[AB.sc,AV.scA,AV.scB]);refine zLy (Inv:=λq t10 t28 H'=>∃ i:Nat,i≤bs.length∧q=bs.length-i∧t28=.int .i64 i∧t10=.sl (VT.css (pick (l.take i) (bs.take i))) (.own (H.length+1))∧H'=H++[.cells [.int .i64 k,.int .i64 n,.sl (VT.css ks) .none],.perm za1 3 (pick (l.take i) (bs.take i)).length]) bs.length ?_ ?_
  ·intro _;exact⟨0,by omega,by omega,rfl,by simp[pick,VT.css],by simp[pick]⟩
  ·rintro q t10 t28 H' ⟨i,hi,rfl,rfl,rfl,rfl⟩ aM aq aO Kb aw;by_cases ap:i<bs.length
   ·have ee:=zqI bn (by omega:i<l.length);have bW:=zkh (l.take i) (bs.take i);rw[List.length_take]at bW;have bb:∀ J,zln (.sl (VT.css l) .none) (.sl (VT.css (pick (l.take (i+1)) (bs.take (i+1)))) (.own (H.length+1))) (.sl (zbH bs) .none) (.int .i64 bs.length) (.int .i64 i)
      (H++.cells [.int .i64 k,.int .i64 n,.sl (VT.css ks) .none]::.perm za1 3 (pick (l.take (i+1)) (bs.take (i+1))).length::J) (Out H.length K) Kb:=by
     intro J;simp[zln,zAD];rw[zat (by omega) (by omega)];refine aw _ _ ⟨bs.length-(i+1),by omega,Back.at (J:=J) (H2:=H++[.cells [.int .i64 k,.int .i64 n,.sl (VT.css ks) .none],.perm za1 3 (pick (l.take (i+1)) (bs.take (i+1))).length]) (by simp) (by simp) (aI _) ?_ ⟨_,_,rfl,i+1,by omega,rfl,by simp,rfl,rfl⟩⟩;simp[zlm,AV.sc,AV.scV,AV.scA,AV.scB]
    simp[zsb,zeM,ap,zg8];cases en:bs[i] with
    | true=>rw[en]at ee;simp at ee;simp;have:=bb [];rw[ee]at this;exact this
    | false=>rw[en]at ee;simp only[Bool.false_eq_true,if_false]at ee;simp[show i<l.length by omega];rw[zei];simp[zax,zaN,zaK];have:=bb [];rw[ee]at this;rw[show VT.css (pick (l.take i) (bs.take i)++[l[i]])=VT.css (pick (l.take i) (bs.take i))++[l[i].cs] by simp[VT.css_map],show (pick (l.take i) (bs.take i)++[l[i]]).length=(pick (l.take i) (bs.take i)).length+1 by simp]at this;exact⟨⟨by omega,by omega⟩,this⟩
   ·obtain rfl:i=bs.length:=by omega
    rw[List.take_of_length_le (by omega),List.take_length]at *;simp[zsb];refine⟨⟨rfl,rfl⟩,?_⟩;exact Out.tup (bs:=[.sl (VT.css (pick l bs)) .none,.bool true]) hs hK ⟨slV,zaU rfl rfl,trivial⟩
def pos (v:Bool) (bs:List Bool) (i:Nat):List Nat:=(List.range i).filter λj=>bs.getD j false == v
def zbD (l:List Nat):List (List AV):=l.map λ(n:Nat)=>[AV.int .i64 (Int.ofNat n)]
theorem zqM (v:Bool) (bs:List Bool) (i:Nat) (h:i<bs.length):pos v bs (i+1)=pos v bs i++(if bs[i] == v then [i] else []):=by unfold pos;rw[List.range_succ,List.filter_append];congr 1;simp[List.filter_cons,List.getD_eq_getElem?_getD,h]
theorem zkk (v:Bool) (bs:List Bool) (i:Nat):(pos v bs i).length≤i:=by have:=List.length_filter_le (λj=>bs.getD j false == v) (List.range i);simpa[pos]using this
theorem zkl {v:Bool} {bs:List Bool} {i j:Nat} (h:j∈pos v bs i):j<i:=by simp[pos]at h;exact h.1
theorem ze1 {l:List VT} {bs:List Bool} (h:l.length=bs.length) (d:VT):∀ i,i≤l.length→pick (l.take i) (bs.take i)=(pos false bs i).map λj=>l.getD j d
 | 0,_=>by simp[pick,pos]
 | i+1,hi=>by rw[zqI h (by omega),zqM false bs i (by omega),List.map_append,ze1 h d i (by omega)];congr 1;cases hb:bs[i]'(by omega) <;> simp[List.getD_eq_getElem?_getD,show i<l.length by omega]
theorem zeY (l:List Nat):(zbD l).length=l.length:=by simp[zbD]
theorem zx0 {l:List Nat} {i:Nat} (h:i<(zbD l).length):(zbD l)[i]=[.int .i64 ((l[i]'(by simpa[zbD]using h):Nat):Int)]:=by simp[zbD]
theorem zxZ (l m:List Nat):zbD (l++m)=zbD l++zbD m:=by simp[zbD]
theorem zA6 (aa:List Dat) (hk:zbb aa) (k n:Int) (ks:List VT) (ht:(VT.mk k n ks).nodes≤1000) (c:Int) {l:List VT} {bs:List Bool} (hf:za6 aa (.mk k n ks) c=some l)
  (bn:l.length=bs.length) (gM:l.length≤8) (cw:∀ H K,K (.sl (zbH bs) .none) H→ACalls tP zeX [.sl (aa.map Dat.cs) .none,.int .i64 n,.int .i64 c] H K) (H:zaa) (K:Kt)
  (hK:K (.tup [.sl (zbD (pos false bs bs.length)) .none,.sl (zbD (pos true bs bs.length)) .none,.bool true]) H) :
  ACalls tP zjr [.sl (aa.map Dat.cs) .none,.agg (VT.mk k n ks).cs,.int .i64 c] H K:=by
 refine ACalls.out (zNj λhs=>?_);obtain⟨f1,f2,f3⟩:=zeS hk;simp[zA4,VT.cs,Nat.add_assoc];refine zvx aa f1 f2 f3 (.mk k n ks) ht c _ _ ?_;rw[hf];simp[zcx];refine cw _ _ ?_;simp[zeM];unfold zlW;refine ALoop.own 11 zcM 1 rfl ?_;refine ALoop.own 12 zcM 1 rfl ?_;have dR:(H++[AB.cells [AV.int IntKind.i64 k,AV.int IntKind.i64 n,AV.sl (VT.css ks) Tok.none]]).length=H.length+1:=by simp
 have dT:(H++[AB.cells [AV.int IntKind.i64 k,AV.int IntKind.i64 n,AV.sl (VT.css ks) Tok.none]]++[AB.perm zcM 1 0]).length=H.length+2:=by simp
 rw[dR,dT];show zlW (.sl [] (.own (H.length+1))) (.sl [] (.own (H.length+2))) (.sl (zbH bs) .none) (.int .i64 bs.length) (.int .i64 0) (H++[.cells [.int .i64 k,.int .i64 n,.sl (VT.css ks) .none]]++[.perm zcM 1 0]++[.perm zcM 1 0]) (Out H.length K);have aI:∀ m m2,HSc (H++[.cells [.int .i64 k,.int .i64 n,.sl (VT.css ks) .none],.perm zcM 1 m,.perm zcM 1 m2]):=λm m2=>hs.append (by simp[AB.sc,AV.scA,AV.scB]);refine zNh (Inv:=λq t11 t12 t30 H'=>∃ i:Nat,i≤bs.length∧q=bs.length-i∧t30=.int .i64 i∧t11=.sl (zbD (pos false bs i)) (.own (H.length+1))∧t12=.sl (zbD (pos true bs i)) (.own (H.length+2)) ∧
  H'=H++[.cells [.int .i64 k,.int .i64 n,.sl (VT.css ks) .none],.perm zcM 1 (pos false bs i).length,.perm zcM 1 (pos true bs i).length]) bs.length ?_ ?_
 ·intro _;exact⟨0,by omega,by omega,rfl,by simp[pos,zbD],by simp[pos,zbD],by simp[pos]⟩
 ·rintro q t11 t12 t30 H' ⟨i,hi,rfl,rfl,rfl,rfl,rfl⟩ aM aq aO Kb aw;by_cases ap:i<bs.length
  ·have dI:=zqM false bs i ap;have gg:=zqM true bs i ap;have eW:=zkk false bs i;have fR:=zkk true bs i;have bb:zlV (.sl (zbD (pos false bs (i+1))) (.own (H.length+1))) (.sl (zbD (pos true bs (i+1))) (.own (H.length+2))) (.sl (zbH bs) .none) (.int .i64 bs.length) (.int .i64 i)
     (H++[.cells [.int .i64 k,.int .i64 n,.sl (VT.css ks) .none],.perm zcM 1 (pos false bs (i+1)).length,.perm zcM 1 (pos true bs (i+1)).length]) (Out H.length K) Kb:=by
    simp[zlV,zA5];rw[zat (by omega) (by omega)];refine aw _ _ ⟨bs.length-(i+1),by omega,Back.at (J:=[]) (H2:=H++[.cells [.int .i64 k,.int .i64 n,.sl (VT.css ks) .none],.perm zcM 1 (pos false bs (i+1)).length,.perm zcM 1 (pos true bs (i+1)).length]) (by simp) (by simp) (aI _ _) ?_ ⟨_,_,_,rfl,i+1,by omega,rfl,by simp,rfl,rfl,rfl⟩⟩;simp[zlU,AV.sc,AV.scV,AV.scA,AV.scB]
   cases en:bs[i] with
   | true=>rw[en]at dI gg;simp at dI gg;rw[dI,gg]at bb;simp[zlT,zeM,ap,zg8,en,zaw,zaT,plain,AV.pd,zax,zaN,zaK,zeY];refine⟨⟨by omega,by omega⟩,?_⟩;simpa[zxZ,zbD]using bb
   | false=>rw[en]at dI gg;simp at dI gg;rw[dI,gg]at bb;simp[zlT,zeM,ap,zg8,en,zaw,zaT,plain,AV.pd,zax,zaN,zaK,zeY];refine⟨⟨by omega,by omega⟩,?_⟩;simpa[zxZ,zbD]using bb
  ·obtain rfl:i=bs.length:=by omega
   simp[zlT];refine⟨⟨rfl,rfl,rfl⟩,?_⟩;exact Out.tup (bs:=[.sl (zbD (pos false bs bs.length)) .none,.sl (zbD (pos true bs bs.length)) .none,.bool true]) hs hK ⟨slV,slV,zaU rfl rfl,trivial⟩
end Go.Proofs.YtdmamdnkcefmmaaGreatDoor
namespace Go.Abs
open Go Go.RowKit
variable {P:Program} {B:Nat} {w:World} {G:Gh} {H:zaa}
theorem HRel.frz (h:HRel B w G H) {id:Nat} {cs:List AV} (hH:H[id]?=some (.cells cs)) :
  ∃ G',Ext B w G w G'∧HRel B w G' (H.set id .dead)∧∃ b,G.μ[id]?=some (.blk b)∧G'.L b=cs.length∧∃ (vs:Array Value) (e:TypeId),w.heap[b]?=some (.cells vs e (0,0))∧All2 (ARel w G) vs.toList cs:=by
 have ap:id<G.μ.length:=by rw[h.len];exact (List.getElem?_eq_some_iff.1 hH).1
 obtain⟨gi,db⟩:∃ gi,G.μ[id]?=some gi:=⟨_,List.getElem?_eq_getElem ap⟩;have aA:=h.ok id _ _ hH db;cases gi with
 | gap=>exact aA.elim
 | own v s n=>exact aA.elim
 | blk b=>
  obtain⟨hB,hL,vs,e,hw,aR⟩:=aA;have hl:vs.size=cs.length:=by simpa using aR.length
  have he:Ext B w G w ⟨λx=>if x=b then cs.length else G.L x,G.μ⟩:=
   ⟨Nat.le_refl _,Below.refl _ _,λx=>by by_cases hx:x=b <;> simp[hx,hL],λ_ _ _=>rfl,λ_ gi h=>⟨gi,h,gi.le_refl⟩⟩
  refine⟨_,he,⟨by simp[h.len],?_,h.dist,λx hx=>?_,h.lt,h.base⟩,b,db,by simp,vs,e,hw,aR⟩
  ·intro id' ab gi h1 h2;by_cases ar:id'=id
   ·subst ar;rw[List.getElem?_set_self (List.getElem?_eq_some_iff.1 hH).1]at h1;cases h1;have h2:G.μ[id']?=some gi:=h2;rw[db]at h2;cases h2;exact⟨vs,e,(0,0),hw,by simp[hl]⟩
   ·rw[List.getElem?_set_ne (λh=>ar h.symm)]at h1;refine (h.ok id' ab gi h1 h2).keep he (λx hx=>⟨rfl,?_⟩);have:¬ x=b:=λdy=>ar (h.dist id' id gi _ b h2 db (by rw[hx,dy]) rfl);simp[this]
  ·have:=h.lt id _ b db rfl;have h3:¬ x=b:=by omega
   simp[h3,h.fresh x hx]
inductive FzA (id off len cap:Nat) (es:List (List AV)):AV→AV→Prop
 | refl (a:AV):FzA id off len cap es a a
 | ms:FzA id off len cap es (.ms id off len cap) (.sl es .none)
inductive FzT (id off len cap:Nat) (es:List (List AV)):AV→AV→Prop
 | one {a b:AV} (h:FzA id off len cap es a b):FzT id off len cap es a b
 | agg {asx bs:List AV} (h:All2 (FzA id off len cap es) asx bs):FzT id off len cap es (.agg asx) (.agg bs)
theorem FzA.rel {id off len cap size:Nat} {cs:List AV} {es:List (List AV)} (bf:off+len*size≤cs.length)
  (hp:plain ((cs.drop off).take (len*size))=some es.flatten) (aq:es.length=len) (aF:∀ c∈es,c.length=size) (aL:len≤cap) {G':Gh} (hE:Ext B w G w G') {b:Nat} (hμ:G.μ[id]?=some (.blk b)) (gQ:G'.L b=cs.length)
  {vs0:Array Value} {e:TypeId} (hw:w.heap[b]?=some (.cells vs0 e (0,0))) (aR:All2 (ARel w G) vs0.toList cs) {v:Value} {a b':AV} (a8:FzA id off len cap es a b') (hr:ARel w G v a):ARel w G' v b':=by
 cases a8 with
 | refl a=>exact hE.arel hr
 | ms=>
  obtain⟨b2,bz,rfl⟩:=hr;rw[hμ]at bz;cases bz;show DRel w G'.L _ _;subst aq;by_cases aD:es=[]
  ·subst aD;exact .slE _ _
  ·have hl:=aR.length;have hd:=zdz ((aR.drop off).take (es.length*size)) hp;refine DRel.of_flat_at (zs:=(vs0.toList.drop off).take (es.length*size)) aF aD aL (by rw[gQ];exact bf) (hd.mono λ_ _=>hE.drel) ?_;intro j u hj;rw[List.getElem?_take]at hj;split at hj
   ·simp only[World.cell?,hw];simpa using hj
   ·cases hj
theorem zoO {R R':Value→AV→Prop} {S:AV→AV→Prop} (h:∀ v a b,S a b→R v a→R' v b) {vs:List Value} {asx bs:List AV} (hr:All2 R vs asx) (hs:All2 S asx bs):All2 R' vs bs:=
 All2.of_get (hr.length.trans hs.length) λi x y hx hy=>by obtain⟨a,ha,e8⟩:=All2.get' hr hx;obtain⟨y',dS,il⟩:=All2.get' hs ha;rw[hy]at dS;cases dS;exact h _ _ _ il e8
theorem ACalls.frz {f:FuncId} {args args':List AV} {K:Kt} (id off len cap size:Nat) (cs:List AV) (es:List (List AV)) (hH:H[id]?=some (.cells cs)) (bf:off+len*size≤cs.length)
  (hp:plain ((cs.drop off).take (len*size))=some es.flatten) (aq:es.length=len) (aF:∀ c∈es,c.length=size) (aL:len≤cap) (ha:All2 (FzT id off len cap es) args args')
  (h:ACalls P f args' (H.set id .dead) K):ACalls P f args H K:=by
 intro B w G vs hR hv;obtain⟨G',hE,fz,b,hμ,gQ,vs0,e,hw,aR⟩:=hR.frz hH;have h1:∀ v a b,FzA id off len cap es a b→ARel w G v a→ARel w G' v b:=λv a b' a8 hr=>FzA.rel bf hp aq aF aL hE hμ gQ hw aR a8 hr;have h2:∀ v a b,FzT id off len cap es a b→TRel w G v a→TRel w G' v b:=by
  intro v a b' a8 hr;cases a8 with
  | one a8=>
   cases a8 with
   | refl a=>exact hE.trel hr
   | ms=>exact TRel.of_v (VRel.of_a (h1 _ _ _ .ms hr))
  | agg a8=>obtain⟨us,hu,hr⟩:=hr;exact⟨us,hu,zoO h1 hr a8⟩
 refine (h B w G' vs fz (zoO h2 hv ha)).mono λe w' ⟨v,r,H',G'',k1,k2,k3,k4,k5⟩=>⟨v,r,H',G'',k1,hE.trans k2,k3,k4,k5⟩
theorem AWp.frz {c:Code} {Q:AExit→List AV→zaa→Prop} {F:List AV} (id off len cap size:Nat) (cs:List AV) (es:List (List AV)) (id2:Nat) (cs2 cs2':List AV) (hH:H[id]?=some (.cells cs)) (bf:off+len*size≤cs.length)
  (hp:plain ((cs.drop off).take (len*size))=some es.flatten) (aq:es.length=len) (aF:∀ c∈es,c.length=size) (aL:len≤cap) (aD:id≠id2) (cL:H[id2]?=some (.cells cs2)) (ha:All2 (FzA id off len cap es) cs2 cs2')
  (h:AWp P c Q F ((H.set id .dead).set id2 (.cells cs2'))):AWp P c Q F H:=by
 intro B w G a hR hF hd;obtain⟨G',hE,fz,b,hμ,gQ,vs0,e,hw,aR⟩:=hR.frz hH;have h1:∀ v a b,FzA id off len cap es a b→ARel w G v a→ARel w G' v b:=λv a b' a8 hr=>FzA.rel bf hp aq aF aL hE hμ gQ hw aR a8 hr;have aZ:id2<G.μ.length:=by rw[hR.len];exact (List.getElem?_eq_some_iff.1 cL).1
 have hH2':(H.set id .dead)[id2]?=some (.cells cs2):=by rw[List.getElem?_set_ne aD];exact cL
 have cE:HRel B w G' ((H.set id .dead).set id2 (.cells cs2')):=by
  refine⟨by simp[fz.len],?_,fz.dist,fz.fresh,fz.lt,fz.base⟩;intro i ab gi k1 k2;by_cases hi:i=id2
  ·subst hi;rw[List.getElem?_set_self (List.getElem?_eq_some_iff.1 hH2').1]at k1;cases k1;have aA:=fz.ok i _ _ hH2' k2;have db:G.μ[i]?=some gi:=by
    obtain⟨gi0,js⟩:∃ gi0,G.μ[i]?=some gi0:=⟨_,List.getElem?_eq_getElem aZ⟩;have ip:=hR.ok i _ _ cL js;obtain⟨gi1,eY,aQ⟩:=hE.ids i gi0 js;rw[k2]at eY;cases eY;cases gi0 with
    | blk x=>cases gi with
     | blk y=>obtain rfl:x=y:=aQ;exact js
     | own v s n=>exact aQ.elim
     | gap=>exact aQ.elim
    | own v s n=>exact ip.elim
    | gap=>exact ip.elim
   have ip:=hR.ok i _ _ cL db;cases gi with
   | blk x=>obtain⟨k3,k4,vs,e',k5,k6⟩:=aA;obtain⟨_,_,vs1,e1,k7,k8⟩:=ip;rw[k5]at k7;cases k7;exact⟨k3,k4,vs,e',k5,zoO h1 k8 ha⟩
   | own v s n=>exact aA.elim
   | gap=>exact aA.elim
  ·rw[List.getElem?_set_ne (λh=>hi h.symm)]at k1;exact fz.ok i ab gi k1 k2
 refine wp_mono (h B w G' a cE (hF.ext hE) hd) λe a' w' hp=>?_;obtain⟨F',H',G'',e',rfl,k1,k2,k3,k4,k5⟩:=hp;exact⟨F',H',G'',e',rfl,hE.trans k1,k2,k3,k4,k5⟩
end Go.Abs
namespace Go.Abs
open Go Go.RowKit
variable {P:Program} {B:Nat} {w:World} {G:Gh} {H:zaa}
inductive OutW (H:zaa) (n:Nat):AV→AV→Prop
 | one {a b:AV} (h:OutV H n a b):OutW H n a b
 | rows (id e m:Nat) (cs:List AV) (rs:List (List (List AV))) (ar:n≤id) (hH:H[id]?=some (.vec e 1 m cs)) (hm:rs.length=m)
   (aN:All2 (OutV H n) cs (rs.map λr=>.sl r .none)):OutW H n (.ov id m) (.sl (rs.map λr=>[.sl r .none]) .none)
theorem OutW.vrel (hH:HRel B w G H) {n:Nat} {v:Value} {a b:AV} (h:OutW H n a b) (hr:TRel w G v a):VRel w (G.cut w n) v b:=by
 cases h with
 | one h=>exact h.vrel hH hr
 | rows id e m cs rs ar cO hm aN=>
  obtain⟨⟨a,cap0,rfl,_⟩,v',s0,n',hμ,_,heq⟩:=hr;obtain⟨rfl,rfl,⟨xs,au,aR⟩,_⟩:=hH.ok id _ _ cO hμ;obtain rfl:=heq rfl;subst hm;show DRel w (G.cut w n).L _ _;by_cases aD:rs=[]
  ·subst aD;exact .slE _ _
  ·have ce:=au;obtain⟨hl,bl⟩:=ce;have hd:All2 (DRel w (G.cut w n).L) xs (rs.map λr=>AV.sl r .none):=All2.of_get (aR.length.trans aN.length) λi x y hx hy=>by
    obtain⟨a,ha,e8⟩:=All2.get' aR hx;obtain⟨y',dS,il⟩:=All2.get' aN ha;rw[hy]at dS;cases dS;obtain⟨r,hr,rfl⟩:∃ r,rs[i]?=some r∧AV.sl r .none=y:=by simpa using hy
    exact il.vrel hH (TRel.of_v (VRel.of_a e8))
   rcases bl with ⟨h1,h2⟩ | ⟨g,cap,cur,h1,h2,h3,h4,h5,h6,h7⟩
   ·cases rs <;> simp_all
   ·simp at h1;obtain⟨rfl,rfl⟩:=h1;obtain⟨_,_,_,aH⟩:=zdy au;have bi:∀ l:List (List (List AV)),(l.map λr=>[AV.sl r .none]).flatten=l.map λr=>AV.sl r .none:=by
     intro l;induction l with
     | nil=>rfl
     | cons r l ih=>simp[ih]
    have:=DRel.of_flat_at (w:=w) (L:=(G.cut w n).L) (g:=g) (off:=0) (size:=1) (cap:=cap0) (es:=rs.map λr=>[AV.sl r .none]) (zs:=xs) (by simp) (by simpa using aD) (by simpa using h4) ?_ (by rw[bi rs];exact hd) ?_
    ·simpa using this
    ·have:(G.cut w n).L g=cur.size:=by simp only[Gh.cut];rw[if_pos (cut_dropped.2 ⟨id,_,ar,hμ,rfl⟩),h3]
     rw[this,h6];simpa using h4
    ·intro j u hj;rw[Nat.zero_add,aH j (by rw[←hl];exact (List.getElem?_eq_some_iff.1 hj).1)];exact hj
inductive OutT2 (H:zaa) (n:Nat):AV→AV→Prop
 | one {a b:AV} (h:OutW H n a b):OutT2 H n a b
 | tup {asx bs:List AV} (h:All2 (OutW H n) asx bs):OutT2 H n (.tup asx) (.tup bs)
def zE3 (n:Nat) (K:AV→zaa→Prop) (r:AV) (H':zaa):Prop:=∃ r2 H2 J,H'=H2++J∧n≤H2.length∧HSc H2∧OutT2 H' H2.length r r2∧K r2 H2
theorem Out.two {n:Nat} {K:AV→zaa→Prop} {r:AV} (h:Out n K r H):zE3 n K r H:=by
 obtain⟨r2,H2,J,hJ,hn,hsc,ho,hk⟩:=h;refine⟨r2,H2,J,hJ,hn,hsc,?_,hk⟩;cases ho with
 | one h=>exact .one (.one h)
 | tup h=>exact .tup (All2.of_get h.length λi x y hx hy=>by
   obtain⟨y',dS,il⟩:=All2.get' h hx;rw[hy]at dS;cases dS;exact .one il)
end Go.Abs
namespace Go.Abs
open Go Go.RowKit Go.Lib
variable {P:Program} {B:Nat} {w:World}
theorem zHv {t u ty e:TypeId} {i:TypeInfo} (ht:P.underlying t=some (.slice e)) (hu:P.underlying u=some .string) (hi:P.info? e=some i) (hz:i.zero=some (.int .u8 0)) (cc:i.size=1) (bu:i.bytes=1) {v:Value} {n:Nat} {xs:List Value}
  (au:w.ownsRow B e 1 v n xs) (s:ByteArray) (hm:0<s.size) (iZ:n+s.size≤maxLen) (cr:n+s.size≤140737488355328) (cN:B≤w.heap.size) :
  ∃ v' w',(Builtin.append_ #[t,u] ty #[v,.string s]).run P w=.ok v' w'∧w'.ownsRow B e 1 v' (n+s.size) (xs++strCells s) ∧
   ((∃ g,v.ownBlock=some g∧v'.ownBlock=some g∧GrB w w' (some g))∨(v'.ownBlock=some w.heap.size∧GrB w w' none)):=by
 have cj:xs.length=n:=by simpa using au.1
 have aq:(xs++strCells s).length=(n+s.size)*1:=by rw[List.length_append,cj,strCells_length,Nat.mul_one]
 have grown:∀ (old:Nat),old<n+s.size →
   (w.drew.alloc (.cells (xs.toArray++(strCells s).toArray++Builtin.zeroCells (Value.int .u8 0).cells (grownCap w (n+s.size) old e-(n+s.size))) e)).ownsRow B e 1
    (.slice (some ⟨w.heap.size,0,none⟩) (n+s.size) (grownCap w (n+s.size) old e)) (n+s.size) (xs++strCells s) ∧
   GrB w (w.drew.alloc (.cells (xs.toArray++(strCells s).toArray++Builtin.zeroCells (Value.int .u8 0).cells (grownCap w (n+s.size) old e-(n+s.size))) e)) none:=by
  intro old ho;have cG:=grownCap_ge w (n+s.size) old e;have bF:grownCap w (n+s.size) old e≤maxLen:=grownCap_le_maxLen w (n+s.size) old e iZ;refine⟨⟨aq,.inr ⟨w.heap.size,_,_,rfl,cN,zdr (w:=w.drew) _,cG,bF,?_,?_⟩⟩,⟨zpd w _,rfl,rfl,rfl,by simp,λk hk _=>zcK (w:=w.drew) hk⟩⟩
  ·have hz1:(Value.int IntKind.u8 0).cells.size=1:=rfl;simp only[Array.size_append,List.size_toArray,size_zeroCells,hz1,cj,strCells_length];omega
  ·simp only[Array.toList_append,List.append_assoc];rw[←List.append_assoc,←aq];exact List.take_left
 rcases au.2 with ⟨rfl,rfl⟩ | ⟨g,cap,cur,rfl,c7,hg,iY,bF,aR,br⟩
 ·have hx:xs=[]:=List.eq_nil_of_length_eq_zero cj;subst hx;have hr:=run_append_nil_string (P:=P) w t u ty e i (.int .u8 0) ht hu hi hz s hm (by omega) (by rw[bu];omega);have bv:=grown 0 (by omega);simp only[Nat.zero_add,List.nil_append,Array.empty_append]at bv ⊢;have e1:(s.data.map λb=>Value.int .u8 b.toNat)=(strCells s).toArray:=by apply Array.ext';simp[strCells]
  rw[e1]at hr;exact⟨_,_,hr,bv.1,.inr ⟨rfl,bv.2⟩⟩
 ·by_cases du:n+s.size≤cap
  ·have hcs':cur.size=cap:=by simpa using aR
   have hr:=run_append_room_string (P:=P) w t u ty e i ht hu hi cc g n cap cur hg s du (by omega);refine⟨_,_,hr,⟨aq,.inr ⟨g,cap,_,rfl,c7,setRow_heap w g cur _ e _ hg,du,bF,?_,?_⟩⟩,.inl ⟨g,rfl,rfl,⟨Nat.le_refl _,rfl,rfl,rfl,by simp,λk _ hk=>setRow_other w g k _ (λe=>hk (by simp[e]))⟩⟩⟩
   ·simp only[List.size_toArray,List.length_append,List.length_take,List.length_drop,Array.length_toList,strCells_length];omega
   ·have ht':cur.toList.take n=xs:=by simpa using br
    rw[ht',←aq];exact List.take_left
  ·have holds:∀ j u,xs[j]?=some u→w.cell? ((⟨g,0,none⟩:Addr).add j)=some u:=au.cells (g:=g) rfl;have hr:=run_append_grow_string (P:=P) w t u ty e i (.int .u8 0) ht hu hi hz ⟨g,0,none⟩ n cap xs (by rw[cc];simpa using cj) holds s (by omega) (by omega) (by rw[bu];exact growslice_fits (by omega) (by omega));have bv:=grown cap (by omega);exact⟨_,_,hr,bv.1,.inr ⟨rfl,bv.2⟩⟩
theorem zHw {t u ty e:TypeId} {i:TypeInfo} (ht:P.underlying t=some (.slice e)) (hu:P.underlying u=some .string) (hi:P.info? e=some i) (cc:i.size=1) {v:Value} {n:Nat} {xs:List Value}
  (au:w.ownsRow B e 1 v n xs) (s:ByteArray) (hm:s.size=0):(Builtin.append_ #[t,u] ty #[v,.string s]).run P w=.ok v w:=by
 have hn:strCells s=[]:=List.eq_nil_of_length_eq_zero (by rw[strCells_length];exact hm);have hf:=run_firstCells_string (P:=P) w 1 s;rw[hm,hn]at hf;have aT:∀ x,(storeCells x [] 0).run P w=.ok () w:=λx=>rfl;rcases au.2 with ⟨rfl,rfl⟩ | ⟨g,cap,cur,rfl,c7,hg,iY,bF,aR,br⟩
 ·simp[Builtin.append_,run_underlying ht,run_underlying hu,sizeOf,typeInfo,hi,cc,Builtin.lenOf,hm,hf]
 ·simp[Builtin.append_,run_underlying ht,run_underlying hu,sizeOf,typeInfo,hi,cc,Builtin.lenOf,hm,hf,iY,aT]
theorem wpList_append_str {am:Array Oper} {rest:List Oper} {o:Oper} {a:Act} {Q:Exit→Act→World→Prop} (jt:o.guard=none) (sl x:Operand) (t u:TypeId)
  (ho:o.op=.call { callee:=.builtin .append,args:=#[sl,x],argTypes:=#[t,u] }) {v v':Value} {w':World} {s:ByteArray} (hs:a.eval sl=v) (hx:a.eval x=.string s)
  (hr:∀ ty,(Builtin.append_ #[t,u] ty #[v,.string s]).run P w=.ok v' w') (h:wpList P am Q rest (a.put o.dst v') w'):wpList P am Q (o::rest) a w:=by
 refine wpList_plain jt λK hK=>?_;unfold Oper.wp execOp;simp only[ho,resolve,invoke,builtin,Sem.run_bind,Sem.run_pure,Result.andThen_ok,List.map_toArray,List.map_cons,List.map_nil,hs,hx,hr];exact hK _ _ h
end Go.Abs
namespace Go.Abs
open Go Go.RowKit Go.Lib
variable {P:Program} {B:Nat} {w:World} {G:Gh} {H:zaa}
theorem HRel.storeB (h:HRel B w G H) {id b:Nat} {t:TypeId} {cs cs':List AV} {vs vs':Array Value} (hH:H[id]?=some (.bld t cs)) (hμ:G.μ[id]?=some (.blk b))
  (hw:w.heap[b]?=some (.cells vs t (0,0))) (hc:All2 (ARel w G) vs'.toList cs') :
  Ext B w G (w.setRow b vs') G∧HRel B (w.setRow b vs') G (H.set id (.bld t cs')):=by
 obtain⟨hB,hL,_⟩:=h.ok id _ _ hH hμ;have aF:(w.setRow b vs').heap.size=w.heap.size:=by simp[World.setRow]
 have he:Ext B w G (w.setRow b vs') G:=by
  refine⟨Nat.le_refl _,⟨rfl,rfl,rfl,by rw[aF];exact Nat.le_refl _,λk hk=>zen _ (by omega)⟩,λ_=>Nat.le_refl _,λx off ho=>?_,λ_ gi h=>⟨gi,h,gi.le_refl⟩⟩;have:x≠b:=by intro hx;subst hx;omega
  exact zfl (zen _ this)
 refine⟨he,by simp[h.len],?_,h.dist,by rw[aF];exact h.fresh,by rw[aF];exact h.lt,by rw[aF];exact h.base⟩;intro id' ab gi h1 h2;by_cases ar:id'=id
 ·subst ar;rw[hμ]at h2;cases h2;have ap:id'<H.length:=(List.getElem?_eq_some_iff.1 hH).1;rw[List.getElem?_set_self ap]at h1;cases h1;exact⟨hB,hL,vs',setRow_heap w b vs vs' t _ hw,hc.mono λ_ _=>he.arel⟩
 ·rw[List.getElem?_set_ne (λh=>ar h.symm)]at h1;refine (h.ok id' ab gi h1 h2).keep he (λx hx=>⟨zen _ ?_,rfl⟩);intro dy;subst dy;exact ar (h.dist id' id gi _ x h2 hμ hx rfl)
theorem HRel.reCellB (h:HRel B w G H) {id:Nat} {t:TypeId} {cs cs':List AV} (ar:H[id]?=some (.bld t cs)) (hc:∀ vs:List Value,All2 (ARel w G) vs cs→All2 (ARel w G) vs cs'):HRel B w G (H.set id (.bld t cs')):=by
 refine⟨by simp[h.len],?_,h.dist,h.fresh,h.lt,h.base⟩;intro i ab gi h1 h2;by_cases hi:i=id
 ·subst hi;rw[List.getElem?_set_self (List.getElem?_eq_some_iff.1 ar).1]at h1;cases h1;have aA:=h.ok i _ _ ar h2;cases gi with
  | blk b=>obtain⟨k1,k2,vs,k3,k4⟩:=aA;exact⟨k1,k2,vs,k3,hc _ k4⟩
  | own v s n=>exact aA.elim
  | gap=>exact aA.elim
 ·rw[List.getElem?_set_ne (λh=>hi h.symm)]at h1;exact h.ok i ab gi h1 h2
theorem HRel.ownCellB (h:HRel B w G H) {id:Nat} {t:TypeId} {p:AV} (e size:Nat) (ar:H[id]?=some (.bld t [p,.snil])) :
  ∃ G',Ext B w G w G'∧HRel B w G' (H.set id (.bld t [p,.sl [] (.own H.length)])++[.perm e size 0]):=by
 obtain⟨hE,aW⟩:=h.newOwn e size;refine⟨_,hE,?_⟩;have ap:=(List.getElem?_eq_some_iff.1 ar).1;have:=aW.reCellB (id:=id) (t:=t) (cs:=[p,.snil]) (cs':=[p,.sl [] (.own H.length)]) (by rw[List.getElem?_append_left ap];exact ar) (λvs jb=>by
  match vs,jb with
  | [v1,v2],⟨h1,h2,_⟩=>
   have h2:v2=.slice none 0 0:=h2;subst h2;refine⟨h1,⟨.slE _ _,.slice none 0 0,size,0,?_,Nat.le_refl _,λ_=>⟨rfl,by simp⟩⟩,trivial⟩;rw[←h.len];simp)
 rwa [List.set_append_left _ _ ap]at this
theorem ACalls.ownB {f:FuncId} {args:List AV} {K:AV→zaa→Prop} {id:Nat} {t:TypeId} {p:AV} (e size:Nat) (ar:H[id]?=some (.bld t [p,.snil]))
  (h:ACalls P f args (H.set id (.bld t [p,.sl [] (.own H.length)])++[.perm e size 0]) K):ACalls P f args H K:=by
 intro B w G vs hH hv;obtain⟨G',hE,aW⟩:=hH.ownCellB e size ar;refine (h B w G' vs aW (hv.mono λ_ _=>hE.trel)).mono λe' w' hp=>?_;obtain⟨v,r,H',G'',h1,h2,h3⟩:=hp;exact⟨v,r,H',G'',h1,hE.trans h2,h3⟩
def bcs (l:List UInt8):List (List AV):=l.map λb=>[.int .u8 b.toNat]
theorem zeh (l:List UInt8):(bcs l).length=l.length:=by simp[bcs]
theorem zwm (l m:List UInt8):bcs l++bcs m=bcs (l++m):=by simp[bcs]
theorem zfj (l:List UInt8):∀ c∈bcs l,c.length=1:=by intro c hc;simp only[bcs,List.mem_map]at hc;obtain⟨b,_,rfl⟩:=hc;rfl
theorem zFD (l:List UInt8):All2 (DRel w G.L) (strCells ⟨l.toArray⟩) (bcs l).flatten:=by
 have:strCells ⟨l.toArray⟩=l.map λb=>Value.int .u8 b.toNat:=by simp[strCells]
 rw[this];induction l with
 | nil=>trivial
 | cons b l ih=>exact⟨.int _ _,ih (by simp[strCells])⟩
theorem HRel.freezeG (h:HRel B w G H) {id g n cap e:Nat} (hH:H[id]?=some (.frz e 1 n)) (hμ:G.μ[id]?=some (.own (.slice (some ⟨g,0,none⟩) n cap) 1 n)) (k:Nat) :
  Ext B w G (w.freeze ⟨g,0,none⟩ k) G∧HRel B (w.freeze ⟨g,0,none⟩ k) G H:=by
 obtain⟨g',cap',cur,fr0,_,_,hv,hg,fe,fm,bL,dz,ec⟩:=h.ok id _ _ hH hμ;cases hv;have dj:∀ b,b≠g→(w.freeze ⟨g,0,none⟩ k).heap[b]?=w.heap[b]?:=by
  intro b hb;unfold World.freeze;split
  ·rfl
  ·simp only[Array.getElem?_modify];rw[if_neg (λh=>hb h.symm)]
 have hgg:∃ fr,(w.freeze ⟨g,0,none⟩ k).heap[g]?=some (.cells cur e fr):=by
  unfold World.freeze;split
  ·exact⟨fr0,hg⟩
  ·simp only[Array.getElem?_modify,hg];exact⟨_,rfl⟩
 obtain⟨fr,hgf⟩:=hgg;have aF:(w.freeze ⟨g,0,none⟩ k).heap.size=w.heap.size:=by
  unfold World.freeze;split
  ·rfl
  ·simp
 have hbelow:Below B w (w.freeze ⟨g,0,none⟩ k):=below_freeze (Below.refl B w) (p:=⟨g,0,none⟩) fe k;have he:Ext B w G (w.freeze ⟨g,0,none⟩ k) G:=by
  refine⟨by unfold World.freeze;split <;> exact Nat.le_refl _,hbelow,λ_=>Nat.le_refl _,λx off ho=>?_,λ_ gi h=>⟨gi,h,gi.le_refl⟩⟩;by_cases hx:x=g
  ·subst hx;simp[World.cell?,hgf,hg]
  ·exact zfl (dj x hx)
 refine⟨he,h.len,?_,h.dist,by rw[aF];exact h.fresh,by rw[aF];exact h.lt,by rw[aF];exact h.base⟩;intro id' ab gi h1 h2;by_cases ar:id'=id
 ·subst ar;rw[hμ]at h2;cases h2;rw[hH]at h1;cases h1;exact⟨g,cap,cur,fr,rfl,rfl,rfl,hgf,fe,fm,bL,dz,ec⟩
 ·refine (h.ok id' ab gi h1 h2).keep he (λx hx=>⟨dj x ?_,rfl⟩);intro dy;subst dy;exact ar (h.dist id' id gi _ x h2 hμ hx rfl)
theorem HRel.dead (h:HRel B w G H) {id e s n:Nat} (hH:H[id]?=some (.perm e s n)):HRel B w G (H.set id .dead):=by
 refine⟨by simp[h.len],?_,h.dist,h.fresh,h.lt,h.base⟩;intro i ab gi h1 h2;by_cases hi:i=id
 ·subst hi;rw[List.getElem?_set_self (List.getElem?_eq_some_iff.1 hH).1]at h1;cases h1;have aA:=h.ok i _ _ hH h2;cases gi with
  | blk b=>exact aA.elim
  | gap=>exact aA.elim
  | own v s' n'=>
   obtain⟨rfl,rfl,⟨xs,hl,⟨rfl,_⟩ | ⟨g,cap,cur,rfl,k1,k2,k3,k4,k5,k6⟩⟩,hL⟩:=aA
   ·intro b hb;cases hb
   ·intro b hb;simp[Value.ownBlock]at hb;subst hb;exact⟨cur,e,_,k2,by rw[hL g rfl,k5];exact Nat.mul_le_mul_right _ k3⟩
 ·rw[List.getElem?_set_ne (λh=>hi h.symm)]at h1;exact h.ok i ab gi h1 h2
theorem HRel.other (h:HRel B w G H) (o:Obj):Ext B w G (w.alloc o) G∧HRel B (w.alloc o) G H:=by have he:=Ext.alloc h o G.L (λ_ _=>rfl) [];simp only[List.append_nil]at he;refine⟨he,h.keep he rfl (λid gi b h1 h2=>⟨zcK (h.lt id gi b h1 h2),rfl⟩) (λb hb=>?_)⟩;rw[zca]at hb;exact h.fresh b (by omega)
end Go.Abs
namespace Go.Abs
open Go Go.RowKit Go.Sort
variable {P:Program} {B:Nat} {w:World} {G:Gh} {H:zaa}
end Go.Abs
namespace Go.Abs
open Go Go.RowKit
variable {P:Program} {B:Nat} {w:World} {G:Gh} {H:zaa}
theorem HRel.newVec (h:HRel B w G H) (e size:Nat):Ext B w G w ⟨G.L,G.μ++[.own (.slice none 0 0) size 0]⟩∧HRel B w ⟨G.L,G.μ++[.own (.slice none 0 0) size 0]⟩ (H++[.vec e size 0 []]):=by
 obtain⟨hE,hH⟩:=h.newOwn e size;refine⟨hE,by simpa using hH.len,λid ab gi h1 h2=>?_,hH.dist,hH.fresh,hH.lt,hH.base⟩;by_cases ap:id<H.length
 ·rw[List.getElem?_append_left ap]at h1;exact hH.ok id ab gi (by rw[List.getElem?_append_left ap];exact h1) h2
 ·have aZ:=(List.getElem?_eq_some_iff.1 h2).1;simp[h.len]at aZ;obtain rfl:id=H.length:=by omega
  simp at h1;have h2:(G.μ++[GI.own (.slice none 0 0) size 0])[H.length]?=some gi:=h2;rw[←h.len]at h2;simp at h2;subst h1 h2;exact⟨rfl,rfl,⟨[],World.ownsRow_nil w B e size,trivial⟩,λb hb=>by simp[Value.ownBlock]at hb⟩
theorem HRel.ovCell (h:HRel B w G H) {id j:Nat} {cs:List AV} (e size:Nat) (ar:H[id]?=some (.cells cs)) (hj:cs[j]?=some .snil) :
  ∃ G',Ext B w G w G'∧HRel B w G' (H.set id (.cells (cs.set j (.ov H.length 0)))++[.vec e size 0 []]):=by
 obtain⟨hE,aW⟩:=h.newVec e size;refine⟨_,hE,?_⟩;have ap:=(List.getElem?_eq_some_iff.1 ar).1;have:=aW.reCell (id:=id) (cs:=cs) (cs':=cs.set j (.ov H.length 0)) (by rw[List.getElem?_append_left ap];exact ar) (λvs jb=>by
  obtain⟨v,h1,h2⟩:=All2.get jb hj;have h2:v=.slice none 0 0:=h2;subst h2;have aX:vs=vs.set j (.slice none 0 0):=by
   apply List.ext_getElem?;intro k;by_cases hk:k=j
   ·subst hk;rw[List.getElem?_set_self (List.getElem?_eq_some_iff.1 h1).1];exact h1
   ·rw[List.getElem?_set_ne (λh=>hk h.symm)]
  rw[aX];refine All2.set j jb ?_;refine⟨⟨none,0,rfl,λh=>absurd h (by omega),Nat.le_refl _⟩,.slice none 0 0,size,0,?_,Nat.le_refl _,λ_=>rfl⟩;rw[←h.len];simp)
 rwa [List.set_append_left _ _ ap]at this
theorem ACalls.ovC {f:FuncId} {args:List AV} {K:AV→zaa→Prop} {id j:Nat} {cs:List AV} (e size:Nat) (ar:H[id]?=some (.cells cs)) (hj:cs[j]?=some .snil)
  (h:ACalls P f args (H.set id (.cells (cs.set j (.ov H.length 0)))++[.vec e size 0 []]) K):ACalls P f args H K:=by
 intro B w G vs hH hv;obtain⟨G',hE,aW⟩:=hH.ovCell e size ar hj;refine (h B w G' vs aW (hv.mono λ_ _=>hE.trel)).mono λe' w' hp=>?_;obtain⟨v,r,H',G'',h1,h2,h3⟩:=hp;exact⟨v,r,H',G'',h1,hE.trans h2,h3⟩
end Go.Abs
namespace Go.Abs
open Go Go.RowKit
variable {P:Program} {B:Nat} {w:World} {G:Gh} {H:zaa}
theorem zHu (h:HRel B w G H) (e size:Nat):TRel w ⟨G.L,G.μ++[.own (.slice none 0 0) size 0]⟩ (.slice none 0 0) (.ov H.length 0):=by refine⟨⟨none,0,rfl,λh=>absurd h (by omega),Nat.le_refl _⟩,.slice none 0 0,size,0,?_,Nat.le_refl _,λ_=>rfl⟩;rw[←h.len];simp
theorem ALoop.vec {c:Code} {Q:AExit→List AV→zaa→Prop} {F:List AV} (i e size:Nat) (hi:F[i]?=some .snil)
  (h:ALoop P c Q (F.set i (.ov H.length 0)) (H++[.vec e size 0 []])):ALoop P c Q F H:=by
 intro B w G a hH hF hd;obtain⟨hE,aW⟩:=hH.newVec e size;have iJ:FRel w ⟨G.L,G.μ++[.own (.slice none 0 0) size 0]⟩ a.tmps (F.set i (.ov H.length 0)):=by
  unfold FRel;obtain⟨v,h1,h2⟩:=All2.get hF hi;have h2:v=.slice none 0 0:=h2;subst h2;have aX:a.tmps.toList=a.tmps.toList.set i (.slice none 0 0):=by
   apply List.ext_getElem?;intro k;by_cases hk:k=i
   ·subst hk;rw[List.getElem?_set_self (List.getElem?_eq_some_iff.1 h1).1];exact h1
   ·rw[List.getElem?_set_ne (λh=>hk h.symm)]
  rw[aX];exact All2.set i (hF.ext hE) (zHu hH e size)
 refine wp_mono (h B w _ a aW iJ hd) λe a' w' hp=>?_;obtain⟨F'',H'',G'',e'',rfl,k1,k2,k3,k4,k5⟩:=hp;exact⟨F'',H'',G'',e'',rfl,hE.trans k1,k2,k3,k4,k5⟩
theorem zrH {vs:List Value}:∀ {cs cs':List AV},All2 WkA cs cs'→∀ {vs:List Value},All2 (ARel w G) vs cs→All2 (ARel w G) vs cs'
 | [],[],_,_,hv=>hv
 | x::cs,x'::cs',hw,[],hv=>hv.elim
 | x::cs,x'::cs',hw,v::vs,hv=>⟨hw.1.arel hv.1,zrH (vs:=[]) hw.2 hv.2⟩
 | [],_::_,hw,_,_=>hw.elim
 | _::_,[],hw,_,_=>hw.elim
theorem ALoop.reCell {c:Code} {Q:AExit→List AV→zaa→Prop} {F:List AV} {id:Nat} {cs:List AV} (cs':List AV) (ar:H[id]?=some (.cells cs)) (hw:All2 WkA cs cs') (h:ALoop P c Q F (H.set id (.cells cs'))):ALoop P c Q F H:=by intro B w G a hH hF hd;exact h B w G a (hH.reCell ar λvs hv=>zrH (vs:=[]) hw hv) hF hd
theorem HRel.frzV (h:HRel B w G H) {id e size n:Nat} {cs:List AV} (hH:H[id]?=some (.vec e size n cs)) {es:List (List AV)} (hp:plain cs=some es.flatten) (aq:es.length=n) (aF:∀ c∈es,c.length=size) :
  ∃ G',Ext B w G w G'∧HRel B w G' (H.set id .dead)∧∀ v,ARel w G v (.ov id n)→DRel w G'.L v (.sl es .none):=by
 have ap:id<G.μ.length:=by rw[h.len];exact (List.getElem?_eq_some_iff.1 hH).1
 obtain⟨gi,db⟩:∃ gi,G.μ[id]?=some gi:=⟨_,List.getElem?_eq_getElem ap⟩;have aA:=h.ok id _ _ hH db;cases gi with
 | gap=>exact aA.elim
 | blk b=>exact aA.elim
 | own v0 s0 n0=>
  obtain⟨rfl,rfl,⟨xs,au,aR⟩,eQ⟩:=aA;have ce:=au;obtain⟨hl,bl⟩:=ce;rcases bl with ⟨h1,h2⟩ | ⟨g,cap,cur,h1,hB,hw,aL,bF,fU,bm⟩
  ·subst h1;refine⟨G,Ext.refl _ _ _,⟨by simp[h.len],?_,h.dist,h.fresh,h.lt,h.base⟩,?_⟩
   ·intro id' ab gi k1 k2;by_cases ar:id'=id
    ·subst ar;rw[List.getElem?_set_self (List.getElem?_eq_some_iff.1 hH).1]at k1;cases k1;rw[db]at k2;cases k2;exact λb hb=>by simp[Value.ownBlock]at hb
    ·rw[List.getElem?_set_ne (λh=>ar h.symm)]at k1;exact h.ok id' ab gi k1 k2
   ·intro v hv;obtain⟨⟨a,cap0,rfl,_⟩,v',s',n',hμ,_,heq⟩:=hv;have ba:es=[]:=List.eq_nil_of_length_eq_zero (by omega);subst ba;subst aq;exact .slE _ _
  ·subst h1;have fm:G.L g=0:=eQ g rfl;have he:Ext B w G w ⟨λx=>if x=g then cur.size else G.L x,G.μ⟩:=
    ⟨Nat.le_refl _,Below.refl _ _,λx=>by by_cases hx:x=g <;> simp[hx,fm],λ_ _ _=>rfl,λ_ gi h=>⟨gi,h,gi.le_refl⟩⟩
   refine⟨_,he,⟨by simp[h.len],?_,h.dist,λx hx=>?_,h.lt,h.base⟩,?_⟩
   ·intro id' ab gi k1 k2;by_cases ar:id'=id
    ·subst ar;rw[List.getElem?_set_self (List.getElem?_eq_some_iff.1 hH).1]at k1;cases k1;have k2:G.μ[id']?=some gi:=k2;rw[db]at k2;cases k2;intro b hb;simp[Value.ownBlock]at hb;subst hb;exact⟨cur,e,_,hw,by simp⟩
    ·rw[List.getElem?_set_ne (λh=>ar h.symm)]at k1;refine (h.ok id' ab gi k1 k2).keep he (λx hx=>⟨rfl,?_⟩);have:¬ x=g:=λdy=>ar (h.dist id' id gi _ g k2 db (by rw[hx,dy]) rfl);simp[this]
   ·have:=h.lt id _ g db rfl;have h3:¬ x=g:=by omega
    simp[h3,h.fresh x hx]
   ·intro v hv;obtain⟨⟨a,cap0,rfl,_⟩,v',s',n',hμ,_,heq⟩:=hv;rw[db]at hμ;simp only[Option.some.injEq,GI.own.injEq]at hμ;obtain⟨rfl,rfl,rfl⟩:=hμ;have cK:=heq rfl;simp only[Value.slice.injEq,true_and]at cK;obtain⟨rfl,rfl⟩:=cK;subst aq;by_cases ba:es=[]
    ·subst ba;exact .slE _ _
    ·obtain⟨_,_,_,aH⟩:=zdy au;refine DRel.of_flat_at (zs:=xs) aF ba aL ?_ ((zdz aR hp).mono λ_ _=>he.drel) ?_
     ·simp only[if_true];rw[fU,Nat.zero_add];exact Nat.mul_le_mul_right _ aL
     ·intro j u hj;rw[Nat.zero_add,aH j (by rw[←hl];exact (List.getElem?_eq_some_iff.1 hj).1)];exact hj
theorem ACalls.frzV {f:FuncId} {x:AV} {K:Kt} (id e size n:Nat) (cs:List AV) (es:List (List AV)) (hH:H[id]?=some (.vec e size n cs)) (hp:plain cs=some es.flatten) (aq:es.length=n) (aF:∀ c∈es,c.length=size)
  (h:ACalls P f [.agg [x,.sl es .none]] (H.set id .dead) K):ACalls P f [.agg [x,.ov id n]] H K:=by
 intro B w G vs hR hv;obtain⟨G',hE,fz,hd⟩:=hR.frzV hH hp aq aF;refine (h B w G' vs fz ?_).mono λe w' ⟨v,r,H',G'',k1,k2,k3,k4,k5⟩=>⟨v,r,H',G'',k1,hE.trans k2,k3,k4,k5⟩;generalize vs.toList=l at *
 match l,hv with
 | [v],⟨⟨us,hu,h1⟩,_⟩=>
  refine⟨⟨us,hu,?_⟩,trivial⟩;generalize us.toList=m at *
  match m,h1 with
  | [a,b],⟨h2,h3,_⟩=>exact⟨hE.arel h2,hd b h3,trivial⟩
end Go.Abs
namespace Go.Proofs.YtdmamdnkcefmmaaGreatDoor
open Go Go.Abs
def zHU (r:List IT):List AV:=(IT.css r).flatten
def CellR (H:zaa) (lo id:Nat) (c:AV) (r:List IT):Prop:=
 (r=[]∧c=.sl [] .none)∨(r≠[]∧∃ b,c=.ov b r.length∧lo≤b∧b≠id∧H[b]?=some (.vec zbQ 2 r.length (zHU r)))
theorem CellR.keep {H H':zaa} {lo id lo' id':Nat} {c:AV} {r:List IT} (h:CellR H lo id c r) (dh:lo'≤lo) (ar:∀ b,lo≤b→b≠id→b<H.length→b≠id'∧H'[b]?=H[b]?):CellR H' lo' id' c r:=by
 rcases h with h | ⟨h0,b,rfl,h1,h2,h3⟩
 ·exact .inl h
 ·have:=ar b h1 h2 (List.getElem?_eq_some_iff.1 h3).1;exact .inr ⟨h0,b,rfl,by omega,this.1,by rw[this.2];exact h3⟩
theorem CellR.sc {H:zaa} {lo id:Nat} {c:AV} {r:List IT} (h:CellR H lo id c r):c.scA H.length=true∧c.known=true:=by
 rcases h with ⟨_,rfl⟩ | ⟨h0,b,rfl,h1,h2,h3⟩
 ·exact⟨rfl,rfl⟩
 ·have:=(List.getElem?_eq_some_iff.1 h3).1;exact⟨by simpa[AV.scA,AV.scB]using this,rfl⟩
theorem RowA.pre {H X:zaa} {a:AV} {n:Nat} {ds:List AV} (h:RowA H a n ds) (hp:H <+: X):RowA X a n ds:=by obtain⟨J,rfl⟩:=hp;exact h.app
theorem zz8 (aa:List Dat) (hk:zbb aa) (t:VT) (ht:t.nodes≤1000) (c:Int) (H:zaa) (K:Kt) (hK:K (zcx (za7 aa t c)) H) :
  ACalls tP zjg [.sl (aa.map Dat.cs) .none,.agg t.cs,.int .i64 c] H K:=by
 refine ACalls.out (zJ7 λhs=>?_);obtain⟨f1,f2,f3⟩:=zeS hk;obtain⟨k,n,ks⟩:=t;simp[zz7,VT.cs,Nat.add_assoc];refine zvx aa f1 f2 f3 (.mk k n ks) ht c _ _ ?_;cases hf:za6 aa (.mk k n ks) c with
 | none=>rw[zym hf]at hK;simp[zcx];refine⟨⟨rfl,rfl⟩,?_⟩;exact Out.tup (bs:=[.sl [] .none,.bool false]) hs hK ⟨zdS,zaU rfl rfl,trivial⟩
 | some l=>
  obtain⟨bs,bn,gM,bt,cg,k5,_,cw⟩:=zyn hk hf;rw[bt]at hK;simp[zcx];refine zA6 aa hk k n ks ht c hf bn gM cw _ _ ?_;simp[zeY];unfold zkU;refine ALoop.own 13 za1 3 rfl ?_;have dR:(H++[AB.cells [AV.int IntKind.i64 k,AV.int IntKind.i64 n,AV.sl (VT.css ks) Tok.none]]).length=H.length+1:=by simp
  rw[dR];have hpp:=ze1 bn (.mk 0 0 []) l.length (Nat.le_refl _);rw[List.take_length,bn,List.take_length]at hpp;rw[hpp]at hK;have hpt:∀ j∈pos false bs bs.length,j<l.length:=λj hj=>by have:=zkl hj;omega
  have hp8:=zkk false bs bs.length;generalize pos false bs bs.length=P at *;show zkU (.sl (VT.css l) .none) (.sl [] (.own (H.length+1))) (.sl (zbD P) .none) (.int .i64 P.length) (.int .i64 0) (H++[.cells [.int .i64 k,.int .i64 n,.sl (VT.css ks) .none]]++[.perm za1 3 0]) (Out H.length K);have aI:∀ m,HSc (H++[.cells [.int .i64 k,.int .i64 n,.sl (VT.css ks) .none],.perm za1 3 m]):=λm=>hs.append (by simp[AB.sc,AV.scA,AV.scB]);refine zJ5 (Inv:=λq t13 t35 H'=>∃ i:Nat,i≤P.length∧q=P.length-i∧t35=.int .i64 i∧t13=.sl (VT.css ((P.take i).map λj=>l.getD j (.mk 0 0 []))) (.own (H.length+1))∧H'=H++[.cells [.int .i64 k,.int .i64 n,.sl (VT.css ks) .none],.perm za1 3 i]) P.length ?_ ?_
  ·intro _;exact⟨0,by omega,by omega,rfl,by simp[VT.css],by simp⟩
  ·rintro q t13 t35 H' ⟨i,hi,rfl,rfl,rfl,rfl⟩ aM aq aO Kb aw;by_cases ap:i<P.length
   ·have hj:=hpt _ (List.getElem_mem ap);simp[zrM,zeY,zx0,ap,hj];rw[zei];simp[zax,zaN,zaK,Nat.min_eq_left hi];refine⟨⟨by omega,by omega⟩,?_⟩;rw[zat (by omega) (by omega)];have aT:VT.css (List.take i (List.map (λj=>l[j]?.getD (VT.mk 0 0 [])) P))++[(l[P[i]]'hj).cs]=VT.css ((P.take (i+1)).map λj=>l.getD j (.mk 0 0 [])):=by rw[List.take_succ_eq_append_getElem ap,VT.css_map,VT.css_map,List.map_append,List.map_append,List.map_take];simp[List.getD_eq_getElem?_getD,hj]
    rw[aT];refine aw _ _ ⟨P.length-(i+1),by omega,Back.at (J:=[]) (H2:=H++[.cells [.int .i64 k,.int .i64 n,.sl (VT.css ks) .none],.perm za1 3 (i+1)]) (by simp) (by simp) (aI _) ?_ ⟨_,_,rfl,i+1,by omega,rfl,by simp,rfl,rfl⟩⟩;simp[zkT,AV.sc,AV.scV,AV.scA,AV.scB]
   ·obtain rfl:i=P.length:=by omega
    rw[List.take_length]at *;simp[zrM,zeY];refine⟨⟨rfl,rfl⟩,?_⟩;exact Out.tup (bs:=[.sl (VT.css (P.map λj=>l.getD j (.mk 0 0 []))) .none,.bool true]) hs hK ⟨slV,zaU rfl rfl,trivial⟩
theorem it2 (v:IT):∃ a b,v.cs=[a,b]∧a.known=true∧b.known=true:=by obtain⟨n,ks⟩:=v;exact⟨_,_,rfl,rfl,rfl⟩
theorem zxC {aa:List Dat} (h8:∀ D∈aa,D.cons.length≤8) (v:IT) (t:VT) (h:(zcq aa v t).2=true):0≤(zcq aa v t).1∧(zcq aa v t).1≤6:=by obtain⟨e1,e2,e3⟩:=(zg4 h8 v t).1 h;omega
theorem zxB {aa:List Dat} (h8:∀ D∈aa,D.cons.length≤8):∀ (vs:List IT) (ts:List VT) (a:Int),0≤a→0≤(zb0 aa vs ts a).1∧(zb0 aa vs ts a).1≤a+6*vs.length
 | [],ts,a,h=>by simp[zb0];omega
 | v::vs,[],a,h=>by simp[zb0];omega
 | v::vs,t::ts,a,h=>by
  simp only[zb0];split
  ·rename_i hb;have:=zxC h8 v t hb;have:=zxB h8 vs ts (a+(zcq aa v t).1) (by omega);simp only[List.length_cons];omega
  ·simp;omega
theorem ze0 {x:VT}:∀ {l:List VT} {bs:List Bool},x∈pick l bs→x∈l
 | [],_,h=>by simp[pick]at h
 | _::_,[],h=>by simp[pick]at h
 | c::l,b::bs,h=>by
  cases b with
  | true=>simp[pick]at h;exact List.mem_cons_of_mem _ (ze0 h)
  | false=>
   simp[pick]at h;rcases h with rfl | h
   ·exact List.mem_cons_self
   ·exact List.mem_cons_of_mem _ (ze0 h)
theorem zyl {aa:List Dat} {t:VT} {c:Int} {ps:List VT} (h:za7 aa t c=some ps):∀ x∈ps,x.nodes≤1000:=by
 unfold za7 at h;obtain⟨k,n,ks⟩:=t;cases hf:za6 aa (.mk k n ks) c with
 | none=>rw[hf]at h;cases h
 | some l=>rw[hf]at h;obtain⟨_,_,_,_,_,_,_,h2⟩:=zgf hf;simp at h;subst h;exact λx hx=>by have:=h2 x (ze0 hx);omega
theorem zGT (aa:List Dat) (n:Int) (ks:List IT) (tk tn:Int) (tks:List VT):zcq aa (.mk n ks) (.mk tk tn tks) =
  if tk=6 then (if n=0 then (if tks.length=ks.length then zb0 aa ks tks 0 else (0,false)) else (0,false))
  else if tk=7 then (n,decide (0≤n) && decide (n≤6) && decide (ks.length=0))
  else if tk=5 then (if n=0 then zcP aa ks (.mk tk tn tks) 0 else (0,false))
  else (0,decide (n=0) && decide (ks.length=0)):=by
 rw[zcq];rfl
def zcT (aa:List Dat) (vs:List IT) (ts:List VT):Int × Bool:=if ts.length=vs.length then zb0 aa vs ts 0 else (0,false)
def ziS (aa:List Dat) (v:IT):Prop:=∀ t:VT,t.nodes≤1000→∀ (H:zaa) (K:Kt),K (.tup [.int .i64 (zcq aa v t).1,.bool (zcq aa v t).2]) H→ACalls tP zjY [.sl (aa.map Dat.cs) .none,.agg t.cs,.agg v.cs] H K
theorem zc5 {H:zaa} {K:Kt} {a:Int} {b:Bool} (hs:HSc H) (h:K (.tup [.int .i64 a,.bool b]) H) (J:zaa):Out H.length K (.tup [.int .i64 a,.bool b]) (H++J):=Out.tup hs h ⟨zaU rfl rfl,zaU rfl rfl,trivial⟩
theorem zAB {aa:List Dat} (h8:∀ D∈aa,D.cons.length≤8) (vs:List IT) (hv:vs.length≤1000) (cF:∀ v∈vs,ziS aa v) (ts:List VT) (ht:∀ t∈ts,t.nodes≤1000) (H:zaa) (K:Kt)
  (hK:K (.tup [.int .i64 (zcT aa vs ts).1,.bool (zcT aa vs ts).2]) H):ACalls tP zjk [.sl (aa.map Dat.cs) .none,.sl (VT.css ts) .none,.sl (IT.css vs) .none] H K:=by
 refine ACalls.out (zLu λhs=>?_);have h0:∀ b J,zcT aa vs ts=(0,b)→Out H.length K (.tup [.int .i64 0,.bool b]) (H++J):=λb J h=>by rw[h]at hK;exact zc5 hs hK J
 by_cases hl:ts.length=vs.length;case neg=>
  have:((ts.length:Int) != (vs.length:Int))=true:=by simp[bne];omega
  simp[zr8,this];refine⟨⟨rfl,rfl⟩,?_⟩;simpa using h0 false [] (by simp[zcT,hl])
 have gh:zcT aa vs ts=zb0 aa vs ts 0:=by simp[zcT,hl]
 rw[gh]at hK h0;simp[zr8,hl];refine zLs (Inv:=λq t8 t20 H'=>∃ (i:Nat) (a:Int),i≤vs.length∧q=vs.length-i∧t20=.int .i64 i∧t8=.int .i64 a∧0≤a∧a≤6*i∧zb0 aa (vs.drop i) (ts.drop i) a=zb0 aa vs ts 0∧H'=H) vs.length ?_ ?_
 ·intro _;exact⟨0,0,by omega,by omega,rfl,rfl,by omega,by omega,by simp,rfl⟩
 ·rintro q t8 t20 H' ⟨i,a,hi,rfl,rfl,rfl,iq,kC,ho,rfl⟩ aM aq aO Kb aw;by_cases ap:i<vs.length
  ·have aS:i<ts.length:=by omega
   rw[List.drop_eq_getElem_cons ap,List.drop_eq_getElem_cons aS]at ho;simp only[zb0]at ho;obtain⟨x,y,z,aB,hx,hy,hz⟩:=za2 ts[i];obtain⟨x2,y2,aJ,bh,fa⟩:=it2 vs[i];have mw:=ht _ (List.getElem_mem aS);have my:=cF _ (List.getElem_mem ap);simp[zr9,hl,ap,aS,aB,aJ,Nat.add_assoc];refine⟨⟨hx,hy,hz⟩,?_⟩;rw[←aB,←aJ];refine zaB (.tup [.int .i64 (zcq aa vs[i] ts[i]).1,.bool (zcq aa vs[i] ts[i]).2]) (λJ=>my _ mw _ _ ⟨rfl,rfl⟩) ?_;cases hb:(zcq aa vs[i] ts[i]).2 with
   | false=>rw[hb]at ho;simp at ho;simp;exact⟨⟨rfl,rfl⟩,h0 _ _ ho.symm⟩
   | true=>rw[hb]at ho;simp at ho;have kD:=zxC h8 _ _ hb;simp;rw[zat (by omega) (by omega),zat (by omega) (by omega)];refine aw _ _ ⟨vs.length-(i+1),by omega,Back.at (J:=[_]) rfl (Nat.le_refl _) hs ?_ ⟨_,_,rfl,i+1,_,by omega,rfl,by simp,rfl,by omega,by simp;omega,ho,rfl⟩⟩;simp[zlk,AV.sc,AV.scV,AV.scA,AV.scB]
  ·obtain rfl:i=vs.length:=by omega
   rw[List.drop_length]at ho;simp only[zb0]at ho;rw[←ho]at hK;simp[zr9,hl];refine⟨⟨rfl,rfl⟩,?_⟩;have:=zc5 hs hK [];simpa using this
theorem zVP {aa:List Dat} (hk:zbb aa) (h8:∀ D∈aa,D.cons.length≤8):∀ (m:Nat) (v:IT),v.nodes≤m→v.nodes≤900→ziS aa v:=by
 intro m;induction m with
 | zero=>intro v h;have:=v.nodes_pos;omega
 | succ m ih=>
  intro v hv hb t ht H K hK;obtain⟨n,ks⟩:=v;obtain⟨tk,tn,tks⟩:=t;have bS:IT.nodesL ks+1≤900:=by simpa[IT.nodes]using hb
  have bq:=IT.len_le ks;have cZ:∀ v∈ks,ziS aa v:=λv ju=>by obtain⟨i,hi,rfl⟩:=List.getElem_of_mem ju;have:=IT.kid_lt (n:=n) hi;exact ih _ (by omega) (by omega)
  refine ACalls.out (zVN λhs=>?_);rw[zGT]at hK;by_cases h6:tk=6
  ·subst h6;by_cases hn:n=0
   ·subst hn;simp[zdI,VT.cs,IT.cs,Nat.add_assoc];have bm:∀ t∈tks,t.nodes≤1000:=λt mz=>by obtain⟨i,hi,rfl⟩:=List.getElem_of_mem mz;have:=VT.kid_lt (k:=6) (n:=tn) hi;omega
    refine zAB h8 ks (by omega) cZ tks bm _ _ ?_;simp;refine⟨⟨rfl,rfl⟩,?_⟩;exact zc5 hs (by simpa[zcT]using hK) _
   ·have:(n != 0)=true:=by simp[bne,hn]
    simp[zdI,VT.cs,IT.cs,Nat.add_assoc,this];simp[hn]at hK;exact⟨⟨rfl,rfl⟩,zc5 hs hK _⟩
  have eK:(tk == 6)=false:=by simp[h6]
  rw[if_neg h6]at hK;by_cases h7:tk=7
  ·subst h7;simp only[if_true]at hK;by_cases g1:0≤n
   ·by_cases g2:n≤6
    ·by_cases g3:ks.length=0
     ·simp[zdI,VT.cs,IT.cs,Nat.add_assoc,g1,g2,g3];simp[g1,g2,g3]at hK;exact⟨⟨rfl,rfl⟩,zc5 hs hK _⟩
     ·have g3':((ks.length:Int) == 0)=false:=by simp;exact λh=>g3 (by simp[h])
      simp[zdI,VT.cs,IT.cs,Nat.add_assoc,g1,g2,g3,g3'];simp[g1,g2,g3]at hK;exact⟨⟨rfl,rfl⟩,zc5 hs hK _⟩
    ·simp[zdI,VT.cs,IT.cs,Nat.add_assoc,g1,g2];simp[g1,g2]at hK;exact⟨⟨rfl,rfl⟩,zc5 hs hK _⟩
   ·simp[zdI,VT.cs,IT.cs,Nat.add_assoc,g1];simp[g1]at hK;exact⟨⟨rfl,rfl⟩,zc5 hs hK _⟩
  have jv:(tk == 7)=false:=by simp[h7]
  rw[if_neg h7]at hK;by_cases h5:tk=5;case neg=>
   have f9:(tk == 5)=false:=by simp[h5]
   rw[if_neg h5]at hK;by_cases g1:n=0
   ·by_cases g2:ks.length=0
    ·simp[zdI,VT.cs,IT.cs,Nat.add_assoc,eK,jv,f9,g1,g2,zab];simp[g1,g2]at hK;exact⟨⟨rfl,rfl⟩,zc5 hs hK _⟩
    ·have g2':((ks.length:Int) == 0)=false:=by simp;exact λh=>g2 (by simp[h])
     simp[zdI,VT.cs,IT.cs,Nat.add_assoc,eK,jv,f9,g1,g2,g2',zab];simp[g1,g2]at hK;exact⟨⟨rfl,rfl⟩,zc5 hs hK _⟩
   ·have g1':(n == 0)=false:=by simp[g1]
    simp[zdI,VT.cs,IT.cs,Nat.add_assoc,eK,jv,f9,g1,g1',zab];simp[g1]at hK;exact⟨⟨rfl,rfl⟩,zc5 hs hK _⟩
  subst h5;simp only[if_true]at hK;by_cases hn:n=0;case neg=>
   have:(n != 0)=true:=by simp[bne,hn]
   simp[zdI,VT.cs,IT.cs,Nat.add_assoc,this];simp[hn]at hK;exact⟨⟨rfl,rfl⟩,zc5 hs hK _⟩
  subst hn;simp only[if_true]at hK;simp[zdI,VT.cs,IT.cs,Nat.add_assoc];have hT:(VT.mk 5 tn tks).nodes≤1000:=ht;have kE:(VT.mk 5 tn tks).cs=[.int .i64 5,.int .i64 tn,.sl (VT.css tks) .none]:=rfl;generalize hTg:VT.mk 5 tn tks=T at *;have cv:HSc (H++[.cells [.int .i64 5,.int .i64 tn,.sl (VT.css tks) .none],.cells [.int .i64 0,.sl (IT.css ks) .none]]):=hs.append (by simp[AB.sc,AV.scA,AV.scB]);have hF:zcP aa ks T 0=(0,false)→∀ J,Out H.length K (.tup [.int .i64 0,.bool false]) (H++J):=λh J=>zc5 hs (by rw[h]at hK;exact hK) J;refine zVL (Inv:=λq t8 t55 H'=>∃ (i:Nat) (a:Int),i≤ks.length∧q=ks.length-i∧t55=.int .i64 i∧t8=.int .i64 a∧0≤a∧a≤6∧zcP aa (ks.drop i) T a=zcP aa ks T 0 ∧
   H'=H++[.cells [.int .i64 5,.int .i64 tn,.sl (VT.css tks) .none],.cells [.int .i64 0,.sl (IT.css ks) .none]]) ks.length ?_ ?_
  ·intro _;exact⟨0,0,by omega,by omega,rfl,rfl,by omega,by omega,by simp,rfl⟩
  ·rintro q t8 t55 H' ⟨i,a,hi,rfl,rfl,rfl,iq,kC,ho,rfl⟩ aM aq aO Kb aw;by_cases ap:i<ks.length
   ·rw[List.drop_eq_getElem_cons ap]at ho;have dm:=IT.kid_lt (n:=0) ap;obtain⟨c,es,hx⟩:∃ c es,ks[i]=IT.mk c es:=by cases h:ks[i] with | mk a b=>exact⟨a,b,rfl⟩
    rw[hx]at ho dm;have hesl:=IT.len_le es;have hen:IT.nodesL es+1≤900:=by
     have:(IT.mk c es).nodes=IT.nodesL es+1:=by simp[IT.nodes]
     have:(IT.mk 0 ks).nodes=IT.nodesL ks+1:=by simp[IT.nodes]
     omega
    have ba:∀ v∈es,ziS aa v:=λv ju=>by obtain⟨j,hj,rfl⟩:=List.getElem_of_mem ju;have:=IT.kid_lt (n:=c) hj;exact ih _ (by omega) (by omega)
    simp only[zcP]at ho;simp[zu2,ap,hx,IT.cs,Nat.add_assoc];rw[←kE];refine zLC aa hk T hT c _ _ ?_;cases hp:za7 aa T c with
    | none=>rw[hp]at ho;simp only at ho;simp[zcx];exact⟨⟨rfl,rfl⟩,hF ho.symm _⟩
    | some ps=>
     rw[hp]at ho;simp only at ho;simp[zcx];have jw:∀ t∈ps,t.nodes≤1000:=zyl hp;refine zAB h8 es (by omega) ba ps jw _ _ ?_;have htb:0≤(zcT aa es ps).1∧(zcT aa es ps).1≤6*es.length:=by
      unfold zcT;split
      ·have:=zxB h8 es ps 0 (by omega);omega
      ·simp;omega
     have cz:(if (zcT aa es ps).2 && decide (a+(1+(zcT aa es ps).1)≤6) then zcP aa (ks.drop (i+1)) T (a+(1+(zcT aa es ps).1)) else (0,false))=zcP aa ks T 0:=by
      rw[←ho];unfold zcT;by_cases hl:ps.length=es.length
      ·simp only[hl,if_true]
      ·simp only[hl,if_false];rfl
     generalize zcT aa es ps=w at *;obtain⟨w1,w2⟩:=w;simp only at htb cz;simp;have q1:IntKind.i64.wrap (1+w1)=1+w1:=zat (by omega) (by omega);have q2:IntKind.i64.wrap (a+(1+w1))=a+(1+w1):=zat (by omega) (by omega);rw[q1,q2];cases w2 with
     | false=>simp at cz ⊢;exact⟨⟨rfl,rfl⟩,hF cz.symm _⟩
     | true=>
      by_cases hh:a+(1+w1)≤6
      ·have mA:¬ (6:Int)<a+(1+w1):=by omega
       simp[hh]at cz;simp[mA];rw[zat (by omega) (by omega)];refine aw _ _ ⟨ks.length-(i+1),by omega,Back.at (J:=[.cells [.int .i64 c,.sl (IT.css es) .none]]) (H2:=H++[.cells [.int .i64 5,.int .i64 tn,.sl (VT.css tks) .none],.cells [.int .i64 0,.sl (IT.css ks) .none]]) (by simp[kE]) (by simp) cv ?_ ⟨_,_,rfl,i+1,_,by omega,rfl,by simp,rfl,by omega,by omega,cz,rfl⟩⟩;simp[zn4,AV.sc,AV.scV,AV.scA,AV.scB]
      ·have mA:(6:Int)<a+(1+w1):=by omega
       simp[hh]at cz;simp[mA];exact⟨⟨rfl,rfl⟩,hF cz.symm _⟩
   ·obtain rfl:i=ks.length:=by omega
    rw[List.drop_length]at ho;simp only[zcP]at ho;rw[←ho]at hK;simp[zu2];exact⟨⟨rfl,rfl⟩,zc5 hs hK _⟩
theorem zyz (aa:List Dat) (n:Int) (ks:List IT) (tk tn:Int) (tks:List VT):rdV aa (.mk n ks) (.mk tk tn tks) =
  if tk=6 then (if n=0 then (if tks.length=ks.length then rdA aa ks tks 0 else -1) else -1)
  else if tk=7 then (if 0≤n∧n≤6∧ks.length=0 then n else -1)
  else if tk=5 then (if n=0∧ks.length≤6 then rdE aa ks (.mk tk tn tks) 0 else -1)
  else (if n=0∧ks.length=0 then 0 else -1):=by
 rw[rdV];rfl
theorem zv8 {m:Int × Bool} {r:Int} (h:agr m r):-1≤r∧r≤6:=by
 obtain⟨h1,h2⟩:=h;cases hb:m.2 with
 | true=>have:=h1 hb;omega
 | false=>have:=h2 hb;omega
def zcS (aa:List Dat) (vs:List IT) (ts:List VT):Int:=if ts.length=vs.length then rdA aa vs ts 0 else -1
theorem zJx {aa:List Dat} (h8:∀ D∈aa,D.cons.length≤8) (vs:List IT) (ts:List VT):-1≤zcS aa vs ts∧zcS aa vs ts≤6:=by
 unfold zcS;split
 ·exact zv8 ((zi0 h8 vs ts 0 (by omega)).1 (by omega))
 ·omega
def ziO (aa:List Dat) (v:IT):Prop:=∀ t:VT,t.nodes≤1000→∀ (H:zaa) (K:Kt),K (.int .i64 (rdV aa v t)) H→ACalls tP zjX [.sl (aa.map Dat.cs) .none,.agg t.cs,.agg v.cs] H K
theorem zAo {aa:List Dat} (h8:∀ D∈aa,D.cons.length≤8) (vs:List IT) (hv:vs.length≤1000) (cF:∀ v∈vs,ziO aa v) (ts:List VT) (ht:∀ t∈ts,t.nodes≤1000) (H:zaa) (K:Kt)
  (hK:K (.int .i64 (zcS aa vs ts)) H):ACalls tP zjj [.sl (aa.map Dat.cs) .none,.sl (VT.css ts) .none,.sl (IT.css vs) .none] H K:=by
 refine ACalls.out (zK0 λhs=>?_);have hO:∀ r J,zcS aa vs ts=r→Out H.length K (.int .i64 r) (H++J):=λr J h=>by subst h;exact Out.int rfl (Nat.le_refl _) hs hK
 have iR:∀ r,zcS aa vs ts=r→Out H.length K (.int .i64 r) H:=λr h=>by simpa using hO r [] h
 by_cases hl:ts.length=vs.length;case neg=>
  have:((ts.length:Int) != (vs.length:Int))=true:=by simp[bne];omega
  simp[zrZ,this];exact iR _ (by simp[zcS,hl])
 have gh:zcS aa vs ts=rdA aa vs ts 0:=by simp[zcS,hl]
 simp[zrZ,hl];refine zKY (Inv:=λq t7 t17 H'=>∃ (i:Nat) (a:Int),i≤vs.length∧q=vs.length-i∧t17=.int .i64 i∧t7=.int .i64 a∧0≤a∧a≤6∧rdA aa (vs.drop i) (ts.drop i) a=zcS aa vs ts∧H'=H) vs.length ?_ ?_
 ·intro _;exact⟨0,0,by omega,by omega,rfl,rfl,by omega,by omega,by simp[gh],rfl⟩
 ·rintro q t7 t17 H' ⟨i,a,hi,rfl,rfl,rfl,iq,kC,ho,rfl⟩ aM aq aO Kb aw;by_cases ap:i<vs.length
  ·have aS:i<ts.length:=by omega
   rw[List.drop_eq_getElem_cons ap,List.drop_eq_getElem_cons aS]at ho;simp only[rdA]at ho;have mw:=ht _ (List.getElem_mem aS);have my:=cF _ (List.getElem_mem ap);have kD:=zv8 (zg4 h8 vs[i] ts[i]);simp[zr0,hl,ap,aS,Nat.add_assoc];refine zaB (.int .i64 (rdV aa vs[i] ts[i])) (λJ=>my _ mw _ _ ⟨rfl,rfl⟩) ?_;generalize rdV aa vs[i] ts[i]=r at *;by_cases hr:r<0
   ·rw[if_pos (.inl hr)]at ho;simp[hr];exact iR _ ho.symm
   ·have q1:IntKind.i64.wrap (a+r)=a+r:=zat (by omega) (by omega);by_cases h6:a+r>6
    ·rw[if_pos (.inr h6)]at ho;simp[hr,q1,h6];exact iR _ ho.symm
    ·rw[if_neg (by omega)]at ho;simp[hr,q1,h6];rw[zat (by omega) (by omega)];refine aw _ _ ⟨vs.length-(i+1),by omega,Back.at (J:=[]) (by simp) (Nat.le_refl _) hs ?_ ⟨_,_,rfl,i+1,_,by omega,rfl,by simp,rfl,by omega,by omega,ho,rfl⟩⟩;simp[zlg,AV.sc,AV.scV,AV.scA,AV.scB]
  ·obtain rfl:i=vs.length:=by omega
   rw[List.drop_length]at ho;simp only[rdA]at ho;simp[zr0,hl];exact iR _ ho.symm
theorem zTA:∀ (m:Nat) (v:IT),v.nodes≤m→∀ (left:Int),left≤1000000→-1≤left→∀ (H:zaa) (id:Nat),H[id]?=some (.cells [.int .i64 left])→∀ (K:AV→zaa→Prop),
  ((v.nodes:Int)≤left→K (.bool true) (H.set id (.cells [.int .i64 (left-v.nodes)])))→(¬ (v.nodes:Int)≤left→∀ l',K (.bool false) (H.set id (.cells [.int .i64 l']))) →
  ACalls tP zjQ [.agg v.cs,.ptr id 0] H K:=by
 intro m;induction m with
 | zero=>intro v h;have:=v.nodes_pos;omega
 | succ m ih=>
  intro v hv left dR cM H id ar K hK hF;obtain⟨n,ks⟩:=v;have ap:=zbi ar;have cy:(IT.mk n ks).nodes=IT.nodesL ks+1:=by simp[IT.nodes]
  refine ACalls.out (zTy λhs=>?_);have aC:(H++[AB.cells [.int .i64 n,.sl (IT.css ks) .none]])[id]?=some (.cells [.int .i64 left]):=zby ar;have bad:(¬ ((IT.mk n ks).nodes:Int)≤left)→∀ l' H',H'=H.set id (.cells [.int .i64 l'])++[.cells [.int .i64 n,.sl (IT.css ks) .none]]→Out H.length K (.bool false) H':=by intro h l' H' he;exact Out.bool he (by simp) (hs.set rfl) (hF h l')
  simp[zDl,IT.cs,aC,AV.known];rw[zat (by omega) (by omega),zcw _ ar,zby (zb8 _ ar)];by_cases h0:left-1<0
  ·simp[h0];exact bad (by omega) _ _ rfl
  ·simp[h0];refine zTw (Inv:=λq t5 H'=>∃ i:Nat,i≤ks.length∧q=ks.length-i∧t5=.int .i64 i∧((IT.nodesL (ks.take i):Int)+1≤left)∧H'=H.set id (.cells [.int .i64 (left-1-IT.nodesL (ks.take i))])++[.cells [.int .i64 n,.sl (IT.css ks) .none]]) ks.length ?_ ?_
   ·intro _;exact⟨0,by omega,by omega,rfl,by simp[IT.nodesL];omega,by simp[IT.nodesL]⟩
   ·rintro q t5 H' ⟨i,hi,rfl,rfl,hb,rfl⟩ hsc aq aO Kb aw;by_cases bj:i<ks.length
    ·have bk:=IT.kid_lt (n:=n) bj;have h1:=IT.nodesL_take bj;have h2:=IT.nodesL_take_le ks (i+1);have bq:=IT.len_le (ks.take i);simp only[List.length_take]at bq;have cG:(H.set id (.cells [.int .i64 (left-1-IT.nodesL (ks.take i))])++[AB.cells [.int .i64 n,.sl (IT.css ks) .none]])[id]?=some (.cells [.int .i64 (left-1-IT.nodesL (ks.take i))]):=zby (zb8 _ ar);simp[zuh,bj];refine ih ks[i] (by omega) (left-1-IT.nodesL (ks.take i)) (by omega) (by omega) _ id cG _ ?_ ?_
     ·intro aQ;rw[zcw _ (zb8 _ ar),List.set_set];simp;rw[zat (by omega) (by omega)];refine aw _ _ ⟨ks.length-(i+1),by omega,Back.here (by simp) ((hs.set rfl).snoc rfl) ?_ ⟨_,rfl,i+1,by omega,rfl,by simp,by omega,?_⟩⟩
      ·simp[znj,AV.sc,AV.scV,AV.scA,AV.scB];omega
      ·rw[h1];congr 5;omega
     ·intro aQ l';rw[zcw _ (zb8 _ ar),List.set_set];simp;exact bad (by omega) _ _ rfl
    ·obtain rfl:i=ks.length:=by omega
     rw[List.take_length]at hb ⊢;simp[zuh];refine Out.bool rfl (by simp) (hs.set rfl) ?_;have:=hK (by omega);rw[cy]at this;rw[show left-1-(IT.nodesL ks:Int)=left-((IT.nodesL ks+1:Nat):Int) by omega];exact this
theorem zEU (v:IT) (H:zaa) (K:Kt) (hK:∀ b,(b=true→v.nodes≤40)→K (.bool b) H):ACalls tP zj4 [.agg v.cs] H K:=by
 refine ACalls.out (zXM λhs=>?_);simp[zq9,AV.known];refine zTA _ v (Nat.le_refl _) 40 (by omega) (by omega) _ (H.length+1) (by simp) _ ?_ ?_
 ·intro h;exact Out.bool (J:=[_,_]) (by simp;exact⟨rfl,rfl⟩) (Nat.le_refl _) hs (hK true λ_=>by omega)
 ·intro h l';exact Out.bool (J:=[_,_]) (by simp;exact⟨rfl,rfl⟩) (Nat.le_refl _) hs (hK false λh=>by cases h)
theorem zVn {aa:List Dat} (hk:zbb aa) (h8:∀ D∈aa,D.cons.length≤8):∀ (m:Nat) (v:IT),v.nodes≤m→v.nodes≤900→ziO aa v:=by
 intro m;induction m with
 | zero=>intro v h;have:=v.nodes_pos;omega
 | succ m ih=>
  intro v hv hb t ht H K hK;obtain⟨n,ks⟩:=v;obtain⟨tk,tn,tks⟩:=t;have bS:IT.nodesL ks+1≤900:=by simpa[IT.nodes]using hb
  have bq:=IT.len_le ks;have cZ:∀ v∈ks,ziO aa v:=λv ju=>by obtain⟨i,hi,rfl⟩:=List.getElem_of_mem ju;have:=IT.kid_lt (n:=n) hi;exact ih _ (by omega) (by omega)
  refine ACalls.out (zVl λhs=>?_);rw[zyz]at hK;have hO:∀ r J,K (.int .i64 r) H→Out H.length K (.int .i64 r) (H++J):=λr J h=>Out.int rfl (Nat.le_refl _) hs h;by_cases h6:tk=6
  ·subst h6;rw[if_pos rfl]at hK;by_cases hn:n=0
   ·subst hn;rw[if_pos rfl]at hK;simp[zdl,VT.cs,IT.cs,Nat.add_assoc];have bm:∀ t∈tks,t.nodes≤1000:=λt mz=>by obtain⟨i,hi,rfl⟩:=List.getElem_of_mem mz;have:=VT.kid_lt (k:=6) (n:=tn) hi;omega
    refine zAo h8 ks (by omega) cZ tks bm _ _ ?_;exact hO _ _ hK
   ·have:(n != 0)=true:=by simp[bne,hn]
    rw[if_neg hn]at hK;simp[zdl,VT.cs,IT.cs,Nat.add_assoc,this];exact hO _ _ hK
  have eK:(tk == 6)=false:=by simp[h6]
  rw[if_neg h6]at hK;by_cases h7:tk=7
  ·subst h7;rw[if_pos rfl]at hK;by_cases g1:n<0
   ·rw[if_neg (by omega)]at hK;simp[zdl,VT.cs,IT.cs,Nat.add_assoc,g1];exact hO _ _ hK
   ·by_cases g2:n>6
    ·rw[if_neg (by omega)]at hK;simp[zdl,VT.cs,IT.cs,Nat.add_assoc,g1,g2];exact hO _ _ hK
    ·by_cases g3:0<ks.length
     ·rw[if_neg (by omega)]at hK;have g3':(0:Int)<ks.length:=by omega
      simp[zdl,VT.cs,IT.cs,Nat.add_assoc,g1,g2,g3,g3'];exact hO _ _ hK
     ·rw[if_pos (by omega)]at hK;have g3':¬ (0:Int)<ks.length:=by omega
      simp[zdl,VT.cs,IT.cs,Nat.add_assoc,g1,g2,g3,g3'];exact hO _ _ hK
  have jv:(tk == 7)=false:=by simp[h7]
  rw[if_neg h7]at hK;by_cases h5:tk=5;case neg=>
   have f9:(tk == 5)=false:=by simp[h5]
   rw[if_neg h5]at hK;by_cases g1:n=0
   ·subst g1;by_cases g2:0<ks.length
    ·have g2':(0:Int)<ks.length:=by omega
     rw[if_neg (by omega)]at hK;simp[zdl,VT.cs,IT.cs,Nat.add_assoc,eK,jv,f9,g2,g2'];exact hO _ _ hK
    ·have g2':¬ (0:Int)<ks.length:=by omega
     rw[if_pos (by omega)]at hK;simp[zdl,VT.cs,IT.cs,Nat.add_assoc,eK,jv,f9,g2,g2'];exact hO _ _ hK
   ·have g1':(n != 0)=true:=by simp[bne,g1]
    rw[if_neg (by omega)]at hK;simp[zdl,VT.cs,IT.cs,Nat.add_assoc,eK,jv,f9,g1,g1'];exact hO _ _ hK
  subst h5;rw[if_pos rfl]at hK;by_cases hn:n=0;case neg=>
   have:(n != 0)=true:=by simp[bne,hn]
   rw[if_neg (by omega)]at hK;simp[zdl,VT.cs,IT.cs,Nat.add_assoc,this];exact hO _ _ hK
  subst hn;by_cases hl6:ks.length>6
  ·rw[if_neg (by omega)]at hK;have:(6:Int)<ks.length:=by omega
   simp[zdl,VT.cs,IT.cs,Nat.add_assoc,this];exact hO _ _ hK
  have hl6':¬ (6:Int)<ks.length:=by omega
  rw[if_pos (by omega)]at hK;simp[zdl,VT.cs,IT.cs,Nat.add_assoc,hl6'];have hT:(VT.mk 5 tn tks).nodes≤1000:=ht;have kE:(VT.mk 5 tn tks).cs=[.int .i64 5,.int .i64 tn,.sl (VT.css tks) .none]:=rfl;generalize hTg:VT.mk 5 tn tks=T at *;have cv:HSc (H++[.cells [.int .i64 5,.int .i64 tn,.sl (VT.css tks) .none],.cells [.int .i64 0,.sl (IT.css ks) .none]]):=hs.append (by simp[AB.sc,AV.scA,AV.scB]);have hF:∀ r,r=rdE aa ks T 0→∀ J,Out H.length K (.int .i64 r) (H++J):=λr h J=>hO _ _ (by rw[h];exact hK);refine zVj (Inv:=λq t7 t58 H'=>∃ (i:Nat) (a:Int),i≤ks.length∧q=ks.length-i∧t58=.int .i64 i∧t7=.int .i64 a∧0≤a∧a≤6∧rdE aa (ks.drop i) T a=rdE aa ks T 0 ∧
   H'=H++[.cells [.int .i64 5,.int .i64 tn,.sl (VT.css tks) .none],.cells [.int .i64 0,.sl (IT.css ks) .none]]) ks.length ?_ ?_
  ·intro _;exact⟨0,0,by omega,by omega,rfl,rfl,by omega,by omega,by simp,rfl⟩
  ·rintro q t7 t58 H' ⟨i,a,hi,rfl,rfl,rfl,iq,kC,ho,rfl⟩ aM aq aO Kb aw;by_cases ap:i<ks.length
   ·rw[List.drop_eq_getElem_cons ap]at ho;have dm:=IT.kid_lt (n:=0) ap;obtain⟨c,es,hx⟩:∃ c es,ks[i]=IT.mk c es:=by cases h:ks[i] with | mk a b=>exact⟨a,b,rfl⟩
    rw[hx]at ho dm;have hesl:=IT.len_le es;have hen:IT.nodesL es+1≤900:=by
     have:(IT.mk c es).nodes=IT.nodesL es+1:=by simp[IT.nodes]
     have:(IT.mk 0 ks).nodes=IT.nodesL ks+1:=by simp[IT.nodes]
     omega
    have ba:∀ v∈es,ziO aa v:=λv ju=>by obtain⟨j,hj,rfl⟩:=List.getElem_of_mem ju;have:=IT.kid_lt (n:=c) hj;exact ih _ (by omega) (by omega)
    simp only[rdE]at ho;by_cases c1:c<0
    ·rw[if_pos (.inl c1)]at ho;simp[ziJ,ap,hx,IT.cs,Nat.add_assoc,c1];exact hF _ ho _
    by_cases c2:8≤c
    ·rw[if_pos (.inr c2)]at ho;simp[ziJ,ap,hx,IT.cs,Nat.add_assoc,c1,c2];exact hF _ ho _
    rw[if_neg (by omega)]at ho;simp[ziJ,ap,hx,IT.cs,Nat.add_assoc,c1,c2];rw[←kE];refine zz8 aa hk T hT c _ _ ?_;cases hp:za7 aa T c with
    | none=>rw[hp]at ho;simp only at ho;simp[zcx];exact hF _ ho _
    | some ps=>
     rw[hp]at ho;simp only at ho;simp[zcx];have jw:∀ t∈ps,t.nodes≤1000:=zyl hp;refine zAo h8 es (by omega) ba ps jw _ _ ?_;have htb:=zJx h8 es ps;have cz:(if zcS aa es ps<0∨a+1+zcS aa es ps>6 then -1 else rdE aa (ks.drop (i+1)) T (a+(1+zcS aa es ps)))=rdE aa ks T 0:=by
      rw[←ho];unfold zcS;by_cases hl:ps.length=es.length
      ·simp only[hl,if_true]
      ·simp only[hl,if_false];rfl
     generalize zcS aa es ps=w at *;by_cases w0:w<0
     ·rw[if_pos (.inl w0)]at cz;simp[w0];exact hF _ cz _
     ·have q1:IntKind.i64.wrap (a+1)=a+1:=zat (by omega) (by omega);have q2:IntKind.i64.wrap (a+1+w)=a+1+w:=zat (by omega) (by omega);have q3:IntKind.i64.wrap (1+w)=1+w:=zat (by omega) (by omega);have q4:IntKind.i64.wrap (a+(1+w))=a+(1+w):=zat (by omega) (by omega);by_cases hh:a+1+w>6
      ·rw[if_pos (.inr hh)]at cz;simp[w0,q1,q2,hh];exact hF _ cz _
      ·rw[if_neg (by omega)]at cz;simp[w0,q1,q2,hh,q3,q4];rw[zat (by omega) (by omega)];refine aw _ _ ⟨ks.length-(i+1),by omega,Back.at (J:=[.cells [.int .i64 c,.sl (IT.css es) .none]]) (H2:=H++[.cells [.int .i64 5,.int .i64 tn,.sl (VT.css tks) .none],.cells [.int .i64 0,.sl (IT.css ks) .none]]) (by simp[kE]) (by simp) cv ?_ ⟨_,_,rfl,i+1,_,by omega,rfl,by simp,rfl,by omega,by omega,cz,rfl⟩⟩;simp[znW,AV.sc,AV.scV,AV.scA,AV.scB]
   ·obtain rfl:i=ks.length:=by omega
    rw[List.drop_length]at ho;simp only[rdE]at ho;simp[ziJ];exact hF _ ho _
section
variable {aa:List Dat} (hD:DOk aa)
def zoz (aa:List Dat) (v:VT):Prop:=∀ (t:VT),zaZ aa 0 t=true→∀ (H:zaa) (K:AV→zaa→Prop),K (.bool (zaI aa v t)) H→ACalls tP zhP [.sl (aa.map Dat.cs) .none,.agg v.cs,.agg t.cs] H K
theorem zGi {f:VT→VT→Bool} {x y:List VT} {i:Nat} (h:i<x.length) (h':i<y.length):zcN f (x.drop i) (y.drop i)=(f x[i] y[i] && zcN f (x.drop (i+1)) (y.drop (i+1))):=by rw[List.drop_eq_getElem_cons h,List.drop_eq_getElem_cons h',zcN]
theorem zEN (vs ts:List VT) (hl:vs.length≤1000000) (hv:∀ v∈vs,zoz aa v) (ht:∀ t∈ts,zaZ aa 0 t=true) (H:zaa) (K:AV→zaa→Prop) (hK:K (.bool (zbR aa vs ts)) H) :
  ACalls tP zj8 [.sl (aa.map Dat.cs) .none,.sl (VT.css vs) .none,.sl (VT.css ts) .none] H K:=by
 refine ACalls.out (zXo λhs=>?_);rw[zpl]at hK;have hO:∀ b,zcN (zaI aa) vs ts=b→Out H.length K (.bool b) H:=λb h=>by have:=Out.bool (J:=[]) rfl (Nat.le_refl _) hs (h ▸ hK);simpa using this
 by_cases aq:vs.length=ts.length;case neg=>
  have bZ:((vs.length:Int) != ts.length)=true:=by simp;omega
  simp[zvs,bZ];exact hO _ (zpe aq)
 simp[zvs,aq];refine zXm (Inv:=λq t H'=>∃ i:Nat,i≤vs.length∧q=vs.length-i∧t=.int .i64 i∧zcN (zaI aa) (vs.drop i) (ts.drop i)=zcN (zaI aa) vs ts∧H=H') vs.length ?_ ?_
 ·intro _;exact⟨0,by omega,by omega,rfl,by simp,rfl⟩
 rintro q t H' ⟨i,hi,rfl,rfl,ho,rfl⟩ hsc aQ aO Kb aw;by_cases ap:i<vs.length
 ·have aS:i<ts.length:=by omega
  have aZ:(i:Int)<ts.length:=by omega
  rw[zGi ap aS]at ho;obtain⟨x,y,z,aB,hx,hy,hz⟩:=za2 vs[i];obtain⟨x2,y2,z2,aJ,bh,fa,kF⟩:=za2 ts[i];simp[zvt,ap,aS,aZ,aB,aJ];rw[←aB,←aJ];refine zaB (.bool (zaI aa vs[i] ts[i])) (λJ=>hv _ (List.getElem_mem ap) _ (ht _ (List.getElem_mem aS)) _ _ ⟨rfl,rfl⟩) ?_;cases hb:zaI aa vs[i] ts[i] with
  | false=>rw[hb,Bool.false_and]at ho;simp;exact hO _ ho.symm
  | true=>rw[hb,Bool.true_and]at ho;simp;rw[zat (by omega) (by omega)];refine aw _ _ ⟨vs.length-(i+1),by omega,Back.here (Nat.le_refl _) hs ?_ ⟨_,rfl,i+1,by omega,rfl,by simp,ho,rfl⟩⟩;simp[zor,AV.sc,AV.scV,AV.scA,AV.scB]
 ·obtain rfl:i=vs.length:=by omega
  rw[List.drop_length,aq,List.drop_length,zcN]at ho;simp[zvt,aq];exact hO _ ho.symm
theorem zGw {aa:List Dat} {vks ks:List VT} (h1:vks.length=1) (h2:ks.length=1):zbR aa vks ks=zdL aa vks (ks[0]'(by omega)):=by
 match vks,ks,h1,h2 with
 | [v],[k],_,_=>simp[zbR,zdL]
include hD in
theorem zUF:∀ (m:Nat) (v:VT),v.nodes≤m→v.nodes≤1000000→zoz aa v:=by
 intro m;induction m with
 | zero=>intro v h;have:=v.nodes_pos;omega
 | succ m ih=>
  intro v hm hb t ht H K hK;obtain⟨vk,vn,vks⟩:=v;obtain⟨k,n,ks⟩:=t;refine ACalls.out (zUD λhs=>?_);have hO:∀ b J,zaI aa (.mk vk vn vks) (.mk k n ks)=b→Out H.length K (.bool b) (H++J):=λb J h=>Out.bool rfl (Nat.le_refl _) hs (h ▸ hK);have bq:=VT.len_le vks;have cy:(VT.mk vk vn vks).nodes=VT.nodesL vks+1:=by simp[VT.nodes]
  have cZ:∀ x∈vks,zoz aa x:=λx hx=>ih x (by have:=zgi (k:=vk) (n:=vn) x hx;omega) (by have:=zhr (k:=vk) (n:=vn) x hx;omega);have bm:=zry ht;have hto:za5 aa 0 (.mk k n ks)=true:=by rw[zaZ,Bool.and_eq_true]at ht;exact ht.2
  have gN:(VT.mk k n ks).nodes≤200:=by rw[zaZ,Bool.and_eq_true]at ht;exact of_decide_eq_true ht.1
  obtain⟨f1,f2,f3⟩:=zeS hD.k;have loop:∀ (hk:ks.length=1) ,zaI aa (.mk vk vn vks) (.mk k n ks)=zdL aa vks (ks[0]'(by omega)) →
    zuH (.sl (aa.map Dat.cs) .none) (.ptr H.length 0) (.ptr (H.length+1) 0) (.int .i64 vks.length) (.int .i64 0) (H++[.cells [.int .i64 vk,.int .i64 vn,.sl (VT.css vks) .none],.cells [.int .i64 k,.int .i64 n,.sl (VT.css ks) .none]]) (Out H.length K):=by
   intro hk e;have cH:0<ks.length:=by omega
   refine zUB (Inv:=λq t10 H'=>∃ i:Nat,i≤vks.length∧q=vks.length-i∧t10=.int .i64 i∧zdL aa (vks.drop i) ks[0]=zdL aa vks ks[0]∧H'=H++[.cells [.int .i64 vk,.int .i64 vn,.sl (VT.css vks) .none],.cells [.int .i64 k,.int .i64 n,.sl (VT.css ks) .none]]) vks.length ?_ ?_
   ·intro _;exact⟨0,by omega,by omega,rfl,by simp,rfl⟩
   rintro q t10 H' ⟨i,hi,rfl,rfl,ho,rfl⟩ hsc aQ aO Kb aw;by_cases ap:i<vks.length
   ·rw[zGv ap]at ho;obtain⟨x,y,z,aB,hx,hy,hz⟩:=za2 vks[i];obtain⟨x2,y2,z2,aJ,bh,fa,kF⟩:=za2 ks[0];simp[zuF,ap,aB,cH,aJ];rw[←aB,←aJ];refine zaB (.bool (zaI aa vks[i] ks[0])) (λJ=>cZ _ (List.getElem_mem ap) ks[0] (bm _ (List.getElem_mem cH)) _ _ ⟨rfl,rfl⟩) ?_;cases bz:zaI aa vks[i] ks[0] with
    | false=>rw[bz,Bool.false_and]at ho;simp;exact hO _ _ (e.trans ho.symm)
    | true=>rw[bz,Bool.true_and]at ho;simp;rw[zat (by omega) (by omega)];refine aw _ _ ⟨vks.length-(i+1),by omega,Back.here (by simp) hsc ?_ ⟨_,rfl,i+1,by omega,rfl,by simp,ho,rfl⟩⟩;simp[znH,AV.sc,AV.scV,AV.scA,AV.scB]
   ·obtain rfl:i=vks.length:=by omega
    rw[List.drop_length,zdL]at ho;simp[zuF];exact hO _ _ (e.trans ho.symm)
  rcases zJC hto with ⟨rfl,rfl⟩ | ⟨rfl,rfl⟩ | ⟨rfl,rfl⟩ | rfl | ⟨rfl,hk⟩ | ⟨rfl,hk⟩ | ⟨rfl,hk⟩ | ⟨rfl,hk⟩
  ·simp[zeE,VT.cs,Nat.add_assoc];cases h1:(vk == 3) <;> simp
   ·exact hO _ _ (by simp[zaI,h1])
   by_cases h2:-1099511627776≤vn <;> simp[h2]
   ·by_cases h3:vn≤1099511627776 <;> simp[h3]
    ·exact hO _ _ (by simp[zaI,h1,h2,h3,i0])
    ·exact hO _ _ (by simp[zaI,h1,h2,h3])
   ·exact hO _ _ (by simp[zaI,h1,h2])
  ·simp[zeE,VT.cs,Nat.add_assoc];cases h1:(vk == 2) <;> simp
   ·exact hO _ _ (by simp[zaI,h1])
   cases h2:(vn == 0) <;> simp
   ·cases h3:(vn == 1) <;> simp
    ·exact hO _ _ (by simp[zaI,h1,h2,h3])
    ·exact hO _ _ (by simp[zaI,h1,h2,h3,i0])
   ·exact hO _ _ (by simp[zaI,h1,h2,i0])
  ·simp[zeE,VT.cs,Nat.add_assoc];cases h1:(vk == 1) <;> simp
   ·exact hO _ _ (by simp[zaI,h1])
   cases h2:(vn == 0) <;> simp
   ·exact hO _ _ (by simp[zaI,h1,h2])
   ·exact hO _ _ (by simp[zaI,h1,h2,i0])
  ·-- a aa type
   simp[zeE,VT.cs,Nat.add_assoc];cases h1:(vk == 5) with
   | false=>
    have:(vk != 5)=true:=by simp[bne,h1]
    simp[this];exact hO _ _ (by simp[zaI,h1])
   | true=>
   have cC:(vk != 5)=false:=by simp[bne,h1]
   by_cases h2:vn<0
   ·simp[cC,h2];exact hO _ _ (by simp[zaI,h1];omega)
   by_cases h3:8≤vn
   ·simp[cC,h2,h3];exact hO _ _ (by simp[zaI,h1];omega)
   simp[cC,h2,h3,Nat.add_assoc];have e:∀ o,za6 aa (.mk 5 n ks) vn=o→zaI aa (.mk vk vn vks) (.mk 5 n ks)=zfp aa vks o:=λo ho=>by
    have q1:0≤vn:=by omega
    have q2:vn<8:=by omega
    simp[zaI,h1,q1,q2,ho]
   have aR:(VT.mk 5 n ks).cs=[.int .i64 5,.int .i64 n,.sl (VT.css ks) .none]:=rfl;rw[←aR];refine zvx aa f1 f2 f3 (.mk 5 n ks) (by omega) vn _ _ ?_;cases hf:za6 aa (.mk 5 n ks) vn with
   | none=>simp[zcx];exact hO _ _ (by rw[e _ hf,zxf])
   | some l=>simp[zcx,aR];refine zEN vks l (by omega) cZ (zpf hD.ok hto hf) _ _ ?_;exact hO _ _ (by rw[e _ hf,zpk])
  ·simp[zeE,VT.cs,Nat.add_assoc];cases h1:(vk == 4) <;> simp
   ·exact hO _ _ (by simp[zaI,h1])
   cases h2:(vn == 0) <;> simp
   ·exact hO _ _ (by simp[zaI,h1,h2])
   refine zEN vks ks (by omega) cZ bm _ _ ?_;exact hO _ _ (by simp[zaI,h1,h2])
  ·-- an array
   simp[zeE,ziF,VT.cs,Nat.add_assoc];have cH:0<ks.length:=by omega
   cases h1:(vk == 6) with
   | false=>
    have:(vk != 6)=true:=by simp[bne,h1]
    simp[this];exact hO _ _ (by simp[zaI,h1])
   | true=>
   have cC:(vk != 6)=false:=by simp[bne,h1]
   by_cases h3:vks.length≤4096;case neg=>
    have iu:(4096:Int)<vks.length:=by omega
    simp[cC,iu];exact hO _ _ (by simp[zaI,h1,h3])
   have iu:¬ (4096:Int)<vks.length:=by omega
   cases h2:(vn == 0) with
   | false=>
    have:(vn != 0)=true:=by simp[bne,h2]
    simp[cC,iu,this];exact hO _ _ (by simp[zaI,h1,h2])
   | true=>
   have kj:(vn != 0)=false:=by simp[bne,h2]
   simp[cC,iu,kj];exact loop hk (by have:=zGr cH;simp[zaI,h1,h2,h3,this,cH])
  ·simp[zeE,ziF,VT.cs,Nat.add_assoc];have cH:0<ks.length:=by omega
   cases h1:(vk == 7) with
   | false=>
    have:(vk != 7)=true:=by simp[bne,h1]
    simp[this];exact hO _ _ (by simp[zaI,h1])
   | true=>
   have cC:(vk != 7)=false:=by simp[bne,h1]
   by_cases h3:vks.length=1;case neg=>
    have iu:((vks.length:Int) != 1)=true:=by simp;omega
    simp[cC,iu];refine hO _ _ ?_;have:zbR aa vks ks=false:=by rw[zpl];exact zpe (by omega)
    simp[zaI,h1,this]
   have iu:((vks.length:Int) != 1)=false:=by simp;omega
   cases h2:(vn == 0) with
   | false=>
    have:(vn != 0)=true:=by simp[bne,h2]
    simp[cC,iu,this];exact hO _ _ (by simp[zaI,h1,h2])
   | true=>
   have kj:(vn != 0)=false:=by simp[bne,h2]
   simp[cC,iu,kj];exact loop hk (by rw[←zGw h3 hk];simp[zaI,h1,h2])
  ·simp[zeE,ziF,VT.cs,Nat.add_assoc];cases h1:(vk == 8) <;> simp
   ·exact hO _ _ (by simp[zaI,h1])
   by_cases h2:0≤vn <;> simp[h2]
   ·by_cases h3:vn<64 <;> simp[h3]
    ·exact hO _ _ (by simp[zaI,h1,h2,h3,i0])
    ·exact hO _ _ (by simp[zaI,h1,h2,h3])
   ·exact hO _ _ (by simp[zaI,h1,h2])
end
def zdv (aa:List Dat) (v t:VT):Bool:=zbx aa t && zaI aa v t
theorem zGI {aa:List Dat} (h:zbb aa):zgX aa:=λD hD=>by obtain⟨_,h2⟩:=h;obtain⟨_,h3,h4⟩:=h2 D hD;refine⟨by omega,λc hc=>?_⟩;obtain⟨_,h5,h6⟩:=h4 c hc;exact⟨by omega,λx hx=>by have:=h6 x hx;omega⟩
theorem zwR {aa:List Dat}:∀ {l:List Dat} {d:Nat},zcX aa l d=true→∀ D∈l,D.cons.length≤8
 | [],_,_,D,h=>by cases h
 | E::l,d,h,D,hD=>by
  simp only[zcX,Bool.and_eq_true]at h;rcases List.mem_cons.1 hD with rfl | hD
  ·have:=h.1;simp only[zcL,Bool.and_eq_true,decide_eq_true_eq]at this;exact this.1.2
  ·exact zwR h.2 D hD
theorem zfo {aa:List Dat} {t:VT} (h:zbx aa t=true):∀ D∈aa,D.cons.length≤8:=by simp only[zbx,zbn,Bool.and_eq_true]at h;exact zwR h.1.1.1.2
def zbd (aa:List Dat) (t:VT) (v:IT):Int:=if zbx aa t then rdV aa v t else -1
theorem zVI (aa:List Dat) (hk:zbb aa) (t:VT) (ht:t.nodes≤1000000) (H:zaa) (K:Kt) (hK:K (.bool (zbx aa t)) H):ACalls tP zqu [.sl (aa.map Dat.cs) .none,.agg t.cs] H K:=by
 refine ACalls.out (zVH λhs=>?_);obtain⟨x,y,z,aB,hx,hy,hz⟩:=za2 t;simp[zEa,zau,zaL,aB,Nat.add_assoc];refine zLl aa (zGI hk) (by have:=hk.1;omega) ?_;unfold zbx at hK;cases hd:zbn aa with
 | false=>rw[hd]at hK;simp;exact Out.bool rfl (Nat.le_refl _) hs hK
 | true=>rw[hd,Bool.true_and]at hK;simp;rw[←aB];refine zAz aa 0 t (by omega) _ _ ?_;exact Out.bool rfl (Nat.le_refl _) hs hK
theorem zDQ (aa:List Dat) (hk:zbb aa) (t:VT) (ht:t.nodes≤1000000) (H:zaa) (K:Kt) (hK:K (.bool (zbx aa t)) H):ACalls tP zjV [.sl (aa.map Dat.cs) .none,.agg t.cs] H K:=by
 refine ACalls.out (zUS λhs=>?_);obtain⟨x,y,z,aB,hx,hy,hz⟩:=za2 t;simp[zDP,aB,Nat.add_assoc];refine zDE aa hk _ _ λb hb=>?_;have kD:b=zbn aa:=by rw[Bool.eq_iff_iff,hb,zwQ]
 subst kD;unfold zbx at hK;cases hd:zbn aa with
 | false=>rw[hd]at hK;simp;exact Out.bool rfl (Nat.le_refl _) hs hK
 | true=>rw[hd,Bool.true_and]at hK;simp;rw[←aB];refine zuC aa (by have:=hk.1;omega) 0 t (by omega) _ _ ?_;exact Out.bool rfl (Nat.le_refl _) hs hK
theorem zuj (aa:List Dat) (hk:zbb aa) (t:VT) (ht:t.nodes≤1000) (v:IT) (hv:v.nodes≤900) (H:zaa) (K:Kt) (hK:K (.int .i64 (zbd aa t v)) H):ACalls tP zhN [.sl (aa.map Dat.cs) .none,.agg t.cs,.agg v.cs] H K:=by
 refine ACalls.out (zTD λhs=>?_);have hO:∀ r J,zbd aa t v=r→Out H.length K (.int .i64 r) (H++J):=λr J h=>by subst h;exact Out.int rfl (Nat.le_refl _) hs hK
 obtain⟨x,y,z,aB,hx,hy,hz⟩:=za2 t;obtain⟨x2,y2,aJ,bh,fa⟩:=it2 v;simp[zDn,aB,aJ,Nat.add_assoc];rw[←aB];refine zVI aa hk t (by omega) _ _ ?_;cases hf:zbx aa t with
 | false=>simp;exact hO _ _ (by simp[zbd,hf])
 | true=>
  have h8:=zfo hf;obtain⟨g1,g2⟩:=zg4 h8 v t;simp[Nat.add_assoc];rw[←aJ];refine zVP hk h8 _ v (Nat.le_refl _) hv t ht _ _ ?_;cases hb:(zcq aa v t).2 with
  | false=>simp;exact hO _ _ (by simp[zbd,hf,g2 hb])
  | true=>simp;exact hO _ _ (by simp[zbd,hf,(g1 hb).1])
theorem zRU (aa:List Dat) (hk:zbb aa) (t:VT) (ht:t.nodes≤1000) (v:IT) (hv:v.nodes≤900) (H:zaa) (K:Kt) (hK:K (.int .i64 (zbd aa t v)) H):ACalls tP zqc [.sl (aa.map Dat.cs) .none,.agg t.cs,.agg v.cs] H K:=by
 refine ACalls.out (zRT λhs=>?_);have hO:∀ r J,zbd aa t v=r→Out H.length K (.int .i64 r) (H++J):=λr J h=>by subst h;exact Out.int rfl (Nat.le_refl _) hs hK
 obtain⟨x,y,z,aB,hx,hy,hz⟩:=za2 t;obtain⟨x2,y2,aJ,bh,fa⟩:=it2 v;simp[zCJ,aB,aJ,Nat.add_assoc];rw[←aB];refine zDQ aa hk t (by omega) _ _ ?_;cases hf:zbx aa t with
 | false=>simp;exact hO _ _ (by simp[zbd,hf])
 | true=>have h8:=zfo hf;simp[Nat.add_assoc];rw[←aJ];refine zVn hk h8 _ v (Nat.le_refl _) hv t ht _ _ ?_;exact hO _ _ (by simp[zbd,hf])
theorem zDb (aa:List Dat) (hk:zbb aa) (t:VT) (ht:t.nodes≤1000) (v:IT) (hv:v.nodes≤900) (H:zaa) (K:Kt) (hK:K (.bool (decide (0≤zbd aa t v))) H):ACalls tP zjP [.sl (aa.map Dat.cs) .none,.agg t.cs,.agg v.cs] H K:=by refine ACalls.out (zTa λhs=>?_);obtain⟨x,y,z,aB,hx,hy,hz⟩:=za2 t;obtain⟨x2,y2,aJ,bh,fa⟩:=it2 v;simp[zDa,aB,aJ,Nat.add_assoc];rw[←aB,←aJ];refine zRU aa hk t ht v hv _ _ ?_;simp;exact Out.bool rfl (Nat.le_refl _) hs (by simpa using hK)
theorem zKc (aa:List Dat) (hk:zbb aa) (k n:Int) (ks:List VT) (ht:(VT.mk k n ks).nodes≤1000) (c:Int) {l:List VT} {bs:List Bool} (hf:za6 aa (.mk k n ks) c=some l)
  (bn:l.length=bs.length) (gM:l.length≤8) (cw:∀ H K,K (.sl (zbH bs) .none) H→ACalls tP zeX [.sl (aa.map Dat.cs) .none,.int .i64 n,.int .i64 c] H K) (H:zaa) (K:Kt)
  (hK:K (.tup [.sl (zbD (pos false bs bs.length)) .none,.sl (zbD (pos true bs bs.length)) .none]) H) :
  ACalls tP zpE [.sl (aa.map Dat.cs) .none,.agg (VT.mk k n ks).cs,.int .i64 c] H K:=by
 refine ACalls.out (zKb λhs=>?_);simp[zz9,VT.cs];refine zA6 aa hk k n ks ht c hf bn gM cw _ _ ?_;simp;refine⟨⟨rfl,rfl⟩,?_⟩;exact Out.tup (bs:=[.sl (zbD (pos false bs bs.length)) .none,.sl (zbD (pos true bs bs.length)) .none]) hs hK ⟨slV,slV,trivial⟩
theorem zh0 {H:zaa} {K:AV→zaa→Prop} {r:AV} (hsc:HSc H) (hv:r.isV=true) (hr:r.scV H.length=true) (h:K r H):Out H.length K r H:=by have:=Out.same (J:=[]) rfl hsc hv hr h;simpa using this
theorem zxX (a:Int) (H:zaa) (K:AV→zaa→Prop) (hK:K (.bool false) H):ACalls tP zjA [.int .i64 a] H K:=by refine ACalls.out (zPU λhs=>?_);simp[zCd];exact zh0 hs rfl rfl hK
theorem zwD (a b:Int) (H:zaa) (K:AV→zaa→Prop) (hK:K (.int .i64 (icmp a b)) H):ACalls tP zjo [.int .i64 a,.int .i64 b] H K:=by
 refine ACalls.out (zMr λhs=>?_);unfold zAU;refine zxX _ _ _ (zxX _ _ _ ?_);have hO:=zh0 (K:=K) (H:=H) (r:=.int .i64 (icmp a b)) hs rfl rfl hK;by_cases h1:a<b
 ·simp[h1];simpa[icmp,h1]using hO
 ·by_cases h2:b<a
  ·simp[h1,h2];simpa[icmp,h1,h2]using hO
  ·simp[h1,h2];simpa[icmp,h1,h2]using hO
def orL:List Int→Int
 | []=>0
 | a::l=>cor a (orL l)
theorem zHo (l:List Int) (tok:Tok) (hl:l.length≤1000000) (H:zaa) (K:AV→zaa→Prop) (hK:K (.int .i64 (orL l)) H):ACalls tP zpQ [.sl (l.map λx=>[.int .i64 x]) tok] H K:=by
 refine ACalls.out (zMn λhs=>?_);simp[zAS];refine zMl (Inv:=λq t8 H'=>∃ i:Nat,i≤l.length∧q=l.length-i∧t8=.int .i64 i∧orL (l.drop i)=orL l∧H'=H) l.length ?_ ?_
 ·intro _;exact⟨0,by omega,by omega,rfl,by simp,rfl⟩
 ·rintro q t8 H' ⟨i,hi,rfl,rfl,ho,rfl⟩ hsc aq aO Kb aw;by_cases ap:i<l.length
  ·rw[List.drop_eq_getElem_cons ap,orL]at ho;by_cases hz:l[i]=0
   ·rw[zwK hz]at ho;simp[zlB,ap,hz];rw[zat (by omega) (by omega)];refine aw _ _ ⟨l.length-(i+1),by omega,Back.here (Nat.le_refl _) hs ?_ ⟨_,rfl,i+1,by omega,rfl,by simp,ho,rfl⟩⟩;simpa[zlC,AV.sc,AV.scV,AV.scA,AV.scB]using aO
   ·rw[zwJ hz]at ho;have hz:(l[i] != 0)=true:=by simpa using hz
    simp[zlB,ap,hz];rw[←ho]at hK;exact zh0 hs rfl rfl hK
  ·simp[zlB,ap];obtain rfl:i=l.length:=by omega
   rw[List.drop_length]at ho;rw[←ho]at hK;exact zh0 hs rfl rfl hK
theorem zFV (ks ks':List IT) (he:ks.length=ks'.length) (hb:ks.length≤1000000)
  (hc:∀ (i:Nat) (h:i<ks.length) (h':i<ks'.length) (H:zaa) (K:AV→zaa→Prop),K (.int .i64 (IT.cmp ks[i] ks'[i])) H→ACalls tP zgp [.agg ks[i].cs,.agg ks'[i].cs] H K)
  (H:zaa) (K:AV→zaa→Prop) (hK:K (.int .i64 (IT.cmpL ks ks')) H):ACalls tP zpR [.sl (IT.css ks) .none,.sl (IT.css ks') .none,.fn zgp []] H K:=by
 refine ACalls.out (zMw λhs=>?_);simp[zAV];refine zMu (Inv:=λq t13 H'=>∃ i:Nat,i≤ks.length∧q=ks.length-i∧t13=.int .i64 i∧IT.cmpL (ks.drop i) (ks'.drop i)=IT.cmpL ks ks'∧H'=H) ks.length ?_ ?_
 ·intro _;exact⟨0,by omega,by omega,rfl,by simp,rfl⟩
 ·rintro q t8 H' ⟨i,hi,rfl,rfl,ho,rfl⟩ hsc aq aO Kb aw;by_cases ap:i<ks.length
  ·have aS:i<ks'.length:=by omega
   have aQ:¬ ks'.length≤i:=by omega
   rw[IT.cmpL_drop ap aS]at ho;simp[zsn,ap,aS,aQ];refine hc i ap aS _ _ ?_;by_cases hz:IT.cmp ks[i] ks'[i]=0
   ·rw[zwK hz]at ho;simp[hz];rw[zat (by omega) (by omega)];refine aw _ _ ⟨ks.length-(i+1),by omega,Back.same (Nat.le_refl _) hs ?_ ⟨_,rfl,i+1,by omega,rfl,by simp,ho,rfl⟩⟩;simp[zlE,AV.sc,AV.scV,AV.scA,AV.scB]
   ·rw[zwJ hz]at ho;have hz:(IT.cmp ks[i] ks'[i] != 0)=true:=by simpa using hz
    simp[hz];rw[←ho]at hK;exact Out.same rfl hs rfl rfl hK
  ·have bS:¬ ks.length<ks'.length:=by omega
   simp[zsn,ap,bS];obtain rfl:i=ks.length:=by omega
   rw[List.drop_length,he,List.drop_length]at ho;rw[←ho]at hK;exact zh0 hs rfl rfl hK
theorem zGA:∀ (m:Nat) (v w:IT),v.nodes≤m→v.nodes≤1000000→∀ (H:zaa) (K:AV→zaa→Prop),K (.int .i64 (IT.cmp v w)) H→ACalls tP zgp [.agg v.cs,.agg w.cs] H K:=by
 intro m;induction m with
 | zero=>intro v w h;have:=v.nodes_pos;omega
 | succ m ih=>
  intro v w hv hb H K hK;obtain⟨n,ks⟩:=v;obtain⟨n',ks'⟩:=w;have bS:IT.nodesL ks+1≤1000000:=by simpa[IT.nodes]using hb
  have bq:=IT.len_le ks;refine ACalls.out (zWC λhs=>?_);simp[IT.cs,zEt];refine zaB _ (λJ=>zwD _ _ _ _ ⟨rfl,rfl⟩) ?_;refine zaB _ (λJ=>zwD _ _ _ _ ⟨rfl,rfl⟩) ?_;simp[zaw,zaT,plain,List.replicate];refine zaB _ (λJ=>zHo [icmp n n',icmp ks.length ks'.length] _ (by simp) _ _ ⟨rfl,rfl⟩) ?_;by_cases hz:orL [icmp n n',icmp ks.length ks'.length]=0
  ·have ib:=hz;simp only[orL,zhc]at hz;have aq:ks.length=ks'.length:=by have:=(zpq _ _).mp hz.2.1;omega
   simp[ib];refine zFV ks ks' aq (by omega) (λi h h' H K hK=>?_) _ _ ?_
   ·have:=IT.kid_lt (n:=n) h;exact ih _ _ (by omega) (by omega) H K hK
   ·refine Out.same rfl hs rfl rfl ?_;simpa[IT.cmp,hz,cor]using hK
  ·have kG:(orL [icmp n n',icmp ks.length ks'.length] != 0)=true:=by simpa using hz
   simp[kG];refine Out.same rfl hs rfl rfl ?_;have e:IT.cmp (.mk n ks) (.mk n' ks')=orL [icmp n n',icmp ks.length ks'.length]:=by simp only[IT.cmp,orL,cor]at hz ⊢;split <;> (try split) <;> (try split) <;> simp_all
   rwa [e]at hK
end Go.Proofs.YtdmamdnkcefmmaaGreatDoor

namespace Go.Abs
open Go Go.RowKit
open Go.Sort (grow putRow putCells mapBlock onCells ahead SWO PermIn SortedIn Holds)
open Go.Proofs (sortWorld ltOf CmpLays1)
variable {P:Program} {B:Nat} {w:World} {G:Gh} {H:zaa}
theorem zGu {W w':World} (hd:W.drawn≤w'.drawn) (hb:Below W.heap.size W w'):∃ q os,w'=grow (W.drewN q) os:=by
 refine⟨w'.drawn-W.drawn,w'.heap.extract W.heap.size w'.heap.size,?_⟩;obtain⟨h1,h2,h3,h4,h5⟩:=hb;obtain⟨heap,tape,drawn,os,output⟩:=W;obtain⟨fb,tape',drawn',os',output'⟩:=w';simp only at *;subst h1 h2 h3;have e1:fb=heap++fb.extract heap.size fb.size:=by
  refine Array.ext_getElem? λi=>?_;by_cases hi:i<heap.size
  ·rw[Array.getElem?_append_left hi,h5 i hi]
  ·rw[Array.getElem?_append_right (by omega),Array.getElem?_extract];by_cases h:i<fb.size
   ·rw[if_pos (by omega),show heap.size+(i-heap.size)=i by omega]
   ·rw[if_neg (by omega),Array.getElem?_eq_none (by omega)]
 have e2:drawn'=drawn+(drawn'-drawn):=by omega
 simp only[grow,World.drewN];rw[←e1,←e2]
theorem HRel.alone (h:HRel B w G H) (o:Obj):Ext B w G (w.alloc o) G∧HRel B (w.alloc o) G H:=by have he:=Ext.alloc h o G.L (λ_ _=>rfl) [];simp only[List.append_nil]at he;refine⟨he,h.keep he rfl (λid gi b h1 h2=>⟨zcK (h.lt id gi b h1 h2),rfl⟩) (λb hb=>?_)⟩;rw[zca]at hb;exact h.fresh b (by omega)
theorem HRel.grown:∀ (os:List Obj) {w:World},HRel B w G H→Ext B w G (grow w os.toArray) G∧HRel B (grow w os.toArray) G H
 | [],w,h=>by
  have:grow w #[]=w:=by simp[grow]
  rw[show ([]:List Obj).toArray=#[] from rfl,this];exact⟨Ext.refl _ _ _,h⟩
 | o::l,w,h=>by
  obtain⟨h1,h2⟩:=h.alone o;obtain⟨h3,h4⟩:=HRel.grown l h2;have:grow w (o::l).toArray=grow (w.alloc o) l.toArray:=by rw[Go.Sort.alloc_eq_grow,Go.Sort.grow_grow];simp
  rw[this];exact⟨h1.trans h3,h4⟩
theorem zHL {α:Type} [Inhabited α] (vals:α→Value) (d:Array α) (cur:Array Value) (h:d.size≤cur.size):(putCells vals 0 d cur).toList.take d.size=d.toList.map vals:=by refine List.ext_getElem (by simp[putCells];omega) λi h1 h2=>?_;simp at h2;simp[putCells,h2]
def Lx (w:World) (G:Gh) (blk b:Nat):Nat:=if b=blk then 0 else max (G.L b) (zcz w b)
def Rd (H:zaa) (id0:Nat) (a:AV) (row:List (List AV)):Prop:=
 a=.sl row .none ∨
 (∃ id off len cap size cs,a=.ms id off len cap∧H[id]?=some (.cells cs)∧off+len*size≤cs.length∧plain ((cs.drop off).take (len*size))=some row.flatten∧row.length=len∧(∀ c∈row,c.length=size)∧len≤cap) ∨
 (∃ id e size m cs,a=.ov id m∧id≠id0∧H[id]?=some (.vec e size m cs)∧plain cs=some row.flatten∧row.length=m∧∀ c∈row,c.length=size)
theorem Rd.rel (h:HRel B w G H) {id e n g cap:Nat} {cs:List AV} (hH:H[id]?=some (.vec e 1 n cs)) (hμ:G.μ[id]?=some (.own (.slice (some ⟨g,0,none⟩) n cap) 1 n)) {a:AV} {row:List (List AV)} (hr:Rd H id a row) {v:Value} (hv:ARel w G v a) :
  DRel w (Lx w G g) v (.sl row .none):=by
 obtain⟨_,_,_,eQ⟩:=h.ok id _ _ hH hμ;have fm:G.L g=0:=eQ g rfl;have hlev:∀ b,G.L b≤Lx w G g b:=λb=>by
  unfold Lx;split
  ·rename_i hb;rw[hb,fm];exact Nat.le_refl _
  ·exact Nat.le_max_left _ _
 have ch:∀ {v:Value} {a:AV},DRel w G.L v a→DRel w (Lx w G g) v a:=λh=>h.mono hlev λ_ _ _=>rfl;rcases hr with rfl | ⟨i2,off,len,cap2,size,cs2,rfl,cL,bf,hp,aq,aF,aL⟩ | ⟨i2,e2,size,m,cs2,rfl,aD,cL,hp,aq,aF⟩
 ·exact ch hv
 ·obtain⟨b,hb,rfl⟩:=hv;obtain⟨_,_,vs,_,hw,aR⟩:=h.ok i2 _ _ cL hb;have c7:b≠g:=λc7=>by have:=h.dist i2 id _ _ b hb hμ rfl (by rw[c7];rfl);subst this;rw[hH]at cL;cases cL
  subst aq;by_cases ba:row=[]
  ·subst ba;exact .slE _ _
  ·have hl:=aR.length;refine DRel.of_flat_at (zs:=(vs.toList.drop off).take (row.length*size)) aF ba aL ?_ ((zdz ((aR.drop off).take _) hp).mono λ_ _=>ch) ?_
   ·unfold Lx;rw[if_neg c7];refine Nat.le_trans ?_ (Nat.le_max_right _ _);simp[zcz,hw];simp at hl;omega
   ·intro j u hj;rw[List.getElem?_take]at hj;split at hj
    ·simp only[World.cell?,hw];simpa using hj
    ·cases hj
 ·obtain⟨⟨a,cap0,rfl,_⟩,v',s0,n',hμ2,_,heq⟩:=hv;obtain⟨rfl,rfl,⟨xs,au,aR⟩,_⟩:=h.ok i2 _ _ cL hμ2;obtain rfl:=heq rfl;subst aq;by_cases ba:row=[]
  ·subst ba;exact .slE _ _
  ·have ce:=au;obtain⟨hl,bl⟩:=ce;rcases bl with ⟨h1,h2⟩ | ⟨g2,cap2,cur,h1,h2,h3,h4,h5,h6,h7⟩
   ·cases row <;> simp_all
   ·simp at h1;obtain⟨rfl,rfl⟩:=h1;obtain⟨_,_,_,aH⟩:=zdy au;have c7:g2≠g:=λc7=>aD (h.dist i2 id _ _ g2 hμ2 hμ rfl (by rw[c7];rfl));refine DRel.of_flat_at (zs:=xs) aF ba h4 ?_ ((zdz aR hp).mono λ_ _=>ch) ?_
    ·unfold Lx;rw[if_neg c7];refine Nat.le_trans ?_ (Nat.le_max_right _ _);simp only[zcz,h3,h6,Nat.zero_add];exact Nat.mul_le_mul_right _ h4
    ·intro j u hj;rw[Nat.zero_add,aH j (by rw[←hl];exact (List.getElem?_eq_some_iff.1 hj).1)];exact hj
theorem zw0 {α:Type} (d:Array α) {k:Nat} (h:d.size=k):d.extract 0 k=d:=by subst h;exact Array.extract_size
theorem zHd (n:Nat):((Array.ofFn λi:Fin n=>i).toList.map Fin.val)=List.range n:=
 List.ext_getElem (by simp) λi h1 h2=>by simp only[List.getElem_map,Array.getElem_toList,Array.getElem_ofFn,List.getElem_range]
theorem zIz {α:Type} [Inhabited α] (vals:α→Value) (w:World) (g m:Nat) (d:Array α) (os:Array Obj):w.heap.size≤(sortWorld vals w g 0 m d os).heap.size:=by unfold sortWorld;simp[grow]
theorem zIy {α:Type} [Inhabited α] (vals:α→Value) (w:World) (g m:Nat) (d:Array α) (os:Array Obj) (a:Addr) (h1:a.block≠g) (h2:a.block<w.heap.size):(sortWorld vals w g 0 m d os).cell? a=w.cell? a:=by unfold sortWorld;rw[Go.Sort.cell?_grow _ _ _ (by rw[Go.Sort.size_putRow];exact h2),Go.Sort.cell?_putRow_other vals _ g 0 d a (Or.inl h1)];rfl
end Go.Abs
namespace Go.Abs
open Go Go.RowKit
variable {P:Program} {B:Nat} {w:World} {G:Gh} {H:zaa}
def Lmx (w:World) (G:Gh) (b:Nat):Nat:=Nat.max (G.L b) (zcz w b)
inductive RdA (H:zaa):AV→AV→Prop
 | sl (es:List (List AV)):RdA H (.sl es .none) (.sl es .none)
 | int (k:IntKind) (n:Int):RdA H (.int k n) (.int k n)
 | bool (b:Bool):RdA H (.bool b) (.bool b)
 | str (s:List UInt8):RdA H (.str s) (.str s)
 | ms (id off len cap size:Nat) (cs:List AV) (row:List (List AV)) (hH:H[id]?=some (.cells cs)) (bf:off+len*size≤cs.length) (hp:plain ((cs.drop off).take (len*size))=some row.flatten) (aq:row.length=len)
   (aF:∀ c∈row,c.length=size) (aL:len≤cap):RdA H (.ms id off len cap) (.sl row .none)
 | ov (id e size m:Nat) (cs:List AV) (row:List (List AV)) (hH:H[id]?=some (.vec e size m cs)) (hp:plain cs=some row.flatten) (aq:row.length=m) (aF:∀ c∈row,c.length=size):RdA H (.ov id m) (.sl row .none)
theorem RdA.rel (h:HRel B w G H) {a b:AV} (hr:RdA H a b) {v:Value} (hv:ARel w G v a):DRel w (Lmx w G) v b:=by
 have ch:∀ {v:Value} {a:AV},DRel w G.L v a→DRel w (Lmx w G) v a:=λh=>h.mono (λb=>Nat.le_max_left _ _) λ_ _ _=>rfl;cases hr with
 | sl es=>exact ch hv
 | int k n=>have hv:v=.int k n:=hv;subst hv;exact .int k n
 | bool b=>have hv:v=.bool b:=hv;subst hv;exact .bool b
 | str s=>have hv:v=.string ⟨s.toArray⟩:=hv;subst hv;exact .str s
 | ms i2 off len cap2 size cs2 row cL bf hp aq aF aL=>
  obtain⟨b,hb,rfl⟩:=hv;obtain⟨_,_,vs,_,hw,aR⟩:=h.ok i2 _ _ cL hb;subst aq;by_cases ba:row=[]
  ·subst ba;exact .slE _ _
  ·have hl:=aR.length;refine DRel.of_flat_at (zs:=(vs.toList.drop off).take (row.length*size)) aF ba aL ?_ ((zdz ((aR.drop off).take _) hp).mono λ_ _=>ch) ?_
   ·refine Nat.le_trans ?_ (Nat.le_max_right _ _);simp[zcz,hw];simp at hl;omega
   ·intro j u hj;rw[List.getElem?_take]at hj;split at hj
    ·simp only[World.cell?,hw];simpa using hj
    ·cases hj
 | ov i2 e2 size m cs2 row cL hp aq aF=>
  obtain⟨⟨a,cap0,rfl,_⟩,v',s0,n',hμ2,_,heq⟩:=hv;obtain⟨rfl,rfl,⟨xs,au,aR⟩,_⟩:=h.ok i2 _ _ cL hμ2;obtain rfl:=heq rfl;subst aq;by_cases ba:row=[]
  ·subst ba;exact .slE _ _
  ·have ce:=au;obtain⟨hl,bl⟩:=ce;rcases bl with ⟨h1,h2⟩ | ⟨g2,cap2,cur,h1,h2,h3,h4,h5,h6,h7⟩
   ·cases row <;> simp_all
   ·simp at h1;obtain⟨rfl,rfl⟩:=h1;obtain⟨_,_,_,aH⟩:=zdy au;refine DRel.of_flat_at (zs:=xs) aF ba h4 ?_ ((zdz aR hp).mono λ_ _=>ch) ?_
    ·refine Nat.le_trans ?_ (Nat.le_max_right _ _);simp only[zcz,h3,h6,Nat.zero_add];exact Nat.mul_le_mul_right _ h4
    ·intro j u hj;rw[Nat.zero_add,aH j (by rw[←hl];exact (List.getElem?_eq_some_iff.1 hj).1)];exact hj
theorem RdA.trel (h:HRel B w G H) {a b:AV} (hr:RdA H a b) {v:Value} (hv:ARel w G v a):ARel w ⟨Lmx w G,[]⟩ v b:=by
 have hd:=hr.rel h hv;cases hr with
 | sl es=>exact hd
 | int k n=>exact hv
 | bool b=>exact hv
 | str s=>exact hv
 | ms i2 off len cap2 size cs2 row cL bf hp aq aF aL=>exact hd
 | ov i2 e2 size m cs2 row cL hp aq aF=>exact hd
inductive RdT (H:zaa):AV→AV→Prop
 | one {a b:AV} (h:RdA H a b):RdT H a b
 | agg {asx bs:List AV} (h:All2 (RdA H) asx bs):RdT H (.agg asx) (.agg bs)
theorem RdT.rel (h:HRel B w G H) {a b:AV} (hr:RdT H a b) {v:Value} (hv:TRel w G v a):TRel w ⟨Lmx w G,[]⟩ v b:=by
 cases hr with
 | one hr=>
  have bN:ARel w G v a:=by cases hr <;> exact hv
  exact TRel.of_v (VRel.of_a (hr.trel h bN))
 | agg hr=>
  obtain⟨us,hu,hv⟩:=hv;refine⟨us,hu,?_⟩;exact All2.of_get (hv.length.trans hr.length) λi x y hx hy=>by obtain⟨a,ha,e8⟩:=All2.get' hv hx;obtain⟨y',dS,il⟩:=All2.get' hr ha;rw[hy]at dS;cases dS;exact il.trel h e8
end Go.Abs
namespace Go.Proofs.YtdmamdnkcefmmaaGreatDoor
open Go Go.Abs
def zaz:IT→List IT
 | .mk _ ks=>ks
mutual
theorem zJU:∀ t:VT,(zdG t).nodes≤t.nodes
 | .mk k n ks=>by
  have:=zz4 ks;simp only[zdG,VT.nodes,IT.nodes];split
  ·omega
  ·simp[IT.nodesL]
theorem zz4:∀ ts:List VT,IT.nodesL (zcH ts)≤VT.nodesL ts
 | []=>by simp[zcH,IT.nodesL,VT.nodesL]
 | t::ts=>by have:=zJU t;have:=zz4 ts;simp only[zcH,IT.nodesL,VT.nodesL];omega
end
def d0:IT:=.mk 0 []
def tz:VT:=.mk 0 0 []
theorem zks {aa:List Dat} (m n:Int) (kk:List IT) (ks:List VT):rdV aa (.mk m kk) (.mk 5 n ks)=if m=0∧kk.length≤6 then rdE aa kk (.mk 5 n ks) 0 else -1:=by simp[rdV,VT.kind]
mutual
theorem zJV {aa:List Dat}:∀ x:VT,rdV aa (zdG x) x=0
 | .mk k n ks=>by
  have hA:=zz5 (aa:=aa) ks 0 (by omega) (by omega);by_cases h6:k=6
  ·subst h6;have:rdV aa (zdG (.mk 6 n ks)) (.mk 6 n ks)=rdA aa (zcH ks) ks 0:=by simp[zdG,rdV,VT.kind,VT.kids,zz3]
   rw[this,hA]
  ·by_cases h7:k=7
   ·subst h7;simp[zdG,rdV,VT.kind]
   ·by_cases h5:k=5
    ·subst h5;simp[zdG,rdV,VT.kind,rdE]
    ·simp[zdG,rdV,VT.kind,h6,h7,h5]
theorem zz5 {aa:List Dat}:∀ (ts:List VT) (a:Int),0≤a→a≤6→rdA aa (zcH ts) ts a=a
 | [],a,_,_=>by simp only[zcH,rdA]
 | t::ts,a,h,h6=>by have h1:=zJV (aa:=aa) t;rw[zcH,zyy,h1,if_neg (by omega),Int.add_zero,zz5 ts a h h6]
end
theorem zfD {aa:List Dat} (h8:∀ D∈aa,D.cons.length≤8) (t:VT):∀ (rs:List (List IT)) (a:Int),0≤a→a≤6→0≤rdE aa rs.flatten t a→(∀ r∈rs,0≤rdE aa r t 0)∧rdE aa rs.flatten t a=a+(rs.map λr=>rdE aa r t 0).sum
 | [],a,h,h6,_=>by simp only[List.flatten_nil,rdE];simp
 | r::rs,a,h,h6,hd=>by
  rw[List.flatten_cons,zqP h8 _ _ _ _ h h6,zko r t a h h6]at hd ⊢;by_cases hr:rdE aa r t 0<0∨a+rdE aa r t 0>6
  ·rw[zc7 hr]at hd;simp at hd
  ·rw[zfh (by omega) (by omega)]at hd ⊢;rw[if_neg (by omega)]at hd ⊢;obtain⟨g1,g2⟩:=zfD h8 t rs _ (by omega) (by omega) hd;refine⟨λx hx=>?_,by rw[g2];simp;omega⟩;rcases List.mem_cons.1 hx with rfl | hx
   ·omega
   ·exact g1 x hx
theorem zdA {aa:List Dat}:∀ (vs:List IT) (ts:List VT) (a:Int),0≤a→vs.length=ts.length→0≤rdA aa vs ts a→(∀ k (h1:k<vs.length) (h2:k<ts.length),0≤rdV aa vs[k] ts[k])∧rdA aa vs ts a=a+(List.zipWith (rdV aa) vs ts).sum
 | [],[],a,h,_,_=>by simp only[rdA];simp
 | [],_::_,_,_,hl,_=>by simp at hl
 | _::_,[],_,_,hl,_=>by simp at hl
 | v::vs,t::ts,a,h,hl,hd=>by
  rw[zyy]at hd ⊢;by_cases hr:rdV aa v t<0∨a+rdV aa v t>6
  ·rw[if_pos hr]at hd;omega
  ·rw[if_neg hr]at hd ⊢;obtain⟨g1,g2⟩:=zdA vs ts _ (by omega) (by simpa using hl) hd;refine⟨λk h1 h2=>?_,by rw[g2];simp;omega⟩;cases k with
   | zero=>simp;omega
   | succ k=>simpa using g1 k (by simpa using h1) (by simpa using h2)
end Go.Proofs.YtdmamdnkcefmmaaGreatDoor
namespace Go.Abs
def zaD {α:Type}:List (α→Nat)→List α→Nat
 | [],_=>1
 | _::_,[]=>0
 | w::ws,n::ns=>w n*zaD ws ns+zaD (w::ws) ns
theorem zky {α:Type} (w:α→Nat) (n:α):∀ (ws:List (α→Nat)) (P:List α),zaD (ws++[w]) (P++[n])=zaD (ws++[w]) P+zaD ws P*w n
 | [],[]=>by simp[zaD]
 | [],p::P=>by have:=zky w n [] P;simp only[List.nil_append,List.cons_append,zaD]at this ⊢;omega
 | v::ws,[]=>by cases ws <;> simp[zaD]
 | v::ws,p::P=>by have h1:=zky w n ws P;have h2:=zky w n (v::ws) P;simp only[List.cons_append,zaD]at h2 ⊢;rw[h1,h2];grind
theorem zIe {α:Type}:∀ ws:List (α→Nat),zaD ws ([]:List α)=if ws.isEmpty then 1 else 0
 | []=>rfl
 | _::_=>rfl
def zfK (l:List Nat):Nat:=l.foldr (·+·) 0
@[simp] theorem ybz:zfK []=0:=rfl
@[simp] theorem zzr (a:Nat) (l:List Nat):zfK (a::l)=a+zfK l:=rfl
theorem zIf {α:Type} (ws:List (α→Nat)) (a:α) (l:List α):zaD ws l≤zaD ws (a::l):=by cases ws <;> simp[zaD]
theorem zyU {α:Type} (w:α→Nat) (ws:List (α→Nat)):∀ l:List α,zaD (w::ws) l≤zfK (l.map w)*zaD ws l
 | []=>by simp[zaD]
 | a::l=>by have ih:=zyU w ws l;have h1:=zIf ws a l;simp only[zaD,List.map_cons,zzr,Nat.add_mul];have h2:w a*zaD ws l≤w a*zaD ws (a::l):=Nat.mul_le_mul_left _ h1;have h3:zfK (l.map w)*zaD ws l≤zfK (l.map w)*zaD ws (a::l):=Nat.mul_le_mul_left _ h1;omega
theorem zzs {α:Type} {w:α→Nat} {b:Nat}:∀ l:List α,(∀ a∈l,w a≤b)→zfK (l.map w)≤l.length*b
 | [],_=>by simp
 | a::l,h=>by have h1:=h a (by simp);have h2:=zzs l (λx hx=>h x (by simp[hx]));simp only[List.map_cons,zzr,List.length_cons,Nat.succ_mul];omega
end Go.Abs
namespace Go.Abs
open Go
end Go.Abs
namespace Go.Abs
def chs:Nat→Nat→Nat
 | _,0=>1
 | 0,_+1=>0
 | n+1,k+1=>chs n k+chs n (k+1)
@[simp] theorem zo0 (n:Nat):chs n 0=1:=by cases n <;> rfl
theorem zga:∀ {n k:Nat},n<k→chs n k=0
 | 0,k+1,_=>rfl
 | n+1,k+1,h=>by rw[chs,zga (by omega),zga (by omega)]
theorem zhb:∀ (n k:Nat),(k+1)*chs n (k+1)=chs n k*(n-k)
 | 0,k=>by simp[chs]
 | n+1,0=>by have:=zhb n 0;simp only[chs,zo0]at this ⊢;omega
 | n+1,k+1=>by
  have h1:=zhb n k;have h2:=zhb n (k+1);simp only[chs];rw[show n+1-(k+1)=n-k by omega];by_cases hk:k+1≤n
  ·obtain⟨m,rfl⟩:∃ m,n=k+1+m:=⟨n-(k+1),by omega⟩;rw[show k+1+m-k=m+1 by omega]at h1 ⊢;rw[show k+1+m-(k+1)=m by omega]at h2;grind
  ·rw[zga (show n<k+1 by omega),zga (show n<k+1+1 by omega),show n-k=0 by omega];simp
theorem zha:∀ (n k:Nat),chs n k≤n ^ k
 | n,0=>by simp
 | 0,k+1=>by simp[chs]
 | n+1,k+1=>by have h1:=zha n k;have h2:=zha n (k+1);have h3:n ^ k≤(n+1) ^ k:=Nat.pow_le_pow_left (by omega) k;simp only[chs,Nat.pow_succ]at h2 ⊢;have h4:n ^ k*n≤(n+1) ^ k*n:=Nat.mul_le_mul_right _ h3;rw[Nat.mul_add];omega
end Go.Abs
namespace Go.Proofs.YtdmamdnkcefmmaaGreatDoor
open Go Go.Abs
mutual
def atV (aa:List Dat):IT→VT→VT→Nat
 | .mk n ks,t,v=>
  if t.kind=6 then atL aa ks t.kids v.kids
  else if t.kind=7 then chs v.kids.length n.toNat
  else if t.kind=5 then zaD (wtL aa ks t) (zbU (zbK aa t.num.toNat) v)
  else 1
def atL (aa:List Dat):List IT→List VT→List VT→Nat
 | [],_,_=>1
 | i::l,ts,vs=>match ts,vs with
  | t::ts,v::vs=>atV aa i t v*atL aa l ts vs
  | _,_=>1
def wtL (aa:List Dat):List IT→VT→List (VT→Nat)
 | [],_=>[]
 | e::es,t=>wtE aa e t::wtL aa es t
def wtE (aa:List Dat):IT→VT→VT→Nat
 | .mk c ks,t,n=>if n.num=c then atL aa ks ((za7 aa t c).getD []) (pick n.kids ((zbK aa t.num.toNat).getD c.toNat [])) else 0
end
theorem zih (aa:List Dat) (t:VT):∀ es:List IT,wtL aa es t=es.map λe=>wtE aa e t
 | []=>by simp[wtL]
 | e::es=>by simp[wtL,zih aa t es]
mutual
theorem zFA (aa:List Dat):∀ (t v:VT),atV aa (zdG t) t v=1
 | .mk k n ks,v=>by
  have:=zwi aa ks v.kids;unfold zdG;rw[atV];by_cases h6:k=6
  ·simp[h6,VT.kind,VT.kids];simpa[VT.kids]using this
  ·by_cases h7:k=7
   ·simp[h6,h7,VT.kind,VT.kids]
   ·simp only[h6,VT.kind,if_false,h7];split <;> simp[wtL,zaD]
theorem zwi (aa:List Dat):∀ (ts vs:List VT),atL aa (zcH ts) ts vs=1
 | [],vs=>by simp[zcH,atL]
 | t::ts,[]=>by simp[zcH,atL]
 | t::ts,v::vs=>by simp[zcH,atL,zFA aa t v,zwi aa ts vs]
end
theorem zHK (rs:List (List Bool)):∀ (vs:List VT) (bs:List Bool),vs.length=bs.length→zb1 rs vs bs=(pos true bs bs.length).flatMap λj=>zbU rs (vs.getD j tz):=by
 have key:∀ (vs:List VT) (bs:List Bool),vs.length=bs.length→zb1 rs vs bs=((List.range bs.length).flatMap λj=>if bs.getD j false=true then zbU rs (vs.getD j tz) else []):=by
  intro vs;induction vs with
  | nil=>intro bs h;cases bs <;> simp[zb1]at h ⊢
  | cons v vs ih=>
   intro bs h;cases bs with
   | nil=>simp at h
   | cons b bs=>rw[zb1,ih bs (by simpa using h),List.length_cons,List.range_succ_eq_map,List.flatMap_cons,List.flatMap_map];simp
 intro vs bs h;rw[key vs bs h];unfold pos;generalize List.range bs.length=l;induction l with
 | nil=>rfl
 | cons a l ih=>rw[List.flatMap_cons,ih];cases hb:bs.getD a false <;> simp[List.filter_cons,hb,List.getD_eq_getElem?_getD] <;> simp[List.getD_eq_getElem?_getD]at hb <;> simp[hb]
theorem ztj (aa:List Dat) (hk:zbb aa) (v t:VT) (hv:v.nodes≤5000) (ht:t.nodes≤1000000) (H:zaa) (K:Kt) (hK:K (.bool (zdv aa v t)) H) :
  ACalls tP zhF [.sl (aa.map Dat.cs) .none,.agg v.cs,.agg t.cs] H K:=by
 refine ACalls.out (zPw λhs=>?_);have hO:∀ b J,zdv aa v t=b→Out H.length K (.bool b) (H++J):=λb J h=>Out.bool rfl (Nat.le_refl _) hs (h ▸ hK);obtain⟨x,y,z,aB,hx,hy,hz⟩:=za2 v;obtain⟨x2,y2,z2,aJ,bh,fa,kF⟩:=za2 t;have cu:=hk.1;simp[zBq,aB,aJ,Nat.add_assoc];refine zDE aa hk _ _ λb hb=>?_;have kD:b=zbn aa:=by rw[Bool.eq_iff_iff,hb,zwQ]
 subst kD;cases hd:zbn aa with
 | false=>simp;exact hO _ _ (by simp[zdv,zbx,hd])
 | true=>
  simp[Nat.add_assoc];rw[←aJ];refine zuC aa (by omega) 0 t (by omega) _ _ ?_;cases hf:zaZ aa 0 t with
  | false=>simp;exact hO _ _ (by simp[zdv,zbx,hf])
  | true=>simp[Nat.add_assoc];rw[←aB];refine zUy _ v (Nat.le_refl _) 5000 (by omega) (by omega) _ (H.length+2) (by simp) _ ?_ (λh=>absurd (by omega) h);intro _;simp[Nat.add_assoc];refine zUF ⟨hd,hk⟩ _ v (Nat.le_refl _) (by omega) t hf _ _ ?_;exact hO _ _ (by simp[zdv,zbx,hd,hf])
@[simp] theorem yad (k:AV→Prop):zaE [] k=k (.tup []):=by simp[zaE]
theorem zJA {n:Nat} {H2 J H':zaa} {K:Kt} (he:H'=H2++J) (hn:n≤H2.length) (hs:HSc H2) (h:K (.tup []) H2):Out n K (.tup []) H':=by subst he;exact⟨.tup [],H2,J,rfl,hn,hs,.tup trivial,h⟩
def pw (H:zaa) (io iv:Nat) (l:List VT):zaa:=(H.set iv (.vec zcf 3 l.length (VT.css l).flatten)).set io (.cells [.ov iv l.length])
section
variable {H J:zaa} {io iv ir is:Nat} {rs:List (List Bool)} {l l':List VT}
@[simp] theorem ybc:(pw H io iv l).length=H.length:=by simp[pw]
end
theorem zwL (l:List VT) (v:VT):VT.css (l++[v])=VT.css l++[v.cs]:=by rw[VT.css_map,VT.css_map,List.map_append];rfl
theorem zHJ {rs:List (List Bool)} {ks:List VT} {bs:List Bool} {i:Nat} (h:i<ks.length) (h':i<bs.length):zb1 rs (ks.drop i) (bs.drop i)=(if bs[i]=true then zbU rs ks[i] else [])++zb1 rs (ks.drop (i+1)) (bs.drop (i+1)):=by rw[List.drop_eq_getElem_cons h,List.drop_eq_getElem_cons h',zb1]
theorem zpm {aa:List Dat} {v t:VT} (h:zdv aa v t=true):zbn aa=true∧zaZ aa 0 t=true∧zaI aa v t=true:=by simp only[zdv,zbx,Bool.and_eq_true]at h;exact⟨h.1.1,h.1.2,h.2⟩
theorem zki:∀ {a b c d:List AV},plain a=some c→plain b=some d→plain (a++b)=some (c++d)
 | [],b,c,d,h,h'=>by simp[plain]at h;subst h;simpa using h'
 | x::a,b,c,d,h,h'=>by
  simp only[plain]at h;split at h
  ·rename_i p q hp hq;cases h;simp only[List.cons_append,plain];rw[hp,zki hq h']
  ·cases h
end Go.Proofs.YtdmamdnkcefmmaaGreatDoor
