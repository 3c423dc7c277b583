import Derived.Test.YtdmamdnkcefmmaaGreatDoorKNum
import Derived.Test.YtdmamdnkcefmmaaGreatDoorProg
import Derived.KernelRfl
import Derived.Test.YtdmamdnkcefmmaaGreatDoorAbsQ1
set_option linter.unusedSimpArgs false
set_option linter.unusedVariables false
set_option maxRecDepth 8000
namespace Go.Proofs.YtdmamdnkcefmmaaGreatDoor
open Go Go.Abs
set_option maxRecDepth 100000
def zmu:Nat→List Bool
 | 5=>rl false [1,2,2,1,24]
 | _=>[]
noncomputable def zsF:Code:=Tryz.f72.body.getD .skip
noncomputable def zQO:List ResultVar:=Tryz.f72.results.toList
def zmv (t1 t2 t5:AV):List AV:=ux 1 (t1::t2::ux 2 (t5::ux 24 []))
def zQM:List Bool:=zmu 5
noncomputable def zQK:Code:=zaq [1,1,1,0,1,0,0] zsF
def zQJ (K:Kt):AExit→List AV→zaa→Prop:=zar tP zmu [1,1,1,0,1,0] zsF (zax tP zQO K)
def zAX (t1 t2 t5:AV) (H:zaa) (K:Kt):Prop:=ALoop tP zQK (zQJ K) (zmv t1 t2 t5) H
def zsE (t1 t2 t5:AV) (H:zaa) (K:Kt) (Kb5:Lt):Prop:=
 zaf 2 t2 fun t16=>
 zae false 1 t16 H fun t17=>
 zah 1 t17 fun t18=>
 zab .lss false t5 t18 fun t19=>
 zag t19
 (zaf 2 t2 fun t22=>
 zae false 1 t22 H fun t23=>
 zai 3 t23 t5 fun t25=>
 zae true 3 t25 H fun t26=>
 ACalls tP zg9 [t26,t1] H fun t28 H=>
 aUn .not t28 fun t29=>
 zag t29
 (K (.bool false) H)
 (zab .add false t5 (.int .i64 1) fun t21=>
 Kb5 (zmv t1 t2 t21) H))
 (K (.bool true) H)
def zAW (t0 t1:AV) (H:zaa) (K:Kt):Prop:=
 zav t0 H fun t2 H=>
 za2 t1 fun t7=>
 zae false 1 t7 H fun t8=>
 zab .sub false t8 (.int .i64 1) fun t9=>
 za2 t1 fun t10=>
 zan 1 t10 t9 H fun H=>
 za2 t1 fun t12=>
 zae false 1 t12 H fun t13=>
 zab .lss false t13 (.int .i64 0) fun t14=>
 zag t14
 (K (.bool false) H)
 (zAX t1 t2 (.int .i64 0) H K)
theorem zQL {t1 t2 t5:AV} {H:zaa} {K:Kt} (Inv:Nat→AV→zaa→Prop) (n:Nat) (h0:HSc H→Inv n t5 H)
  (round:Rd1 (fun t5=>zmv t1 t2 t5) (fun t5=>fun H Kb5=>zsE t1 t2 t5 H K Kb5) H Inv):zAX t1 t2 t5 H K:=
 lp1 (M:=zmu) zQM t5 (by kernel_rfl) Inv n h0 round
theorem zQN {t0 t1:AV} {H:zaa} {K:Kt} (h:HSc H→zAW t0 t1 H K):ACalls tP zg9 [t0,t1] H K:=
 zao (M:=zmu) Tryz.func72 (c:=zsF) (by kernel_rfl) (fun hs=>Eq.mpr (by kernel_rfl) (h hs))
def zO2 (_:Nat):List Bool:=[]
noncomputable def zO3:Code:=Tryz.f38.body.getD .skip
def zAp (t0:AV) (H:zaa) (K:Kt):Prop:=
 zav t0 H fun t1 H=>
 zay [(.int .i64 0)] H fun t3 H=>
 zan 1 t3 (.int .i64 250) H fun H=>
 zae true 3 t1 H fun t4=>
 ACalls tP zg9 [t4,t3] H fun t5 H=>
 K t5 H
theorem zO4 {t0:AV} {H:zaa} {K:Kt} (h:HSc H→zAp t0 H K):ACalls tP zoE [t0] H K:=
 zao (M:=zO2) Tryz.func38 (c:=zO3) (by kernel_rfl) (fun hs=>Eq.mpr (by kernel_rfl) (h hs))
def zdT:Nat→List Bool
 | 4=>rl false [13,3,43]
 | 9=>rl false [13,3,14,3,26]
 | 15=>rl false [7,1,5,3,14,3,14,3,9]
 | _=>[]
noncomputable def zr7:Code:=Tryz.f37.body.getD .skip
noncomputable def zO0:List ResultVar:=Tryz.f37.results.toList
def zhN (t13 t14 t15:AV):List AV:=ux 13 (t13::t14::t15::ux 43 [])
def zAn:List Bool:=zdT 4
noncomputable def zr8:Code:=zaq [1,1,0,1,0,0] zr7
def zAi (K:Kt):AExit→List AV→zaa→Prop:=zar tP zdT [1,1,0,1,0] zr7 (zax tP zO0 K)
def zAl (t13 t14 t15:AV) (H:zaa) (K:Kt):Prop:=ALoop tP zr8 (zAi K) (zhN t13 t14 t15) H
def zlW (t13 t14 t15 t30 t31 t32:AV):List AV:=ux 13 (t13::t14::t15::ux 14 (t30::t31::t32::ux 26 []))
def zAo:List Bool:=zdT 9
noncomputable def zr9:Code:=zaq [1,1,0,0,1,1,1,0,0] zr8
def zAj (K:Kt) (Kb4:Lt):AExit→List AV→zaa→Prop:=zar tP zdT [1,1,0,0,1,1,1,0] zr8 (zb0 zAn Kb4 (zAi K))
def zAm (t13 t14 t15 t30 t31 t32:AV) (H:zaa) (K:Kt) (Kb4:Lt):Prop:=ALoop tP zr9 (zAj K Kb4) (zlW t13 t14 t15 t30 t31 t32) H
def zlV (t7 t13 t14 t15 t30 t31 t32 t47 t48 t49:AV):List AV:=ux 7 (t7::ux 5 (t13::t14::t15::ux 14 (t30::t31::t32::ux 14 (t47::t48::t49::ux 9 []))))
def zOY:List Bool:=zdT 15
noncomputable def zOU:Code:=zaq [1,1,0,0,1,1,1,1,0,0] zr9
def zOT (K:Kt) (Kb4:Lt) (Kb9:Lt):AExit→List AV→zaa→Prop:=zar tP zdT [1,1,0,0,1,1,1,1,0] zr9 (zb0 zAo Kb9 (zAj K Kb4))
def zAk (t7 t13 t14 t15 t30 t31 t32 t47 t48 t49:AV) (H:zaa) (K:Kt) (Kb4:Lt) (Kb9:Lt):Prop:=ALoop tP zOU (zOT K Kb4 Kb9) (zlV t7 t13 t14 t15 t30 t31 t32 t47 t48 t49) H
def zr4 (t7 t13 t14 t15 t30 t31 t32 t47 t48 t49:AV) (H:zaa) (K:Kt) (Kb4:Lt) (Kb9:Lt) (Kb15:Lt):Prop:=
 zab .lss false t49 t48 fun t50=>
 zag t50
 (zai 3 t47 t49 fun t51=>
 zae true 3 t51 H fun t52=>
 zay [(.int .i64 0),(.int .i64 0),.snil] H fun t9 H=>
 zan 3 t9 t52 H fun H=>
 zae true 3 t9 H fun t53=>
 ACalls tP zg9 [t53,t7] H fun t54 H=>
 aUn .not t54 fun t55=>
 zag t55
 (K (.bool false) H)
 (zab .add false t49 (.int .i64 1) fun t56=>
 Kb15 (zlV t7 t13 t14 t15 t30 t31 t32 t47 t48 t56) H))
 (zab .add false t32 (.int .i64 1) fun t57=>
 Kb9 (zlW t13 t14 t15 t30 t31 t57) H)
def zr6 (t13 t14 t15 t30 t31 t32:AV) (H:zaa) (K:Kt) (Kb4:Lt) (Kb9:Lt):Prop:=
 zab .lss false t32 t31 fun t33=>
 zag t33
 (zai 2 t30 t32 fun t34=>
 zae true 2 t34 H fun t35=>
 zay [(.str []),.snil] H fun t6 H=>
 zan 2 t6 t35 H fun H=>
 zaf 0 t6 fun t36=>
 zae false 1 t36 H fun t37=>
 zah 0 t37 fun t38=>
 zab .gtr false t38 (.int .i64 40) fun t39=>
 zac t39 false H (fun K'=>zaf 1 t6 (K' · H)) fun t41 H=>
 zac t39 false H (fun K'=>zae false 1 t41 H (K' · H)) fun t42 H=>
 zac t39 false H (fun K'=>zah 1 t42 (K' · H)) fun t43 H=>
 zac t39 false H (fun K'=>zab .gtr false t43 (.int .i64 8) (K' · H)) fun t44 H=>
 zaj t39 (.bool true) t44 fun t45=>
 zag t45
 (K (.bool false) H)
 (zay [(.int .i64 0)] H fun t7 H=>
 zan 1 t7 (.int .i64 20) H fun H=>
 zaf 1 t6 fun t46=>
 zae false 1 t46 H fun t47=>
 zah 1 t47 fun t48=>
 zAk t7 t13 t14 t15 t30 t31 t32 t47 t48 (.int .i64 0) H K Kb4 Kb9))
 (zab .add false t15 (.int .i64 1) fun t58=>
 Kb4 (zhN t13 t14 t58) H)
def zr5 (t13 t14 t15:AV) (H:zaa) (K:Kt) (Kb4:Lt):Prop:=
 zab .lss false t15 t14 fun t16=>
 zag t16
 (zai 3 t13 t15 fun t17=>
 zae true 3 t17 H fun t18=>
 zay [(.str []),(.int .i64 0),.snil] H fun t4 H=>
 zan 3 t4 t18 H fun H=>
 zaf 0 t4 fun t19=>
 zae false 1 t19 H fun t20=>
 zah 0 t20 fun t21=>
 zab .gtr false t21 (.int .i64 40) fun t22=>
 zac t22 false H (fun K'=>zaf 2 t4 (K' · H)) fun t24 H=>
 zac t22 false H (fun K'=>zae false 1 t24 H (K' · H)) fun t25 H=>
 zac t22 false H (fun K'=>zah 1 t25 (K' · H)) fun t26 H=>
 zac t22 false H (fun K'=>zab .gtr false t26 (.int .i64 10) (K' · H)) fun t27 H=>
 zaj t22 (.bool true) t27 fun t28=>
 zag t28
 (K (.bool false) H)
 (zaf 2 t4 fun t29=>
 zae false 1 t29 H fun t30=>
 zah 1 t30 fun t31=>
 zAm t13 t14 t15 t30 t31 (.int .i64 0) H K Kb4))
 (K (.bool true) H)
def zr3 (t0:AV) (H:zaa) (K:Kt):Prop:=
 zah 1 t0 fun t11=>
 zab .gtr false t11 (.int .i64 14) fun t12=>
 zag t12
 (K (.bool false) H)
 (zah 1 t0 fun t14=>
 zAl t0 t14 (.int .i64 0) H K)
theorem zOV {t7 t13 t14 t15 t30 t31 t32 t47 t48 t49:AV} {H:zaa} {K:Kt} {Kb4:Lt} {Kb9:Lt} (Inv:Nat→AV→zaa→Prop) (n:Nat) (h0:HSc H→Inv n t49 H)
  (round:Rd1 (fun t49=>zlV t7 t13 t14 t15 t30 t31 t32 t47 t48 t49) (fun t49=>fun H Kb15=>zr4 t7 t13 t14 t15 t30 t31 t32 t47 t48 t49 H K Kb4 Kb9 Kb15) H Inv):zAk t7 t13 t14 t15 t30 t31 t32 t47 t48 t49 H K Kb4 Kb9:=
 lp1 (M:=zdT) zOY t49 (by kernel_rfl) Inv n h0 round
theorem zOX {t13 t14 t15 t30 t31 t32:AV} {H:zaa} {K:Kt} {Kb4:Lt} (Inv:Nat→AV→zaa→Prop) (n:Nat) (h0:HSc H→Inv n t32 H)
  (round:Rd1 (fun t32=>zlW t13 t14 t15 t30 t31 t32) (fun t32=>fun H Kb9=>zr6 t13 t14 t15 t30 t31 t32 H K Kb4 Kb9) H Inv):zAm t13 t14 t15 t30 t31 t32 H K Kb4:=
 lp1 (M:=zdT) zAo t32 (by kernel_rfl) Inv n h0 round
theorem zOW {t13 t14 t15:AV} {H:zaa} {K:Kt} (Inv:Nat→AV→zaa→Prop) (n:Nat) (h0:HSc H→Inv n t15 H)
  (round:Rd1 (fun t15=>zhN t13 t14 t15) (fun t15=>fun H Kb4=>zr5 t13 t14 t15 H K Kb4) H Inv):zAl t13 t14 t15 H K:=
 lp1 (M:=zdT) zAn t15 (by kernel_rfl) Inv n h0 round
theorem zOZ {t0:AV} {H:zaa} {K:Kt} (h:HSc H→zr3 t0 H K):ACalls tP zoD [t0] H K:=
 zao (M:=zdT) Tryz.func37 (c:=zr7) (by kernel_rfl) (fun hs=>Eq.mpr (by kernel_rfl) (h hs))
def zHT (_:Nat):List Bool:=[]
noncomputable def zHU:Code:=Tryz.f123.body.getD .skip
def zxX (t0 t1 t2:AV) (H:zaa) (K:Kt):Prop:=
 zav t1 H fun t4 H=>
 zas [.snil,(.int .i64 0),(.int .i64 0)] [(0,1),(1,1),(2,1)] [(0,t0),(1,t2),(2,(.int .i64 200))] fun t10=>
 zav t10 H fun t11 H=>
 zae true 3 t4 H fun t13=>
 ACalls tP zix [t11,t13] H fun t14 H=>
 K t14 H
theorem zHV {t0 t1 t2:AV} {H:zaa} {K:Kt} (h:HSc H→zxX t0 t1 t2 H K):ACalls tP zgY [t0,t1,t2] H K:=
 zao (M:=zHT) Tryz.func123 (c:=zHU) (by kernel_rfl) (fun hs=>Eq.mpr (by kernel_rfl) (h hs))
def zei:Nat→List Bool
 | 171022=>rl false [2,2,16,1,53,1,34]
 | 150010=>rl false [2,2,1,2,13,2,87]
 | 100007=>rl false [2,2,1,2,13,1,88]
 | 100002=>rl false [2,2,105]
 | _=>[]
noncomputable def zej:Code:=Tryz.f166.body.getD .skip
noncomputable def zkZ:List ResultVar:=Tryz.f166.results.toList
def zgb (t2 t3 t5 t6:AV) (H:zaa) (K:Kt):Prop:=
 zaf 0 t3 fun t79=>
 zae false 1 t79 H fun t80=>
 zab .neq false t80 (.int .i64 4) fun t81=>
 zac t81 true H (fun K'=>zaf 0 t3 (K' · H)) fun t83 H=>
 zac t81 true H (fun K'=>zae false 1 t83 H (K' · H)) fun t84 H=>
 zac t81 true H (fun K'=>zab .neq false t84 (.int .i64 5) (K' · H)) fun t85 H=>
 zaj t81 t85 (.bool false) fun t86=>
 zac t86 true H (fun K'=>zaf 1 t3 (K' · H)) fun t88 H=>
 zac t86 true H (fun K'=>zae false 1 t88 H (K' · H)) fun t89 H=>
 zac t86 true H (fun K'=>zab .neq false t89 (.int .i64 0) (K' · H)) fun t90 H=>
 zaj t86 t90 (.bool false) fun t91=>
 zag t91
 (K (.bool false) H)
 (zaf 2 t3 fun t92=>
 zae false 1 t92 H fun t93=>
 zah 1 t93 fun t94=>
 zab .lss false t94 t5 fun t96=>
 zac t96 false H (fun K'=>zaf 2 t3 (K' · H)) fun t98 H=>
 zac t96 false H (fun K'=>zae false 1 t98 H (K' · H)) fun t99 H=>
 zac t96 false H (fun K'=>zah 1 t99 (K' · H)) fun t100 H=>
 zac t96 false H (fun K'=>K' t6 H) fun t101 H=>
 zac t96 false H (fun K'=>zab .gtr false t100 t101 (K' · H)) fun t102 H=>
 zaj t96 (.bool true) t102 fun t103=>
 zag t103
 (K (.bool false) H)
 (zaf 2 t3 fun t104=>
 zae false 1 t104 H fun t105=>
 zcq ziH [t2] fun t106=>
 ACalls tP ze8 [t105,t106] H fun t107 H=>
 aUn .not t107 fun t108=>
 K t108 H))
def zdn (t2 t3 t5 t6:AV) (H:zaa) (K:Kt):Prop:=
 zgb t2 t3 t5 t6 H K
noncomputable def zK0:Code:=zaq [1,1,1,1,0,1,0,1,1,1,1,1,1,1,1,1] zej
def zKZ (K:Kt):AExit→List AV→zaa→Prop:=zar tP zei [1,1,1,1,0,1,0,1,1,1,1,1,1,1,1,1] zej (zax tP zkZ K)
def zqZ (t2 t3 t20 t74:AV) (H:zaa) (K:Kt):Prop:=AWp tP zK0 (zKZ K) (ux 2 (t2::t3::ux 16 (t20::ux 53 (t74::ux 34 [])))) H
def zkY (t2 t3 t20 t74:AV) (H:zaa) (K:Kt):Prop:=
 zag t74
 (zdn t2 t3 (.int .i64 1) (.int .i64 1) H K)
 (zab .eql false t20 (.int .i64 9) fun t78=>
 zag t78
 (zdn t2 t3 (.int .i64 1) (.int .i64 7) H K)
 (K (.bool false) H))
noncomputable def zKY:Code:=zaq [1,1,1,1,0,1,0,1] zej
def zKX (K:Kt):AExit→List AV→zaa→Prop:=zar tP zei [1,1,1,1,0,1,0,1] zej (zax tP zkZ K)
def zkX (t2 t3 t5 t6 t20 t21:AV) (H:zaa) (K:Kt):Prop:=AWp tP zKY (zKX K) (ux 2 (t2::t3::ux 1 (t5::t6::ux 13 (t20::t21::ux 87 [])))) H
def zdB (t2 t3 t5 t6 t20 t21:AV) (H:zaa) (K:Kt):Prop:=
 zag t21
 (zdn t2 t3 t5 t6 H K)
 (zab .eql false t20 (.int .i64 4) fun t26=>
 zag t26
 (zad H (fun K'=>zaf 1 t3 (K' · H)) fun t27=>
 zad H (fun K'=>zal false 1 t27 H (K' · H)) fun t28=>
 zad H (fun K'=>zab .lss false t28 (.int .i64 0) (K' · H)) fun t29=>
 zad H (fun K'=>K' t29 H) fun t30=>
 zac t30 false H (fun K'=>zad H (fun K''=>zaf 1 t3 (K'' · H)) (K' · H)) fun t31 H=>
 zac t30 false H (fun K'=>zad H (fun K''=>zal false 1 t31 H (K'' · H)) (K' · H)) fun t32 H=>
 zac t30 false H (fun K'=>zad H (fun K''=>zal false 1 t2 H (K'' · H)) (K' · H)) fun t33 H=>
 zac t30 false H (fun K'=>zad H (fun K''=>za2 t33 (K'' · H)) (K' · H)) fun t34 H=>
 zac t30 false H (fun K'=>zad H (fun K''=>zaf 1 t34 (K'' · H)) (K' · H)) fun t35 H=>
 zac t30 false H (fun K'=>zad H (fun K''=>zal false 1 t35 H (K'' · H)) (K' · H)) fun t36 H=>
 zac t30 false H (fun K'=>zad H (fun K''=>zab .geq false t32 t36 (K'' · H)) (K' · H)) fun t37 H=>
 zad H (fun K'=>zaj t30 (.bool true) t37 (K' · H)) fun t38=>
 zag t38
 (K (.bool false) H)
 (zdn t2 t3 t5 t6 H K))
 (zab .eql false t20 (.int .i64 5) fun t40=>
 zag t40
 (zad H (fun K'=>zaf 1 t3 (K' · H)) fun t41=>
 zad H (fun K'=>zal false 1 t41 H (K' · H)) fun t42=>
 zad H (fun K'=>zab .lss false t42 (.int .i64 0) (K' · H)) fun t43=>
 zad H (fun K'=>K' t43 H) fun t44=>
 zac t44 false H (fun K'=>zad H (fun K''=>zaf 1 t3 (K'' · H)) (K' · H)) fun t45 H=>
 zac t44 false H (fun K'=>zad H (fun K''=>zal false 1 t45 H (K'' · H)) (K' · H)) fun t46 H=>
 zac t44 false H (fun K'=>zad H (fun K''=>zal false 1 t2 H (K'' · H)) (K' · H)) fun t47 H=>
 zac t44 false H (fun K'=>zad H (fun K''=>za2 t47 (K'' · H)) (K' · H)) fun t48 H=>
 zac t44 false H (fun K'=>zad H (fun K''=>zaf 0 t48 (K'' · H)) (K' · H)) fun t49 H=>
 zac t44 false H (fun K'=>zad H (fun K''=>zal false 1 t49 H (K'' · H)) (K' · H)) fun t50 H=>
 zac t44 false H (fun K'=>zad H (fun K''=>zah 1 t50 (K'' · H)) (K' · H)) fun t51 H=>
 zac t44 false H (fun K'=>zad H (fun K''=>zab .geq false t46 t51 (K'' · H)) (K' · H)) fun t52 H=>
 zad H (fun K'=>zaj t44 (.bool true) t52 (K' · H)) fun t53=>
 zag t53
 (K (.bool false) H)
 (zad H (fun K'=>zal false 1 t2 H (K' · H)) fun t54=>
 zad H (fun K'=>za2 t54 (K' · H)) fun t55=>
 zad H (fun K'=>zaf 0 t55 (K' · H)) fun t56=>
 zad H (fun K'=>zal false 1 t56 H (K' · H)) fun t57=>
 zad H (fun K'=>zaf 1 t3 (K' · H)) fun t58=>
 zad H (fun K'=>zal false 1 t58 H (K' · H)) fun t59=>
 zad H (fun K'=>zai 3 t57 t59 (K' · H)) fun t60=>
 zad H (fun K'=>zaf 1 t60 (K' · H)) fun t61=>
 zad H (fun K'=>zal false 1 t61 H (K' · H)) fun t62=>
 zad H (fun K'=>zal false 1 t2 H (K' · H)) fun t63=>
 zad H (fun K'=>za2 t63 (K' · H)) fun t64=>
 zad H (fun K'=>zaf 0 t64 (K' · H)) fun t65=>
 zad H (fun K'=>zal false 1 t65 H (K' · H)) fun t66=>
 zad H (fun K'=>zaf 1 t3 (K' · H)) fun t67=>
 zad H (fun K'=>zal false 1 t67 H (K' · H)) fun t68=>
 zad H (fun K'=>zai 3 t66 t68 (K' · H)) fun t69=>
 zad H (fun K'=>zaf 1 t69 (K' · H)) fun t70=>
 zad H (fun K'=>zal false 1 t70 H (K' · H)) fun t71=>
 zad H (fun K'=>K' t62 H) fun t5=>
 zad H (fun K'=>K' t71 H) fun t6=>
 zdn t2 t3 t5 t6 H K))
 (zab .eql false t20 (.int .i64 6) fun t73=>
 zag t73
 (zdn t2 t3 (.int .i64 2) (.int .i64 6) H K)
 (zab .eql false t20 (.int .i64 7) fun t75=>
 zag t75
 (zqZ t2 t3 t20 t75 H K)
 (zab .eql false t20 (.int .i64 8) fun t76=>
 zqZ t2 t3 t20 t76 H K)))))
noncomputable def zKV:Code:=zaq [1,1,1,1,0,1] zej
def zKU (K:Kt):AExit→List AV→zaa→Prop:=zar tP zei [1,1,1,1,0,1] zej (zax tP zkZ K)
def zy8 (t2 t3 t5 t6 t20:AV) (H:zaa) (K:Kt):Prop:=AWp tP zKV (zKU K) (ux 2 (t2::t3::ux 1 (t5::t6::ux 13 (t20::ux 88 [])))) H
def zqY (t2 t3 t5 t6 t20:AV) (H:zaa) (K:Kt):Prop:=
 zab .eql false t20 (.int .i64 1) fun t22=>
 zag t22
 (zkX t2 t3 t5 t6 t20 t22 H K)
 (zab .eql false t20 (.int .i64 2) fun t23=>
 zag t23
 (zkX t2 t3 t5 t6 t20 t23 H K)
 (zab .eql false t20 (.int .i64 3) fun t24=>
 zkX t2 t3 t5 t6 t20 t24 H K))
noncomputable def zKS:Code:=zaq [1,1] zej
def zKR (K:Kt):AExit→List AV→zaa→Prop:=zar tP zei [1,1] zej (zax tP zkZ K)
def zqW (t2 t3:AV) (H:zaa) (K:Kt):Prop:=AWp tP zKS (zKR K) (ux 2 (t2::t3::ux 105 [])) H
def zqX (t2 t3:AV) (H:zaa) (K:Kt):Prop:=
 zae false 1 t2 H fun t14=>
 za2 t14 fun t15=>
 zaf 2 t15 fun t16=>
 zae false 1 t16 H fun t17=>
 zab .lss false t17 (.int .i64 0) fun t18=>
 zag t18
 (K (.bool false) H)
 (zaf 0 t3 fun t19=>
 zae false 1 t19 H fun t20=>
 zy8 t2 t3 (.int .i64 0) (.int .i64 0) t20 H K)
def zy7 (t0 t1:AV) (H:zaa) (K:Kt):Prop:=
 zav t0 H fun t2 H=>
 zav t1 H fun t3 H=>
 zae false 1 t2 H fun t7=>
 za2 t7 fun t8=>
 zaf 2 t8 fun t9=>
 zae false 1 t9 H fun t10=>
 zab .sub false t10 (.int .i64 1) fun t11=>
 za2 t7 fun t12=>
 zaf 2 t12 fun t13=>
 zan 1 t13 t11 H fun H=>
 zqW t2 t3 H K
theorem zza {t2 t3 t20 t74:AV} {H:zaa} {K:Kt} (h:HSc H→zkY t2 t3 t20 t74 H K):zqZ t2 t3 t20 t74 H K:=
 fun B w G a hH hF hd=>zfI (M:=zei) _ _ _ _ (Eq.mpr (by kernel_rfl) (h hH.sc)) B w G a hH hF hd
theorem zy9 {t2 t3 t5 t6 t20 t21:AV} {H:zaa} {K:Kt} (h:HSc H→zdB t2 t3 t5 t6 t20 t21 H K):zkX t2 t3 t5 t6 t20 t21 H K:=
 fun B w G a hH hF hd=>zfI (M:=zei) _ _ _ _ (Eq.mpr (by kernel_rfl) (h hH.sc)) B w G a hH hF hd
theorem zKW {t2 t3 t5 t6 t20:AV} {H:zaa} {K:Kt} (h:HSc H→zqY t2 t3 t5 t6 t20 H K):zy8 t2 t3 t5 t6 t20 H K:=
 fun B w G a hH hF hd=>zfI (M:=zei) _ _ _ _ (Eq.mpr (by kernel_rfl) (h hH.sc)) B w G a hH hF hd
theorem zKT {t2 t3:AV} {H:zaa} {K:Kt} (h:HSc H→zqX t2 t3 H K):zqW t2 t3 H K:=
 fun B w G a hH hF hd=>zfI (M:=zei) _ _ _ _ (Eq.mpr (by kernel_rfl) (h hH.sc)) B w G a hH hF hd
theorem zK1 {t0 t1:AV} {H:zaa} {K:Kt} (h:HSc H→zy7 t0 t1 H K):ACalls tP zix [t0,t1] H K:=
 zao (M:=zei) Tryz.func166 (c:=zej) (by kernel_rfl) (fun hs=>Eq.mpr (by kernel_rfl) (h hs))
def zM2 (_:Nat):List Bool:=[]
noncomputable def zM3:Code:=Tryz.f210.body.getD .skip
def zzN (t0 t1:AV) (H:zaa) (K:Kt):Prop:=
 zav t0 H fun t2 H=>
 zae false 1 t1 H fun t4=>
 zae true 3 t2 H fun t5=>
 ACalls tP zix [t4,t5] H fun t6 H=>
 aUn .not t6 fun t7=>
 K t7 H
theorem zM4 {t0 t1:AV} {H:zaa} {K:Kt} (h:HSc H→zzN t0 t1 H K):ACalls tP ziH [t0,t1] H K:=
 zao (M:=zM2) Tryz.func210 (c:=zM3) (by kernel_rfl) (fun hs=>Eq.mpr (by kernel_rfl) (h hs))
def zMZ (_:Nat):List Bool:=[]
noncomputable def zM0:Code:=Tryz.f202.body.getD .skip
def zzM (t0 t1:AV) (H:zaa) (K:Kt):Prop:=
 ACalls tP zou [t0,t1] H fun t7 H=>
 zab .geq false t7 (.int .i64 0) fun t8=>
 K t8 H
theorem zM1 {t0 t1:AV} {H:zaa} {K:Kt} (h:HSc H→zzM t0 t1 H K):ACalls tP ze8 [t0,t1] H K:=
 zao (M:=zMZ) Tryz.func202 (c:=zM0) (by kernel_rfl) (fun hs=>Eq.mpr (by kernel_rfl) (h hs))
def zlN:Nat→List Bool
 | 2=>rl false [0,2,5,2,10]
 | _=>[]
noncomputable def zrW:Code:=Tryz.f229.body.getD .skip
noncomputable def zNZ:List ResultVar:=Tryz.f229.results.toList
def zlO (t0 t1 t7 t8:AV):List AV:=t0::t1::ux 5 (t7::t8::ux 10 [])
def zNX:List Bool:=zlN 2
noncomputable def zNV:Code:=zaq [1,0,1,0,0] zrW
def zNU (K:Kt):AExit→List AV→zaa→Prop:=zar tP zlN [1,0,1,0] zrW (zax tP zNZ K)
def zz3 (t0 t1 t7 t8:AV) (H:zaa) (K:Kt):Prop:=ALoop tP zNV (zNU K) (zlO t0 t1 t7 t8) H
def zrV (t0 t1 t7 t8:AV) (H:zaa) (K:Kt) (Kb2:Lt):Prop:=
 zab .lss false t8 t7 fun t9=>
 zag t9
 (zai 3 t0 t8 fun t14=>
 zae true 3 t14 H fun t15=>
 aCallV tP t1 [t15] H fun t16 H=>
 zag t16
 (K t8 H)
 (zab .add false t8 (.int .i64 1) fun t18=>
 Kb2 (zlO t0 t1 t7 t18) H))
 (K (.int .i64 (-1)) H)
def zz2 (t0 t1:AV) (H:zaa) (K:Kt):Prop:=
 zah 1 t0 fun t7=>
 zz3 t0 t1 t7 (.int .i64 0) H K
theorem zNW {t0 t1 t7 t8:AV} {H:zaa} {K:Kt} (Inv:Nat→AV→zaa→Prop) (n:Nat) (h0:HSc H→Inv n t8 H)
  (round:Rd1 (fun t8=>zlO t0 t1 t7 t8) (fun t8=>fun H Kb2=>zrV t0 t1 t7 t8 H K Kb2) H Inv):zz3 t0 t1 t7 t8 H K:=
 lp1 (M:=zlN) zNX t8 (by kernel_rfl) Inv n h0 round
theorem zNY {t0 t1:AV} {H:zaa} {K:Kt} (h:HSc H→zz2 t0 t1 H K):ACalls tP zou [t0,t1] H K:=
 zao (M:=zlN) Tryz.func229 (c:=zrW) (by kernel_rfl) (fun hs=>Eq.mpr (by kernel_rfl) (h hs))
def zdS:Nat→List Bool
 | 8=>rl false [2,1,1,1,3,2,49,3,46]
 | 13=>rl false [2,1,1,1,3,2,67,3,28]
 | 20=>rl false [4,1,9,1,78,3,12]
 | _=>[]
noncomputable def zfu:Code:=Tryz.f167.body.getD .skip
noncomputable def zq4:List ResultVar:=Tryz.f167.results.toList
def zk2 (t2 t4 t8 t9 t59 t60 t61:AV):List AV:=ux 2 (t2::ux 1 (t4::ux 3 (t8::t9::ux 49 (t59::t60::t61::ux 46 []))))
def zLd:List Bool:=zdS 8
noncomputable def zK7:Code:=zaq [1,1,1,1,1,0,1,0,0] zfu
def zK4 (K:Kt):AExit→List AV→zaa→Prop:=zar tP zdS [1,1,1,1,1,0,1,0] zfu (zax tP zq4 K)
def zzd (t2 t4 t8 t9 t59 t60 t61:AV) (H:zaa) (K:Kt):Prop:=ALoop tP zK7 (zK4 K) (zk2 t2 t4 t8 t9 t59 t60 t61) H
def zk0 (t2 t4 t8 t9 t77 t78 t79:AV):List AV:=ux 2 (t2::ux 1 (t4::ux 3 (t8::t9::ux 67 (t77::t78::t79::ux 28 []))))
def zLb:List Bool:=zdS 13
noncomputable def zK5:Code:=zaq [1,1,1,1,1,1,0,1,0,0] zfu
def zK2 (K:Kt):AExit→List AV→zaa→Prop:=zar tP zdS [1,1,1,1,1,1,0,1,0] zfu (zax tP zq4 K)
def zzc (t2 t4 t8 t9 t77 t78 t79:AV) (H:zaa) (K:Kt):Prop:=ALoop tP zK5 (zK2 K) (zk0 t2 t4 t8 t9 t77 t78 t79) H
def zk1 (t4 t14 t93 t94 t95:AV):List AV:=ux 4 (t4::ux 9 (t14::ux 78 (t93::t94::t95::ux 12 [])))
def zLc:List Bool:=zdS 20
noncomputable def zK6:Code:=zaq [1,1,1,1,1,1,1,1,0,1,0,0] zfu
def zK3 (K:Kt):AExit→List AV→zaa→Prop:=zar tP zdS [1,1,1,1,1,1,1,1,0,1,0] zfu (zax tP zq4 K)
def zk3 (t4 t14 t93 t94 t95:AV) (H:zaa) (K:Kt):Prop:=ALoop tP zK6 (zK3 K) (zk1 t4 t14 t93 t94 t95) H
def zq1 (t4 t14 t93 t94 t95:AV) (H:zaa) (K:Kt) (Kb20:Lt):Prop:=
 zab .lss false t95 t94 fun t96=>
 zag t96
 (zai 3 t93 t95 fun t97=>
 zae true 3 t97 H fun t98=>
 zay [(.int .i64 0),(.int .i64 0),.snil] H fun t16 H=>
 zan 3 t16 t98 H fun H=>
 zae true 3 t16 H fun t100=>
 zaf 2 t4 fun t101=>
 zae false 1 t101 H fun t102=>
 ACalls tP zg3 [t100,t102] H fun t103 H=>
 zau 3 [(.int .i64 0),(.int .i64 0),.snil] 1 [(0,t103)] fun t104=>
 zaw zaV 3 40 t14 t104 H fun t105 H=>
 zab .add false t95 (.int .i64 1) fun t106=>
 Kb20 (zk1 t4 t105 t93 t94 t106) H)
 (zaC [t14,(.bool true)] (K · H))
def zq0 (t2 t4 t8 t9 t77 t78 t79:AV) (H:zaa) (K:Kt) (Kb13:Lt):Prop:=
 zab .lss false t79 t78 fun t80=>
 zag t80
 (zai 3 t77 t79 fun t81=>
 zae true 3 t81 H fun t82=>
 zay [(.int .i64 0),(.int .i64 0),.snil] H fun t13 H=>
 zan 3 t13 t82 H fun H=>
 zae true 3 t13 H fun t83=>
 ACalls tP ziJ [t83,t9] H fun t85 H=>
 zab .gtr false t85 (.int .i64 200) fun t86=>
 zag t86
 (zaC [.snil,(.bool false)] (K · H))
 (zab .add false t79 (.int .i64 1) fun t87=>
 Kb13 (zk0 t2 t4 t8 t9 t77 t78 t87) H))
 (zaf 2 t8 fun t88=>
 zae false 1 t88 H fun t89=>
 zai 2 t89 t2 fun t91=>
 zaf 1 t91 fun t92=>
 zae false 1 t92 H fun t93=>
 zah 1 t93 fun t94=>
 zk3 t4 .snil t93 t94 (.int .i64 0) H K)
def zq2 (t2 t4 t8 t9 t59 t60 t61:AV) (H:zaa) (K:Kt) (Kb8:Lt):Prop:=
 zab .lss false t61 t60 fun t62=>
 zag t62
 (zai 3 t59 t61 fun t64=>
 zae true 3 t64 H fun t65=>
 zay [(.int .i64 0),(.int .i64 0),.snil] H fun t11 H=>
 zan 3 t11 t65 H fun H=>
 zae true 3 t11 H fun t68=>
 ACalls tP ziI [t68] H fun t69 H=>
 zai 1 t9 t61 fun t70=>
 zan 1 t70 t69 H fun H=>
 zab .add false t61 (.int .i64 1) fun t71=>
 Kb8 (zk2 t2 t4 t8 t9 t59 t60 t71) H)
 (zaf 2 t8 fun t72=>
 zae false 1 t72 H fun t73=>
 zai 2 t73 t2 fun t75=>
 zaf 1 t75 fun t76=>
 zae false 1 t76 H fun t77=>
 zah 1 t77 fun t78=>
 zzc t2 t4 t8 t9 t77 t78 (.int .i64 0) H K)
def zzb (t0 t1 t2:AV) (H:zaa) (K:Kt):Prop:=
 zav t1 H fun t4 H=>
 zaf 0 t4 fun t17=>
 zae false 1 t17 H fun t18=>
 zab .neq false t18 (.int .i64 5) fun t19=>
 zac t19 false H (fun K'=>zaf 1 t4 (K' · H)) fun t21 H=>
 zac t19 false H (fun K'=>zae false 1 t21 H (K' · H)) fun t22 H=>
 zac t19 false H (fun K'=>zab .lss false t22 (.int .i64 0) (K' · H)) fun t23 H=>
 zaj t19 (.bool true) t23 fun t24=>
 zac t24 false H (fun K'=>zaf 1 t4 (K' · H)) fun t26 H=>
 zac t24 false H (fun K'=>zae false 1 t26 H (K' · H)) fun t27 H=>
 zac t24 false H (fun K'=>K' t0 H) fun t28 H=>
 zac t24 false H (fun K'=>zah 1 t28 (K' · H)) fun t29 H=>
 zac t24 false H (fun K'=>zab .geq false t27 t29 (K' · H)) fun t30 H=>
 zaj t24 (.bool true) t30 fun t31=>
 zag t31
 (zaC [.snil,(.bool false)] (K · H))
 (zaf 1 t4 fun t33=>
 zae false 1 t33 H fun t34=>
 zai 3 t0 t34 fun t35=>
 zae true 3 t35 H fun t36=>
 zay [(.str []),(.int .i64 0),.snil] H fun t8 H=>
 zan 3 t8 t36 H fun H=>
 zaf 2 t4 fun t37=>
 zae false 1 t37 H fun t38=>
 zah 1 t38 fun t39=>
 zaf 1 t8 fun t40=>
 zae false 1 t40 H fun t41=>
 zab .neq false t39 t41 fun t42=>
 zac t42 false H (fun K'=>K' t2 H) fun t44 H=>
 zac t42 false H (fun K'=>zab .lss false t44 (.int .i64 0) (K' · H)) fun t45 H=>
 zaj t42 (.bool true) t45 fun t46=>
 zac t46 false H (fun K'=>K' t2 H) fun t48 H=>
 zac t46 false H (fun K'=>zaf 2 t8 (K' · H)) fun t49 H=>
 zac t46 false H (fun K'=>zae false 1 t49 H (K' · H)) fun t50 H=>
 zac t46 false H (fun K'=>zah 1 t50 (K' · H)) fun t51 H=>
 zac t46 false H (fun K'=>zab .geq false t48 t51 (K' · H)) fun t52 H=>
 zaj t46 (.bool true) t52 fun t53=>
 zag t53
 (zaC [.snil,(.bool false)] (K · H))
 (zaf 2 t4 fun t54=>
 zae false 1 t54 H fun t55=>
 zah 1 t55 fun t56=>
 zbh 8 [(.int .i64 0)] t56 t56 H fun t57 H=>
 zaf 2 t4 fun t58=>
 zae false 1 t58 H fun t59=>
 zah 1 t59 fun t60=>
 zzd t2 t4 t8 t57 t59 t60 (.int .i64 0) H K))
theorem zK9 {t4 t14 t93 t94 t95:AV} {H:zaa} {K:Kt} (Inv:Nat→AV→AV→zaa→Prop) (n:Nat) (h0:HSc H→Inv n t14 t95 H)
  (round:Rd2 (fun t14=>fun t95=>zk1 t4 t14 t93 t94 t95) (fun t14=>fun t95=>fun H Kb20=>zq1 t4 t14 t93 t94 t95 H K Kb20) H Inv):zk3 t4 t14 t93 t94 t95 H K:=
 lp2 (M:=zdS) zLc t14 t95 (by kernel_rfl) Inv n h0 round
theorem zK8 {t2 t4 t8 t9 t77 t78 t79:AV} {H:zaa} {K:Kt} (Inv:Nat→AV→zaa→Prop) (n:Nat) (h0:HSc H→Inv n t79 H)
  (round:Rd1 (fun t79=>zk0 t2 t4 t8 t9 t77 t78 t79) (fun t79=>fun H Kb13=>zq0 t2 t4 t8 t9 t77 t78 t79 H K Kb13) H Inv):zzc t2 t4 t8 t9 t77 t78 t79 H K:=
 lp1 (M:=zdS) zLb t79 (by kernel_rfl) Inv n h0 round
theorem zLa {t2 t4 t8 t9 t59 t60 t61:AV} {H:zaa} {K:Kt} (Inv:Nat→AV→zaa→Prop) (n:Nat) (h0:HSc H→Inv n t61 H)
  (round:Rd1 (fun t61=>zk2 t2 t4 t8 t9 t59 t60 t61) (fun t61=>fun H Kb8=>zq2 t2 t4 t8 t9 t59 t60 t61 H K Kb8) H Inv):zzd t2 t4 t8 t9 t59 t60 t61 H K:=
 lp1 (M:=zdS) zLd t61 (by kernel_rfl) Inv n h0 round
theorem zLe {t0 t1 t2:AV} {H:zaa} {K:Kt} (h:HSc H→zzb t0 t1 t2 H K):ACalls tP ziy [t0,t1,t2] H K:=
 zao (M:=zdS) Tryz.func167 (c:=zfu) (by kernel_rfl) (fun hs=>Eq.mpr (by kernel_rfl) (h hs))
def zlz:Nat→List Bool
 | 3=>rl false [3,1,3,3,9]
 | _=>[]
noncomputable def zrB:Code:=Tryz.f211.body.getD .skip
noncomputable def zNa:List ResultVar:=Tryz.f211.results.toList
def zlA (t3 t7 t8 t9:AV):List AV:=ux 3 (t3::ux 3 (t7::t8::t9::ux 9 []))
def zM8:List Bool:=zlz 3
noncomputable def zM6:Code:=zaq [1,1,0,1,0,0] zrB
def zM5 (K:Kt):AExit→List AV→zaa→Prop:=zar tP zlz [1,1,0,1,0] zrB (zax tP zNa K)
def zzP (t3 t7 t8 t9:AV) (H:zaa) (K:Kt):Prop:=ALoop tP zM6 (zM5 K) (zlA t3 t7 t8 t9) H
def zrA (t3 t7 t8 t9:AV) (H:zaa) (K:Kt) (Kb3:Lt):Prop:=
 zab .lss false t9 t8 fun t10=>
 zag t10
 (zai 3 t7 t9 fun t11=>
 zae true 3 t11 H fun t12=>
 zay [(.int .i64 0),(.int .i64 0),.snil] H fun t5 H=>
 zan 3 t5 t12 H fun H=>
 zae true 3 t5 H fun t14=>
 ACalls tP ziI [t14] H fun t15 H=>
 zab .add false t3 t15 fun t16=>
 zab .add false t9 (.int .i64 1) fun t17=>
 Kb3 (zlA t16 t7 t8 t17) H)
 (K t3 H)
def zzO (t0:AV) (H:zaa) (K:Kt):Prop:=
 zav t0 H fun t1 H=>
 zaf 2 t1 fun t6=>
 zae false 1 t6 H fun t7=>
 zah 1 t7 fun t8=>
 zzP (.int .i64 1) t7 t8 (.int .i64 0) H K
theorem zM7 {t3 t7 t8 t9:AV} {H:zaa} {K:Kt} (Inv:Nat→AV→AV→zaa→Prop) (n:Nat) (h0:HSc H→Inv n t3 t9 H)
  (round:Rd2 (fun t3=>fun t9=>zlA t3 t7 t8 t9) (fun t3=>fun t9=>fun H Kb3=>zrA t3 t7 t8 t9 H K Kb3) H Inv):zzP t3 t7 t8 t9 H K:=
 lp2 (M:=zlz) zM8 t3 t9 (by kernel_rfl) Inv n h0 round
theorem zM9 {t0:AV} {H:zaa} {K:Kt} (h:HSc H→zzO t0 H K):ACalls tP ziI [t0] H K:=
 zao (M:=zlz) Tryz.func211 (c:=zrB) (by kernel_rfl) (fun hs=>Eq.mpr (by kernel_rfl) (h hs))
def zlB:Nat→List Bool
 | 5=>rl false [1,1,3,1,23,3,12]
 | _=>[]
noncomputable def zrF:Code:=Tryz.f212.body.getD .skip
noncomputable def zNh:List ResultVar:=Tryz.f212.results.toList
def zlC (t1 t5 t29 t30 t31:AV):List AV:=ux 1 (t1::ux 3 (t5::ux 23 (t29::t30::t31::ux 12 [])))
def zNf:List Bool:=zlB 5
noncomputable def zNd:Code:=zaq [1,1,1,0,1,0,0] zrF
def zNc (K:Kt):AExit→List AV→zaa→Prop:=zar tP zlB [1,1,1,0,1,0] zrF (zax tP zNh K)
def zrH (t1 t5 t29 t30 t31:AV) (H:zaa) (K:Kt):Prop:=ALoop tP zNd (zNc K) (zlC t1 t5 t29 t30 t31) H
def zrG (t5:AV) (H:zaa) (K:Kt):Prop:=
 K t5 H
def zlD (t5:AV) (H:zaa) (K:Kt):Prop:=
 zrG t5 H K
def zrE (t1 t5 t29 t30 t31:AV) (H:zaa) (K:Kt) (Kb5:Lt):Prop:=
 zab .lss false t31 t30 fun t32=>
 zag t32
 (zai 3 t29 t31 fun t33=>
 zae true 3 t33 H fun t34=>
 zay [(.int .i64 0),(.int .i64 0),.snil] H fun t7 H=>
 zan 3 t7 t34 H fun H=>
 zae true 3 t7 H fun t36=>
 ACalls tP ziJ [t36,t1] H fun t38 H=>
 zab .add false t5 t38 fun t39=>
 zab .gtr false t39 (.int .i64 200) fun t41=>
 zag t41
 (zlD t39 H K)
 (zab .add false t31 (.int .i64 1) fun t42=>
 Kb5 (zlC t1 t39 t29 t30 t42) H))
 (zlD t5 H K)
def zrD (t0 t1:AV) (H:zaa) (K:Kt):Prop:=
 zav t0 H fun t2 H=>
 zaf 0 t2 fun t8=>
 zae false 1 t8 H fun t9=>
 zab .eql false t9 (.int .i64 4) fun t10=>
 zac t10 true H (fun K'=>zaf 1 t2 (K' · H)) fun t12 H=>
 zac t10 true H (fun K'=>zae false 1 t12 H (K' · H)) fun t13 H=>
 zac t10 true H (fun K'=>zab .geq false t13 (.int .i64 0) (K' · H)) fun t14 H=>
 zaj t10 t14 (.bool false) fun t15=>
 zac t15 true H (fun K'=>zaf 1 t2 (K' · H)) fun t17 H=>
 zac t15 true H (fun K'=>zae false 1 t17 H (K' · H)) fun t18 H=>
 zac t15 true H (fun K'=>K' t1 H) fun t19 H=>
 zac t15 true H (fun K'=>zah 1 t19 (K' · H)) fun t20 H=>
 zac t15 true H (fun K'=>zab .lss false t18 t20 (K' · H)) fun t21 H=>
 zaj t15 t21 (.bool false) fun t22=>
 zag t22
 (zaf 1 t2 fun t24=>
 zae false 1 t24 H fun t25=>
 zai 1 t1 t25 fun t26=>
 zae false 1 t26 H fun t27=>
 K t27 H)
 (zaf 2 t2 fun t28=>
 zae false 1 t28 H fun t29=>
 zah 1 t29 fun t30=>
 zrH t1 (.int .i64 1) t29 t30 (.int .i64 0) H K)
theorem zNe {t1 t5 t29 t30 t31:AV} {H:zaa} {K:Kt} (Inv:Nat→AV→AV→zaa→Prop) (n:Nat) (h0:HSc H→Inv n t5 t31 H)
  (round:Rd2 (fun t5=>fun t31=>zlC t1 t5 t29 t30 t31) (fun t5=>fun t31=>fun H Kb5=>zrE t1 t5 t29 t30 t31 H K Kb5) H Inv):zrH t1 t5 t29 t30 t31 H K:=
 lp2 (M:=zlB) zNf t5 t31 (by kernel_rfl) Inv n h0 round
theorem zNg {t0 t1:AV} {H:zaa} {K:Kt} (h:HSc H→zrD t0 t1 H K):ACalls tP ziJ [t0,t1] H K:=
 zao (M:=zlB) Tryz.func212 (c:=zrF) (by kernel_rfl) (fun hs=>Eq.mpr (by kernel_rfl) (h hs))
def zlE:Nat→List Bool
 | 5=>rl false [1,1,2,2,29,3,13]
 | _=>[]
noncomputable def zrK:Code:=Tryz.f213.body.getD .skip
noncomputable def zNo:List ResultVar:=Tryz.f213.results.toList
def zlF (t1 t4 t5 t35 t36 t37:AV):List AV:=ux 1 (t1::ux 2 (t4::t5::ux 29 (t35::t36::t37::ux 13 [])))
def zNm:List Bool:=zlE 5
noncomputable def zNk:Code:=zaq [1,1,1,0,1,0,0] zrK
def zNj (K:Kt):AExit→List AV→zaa→Prop:=zar tP zlE [1,1,1,0,1,0] zrK (zax tP zNo K)
def zhM (t1 t4 t5 t35 t36 t37:AV) (H:zaa) (K:Kt):Prop:=ALoop tP zNk (zNj K) (zlF t1 t4 t5 t35 t36 t37) H
def zrJ (t1 t4 t5 t35 t36 t37:AV) (H:zaa) (K:Kt) (Kb5:Lt):Prop:=
 zab .lss false t37 t36 fun t38=>
 zag t38
 (zai 3 t35 t37 fun t39=>
 zae true 3 t39 H fun t40=>
 zay [(.int .i64 0),(.int .i64 0),.snil] H fun t7 H=>
 zan 3 t7 t40 H fun H=>
 zad H (fun K'=>zaf 2 t5 (K' · H)) fun t41=>
 zad H (fun K'=>zal false 1 t41 H (K' · H)) fun t42=>
 zad H (fun K'=>zal true 3 t7 H (K' · H)) fun t43=>
 zad H (fun K'=>K' t1 H) fun t44=>
 zaF H (fun H K'=>ACalls tP zg3 [t43,t44] H K') fun t45=>
 zad H (fun K'=>zau 3 [(.int .i64 0),(.int .i64 0),.snil] 1 [(0,t45)] (K' · H)) fun t46=>
 zaw zaV 3 40 t42 t46 H fun t47 H=>
 zad H (fun K'=>zaf 2 t5 (K' · H)) fun t48=>
 zan 1 t48 t47 H fun H=>
 zab .add false t37 (.int .i64 1) fun t49=>
 Kb5 (zlF t1 t4 t5 t35 t36 t49) H)
 (zae true 3 t5 H fun t50=>
 zan 3 t4 t50 H fun H=>
 zae true 3 t4 H fun r0=>
 K r0 H)
def zrI (t0 t1:AV) (H:zaa) (K:Kt):Prop:=
 zav t0 H fun t2 H=>
 zay [(.int .i64 0),(.int .i64 0),.snil] H fun t4 H=>
 zaf 0 t2 fun t8=>
 zae false 1 t8 H fun t9=>
 zab .eql false t9 (.int .i64 4) fun t10=>
 zac t10 true H (fun K'=>zaf 1 t2 (K' · H)) fun t12 H=>
 zac t10 true H (fun K'=>zae false 1 t12 H (K' · H)) fun t13 H=>
 zac t10 true H (fun K'=>zab .geq false t13 (.int .i64 0) (K' · H)) fun t14 H=>
 zaj t10 t14 (.bool false) fun t15=>
 zac t15 true H (fun K'=>zaf 1 t2 (K' · H)) fun t17 H=>
 zac t15 true H (fun K'=>zae false 1 t17 H (K' · H)) fun t18 H=>
 zac t15 true H (fun K'=>K' t1 H) fun t19 H=>
 zac t15 true H (fun K'=>zah 1 t19 (K' · H)) fun t20 H=>
 zac t15 true H (fun K'=>zab .lss false t18 t20 (K' · H)) fun t21 H=>
 zaj t15 t21 (.bool false) fun t22=>
 zag t22
 (zaf 1 t2 fun t24=>
 zae false 1 t24 H fun t25=>
 zai 3 t1 t25 fun t26=>
 zae true 3 t26 H fun t27=>
 ACalls tP zg3 [t27,.snil] H fun t28 H=>
 zan 3 t4 t28 H fun H=>
 zae true 3 t4 H fun r0=>
 K r0 H)
 (zaf 0 t2 fun t29=>
 zae false 1 t29 H fun t30=>
 zaf 1 t2 fun t31=>
 zae false 1 t31 H fun t32=>
 zas [(.int .i64 0),(.int .i64 0),.snil] [(0,1),(1,1),(2,1)] [(0,t30),(1,t32)] fun t33=>
 zay [(.int .i64 0),(.int .i64 0),.snil] H fun t5 H=>
 zan 3 t5 t33 H fun H=>
 zaf 2 t2 fun t34=>
 zae false 1 t34 H fun t35=>
 zah 1 t35 fun t36=>
 zhM t1 t4 t5 t35 t36 (.int .i64 0) H K)
theorem zNl {t1 t4 t5 t35 t36 t37:AV} {H:zaa} {K:Kt} (Inv:Nat→AV→zaa→Prop) (n:Nat) (h0:HSc H→Inv n t37 H)
  (round:Rd1 (fun t37=>zlF t1 t4 t5 t35 t36 t37) (fun t37=>fun H Kb5=>zrJ t1 t4 t5 t35 t36 t37 H K Kb5) H Inv):zhM t1 t4 t5 t35 t36 t37 H K:=
 lp1 (M:=zlE) zNm t37 (by kernel_rfl) Inv n h0 round
theorem zNn {t0 t1:AV} {H:zaa} {K:Kt} (h:HSc H→zrI t0 t1 H K):ACalls tP zg3 [t0,t1] H K:=
 zao (M:=zlE) Tryz.func213 (c:=zrK) (by kernel_rfl) (fun hs=>Eq.mpr (by kernel_rfl) (h hs))
def zP1 (_:Nat):List Bool:=[]
noncomputable def zP2:Code:=Tryz.f49.body.getD .skip
def zAI (t0 t1 t2:AV) (H:zaa) (K:Kt):Prop:=
 zav t1 H fun t4 H=>
 zae true 3 t4 H fun t7=>
 ACalls tP zhc [t7] H fun t8 H=>
 zab .leq false t8 (.int .i64 200) fun t9=>
 zac t9 true H (fun K'=>K' t0 H) fun t11 H=>
 zac t9 true H (fun K'=>zae true 3 t4 H (K' · H)) fun t12 H=>
 zac t9 true H (fun K'=>K' t2 H) fun t13 H=>
 zac t9 true H (fun K'=>ACalls tP zi5 [t11,t12,t13] H K') fun t14 H=>
 zaj t9 t14 (.bool false) fun t15=>
 K t15 H
theorem zP3 {t0 t1 t2:AV} {H:zaa} {K:Kt} (h:HSc H→zAI t0 t1 t2 H K):ACalls tP ziR [t0,t1,t2] H K:=
 zao (M:=zP1) Tryz.func49 (c:=zP2) (by kernel_rfl) (fun hs=>Eq.mpr (by kernel_rfl) (h hs))
def zmP:Nat→List Bool
 | 3=>rl false [1,1,1,2,16]
 | _=>[]
noncomputable def zs3:Code:=Tryz.f95.body.getD .skip
noncomputable def zSm:List ResultVar:=Tryz.f95.results.toList
def zmQ (t1 t3 t4:AV):List AV:=ux 1 (t1::ux 1 (t3::t4::ux 16 []))
def zSk:List Bool:=zmP 3
noncomputable def zSi:Code:=zaq [1,1,0,1,0,0] zs3
def zSh (K:Kt):AExit→List AV→zaa→Prop:=zar tP zmP [1,1,0,1,0] zs3 (zax tP zSm K)
def zBz (t1 t3 t4:AV) (H:zaa) (K:Kt):Prop:=ALoop tP zSi (zSh K) (zmQ t1 t3 t4) H
def zs2 (t1 t3 t4:AV) (H:zaa) (K:Kt) (Kb3:Lt):Prop:=
 zaf 2 t1 fun t6=>
 zae false 1 t6 H fun t7=>
 zah 1 t7 fun t8=>
 zab .lss false t4 t8 fun t9=>
 zag t9
 (zaf 2 t1 fun t13=>
 zae false 1 t13 H fun t14=>
 zai 3 t14 t4 fun t16=>
 zae true 3 t16 H fun t17=>
 ACalls tP zhc [t17] H fun t18 H=>
 zab .add false t3 t18 fun t19=>
 zab .add false t4 (.int .i64 1) fun t11=>
 Kb3 (zmQ t1 t19 t11) H)
 (K t3 H)
def zBy (t0:AV) (H:zaa) (K:Kt):Prop:=
 zav t0 H fun t1 H=>
 zBz t1 (.int .i64 1) (.int .i64 0) H K
theorem zSj {t1 t3 t4:AV} {H:zaa} {K:Kt} (Inv:Nat→AV→AV→zaa→Prop) (n:Nat) (h0:HSc H→Inv n t3 t4 H)
  (round:Rd2 (fun t3=>fun t4=>zmQ t1 t3 t4) (fun t3=>fun t4=>fun H Kb3=>zs2 t1 t3 t4 H K Kb3) H Inv):zBz t1 t3 t4 H K:=
 lp2 (M:=zmP) zSk t3 t4 (by kernel_rfl) Inv n h0 round
theorem zSl {t0:AV} {H:zaa} {K:Kt} (h:HSc H→zBy t0 H K):ACalls tP zhc [t0] H K:=
 zao (M:=zmP) Tryz.func95 (c:=zs3) (by kernel_rfl) (fun hs=>Eq.mpr (by kernel_rfl) (h hs))
def zmR:Nat→List Bool
 | 24=>rl false [0,1,1,1,1,1,2,2,103]
 | _=>[]
noncomputable def zs5:Code:=Tryz.f96.body.getD .skip
noncomputable def zSs:List ResultVar:=Tryz.f96.results.toList
def zmS (t0 t2 t4 t7 t8:AV):List AV:=t0::ux 1 (t2::ux 1 (t4::ux 2 (t7::t8::ux 103 [])))
def zSq:List Bool:=zmR 24
noncomputable def zSo:Code:=zaq [1,1,1,0,1,0,0] zs5
def zSn (K:Kt):AExit→List AV→zaa→Prop:=zar tP zmR [1,1,1,0,1,0] zs5 (zax tP zSs K)
def zs6 (t0 t2 t4 t7 t8:AV) (H:zaa) (K:Kt):Prop:=ALoop tP zSo (zSn K) (zmS t0 t2 t4 t7 t8) H
def zs4 (t0 t2 t4 t7 t8:AV) (H:zaa) (K:Kt) (Kb24:Lt):Prop:=
 zab .lss false t8 t7 fun t100=>
 zag t100
 (zaf 2 t4 fun t104=>
 zae false 1 t104 H fun t105=>
 zai 3 t105 t8 fun t107=>
 zae true 3 t107 H fun t108=>
 ACalls tP zi5 [t0,t108,t2] H fun t110 H=>
 aUn .not t110 fun t111=>
 zag t111
 (K (.bool false) H)
 (zab .add false t8 (.int .i64 1) fun t102=>
 Kb24 (zmS t0 t2 t4 t7 t102) H))
 (K (.bool true) H)
def zhX (t0 t2 t4 t7:AV) (H:zaa) (K:Kt):Prop:=
 zs6 t0 t2 t4 t7 (.int .i64 0) H K
def zeM (t0 t2 t4 t7:AV) (H:zaa) (K:Kt):Prop:=
 zhX t0 t2 t4 t7 H K
def zdX (t0 t2 t4 t7 t13 t75:AV) (H:zaa) (K:Kt):Prop:=
 zag t75
 (zaf 1 t4 fun t78=>
 zae false 1 t78 H fun t79=>
 zab .neq false t79 (.int .i64 0) fun t80=>
 zac t80 false H (fun K'=>K' t7 H) fun t82 H=>
 zac t80 false H (fun K'=>zab .neq false t82 (.int .i64 1) (K' · H)) fun t83 H=>
 zaj t80 (.bool true) t83 fun t84=>
 zag t84
 (K (.bool false) H)
 (zeM t0 t2 t4 t7 H K))
 (zab .eql false t13 (.int .i64 9) fun t86=>
 zag t86
 (zaf 1 t4 fun t87=>
 zae false 1 t87 H fun t88=>
 zab .neq false t88 (.int .i64 0) fun t89=>
 zac t89 false H (fun K'=>K' t7 H) fun t91 H=>
 zac t89 false H (fun K'=>zab .lss false t91 (.int .i64 1) (K' · H)) fun t92 H=>
 zaj t89 (.bool true) t92 fun t93=>
 zac t93 false H (fun K'=>K' t7 H) fun t95 H=>
 zac t93 false H (fun K'=>zab .gtr false t95 (.int .i64 7) (K' · H)) fun t96 H=>
 zaj t93 (.bool true) t96 fun t97=>
 zag t97
 (K (.bool false) H)
 (zeM t0 t2 t4 t7 H K))
 (K (.bool false) H))
def zbN (t0 t2 t4 t7 t13 t14:AV) (H:zaa) (K:Kt):Prop:=
 zag t14
 (zaf 1 t4 fun t18=>
 zae false 1 t18 H fun t19=>
 zab .eql false t19 (.int .i64 0) fun t20=>
 zac t20 true H (fun K'=>K' t7 H) fun t22 H=>
 zac t20 true H (fun K'=>zab .eql false t22 (.int .i64 0) (K' · H)) fun t23 H=>
 zaj t20 t23 (.bool false) fun t24=>
 K t24 H)
 (zab .eql false t13 (.int .i64 4) fun t26=>
 zag t26
 (zaf 1 t4 fun t27=>
 zae false 1 t27 H fun t28=>
 zab .geq false t28 (.int .i64 0) fun t29=>
 zac t29 true H (fun K'=>zaf 1 t4 (K' · H)) fun t31 H=>
 zac t29 true H (fun K'=>zae false 1 t31 H (K' · H)) fun t32 H=>
 zac t29 true H (fun K'=>K' t2 H) fun t33 H=>
 zac t29 true H (fun K'=>zab .lss false t32 t33 (K' · H)) fun t34 H=>
 zaj t29 t34 (.bool false) fun t35=>
 zac t35 true H (fun K'=>K' t7 H) fun t37 H=>
 zac t35 true H (fun K'=>zab .eql false t37 (.int .i64 0) (K' · H)) fun t38 H=>
 zaj t35 t38 (.bool false) fun t39=>
 K t39 H)
 (zab .eql false t13 (.int .i64 5) fun t41=>
 zag t41
 (zaf 1 t4 fun t42=>
 zae false 1 t42 H fun t43=>
 zab .lss false t43 (.int .i64 0) fun t44=>
 zac t44 false H (fun K'=>zaf 1 t4 (K' · H)) fun t46 H=>
 zac t44 false H (fun K'=>zae false 1 t46 H (K' · H)) fun t47 H=>
 zac t44 false H (fun K'=>K' t0 H) fun t48 H=>
 zac t44 false H (fun K'=>zah 1 t48 (K' · H)) fun t49 H=>
 zac t44 false H (fun K'=>zab .geq false t47 t49 (K' · H)) fun t50 H=>
 zaj t44 (.bool true) t50 fun t51=>
 zac t51 false H (fun K'=>K' t7 H) fun t53 H=>
 zac t51 false H (fun K'=>K' t0 H) fun t54 H=>
 zac t51 false H (fun K'=>zaf 1 t4 (K' · H)) fun t55 H=>
 zac t51 false H (fun K'=>zae false 1 t55 H (K' · H)) fun t56 H=>
 zac t51 false H (fun K'=>zai 3 t54 t56 (K' · H)) fun t57 H=>
 zac t51 false H (fun K'=>zaf 1 t57 (K' · H)) fun t58 H=>
 zac t51 false H (fun K'=>zae false 1 t58 H (K' · H)) fun t59 H=>
 zac t51 false H (fun K'=>zab .neq false t53 t59 (K' · H)) fun t60 H=>
 zaj t51 (.bool true) t60 fun t61=>
 zag t61
 (K (.bool false) H)
 (zeM t0 t2 t4 t7 H K))
 (zab .eql false t13 (.int .i64 6) fun t63=>
 zag t63
 (zaf 1 t4 fun t64=>
 zae false 1 t64 H fun t65=>
 zab .neq false t65 (.int .i64 0) fun t66=>
 zac t66 false H (fun K'=>K' t7 H) fun t68 H=>
 zac t66 false H (fun K'=>zab .lss false t68 (.int .i64 2) (K' · H)) fun t69 H=>
 zaj t66 (.bool true) t69 fun t70=>
 zac t70 false H (fun K'=>K' t7 H) fun t72 H=>
 zac t70 false H (fun K'=>zab .gtr false t72 (.int .i64 6) (K' · H)) fun t73 H=>
 zaj t70 (.bool true) t73 fun t74=>
 zag t74
 (K (.bool false) H)
 (zeM t0 t2 t4 t7 H K))
 (zab .eql false t13 (.int .i64 7) fun t76=>
 zag t76
 (zdX t0 t2 t4 t7 t13 t76 H K)
 (zab .eql false t13 (.int .i64 8) fun t77=>
 zdX t0 t2 t4 t7 t13 t77 H K)))))
def zcw (t0 t1 t2:AV) (H:zaa) (K:Kt):Prop:=
 zav t1 H fun t4 H=>
 zaf 2 t4 fun t9=>
 zae false 1 t9 H fun t10=>
 zah 1 t10 fun t11=>
 zaf 0 t4 fun t12=>
 zae false 1 t12 H fun t13=>
 zab .eql false t13 (.int .i64 1) fun t15=>
 zag t15
 (zbN t0 t2 t4 t11 t13 t15 H K)
 (zab .eql false t13 (.int .i64 2) fun t16=>
 zag t16
 (zbN t0 t2 t4 t11 t13 t16 H K)
 (zab .eql false t13 (.int .i64 3) fun t17=>
 zbN t0 t2 t4 t11 t13 t17 H K))
theorem zSp {t0 t2 t4 t7 t8:AV} {H:zaa} {K:Kt} (Inv:Nat→AV→zaa→Prop) (n:Nat) (h0:HSc H→Inv n t8 H)
  (round:Rd1 (fun t8=>zmS t0 t2 t4 t7 t8) (fun t8=>fun H Kb24=>zs4 t0 t2 t4 t7 t8 H K Kb24) H Inv):zs6 t0 t2 t4 t7 t8 H K:=
 lp1 (M:=zmR) zSq t8 (by kernel_rfl) Inv n h0 round
theorem zSr {t0 t1 t2:AV} {H:zaa} {K:Kt} (h:HSc H→zcw t0 t1 t2 H K):ACalls tP zi5 [t0,t1,t2] H K:=
 zao (M:=zmR) Tryz.func96 (c:=zs5) (by kernel_rfl) (fun hs=>Eq.mpr (by kernel_rfl) (h hs))
def zmV:Nat→List Bool
 | 5=>rl false [4,1,3,1,54,3,16]
 | _=>[]
noncomputable def ztb:Code:=Tryz.f98.body.getD .skip
noncomputable def zSF:List ResultVar:=Tryz.f98.results.toList
def zmW (t4 t8 t63 t64 t65:AV):List AV:=ux 4 (t4::ux 3 (t8::ux 54 (t63::t64::t65::ux 16 [])))
def zSD:List Bool:=zmV 5
noncomputable def zSB:Code:=zaq [1,1,1,0,1,0,0] ztb
def zSA (K:Kt):AExit→List AV→zaa→Prop:=zar tP zmV [1,1,1,0,1,0] ztb (zax tP zSF K)
def zmX (t4 t8 t63 t64 t65:AV) (H:zaa) (K:Kt):Prop:=ALoop tP zSB (zSA K) (zmW t4 t8 t63 t64 t65) H
def zta (t4 t8 t63 t64 t65:AV) (H:zaa) (K:Kt) (Kb5:Lt):Prop:=
 zab .lss false t65 t64 fun t66=>
 zag t66
 (zai 3 t63 t65 fun t67=>
 zae true 3 t67 H fun t68=>
 zay [(.int .i64 0),(.int .i64 0),.snil] H fun t10 H=>
 zan 3 t10 t68 H fun H=>
 zae true 3 t10 H fun t69=>
 zaf 2 t4 fun t70=>
 zae false 1 t70 H fun t71=>
 ACalls tP ziu [t69,t71] H fun t72 H=>
 zay [(.int .i64 0),(.int .i64 0),.snil] H fun t11 H=>
 zan 3 t11 t72 H fun H=>
 zae true 3 t11 H fun t73=>
 ACalls tP zhc [t73] H fun t74 H=>
 zab .gtr false t74 (.int .i64 200) fun t75=>
 zag t75
 (zaC [.snil,(.bool false)] (K · H))
 (zae true 3 t11 H fun t77=>
 zau 3 [(.int .i64 0),(.int .i64 0),.snil] 1 [(0,t77)] fun t78=>
 zaw zaV 3 40 t8 t78 H fun t79 H=>
 zab .add false t65 (.int .i64 1) fun t80=>
 Kb5 (zmW t4 t79 t63 t64 t80) H))
 (zaC [t8,(.bool true)] (K · H))
def zBD (t0 t1 t2:AV) (H:zaa) (K:Kt):Prop:=
 zav t1 H fun t4 H=>
 zad H (fun K'=>zaf 0 t4 (K' · H)) fun t12=>
 zad H (fun K'=>zal false 1 t12 H (K' · H)) fun t13=>
 zad H (fun K'=>zab .neq false t13 (.int .i64 5) (K' · H)) fun t14=>
 zad H (fun K'=>K' t14 H) fun t15=>
 zac t15 false H (fun K'=>zad H (fun K''=>zaf 1 t4 (K'' · H)) (K' · H)) fun t16 H=>
 zac t15 false H (fun K'=>zad H (fun K''=>zal false 1 t16 H (K'' · H)) (K' · H)) fun t17 H=>
 zac t15 false H (fun K'=>zad H (fun K''=>zab .lss false t17 (.int .i64 0) (K'' · H)) (K' · H)) fun t18 H=>
 zad H (fun K'=>zaj t15 (.bool true) t18 (K' · H)) fun t19=>
 zad H (fun K'=>K' t19 H) fun t20=>
 zac t20 false H (fun K'=>zad H (fun K''=>zaf 1 t4 (K'' · H)) (K' · H)) fun t21 H=>
 zac t20 false H (fun K'=>zad H (fun K''=>zal false 1 t21 H (K'' · H)) (K' · H)) fun t22 H=>
 zac t20 false H (fun K'=>zad H (fun K''=>K'' t0 H) (K' · H)) fun t23 H=>
 zac t20 false H (fun K'=>zad H (fun K''=>zah 1 t23 (K'' · H)) (K' · H)) fun t24 H=>
 zac t20 false H (fun K'=>zad H (fun K''=>zab .geq false t22 t24 (K'' · H)) (K' · H)) fun t25 H=>
 zad H (fun K'=>zaj t20 (.bool true) t25 (K' · H)) fun t26=>
 zad H (fun K'=>K' t26 H) fun t27=>
 zac t27 false H (fun K'=>zad H (fun K''=>zaf 2 t4 (K'' · H)) (K' · H)) fun t28 H=>
 zac t27 false H (fun K'=>zad H (fun K''=>zal false 1 t28 H (K'' · H)) (K' · H)) fun t29 H=>
 zac t27 false H (fun K'=>zad H (fun K''=>zah 1 t29 (K'' · H)) (K' · H)) fun t30 H=>
 zac t27 false H (fun K'=>zad H (fun K''=>K'' t0 H) (K' · H)) fun t31 H=>
 zac t27 false H (fun K'=>zad H (fun K''=>zaf 1 t4 (K'' · H)) (K' · H)) fun t32 H=>
 zac t27 false H (fun K'=>zad H (fun K''=>zal false 1 t32 H (K'' · H)) (K' · H)) fun t33 H=>
 zac t27 false H (fun K'=>zad H (fun K''=>zai 3 t31 t33 (K'' · H)) (K' · H)) fun t34 H=>
 zac t27 false H (fun K'=>zad H (fun K''=>zaf 1 t34 (K'' · H)) (K' · H)) fun t35 H=>
 zac t27 false H (fun K'=>zad H (fun K''=>zal false 1 t35 H (K'' · H)) (K' · H)) fun t36 H=>
 zac t27 false H (fun K'=>zad H (fun K''=>zab .neq false t30 t36 (K'' · H)) (K' · H)) fun t37 H=>
 zad H (fun K'=>zaj t27 (.bool true) t37 (K' · H)) fun t38=>
 zad H (fun K'=>K' t38 H) fun t39=>
 zac t39 false H (fun K'=>zad H (fun K''=>K'' t2 H) (K' · H)) fun t40 H=>
 zac t39 false H (fun K'=>zad H (fun K''=>zab .lss false t40 (.int .i64 0) (K'' · H)) (K' · H)) fun t41 H=>
 zad H (fun K'=>zaj t39 (.bool true) t41 (K' · H)) fun t42=>
 zad H (fun K'=>K' t42 H) fun t43=>
 zac t43 false H (fun K'=>zad H (fun K''=>K'' t2 H) (K' · H)) fun t44 H=>
 zac t43 false H (fun K'=>zad H (fun K''=>K'' t0 H) (K' · H)) fun t45 H=>
 zac t43 false H (fun K'=>zad H (fun K''=>zaf 1 t4 (K'' · H)) (K' · H)) fun t46 H=>
 zac t43 false H (fun K'=>zad H (fun K''=>zal false 1 t46 H (K'' · H)) (K' · H)) fun t47 H=>
 zac t43 false H (fun K'=>zad H (fun K''=>zai 3 t45 t47 (K'' · H)) (K' · H)) fun t48 H=>
 zac t43 false H (fun K'=>zad H (fun K''=>zaf 2 t48 (K'' · H)) (K' · H)) fun t49 H=>
 zac t43 false H (fun K'=>zad H (fun K''=>zal false 1 t49 H (K'' · H)) (K' · H)) fun t50 H=>
 zac t43 false H (fun K'=>zad H (fun K''=>zah 1 t50 (K'' · H)) (K' · H)) fun t51 H=>
 zac t43 false H (fun K'=>zad H (fun K''=>zab .geq false t44 t51 (K'' · H)) (K' · H)) fun t52 H=>
 zad H (fun K'=>zaj t43 (.bool true) t52 (K' · H)) fun t53=>
 zag t53
 (zaC [.snil,(.bool false)] (K · H))
 (zaf 1 t4 fun t55=>
 zae false 1 t55 H fun t56=>
 zai 3 t0 t56 fun t57=>
 zaf 2 t57 fun t58=>
 zae false 1 t58 H fun t59=>
 zai 2 t59 t2 fun t61=>
 zaf 1 t61 fun t62=>
 zae false 1 t62 H fun t63=>
 zah 1 t63 fun t64=>
 zmX t4 .snil t63 t64 (.int .i64 0) H K)
theorem zSC {t4 t8 t63 t64 t65:AV} {H:zaa} {K:Kt} (Inv:Nat→AV→AV→zaa→Prop) (n:Nat) (h0:HSc H→Inv n t8 t65 H)
  (round:Rd2 (fun t8=>fun t65=>zmW t4 t8 t63 t64 t65) (fun t8=>fun t65=>fun H Kb5=>zta t4 t8 t63 t64 t65 H K Kb5) H Inv):zmX t4 t8 t63 t64 t65 H K:=
 lp2 (M:=zmV) zSD t8 t65 (by kernel_rfl) Inv n h0 round
theorem zSE {t0 t1 t2:AV} {H:zaa} {K:Kt} (h:HSc H→zBD t0 t1 t2 H K):ACalls tP zhd [t0,t1,t2] H K:=
 zao (M:=zmV) Tryz.func98 (c:=ztb) (by kernel_rfl) (fun hs=>Eq.mpr (by kernel_rfl) (h hs))
def zkz:Nat→List Bool
 | 5=>rl false [1,2,1,3,46]
 | _=>[]
noncomputable def zqy:Code:=Tryz.f146.body.getD .skip
noncomputable def zJr:List ResultVar:=Tryz.f146.results.toList
def zkA (t1 t2 t4 t5 t6:AV):List AV:=ux 1 (t1::t2::ux 1 (t4::t5::t6::ux 46 []))
def zJp:List Bool:=zkz 5
noncomputable def zJn:Code:=zaq [1,1,1,0,1,0,0] zqy
def zJm (K:Kt):AExit→List AV→zaa→Prop:=zar tP zkz [1,1,1,0,1,0] zqy (zax tP zJr K)
def zqz (t1 t2 t4 t5 t6:AV) (H:zaa) (K:Kt):Prop:=ALoop tP zJn (zJm K) (zkA t1 t2 t4 t5 t6) H
def zqx (t1 t2 t4 t5 t6:AV) (H:zaa) (K:Kt) (Kb5:Lt):Prop:=
 zaf 2 t2 fun t34=>
 zae false 1 t34 H fun t35=>
 zah 1 t35 fun t36=>
 zab .lss false t6 t36 fun t37=>
 zag t37
 (zad H (fun K'=>zaf 2 t5 (K' · H)) fun t40=>
 zad H (fun K'=>zal false 1 t40 H (K' · H)) fun t41=>
 zad H (fun K'=>zaf 2 t2 (K' · H)) fun t42=>
 zad H (fun K'=>zal false 1 t42 H (K' · H)) fun t43=>
 zad H (fun K'=>K' t6 H) fun t44=>
 zad H (fun K'=>zai 3 t43 t44 (K' · H)) fun t45=>
 zad H (fun K'=>zal true 3 t45 H (K' · H)) fun t46=>
 zad H (fun K'=>K' t1 H) fun t47=>
 zaF H (fun H K'=>ACalls tP ziu [t46,t47] H K') fun t48=>
 zad H (fun K'=>zau 3 [(.int .i64 0),(.int .i64 0),.snil] 1 [(0,t48)] (K' · H)) fun t49=>
 zaw zaV 3 40 t41 t49 H fun t50 H=>
 zad H (fun K'=>zaf 2 t5 (K' · H)) fun t51=>
 zan 1 t51 t50 H fun H=>
 zab .add false t6 (.int .i64 1) fun t39=>
 Kb5 (zkA t1 t2 t4 t5 t39) H)
 (zae true 3 t5 H fun t52=>
 zan 3 t4 t52 H fun H=>
 zae true 3 t4 H fun r0=>
 K r0 H)
def zqw (t0 t1:AV) (H:zaa) (K:Kt):Prop:=
 zav t0 H fun t2 H=>
 zay [(.int .i64 0),(.int .i64 0),.snil] H fun t4 H=>
 zaf 0 t2 fun t7=>
 zae false 1 t7 H fun t8=>
 zab .eql false t8 (.int .i64 4) fun t9=>
 zac t9 true H (fun K'=>zaf 1 t2 (K' · H)) fun t11 H=>
 zac t9 true H (fun K'=>zae false 1 t11 H (K' · H)) fun t12 H=>
 zac t9 true H (fun K'=>zab .geq false t12 (.int .i64 0) (K' · H)) fun t13 H=>
 zaj t9 t13 (.bool false) fun t14=>
 zac t14 true H (fun K'=>zaf 1 t2 (K' · H)) fun t16 H=>
 zac t14 true H (fun K'=>zae false 1 t16 H (K' · H)) fun t17 H=>
 zac t14 true H (fun K'=>K' t1 H) fun t18 H=>
 zac t14 true H (fun K'=>zah 1 t18 (K' · H)) fun t19 H=>
 zac t14 true H (fun K'=>zab .lss false t17 t19 (K' · H)) fun t20 H=>
 zaj t14 t20 (.bool false) fun t21=>
 zag t21
 (zaf 1 t2 fun t23=>
 zae false 1 t23 H fun t24=>
 zai 3 t1 t24 fun t25=>
 zae true 3 t25 H fun t26=>
 ACalls tP ziE [t26] H fun t27 H=>
 zan 3 t4 t27 H fun H=>
 zae true 3 t4 H fun r0=>
 K r0 H)
 (zaf 0 t2 fun t28=>
 zae false 1 t28 H fun t29=>
 zaf 1 t2 fun t30=>
 zae false 1 t30 H fun t31=>
 zas [(.int .i64 0),(.int .i64 0),.snil] [(0,1),(1,1),(2,1)] [(0,t29),(1,t31)] fun t32=>
 zay [(.int .i64 0),(.int .i64 0),.snil] H fun t5 H=>
 zan 3 t5 t32 H fun H=>
 zqz t1 t2 t4 t5 (.int .i64 0) H K)
theorem zJo {t1 t2 t4 t5 t6:AV} {H:zaa} {K:Kt} (Inv:Nat→AV→zaa→Prop) (n:Nat) (h0:HSc H→Inv n t6 H)
  (round:Rd1 (fun t6=>zkA t1 t2 t4 t5 t6) (fun t6=>fun H Kb5=>zqx t1 t2 t4 t5 t6 H K Kb5) H Inv):zqz t1 t2 t4 t5 t6 H K:=
 lp1 (M:=zkz) zJp t6 (by kernel_rfl) Inv n h0 round
theorem zJq {t0 t1:AV} {H:zaa} {K:Kt} (h:HSc H→zqw t0 t1 H K):ACalls tP ziu [t0,t1] H K:=
 zao (M:=zkz) Tryz.func146 (c:=zqy) (by kernel_rfl) (fun hs=>Eq.mpr (by kernel_rfl) (h hs))
def zlr:Nat→List Bool
 | 3=>rl false [1,4,24]
 | _=>[]
noncomputable def zrp:Code:=Tryz.f194.body.getD .skip
noncomputable def zMo:List ResultVar:=Tryz.f194.results.toList
def zls (t1 t2 t3 t4:AV):List AV:=ux 1 (t1::t2::t3::t4::ux 24 [])
def zMm:List Bool:=zlr 3
noncomputable def zMk:Code:=zaq [1,1,0,1,0,0] zrp
def zMj (K:Kt):AExit→List AV→zaa→Prop:=zar tP zlr [1,1,0,1,0] zrp (zax tP zMo K)
def zzy (t1 t2 t3 t4:AV) (H:zaa) (K:Kt):Prop:=ALoop tP zMk (zMj K) (zls t1 t2 t3 t4) H
def zro (t1 t2 t3 t4:AV) (H:zaa) (K:Kt) (Kb3:Lt):Prop:=
 zaf 2 t1 fun t11=>
 zae false 1 t11 H fun t12=>
 zah 1 t12 fun t13=>
 zab .lss false t4 t13 fun t14=>
 zag t14
 (zad H (fun K'=>zaf 2 t3 (K' · H)) fun t17=>
 zad H (fun K'=>zal false 1 t17 H (K' · H)) fun t18=>
 zad H (fun K'=>zaf 2 t1 (K' · H)) fun t19=>
 zad H (fun K'=>zal false 1 t19 H (K' · H)) fun t20=>
 zad H (fun K'=>K' t4 H) fun t21=>
 zad H (fun K'=>zai 3 t20 t21 (K' · H)) fun t22=>
 zad H (fun K'=>zal true 3 t22 H (K' · H)) fun t23=>
 zaF H (fun H K'=>ACalls tP ziE [t23] H K') fun t24=>
 zad H (fun K'=>zau 3 [(.int .i64 0),(.int .i64 0),.snil] 1 [(0,t24)] (K' · H)) fun t25=>
 zaw zaV 3 40 t18 t25 H fun t26 H=>
 zad H (fun K'=>zaf 2 t3 (K' · H)) fun t27=>
 zan 1 t27 t26 H fun H=>
 zab .add false t4 (.int .i64 1) fun t16=>
 Kb3 (zls t1 t2 t3 t16) H)
 (zae true 3 t3 H fun t28=>
 zan 3 t2 t28 H fun H=>
 zae true 3 t2 H fun r0=>
 K r0 H)
def zzx (t0:AV) (H:zaa) (K:Kt):Prop:=
 zav t0 H fun t1 H=>
 zay [(.int .i64 0),(.int .i64 0),.snil] H fun t2 H=>
 zaf 0 t1 fun t5=>
 zae false 1 t5 H fun t6=>
 zaf 1 t1 fun t7=>
 zae false 1 t7 H fun t8=>
 zas [(.int .i64 0),(.int .i64 0),.snil] [(0,1),(1,1),(2,1)] [(0,t6),(1,t8)] fun t9=>
 zay [(.int .i64 0),(.int .i64 0),.snil] H fun t3 H=>
 zan 3 t3 t9 H fun H=>
 zzy t1 t2 t3 (.int .i64 0) H K
theorem zMl {t1 t2 t3 t4:AV} {H:zaa} {K:Kt} (Inv:Nat→AV→zaa→Prop) (n:Nat) (h0:HSc H→Inv n t4 H)
  (round:Rd1 (fun t4=>zls t1 t2 t3 t4) (fun t4=>fun H Kb3=>zro t1 t2 t3 t4 H K Kb3) H Inv):zzy t1 t2 t3 t4 H K:=
 lp1 (M:=zlr) zMm t4 (by kernel_rfl) Inv n h0 round
theorem zMn {t0:AV} {H:zaa} {K:Kt} (h:HSc H→zzx t0 H K):ACalls tP ziE [t0] H K:=
 zao (M:=zlr) Tryz.func194 (c:=zrp) (by kernel_rfl) (fun hs=>Eq.mpr (by kernel_rfl) (h hs))
def zfv:Nat→List Bool
 | 6=>rl false [0,2,6,1,38,3,56]
 | 10=>rl false [0,2,6,2,37,3,28,3,25]
 | _=>[]
noncomputable def zq5:Code:=Tryz.f168.body.getD .skip
noncomputable def zLl:List ResultVar:=Tryz.f168.results.toList
def zk5 (t0 t1 t8 t47 t48 t49:AV):List AV:=t0::t1::ux 6 (t8::ux 38 (t47::t48::t49::ux 56 []))
def zzi:List Bool:=zfv 6
noncomputable def zq6:Code:=zaq [1,1,1,1,0,1,0,0] zq5
def zzg (K:Kt):AExit→List AV→zaa→Prop:=zar tP zfv [1,1,1,1,0,1,0] zq5 (zax tP zLl K)
def zzh (t0 t1 t8 t47 t48 t49:AV) (H:zaa) (K:Kt):Prop:=ALoop tP zq6 (zzg K) (zk5 t0 t1 t8 t47 t48 t49) H
def zk4 (t0 t1 t8 t9 t47 t48 t49 t78 t79 t80:AV):List AV:=t0::t1::ux 6 (t8::t9::ux 37 (t47::t48::t49::ux 28 (t78::t79::t80::ux 25 [])))
def zLj:List Bool:=zfv 10
noncomputable def zLg:Code:=zaq [1,1,0,0,1,1,1,0,0] zq6
def zLf (K:Kt) (Kb6:Lt):AExit→List AV→zaa→Prop:=zar tP zfv [1,1,0,0,1,1,1,0] zq6 (zb0 zzi Kb6 (zzg K))
def zra (t0 t1 t8 t9 t47 t48 t49 t78 t79 t80:AV) (H:zaa) (K:Kt) (Kb6:Lt):Prop:=ALoop tP zLg (zLf K Kb6) (zk4 t0 t1 t8 t9 t47 t48 t49 t78 t79 t80) H
def zq7 (t0 t1 t8 t9 t47 t48 t49 t78 t79 t80:AV) (H:zaa) (K:Kt) (Kb6:Lt) (Kb10:Lt):Prop:=
 zab .add false t80 (.int .i64 1) fun t103=>
 Kb10 (zk4 t0 t1 t8 t9 t47 t48 t49 t78 t79 t103) H
def zgd (t0 t1 t8 t9 t47 t48 t49 t78 t79 t80:AV) (H:zaa) (K:Kt) (Kb6:Lt) (Kb10:Lt):Prop:=
 zq7 t0 t1 t8 t9 t47 t48 t49 t78 t79 t80 H K Kb6 Kb10
def zgc (t0 t1 t8 t9 t47 t48 t49 t78 t79 t80:AV) (H:zaa) (K:Kt) (Kb6:Lt) (Kb10:Lt):Prop:=
 zab .lss false t80 t79 fun t81=>
 zag t81
 (zai 3 t78 t80 fun t83=>
 zae true 3 t83 H fun t84=>
 zay [(.int .i64 0),(.int .i64 0),.snil] H fun t12 H=>
 zan 3 t12 t84 H fun H=>
 zaf 0 t12 fun t85=>
 zae false 1 t85 H fun t86=>
 zab .neq false t86 (.int .i64 4) fun t87=>
 zac t87 false H (fun K'=>zaf 1 t12 (K' · H)) fun t89 H=>
 zac t87 false H (fun K'=>zae false 1 t89 H (K' · H)) fun t90 H=>
 zac t87 false H (fun K'=>K' t80 H) fun t91 H=>
 zac t87 false H (fun K'=>zab .neq false t90 t91 (K' · H)) fun t92 H=>
 zaj t87 (.bool true) t92 fun t93=>
 zac t93 false H (fun K'=>zaf 2 t12 (K' · H)) fun t95 H=>
 zac t93 false H (fun K'=>zae false 1 t95 H (K' · H)) fun t96 H=>
 zac t93 false H (fun K'=>zah 1 t96 (K' · H)) fun t97 H=>
 zac t93 false H (fun K'=>zab .gtr false t97 (.int .i64 0) (K' · H)) fun t98 H=>
 zaj t93 (.bool true) t98 fun t99=>
 zag t99
 (zai 1 t8 t9 fun t102=>
 zan 1 t102 (.bool false) H fun H=>
 zgd t0 t1 t8 t9 t47 t48 t49 t78 t79 t80 H K Kb6 Kb10)
 (zgd t0 t1 t8 t9 t47 t48 t49 t78 t79 t80 H K Kb6 Kb10))
 (zab .add false t49 (.int .i64 1) fun t104=>
 Kb6 (zk5 t0 t1 t8 t47 t48 t104) H)
def zhI (t0 t1 t8 t47 t48 t49:AV) (H:zaa) (K:Kt) (Kb6:Lt):Prop:=
 zab .lss false t49 t48 fun t50=>
 zag t50
 (zai 3 t47 t49 fun t52=>
 zae true 3 t52 H fun t53=>
 zay [(.int .i64 0),(.int .i64 0),.snil] H fun t10 H=>
 zan 3 t10 t53 H fun H=>
 zad H (fun K'=>K' t8 H) fun t54=>
 zad H (fun K'=>K' t49 H) fun t55=>
 zad H (fun K'=>zaf 0 t10 (K' · H)) fun t56=>
 zad H (fun K'=>zal false 1 t56 H (K' · H)) fun t57=>
 zad H (fun K'=>zab .eql false t57 (.int .i64 5) (K' · H)) fun t58=>
 zad H (fun K'=>K' t58 H) fun t59=>
 zac t59 true H (fun K'=>zad H (fun K''=>zaf 1 t10 (K'' · H)) (K' · H)) fun t60 H=>
 zac t59 true H (fun K'=>zad H (fun K''=>zal false 1 t60 H (K'' · H)) (K' · H)) fun t61 H=>
 zac t59 true H (fun K'=>zad H (fun K''=>K'' t1 H) (K' · H)) fun t62 H=>
 zac t59 true H (fun K'=>zad H (fun K''=>zab .eql false t61 t62 (K'' · H)) (K' · H)) fun t63 H=>
 zad H (fun K'=>zaj t59 t63 (.bool false) (K' · H)) fun t64=>
 zad H (fun K'=>K' t64 H) fun t65=>
 zac t65 true H (fun K'=>zad H (fun K''=>zaf 2 t10 (K'' · H)) (K' · H)) fun t66 H=>
 zac t65 true H (fun K'=>zad H (fun K''=>zal false 1 t66 H (K'' · H)) (K' · H)) fun t67 H=>
 zac t65 true H (fun K'=>zad H (fun K''=>zah 1 t67 (K'' · H)) (K' · H)) fun t68 H=>
 zac t65 true H (fun K'=>zad H (fun K''=>K'' t0 H) (K' · H)) fun t69 H=>
 zac t65 true H (fun K'=>zad H (fun K''=>K'' t1 H) (K' · H)) fun t70 H=>
 zac t65 true H (fun K'=>zad H (fun K''=>zai 3 t69 t70 (K'' · H)) (K' · H)) fun t71 H=>
 zac t65 true H (fun K'=>zad H (fun K''=>zaf 1 t71 (K'' · H)) (K' · H)) fun t72 H=>
 zac t65 true H (fun K'=>zad H (fun K''=>zal false 1 t72 H (K'' · H)) (K' · H)) fun t73 H=>
 zac t65 true H (fun K'=>zad H (fun K''=>zab .eql false t68 t73 (K'' · H)) (K' · H)) fun t74 H=>
 zad H (fun K'=>zaj t65 t74 (.bool false) (K' · H)) fun t75=>
 zad H (fun K'=>zai 1 t54 t55 (K' · H)) fun t76=>
 zan 1 t76 t75 H fun H=>
 zaf 2 t10 fun t77=>
 zae false 1 t77 H fun t78=>
 zah 1 t78 fun t79=>
 zra t0 t1 t8 t49 t47 t48 t49 t78 t79 (.int .i64 0) H K Kb6)
 (K t8 H)
def zzf (t0 t1 t2:AV) (H:zaa) (K:Kt):Prop:=
 zab .lss false t1 (.int .i64 0) fun t14=>
 zac t14 false H (fun K'=>K' t1 H) fun t16 H=>
 zac t14 false H (fun K'=>K' t0 H) fun t17 H=>
 zac t14 false H (fun K'=>zah 1 t17 (K' · H)) fun t18 H=>
 zac t14 false H (fun K'=>zab .geq false t16 t18 (K' · H)) fun t19 H=>
 zaj t14 (.bool true) t19 fun t20=>
 zac t20 false H (fun K'=>K' t2 H) fun t22 H=>
 zac t20 false H (fun K'=>zab .lss false t22 (.int .i64 0) (K' · H)) fun t23 H=>
 zaj t20 (.bool true) t23 fun t24=>
 zac t24 false H (fun K'=>K' t2 H) fun t26 H=>
 zac t24 false H (fun K'=>K' t0 H) fun t27 H=>
 zac t24 false H (fun K'=>K' t1 H) fun t28 H=>
 zac t24 false H (fun K'=>zai 3 t27 t28 (K' · H)) fun t29 H=>
 zac t24 false H (fun K'=>zaf 2 t29 (K' · H)) fun t30 H=>
 zac t24 false H (fun K'=>zae false 1 t30 H (K' · H)) fun t31 H=>
 zac t24 false H (fun K'=>zah 1 t31 (K' · H)) fun t32 H=>
 zac t24 false H (fun K'=>zab .geq false t26 t32 (K' · H)) fun t33 H=>
 zaj t24 (.bool true) t33 fun t34=>
 zag t34
 (K .snil H)
 (zai 3 t0 t1 fun t37=>
 zaf 2 t37 fun t38=>
 zae false 1 t38 H fun t39=>
 zai 2 t39 t2 fun t41=>
 zaf 1 t41 fun t42=>
 zae false 1 t42 H fun t43=>
 zah 1 t43 fun t45=>
 zbh 1 [(.bool false)] t45 t45 H fun t46 H=>
 zah 1 t43 fun t48=>
 zzh t0 t1 t46 t43 t48 (.int .i64 0) H K)
theorem zLh {t0 t1 t8 t9 t47 t48 t49 t78 t79 t80:AV} {H:zaa} {K:Kt} {Kb6:Lt} (Inv:Nat→AV→zaa→Prop) (n:Nat) (h0:HSc H→Inv n t80 H)
  (round:Rd1 (fun t80=>zk4 t0 t1 t8 t9 t47 t48 t49 t78 t79 t80) (fun t80=>fun H Kb10=>zgc t0 t1 t8 t9 t47 t48 t49 t78 t79 t80 H K Kb6 Kb10) H Inv):zra t0 t1 t8 t9 t47 t48 t49 t78 t79 t80 H K Kb6:=
 lp1 (M:=zfv) zLj t80 (by kernel_rfl) Inv n h0 round
theorem zLi {t0 t1 t8 t47 t48 t49:AV} {H:zaa} {K:Kt} (Inv:Nat→AV→zaa→Prop) (n:Nat) (h0:HSc H→Inv n t49 H)
  (round:Rd1 (fun t49=>zk5 t0 t1 t8 t47 t48 t49) (fun t49=>fun H Kb6=>zhI t0 t1 t8 t47 t48 t49 H K Kb6) H Inv):zzh t0 t1 t8 t47 t48 t49 H K:=
 lp1 (M:=zfv) zzi t49 (by kernel_rfl) Inv n h0 round
theorem zLk {t0 t1 t2:AV} {H:zaa} {K:Kt} (h:HSc H→zzf t0 t1 t2 H K):ACalls tP ze7 [t0,t1,t2] H K:=
 zao (M:=zfv) Tryz.func168 (c:=zq5) (by kernel_rfl) (fun hs=>Eq.mpr (by kernel_rfl) (h hs))
def zNQ (_:Nat):List Bool:=[]
noncomputable def zNR:Code:=Tryz.f228.body.getD .skip
def zz1 (t0 t1:AV) (H:zaa) (K:Kt):Prop:=
 zav t0 H fun t2 H=>
 zav t1 H fun t3 H=>
 zaf 0 t2 fun t5=>
 zae false 1 t5 H fun t6=>
 zab .eql false t6 (.int .i64 5) fun t7=>
 zac t7 true H (fun K'=>zaf 1 t2 (K' · H)) fun t9 H=>
 zac t7 true H (fun K'=>zae false 1 t9 H (K' · H)) fun t10 H=>
 zac t7 true H (fun K'=>zae false 1 t3 H (K' · H)) fun t11 H=>
 zac t7 true H (fun K'=>zab .eql false t10 t11 (K' · H)) fun t12 H=>
 zaj t7 t12 (.bool false) fun t13=>
 zac t13 false H (fun K'=>zaf 2 t2 (K' · H)) fun t15 H=>
 zac t13 false H (fun K'=>zae false 1 t15 H (K' · H)) fun t16 H=>
 zac t13 false H (fun K'=>zcq ziM [t3] (K' · H)) fun t17 H=>
 zac t13 false H (fun K'=>ACalls tP ze8 [t16,t17] H K') fun t18 H=>
 zaj t13 (.bool true) t18 fun t19=>
 K t19 H
theorem zNS {t0 t1:AV} {H:zaa} {K:Kt} (h:HSc H→zz1 t0 t1 H K):ACalls tP ziL [t0,t1] H K:=
 zao (M:=zNQ) Tryz.func228 (c:=zNR) (by kernel_rfl) (fun hs=>Eq.mpr (by kernel_rfl) (h hs))
def zOi (_:Nat):List Bool:=[]
noncomputable def zOj:Code:=Tryz.f247.body.getD .skip
def zz7 (t0 t1:AV) (H:zaa) (K:Kt):Prop:=
 zav t0 H fun t2 H=>
 zae true 3 t2 H fun t4=>
 zae false 1 t1 H fun t5=>
 ACalls tP ziL [t4,t5] H fun t6 H=>
 K t6 H
theorem zOk {t0 t1:AV} {H:zaa} {K:Kt} (h:HSc H→zz7 t0 t1 H K):ACalls tP ziM [t0,t1] H K:=
 zao (M:=zOi) Tryz.func247 (c:=zOj) (by kernel_rfl) (fun hs=>Eq.mpr (by kernel_rfl) (h hs))
def zmL:Nat→List Bool
 | 4=>rl false [3,1,3,1,50]
 | _=>[]
noncomputable def zsX:Code:=Tryz.f93.body.getD .skip
noncomputable def zR8:List ResultVar:=Tryz.f93.results.toList
def zmM (t3 t7:AV):List AV:=ux 3 (t3::ux 3 (t7::ux 50 []))
def zR6:List Bool:=zmL 4
noncomputable def zR4:Code:=zaq [1,1,0,1,0,0] zsX
def zR3 (K:Kt):AExit→List AV→zaa→Prop:=zar tP zmL [1,1,0,1,0] zsX (zax tP zR8 K)
def zBs (t3 t7:AV) (H:zaa) (K:Kt):Prop:=ALoop tP zR4 (zR3 K) (zmM t3 t7) H
def zgk (t3 t7:AV) (H:zaa) (K:Kt) (Kb4:Lt):Prop:=
 zaf 2 t3 fun t25=>
 zae false 1 t25 H fun t26=>
 zah 1 t26 fun t27=>
 zab .lss false t7 t27 fun t28=>
 zag t28
 (zaf 2 t3 fun t31=>
 zae false 1 t31 H fun t32=>
 zai 3 t32 t7 fun t34=>
 zaf 0 t34 fun t35=>
 zae false 1 t35 H fun t36=>
 zab .neq false t36 (.int .i64 4) fun t37=>
 zac t37 false H (fun K'=>zaf 2 t3 (K' · H)) fun t39 H=>
 zac t37 false H (fun K'=>zae false 1 t39 H (K' · H)) fun t40 H=>
 zac t37 false H (fun K'=>K' t7 H) fun t41 H=>
 zac t37 false H (fun K'=>zai 3 t40 t41 (K' · H)) fun t42 H=>
 zac t37 false H (fun K'=>zaf 1 t42 (K' · H)) fun t43 H=>
 zac t37 false H (fun K'=>zae false 1 t43 H (K' · H)) fun t44 H=>
 zac t37 false H (fun K'=>K' t7 H) fun t45 H=>
 zac t37 false H (fun K'=>zab .neq false t44 t45 (K' · H)) fun t46 H=>
 zaj t37 (.bool true) t46 fun t47=>
 zac t47 false H (fun K'=>zaf 2 t3 (K' · H)) fun t49 H=>
 zac t47 false H (fun K'=>zae false 1 t49 H (K' · H)) fun t50 H=>
 zac t47 false H (fun K'=>K' t7 H) fun t51 H=>
 zac t47 false H (fun K'=>zai 3 t50 t51 (K' · H)) fun t52 H=>
 zac t47 false H (fun K'=>zaf 2 t52 (K' · H)) fun t53 H=>
 zac t47 false H (fun K'=>zae false 1 t53 H (K' · H)) fun t54 H=>
 zac t47 false H (fun K'=>zah 1 t54 (K' · H)) fun t55 H=>
 zac t47 false H (fun K'=>zab .gtr false t55 (.int .i64 0) (K' · H)) fun t56 H=>
 zaj t47 (.bool true) t56 fun t57=>
 zag t57
 (K (.bool false) H)
 (zab .add false t7 (.int .i64 1) fun t30=>
 Kb4 (zmM t3 t30) H))
 (K (.bool true) H)
def zBr (t0 t1 t2:AV) (H:zaa) (K:Kt):Prop:=
 zav t0 H fun t3 H=>
 zaf 0 t3 fun t8=>
 zae false 1 t8 H fun t9=>
 zab .neq false t9 (.int .i64 5) fun t10=>
 zac t10 false H (fun K'=>zaf 1 t3 (K' · H)) fun t12 H=>
 zac t10 false H (fun K'=>zae false 1 t12 H (K' · H)) fun t13 H=>
 zac t10 false H (fun K'=>K' t1 H) fun t14 H=>
 zac t10 false H (fun K'=>zab .neq false t13 t14 (K' · H)) fun t15 H=>
 zaj t10 (.bool true) t15 fun t16=>
 zac t16 false H (fun K'=>zaf 2 t3 (K' · H)) fun t18 H=>
 zac t16 false H (fun K'=>zae false 1 t18 H (K' · H)) fun t19 H=>
 zac t16 false H (fun K'=>zah 1 t19 (K' · H)) fun t20 H=>
 zac t16 false H (fun K'=>K' t2 H) fun t21 H=>
 zac t16 false H (fun K'=>zab .neq false t20 t21 (K' · H)) fun t22 H=>
 zaj t16 (.bool true) t22 fun t23=>
 zag t23
 (K (.bool false) H)
 (zBs t3 (.int .i64 0) H K)
theorem zR5 {t3 t7:AV} {H:zaa} {K:Kt} (Inv:Nat→AV→zaa→Prop) (n:Nat) (h0:HSc H→Inv n t7 H)
  (round:Rd1 (fun t7=>zmM t3 t7) (fun t7=>fun H Kb4=>zgk t3 t7 H K Kb4) H Inv):zBs t3 t7 H K:=
 lp1 (M:=zmL) zR6 t7 (by kernel_rfl) Inv n h0 round
theorem zR7 {t0 t1 t2:AV} {H:zaa} {K:Kt} (h:HSc H→zBr t0 t1 t2 H K):ACalls tP zi4 [t0,t1,t2] H K:=
 zao (M:=zmL) Tryz.func93 (c:=zsX) (by kernel_rfl) (fun hs=>Eq.mpr (by kernel_rfl) (h hs))
end Go.Proofs.YtdmamdnkcefmmaaGreatDoor

namespace Go.Proofs.YtdmamdnkcefmmaaGreatDoor
open Go Go.Abs
theorem zAY:∀ (m:Nat) (v:VT),v.nodes≤m→∀ (left:Int),left≤1000000→-1≤left→∀ (H:zaa) (id:Nat),H[id]?=some (.cells [.int .i64 left])→∀ (K:AV→zaa→Prop),
  ((v.nodes:Int)≤left→K (.bool true) (H.set id (.cells [.int .i64 (left-v.nodes)])))→(¬ (v.nodes:Int)≤left→∀ l',K (.bool false) (H.set id (.cells [.int .i64 l']))) →
  ACalls tP zg9 [.agg v.cs,.ptr id 0] H K:=by
 intro m
 induction m with
 | zero=>intro v h;have:=v.nodes_pos;omega
 | succ m ih=>
  intro v hv left hl1 hl0 H id hid K hK hF
  obtain⟨k,n,ks⟩:=v
  have hlt:=zbj hid
  have hnn:(VT.mk k n ks).nodes=VT.nodesL ks+1:=by simp[VT.nodes]
  refine ACalls.out (zQN fun hs=>?_)
  have hget:(H++[AB.cells [.int .i64 k,.int .i64 n,.sl (VT.css ks) .none]])[id]?=some (.cells [.int .i64 left]):=zb2 hid
  have bad:(¬ ((VT.mk k n ks).nodes:Int)≤left)→∀ l' H',H'=H.set id (.cells [.int .i64 l'])++[.cells [.int .i64 k,.int .i64 n,.sl (VT.css ks) .none]]→Out H.length K (.bool false) H':=by
   intro h l' H' he
   exact Out.bool he (by simp) (hs.set rfl) (hF h l')
  simp[zAW,VT.cs,hget,AV.known]
  rw[zat (by omega) (by omega),zdZ _ hid,zb2 (zdj _ hid)]
  by_cases h0:left-1<0
  ·simp[h0]
   exact bad (by omega) _ _ rfl
  ·simp[h0]
   refine zQL (Inv:=fun q t5 H'=>∃ i:Nat,i≤ks.length∧q=ks.length-i∧t5=.int .i64 i∧((VT.nodesL (ks.take i):Int)+1≤left)∧H'=H.set id (.cells [.int .i64 (left-1-VT.nodesL (ks.take i))])++[.cells [.int .i64 k,.int .i64 n,.sl (VT.css ks) .none]]) ks.length ?_ ?_
   ·intro _;exact⟨0,by omega,by omega,rfl,by simp[VT.nodesL];omega,by simp[VT.nodesL]⟩
   ·rintro q t5 H' ⟨i,hi,rfl,rfl,hb,rfl⟩ hsc hlen hsF Kb hKb
    by_cases hil:i<ks.length
    ·have hki:=VT.kid_lt (k:=k) (n:=n) hil
     have h1:=VT.nodesL_take hil
     have h2:=VT.nodesL_take_le ks (i+1)
     have hll:=VT.len_le (ks.take i)
     simp only[List.length_take]at hll
     have hge:(H.set id (.cells [.int .i64 (left-1-VT.nodesL (ks.take i))])++[AB.cells [.int .i64 k,.int .i64 n,.sl (VT.css ks) .none]])[id]?=some (.cells [.int .i64 (left-1-VT.nodesL (ks.take i))]):=zb2 (zdj _ hid)
     simp[zsE,hil]
     refine ih ks[i] (by omega) (left-1-VT.nodesL (ks.take i)) (by omega) (by omega) _ id hge _ ?_ ?_
     ·intro hle
      rw[zdZ _ (zdj _ hid),List.set_set]
      simp
      rw[zat (by omega) (by omega)]
      refine hKb _ _ ⟨ks.length-(i+1),by omega,Back.here (by simp) ((hs.set rfl).snoc rfl) ?_ ⟨_,rfl,i+1,by omega,rfl,by simp,by omega,?_⟩⟩
      ·simp[zmv,AV.sc,AV.scV,AV.scA,AV.scB];omega
      ·rw[h1];congr 5;omega
     ·intro hle l'
      rw[zdZ _ (zdj _ hid),List.set_set]
      simp
      exact bad (by omega) _ _ rfl
    ·obtain rfl:i=ks.length:=by omega
     rw[List.take_length]at hb ⊢
     simp[zsE]
     refine Out.bool rfl (by simp) (hs.set rfl) ?_
     have:=hK (by omega)
     rw[hnn]at this
     rw[show left-1-(VT.nodesL ks:Int)=left-((VT.nodesL ks+1:Nat):Int) by omega]
     exact this
theorem zO5 (v:VT) (H:zaa) (K:AV→zaa→Prop) (hK:∀ b,(b=true→v.nodes≤250)→K (.bool b) H):ACalls tP zoE [.agg v.cs] H K:=by
 refine ACalls.out (zO4 fun hs=>?_)
 simp[zAp,AV.known]
 refine zAY _ v (Nat.le_refl _) 250 (by omega) (by omega) _ (H.length+1) (by simp) _ ?_ ?_
 ·intro h
  exact Out.bool (J:=[_,_]) (by simp;exact⟨rfl,rfl⟩) (Nat.le_refl _) hs (hK true fun _=>by omega)
 ·intro h l'
  exact Out.bool (J:=[_,_]) (by simp;exact⟨rfl,rfl⟩) (Nat.le_refl _) hs (hK false fun h=>by cases h)
theorem zBA:∀ (m:Nat) (v:VT),v.nodes≤m→v.nodes≤1000000000→∀ (H:zaa) (K:AV→zaa→Prop),K (.int .i64 v.nodes) H→ACalls tP zhc [.agg v.cs] H K:=by
 intro m
 induction m with
 | zero=>intro v h;have:=v.nodes_pos;omega
 | succ m ih=>
  intro v hv hb H K hK
  obtain⟨k,n,ks⟩:=v
  have hnl:VT.nodesL ks+1≤1000000000:=by simpa[VT.nodes]using hb
  have hll:=VT.len_le ks
  refine ACalls.out (zSl fun hs=>?_)
  simp[VT.cs,zBy]
  refine zSj (Inv:=fun q t3 t4 H'=>∃ i:Nat,i≤ks.length∧q=ks.length-i∧t4=.int .i64 i∧t3=.int .i64 (1+VT.nodesL (ks.take i):Nat)∧H'=H++[.cells [.int .i64 k,.int .i64 n,.sl (VT.css ks) .none]]) ks.length ?_ ?_
  ·intro _;exact⟨0,by omega,by omega,rfl,by simp[VT.nodesL],rfl⟩
  ·rintro q t3 t4 H' ⟨i,hi,rfl,rfl,rfl,rfl⟩ hsc hlen hsF Kb hKb
   by_cases hlt:i<ks.length
   ·have hki:=VT.kid_lt (k:=k) (n:=n) hlt
    have h1:=VT.nodesL_take hlt
    have h2:=VT.nodesL_take_le ks (i+1)
    simp[zs2,hlt]
    refine ih ks[i] (by omega) (by omega) _ _ ?_
    simp
    rw[zat (by omega) (by omega),zat (by omega) (by omega)]
    refine hKb _ _ ⟨ks.length-(i+1),by omega,Back.here (by simp) hsc ?_ ⟨_,_,rfl,i+1,by omega,rfl,by simp,?_,rfl⟩⟩
    ·simp[zmQ,AV.sc,AV.scV,AV.scA,AV.scB]
    ·rw[h1];congr 1;omega
   ·obtain rfl:i=ks.length:=by omega
    simp[zs2]
    refine Out.int rfl (Nat.le_refl _) hs ?_
    simpa[VT.nodes,Int.add_comm]using hK
end Go.Proofs.YtdmamdnkcefmmaaGreatDoor
