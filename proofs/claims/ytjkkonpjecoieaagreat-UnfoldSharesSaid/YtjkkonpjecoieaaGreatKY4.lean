import Derived.Test.YtjkkonpjecoieaaGreatKNum
import Derived.Test.YtjkkonpjecoieaaGreatProg
import Derived.KernelRfl
import Derived.Test.YtjkkonpjecoieaaGreatAbsQ1
set_option linter.unusedSimpArgs false
set_option linter.unusedVariables false
namespace Go.Proofs.YtjkkonpjecoieaaGreat
open Go Go.Abs
set_option maxRecDepth 100000
def znr:Nat→List Bool
 | 5=>rl false [1,2,2,1,24]
 | _=>[]
noncomputable def zt0:Code:=Tryz.f72.body.getD .skip
noncomputable def zRO:List ResultVar:=Tryz.f72.results.toList
def zns (t1 t2 t5:AV):List AV:=ux 1 (t1::t2::ux 2 (t5::ux 24 []))
def zRM:List Bool:=znr 5
noncomputable def zRK:Code:=zap [1,1,1,0,1,0,0] zt0
def zRJ (K:Kt):AExit→List AV→zaa→Prop:=zaq tP znr [1,1,1,0,1,0] zt0 (zaA tP zRO K)
def zCk (t1 t2 t5:AV) (H:zaa) (K:Kt):Prop:=ALoop tP zRK (zRJ K) (zns t1 t2 t5) H
def ztZ (t1 t2 t5:AV) (H:zaa) (K:Kt) (Kb5:Lt):Prop:=
 zaf 2 t2 fun t16=>
 zae false 1 t16 H fun t17=>
 zah 1 t17 fun t18=>
 zac .lss false t5 t18 fun t19=>
 zag t19
 (zaf 2 t2 fun t22=>
 zae false 1 t22 H fun t23=>
 zai 3 t23 t5 fun t25=>
 zae true 3 t25 H fun t26=>
 ACalls tP zhN [t26,t1] H fun t28 H=>
 aUn .not t28 fun t29=>
 zag t29
 (K (.bool false) H)
 (zac .add false t5 (.int .i64 1) fun t21=>
 Kb5 (zns t1 t2 t21) H))
 (K (.bool true) H)
def zCj (t0 t1:AV) (H:zaa) (K:Kt):Prop:=
 zao t0 H fun t2 H=>
 zbj t1 fun t7=>
 zae false 1 t7 H fun t8=>
 zac .sub false t8 (.int .i64 1) fun t9=>
 zbj t1 fun t10=>
 zam 1 t10 t9 H fun H=>
 zbj t1 fun t12=>
 zae false 1 t12 H fun t13=>
 zac .lss false t13 (.int .i64 0) fun t14=>
 zag t14
 (K (.bool false) H)
 (zCk t1 t2 (.int .i64 0) H K)
theorem zRL {t1 t2 t5:AV} {H:zaa} {K:Kt} (Inv:Nat→AV→zaa→Prop) (n:Nat) (h0:HSc H→Inv n t5 H)
  (round:Rd1 (fun t5=>zns t1 t2 t5) (fun t5=>fun H Kb5=>ztZ t1 t2 t5 H K Kb5) H Inv):zCk t1 t2 t5 H K:=
 lp1 (M:=znr) zRM t5 (by kernel_rfl) Inv n h0 round
theorem zRN {t0 t1:AV} {H:zaa} {K:Kt} (h:HSc H→zCj t0 t1 H K):ACalls tP zhN [t0,t1] H K:=
 zan (M:=znr) Tryz.func72 (c:=zt0) (by kernel_rfl) (fun hs=>Eq.mpr (by kernel_rfl) (h hs))
def zOv (_:Nat):List Bool:=[]
noncomputable def zOw:Code:=Tryz.f30.body.getD .skip
def zBe (t0:AV) (H:zaa) (K:Kt):Prop:=
 zao t0 H fun t1 H=>
 zaw [(.int .i64 0)] H fun t3 H=>
 zam 1 t3 (.int .i64 250) H fun H=>
 zae true 3 t1 H fun t4=>
 ACalls tP zhN [t4,t3] H fun t5 H=>
 K t5 H
theorem zOx {t0:AV} {H:zaa} {K:Kt} (h:HSc H→zBe t0 H K):ACalls tP zpD [t0] H K:=
 zan (M:=zOv) Tryz.func30 (c:=zOw) (by kernel_rfl) (fun hs=>Eq.mpr (by kernel_rfl) (h hs))
def zd9:Nat→List Bool
 | 4=>rl false [13,3,43]
 | 9=>rl false [13,3,14,3,26]
 | 15=>rl false [7,1,5,3,14,3,14,3,9]
 | _=>[]
noncomputable def zsT:Code:=Tryz.f29.body.getD .skip
noncomputable def zOt:List ResultVar:=Tryz.f29.results.toList
def ziq (t13 t14 t15:AV):List AV:=ux 13 (t13::t14::t15::ux 43 [])
def zBc:List Bool:=zd9 4
noncomputable def zsU:Code:=zap [1,1,0,1,0,0] zsT
def zA7 (K:Kt):AExit→List AV→zaa→Prop:=zaq tP zd9 [1,1,0,1,0] zsT (zaA tP zOt K)
def zBa (t13 t14 t15:AV) (H:zaa) (K:Kt):Prop:=ALoop tP zsU (zA7 K) (ziq t13 t14 t15) H
def zmf (t13 t14 t15 t30 t31 t32:AV):List AV:=ux 13 (t13::t14::t15::ux 14 (t30::t31::t32::ux 26 []))
def zBd:List Bool:=zd9 9
noncomputable def zsV:Code:=zap [1,1,0,0,1,1,1,0,0] zsU
def zA8 (K:Kt) (Kb4:Lt):AExit→List AV→zaa→Prop:=zaq tP zd9 [1,1,0,0,1,1,1,0] zsU (zbD zBc Kb4 (zA7 K))
def zBb (t13 t14 t15 t30 t31 t32:AV) (H:zaa) (K:Kt) (Kb4:Lt):Prop:=ALoop tP zsV (zA8 K Kb4) (zmf t13 t14 t15 t30 t31 t32) H
def zme (t7 t13 t14 t15 t30 t31 t32 t47 t48 t49:AV):List AV:=ux 7 (t7::ux 5 (t13::t14::t15::ux 14 (t30::t31::t32::ux 14 (t47::t48::t49::ux 9 []))))
def zOr:List Bool:=zd9 15
noncomputable def zOn:Code:=zap [1,1,0,0,1,1,1,1,0,0] zsV
def zOm (K:Kt) (Kb4:Lt) (Kb9:Lt):AExit→List AV→zaa→Prop:=zaq tP zd9 [1,1,0,0,1,1,1,1,0] zsV (zbD zBd Kb9 (zA8 K Kb4))
def zA9 (t7 t13 t14 t15 t30 t31 t32 t47 t48 t49:AV) (H:zaa) (K:Kt) (Kb4:Lt) (Kb9:Lt):Prop:=ALoop tP zOn (zOm K Kb4 Kb9) (zme t7 t13 t14 t15 t30 t31 t32 t47 t48 t49) H
def zsQ (t7 t13 t14 t15 t30 t31 t32 t47 t48 t49:AV) (H:zaa) (K:Kt) (Kb4:Lt) (Kb9:Lt) (Kb15:Lt):Prop:=
 zac .lss false t49 t48 fun t50=>
 zag t50
 (zai 3 t47 t49 fun t51=>
 zae true 3 t51 H fun t52=>
 zaw [(.int .i64 0),(.int .i64 0),.snil] H fun t9 H=>
 zam 3 t9 t52 H fun H=>
 zae true 3 t9 H fun t53=>
 ACalls tP zhN [t53,t7] H fun t54 H=>
 aUn .not t54 fun t55=>
 zag t55
 (K (.bool false) H)
 (zac .add false t49 (.int .i64 1) fun t56=>
 Kb15 (zme t7 t13 t14 t15 t30 t31 t32 t47 t48 t56) H))
 (zac .add false t32 (.int .i64 1) fun t57=>
 Kb9 (zmf t13 t14 t15 t30 t31 t57) H)
def zsS (t13 t14 t15 t30 t31 t32:AV) (H:zaa) (K:Kt) (Kb4:Lt) (Kb9:Lt):Prop:=
 zac .lss false t32 t31 fun t33=>
 zag t33
 (zai 2 t30 t32 fun t34=>
 zae true 2 t34 H fun t35=>
 zaw [(.str []),.snil] H fun t6 H=>
 zam 2 t6 t35 H fun H=>
 zaf 0 t6 fun t36=>
 zae false 1 t36 H fun t37=>
 zah 0 t37 fun t38=>
 zac .gtr false t38 (.int .i64 40) fun t39=>
 zab t39 false H (fun K'=>zaf 1 t6 (K' · H)) fun t41 H=>
 zab t39 false H (fun K'=>zae false 1 t41 H (K' · H)) fun t42 H=>
 zab t39 false H (fun K'=>zah 1 t42 (K' · H)) fun t43 H=>
 zab t39 false H (fun K'=>zac .gtr false t43 (.int .i64 8) (K' · H)) fun t44 H=>
 zaj t39 (.bool true) t44 fun t45=>
 zag t45
 (K (.bool false) H)
 (zaw [(.int .i64 0)] H fun t7 H=>
 zam 1 t7 (.int .i64 20) H fun H=>
 zaf 1 t6 fun t46=>
 zae false 1 t46 H fun t47=>
 zah 1 t47 fun t48=>
 zA9 t7 t13 t14 t15 t30 t31 t32 t47 t48 (.int .i64 0) H K Kb4 Kb9))
 (zac .add false t15 (.int .i64 1) fun t58=>
 Kb4 (ziq t13 t14 t58) H)
def zsR (t13 t14 t15:AV) (H:zaa) (K:Kt) (Kb4:Lt):Prop:=
 zac .lss false t15 t14 fun t16=>
 zag t16
 (zai 3 t13 t15 fun t17=>
 zae true 3 t17 H fun t18=>
 zaw [(.str []),(.int .i64 0),.snil] H fun t4 H=>
 zam 3 t4 t18 H fun H=>
 zaf 0 t4 fun t19=>
 zae false 1 t19 H fun t20=>
 zah 0 t20 fun t21=>
 zac .gtr false t21 (.int .i64 40) fun t22=>
 zab t22 false H (fun K'=>zaf 2 t4 (K' · H)) fun t24 H=>
 zab t22 false H (fun K'=>zae false 1 t24 H (K' · H)) fun t25 H=>
 zab t22 false H (fun K'=>zah 1 t25 (K' · H)) fun t26 H=>
 zab t22 false H (fun K'=>zac .gtr false t26 (.int .i64 10) (K' · H)) fun t27 H=>
 zaj t22 (.bool true) t27 fun t28=>
 zag t28
 (K (.bool false) H)
 (zaf 2 t4 fun t29=>
 zae false 1 t29 H fun t30=>
 zah 1 t30 fun t31=>
 zBb t13 t14 t15 t30 t31 (.int .i64 0) H K Kb4))
 (K (.bool true) H)
def zsP (t0:AV) (H:zaa) (K:Kt):Prop:=
 zah 1 t0 fun t11=>
 zac .gtr false t11 (.int .i64 14) fun t12=>
 zag t12
 (K (.bool false) H)
 (zah 1 t0 fun t14=>
 zBa t0 t14 (.int .i64 0) H K)
theorem zOo {t7 t13 t14 t15 t30 t31 t32 t47 t48 t49:AV} {H:zaa} {K:Kt} {Kb4:Lt} {Kb9:Lt} (Inv:Nat→AV→zaa→Prop) (n:Nat) (h0:HSc H→Inv n t49 H)
  (round:Rd1 (fun t49=>zme t7 t13 t14 t15 t30 t31 t32 t47 t48 t49) (fun t49=>fun H Kb15=>zsQ t7 t13 t14 t15 t30 t31 t32 t47 t48 t49 H K Kb4 Kb9 Kb15) H Inv):zA9 t7 t13 t14 t15 t30 t31 t32 t47 t48 t49 H K Kb4 Kb9:=
 lp1 (M:=zd9) zOr t49 (by kernel_rfl) Inv n h0 round
theorem zOq {t13 t14 t15 t30 t31 t32:AV} {H:zaa} {K:Kt} {Kb4:Lt} (Inv:Nat→AV→zaa→Prop) (n:Nat) (h0:HSc H→Inv n t32 H)
  (round:Rd1 (fun t32=>zmf t13 t14 t15 t30 t31 t32) (fun t32=>fun H Kb9=>zsS t13 t14 t15 t30 t31 t32 H K Kb4 Kb9) H Inv):zBb t13 t14 t15 t30 t31 t32 H K Kb4:=
 lp1 (M:=zd9) zBd t32 (by kernel_rfl) Inv n h0 round
theorem zOp {t13 t14 t15:AV} {H:zaa} {K:Kt} (Inv:Nat→AV→zaa→Prop) (n:Nat) (h0:HSc H→Inv n t15 H)
  (round:Rd1 (fun t15=>ziq t13 t14 t15) (fun t15=>fun H Kb4=>zsR t13 t14 t15 H K Kb4) H Inv):zBa t13 t14 t15 H K:=
 lp1 (M:=zd9) zBc t15 (by kernel_rfl) Inv n h0 round
theorem zOs {t0:AV} {H:zaa} {K:Kt} (h:HSc H→zsP t0 H K):ACalls tP zpC [t0] H K:=
 zan (M:=zd9) Tryz.func29 (c:=zsT) (by kernel_rfl) (fun hs=>Eq.mpr (by kernel_rfl) (h hs))
def zIy (_:Nat):List Bool:=[]
noncomputable def zIz:Code:=Tryz.f121.body.getD .skip
def zy2 (t0 t1 t2:AV) (H:zaa) (K:Kt):Prop:=
 zao t1 H fun t4 H=>
 zaz [.snil,(.int .i64 0),(.int .i64 0)] [(0,1),(1,1),(2,1)] [(0,t0),(1,t2),(2,(.int .i64 200))] fun t10=>
 zao t10 H fun t11 H=>
 zae true 3 t4 H fun t13=>
 ACalls tP zjn [t11,t13] H fun t14 H=>
 K t14 H
theorem zIA {t0 t1 t2:AV} {H:zaa} {K:Kt} (h:HSc H→zy2 t0 t1 t2 H K):ACalls tP zhx [t0,t1,t2] H K:=
 zan (M:=zIy) Tryz.func121 (c:=zIz) (by kernel_rfl) (fun hs=>Eq.mpr (by kernel_rfl) (h hs))
def zeu:Nat→List Bool
 | 171022=>rl false [2,2,16,1,53,1,34]
 | 150010=>rl false [2,2,1,2,13,2,87]
 | 100007=>rl false [2,2,1,2,13,1,88]
 | 100002=>rl false [2,2,105]
 | _=>[]
noncomputable def zev:Code:=Tryz.f165.body.getD .skip
noncomputable def zlB:List ResultVar:=Tryz.f165.results.toList
def zgL (t2 t3 t5 t6:AV) (H:zaa) (K:Kt):Prop:=
 zaf 0 t3 fun t79=>
 zae false 1 t79 H fun t80=>
 zac .neq false t80 (.int .i64 4) fun t81=>
 zab t81 true H (fun K'=>zaf 0 t3 (K' · H)) fun t83 H=>
 zab t81 true H (fun K'=>zae false 1 t83 H (K' · H)) fun t84 H=>
 zab t81 true H (fun K'=>zac .neq false t84 (.int .i64 5) (K' · H)) fun t85 H=>
 zaj t81 t85 (.bool false) fun t86=>
 zab t86 true H (fun K'=>zaf 1 t3 (K' · H)) fun t88 H=>
 zab t86 true H (fun K'=>zae false 1 t88 H (K' · H)) fun t89 H=>
 zab t86 true H (fun K'=>zac .neq false t89 (.int .i64 0) (K' · H)) fun t90 H=>
 zaj t86 t90 (.bool false) fun t91=>
 zag t91
 (K (.bool false) H)
 (zaf 2 t3 fun t92=>
 zae false 1 t92 H fun t93=>
 zah 1 t93 fun t94=>
 zac .lss false t94 t5 fun t96=>
 zab t96 false H (fun K'=>zaf 2 t3 (K' · H)) fun t98 H=>
 zab t96 false H (fun K'=>zae false 1 t98 H (K' · H)) fun t99 H=>
 zab t96 false H (fun K'=>zah 1 t99 (K' · H)) fun t100 H=>
 zab t96 false H (fun K'=>K' t6 H) fun t101 H=>
 zab t96 false H (fun K'=>zac .gtr false t100 t101 (K' · H)) fun t102 H=>
 zaj t96 (.bool true) t102 fun t103=>
 zag t103
 (K (.bool false) H)
 (zaf 2 t3 fun t104=>
 zae false 1 t104 H fun t105=>
 zcs zjt [t2] fun t106=>
 ACalls tP zfr [t105,t106] H fun t107 H=>
 aUn .not t107 fun t108=>
 K t108 H))
def zdD (t2 t3 t5 t6:AV) (H:zaa) (K:Kt):Prop:=
 zgL t2 t3 t5 t6 H K
noncomputable def zLw:Code:=zap [1,1,1,1,0,1,0,1,1,1,1,1,1,1,1,1] zev
def zLv (K:Kt):AExit→List AV→zaa→Prop:=zaq tP zeu [1,1,1,1,0,1,0,1,1,1,1,1,1,1,1,1] zev (zaA tP zlB K)
def zsa (t2 t3 t20 t74:AV) (H:zaa) (K:Kt):Prop:=AWp tP zLw (zLv K) (ux 2 (t2::t3::ux 16 (t20::ux 53 (t74::ux 34 [])))) H
def zlA (t2 t3 t20 t74:AV) (H:zaa) (K:Kt):Prop:=
 zag t74
 (zdD t2 t3 (.int .i64 1) (.int .i64 1) H K)
 (zac .eql false t20 (.int .i64 9) fun t78=>
 zag t78
 (zdD t2 t3 (.int .i64 1) (.int .i64 7) H K)
 (K (.bool false) H))
noncomputable def zLu:Code:=zap [1,1,1,1,0,1,0,1] zev
def zLt (K:Kt):AExit→List AV→zaa→Prop:=zaq tP zeu [1,1,1,1,0,1,0,1] zev (zaA tP zlB K)
def zlz (t2 t3 t5 t6 t20 t21:AV) (H:zaa) (K:Kt):Prop:=AWp tP zLu (zLt K) (ux 2 (t2::t3::ux 1 (t5::t6::ux 13 (t20::t21::ux 87 [])))) H
def zdQ (t2 t3 t5 t6 t20 t21:AV) (H:zaa) (K:Kt):Prop:=
 zag t21
 (zdD t2 t3 t5 t6 H K)
 (zac .eql false t20 (.int .i64 4) fun t26=>
 zag t26
 (zad H (fun K'=>zaf 1 t3 (K' · H)) fun t27=>
 zad H (fun K'=>zal false 1 t27 H (K' · H)) fun t28=>
 zad H (fun K'=>zac .lss false t28 (.int .i64 0) (K' · H)) fun t29=>
 zad H (fun K'=>K' t29 H) fun t30=>
 zab t30 false H (fun K'=>zad H (fun K''=>zaf 1 t3 (K'' · H)) (K' · H)) fun t31 H=>
 zab t30 false H (fun K'=>zad H (fun K''=>zal false 1 t31 H (K'' · H)) (K' · H)) fun t32 H=>
 zab t30 false H (fun K'=>zad H (fun K''=>zal false 1 t2 H (K'' · H)) (K' · H)) fun t33 H=>
 zab t30 false H (fun K'=>zad H (fun K''=>zbj t33 (K'' · H)) (K' · H)) fun t34 H=>
 zab t30 false H (fun K'=>zad H (fun K''=>zaf 1 t34 (K'' · H)) (K' · H)) fun t35 H=>
 zab t30 false H (fun K'=>zad H (fun K''=>zal false 1 t35 H (K'' · H)) (K' · H)) fun t36 H=>
 zab t30 false H (fun K'=>zad H (fun K''=>zac .geq false t32 t36 (K'' · H)) (K' · H)) fun t37 H=>
 zad H (fun K'=>zaj t30 (.bool true) t37 (K' · H)) fun t38=>
 zag t38
 (K (.bool false) H)
 (zdD t2 t3 t5 t6 H K))
 (zac .eql false t20 (.int .i64 5) fun t40=>
 zag t40
 (zad H (fun K'=>zaf 1 t3 (K' · H)) fun t41=>
 zad H (fun K'=>zal false 1 t41 H (K' · H)) fun t42=>
 zad H (fun K'=>zac .lss false t42 (.int .i64 0) (K' · H)) fun t43=>
 zad H (fun K'=>K' t43 H) fun t44=>
 zab t44 false H (fun K'=>zad H (fun K''=>zaf 1 t3 (K'' · H)) (K' · H)) fun t45 H=>
 zab t44 false H (fun K'=>zad H (fun K''=>zal false 1 t45 H (K'' · H)) (K' · H)) fun t46 H=>
 zab t44 false H (fun K'=>zad H (fun K''=>zal false 1 t2 H (K'' · H)) (K' · H)) fun t47 H=>
 zab t44 false H (fun K'=>zad H (fun K''=>zbj t47 (K'' · H)) (K' · H)) fun t48 H=>
 zab t44 false H (fun K'=>zad H (fun K''=>zaf 0 t48 (K'' · H)) (K' · H)) fun t49 H=>
 zab t44 false H (fun K'=>zad H (fun K''=>zal false 1 t49 H (K'' · H)) (K' · H)) fun t50 H=>
 zab t44 false H (fun K'=>zad H (fun K''=>zah 1 t50 (K'' · H)) (K' · H)) fun t51 H=>
 zab t44 false H (fun K'=>zad H (fun K''=>zac .geq false t46 t51 (K'' · H)) (K' · H)) fun t52 H=>
 zad H (fun K'=>zaj t44 (.bool true) t52 (K' · H)) fun t53=>
 zag t53
 (K (.bool false) H)
 (zad H (fun K'=>zal false 1 t2 H (K' · H)) fun t54=>
 zad H (fun K'=>zbj t54 (K' · H)) fun t55=>
 zad H (fun K'=>zaf 0 t55 (K' · H)) fun t56=>
 zad H (fun K'=>zal false 1 t56 H (K' · H)) fun t57=>
 zad H (fun K'=>zaf 1 t3 (K' · H)) fun t58=>
 zad H (fun K'=>zal false 1 t58 H (K' · H)) fun t59=>
 zad H (fun K'=>zai 3 t57 t59 (K' · H)) fun t60=>
 zad H (fun K'=>zaf 1 t60 (K' · H)) fun t61=>
 zad H (fun K'=>zal false 1 t61 H (K' · H)) fun t62=>
 zad H (fun K'=>zal false 1 t2 H (K' · H)) fun t63=>
 zad H (fun K'=>zbj t63 (K' · H)) fun t64=>
 zad H (fun K'=>zaf 0 t64 (K' · H)) fun t65=>
 zad H (fun K'=>zal false 1 t65 H (K' · H)) fun t66=>
 zad H (fun K'=>zaf 1 t3 (K' · H)) fun t67=>
 zad H (fun K'=>zal false 1 t67 H (K' · H)) fun t68=>
 zad H (fun K'=>zai 3 t66 t68 (K' · H)) fun t69=>
 zad H (fun K'=>zaf 1 t69 (K' · H)) fun t70=>
 zad H (fun K'=>zal false 1 t70 H (K' · H)) fun t71=>
 zad H (fun K'=>K' t62 H) fun t5=>
 zad H (fun K'=>K' t71 H) fun t6=>
 zdD t2 t3 t5 t6 H K))
 (zac .eql false t20 (.int .i64 6) fun t73=>
 zag t73
 (zdD t2 t3 (.int .i64 2) (.int .i64 6) H K)
 (zac .eql false t20 (.int .i64 7) fun t75=>
 zag t75
 (zsa t2 t3 t20 t75 H K)
 (zac .eql false t20 (.int .i64 8) fun t76=>
 zsa t2 t3 t20 t76 H K)))))
noncomputable def zLr:Code:=zap [1,1,1,1,0,1] zev
def zLq (K:Kt):AExit→List AV→zaa→Prop:=zaq tP zeu [1,1,1,1,0,1] zev (zaA tP zlB K)
def zAd (t2 t3 t5 t6 t20:AV) (H:zaa) (K:Kt):Prop:=AWp tP zLr (zLq K) (ux 2 (t2::t3::ux 1 (t5::t6::ux 13 (t20::ux 88 [])))) H
def zr9 (t2 t3 t5 t6 t20:AV) (H:zaa) (K:Kt):Prop:=
 zac .eql false t20 (.int .i64 1) fun t22=>
 zag t22
 (zlz t2 t3 t5 t6 t20 t22 H K)
 (zac .eql false t20 (.int .i64 2) fun t23=>
 zag t23
 (zlz t2 t3 t5 t6 t20 t23 H K)
 (zac .eql false t20 (.int .i64 3) fun t24=>
 zlz t2 t3 t5 t6 t20 t24 H K))
noncomputable def zLo:Code:=zap [1,1] zev
def zLn (K:Kt):AExit→List AV→zaa→Prop:=zaq tP zeu [1,1] zev (zaA tP zlB K)
def zr7 (t2 t3:AV) (H:zaa) (K:Kt):Prop:=AWp tP zLo (zLn K) (ux 2 (t2::t3::ux 105 [])) H
def zr8 (t2 t3:AV) (H:zaa) (K:Kt):Prop:=
 zae false 1 t2 H fun t14=>
 zbj t14 fun t15=>
 zaf 2 t15 fun t16=>
 zae false 1 t16 H fun t17=>
 zac .lss false t17 (.int .i64 0) fun t18=>
 zag t18
 (K (.bool false) H)
 (zaf 0 t3 fun t19=>
 zae false 1 t19 H fun t20=>
 zAd t2 t3 (.int .i64 0) (.int .i64 0) t20 H K)
def zAc (t0 t1:AV) (H:zaa) (K:Kt):Prop:=
 zao t0 H fun t2 H=>
 zao t1 H fun t3 H=>
 zae false 1 t2 H fun t7=>
 zbj t7 fun t8=>
 zaf 2 t8 fun t9=>
 zae false 1 t9 H fun t10=>
 zac .sub false t10 (.int .i64 1) fun t11=>
 zbj t7 fun t12=>
 zaf 2 t12 fun t13=>
 zam 1 t13 t11 H fun H=>
 zr7 t2 t3 H K
theorem zAf {t2 t3 t20 t74:AV} {H:zaa} {K:Kt} (h:HSc H→zlA t2 t3 t20 t74 H K):zsa t2 t3 t20 t74 H K:=
 fun B w G a hH hF hd=>zfe (M:=zeu) _ _ _ _ (Eq.mpr (by kernel_rfl) (h hH.sc)) B w G a hH hF hd
theorem zAe {t2 t3 t5 t6 t20 t21:AV} {H:zaa} {K:Kt} (h:HSc H→zdQ t2 t3 t5 t6 t20 t21 H K):zlz t2 t3 t5 t6 t20 t21 H K:=
 fun B w G a hH hF hd=>zfe (M:=zeu) _ _ _ _ (Eq.mpr (by kernel_rfl) (h hH.sc)) B w G a hH hF hd
theorem zLs {t2 t3 t5 t6 t20:AV} {H:zaa} {K:Kt} (h:HSc H→zr9 t2 t3 t5 t6 t20 H K):zAd t2 t3 t5 t6 t20 H K:=
 fun B w G a hH hF hd=>zfe (M:=zeu) _ _ _ _ (Eq.mpr (by kernel_rfl) (h hH.sc)) B w G a hH hF hd
theorem zLp {t2 t3:AV} {H:zaa} {K:Kt} (h:HSc H→zr8 t2 t3 H K):zr7 t2 t3 H K:=
 fun B w G a hH hF hd=>zfe (M:=zeu) _ _ _ _ (Eq.mpr (by kernel_rfl) (h hH.sc)) B w G a hH hF hd
theorem zLx {t0 t1:AV} {H:zaa} {K:Kt} (h:HSc H→zAc t0 t1 H K):ACalls tP zjn [t0,t1] H K:=
 zan (M:=zeu) Tryz.func165 (c:=zev) (by kernel_rfl) (fun hs=>Eq.mpr (by kernel_rfl) (h hs))
def zM0 (_:Nat):List Bool:=[]
noncomputable def zM1:Code:=Tryz.f199.body.getD .skip
def zAE (t0 t1:AV) (H:zaa) (K:Kt):Prop:=
 zao t0 H fun t2 H=>
 zae false 1 t1 H fun t4=>
 zae true 3 t2 H fun t5=>
 ACalls tP zjn [t4,t5] H fun t6 H=>
 aUn .not t6 fun t7=>
 K t7 H
theorem zM2 {t0 t1:AV} {H:zaa} {K:Kt} (h:HSc H→zAE t0 t1 H K):ACalls tP zjt [t0,t1] H K:=
 zan (M:=zM0) Tryz.func199 (c:=zM1) (by kernel_rfl) (fun hs=>Eq.mpr (by kernel_rfl) (h hs))
def zMU (_:Nat):List Bool:=[]
noncomputable def zMV:Code:=Tryz.f191.body.getD .skip
def zAC (t0 t1:AV) (H:zaa) (K:Kt):Prop:=
 ACalls tP zpv [t0,t1] H fun t7 H=>
 zac .geq false t7 (.int .i64 0) fun t8=>
 K t8 H
theorem zMW {t0 t1:AV} {H:zaa} {K:Kt} (h:HSc H→zAC t0 t1 H K):ACalls tP zfr [t0,t1] H K:=
 zan (M:=zMU) Tryz.func191 (c:=zMV) (by kernel_rfl) (fun hs=>Eq.mpr (by kernel_rfl) (h hs))
def zl4:Nat→List Bool
 | 2=>rl false [0,2,5,2,10]
 | _=>[]
noncomputable def zsE:Code:=Tryz.f208.body.getD .skip
noncomputable def zNm:List ResultVar:=Tryz.f208.results.toList
def zl5 (t0 t1 t7 t8:AV):List AV:=t0::t1::ux 5 (t7::t8::ux 10 [])
def zNk:List Bool:=zl4 2
noncomputable def zNi:Code:=zap [1,0,1,0,0] zsE
def zNh (K:Kt):AExit→List AV→zaa→Prop:=zaq tP zl4 [1,0,1,0] zsE (zaA tP zNm K)
def zAM (t0 t1 t7 t8:AV) (H:zaa) (K:Kt):Prop:=ALoop tP zNi (zNh K) (zl5 t0 t1 t7 t8) H
def zsD (t0 t1 t7 t8:AV) (H:zaa) (K:Kt) (Kb2:Lt):Prop:=
 zac .lss false t8 t7 fun t9=>
 zag t9
 (zai 3 t0 t8 fun t14=>
 zae true 3 t14 H fun t15=>
 aCallV tP t1 [t15] H fun t16 H=>
 zag t16
 (K t8 H)
 (zac .add false t8 (.int .i64 1) fun t18=>
 Kb2 (zl5 t0 t1 t7 t18) H))
 (K (.int .i64 (-1)) H)
def zAL (t0 t1:AV) (H:zaa) (K:Kt):Prop:=
 zah 1 t0 fun t7=>
 zAM t0 t1 t7 (.int .i64 0) H K
theorem zNj {t0 t1 t7 t8:AV} {H:zaa} {K:Kt} (Inv:Nat→AV→zaa→Prop) (n:Nat) (h0:HSc H→Inv n t8 H)
  (round:Rd1 (fun t8=>zl5 t0 t1 t7 t8) (fun t8=>fun H Kb2=>zsD t0 t1 t7 t8 H K Kb2) H Inv):zAM t0 t1 t7 t8 H K:=
 lp1 (M:=zl4) zNk t8 (by kernel_rfl) Inv n h0 round
theorem zNl {t0 t1:AV} {H:zaa} {K:Kt} (h:HSc H→zAL t0 t1 H K):ACalls tP zpv [t0,t1] H K:=
 zan (M:=zl4) Tryz.func208 (c:=zsE) (by kernel_rfl) (fun hs=>Eq.mpr (by kernel_rfl) (h hs))
def zeb:Nat→List Bool
 | 8=>rl false [2,1,1,1,3,2,49,3,46]
 | 13=>rl false [2,1,1,1,3,2,67,3,28]
 | 20=>rl false [4,1,9,1,78,3,12]
 | _=>[]
noncomputable def zfQ:Code:=Tryz.f45.body.getD .skip
noncomputable def zti:List ResultVar:=Tryz.f45.results.toList
def zmx (t2 t4 t8 t9 t59 t60 t61:AV):List AV:=ux 2 (t2::ux 1 (t4::ux 3 (t8::t9::ux 49 (t59::t60::t61::ux 46 []))))
def zPI:List Bool:=zeb 8
noncomputable def zPC:Code:=zap [1,1,1,1,1,0,1,0,0] zfQ
def zPz (K:Kt):AExit→List AV→zaa→Prop:=zaq tP zeb [1,1,1,1,1,0,1,0] zfQ (zaA tP zti K)
def zBB (t2 t4 t8 t9 t59 t60 t61:AV) (H:zaa) (K:Kt):Prop:=ALoop tP zPC (zPz K) (zmx t2 t4 t8 t9 t59 t60 t61) H
def zmv (t2 t4 t8 t9 t77 t78 t79:AV):List AV:=ux 2 (t2::ux 1 (t4::ux 3 (t8::t9::ux 67 (t77::t78::t79::ux 28 []))))
def zPG:List Bool:=zeb 13
noncomputable def zPA:Code:=zap [1,1,1,1,1,1,0,1,0,0] zfQ
def zPx (K:Kt):AExit→List AV→zaa→Prop:=zaq tP zeb [1,1,1,1,1,1,0,1,0] zfQ (zaA tP zti K)
def zBA (t2 t4 t8 t9 t77 t78 t79:AV) (H:zaa) (K:Kt):Prop:=ALoop tP zPA (zPx K) (zmv t2 t4 t8 t9 t77 t78 t79) H
def zmw (t4 t14 t93 t94 t95:AV):List AV:=ux 4 (t4::ux 9 (t14::ux 78 (t93::t94::t95::ux 12 [])))
def zPH:List Bool:=zeb 20
noncomputable def zPB:Code:=zap [1,1,1,1,1,1,1,1,0,1,0,0] zfQ
def zPy (K:Kt):AExit→List AV→zaa→Prop:=zaq tP zeb [1,1,1,1,1,1,1,1,0,1,0] zfQ (zaA tP zti K)
def zmy (t4 t14 t93 t94 t95:AV) (H:zaa) (K:Kt):Prop:=ALoop tP zPB (zPy K) (zmw t4 t14 t93 t94 t95) H
def ztg (t4 t14 t93 t94 t95:AV) (H:zaa) (K:Kt) (Kb20:Lt):Prop:=
 zac .lss false t95 t94 fun t96=>
 zag t96
 (zai 3 t93 t95 fun t97=>
 zae true 3 t97 H fun t98=>
 zaw [(.int .i64 0),(.int .i64 0),.snil] H fun t16 H=>
 zam 3 t16 t98 H fun H=>
 zae true 3 t16 H fun t100=>
 zaf 2 t4 fun t101=>
 zae false 1 t101 H fun t102=>
 ACalls tP zhR [t100,t102] H fun t103 H=>
 zaB 3 [(.int .i64 0),(.int .i64 0),.snil] 1 [(0,t103)] fun t104=>
 zax za9 3 40 t14 t104 H fun t105 H=>
 zac .add false t95 (.int .i64 1) fun t106=>
 Kb20 (zmw t4 t105 t93 t94 t106) H)
 (zaI [t14,(.bool true)] (K · H))
def ztf (t2 t4 t8 t9 t77 t78 t79:AV) (H:zaa) (K:Kt) (Kb13:Lt):Prop:=
 zac .lss false t79 t78 fun t80=>
 zag t80
 (zai 3 t77 t79 fun t81=>
 zae true 3 t81 H fun t82=>
 zaw [(.int .i64 0),(.int .i64 0),.snil] H fun t13 H=>
 zam 3 t13 t82 H fun H=>
 zae true 3 t13 H fun t83=>
 ACalls tP zjR [t83,t9] H fun t85 H=>
 zac .gtr false t85 (.int .i64 200) fun t86=>
 zag t86
 (zaI [.snil,(.bool false)] (K · H))
 (zac .add false t79 (.int .i64 1) fun t87=>
 Kb13 (zmv t2 t4 t8 t9 t77 t78 t87) H))
 (zaf 2 t8 fun t88=>
 zae false 1 t88 H fun t89=>
 zai 2 t89 t2 fun t91=>
 zaf 1 t91 fun t92=>
 zae false 1 t92 H fun t93=>
 zah 1 t93 fun t94=>
 zmy t4 .snil t93 t94 (.int .i64 0) H K)
def zth (t2 t4 t8 t9 t59 t60 t61:AV) (H:zaa) (K:Kt) (Kb8:Lt):Prop:=
 zac .lss false t61 t60 fun t62=>
 zag t62
 (zai 3 t59 t61 fun t64=>
 zae true 3 t64 H fun t65=>
 zaw [(.int .i64 0),(.int .i64 0),.snil] H fun t11 H=>
 zam 3 t11 t65 H fun H=>
 zae true 3 t11 H fun t68=>
 ACalls tP zjQ [t68] H fun t69 H=>
 zai 1 t9 t61 fun t70=>
 zam 1 t70 t69 H fun H=>
 zac .add false t61 (.int .i64 1) fun t71=>
 Kb8 (zmx t2 t4 t8 t9 t59 t60 t71) H)
 (zaf 2 t8 fun t72=>
 zae false 1 t72 H fun t73=>
 zai 2 t73 t2 fun t75=>
 zaf 1 t75 fun t76=>
 zae false 1 t76 H fun t77=>
 zah 1 t77 fun t78=>
 zBA t2 t4 t8 t9 t77 t78 (.int .i64 0) H K)
def zBz (t0 t1 t2:AV) (H:zaa) (K:Kt):Prop:=
 zao t1 H fun t4 H=>
 zaf 0 t4 fun t17=>
 zae false 1 t17 H fun t18=>
 zac .neq false t18 (.int .i64 5) fun t19=>
 zab t19 false H (fun K'=>zaf 1 t4 (K' · H)) fun t21 H=>
 zab t19 false H (fun K'=>zae false 1 t21 H (K' · H)) fun t22 H=>
 zab t19 false H (fun K'=>zac .lss false t22 (.int .i64 0) (K' · H)) fun t23 H=>
 zaj t19 (.bool true) t23 fun t24=>
 zab t24 false H (fun K'=>zaf 1 t4 (K' · H)) fun t26 H=>
 zab t24 false H (fun K'=>zae false 1 t26 H (K' · H)) fun t27 H=>
 zab t24 false H (fun K'=>K' t0 H) fun t28 H=>
 zab t24 false H (fun K'=>zah 1 t28 (K' · H)) fun t29 H=>
 zab t24 false H (fun K'=>zac .geq false t27 t29 (K' · H)) fun t30 H=>
 zaj t24 (.bool true) t30 fun t31=>
 zag t31
 (zaI [.snil,(.bool false)] (K · H))
 (zaf 1 t4 fun t33=>
 zae false 1 t33 H fun t34=>
 zai 3 t0 t34 fun t35=>
 zae true 3 t35 H fun t36=>
 zaw [(.str []),(.int .i64 0),.snil] H fun t8 H=>
 zam 3 t8 t36 H fun H=>
 zaf 2 t4 fun t37=>
 zae false 1 t37 H fun t38=>
 zah 1 t38 fun t39=>
 zaf 1 t8 fun t40=>
 zae false 1 t40 H fun t41=>
 zac .neq false t39 t41 fun t42=>
 zab t42 false H (fun K'=>K' t2 H) fun t44 H=>
 zab t42 false H (fun K'=>zac .lss false t44 (.int .i64 0) (K' · H)) fun t45 H=>
 zaj t42 (.bool true) t45 fun t46=>
 zab t46 false H (fun K'=>K' t2 H) fun t48 H=>
 zab t46 false H (fun K'=>zaf 2 t8 (K' · H)) fun t49 H=>
 zab t46 false H (fun K'=>zae false 1 t49 H (K' · H)) fun t50 H=>
 zab t46 false H (fun K'=>zah 1 t50 (K' · H)) fun t51 H=>
 zab t46 false H (fun K'=>zac .geq false t48 t51 (K' · H)) fun t52 H=>
 zaj t46 (.bool true) t52 fun t53=>
 zag t53
 (zaI [.snil,(.bool false)] (K · H))
 (zaf 2 t4 fun t54=>
 zae false 1 t54 H fun t55=>
 zah 1 t55 fun t56=>
 zbr 8 [(.int .i64 0)] t56 t56 H fun t57 H=>
 zaf 2 t4 fun t58=>
 zae false 1 t58 H fun t59=>
 zah 1 t59 fun t60=>
 zBB t2 t4 t8 t57 t59 t60 (.int .i64 0) H K))
theorem zPE {t4 t14 t93 t94 t95:AV} {H:zaa} {K:Kt} (Inv:Nat→AV→AV→zaa→Prop) (n:Nat) (h0:HSc H→Inv n t14 t95 H)
  (round:Rd2 (fun t14=>fun t95=>zmw t4 t14 t93 t94 t95) (fun t14=>fun t95=>fun H Kb20=>ztg t4 t14 t93 t94 t95 H K Kb20) H Inv):zmy t4 t14 t93 t94 t95 H K:=
 lp2 (M:=zeb) zPH t14 t95 (by kernel_rfl) Inv n h0 round
theorem zPD {t2 t4 t8 t9 t77 t78 t79:AV} {H:zaa} {K:Kt} (Inv:Nat→AV→zaa→Prop) (n:Nat) (h0:HSc H→Inv n t79 H)
  (round:Rd1 (fun t79=>zmv t2 t4 t8 t9 t77 t78 t79) (fun t79=>fun H Kb13=>ztf t2 t4 t8 t9 t77 t78 t79 H K Kb13) H Inv):zBA t2 t4 t8 t9 t77 t78 t79 H K:=
 lp1 (M:=zeb) zPG t79 (by kernel_rfl) Inv n h0 round
theorem zPF {t2 t4 t8 t9 t59 t60 t61:AV} {H:zaa} {K:Kt} (Inv:Nat→AV→zaa→Prop) (n:Nat) (h0:HSc H→Inv n t61 H)
  (round:Rd1 (fun t61=>zmx t2 t4 t8 t9 t59 t60 t61) (fun t61=>fun H Kb8=>zth t2 t4 t8 t9 t59 t60 t61 H K Kb8) H Inv):zBB t2 t4 t8 t9 t59 t60 t61 H K:=
 lp1 (M:=zeb) zPI t61 (by kernel_rfl) Inv n h0 round
theorem zPJ {t0 t1 t2:AV} {H:zaa} {K:Kt} (h:HSc H→zBz t0 t1 t2 H K):ACalls tP zgn [t0,t1,t2] H K:=
 zan (M:=zeb) Tryz.func45 (c:=zfQ) (by kernel_rfl) (fun hs=>Eq.mpr (by kernel_rfl) (h hs))
def znL:Nat→List Bool
 | 3=>rl false [3,1,3,3,9]
 | _=>[]
noncomputable def zup:Code:=Tryz.f89.body.getD .skip
noncomputable def zSZ:List ResultVar:=Tryz.f89.results.toList
def znM (t3 t7 t8 t9:AV):List AV:=ux 3 (t3::ux 3 (t7::t8::t9::ux 9 []))
def zSX:List Bool:=znL 3
noncomputable def zSV:Code:=zap [1,1,0,1,0,0] zup
def zSU (K:Kt):AExit→List AV→zaa→Prop:=zaq tP znL [1,1,0,1,0] zup (zaA tP zSZ K)
def zCJ (t3 t7 t8 t9:AV) (H:zaa) (K:Kt):Prop:=ALoop tP zSV (zSU K) (znM t3 t7 t8 t9) H
def zuo (t3 t7 t8 t9:AV) (H:zaa) (K:Kt) (Kb3:Lt):Prop:=
 zac .lss false t9 t8 fun t10=>
 zag t10
 (zai 3 t7 t9 fun t11=>
 zae true 3 t11 H fun t12=>
 zaw [(.int .i64 0),(.int .i64 0),.snil] H fun t5 H=>
 zam 3 t5 t12 H fun H=>
 zae true 3 t5 H fun t14=>
 ACalls tP zjQ [t14] H fun t15 H=>
 zac .add false t3 t15 fun t16=>
 zac .add false t9 (.int .i64 1) fun t17=>
 Kb3 (znM t16 t7 t8 t17) H)
 (K t3 H)
def zCI (t0:AV) (H:zaa) (K:Kt):Prop:=
 zao t0 H fun t1 H=>
 zaf 2 t1 fun t6=>
 zae false 1 t6 H fun t7=>
 zah 1 t7 fun t8=>
 zCJ (.int .i64 1) t7 t8 (.int .i64 0) H K
theorem zSW {t3 t7 t8 t9:AV} {H:zaa} {K:Kt} (Inv:Nat→AV→AV→zaa→Prop) (n:Nat) (h0:HSc H→Inv n t3 t9 H)
  (round:Rd2 (fun t3=>fun t9=>znM t3 t7 t8 t9) (fun t3=>fun t9=>fun H Kb3=>zuo t3 t7 t8 t9 H K Kb3) H Inv):zCJ t3 t7 t8 t9 H K:=
 lp2 (M:=znL) zSX t3 t9 (by kernel_rfl) Inv n h0 round
theorem zSY {t0:AV} {H:zaa} {K:Kt} (h:HSc H→zCI t0 H K):ACalls tP zjQ [t0] H K:=
 zan (M:=znL) Tryz.func89 (c:=zup) (by kernel_rfl) (fun hs=>Eq.mpr (by kernel_rfl) (h hs))
def znN:Nat→List Bool
 | 5=>rl false [1,1,3,1,23,3,12]
 | _=>[]
noncomputable def zus:Code:=Tryz.f90.body.getD .skip
noncomputable def zS6:List ResultVar:=Tryz.f90.results.toList
def znO (t1 t5 t29 t30 t31:AV):List AV:=ux 1 (t1::ux 3 (t5::ux 23 (t29::t30::t31::ux 12 [])))
def zS4:List Bool:=znN 5
noncomputable def zS2:Code:=zap [1,1,1,0,1,0,0] zus
def zS1 (K:Kt):AExit→List AV→zaa→Prop:=zaq tP znN [1,1,1,0,1,0] zus (zaA tP zS6 K)
def zuu (t1 t5 t29 t30 t31:AV) (H:zaa) (K:Kt):Prop:=ALoop tP zS2 (zS1 K) (znO t1 t5 t29 t30 t31) H
def zut (t5:AV) (H:zaa) (K:Kt):Prop:=
 K t5 H
def znP (t5:AV) (H:zaa) (K:Kt):Prop:=
 zut t5 H K
def zur (t1 t5 t29 t30 t31:AV) (H:zaa) (K:Kt) (Kb5:Lt):Prop:=
 zac .lss false t31 t30 fun t32=>
 zag t32
 (zai 3 t29 t31 fun t33=>
 zae true 3 t33 H fun t34=>
 zaw [(.int .i64 0),(.int .i64 0),.snil] H fun t7 H=>
 zam 3 t7 t34 H fun H=>
 zae true 3 t7 H fun t36=>
 ACalls tP zjR [t36,t1] H fun t38 H=>
 zac .add false t5 t38 fun t39=>
 zac .gtr false t39 (.int .i64 200) fun t41=>
 zag t41
 (znP t39 H K)
 (zac .add false t31 (.int .i64 1) fun t42=>
 Kb5 (znO t1 t39 t29 t30 t42) H))
 (znP t5 H K)
def zuq (t0 t1:AV) (H:zaa) (K:Kt):Prop:=
 zao t0 H fun t2 H=>
 zaf 0 t2 fun t8=>
 zae false 1 t8 H fun t9=>
 zac .eql false t9 (.int .i64 4) fun t10=>
 zab t10 true H (fun K'=>zaf 1 t2 (K' · H)) fun t12 H=>
 zab t10 true H (fun K'=>zae false 1 t12 H (K' · H)) fun t13 H=>
 zab t10 true H (fun K'=>zac .geq false t13 (.int .i64 0) (K' · H)) fun t14 H=>
 zaj t10 t14 (.bool false) fun t15=>
 zab t15 true H (fun K'=>zaf 1 t2 (K' · H)) fun t17 H=>
 zab t15 true H (fun K'=>zae false 1 t17 H (K' · H)) fun t18 H=>
 zab t15 true H (fun K'=>K' t1 H) fun t19 H=>
 zab t15 true H (fun K'=>zah 1 t19 (K' · H)) fun t20 H=>
 zab t15 true H (fun K'=>zac .lss false t18 t20 (K' · H)) fun t21 H=>
 zaj t15 t21 (.bool false) fun t22=>
 zag t22
 (zaf 1 t2 fun t24=>
 zae false 1 t24 H fun t25=>
 zai 1 t1 t25 fun t26=>
 zae false 1 t26 H fun t27=>
 K t27 H)
 (zaf 2 t2 fun t28=>
 zae false 1 t28 H fun t29=>
 zah 1 t29 fun t30=>
 zuu t1 (.int .i64 1) t29 t30 (.int .i64 0) H K)
theorem zS3 {t1 t5 t29 t30 t31:AV} {H:zaa} {K:Kt} (Inv:Nat→AV→AV→zaa→Prop) (n:Nat) (h0:HSc H→Inv n t5 t31 H)
  (round:Rd2 (fun t5=>fun t31=>znO t1 t5 t29 t30 t31) (fun t5=>fun t31=>fun H Kb5=>zur t1 t5 t29 t30 t31 H K Kb5) H Inv):zuu t1 t5 t29 t30 t31 H K:=
 lp2 (M:=znN) zS4 t5 t31 (by kernel_rfl) Inv n h0 round
theorem zS5 {t0 t1:AV} {H:zaa} {K:Kt} (h:HSc H→zuq t0 t1 H K):ACalls tP zjR [t0,t1] H K:=
 zan (M:=znN) Tryz.func90 (c:=zus) (by kernel_rfl) (fun hs=>Eq.mpr (by kernel_rfl) (h hs))
def znQ:Nat→List Bool
 | 5=>rl false [1,1,2,2,29,3,13]
 | _=>[]
noncomputable def zux:Code:=Tryz.f91.body.getD .skip
noncomputable def zTd:List ResultVar:=Tryz.f91.results.toList
def znR (t1 t4 t5 t35 t36 t37:AV):List AV:=ux 1 (t1::ux 2 (t4::t5::ux 29 (t35::t36::t37::ux 13 [])))
def zTb:List Bool:=znQ 5
noncomputable def zS9:Code:=zap [1,1,1,0,1,0,0] zux
def zS8 (K:Kt):AExit→List AV→zaa→Prop:=zaq tP znQ [1,1,1,0,1,0] zux (zaA tP zTd K)
def ziE (t1 t4 t5 t35 t36 t37:AV) (H:zaa) (K:Kt):Prop:=ALoop tP zS9 (zS8 K) (znR t1 t4 t5 t35 t36 t37) H
def zuw (t1 t4 t5 t35 t36 t37:AV) (H:zaa) (K:Kt) (Kb5:Lt):Prop:=
 zac .lss false t37 t36 fun t38=>
 zag t38
 (zai 3 t35 t37 fun t39=>
 zae true 3 t39 H fun t40=>
 zaw [(.int .i64 0),(.int .i64 0),.snil] H fun t7 H=>
 zam 3 t7 t40 H fun H=>
 zad H (fun K'=>zaf 2 t5 (K' · H)) fun t41=>
 zad H (fun K'=>zal false 1 t41 H (K' · H)) fun t42=>
 zad H (fun K'=>zal true 3 t7 H (K' · H)) fun t43=>
 zad H (fun K'=>K' t1 H) fun t44=>
 zaE H (fun H K'=>ACalls tP zhR [t43,t44] H K') fun t45=>
 zad H (fun K'=>zaB 3 [(.int .i64 0),(.int .i64 0),.snil] 1 [(0,t45)] (K' · H)) fun t46=>
 zax za9 3 40 t42 t46 H fun t47 H=>
 zad H (fun K'=>zaf 2 t5 (K' · H)) fun t48=>
 zam 1 t48 t47 H fun H=>
 zac .add false t37 (.int .i64 1) fun t49=>
 Kb5 (znR t1 t4 t5 t35 t36 t49) H)
 (zae true 3 t5 H fun t50=>
 zam 3 t4 t50 H fun H=>
 zae true 3 t4 H fun r0=>
 K r0 H)
def zuv (t0 t1:AV) (H:zaa) (K:Kt):Prop:=
 zao t0 H fun t2 H=>
 zaw [(.int .i64 0),(.int .i64 0),.snil] H fun t4 H=>
 zaf 0 t2 fun t8=>
 zae false 1 t8 H fun t9=>
 zac .eql false t9 (.int .i64 4) fun t10=>
 zab t10 true H (fun K'=>zaf 1 t2 (K' · H)) fun t12 H=>
 zab t10 true H (fun K'=>zae false 1 t12 H (K' · H)) fun t13 H=>
 zab t10 true H (fun K'=>zac .geq false t13 (.int .i64 0) (K' · H)) fun t14 H=>
 zaj t10 t14 (.bool false) fun t15=>
 zab t15 true H (fun K'=>zaf 1 t2 (K' · H)) fun t17 H=>
 zab t15 true H (fun K'=>zae false 1 t17 H (K' · H)) fun t18 H=>
 zab t15 true H (fun K'=>K' t1 H) fun t19 H=>
 zab t15 true H (fun K'=>zah 1 t19 (K' · H)) fun t20 H=>
 zab t15 true H (fun K'=>zac .lss false t18 t20 (K' · H)) fun t21 H=>
 zaj t15 t21 (.bool false) fun t22=>
 zag t22
 (zaf 1 t2 fun t24=>
 zae false 1 t24 H fun t25=>
 zai 3 t1 t25 fun t26=>
 zae true 3 t26 H fun t27=>
 ACalls tP zhR [t27,.snil] H fun t28 H=>
 zam 3 t4 t28 H fun H=>
 zae true 3 t4 H fun r0=>
 K r0 H)
 (zaf 0 t2 fun t29=>
 zae false 1 t29 H fun t30=>
 zaf 1 t2 fun t31=>
 zae false 1 t31 H fun t32=>
 zaz [(.int .i64 0),(.int .i64 0),.snil] [(0,1),(1,1),(2,1)] [(0,t30),(1,t32)] fun t33=>
 zaw [(.int .i64 0),(.int .i64 0),.snil] H fun t5 H=>
 zam 3 t5 t33 H fun H=>
 zaf 2 t2 fun t34=>
 zae false 1 t34 H fun t35=>
 zah 1 t35 fun t36=>
 ziE t1 t4 t5 t35 t36 (.int .i64 0) H K)
theorem zTa {t1 t4 t5 t35 t36 t37:AV} {H:zaa} {K:Kt} (Inv:Nat→AV→zaa→Prop) (n:Nat) (h0:HSc H→Inv n t37 H)
  (round:Rd1 (fun t37=>znR t1 t4 t5 t35 t36 t37) (fun t37=>fun H Kb5=>zuw t1 t4 t5 t35 t36 t37 H K Kb5) H Inv):ziE t1 t4 t5 t35 t36 t37 H K:=
 lp1 (M:=znQ) zTb t37 (by kernel_rfl) Inv n h0 round
theorem zTc {t0 t1:AV} {H:zaa} {K:Kt} (h:HSc H→zuv t0 t1 H K):ACalls tP zhR [t0,t1] H K:=
 zan (M:=znQ) Tryz.func91 (c:=zux) (by kernel_rfl) (fun hs=>Eq.mpr (by kernel_rfl) (h hs))
def zO3 (_:Nat):List Bool:=[]
noncomputable def zO4:Code:=Tryz.f40.body.getD .skip
def zBt (t0 t1 t2:AV) (H:zaa) (K:Kt):Prop:=
 zao t1 H fun t4 H=>
 zae true 3 t4 H fun t7=>
 ACalls tP zhK [t7] H fun t8 H=>
 zac .leq false t8 (.int .i64 200) fun t9=>
 zab t9 true H (fun K'=>K' t0 H) fun t11 H=>
 zab t9 true H (fun K'=>zae true 3 t4 H (K' · H)) fun t12 H=>
 zab t9 true H (fun K'=>K' t2 H) fun t13 H=>
 zab t9 true H (fun K'=>ACalls tP zjO [t11,t12,t13] H K') fun t14 H=>
 zaj t9 t14 (.bool false) fun t15=>
 K t15 H
theorem zO5 {t0 t1 t2:AV} {H:zaa} {K:Kt} (h:HSc H→zBt t0 t1 t2 H K):ACalls tP zhH [t0,t1,t2] H K:=
 zan (M:=zO3) Tryz.func40 (c:=zO4) (by kernel_rfl) (fun hs=>Eq.mpr (by kernel_rfl) (h hs))
def zmW:Nat→List Bool
 | 3=>rl false [1,1,1,2,16]
 | _=>[]
noncomputable def ztG:Code:=Tryz.f55.body.getD .skip
noncomputable def zQC:List ResultVar:=Tryz.f55.results.toList
def zmX (t1 t3 t4:AV):List AV:=ux 1 (t1::ux 1 (t3::t4::ux 16 []))
def zQA:List Bool:=zmW 3
noncomputable def zQy:Code:=zap [1,1,0,1,0,0] ztG
def zQx (K:Kt):AExit→List AV→zaa→Prop:=zaq tP zmW [1,1,0,1,0] ztG (zaA tP zQC K)
def zBW (t1 t3 t4:AV) (H:zaa) (K:Kt):Prop:=ALoop tP zQy (zQx K) (zmX t1 t3 t4) H
def ztF (t1 t3 t4:AV) (H:zaa) (K:Kt) (Kb3:Lt):Prop:=
 zaf 2 t1 fun t6=>
 zae false 1 t6 H fun t7=>
 zah 1 t7 fun t8=>
 zac .lss false t4 t8 fun t9=>
 zag t9
 (zaf 2 t1 fun t13=>
 zae false 1 t13 H fun t14=>
 zai 3 t14 t4 fun t16=>
 zae true 3 t16 H fun t17=>
 ACalls tP zhK [t17] H fun t18 H=>
 zac .add false t3 t18 fun t19=>
 zac .add false t4 (.int .i64 1) fun t11=>
 Kb3 (zmX t1 t19 t11) H)
 (K t3 H)
def zBV (t0:AV) (H:zaa) (K:Kt):Prop:=
 zao t0 H fun t1 H=>
 zBW t1 (.int .i64 1) (.int .i64 0) H K
theorem zQz {t1 t3 t4:AV} {H:zaa} {K:Kt} (Inv:Nat→AV→AV→zaa→Prop) (n:Nat) (h0:HSc H→Inv n t3 t4 H)
  (round:Rd2 (fun t3=>fun t4=>zmX t1 t3 t4) (fun t3=>fun t4=>fun H Kb3=>ztF t1 t3 t4 H K Kb3) H Inv):zBW t1 t3 t4 H K:=
 lp2 (M:=zmW) zQA t3 t4 (by kernel_rfl) Inv n h0 round
theorem zQB {t0:AV} {H:zaa} {K:Kt} (h:HSc H→zBV t0 H K):ACalls tP zhK [t0] H K:=
 zan (M:=zmW) Tryz.func55 (c:=ztG) (by kernel_rfl) (fun hs=>Eq.mpr (by kernel_rfl) (h hs))
def znF:Nat→List Bool
 | 24=>rl false [0,1,1,1,1,1,2,2,103]
 | _=>[]
noncomputable def zui:Code:=Tryz.f85.body.getD .skip
noncomputable def zSC:List ResultVar:=Tryz.f85.results.toList
def znG (t0 t2 t4 t7 t8:AV):List AV:=t0::ux 1 (t2::ux 1 (t4::ux 2 (t7::t8::ux 103 [])))
def zSA:List Bool:=znF 24
noncomputable def zSy:Code:=zap [1,1,1,0,1,0,0] zui
def zSx (K:Kt):AExit→List AV→zaa→Prop:=zaq tP znF [1,1,1,0,1,0] zui (zaA tP zSC K)
def zuj (t0 t2 t4 t7 t8:AV) (H:zaa) (K:Kt):Prop:=ALoop tP zSy (zSx K) (znG t0 t2 t4 t7 t8) H
def zuh (t0 t2 t4 t7 t8:AV) (H:zaa) (K:Kt) (Kb24:Lt):Prop:=
 zac .lss false t8 t7 fun t100=>
 zag t100
 (zaf 2 t4 fun t104=>
 zae false 1 t104 H fun t105=>
 zai 3 t105 t8 fun t107=>
 zae true 3 t107 H fun t108=>
 ACalls tP zjO [t0,t108,t2] H fun t110 H=>
 aUn .not t110 fun t111=>
 zag t111
 (K (.bool false) H)
 (zac .add false t8 (.int .i64 1) fun t102=>
 Kb24 (znG t0 t2 t4 t7 t102) H))
 (K (.bool true) H)
def ziC (t0 t2 t4 t7:AV) (H:zaa) (K:Kt):Prop:=
 zuj t0 t2 t4 t7 (.int .i64 0) H K
def ze6 (t0 t2 t4 t7:AV) (H:zaa) (K:Kt):Prop:=
 ziC t0 t2 t4 t7 H K
def zed (t0 t2 t4 t7 t13 t75:AV) (H:zaa) (K:Kt):Prop:=
 zag t75
 (zaf 1 t4 fun t78=>
 zae false 1 t78 H fun t79=>
 zac .neq false t79 (.int .i64 0) fun t80=>
 zab t80 false H (fun K'=>K' t7 H) fun t82 H=>
 zab t80 false H (fun K'=>zac .neq false t82 (.int .i64 1) (K' · H)) fun t83 H=>
 zaj t80 (.bool true) t83 fun t84=>
 zag t84
 (K (.bool false) H)
 (ze6 t0 t2 t4 t7 H K))
 (zac .eql false t13 (.int .i64 9) fun t86=>
 zag t86
 (zaf 1 t4 fun t87=>
 zae false 1 t87 H fun t88=>
 zac .neq false t88 (.int .i64 0) fun t89=>
 zab t89 false H (fun K'=>K' t7 H) fun t91 H=>
 zab t89 false H (fun K'=>zac .lss false t91 (.int .i64 1) (K' · H)) fun t92 H=>
 zaj t89 (.bool true) t92 fun t93=>
 zab t93 false H (fun K'=>K' t7 H) fun t95 H=>
 zab t93 false H (fun K'=>zac .gtr false t95 (.int .i64 7) (K' · H)) fun t96 H=>
 zaj t93 (.bool true) t96 fun t97=>
 zag t97
 (K (.bool false) H)
 (ze6 t0 t2 t4 t7 H K))
 (K (.bool false) H))
def zbR (t0 t2 t4 t7 t13 t14:AV) (H:zaa) (K:Kt):Prop:=
 zag t14
 (zaf 1 t4 fun t18=>
 zae false 1 t18 H fun t19=>
 zac .eql false t19 (.int .i64 0) fun t20=>
 zab t20 true H (fun K'=>K' t7 H) fun t22 H=>
 zab t20 true H (fun K'=>zac .eql false t22 (.int .i64 0) (K' · H)) fun t23 H=>
 zaj t20 t23 (.bool false) fun t24=>
 K t24 H)
 (zac .eql false t13 (.int .i64 4) fun t26=>
 zag t26
 (zaf 1 t4 fun t27=>
 zae false 1 t27 H fun t28=>
 zac .geq false t28 (.int .i64 0) fun t29=>
 zab t29 true H (fun K'=>zaf 1 t4 (K' · H)) fun t31 H=>
 zab t29 true H (fun K'=>zae false 1 t31 H (K' · H)) fun t32 H=>
 zab t29 true H (fun K'=>K' t2 H) fun t33 H=>
 zab t29 true H (fun K'=>zac .lss false t32 t33 (K' · H)) fun t34 H=>
 zaj t29 t34 (.bool false) fun t35=>
 zab t35 true H (fun K'=>K' t7 H) fun t37 H=>
 zab t35 true H (fun K'=>zac .eql false t37 (.int .i64 0) (K' · H)) fun t38 H=>
 zaj t35 t38 (.bool false) fun t39=>
 K t39 H)
 (zac .eql false t13 (.int .i64 5) fun t41=>
 zag t41
 (zaf 1 t4 fun t42=>
 zae false 1 t42 H fun t43=>
 zac .lss false t43 (.int .i64 0) fun t44=>
 zab t44 false H (fun K'=>zaf 1 t4 (K' · H)) fun t46 H=>
 zab t44 false H (fun K'=>zae false 1 t46 H (K' · H)) fun t47 H=>
 zab t44 false H (fun K'=>K' t0 H) fun t48 H=>
 zab t44 false H (fun K'=>zah 1 t48 (K' · H)) fun t49 H=>
 zab t44 false H (fun K'=>zac .geq false t47 t49 (K' · H)) fun t50 H=>
 zaj t44 (.bool true) t50 fun t51=>
 zab t51 false H (fun K'=>K' t7 H) fun t53 H=>
 zab t51 false H (fun K'=>K' t0 H) fun t54 H=>
 zab t51 false H (fun K'=>zaf 1 t4 (K' · H)) fun t55 H=>
 zab t51 false H (fun K'=>zae false 1 t55 H (K' · H)) fun t56 H=>
 zab t51 false H (fun K'=>zai 3 t54 t56 (K' · H)) fun t57 H=>
 zab t51 false H (fun K'=>zaf 1 t57 (K' · H)) fun t58 H=>
 zab t51 false H (fun K'=>zae false 1 t58 H (K' · H)) fun t59 H=>
 zab t51 false H (fun K'=>zac .neq false t53 t59 (K' · H)) fun t60 H=>
 zaj t51 (.bool true) t60 fun t61=>
 zag t61
 (K (.bool false) H)
 (ze6 t0 t2 t4 t7 H K))
 (zac .eql false t13 (.int .i64 6) fun t63=>
 zag t63
 (zaf 1 t4 fun t64=>
 zae false 1 t64 H fun t65=>
 zac .neq false t65 (.int .i64 0) fun t66=>
 zab t66 false H (fun K'=>K' t7 H) fun t68 H=>
 zab t66 false H (fun K'=>zac .lss false t68 (.int .i64 2) (K' · H)) fun t69 H=>
 zaj t66 (.bool true) t69 fun t70=>
 zab t70 false H (fun K'=>K' t7 H) fun t72 H=>
 zab t70 false H (fun K'=>zac .gtr false t72 (.int .i64 6) (K' · H)) fun t73 H=>
 zaj t70 (.bool true) t73 fun t74=>
 zag t74
 (K (.bool false) H)
 (ze6 t0 t2 t4 t7 H K))
 (zac .eql false t13 (.int .i64 7) fun t76=>
 zag t76
 (zed t0 t2 t4 t7 t13 t76 H K)
 (zac .eql false t13 (.int .i64 8) fun t77=>
 zed t0 t2 t4 t7 t13 t77 H K)))))
def zcH (t0 t1 t2:AV) (H:zaa) (K:Kt):Prop:=
 zao t1 H fun t4 H=>
 zaf 2 t4 fun t9=>
 zae false 1 t9 H fun t10=>
 zah 1 t10 fun t11=>
 zaf 0 t4 fun t12=>
 zae false 1 t12 H fun t13=>
 zac .eql false t13 (.int .i64 1) fun t15=>
 zag t15
 (zbR t0 t2 t4 t11 t13 t15 H K)
 (zac .eql false t13 (.int .i64 2) fun t16=>
 zag t16
 (zbR t0 t2 t4 t11 t13 t16 H K)
 (zac .eql false t13 (.int .i64 3) fun t17=>
 zbR t0 t2 t4 t11 t13 t17 H K))
theorem zSz {t0 t2 t4 t7 t8:AV} {H:zaa} {K:Kt} (Inv:Nat→AV→zaa→Prop) (n:Nat) (h0:HSc H→Inv n t8 H)
  (round:Rd1 (fun t8=>znG t0 t2 t4 t7 t8) (fun t8=>fun H Kb24=>zuh t0 t2 t4 t7 t8 H K Kb24) H Inv):zuj t0 t2 t4 t7 t8 H K:=
 lp1 (M:=znF) zSA t8 (by kernel_rfl) Inv n h0 round
theorem zSB {t0 t1 t2:AV} {H:zaa} {K:Kt} (h:HSc H→zcH t0 t1 t2 H K):ACalls tP zjO [t0,t1,t2] H K:=
 zan (M:=znF) Tryz.func85 (c:=zui) (by kernel_rfl) (fun hs=>Eq.mpr (by kernel_rfl) (h hs))
def zlU:Nat→List Bool
 | 5=>rl false [4,1,3,1,54,3,16]
 | _=>[]
noncomputable def zss:Code:=Tryz.f19.body.getD .skip
noncomputable def zMA:List ResultVar:=Tryz.f19.results.toList
def zlV (t4 t8 t63 t64 t65:AV):List AV:=ux 4 (t4::ux 3 (t8::ux 54 (t63::t64::t65::ux 16 [])))
def zMy:List Bool:=zlU 5
noncomputable def zMw:Code:=zap [1,1,1,0,1,0,0] zss
def zMv (K:Kt):AExit→List AV→zaa→Prop:=zaq tP zlU [1,1,1,0,1,0] zss (zaA tP zMA K)
def zlW (t4 t8 t63 t64 t65:AV) (H:zaa) (K:Kt):Prop:=ALoop tP zMw (zMv K) (zlV t4 t8 t63 t64 t65) H
def zsr (t4 t8 t63 t64 t65:AV) (H:zaa) (K:Kt) (Kb5:Lt):Prop:=
 zac .lss false t65 t64 fun t66=>
 zag t66
 (zai 3 t63 t65 fun t67=>
 zae true 3 t67 H fun t68=>
 zaw [(.int .i64 0),(.int .i64 0),.snil] H fun t10 H=>
 zam 3 t10 t68 H fun H=>
 zae true 3 t10 H fun t69=>
 zaf 2 t4 fun t70=>
 zae false 1 t70 H fun t71=>
 ACalls tP zjF [t69,t71] H fun t72 H=>
 zaw [(.int .i64 0),(.int .i64 0),.snil] H fun t11 H=>
 zam 3 t11 t72 H fun H=>
 zae true 3 t11 H fun t73=>
 ACalls tP zhK [t73] H fun t74 H=>
 zac .gtr false t74 (.int .i64 200) fun t75=>
 zag t75
 (zaI [.snil,(.bool false)] (K · H))
 (zae true 3 t11 H fun t77=>
 zaB 3 [(.int .i64 0),(.int .i64 0),.snil] 1 [(0,t77)] fun t78=>
 zax za9 3 40 t8 t78 H fun t79 H=>
 zac .add false t65 (.int .i64 1) fun t80=>
 Kb5 (zlV t4 t79 t63 t64 t80) H))
 (zaI [t8,(.bool true)] (K · H))
def zAl (t0 t1 t2:AV) (H:zaa) (K:Kt):Prop:=
 zao t1 H fun t4 H=>
 zad H (fun K'=>zaf 0 t4 (K' · H)) fun t12=>
 zad H (fun K'=>zal false 1 t12 H (K' · H)) fun t13=>
 zad H (fun K'=>zac .neq false t13 (.int .i64 5) (K' · H)) fun t14=>
 zad H (fun K'=>K' t14 H) fun t15=>
 zab t15 false H (fun K'=>zad H (fun K''=>zaf 1 t4 (K'' · H)) (K' · H)) fun t16 H=>
 zab t15 false H (fun K'=>zad H (fun K''=>zal false 1 t16 H (K'' · H)) (K' · H)) fun t17 H=>
 zab t15 false H (fun K'=>zad H (fun K''=>zac .lss false t17 (.int .i64 0) (K'' · H)) (K' · H)) fun t18 H=>
 zad H (fun K'=>zaj t15 (.bool true) t18 (K' · H)) fun t19=>
 zad H (fun K'=>K' t19 H) fun t20=>
 zab t20 false H (fun K'=>zad H (fun K''=>zaf 1 t4 (K'' · H)) (K' · H)) fun t21 H=>
 zab t20 false H (fun K'=>zad H (fun K''=>zal false 1 t21 H (K'' · H)) (K' · H)) fun t22 H=>
 zab t20 false H (fun K'=>zad H (fun K''=>K'' t0 H) (K' · H)) fun t23 H=>
 zab t20 false H (fun K'=>zad H (fun K''=>zah 1 t23 (K'' · H)) (K' · H)) fun t24 H=>
 zab t20 false H (fun K'=>zad H (fun K''=>zac .geq false t22 t24 (K'' · H)) (K' · H)) fun t25 H=>
 zad H (fun K'=>zaj t20 (.bool true) t25 (K' · H)) fun t26=>
 zad H (fun K'=>K' t26 H) fun t27=>
 zab t27 false H (fun K'=>zad H (fun K''=>zaf 2 t4 (K'' · H)) (K' · H)) fun t28 H=>
 zab t27 false H (fun K'=>zad H (fun K''=>zal false 1 t28 H (K'' · H)) (K' · H)) fun t29 H=>
 zab t27 false H (fun K'=>zad H (fun K''=>zah 1 t29 (K'' · H)) (K' · H)) fun t30 H=>
 zab t27 false H (fun K'=>zad H (fun K''=>K'' t0 H) (K' · H)) fun t31 H=>
 zab t27 false H (fun K'=>zad H (fun K''=>zaf 1 t4 (K'' · H)) (K' · H)) fun t32 H=>
 zab t27 false H (fun K'=>zad H (fun K''=>zal false 1 t32 H (K'' · H)) (K' · H)) fun t33 H=>
 zab t27 false H (fun K'=>zad H (fun K''=>zai 3 t31 t33 (K'' · H)) (K' · H)) fun t34 H=>
 zab t27 false H (fun K'=>zad H (fun K''=>zaf 1 t34 (K'' · H)) (K' · H)) fun t35 H=>
 zab t27 false H (fun K'=>zad H (fun K''=>zal false 1 t35 H (K'' · H)) (K' · H)) fun t36 H=>
 zab t27 false H (fun K'=>zad H (fun K''=>zac .neq false t30 t36 (K'' · H)) (K' · H)) fun t37 H=>
 zad H (fun K'=>zaj t27 (.bool true) t37 (K' · H)) fun t38=>
 zad H (fun K'=>K' t38 H) fun t39=>
 zab t39 false H (fun K'=>zad H (fun K''=>K'' t2 H) (K' · H)) fun t40 H=>
 zab t39 false H (fun K'=>zad H (fun K''=>zac .lss false t40 (.int .i64 0) (K'' · H)) (K' · H)) fun t41 H=>
 zad H (fun K'=>zaj t39 (.bool true) t41 (K' · H)) fun t42=>
 zad H (fun K'=>K' t42 H) fun t43=>
 zab t43 false H (fun K'=>zad H (fun K''=>K'' t2 H) (K' · H)) fun t44 H=>
 zab t43 false H (fun K'=>zad H (fun K''=>K'' t0 H) (K' · H)) fun t45 H=>
 zab t43 false H (fun K'=>zad H (fun K''=>zaf 1 t4 (K'' · H)) (K' · H)) fun t46 H=>
 zab t43 false H (fun K'=>zad H (fun K''=>zal false 1 t46 H (K'' · H)) (K' · H)) fun t47 H=>
 zab t43 false H (fun K'=>zad H (fun K''=>zai 3 t45 t47 (K'' · H)) (K' · H)) fun t48 H=>
 zab t43 false H (fun K'=>zad H (fun K''=>zaf 2 t48 (K'' · H)) (K' · H)) fun t49 H=>
 zab t43 false H (fun K'=>zad H (fun K''=>zal false 1 t49 H (K'' · H)) (K' · H)) fun t50 H=>
 zab t43 false H (fun K'=>zad H (fun K''=>zah 1 t50 (K'' · H)) (K' · H)) fun t51 H=>
 zab t43 false H (fun K'=>zad H (fun K''=>zac .geq false t44 t51 (K'' · H)) (K' · H)) fun t52 H=>
 zad H (fun K'=>zaj t43 (.bool true) t52 (K' · H)) fun t53=>
 zag t53
 (zaI [.snil,(.bool false)] (K · H))
 (zaf 1 t4 fun t55=>
 zae false 1 t55 H fun t56=>
 zai 3 t0 t56 fun t57=>
 zaf 2 t57 fun t58=>
 zae false 1 t58 H fun t59=>
 zai 2 t59 t2 fun t61=>
 zaf 1 t61 fun t62=>
 zae false 1 t62 H fun t63=>
 zah 1 t63 fun t64=>
 zlW t4 .snil t63 t64 (.int .i64 0) H K)
theorem zMx {t4 t8 t63 t64 t65:AV} {H:zaa} {K:Kt} (Inv:Nat→AV→AV→zaa→Prop) (n:Nat) (h0:HSc H→Inv n t8 t65 H)
  (round:Rd2 (fun t8=>fun t65=>zlV t4 t8 t63 t64 t65) (fun t8=>fun t65=>fun H Kb5=>zsr t4 t8 t63 t64 t65 H K Kb5) H Inv):zlW t4 t8 t63 t64 t65 H K:=
 lp2 (M:=zlU) zMy t8 t65 (by kernel_rfl) Inv n h0 round
theorem zMz {t0 t1 t2:AV} {H:zaa} {K:Kt} (h:HSc H→zAl t0 t1 t2 H K):ACalls tP zgk [t0,t1,t2] H K:=
 zan (M:=zlU) Tryz.func19 (c:=zss) (by kernel_rfl) (fun hs=>Eq.mpr (by kernel_rfl) (h hs))
def zmU:Nat→List Bool
 | 5=>rl false [1,2,1,3,46]
 | _=>[]
noncomputable def ztD:Code:=Tryz.f54.body.getD .skip
noncomputable def zQv:List ResultVar:=Tryz.f54.results.toList
def zmV (t1 t2 t4 t5 t6:AV):List AV:=ux 1 (t1::t2::ux 1 (t4::t5::t6::ux 46 []))
def zQt:List Bool:=zmU 5
noncomputable def zQr:Code:=zap [1,1,1,0,1,0,0] ztD
def zQq (K:Kt):AExit→List AV→zaa→Prop:=zaq tP zmU [1,1,1,0,1,0] ztD (zaA tP zQv K)
def ztE (t1 t2 t4 t5 t6:AV) (H:zaa) (K:Kt):Prop:=ALoop tP zQr (zQq K) (zmV t1 t2 t4 t5 t6) H
def ztC (t1 t2 t4 t5 t6:AV) (H:zaa) (K:Kt) (Kb5:Lt):Prop:=
 zaf 2 t2 fun t34=>
 zae false 1 t34 H fun t35=>
 zah 1 t35 fun t36=>
 zac .lss false t6 t36 fun t37=>
 zag t37
 (zad H (fun K'=>zaf 2 t5 (K' · H)) fun t40=>
 zad H (fun K'=>zal false 1 t40 H (K' · H)) fun t41=>
 zad H (fun K'=>zaf 2 t2 (K' · H)) fun t42=>
 zad H (fun K'=>zal false 1 t42 H (K' · H)) fun t43=>
 zad H (fun K'=>K' t6 H) fun t44=>
 zad H (fun K'=>zai 3 t43 t44 (K' · H)) fun t45=>
 zad H (fun K'=>zal true 3 t45 H (K' · H)) fun t46=>
 zad H (fun K'=>K' t1 H) fun t47=>
 zaE H (fun H K'=>ACalls tP zjF [t46,t47] H K') fun t48=>
 zad H (fun K'=>zaB 3 [(.int .i64 0),(.int .i64 0),.snil] 1 [(0,t48)] (K' · H)) fun t49=>
 zax za9 3 40 t41 t49 H fun t50 H=>
 zad H (fun K'=>zaf 2 t5 (K' · H)) fun t51=>
 zam 1 t51 t50 H fun H=>
 zac .add false t6 (.int .i64 1) fun t39=>
 Kb5 (zmV t1 t2 t4 t5 t39) H)
 (zae true 3 t5 H fun t52=>
 zam 3 t4 t52 H fun H=>
 zae true 3 t4 H fun r0=>
 K r0 H)
def ztB (t0 t1:AV) (H:zaa) (K:Kt):Prop:=
 zao t0 H fun t2 H=>
 zaw [(.int .i64 0),(.int .i64 0),.snil] H fun t4 H=>
 zaf 0 t2 fun t7=>
 zae false 1 t7 H fun t8=>
 zac .eql false t8 (.int .i64 4) fun t9=>
 zab t9 true H (fun K'=>zaf 1 t2 (K' · H)) fun t11 H=>
 zab t9 true H (fun K'=>zae false 1 t11 H (K' · H)) fun t12 H=>
 zab t9 true H (fun K'=>zac .geq false t12 (.int .i64 0) (K' · H)) fun t13 H=>
 zaj t9 t13 (.bool false) fun t14=>
 zab t14 true H (fun K'=>zaf 1 t2 (K' · H)) fun t16 H=>
 zab t14 true H (fun K'=>zae false 1 t16 H (K' · H)) fun t17 H=>
 zab t14 true H (fun K'=>K' t1 H) fun t18 H=>
 zab t14 true H (fun K'=>zah 1 t18 (K' · H)) fun t19 H=>
 zab t14 true H (fun K'=>zac .lss false t17 t19 (K' · H)) fun t20 H=>
 zaj t14 t20 (.bool false) fun t21=>
 zag t21
 (zaf 1 t2 fun t23=>
 zae false 1 t23 H fun t24=>
 zai 3 t1 t24 fun t25=>
 zae true 3 t25 H fun t26=>
 ACalls tP zjd [t26] H fun t27 H=>
 zam 3 t4 t27 H fun H=>
 zae true 3 t4 H fun r0=>
 K r0 H)
 (zaf 0 t2 fun t28=>
 zae false 1 t28 H fun t29=>
 zaf 1 t2 fun t30=>
 zae false 1 t30 H fun t31=>
 zaz [(.int .i64 0),(.int .i64 0),.snil] [(0,1),(1,1),(2,1)] [(0,t29),(1,t31)] fun t32=>
 zaw [(.int .i64 0),(.int .i64 0),.snil] H fun t5 H=>
 zam 3 t5 t32 H fun H=>
 ztE t1 t2 t4 t5 (.int .i64 0) H K)
theorem zQs {t1 t2 t4 t5 t6:AV} {H:zaa} {K:Kt} (Inv:Nat→AV→zaa→Prop) (n:Nat) (h0:HSc H→Inv n t6 H)
  (round:Rd1 (fun t6=>zmV t1 t2 t4 t5 t6) (fun t6=>fun H Kb5=>ztC t1 t2 t4 t5 t6 H K Kb5) H Inv):ztE t1 t2 t4 t5 t6 H K:=
 lp1 (M:=zmU) zQt t6 (by kernel_rfl) Inv n h0 round
theorem zQu {t0 t1:AV} {H:zaa} {K:Kt} (h:HSc H→ztB t0 t1 H K):ACalls tP zjF [t0,t1] H K:=
 zan (M:=zmU) Tryz.func54 (c:=ztD) (by kernel_rfl) (fun hs=>Eq.mpr (by kernel_rfl) (h hs))
def zku:Nat→List Bool
 | 3=>rl false [1,4,24]
 | _=>[]
noncomputable def zqQ:Code:=Tryz.f102.body.getD .skip
noncomputable def zHj:List ResultVar:=Tryz.f102.results.toList
def zkv (t1 t2 t3 t4:AV):List AV:=ux 1 (t1::t2::t3::t4::ux 24 [])
def zHh:List Bool:=zku 3
noncomputable def zHf:Code:=zap [1,1,0,1,0,0] zqQ
def zHe (K:Kt):AExit→List AV→zaa→Prop:=zaq tP zku [1,1,0,1,0] zqQ (zaA tP zHj K)
def zyB (t1 t2 t3 t4:AV) (H:zaa) (K:Kt):Prop:=ALoop tP zHf (zHe K) (zkv t1 t2 t3 t4) H
def zqP (t1 t2 t3 t4:AV) (H:zaa) (K:Kt) (Kb3:Lt):Prop:=
 zaf 2 t1 fun t11=>
 zae false 1 t11 H fun t12=>
 zah 1 t12 fun t13=>
 zac .lss false t4 t13 fun t14=>
 zag t14
 (zad H (fun K'=>zaf 2 t3 (K' · H)) fun t17=>
 zad H (fun K'=>zal false 1 t17 H (K' · H)) fun t18=>
 zad H (fun K'=>zaf 2 t1 (K' · H)) fun t19=>
 zad H (fun K'=>zal false 1 t19 H (K' · H)) fun t20=>
 zad H (fun K'=>K' t4 H) fun t21=>
 zad H (fun K'=>zai 3 t20 t21 (K' · H)) fun t22=>
 zad H (fun K'=>zal true 3 t22 H (K' · H)) fun t23=>
 zaE H (fun H K'=>ACalls tP zjd [t23] H K') fun t24=>
 zad H (fun K'=>zaB 3 [(.int .i64 0),(.int .i64 0),.snil] 1 [(0,t24)] (K' · H)) fun t25=>
 zax za9 3 40 t18 t25 H fun t26 H=>
 zad H (fun K'=>zaf 2 t3 (K' · H)) fun t27=>
 zam 1 t27 t26 H fun H=>
 zac .add false t4 (.int .i64 1) fun t16=>
 Kb3 (zkv t1 t2 t3 t16) H)
 (zae true 3 t3 H fun t28=>
 zam 3 t2 t28 H fun H=>
 zae true 3 t2 H fun r0=>
 K r0 H)
def zyA (t0:AV) (H:zaa) (K:Kt):Prop:=
 zao t0 H fun t1 H=>
 zaw [(.int .i64 0),(.int .i64 0),.snil] H fun t2 H=>
 zaf 0 t1 fun t5=>
 zae false 1 t5 H fun t6=>
 zaf 1 t1 fun t7=>
 zae false 1 t7 H fun t8=>
 zaz [(.int .i64 0),(.int .i64 0),.snil] [(0,1),(1,1),(2,1)] [(0,t6),(1,t8)] fun t9=>
 zaw [(.int .i64 0),(.int .i64 0),.snil] H fun t3 H=>
 zam 3 t3 t9 H fun H=>
 zyB t1 t2 t3 (.int .i64 0) H K
theorem zHg {t1 t2 t3 t4:AV} {H:zaa} {K:Kt} (Inv:Nat→AV→zaa→Prop) (n:Nat) (h0:HSc H→Inv n t4 H)
  (round:Rd1 (fun t4=>zkv t1 t2 t3 t4) (fun t4=>fun H Kb3=>zqP t1 t2 t3 t4 H K Kb3) H Inv):zyB t1 t2 t3 t4 H K:=
 lp1 (M:=zku) zHh t4 (by kernel_rfl) Inv n h0 round
theorem zHi {t0:AV} {H:zaa} {K:Kt} (h:HSc H→zyA t0 H K):ACalls tP zjd [t0] H K:=
 zan (M:=zku) Tryz.func102 (c:=zqQ) (by kernel_rfl) (fun hs=>Eq.mpr (by kernel_rfl) (h hs))
def zfW:Nat→List Bool
 | 6=>rl false [0,2,6,1,38,3,56]
 | 10=>rl false [0,2,6,2,37,3,28,3,25]
 | _=>[]
noncomputable def zt4:Code:=Tryz.f78.body.getD .skip
noncomputable def zR8:List ResultVar:=Tryz.f78.results.toList
def zny (t0 t1 t8 t47 t48 t49:AV):List AV:=t0::t1::ux 6 (t8::ux 38 (t47::t48::t49::ux 56 []))
def zCr:List Bool:=zfW 6
noncomputable def zt5:Code:=zap [1,1,1,1,0,1,0,0] zt4
def zCp (K:Kt):AExit→List AV→zaa→Prop:=zaq tP zfW [1,1,1,1,0,1,0] zt4 (zaA tP zR8 K)
def zCq (t0 t1 t8 t47 t48 t49:AV) (H:zaa) (K:Kt):Prop:=ALoop tP zt5 (zCp K) (zny t0 t1 t8 t47 t48 t49) H
def znx (t0 t1 t8 t9 t47 t48 t49 t78 t79 t80:AV):List AV:=t0::t1::ux 6 (t8::t9::ux 37 (t47::t48::t49::ux 28 (t78::t79::t80::ux 25 [])))
def zR6:List Bool:=zfW 10
noncomputable def zR3:Code:=zap [1,1,0,0,1,1,1,0,0] zt5
def zR2 (K:Kt) (Kb6:Lt):AExit→List AV→zaa→Prop:=zaq tP zfW [1,1,0,0,1,1,1,0] zt5 (zbD zCr Kb6 (zCp K))
def zt7 (t0 t1 t8 t9 t47 t48 t49 t78 t79 t80:AV) (H:zaa) (K:Kt) (Kb6:Lt):Prop:=ALoop tP zR3 (zR2 K Kb6) (znx t0 t1 t8 t9 t47 t48 t49 t78 t79 t80) H
def zt6 (t0 t1 t8 t9 t47 t48 t49 t78 t79 t80:AV) (H:zaa) (K:Kt) (Kb6:Lt) (Kb10:Lt):Prop:=
 zac .add false t80 (.int .i64 1) fun t103=>
 Kb10 (znx t0 t1 t8 t9 t47 t48 t49 t78 t79 t103) H
def zgV (t0 t1 t8 t9 t47 t48 t49 t78 t79 t80:AV) (H:zaa) (K:Kt) (Kb6:Lt) (Kb10:Lt):Prop:=
 zt6 t0 t1 t8 t9 t47 t48 t49 t78 t79 t80 H K Kb6 Kb10
def zgU (t0 t1 t8 t9 t47 t48 t49 t78 t79 t80:AV) (H:zaa) (K:Kt) (Kb6:Lt) (Kb10:Lt):Prop:=
 zac .lss false t80 t79 fun t81=>
 zag t81
 (zai 3 t78 t80 fun t83=>
 zae true 3 t83 H fun t84=>
 zaw [(.int .i64 0),(.int .i64 0),.snil] H fun t12 H=>
 zam 3 t12 t84 H fun H=>
 zaf 0 t12 fun t85=>
 zae false 1 t85 H fun t86=>
 zac .neq false t86 (.int .i64 4) fun t87=>
 zab t87 false H (fun K'=>zaf 1 t12 (K' · H)) fun t89 H=>
 zab t87 false H (fun K'=>zae false 1 t89 H (K' · H)) fun t90 H=>
 zab t87 false H (fun K'=>K' t80 H) fun t91 H=>
 zab t87 false H (fun K'=>zac .neq false t90 t91 (K' · H)) fun t92 H=>
 zaj t87 (.bool true) t92 fun t93=>
 zab t93 false H (fun K'=>zaf 2 t12 (K' · H)) fun t95 H=>
 zab t93 false H (fun K'=>zae false 1 t95 H (K' · H)) fun t96 H=>
 zab t93 false H (fun K'=>zah 1 t96 (K' · H)) fun t97 H=>
 zab t93 false H (fun K'=>zac .gtr false t97 (.int .i64 0) (K' · H)) fun t98 H=>
 zaj t93 (.bool true) t98 fun t99=>
 zag t99
 (zai 1 t8 t9 fun t102=>
 zam 1 t102 (.bool false) H fun H=>
 zgV t0 t1 t8 t9 t47 t48 t49 t78 t79 t80 H K Kb6 Kb10)
 (zgV t0 t1 t8 t9 t47 t48 t49 t78 t79 t80 H K Kb6 Kb10))
 (zac .add false t49 (.int .i64 1) fun t104=>
 Kb6 (zny t0 t1 t8 t47 t48 t104) H)
def ziA (t0 t1 t8 t47 t48 t49:AV) (H:zaa) (K:Kt) (Kb6:Lt):Prop:=
 zac .lss false t49 t48 fun t50=>
 zag t50
 (zai 3 t47 t49 fun t52=>
 zae true 3 t52 H fun t53=>
 zaw [(.int .i64 0),(.int .i64 0),.snil] H fun t10 H=>
 zam 3 t10 t53 H fun H=>
 zad H (fun K'=>K' t8 H) fun t54=>
 zad H (fun K'=>K' t49 H) fun t55=>
 zad H (fun K'=>zaf 0 t10 (K' · H)) fun t56=>
 zad H (fun K'=>zal false 1 t56 H (K' · H)) fun t57=>
 zad H (fun K'=>zac .eql false t57 (.int .i64 5) (K' · H)) fun t58=>
 zad H (fun K'=>K' t58 H) fun t59=>
 zab t59 true H (fun K'=>zad H (fun K''=>zaf 1 t10 (K'' · H)) (K' · H)) fun t60 H=>
 zab t59 true H (fun K'=>zad H (fun K''=>zal false 1 t60 H (K'' · H)) (K' · H)) fun t61 H=>
 zab t59 true H (fun K'=>zad H (fun K''=>K'' t1 H) (K' · H)) fun t62 H=>
 zab t59 true H (fun K'=>zad H (fun K''=>zac .eql false t61 t62 (K'' · H)) (K' · H)) fun t63 H=>
 zad H (fun K'=>zaj t59 t63 (.bool false) (K' · H)) fun t64=>
 zad H (fun K'=>K' t64 H) fun t65=>
 zab t65 true H (fun K'=>zad H (fun K''=>zaf 2 t10 (K'' · H)) (K' · H)) fun t66 H=>
 zab t65 true H (fun K'=>zad H (fun K''=>zal false 1 t66 H (K'' · H)) (K' · H)) fun t67 H=>
 zab t65 true H (fun K'=>zad H (fun K''=>zah 1 t67 (K'' · H)) (K' · H)) fun t68 H=>
 zab t65 true H (fun K'=>zad H (fun K''=>K'' t0 H) (K' · H)) fun t69 H=>
 zab t65 true H (fun K'=>zad H (fun K''=>K'' t1 H) (K' · H)) fun t70 H=>
 zab t65 true H (fun K'=>zad H (fun K''=>zai 3 t69 t70 (K'' · H)) (K' · H)) fun t71 H=>
 zab t65 true H (fun K'=>zad H (fun K''=>zaf 1 t71 (K'' · H)) (K' · H)) fun t72 H=>
 zab t65 true H (fun K'=>zad H (fun K''=>zal false 1 t72 H (K'' · H)) (K' · H)) fun t73 H=>
 zab t65 true H (fun K'=>zad H (fun K''=>zac .eql false t68 t73 (K'' · H)) (K' · H)) fun t74 H=>
 zad H (fun K'=>zaj t65 t74 (.bool false) (K' · H)) fun t75=>
 zad H (fun K'=>zai 1 t54 t55 (K' · H)) fun t76=>
 zam 1 t76 t75 H fun H=>
 zaf 2 t10 fun t77=>
 zae false 1 t77 H fun t78=>
 zah 1 t78 fun t79=>
 zt7 t0 t1 t8 t49 t47 t48 t49 t78 t79 (.int .i64 0) H K Kb6)
 (K t8 H)
def zCo (t0 t1 t2:AV) (H:zaa) (K:Kt):Prop:=
 zac .lss false t1 (.int .i64 0) fun t14=>
 zab t14 false H (fun K'=>K' t1 H) fun t16 H=>
 zab t14 false H (fun K'=>K' t0 H) fun t17 H=>
 zab t14 false H (fun K'=>zah 1 t17 (K' · H)) fun t18 H=>
 zab t14 false H (fun K'=>zac .geq false t16 t18 (K' · H)) fun t19 H=>
 zaj t14 (.bool true) t19 fun t20=>
 zab t20 false H (fun K'=>K' t2 H) fun t22 H=>
 zab t20 false H (fun K'=>zac .lss false t22 (.int .i64 0) (K' · H)) fun t23 H=>
 zaj t20 (.bool true) t23 fun t24=>
 zab t24 false H (fun K'=>K' t2 H) fun t26 H=>
 zab t24 false H (fun K'=>K' t0 H) fun t27 H=>
 zab t24 false H (fun K'=>K' t1 H) fun t28 H=>
 zab t24 false H (fun K'=>zai 3 t27 t28 (K' · H)) fun t29 H=>
 zab t24 false H (fun K'=>zaf 2 t29 (K' · H)) fun t30 H=>
 zab t24 false H (fun K'=>zae false 1 t30 H (K' · H)) fun t31 H=>
 zab t24 false H (fun K'=>zah 1 t31 (K' · H)) fun t32 H=>
 zab t24 false H (fun K'=>zac .geq false t26 t32 (K' · H)) fun t33 H=>
 zaj t24 (.bool true) t33 fun t34=>
 zag t34
 (K .snil H)
 (zai 3 t0 t1 fun t37=>
 zaf 2 t37 fun t38=>
 zae false 1 t38 H fun t39=>
 zai 2 t39 t2 fun t41=>
 zaf 1 t41 fun t42=>
 zae false 1 t42 H fun t43=>
 zah 1 t43 fun t45=>
 zbr 1 [(.bool false)] t45 t45 H fun t46 H=>
 zah 1 t43 fun t48=>
 zCq t0 t1 t46 t43 t48 (.int .i64 0) H K)
theorem zR4 {t0 t1 t8 t9 t47 t48 t49 t78 t79 t80:AV} {H:zaa} {K:Kt} {Kb6:Lt} (Inv:Nat→AV→zaa→Prop) (n:Nat) (h0:HSc H→Inv n t80 H)
  (round:Rd1 (fun t80=>znx t0 t1 t8 t9 t47 t48 t49 t78 t79 t80) (fun t80=>fun H Kb10=>zgU t0 t1 t8 t9 t47 t48 t49 t78 t79 t80 H K Kb6 Kb10) H Inv):zt7 t0 t1 t8 t9 t47 t48 t49 t78 t79 t80 H K Kb6:=
 lp1 (M:=zfW) zR6 t80 (by kernel_rfl) Inv n h0 round
theorem zR5 {t0 t1 t8 t47 t48 t49:AV} {H:zaa} {K:Kt} (Inv:Nat→AV→zaa→Prop) (n:Nat) (h0:HSc H→Inv n t49 H)
  (round:Rd1 (fun t49=>zny t0 t1 t8 t47 t48 t49) (fun t49=>fun H Kb6=>ziA t0 t1 t8 t47 t48 t49 H K Kb6) H Inv):zCq t0 t1 t8 t47 t48 t49 H K:=
 lp1 (M:=zfW) zCr t49 (by kernel_rfl) Inv n h0 round
theorem zR7 {t0 t1 t2:AV} {H:zaa} {K:Kt} (h:HSc H→zCo t0 t1 t2 H K):ACalls tP zek [t0,t1,t2] H K:=
 zan (M:=zfW) Tryz.func78 (c:=zt4) (by kernel_rfl) (fun hs=>Eq.mpr (by kernel_rfl) (h hs))
def zNd (_:Nat):List Bool:=[]
noncomputable def zNe:Code:=Tryz.f207.body.getD .skip
def zAK (t0 t1:AV) (H:zaa) (K:Kt):Prop:=
 zao t0 H fun t2 H=>
 zao t1 H fun t3 H=>
 zaf 0 t2 fun t5=>
 zae false 1 t5 H fun t6=>
 zac .eql false t6 (.int .i64 5) fun t7=>
 zab t7 true H (fun K'=>zaf 1 t2 (K' · H)) fun t9 H=>
 zab t7 true H (fun K'=>zae false 1 t9 H (K' · H)) fun t10 H=>
 zab t7 true H (fun K'=>zae false 1 t3 H (K' · H)) fun t11 H=>
 zab t7 true H (fun K'=>zac .eql false t10 t11 (K' · H)) fun t12 H=>
 zaj t7 t12 (.bool false) fun t13=>
 zab t13 false H (fun K'=>zaf 2 t2 (K' · H)) fun t15 H=>
 zab t13 false H (fun K'=>zae false 1 t15 H (K' · H)) fun t16 H=>
 zab t13 false H (fun K'=>zcs zjv [t3] (K' · H)) fun t17 H=>
 zab t13 false H (fun K'=>ACalls tP zfr [t16,t17] H K') fun t18 H=>
 zaj t13 (.bool true) t18 fun t19=>
 K t19 H
theorem zNf {t0 t1:AV} {H:zaa} {K:Kt} (h:HSc H→zAK t0 t1 H K):ACalls tP zju [t0,t1] H K:=
 zan (M:=zNd) Tryz.func207 (c:=zNe) (by kernel_rfl) (fun hs=>Eq.mpr (by kernel_rfl) (h hs))
def zNw (_:Nat):List Bool:=[]
noncomputable def zNx:Code:=Tryz.f221.body.getD .skip
def zAP (t0 t1:AV) (H:zaa) (K:Kt):Prop:=
 zao t0 H fun t2 H=>
 zae true 3 t2 H fun t4=>
 zae false 1 t1 H fun t5=>
 ACalls tP zju [t4,t5] H fun t6 H=>
 K t6 H
theorem zNy {t0 t1:AV} {H:zaa} {K:Kt} (h:HSc H→zAP t0 t1 H K):ACalls tP zjv [t0,t1] H K:=
 zan (M:=zNw) Tryz.func221 (c:=zNx) (by kernel_rfl) (fun hs=>Eq.mpr (by kernel_rfl) (h hs))
def znB:Nat→List Bool
 | 4=>rl false [3,1,3,1,50]
 | _=>[]
noncomputable def zuc:Code:=Tryz.f83.body.getD .skip
noncomputable def zSo:List ResultVar:=Tryz.f83.results.toList
def znC (t3 t7:AV):List AV:=ux 3 (t3::ux 3 (t7::ux 50 []))
def zSm:List Bool:=znB 4
noncomputable def zSk:Code:=zap [1,1,0,1,0,0] zuc
def zSj (K:Kt):AExit→List AV→zaa→Prop:=zaq tP znB [1,1,0,1,0] zuc (zaA tP zSo K)
def zCx (t3 t7:AV) (H:zaa) (K:Kt):Prop:=ALoop tP zSk (zSj K) (znC t3 t7) H
def zgW (t3 t7:AV) (H:zaa) (K:Kt) (Kb4:Lt):Prop:=
 zaf 2 t3 fun t25=>
 zae false 1 t25 H fun t26=>
 zah 1 t26 fun t27=>
 zac .lss false t7 t27 fun t28=>
 zag t28
 (zaf 2 t3 fun t31=>
 zae false 1 t31 H fun t32=>
 zai 3 t32 t7 fun t34=>
 zaf 0 t34 fun t35=>
 zae false 1 t35 H fun t36=>
 zac .neq false t36 (.int .i64 4) fun t37=>
 zab t37 false H (fun K'=>zaf 2 t3 (K' · H)) fun t39 H=>
 zab t37 false H (fun K'=>zae false 1 t39 H (K' · H)) fun t40 H=>
 zab t37 false H (fun K'=>K' t7 H) fun t41 H=>
 zab t37 false H (fun K'=>zai 3 t40 t41 (K' · H)) fun t42 H=>
 zab t37 false H (fun K'=>zaf 1 t42 (K' · H)) fun t43 H=>
 zab t37 false H (fun K'=>zae false 1 t43 H (K' · H)) fun t44 H=>
 zab t37 false H (fun K'=>K' t7 H) fun t45 H=>
 zab t37 false H (fun K'=>zac .neq false t44 t45 (K' · H)) fun t46 H=>
 zaj t37 (.bool true) t46 fun t47=>
 zab t47 false H (fun K'=>zaf 2 t3 (K' · H)) fun t49 H=>
 zab t47 false H (fun K'=>zae false 1 t49 H (K' · H)) fun t50 H=>
 zab t47 false H (fun K'=>K' t7 H) fun t51 H=>
 zab t47 false H (fun K'=>zai 3 t50 t51 (K' · H)) fun t52 H=>
 zab t47 false H (fun K'=>zaf 2 t52 (K' · H)) fun t53 H=>
 zab t47 false H (fun K'=>zae false 1 t53 H (K' · H)) fun t54 H=>
 zab t47 false H (fun K'=>zah 1 t54 (K' · H)) fun t55 H=>
 zab t47 false H (fun K'=>zac .gtr false t55 (.int .i64 0) (K' · H)) fun t56 H=>
 zaj t47 (.bool true) t56 fun t57=>
 zag t57
 (K (.bool false) H)
 (zac .add false t7 (.int .i64 1) fun t30=>
 Kb4 (znC t3 t30) H))
 (K (.bool true) H)
def zCw (t0 t1 t2:AV) (H:zaa) (K:Kt):Prop:=
 zao t0 H fun t3 H=>
 zaf 0 t3 fun t8=>
 zae false 1 t8 H fun t9=>
 zac .neq false t9 (.int .i64 5) fun t10=>
 zab t10 false H (fun K'=>zaf 1 t3 (K' · H)) fun t12 H=>
 zab t10 false H (fun K'=>zae false 1 t12 H (K' · H)) fun t13 H=>
 zab t10 false H (fun K'=>K' t1 H) fun t14 H=>
 zab t10 false H (fun K'=>zac .neq false t13 t14 (K' · H)) fun t15 H=>
 zaj t10 (.bool true) t15 fun t16=>
 zab t16 false H (fun K'=>zaf 2 t3 (K' · H)) fun t18 H=>
 zab t16 false H (fun K'=>zae false 1 t18 H (K' · H)) fun t19 H=>
 zab t16 false H (fun K'=>zah 1 t19 (K' · H)) fun t20 H=>
 zab t16 false H (fun K'=>K' t2 H) fun t21 H=>
 zab t16 false H (fun K'=>zac .neq false t20 t21 (K' · H)) fun t22 H=>
 zaj t16 (.bool true) t22 fun t23=>
 zag t23
 (K (.bool false) H)
 (zCx t3 (.int .i64 0) H K)
theorem zSl {t3 t7:AV} {H:zaa} {K:Kt} (Inv:Nat→AV→zaa→Prop) (n:Nat) (h0:HSc H→Inv n t7 H)
  (round:Rd1 (fun t7=>znC t3 t7) (fun t7=>fun H Kb4=>zgW t3 t7 H K Kb4) H Inv):zCx t3 t7 H K:=
 lp1 (M:=znB) zSm t7 (by kernel_rfl) Inv n h0 round
theorem zSn {t0 t1 t2:AV} {H:zaa} {K:Kt} (h:HSc H→zCw t0 t1 t2 H K):ACalls tP zjN [t0,t1,t2] H K:=
 zan (M:=znB) Tryz.func83 (c:=zuc) (by kernel_rfl) (fun hs=>Eq.mpr (by kernel_rfl) (h hs))
end Go.Proofs.YtjkkonpjecoieaaGreat

namespace Go.Proofs.YtjkkonpjecoieaaGreat
open Go Go.Abs
set_option maxRecDepth 8000
theorem zCl:∀ (m:Nat) (v:VT),v.nodes≤m→∀ (left:Int),left≤1000000→-1≤left→∀ (H:zaa) (id:Nat),H[id]?=some (.cells [.int .i64 left])→∀ (K:AV→zaa→Prop),
  ((v.nodes:Int)≤left→K (.bool true) (H.set id (.cells [.int .i64 (left-v.nodes)])))→(¬ (v.nodes:Int)≤left→∀ l',K (.bool false) (H.set id (.cells [.int .i64 l']))) →
  ACalls tP zhN [.agg v.cs,.ptr id 0] H K:=by
 intro m
 induction m with
 | zero=>intro v h;have:=v.nodes_pos;omega
 | succ m ih=>
  intro v hv left hl1 hl0 H id hid K hK hF
  obtain⟨k,n,ks⟩:=v
  have hlt:=zcX hid
  have hnn:(VT.mk k n ks).nodes=VT.nodesL ks+1:=by simp[VT.nodes]
  refine ACalls.out (zRN fun hs=>?_)
  have hget:(H++[AB.cells [.int .i64 k,.int .i64 n,.sl (VT.css ks) .none]])[id]?=some (.cells [.int .i64 left]):=zbO hid
  have bad:(¬ ((VT.mk k n ks).nodes:Int)≤left)→∀ l' H',H'=H.set id (.cells [.int .i64 l'])++[.cells [.int .i64 k,.int .i64 n,.sl (VT.css ks) .none]]→Out H.length K (.bool false) H':=by
   intro h l' H' he
   exact Out.bool he (by simp) (hs.set rfl) (hF h l')
  simp[zCj,VT.cs,hget,AV.known]
  rw[zau (by omega) (by omega),zct _ hid,zbO (zb5 _ hid)]
  by_cases h0:left-1<0
  ·simp[h0]
   exact bad (by omega) _ _ rfl
  ·simp[h0]
   refine zRL (Inv:=fun q t5 H'=>∃ i:Nat,i≤ks.length∧q=ks.length-i∧t5=.int .i64 i∧((VT.nodesL (ks.take i):Int)+1≤left)∧H'=H.set id (.cells [.int .i64 (left-1-VT.nodesL (ks.take i))])++[.cells [.int .i64 k,.int .i64 n,.sl (VT.css ks) .none]]) ks.length ?_ ?_
   ·intro _;exact⟨0,by omega,by omega,rfl,by simp[VT.nodesL];omega,by simp[VT.nodesL]⟩
   ·rintro q t5 H' ⟨i,hi,rfl,rfl,hb,rfl⟩ hsc hlen hsF Kb hKb
    by_cases hil:i<ks.length
    ·have hki:=VT.kid_lt (k:=k) (n:=n) hil
     have h1:=VT.nodesL_take hil
     have h2:=VT.nodesL_take_le ks (i+1)
     have hll:=VT.len_le (ks.take i)
     simp only[List.length_take]at hll
     have hge:(H.set id (.cells [.int .i64 (left-1-VT.nodesL (ks.take i))])++[AB.cells [.int .i64 k,.int .i64 n,.sl (VT.css ks) .none]])[id]?=some (.cells [.int .i64 (left-1-VT.nodesL (ks.take i))]):=zbO (zb5 _ hid)
     simp[ztZ,hil]
     refine ih ks[i] (by omega) (left-1-VT.nodesL (ks.take i)) (by omega) (by omega) _ id hge _ ?_ ?_
     ·intro hle
      rw[zct _ (zb5 _ hid),List.set_set]
      simp
      rw[zau (by omega) (by omega)]
      refine hKb _ _ ⟨ks.length-(i+1),by omega,Back.here (by simp) ((hs.set rfl).snoc rfl) ?_ ⟨_,rfl,i+1,by omega,rfl,by simp,by omega,?_⟩⟩
      ·simp[zns,AV.sc,AV.scV,AV.scA,AV.scB];omega
      ·rw[h1];congr 5;omega
     ·intro hle l'
      rw[zct _ (zb5 _ hid),List.set_set]
      simp
      exact bad (by omega) _ _ rfl
    ·obtain rfl:i=ks.length:=by omega
     rw[List.take_length]at hb ⊢
     simp[ztZ]
     refine Out.bool rfl (by simp) (hs.set rfl) ?_
     have:=hK (by omega)
     rw[hnn]at this
     rw[show left-1-(VT.nodesL ks:Int)=left-((VT.nodesL ks+1:Nat):Int) by omega]
     exact this
theorem zOy (v:VT) (H:zaa) (K:AV→zaa→Prop) (hK:∀ b,(b=true→v.nodes≤250)→K (.bool b) H):ACalls tP zpD [.agg v.cs] H K:=by
 refine ACalls.out (zOx fun hs=>?_)
 simp[zBe,AV.known]
 refine zCl _ v (Nat.le_refl _) 250 (by omega) (by omega) _ (H.length+1) (by simp) _ ?_ ?_
 ·intro h
  exact Out.bool (J:=[_,_]) (by simp;exact⟨rfl,rfl⟩) (Nat.le_refl _) hs (hK true fun _=>by omega)
 ·intro h l'
  exact Out.bool (J:=[_,_]) (by simp;exact⟨rfl,rfl⟩) (Nat.le_refl _) hs (hK false fun h=>by cases h)
end Go.Proofs.YtjkkonpjecoieaaGreat
namespace Go.Proofs.YtjkkonpjecoieaaGreat
open Go Go.Abs
set_option maxRecDepth 8000
theorem zBX:∀ (m:Nat) (v:VT),v.nodes≤m→v.nodes≤1000000000→∀ (H:zaa) (K:AV→zaa→Prop),K (.int .i64 v.nodes) H→ACalls tP zhK [.agg v.cs] H K:=by
 intro m
 induction m with
 | zero=>intro v h;have:=v.nodes_pos;omega
 | succ m ih=>
  intro v hv hb H K hK
  obtain⟨k,n,ks⟩:=v
  have hnl:VT.nodesL ks+1≤1000000000:=by simpa[VT.nodes]using hb
  have hll:=VT.len_le ks
  refine ACalls.out (zQB fun hs=>?_)
  simp[VT.cs,zBV]
  refine zQz (Inv:=fun q t3 t4 H'=>∃ i:Nat,i≤ks.length∧q=ks.length-i∧t4=.int .i64 i∧t3=.int .i64 (1+VT.nodesL (ks.take i):Nat)∧H'=H++[.cells [.int .i64 k,.int .i64 n,.sl (VT.css ks) .none]]) ks.length ?_ ?_
  ·intro _;exact⟨0,by omega,by omega,rfl,by simp[VT.nodesL],rfl⟩
  ·rintro q t3 t4 H' ⟨i,hi,rfl,rfl,rfl,rfl⟩ hsc hlen hsF Kb hKb
   by_cases hlt:i<ks.length
   ·have hki:=VT.kid_lt (k:=k) (n:=n) hlt
    have h1:=VT.nodesL_take hlt
    have h2:=VT.nodesL_take_le ks (i+1)
    simp[ztF,hlt]
    refine ih ks[i] (by omega) (by omega) _ _ ?_
    simp
    rw[zau (by omega) (by omega),zau (by omega) (by omega)]
    refine hKb _ _ ⟨ks.length-(i+1),by omega,Back.here (by simp) hsc ?_ ⟨_,_,rfl,i+1,by omega,rfl,by simp,?_,rfl⟩⟩
    ·simp[zmX,AV.sc,AV.scV,AV.scA,AV.scB]
    ·rw[h1];congr 1;omega
   ·obtain rfl:i=ks.length:=by omega
    simp[ztF]
    refine Out.int rfl (Nat.le_refl _) hs ?_
    simpa[VT.nodes,Int.add_comm]using hK
end Go.Proofs.YtjkkonpjecoieaaGreat
