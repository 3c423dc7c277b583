import Derived.Test.YtjkkonpjecoieaaGreatKNum
import Derived.Test.YtjkkonpjecoieaaGreatProg
import Derived.KernelRfl
import Derived.Test.YtjkkonpjecoieaaGreatKGN1
import Derived.Test.YtjkkonpjecoieaaGreatKUQ
import Derived.Test.YtjkkonpjecoieaaGreatAbsQ1
import Derived.Lib.AppendStr
import Derived.Lib.UnsafeStr
import Derived.Test.YtjkkonpjecoieaaGreatVT
import Derived.Sort.Grow
import Derived.Deep.Draws
set_option linter.unusedSimpArgs false
set_option linter.unusedVariables false
namespace Go.Proofs.YtjkkonpjecoieaaGreat
open Go Go.Abs
set_option maxRecDepth 100000
def zmp:Nat→List Bool
 | 5=>rl false [1,2,2,1,24]
 | _=>[]
noncomputable def zs8:Code:=Tryz.f41.body.getD .skip
noncomputable def zPb:List ResultVar:=Tryz.f41.results.toList
def zmq (t1 t2 t5:AV):List AV:=ux 1 (t1::t2::ux 2 (t5::ux 24 []))
def zO9:List Bool:=zmp 5
noncomputable def zO7:Code:=zap [1,1,1,0,1,0,0] zs8
def zO6 (K:Kt):AExit→List AV→zaa→Prop:=zaq tP zmp [1,1,1,0,1,0] zs8 (zaA tP zPb K)
def zBv (t1 t2 t5:AV) (H:zaa) (K:Kt):Prop:=ALoop tP zO7 (zO6 K) (zmq t1 t2 t5) H
def zs7 (t1 t2 t5:AV) (H:zaa) (K:Kt) (Kb5:Lt):Prop:=
 zaf 2 t2 fun t16=>
 zae false 1 t16 H fun t17=>
 zah 1 t17 fun t18=>
 zac .lss false t5 t18 fun t19=>
 zag t19
 (zaf 2 t2 fun t22=>
 zae false 1 t22 H fun t23=>
 zai 3 t23 t5 fun t25=>
 zae true 3 t25 H fun t26=>
 ACalls tP zjC [t26,t1] H fun t28 H=>
 aUn .not t28 fun t29=>
 zag t29
 (K (.bool false) H)
 (zac .add false t5 (.int .i64 1) fun t21=>
 Kb5 (zmq t1 t2 t21) H))
 (K (.bool true) H)
def zBu (t0 t1:AV) (H:zaa) (K:Kt):Prop:=
 zao t0 H fun t2 H=>
 zbj t1 fun t7=>
 zae false 1 t7 H fun t8=>
 zac .sub false t8 (.int .i64 1) fun t9=>
 zbj t1 fun t10=>
 zam 1 t10 t9 H fun H=>
 zbj t1 fun t12=>
 zae false 1 t12 H fun t13=>
 zac .lss false t13 (.int .i64 0) fun t14=>
 zag t14
 (K (.bool false) H)
 (zBv t1 t2 (.int .i64 0) H K)
theorem zO8 {t1 t2 t5:AV} {H:zaa} {K:Kt} (Inv:Nat→AV→zaa→Prop) (n:Nat) (h0:HSc H→Inv n t5 H)
  (round:Rd1 (fun t5=>zmq t1 t2 t5) (fun t5=>fun H Kb5=>zs7 t1 t2 t5 H K Kb5) H Inv):zBv t1 t2 t5 H K:=
 lp1 (M:=zmp) zO9 t5 (by kernel_rfl) Inv n h0 round
theorem zPa {t0 t1:AV} {H:zaa} {K:Kt} (h:HSc H→zBu t0 t1 H K):ACalls tP zjC [t0,t1] H K:=
 zan (M:=zmp) Tryz.func41 (c:=zs8) (by kernel_rfl) (fun hs=>Eq.mpr (by kernel_rfl) (h hs))
def zmt:Nat→List Bool
 | 21=>rl false [0,1,3,2,1,1,2,1,174]
 | _=>[]
noncomputable def ztc:Code:=Tryz.f42.body.getD .skip
noncomputable def zPo:List ResultVar:=Tryz.f42.results.toList
def zmu (t0 t4 t5 t7 t10:AV):List AV:=t0::ux 3 (t4::t5::ux 1 (t7::ux 2 (t10::ux 174 [])))
def zPm:List Bool:=zmt 21
noncomputable def zPk:Code:=zap [1,1,0,1,0,1,1,1,1,1,1,1,1,1,1,1,0,1,0,1,0,0] ztc
def zPj (K:Kt):AExit→List AV→zaa→Prop:=zaq tP zmt [1,1,0,1,0,1,1,1,1,1,1,1,1,1,1,1,0,1,0,1,0] ztc (zaA tP zPo K)
def ztd (t0 t4 t5 t7 t10:AV) (H:zaa) (K:Kt):Prop:=ALoop tP zPk (zPj K) (zmu t0 t4 t5 t7 t10) H
def ztb (t0 t4 t5 t7 t10:AV) (H:zaa) (K:Kt) (Kb21:Lt):Prop:=
 zac .lss false t10 t7 fun t153=>
 zag t153
 (zad H (fun K'=>K' t0 H) fun t156=>
 zad H (fun K'=>zaf 2 t4 (K' · H)) fun t157=>
 zad H (fun K'=>zal false 1 t157 H (K' · H)) fun t158=>
 zad H (fun K'=>K' t10 H) fun t159=>
 zad H (fun K'=>zai 3 t158 t159 (K' · H)) fun t160=>
 zad H (fun K'=>zal true 3 t160 H (K' · H)) fun t161=>
 zad H (fun K'=>zaf 2 t5 (K' · H)) fun t162=>
 zad H (fun K'=>zal false 1 t162 H (K' · H)) fun t163=>
 zad H (fun K'=>zai 3 t163 (.int .i64 0) (K' · H)) fun t164=>
 zad H (fun K'=>zal true 3 t164 H (K' · H)) fun t165=>
 zaE H (fun H K'=>ACalls tP zhI [t156,t161,t165] H K') fun t166=>
 zad H (fun K'=>aUn .not t166 (K' · H)) fun t167=>
 zag t167
 (K (.bool false) H)
 (zac .add false t10 (.int .i64 1) fun t155=>
 Kb21 (zmu t0 t4 t5 t7 t155) H))
 (K (.bool true) H)
def zir (t0 t4 t5 t7 t117:AV) (H:zaa) (K:Kt):Prop:=
 zag t117
 (zaf 0 t5 fun t120=>
 zae false 1 t120 H fun t121=>
 zac .eql false t121 (.int .i64 7) fun t122=>
 zab t122 true H (fun K'=>zaf 0 t4 (K' · H)) fun t124 H=>
 zab t122 true H (fun K'=>zae false 1 t124 H (K' · H)) fun t125 H=>
 zab t122 true H (fun K'=>zac .neq false t125 (.int .i64 6) (K' · H)) fun t126 H=>
 zab t122 true H (fun K'=>K' t126 H) fun t127 H=>
 zab t127 false H (fun K'=>K' t7 H) fun t128 H=>
 zab t127 false H (fun K'=>zac .gtr false t128 (.int .i64 4096) (K' · H)) fun t129 H=>
 zab t122 true H (fun K'=>zaj t127 (.bool true) t129 (K' · H)) fun t130 H=>
 zaj t122 t130 (.bool false) fun t131=>
 zab t131 false H (fun K'=>zaf 0 t5 (K' · H)) fun t133 H=>
 zab t131 false H (fun K'=>zae false 1 t133 H (K' · H)) fun t134 H=>
 zab t131 false H (fun K'=>zac .eql false t134 (.int .i64 8) (K' · H)) fun t135 H=>
 zab t131 false H (fun K'=>K' t135 H) fun t136 H=>
 zab t136 true H (fun K'=>zaf 0 t4 (K' · H)) fun t137 H=>
 zab t136 true H (fun K'=>zae false 1 t137 H (K' · H)) fun t138 H=>
 zab t136 true H (fun K'=>zac .neq false t138 (.int .i64 7) (K' · H)) fun t139 H=>
 zab t136 true H (fun K'=>K' t139 H) fun t140 H=>
 zab t140 false H (fun K'=>K' t7 H) fun t141 H=>
 zab t140 false H (fun K'=>zac .neq false t141 (.int .i64 1) (K' · H)) fun t142 H=>
 zab t136 true H (fun K'=>zaj t140 (.bool true) t142 (K' · H)) fun t143 H=>
 zab t131 false H (fun K'=>zaj t136 t143 (.bool false) (K' · H)) fun t144 H=>
 zaj t131 (.bool true) t144 fun t145=>
 zab t145 false H (fun K'=>zaf 1 t4 (K' · H)) fun t147 H=>
 zab t145 false H (fun K'=>zae false 1 t147 H (K' · H)) fun t148 H=>
 zab t145 false H (fun K'=>zac .neq false t148 (.int .i64 0) (K' · H)) fun t149 H=>
 zaj t145 (.bool true) t149 fun t150=>
 zag t150
 (K (.bool false) H)
 (ztd t0 t4 t5 t7 (.int .i64 0) H K))
 (zaf 0 t4 fun t168=>
 zae false 1 t168 H fun t169=>
 zac .eql false t169 (.int .i64 8) fun t170=>
 zab t170 true H (fun K'=>zaf 1 t4 (K' · H)) fun t172 H=>
 zab t170 true H (fun K'=>zae false 1 t172 H (K' · H)) fun t173 H=>
 zab t170 true H (fun K'=>zac .geq false t173 (.int .i64 0) (K' · H)) fun t174 H=>
 zaj t170 t174 (.bool false) fun t175=>
 zab t175 true H (fun K'=>zaf 1 t4 (K' · H)) fun t177 H=>
 zab t175 true H (fun K'=>zae false 1 t177 H (K' · H)) fun t178 H=>
 zab t175 true H (fun K'=>zac .lss false t178 (.int .i64 64) (K' · H)) fun t179 H=>
 zaj t175 t179 (.bool false) fun t180=>
 zab t180 true H (fun K'=>K' t7 H) fun t182 H=>
 zab t180 true H (fun K'=>zac .eql false t182 (.int .i64 0) (K' · H)) fun t183 H=>
 zaj t180 t183 (.bool false) fun t184=>
 K t184 H)
def zew (t0 t1 t2:AV) (H:zaa) (K:Kt):Prop:=
 zao t1 H fun t4 H=>
 zao t2 H fun t5 H=>
 zaf 2 t4 fun t11=>
 zae false 1 t11 H fun t12=>
 zah 1 t12 fun t13=>
 zaf 0 t5 fun t14=>
 zae false 1 t14 H fun t15=>
 zac .eql false t15 (.int .i64 3) fun t17=>
 zag t17
 (zaf 0 t4 fun t18=>
 zae false 1 t18 H fun t19=>
 zac .eql false t19 (.int .i64 1) fun t20=>
 zab t20 true H (fun K'=>zaf 1 t4 (K' · H)) fun t22 H=>
 zab t20 true H (fun K'=>zae false 1 t22 H (K' · H)) fun t23 H=>
 zab t20 true H (fun K'=>zac .eql false t23 (.int .i64 0) (K' · H)) fun t24 H=>
 zaj t20 t24 (.bool false) fun t25=>
 zab t25 true H (fun K'=>K' t13 H) fun t27 H=>
 zab t25 true H (fun K'=>zac .eql false t27 (.int .i64 0) (K' · H)) fun t28 H=>
 zaj t25 t28 (.bool false) fun t29=>
 K t29 H)
 (zac .eql false t15 (.int .i64 2) fun t31=>
 zag t31
 (zaf 0 t4 fun t32=>
 zae false 1 t32 H fun t33=>
 zac .eql false t33 (.int .i64 2) fun t34=>
 zab t34 true H (fun K'=>zaf 1 t4 (K' · H)) fun t36 H=>
 zab t34 true H (fun K'=>zae false 1 t36 H (K' · H)) fun t37 H=>
 zab t34 true H (fun K'=>zac .eql false t37 (.int .i64 0) (K' · H)) fun t38 H=>
 zab t34 true H (fun K'=>K' t38 H) fun t39 H=>
 zab t39 false H (fun K'=>zaf 1 t4 (K' · H)) fun t40 H=>
 zab t39 false H (fun K'=>zae false 1 t40 H (K' · H)) fun t41 H=>
 zab t39 false H (fun K'=>zac .eql false t41 (.int .i64 1) (K' · H)) fun t42 H=>
 zab t34 true H (fun K'=>zaj t39 (.bool true) t42 (K' · H)) fun t43 H=>
 zaj t34 t43 (.bool false) fun t44=>
 zab t44 true H (fun K'=>K' t13 H) fun t46 H=>
 zab t44 true H (fun K'=>zac .eql false t46 (.int .i64 0) (K' · H)) fun t47 H=>
 zaj t44 t47 (.bool false) fun t48=>
 K t48 H)
 (zac .eql false t15 (.int .i64 1) fun t50=>
 zag t50
 (zaf 0 t4 fun t51=>
 zae false 1 t51 H fun t52=>
 zac .eql false t52 (.int .i64 3) fun t53=>
 zab t53 true H (fun K'=>zaf 1 t4 (K' · H)) fun t55 H=>
 zab t53 true H (fun K'=>zae false 1 t55 H (K' · H)) fun t56 H=>
 zab t53 true H (fun K'=>zac .geq false t56 (.int .i64 (-1099511627776)) (K' · H)) fun t57 H=>
 zaj t53 t57 (.bool false) fun t58=>
 zab t58 true H (fun K'=>zaf 1 t4 (K' · H)) fun t60 H=>
 zab t58 true H (fun K'=>zae false 1 t60 H (K' · H)) fun t61 H=>
 zab t58 true H (fun K'=>zac .leq false t61 (.int .i64 1099511627776) (K' · H)) fun t62 H=>
 zaj t58 t62 (.bool false) fun t63=>
 zab t63 true H (fun K'=>K' t13 H) fun t65 H=>
 zab t63 true H (fun K'=>zac .eql false t65 (.int .i64 0) (K' · H)) fun t66 H=>
 zaj t63 t66 (.bool false) fun t67=>
 K t67 H)
 (zac .eql false t15 (.int .i64 6) fun t69=>
 zag t69
 (zaf 0 t4 fun t70=>
 zae false 1 t70 H fun t71=>
 zac .eql false t71 (.int .i64 4) fun t72=>
 zab t72 true H (fun K'=>zaf 1 t4 (K' · H)) fun t74 H=>
 zab t72 true H (fun K'=>zae false 1 t74 H (K' · H)) fun t75 H=>
 zab t72 true H (fun K'=>zac .eql false t75 (.int .i64 0) (K' · H)) fun t76 H=>
 zaj t72 t76 (.bool false) fun t77=>
 zab t77 true H (fun K'=>K' t0 H) fun t79 H=>
 zab t77 true H (fun K'=>zaf 2 t4 (K' · H)) fun t80 H=>
 zab t77 true H (fun K'=>zae false 1 t80 H (K' · H)) fun t81 H=>
 zab t77 true H (fun K'=>zaf 2 t5 (K' · H)) fun t82 H=>
 zab t77 true H (fun K'=>zae false 1 t82 H (K' · H)) fun t83 H=>
 zab t77 true H (fun K'=>ACalls tP zjP [t79,t81,t83] H K') fun t84 H=>
 zaj t77 t84 (.bool false) fun t85=>
 K t85 H)
 (zac .eql false t15 (.int .i64 5) fun t87=>
 zag t87
 (zaf 0 t4 fun t88=>
 zae false 1 t88 H fun t89=>
 zac .neq false t89 (.int .i64 5) fun t90=>
 zab t90 false H (fun K'=>zaf 1 t4 (K' · H)) fun t92 H=>
 zab t90 false H (fun K'=>zae false 1 t92 H (K' · H)) fun t93 H=>
 zab t90 false H (fun K'=>zac .lss false t93 (.int .i64 0) (K' · H)) fun t94 H=>
 zaj t90 (.bool true) t94 fun t95=>
 zab t95 false H (fun K'=>zaf 1 t4 (K' · H)) fun t97 H=>
 zab t95 false H (fun K'=>zae false 1 t97 H (K' · H)) fun t98 H=>
 zab t95 false H (fun K'=>zac .geq false t98 (.int .i64 8) (K' · H)) fun t99 H=>
 zaj t95 (.bool true) t99 fun t100=>
 zag t100
 (K (.bool false) H)
 (zae true 3 t5 H fun t103=>
 zaf 1 t4 fun t104=>
 zae false 1 t104 H fun t105=>
 ACalls tP zgk [t0,t103,t105] H fun t106 H=>
 zay t106 0 fun t107=>
 zay t106 1 fun t108=>
 zab t108 true H (fun K'=>K' t0 H) fun t111 H=>
 zab t108 true H (fun K'=>zaf 2 t4 (K' · H)) fun t112 H=>
 zab t108 true H (fun K'=>zae false 1 t112 H (K' · H)) fun t113 H=>
 zab t108 true H (fun K'=>K' t107 H) fun t114 H=>
 zab t108 true H (fun K'=>ACalls tP zjP [t111,t113,t114] H K') fun t115 H=>
 zaj t108 t115 (.bool false) fun t116=>
 K t116 H))
 (zac .eql false t15 (.int .i64 7) fun t118=>
 zag t118
 (zir t0 t4 t5 t13 t118 H K)
 (zac .eql false t15 (.int .i64 8) fun t119=>
 zir t0 t4 t5 t13 t119 H K))))))
theorem zPl {t0 t4 t5 t7 t10:AV} {H:zaa} {K:Kt} (Inv:Nat→AV→zaa→Prop) (n:Nat) (h0:HSc H→Inv n t10 H)
  (round:Rd1 (fun t10=>zmu t0 t4 t5 t7 t10) (fun t10=>fun H Kb21=>ztb t0 t4 t5 t7 t10 H K Kb21) H Inv):ztd t0 t4 t5 t7 t10 H K:=
 lp1 (M:=zmt) zPm t10 (by kernel_rfl) Inv n h0 round
theorem zPn {t0 t1 t2:AV} {H:zaa} {K:Kt} (h:HSc H→zew t0 t1 t2 H K):ACalls tP zhI [t0,t1,t2] H K:=
 zan (M:=zmt) Tryz.func42 (c:=ztc) (by kernel_rfl) (fun hs=>Eq.mpr (by kernel_rfl) (h hs))
def znH:Nat→List Bool
 | 4=>rl false [0,3,4,1,22]
 | _=>[]
noncomputable def zum:Code:=Tryz.f86.body.getD .skip
noncomputable def zSJ:List ResultVar:=Tryz.f86.results.toList
def znI (t0 t1 t2 t7:AV):List AV:=t0::t1::t2::ux 4 (t7::ux 22 [])
def zSH:List Bool:=znH 4
noncomputable def zSF:Code:=zap [1,1,0,1,0,0] zum
def zSE (K:Kt):AExit→List AV→zaa→Prop:=zaq tP znH [1,1,0,1,0] zum (zaA tP zSJ K)
def zCD (t0 t1 t2 t7:AV) (H:zaa) (K:Kt):Prop:=ALoop tP zSF (zSE K) (znI t0 t1 t2 t7) H
def zul (t0 t1 t2 t7:AV) (H:zaa) (K:Kt) (Kb4:Lt):Prop:=
 zah 1 t1 fun t15=>
 zac .lss false t7 t15 fun t16=>
 zag t16
 (zad H (fun K'=>K' t0 H) fun t19=>
 zad H (fun K'=>K' t1 H) fun t20=>
 zad H (fun K'=>K' t7 H) fun t21=>
 zad H (fun K'=>zai 3 t20 t21 (K' · H)) fun t22=>
 zad H (fun K'=>zal true 3 t22 H (K' · H)) fun t23=>
 zad H (fun K'=>K' t2 H) fun t24=>
 zad H (fun K'=>K' t7 H) fun t25=>
 zad H (fun K'=>zai 3 t24 t25 (K' · H)) fun t26=>
 zad H (fun K'=>zal true 3 t26 H (K' · H)) fun t27=>
 zaE H (fun H K'=>ACalls tP zhI [t19,t23,t27] H K') fun t28=>
 zad H (fun K'=>aUn .not t28 (K' · H)) fun t29=>
 zag t29
 (K (.bool false) H)
 (zac .add false t7 (.int .i64 1) fun t18=>
 Kb4 (znI t0 t1 t2 t18) H))
 (K (.bool true) H)
def zuk (t0 t1 t2:AV) (H:zaa) (K:Kt):Prop:=
 zah 1 t1 fun t9=>
 zah 1 t2 fun t11=>
 zac .neq false t9 t11 fun t12=>
 zag t12
 (K (.bool false) H)
 (zCD t0 t1 t2 (.int .i64 0) H K)
theorem zSG {t0 t1 t2 t7:AV} {H:zaa} {K:Kt} (Inv:Nat→AV→zaa→Prop) (n:Nat) (h0:HSc H→Inv n t7 H)
  (round:Rd1 (fun t7=>znI t0 t1 t2 t7) (fun t7=>fun H Kb4=>zul t0 t1 t2 t7 H K Kb4) H Inv):zCD t0 t1 t2 t7 H K:=
 lp1 (M:=znH) zSH t7 (by kernel_rfl) Inv n h0 round
theorem zSI {t0 t1 t2:AV} {H:zaa} {K:Kt} (h:HSc H→zuk t0 t1 t2 H K):ACalls tP zjP [t0,t1,t2] H K:=
 zan (M:=znH) Tryz.func86 (c:=zum) (by kernel_rfl) (fun hs=>Eq.mpr (by kernel_rfl) (h hs))
def zmi:Nat→List Bool
 | 5=>rl false [1,2,2,1,24]
 | _=>[]
noncomputable def zsZ:Code:=Tryz.f38.body.getD .skip
noncomputable def zOT:List ResultVar:=Tryz.f38.results.toList
def zmj (t1 t2 t5:AV):List AV:=ux 1 (t1::t2::ux 2 (t5::ux 24 []))
def zOR:List Bool:=zmi 5
noncomputable def zOP:Code:=zap [1,1,1,0,1,0,0] zsZ
def zOO (K:Kt):AExit→List AV→zaa→Prop:=zaq tP zmi [1,1,1,0,1,0] zsZ (zaA tP zOT K)
def zBk (t1 t2 t5:AV) (H:zaa) (K:Kt):Prop:=ALoop tP zOP (zOO K) (zmj t1 t2 t5) H
def zsY (t1 t2 t5:AV) (H:zaa) (K:Kt) (Kb5:Lt):Prop:=
 zaf 2 t2 fun t16=>
 zae false 1 t16 H fun t17=>
 zah 1 t17 fun t18=>
 zac .lss false t5 t18 fun t19=>
 zag t19
 (zaf 2 t2 fun t22=>
 zae false 1 t22 H fun t23=>
 zai 3 t23 t5 fun t25=>
 zae true 3 t25 H fun t26=>
 ACalls tP zjA [t26,t1] H fun t28 H=>
 aUn .not t28 fun t29=>
 zag t29
 (K (.bool false) H)
 (zac .add false t5 (.int .i64 1) fun t21=>
 Kb5 (zmj t1 t2 t21) H))
 (K (.bool true) H)
def zBj (t0 t1:AV) (H:zaa) (K:Kt):Prop:=
 zao t0 H fun t2 H=>
 zbj t1 fun t7=>
 zae false 1 t7 H fun t8=>
 zac .sub false t8 (.int .i64 1) fun t9=>
 zbj t1 fun t10=>
 zam 1 t10 t9 H fun H=>
 zbj t1 fun t12=>
 zae false 1 t12 H fun t13=>
 zac .lss false t13 (.int .i64 0) fun t14=>
 zag t14
 (K (.bool false) H)
 (zBk t1 t2 (.int .i64 0) H K)
theorem zOQ {t1 t2 t5:AV} {H:zaa} {K:Kt} (Inv:Nat→AV→zaa→Prop) (n:Nat) (h0:HSc H→Inv n t5 H)
  (round:Rd1 (fun t5=>zmj t1 t2 t5) (fun t5=>fun H Kb5=>zsY t1 t2 t5 H K Kb5) H Inv):zBk t1 t2 t5 H K:=
 lp1 (M:=zmi) zOR t5 (by kernel_rfl) Inv n h0 round
theorem zOS {t0 t1:AV} {H:zaa} {K:Kt} (h:HSc H→zBj t0 t1 H K):ACalls tP zjA [t0,t1] H K:=
 zan (M:=zmi) Tryz.func38 (c:=zsZ) (by kernel_rfl) (fun hs=>Eq.mpr (by kernel_rfl) (h hs))
end Go.Proofs.YtjkkonpjecoieaaGreat

namespace Go.Proofs.YtjkkonpjecoieaaGreat
open Go Go.Abs
set_option maxRecDepth 8000
def d4 (data:List Dat):AV:=.agg [.sl (data.map Dat.cs) .none,.snil,.snil,.snil]
section
variable {H:zaa} {K:Kt} (data:List Dat)
theorem zG5 (hK:K (.bool true) H):ACalls tP zpg [d4 data] H K:=by
 refine ACalls.out (zKt fun hs=>?_)
 simp[zzz,d4]
 refine⟨rfl,ACalls.wk (args':=[.sl (VT.css []) .none,.fn zwt [.ptr H.length 0]]) ?_ ⟨.atom .snil,.atom (.refl _),trivial⟩⟩
 refine zov [] (by simp) _ _ _ (by simp[AV.sc,AV.scV,AV.scA,AV.scB]) (fun _ H'=>H'=H++[.cells [.sl (data.map Dat.cs) .none,.snil,.snil,.snil]]) rfl (fun i h=>by simp at h) ?_
 rintro H' rfl
 simp
 exact Out.bool rfl (Nat.le_refl _) hs hK
theorem zDP (hK:K (.bool true) H):ACalls tP zph [d4 data] H K:=by
 refine ACalls.out (zKy fun hs=>?_)
 simp[zzA,d4]
 refine zKw (Inv:=fun _ _ t H'=>t=.int .i64 0∧H'=_) 0 (fun _=>⟨rfl,rfl⟩) ?_
 rintro q t4 t H' ⟨rfl,rfl⟩ _ _ _ Kb hKb
 simp[zzB]
 exact Out.bool rfl (Nat.le_refl _) hs hK
theorem zGT (hK:K (.bool true) H):ACalls tP zpi [d4 data] H K:=by
 refine ACalls.out (zKJ fun hs=>?_)
 simp[zzE,d4,zbr]
 refine⟨⟨rfl,rfl⟩,zKH (Inv:=fun _ t H'=>t=.int .i64 0∧H'=_) 0 (fun _=>⟨rfl,rfl⟩) ?_⟩
 rintro q t H' ⟨rfl,rfl⟩ _ _ _ Kb hKb
 simp[zzH]
 refine zKG (Inv:=fun _ t H'=>t=.int .i64 0∧H'=_) 0 (fun _=>⟨rfl,rfl⟩) ?_
 rintro q t H' ⟨rfl,rfl⟩ _ _ _ Kb2 hKb2
 simp[zzG,Nat.add_assoc]
 exact Out.bool rfl (Nat.le_refl _) hs hK
theorem zDz (hK:K (.bool true) H):ACalls tP zpk [d4 data] H K:=by
 refine ACalls.out (zK7 fun hs=>?_)
 simp[zzU,d4,zbr]
 refine⟨⟨rfl,rfl⟩,zK5 (Inv:=fun _ t H'=>t=.int .i64 0∧H'=_) 0 (fun _=>⟨rfl,rfl⟩) ?_⟩
 rintro q t H' ⟨rfl,rfl⟩ _ _ _ Kb hKb
 simp[zzX]
 refine zK4 (Inv:=fun _ t H'=>t=.int .i64 0∧H'=_) 0 (fun _=>⟨rfl,rfl⟩) ?_
 rintro q t H' ⟨rfl,rfl⟩ _ _ _ Kb2 hKb2
 simp[zzW,Nat.add_assoc]
 exact Out.bool rfl (Nat.le_refl _) hs hK
theorem zFM (hK:K (.bool true) H):ACalls tP zpl [d4 data] H K:=by
 refine ACalls.out (zLc fun hs=>?_)
 simp[zz3,d4,zbr]
 refine⟨rfl,⟨rfl,rfl,rfl,rfl⟩,zLa (Inv:=fun _ t H'=>t=.int .i64 0∧H'=_) 0 (fun _=>⟨rfl,rfl⟩) ?_⟩
 rintro q t H' ⟨rfl,rfl⟩ _ _ _ Kb hKb
 simp[zz4]
 exact Out.bool rfl (Nat.le_refl _) hs hK
theorem zD9 (hK:K (.bool true) H):ACalls tP zpm [d4 data] H K:=by
 refine ACalls.out (zLm fun hs=>?_)
 simp[zz6,d4,zbr,zaz,zaV]
 refine zLi (Inv:=fun _ t H'=>t=.int .i64 0∧H'=_) 0 (fun _=>⟨rfl,rfl⟩) ?_
 rintro q t H' ⟨rfl,rfl⟩ _ _ _ Kb hKb
 simp[zz7]
 refine zLj (Inv:=fun _ t H'=>t=.int .i64 0∧H'=_) 0 (fun _=>⟨rfl,rfl⟩) ?_
 rintro q t H' ⟨rfl,rfl⟩ _ _ _ Kb2 hKb2
 simp[zz8]
 exact Out.bool rfl (Nat.le_refl _) hs hK
theorem zIw (hB:zn6 data) (hl:data.length≤1000000) (hK:K (.bool (zbe data)) H):ACalls tP zo8 [d4 data] H K:=by
 refine ACalls.out (zIx fun hs=>?_)
 simp[zy1,d4]
 refine zKq data hB hl _ _ ?_
 cases hd:zbe data with
 | false=>
  rw[hd]at hK
  simp
  exact Out.bool rfl (Nat.le_refl _) hs hK
 | true=>
  rw[hd]at hK
  simp
  refine zG5 data ?_
  simp
  refine zDP data ?_
  simp
  refine zGT data ?_
  simp
  refine zDz data ?_
  simp
  refine zFM data ?_
  simp
  refine zD9 data ?_
  exact Out.bool rfl (Nat.le_refl _) hs hK
def zbg (data:List Dat) (t:VT):Bool:=zbe data && zaR data 0 t
end
end Go.Proofs.YtjkkonpjecoieaaGreat
namespace Go.Proofs.YtjkkonpjecoieaaGreat
open Go Go.Abs
set_option maxRecDepth 8000
theorem zEm (x:List VT) (hl:x.length≤1000000000) (fv:AV) (H:zaa) (K:AV→zaa→Prop) (hfv:fv.sc H.length=true) (Inv:Nat→zaa→Prop) (h0:Inv 0 H)
  (step:∀ (i:Nat) (h:i<x.length) (H':zaa),H.length≤H'.length→Inv i H'→aCallV tP fv [.agg (x[i]).cs] H' fun r H''=>(r=.bool false∧Inv (i+1) H'')∨(r=.bool true∧K (.int .i64 i) H''))
  (fin:∀ H',Inv x.length H'→K (.int .i64 (-1)) H'):ACalls tP zpn [.sl (VT.css x) .none,fv] H K:=by
 refine zLC fun hs=>?_
 simp[zAg]
 refine zLA (Inv:=fun q t8 H'=>∃ i:Nat,i≤x.length∧q=x.length-i∧t8=.int .i64 i∧H.length≤H'.length∧Inv i H') x.length ?_ ?_
 ·intro _;exact⟨0,by omega,by omega,rfl,Nat.le_refl _,h0⟩
 ·rintro q t8 H' ⟨i,hi,rfl,rfl,hle,hI⟩ hsc hlen hsF Kb hKb
  by_cases hlt:i<x.length
  ·simp[zsb,hlt]
   refine (step i hlt H' hle hI).mono' fun r H'' hsc' hle' hr=>?_
   rcases hr with ⟨rfl,hI'⟩ | ⟨rfl,hk⟩
   ·simp
    rw[zau (by omega) (by omega)]
    refine hKb _ _ ⟨x.length-(i+1),by omega,Back.here (by omega) hsc' ?_ ⟨_,rfl,i+1,by omega,rfl,by simp,by omega,hI'⟩⟩
    simp[zlD,AV.sc,AV.scV,AV.scA,AV.scB]
    exact zcf (by omega) hfv
   ·simpa using hk
  ·obtain rfl:i=x.length:=by omega
   simp[zsb]
   exact fin H' hI
theorem zDU (x:List VT) (hl:x.length≤1000000000) (fv:AV) (H:zaa) (K:AV→zaa→Prop) (hfv:fv.sc H.length=true) (Inv:Nat→zaa→Prop) (h0:Inv 0 H)
  (step:∀ (i:Nat) (h:i<x.length) (H':zaa),H.length≤H'.length→Inv i H'→aCallV tP fv [.agg (x[i]).cs] H' fun r H''=>(r=.bool false∧Inv (i+1) H'')∨(r=.bool true∧K (.bool true) H''))
  (fin:∀ H',Inv x.length H'→K (.bool false) H'):ACalls tP zo9 [.sl (VT.css x) .none,fv] H K:=by
 refine zIH fun hs=>?_
 unfold zy5
 refine zEm x hl fv H _ hfv Inv h0 (fun i h H' hle hI=>(step i h H' hle hI).mono' fun r H'' _ _ hr=>?_) (fun H' hI=>?_)
 ·rcases hr with hr | ⟨h1,h2⟩
  ·exact .inl hr
  ·refine .inr ⟨h1,?_⟩
   have:decide ((0:Int)≤i)=true:=by simp
   simpa using h2
 ·simpa using fin H' hI
theorem zD8 (f:VT→VT→Bool) (fv:AV) (x y:List VT) (H:zaa) (hsc:fv.sc H.length=true) (hf:∀ (i:Nat) (h1:i<x.length) (h2:i<y.length),x.length=y.length→∀ (J:zaa) (K:AV→zaa→Prop),K (.bool (f x[i] y[i])) (H++J)→aCallV tP fv [.agg (x[i]).cs,.agg (y[i]).cs] (H++J) K)
  (hl:x.length≤1000000000) (K:AV→zaa→Prop) (hK:K (.bool (zca f x y)) H):ACalls tP zpo [.sl (VT.css x) .none,.sl (VT.css y) .none,fv] H K:=by
 refine ACalls.out (zLI fun hs=>?_)
 have hO:∀ J,Out H.length K (.bool (zca f x y)) (H++J):=fun J=>Out.bool rfl (Nat.le_refl _) hs hK
 by_cases hlen:x.length=y.length
 ·simp[zsd,hlen]
  refine zLG (Inv:=fun q t17 H'=>∃ i:Nat,i≤x.length∧q=x.length-i∧t17=.int .i64 i∧zca f (x.drop i) (y.drop i)=zca f x y∧H=H') x.length ?_ ?_
  ·intro _;exact⟨0,by omega,by omega,rfl,by simp,rfl⟩
  ·rintro q t17 H' ⟨i,hi,rfl,rfl,ho,rfl⟩ hsc4 hlen2 hsF Kb hKb
   by_cases hlt:i<x.length
   ·have hlt':i<y.length:=by omega
    have hltI:(i:Int)<y.length:=by omega
    rw[List.drop_eq_getElem_cons hlt,List.drop_eq_getElem_cons hlt',zca]at ho
    obtain⟨x1,x2,x3,hvx,hx1,hx2,hx3⟩:=zaO x[i]
    obtain⟨y1,y2,y3,hvy,hy1,hy2,hy3⟩:=zaO y[i]
    simp[zse,hlt,hlt',hvx,hx1,hx2,hx3,hvy,hy1,hy2,hy3]
    rw[←hvx,←hvy]
    refine hf i hlt hlt' hlen _ _ ?_
    cases hb:f x[i] y[i] with
    | false=>
     rw[hb,Bool.false_and]at ho
     rw[←ho]at hO
     simp
     exact hO _
    | true=>
     rw[hb,Bool.true_and]at ho
     simp
     rw[zau (by omega) (by omega)]
     refine hKb _ _ ⟨x.length-(i+1),by omega,Back.same (by simp) hs ?_ ⟨_,rfl,i+1,by omega,rfl,by simp,ho,rfl⟩⟩
     simp[zlF,AV.sc,AV.scV,AV.scA,AV.scB]
     exact hsc
   ·have hlt':¬ i<y.length:=by omega
    obtain rfl:i=x.length:=by omega
    rw[List.drop_length,hlen,List.drop_length,zca]at ho
    rw[←ho]at hO
    simp[zse,hlt']
    simpa using hO []
 ·have hl':((x.length:Int) != y.length)=true:=by simp;omega
  rw[ziZ hlen]at hO
  simp[zsd,hl']
  simpa using hO []
theorem zOU:∀ (m:Nat) (v:VT),v.nodes≤m→∀ (left:Int),left≤1000000→-1≤left→∀ (H:zaa) (id:Nat),H[id]?=some (.cells [.int .i64 left])→∀ (K:AV→zaa→Prop),
  ((v.nodes:Int)≤left→K (.bool true) (H.set id (.cells [.int .i64 (left-v.nodes)])))→(¬ (v.nodes:Int)≤left→∀ l',K (.bool false) (H.set id (.cells [.int .i64 l']))) →
  ACalls tP zjA [.agg v.cs,.ptr id 0] H K:=by
 intro m
 induction m with
 | zero=>intro v h;have:=v.nodes_pos;omega
 | succ m ih=>
  intro v hv left hl1 hl0 H id hid K hK hF
  obtain⟨k,n,ks⟩:=v
  have hlt:=zcX hid
  have hnn:(VT.mk k n ks).nodes=VT.nodesL ks+1:=by simp[VT.nodes]
  refine ACalls.out (zOS fun hs=>?_)
  have hget:(H++[AB.cells [.int .i64 k,.int .i64 n,.sl (VT.css ks) .none]])[id]?=some (.cells [.int .i64 left]):=zbO hid
  have bad:(¬ ((VT.mk k n ks).nodes:Int)≤left)→∀ l' H',H'=H.set id (.cells [.int .i64 l'])++[.cells [.int .i64 k,.int .i64 n,.sl (VT.css ks) .none]]→Out H.length K (.bool false) H':=by
   intro h l' H' he
   exact Out.bool he (by simp) (hs.set rfl) (hF h l')
  simp[zBj,VT.cs,hget,AV.known]
  rw[zau (by omega) (by omega),zct _ hid,zbO (zb5 _ hid)]
  by_cases h0:left-1<0
  ·simp[h0]
   exact bad (by omega) _ _ rfl
  ·simp[h0]
   refine zOQ (Inv:=fun q t5 H'=>∃ i:Nat,i≤ks.length∧q=ks.length-i∧t5=.int .i64 i∧((VT.nodesL (ks.take i):Int)+1≤left)∧H'=H.set id (.cells [.int .i64 (left-1-VT.nodesL (ks.take i))])++[.cells [.int .i64 k,.int .i64 n,.sl (VT.css ks) .none]]) ks.length ?_ ?_
   ·intro _;exact⟨0,by omega,by omega,rfl,by simp[VT.nodesL];omega,by simp[VT.nodesL]⟩
   ·rintro q t5 H' ⟨i,hi,rfl,rfl,hb,rfl⟩ hsc hlen hsF Kb hKb
    by_cases hil:i<ks.length
    ·have hki:=VT.kid_lt (k:=k) (n:=n) hil
     have h1:=VT.nodesL_take hil
     have h2:=VT.nodesL_take_le ks (i+1)
     have hll:=VT.len_le (ks.take i)
     simp only[List.length_take]at hll
     have hge:(H.set id (.cells [.int .i64 (left-1-VT.nodesL (ks.take i))])++[AB.cells [.int .i64 k,.int .i64 n,.sl (VT.css ks) .none]])[id]?=some (.cells [.int .i64 (left-1-VT.nodesL (ks.take i))]):=zbO (zb5 _ hid)
     simp[zsY,hil]
     refine ih ks[i] (by omega) (left-1-VT.nodesL (ks.take i)) (by omega) (by omega) _ id hge _ ?_ ?_
     ·intro hle
      rw[zct _ (zb5 _ hid),List.set_set]
      simp
      rw[zau (by omega) (by omega)]
      refine hKb _ _ ⟨ks.length-(i+1),by omega,Back.here (by simp) ((hs.set rfl).snoc rfl) ?_ ⟨_,rfl,i+1,by omega,rfl,by simp,by omega,?_⟩⟩
      ·simp[zmj,AV.sc,AV.scV,AV.scA,AV.scB];omega
      ·rw[h1];congr 5;omega
     ·intro hle l'
      rw[zct _ (zb5 _ hid),List.set_set]
      simp
      exact bad (by omega) _ _ rfl
    ·obtain rfl:i=ks.length:=by omega
     rw[List.take_length]at hb ⊢
     simp[zsY]
     refine Out.bool rfl (by simp) (hs.set rfl) ?_
     have:=hK (by omega)
     rw[hnn]at this
     rw[show left-1-(VT.nodesL ks:Int)=left-((VT.nodesL ks+1:Nat):Int) by omega]
     exact this
theorem zPc:∀ (m:Nat) (v:VT),v.nodes≤m→∀ (left:Int),left≤1000000→-1≤left→∀ (H:zaa) (id:Nat),H[id]?=some (.cells [.int .i64 left])→∀ (K:AV→zaa→Prop),
  ((v.nodes:Int)≤left→K (.bool true) (H.set id (.cells [.int .i64 (left-v.nodes)])))→(¬ (v.nodes:Int)≤left→∀ l',K (.bool false) (H.set id (.cells [.int .i64 l']))) →
  ACalls tP zjC [.agg v.cs,.ptr id 0] H K:=by
 intro m
 induction m with
 | zero=>intro v h;have:=v.nodes_pos;omega
 | succ m ih=>
  intro v hv left hl1 hl0 H id hid K hK hF
  obtain⟨k,n,ks⟩:=v
  have hlt:=zcX hid
  have hnn:(VT.mk k n ks).nodes=VT.nodesL ks+1:=by simp[VT.nodes]
  refine ACalls.out (zPa fun hs=>?_)
  have hget:(H++[AB.cells [.int .i64 k,.int .i64 n,.sl (VT.css ks) .none]])[id]?=some (.cells [.int .i64 left]):=zbO hid
  have bad:(¬ ((VT.mk k n ks).nodes:Int)≤left)→∀ l' H',H'=H.set id (.cells [.int .i64 l'])++[.cells [.int .i64 k,.int .i64 n,.sl (VT.css ks) .none]]→Out H.length K (.bool false) H':=by
   intro h l' H' he
   exact Out.bool he (by simp) (hs.set rfl) (hF h l')
  simp[zBu,VT.cs,hget,AV.known]
  rw[zau (by omega) (by omega),zct _ hid,zbO (zb5 _ hid)]
  by_cases h0:left-1<0
  ·simp[h0]
   exact bad (by omega) _ _ rfl
  ·simp[h0]
   refine zO8 (Inv:=fun q t5 H'=>∃ i:Nat,i≤ks.length∧q=ks.length-i∧t5=.int .i64 i∧((VT.nodesL (ks.take i):Int)+1≤left)∧H'=H.set id (.cells [.int .i64 (left-1-VT.nodesL (ks.take i))])++[.cells [.int .i64 k,.int .i64 n,.sl (VT.css ks) .none]]) ks.length ?_ ?_
   ·intro _;exact⟨0,by omega,by omega,rfl,by simp[VT.nodesL];omega,by simp[VT.nodesL]⟩
   ·rintro q t5 H' ⟨i,hi,rfl,rfl,hb,rfl⟩ hsc hlen hsF Kb hKb
    by_cases hil:i<ks.length
    ·have hki:=VT.kid_lt (k:=k) (n:=n) hil
     have h1:=VT.nodesL_take hil
     have h2:=VT.nodesL_take_le ks (i+1)
     have hll:=VT.len_le (ks.take i)
     simp only[List.length_take]at hll
     have hge:(H.set id (.cells [.int .i64 (left-1-VT.nodesL (ks.take i))])++[AB.cells [.int .i64 k,.int .i64 n,.sl (VT.css ks) .none]])[id]?=some (.cells [.int .i64 (left-1-VT.nodesL (ks.take i))]):=zbO (zb5 _ hid)
     simp[zs7,hil]
     refine ih ks[i] (by omega) (left-1-VT.nodesL (ks.take i)) (by omega) (by omega) _ id hge _ ?_ ?_
     ·intro hle
      rw[zct _ (zb5 _ hid),List.set_set]
      simp
      rw[zau (by omega) (by omega)]
      refine hKb _ _ ⟨ks.length-(i+1),by omega,Back.here (by simp) ((hs.set rfl).snoc rfl) ?_ ⟨_,rfl,i+1,by omega,rfl,by simp,by omega,?_⟩⟩
      ·simp[zmq,AV.sc,AV.scV,AV.scA,AV.scB];omega
      ·rw[h1];congr 5;omega
     ·intro hle l'
      rw[zct _ (zb5 _ hid),List.set_set]
      simp
      exact bad (by omega) _ _ rfl
    ·obtain rfl:i=ks.length:=by omega
     rw[List.take_length]at hb ⊢
     simp[zs7]
     refine Out.bool rfl (by simp) (hs.set rfl) ?_
     have:=hK (by omega)
     rw[hnn]at this
     rw[show left-1-(VT.nodesL ks:Int)=left-((VT.nodesL ks+1:Nat):Int) by omega]
     exact this
theorem zIE (v:VT) (H:zaa) (K:AV→zaa→Prop) (hK:∀ b,(b=true→v.nodes≤400)→K (.bool b) H):ACalls tP zo6 [.agg v.cs] H K:=by
 refine ACalls.out (zID fun hs=>?_)
 simp[zyZ,AV.known]
 refine zOU _ v (Nat.le_refl _) 400 (by omega) (by omega) _ (H.length+1) (by simp) _ ?_ ?_
 ·intro h
  exact Out.bool (J:=[_,_]) (by simp;exact⟨rfl,rfl⟩) (Nat.le_refl _) hs (hK true fun _=>by omega)
 ·intro h l'
  exact Out.bool (J:=[_,_]) (by simp;exact⟨rfl,rfl⟩) (Nat.le_refl _) hs (hK false fun h=>by cases h)
theorem zi4 (data:List Dat):∀ vs ts:List VT,zbI data vs ts=zca (zav data) vs ts
 | [],[]=>by simp[zbI,zca]
 | [],_::_=>by simp[zbI,zca]
 | _::_,[]=>by simp[zbI,zca]
 | v::vs,t::ts=>by simp[zbI,zca,zi4 data vs ts]
theorem zDD:zdY tP zpp=true:=by kernel_rfl
theorem zDC:zdY tP zpa=true:=by kernel_rfl
theorem zyh {data:List Dat} {k n:Int} {ks:List VT} (h:za1 data 0 (.mk k n ks)=true):(k=1∧ks=[])∨(k=2∧ks=[])∨(k=3∧ks=[])∨k=5∨(k=6∧2≤ks.length)∨(k=7∧ks.length=1)∨(k=8∧ks.length=1)∨(k=9∧1≤ks.length):=by
 rw[za1,Bool.and_eq_true]at h
 have h:=h.1
 unfold zbb at h
 by_cases h1:k=1
 ·subst h1;simp at h;simp[h.2]
 by_cases h2:k=2
 ·subst h2;simp at h;simp[h.2]
 by_cases h3:k=3
 ·subst h3;simp at h;simp[h.2]
 by_cases h4:k=4
 ·subst h4;simp at h;omega
 by_cases h5:k=5
 ·subst h5;simp
 by_cases h6:k=6
 ·subst h6;simp at h;simp;omega
 by_cases h7:k=7
 ·subst h7;simp at h;simp;omega
 by_cases h8:k=8
 ·subst h8;simp at h;simp;omega
 by_cases h9:k=9
 ·subst h9;simp at h;simp;omega
 simp[h1,h2,h3,h4,h5,h6,h7,h8,h9]at h
structure DOk (data:List Dat):Prop where
 ok:zbe data=true
 k:za2 data
theorem zdG {data:List Dat} (h:za2 data):data.length≤1000000∧(∀ d∈data,∀ c∈d.cons,c.args.length≤1000∧∀ x∈c.args,x.nodes≤1000)∧∀ d∈data,d.cons.length≤1000000:=by
 obtain⟨h1,h2⟩:=h
 refine⟨by omega,fun D hD c hc=>?_,fun D hD=>?_⟩
 ·obtain⟨_,h3,h4⟩:=h2 D hD
  obtain⟨_,h5,h6⟩:=h4 c hc
  exact⟨by omega,fun x hx=>by have:=h6 x hx;omega⟩
 ·obtain⟨_,h3,h4⟩:=h2 D hD
  omega
section
variable {data:List Dat} (hD:DOk data)
def zn3 (data:List Dat) (v:VT):Prop:=∀ (t:VT),zaR data 0 t=true→∀ (H:zaa) (K:AV→zaa→Prop),K (.bool (zav data v t)) H→ACalls tP zjK [.sl (data.map Dat.cs) .none,.agg v.cs,.agg t.cs] H K
theorem zri (vs ts:List VT) (hl:vs.length≤1000000) (hv:∀ v∈vs,zn3 data v) (ht:∀ t∈ts,zaR data 0 t=true) (H:zaa) (K:AV→zaa→Prop) (hK:K (.bool (zbI data vs ts)) H) :
  ACalls tP zhy [.sl (data.map Dat.cs) .none,.sl (VT.css vs) .none,.sl (VT.css ts) .none] H K:=by
 refine ACalls.out (zIK fun hs=>?_)
 simp[zy6]
 refine⟨rfl,zD8 (zav data) _ vs ts _ (by simp[AV.sc,AV.scV,AV.scA,AV.scB]) ?_ (by omega) _ ?_⟩
 ·intro i h1 h2 hle J K' hK'
  simp[aCallV,zDD]
  refine ACalls.out (zLM fun hs1=>?_)
  obtain⟨x,y,z,hvx,hx,hy,hz⟩:=zaO vs[i]
  obtain⟨x2,y2,z2,hvx2,hx2,hy2,hz2⟩:=zaO ts[i]
  simp[zAj,hvx,hvx2]
  rw[←hvx,←hvx2]
  refine hv _ (List.getElem_mem h1) _ (ht _ (List.getElem_mem h2)) _ _ ?_
  refine Out.bool (H2:=H++[.cells [.sl (data.map Dat.cs) .none]]++J) (J:=[.cells (vs[i]).cs,.cells (ts[i]).cs]) (by simp) (by simp) (by simpa using hs1) (by simpa using hK')
 ·rw[←zi4]
  exact Out.bool rfl (Nat.le_refl _) hs hK
theorem i0 (n:Nat):((n:Int) == 0)=(n == 0):=by
 rw[Bool.eq_iff_iff];simp
theorem zvX {ks:List VT} (h:0<ks.length):ks.getD 0 (.mk 0 0 [])=ks[0]:=by simp[List.getD_eq_getElem?_getD,h]
theorem zv0 {data:List Dat} {t:VT} {vs:List VT} {i:Nat} (h:i<vs.length):zcK data (vs.drop i) t=(zav data vs[i] t && zcK data (vs.drop (i+1)) t):=by rw[List.drop_eq_getElem_cons h,zcK]
include hD in
theorem zXI:∀ (m:Nat) (v:VT),v.nodes≤m→v.nodes≤1000000→zn3 data v:=by
 intro m
 induction m with
 | zero=>intro v h;have:=v.nodes_pos;omega
 | succ m ih=>
  intro v hm hb t ht H K hK
  obtain⟨vk,vn,vks⟩:=v
  obtain⟨k,n,ks⟩:=t
  refine ACalls.out (zR1 fun hs=>?_)
  have hO:∀ b J,zav data (.mk vk vn vks) (.mk k n ks)=b→Out H.length K (.bool b) (H++J):=fun b J h=>Out.bool rfl (Nat.le_refl _) hs (h ▸ hK)
  have hll:=VT.len_le vks
  have hnn:(VT.mk vk vn vks).nodes=VT.nodesL vks+1:=by simp[VT.nodes]
  have hkids:∀ x∈vks,zn3 data x:=fun x hx=>ih x (by have:=zfm (k:=vk) (n:=vn) x hx;omega) (by have:=zgg (k:=vk) (n:=vn) x hx;omega)
  have htk:=zko ht
  have hto:za1 data 0 (.mk k n ks)=true:=by rw[zaR,Bool.and_eq_true]at ht;exact ht.2
  have htn:(VT.mk k n ks).nodes≤200:=by rw[zaR,Bool.and_eq_true]at ht;exact of_decide_eq_true ht.1
  obtain⟨f1,f2,f3⟩:=zdG hD.k
  rcases zyh hto with ⟨rfl,rfl⟩ | ⟨rfl,rfl⟩ | ⟨rfl,rfl⟩ | rfl | ⟨rfl,hk⟩ | ⟨rfl,hk⟩ | ⟨rfl,hk⟩ | ⟨rfl,hk⟩
  ·simp[zex,VT.cs,Nat.add_assoc]
   cases h1:(vk == 3) <;> simp
   ·exact hO _ _ (by simp[zav,h1])
   by_cases h2:-1099511627776≤vn <;> simp[h2]
   ·by_cases h3:vn≤1099511627776 <;> simp[h3]
    ·exact hO _ _ (by simp[zav,h1,h2,h3,i0])
    ·exact hO _ _ (by simp[zav,h1,h2,h3])
   ·exact hO _ _ (by simp[zav,h1,h2])
  ·simp[zex,VT.cs,Nat.add_assoc]
   cases h1:(vk == 2) <;> simp
   ·exact hO _ _ (by simp[zav,h1])
   cases h2:(vn == 0) <;> simp[Nat.add_assoc]
   ·cases h3:(vn == 1) <;> simp
    ·exact hO _ _ (by simp[zav,h1,h2,h3])
    ·exact hO _ _ (by simp[zav,h1,h2,h3,i0])
   ·exact hO _ _ (by simp[zav,h1,h2,i0])
  ·simp[zex,VT.cs,Nat.add_assoc]
   cases h1:(vk == 1) <;> simp
   ·exact hO _ _ (by simp[zav,h1])
   cases h2:(vn == 0) <;> simp[Nat.add_assoc]
   ·exact hO _ _ (by simp[zav,h1,h2])
   ·exact hO _ _ (by simp[zav,h1,h2,i0])
  ·-- a data type
   simp[zex,VT.cs,Nat.add_assoc]
   cases h1:(vk == 5) with
   | false=>
    have:(vk != 5)=true:=by simp[bne,h1]
    simp[this]
    exact hO _ _ (by simp[zav,h1])
   | true=>
   have h1':(vk != 5)=false:=by simp[bne,h1]
   by_cases h2:vn<0
   ·simp[h1',h2]
    exact hO _ _ (by simp[zav,h1];omega)
   by_cases h3:8≤vn
   ·simp[h1',h2,h3]
    exact hO _ _ (by simp[zav,h1];omega)
   simp[h1',h2,h3,Nat.add_assoc]
   have e:∀ o,zaU data (.mk 5 n ks) vn=o→zav data (.mk vk vn vks) (.mk 5 n ks)=zeH data vks o:=fun o ho=>by
    have q1:0≤vn:=by omega
    have q2:vn<8:=by omega
    simp[zav,h1,q1,q2,ho]
   have hcs:(VT.mk 5 n ks).cs=[.int .i64 5,.int .i64 n,.sl (VT.css ks) .none]:=rfl
   rw[←hcs]
   refine zmz data f1 f2 f3 (.mk 5 n ks) (by omega) vn _ _ ?_
   cases hf:zaU data (.mk 5 n ks) vn with
   | none=>
    simp[zb1]
    exact hO _ _ (by rw[e _ hf,zi3])
   | some l=>
    simp[zb1,hcs]
    refine zri vks l (by omega) hkids (zga hD.ok hto hf) _ _ ?_
    exact hO _ _ (by rw[e _ hf,zhn])
  ·simp[zex,VT.cs,Nat.add_assoc]
   cases h1:(vk == 4) <;> simp
   ·exact hO _ _ (by simp[zav,h1])
   cases h2:(vn == 0) <;> simp[Nat.add_assoc]
   ·exact hO _ _ (by simp[zav,h1,h2])
   refine zri vks ks (by omega) hkids htk _ _ ?_
   exact hO _ _ (by simp[zav,h1,h2])
  ·-- an array
   simp[zex,VT.cs,Nat.add_assoc]
   cases h1:(vk == 6) <;> simp
   ·exact hO _ _ (by simp[zav,h1])
   cases h2:(vn == 0) <;> simp[Nat.add_assoc]
   ·exact hO _ _ (by simp[zav,h1,h2])
   by_cases h3:vks.length≤4096
   case neg=>
    have h3':¬ (vks.length:Int)≤4096:=by omega
    simp[h3,h3']
    exact hO _ _ (by simp[zav,h1,h2,h3])
   have h3':(vks.length:Int)≤4096:=by omega
   simp[h3,h3']
   refine⟨⟨rfl,rfl⟩,?_⟩
   have hk0:0<ks.length:=by omega
   have e:zav data (.mk vk vn vks) (.mk 7 n ks)=zcK data vks ks[0]:=by
    have:=zvX hk0
    simp[zav,h1,h2,h3,this,hk0]
   refine zDU vks (by omega) _ _ _ (by simp[AV.sc,AV.scV,AV.scA,AV.scB]) (fun i H'=>H'=H++[.cells [.sl (data.map Dat.cs) .none],.cells [.int .i64 vk,.int .i64 vn,.sl (VT.css vks) .none],.cells [.int .i64 7,.int .i64 n,.sl (VT.css ks) .none]]∧zcK data (vks.drop i) ks[0]=zcK data vks ks[0]) ⟨rfl,by simp⟩ ?_ ?_
   ·rintro i hi H' hle ⟨rfl,ho⟩
    rw[zv0 hi]at ho
    simp[aCallV,zDC]
    refine ACalls.out (zIN fun hs1=>?_)
    obtain⟨x,y,z,hvx,hx,hy,hz⟩:=zaO vks[i]
    obtain⟨x2,y2,z2,hvx2,hx2,hy2,hz2⟩:=zaO ks[0]
    simp[zy7,hvx,hk0,hvx2,Nat.add_assoc]
    rw[←hvx,←hvx2]
    refine zaH (.bool (zav data vks[i] ks[0])) (fun J=>hkids _ (List.getElem_mem hi) ks[0] (htk _ (List.getElem_mem hk0)) _ _ ⟨rfl,rfl⟩) ?_
    simp
    cases hb:zav data vks[i] ks[0] with
    | true=>
     rw[hb,Bool.true_and]at ho
     exact Out.bool (H2:=H++[.cells [.sl (data.map Dat.cs) .none],.cells [.int .i64 vk,.int .i64 vn,.sl (VT.css vks) .none],.cells [.int .i64 7,.int .i64 n,.sl (VT.css ks) .none]]) (J:=[_]) (by simp;rfl) (by simp) hs1 (.inl ⟨rfl,rfl,ho⟩)
    | false=>
     rw[hb,Bool.false_and]at ho
     refine Out.bool (H2:=H++[.cells [.sl (data.map Dat.cs) .none],.cells [.int .i64 vk,.int .i64 vn,.sl (VT.css vks) .none],.cells [.int .i64 7,.int .i64 n,.sl (VT.css ks) .none]]) (J:=[_]) (by simp;rfl) (by simp) hs1 (.inr ⟨rfl,?_⟩)
     exact hO _ _ (by rw[e,←ho])
   ·rintro H' ⟨rfl,ho⟩
    rw[List.drop_length,zcK]at ho
    simp
    exact hO _ _ (by rw[e,←ho])
  ·simp[zex,VT.cs,Nat.add_assoc]
   cases h1:(vk == 7) <;> simp
   ·exact hO _ _ (by simp[zav,h1])
   cases h2:(vn == 0) <;> simp[Nat.add_assoc]
   ·exact hO _ _ (by simp[zav,h1,h2])
   refine zri vks ks (by omega) hkids htk _ _ ?_
   exact hO _ _ (by simp[zav,h1,h2])
  ·simp[zex,VT.cs,Nat.add_assoc]
   cases h1:(vk == 8) <;> simp
   ·exact hO _ _ (by simp[zav,h1])
   by_cases h2:0≤vn <;> simp[h2]
   ·by_cases h3:vn<64 <;> simp[h3]
    ·exact hO _ _ (by simp[zav,h1,h2,h3,i0])
    ·exact hO _ _ (by simp[zav,h1,h2,h3])
   ·exact hO _ _ (by simp[zav,h1,h2])
end
theorem zwR:∀ (a:List VT) (b:List Bool) (x:VT) (y:Bool),a.length=b.length→pick (a++[x]) (b++[y])=pick a b++(if y then [] else [x])
 | [],[],x,y,_=>by cases y <;> rfl
 | [],_::_,_,_,h=>by cases h
 | _::_,[],_,_,h=>by cases h
 | c::a,d::b,x,y,h=>by
  have:=zwR a b x y (by simpa using h)
  cases d <;> simp[pick,this]
theorem zwS {l:List VT} {bs:List Bool} {i:Nat} (h:l.length=bs.length) (hi:i<l.length):pick (l.take (i+1)) (bs.take (i+1))=pick (l.take i) (bs.take i)++(if bs[i]'(by omega) then [] else [l[i]]):=by
 rw[List.take_succ_eq_append_getElem hi,List.take_succ_eq_append_getElem (by omega:i<bs.length)]
 exact zwR _ _ _ _ (by simp;omega)
theorem zp1:∀ (a:List VT) (b:List Bool),(pick a b).length≤a.length
 | [],b=>by simp[pick]
 | _::_,[]=>by simp[pick]
 | c::a,d::b=>by
  have:=zp1 a b
  cases d <;> simp[pick] <;> omega
theorem zg6 {l:List Bool} {i:Nat} (h:i<(zby l).length):(zby l)[i]=[.bool (l[i]'(by simpa[zby]using h))]:=by simp[zby]
theorem zeD (l:List Bool):(zby l).length=l.length:=by simp[zby]
theorem zp0 {data:List Dat} {k n:Int} {ks:List VT} {c:Int} {l:List VT} (hk:za2 data) (hf:zaU data (.mk k n ks) c=some l) :
  ∃ bs,l.length=bs.length∧l.length≤8∧za8 data (.mk k n ks) c=some (pick l bs)∧(∀ x∈l,x.nodes≤200)∧k=5 ∧
   (∀ H K,K (.sl (zby bs) .none) H→ACalls tP zek [.sl (data.map Dat.cs) .none,.int .i64 n,.int .i64 c] H K) ∧
   (∀ H K,K (.sl (zby bs) .none) H→ACalls tP zeQ [.sl (data.map Dat.cs) .none,.int .i64 n,.int .i64 c] H K):=by
 obtain⟨k5,n0,c0,hn,hc,hv,rfl,h200⟩:=zf9 hf
 obtain⟨f1,f2,f3⟩:=zdG hk
 have hd:=List.getElem_mem hn
 have hcm:=List.getElem_mem hc
 obtain⟨g1,g2⟩:=f2 _ hd _ hcm
 have g3:=f3 _ hd
 have h8:=((hk.2 _ hd).2.2 _ hcm).2.1
 refine⟨zbV n.toNat data[n.toNat] (data[n.toNat]).cons[c.toNat],by simp[zbV],by simpa using h8,?_,h200,k5,fun H K hK=>?_,fun H K hK=>?_⟩
 ·simp[za8,hf,zbm,hn,hc,List.getD_eq_getElem?_getD,VT.num]
 ·have:=zt8 data n.toNat c.toNat hn hc f1 g3 (by omega) (fun x hx=>by have:=g2 x hx;omega) H K (by simpa[zby,zbV,Function.comp_def]using hK)
  rwa [Int.toNat_of_nonneg n0,Int.toNat_of_nonneg c0]at this
 ·have:=zrl data n.toNat c.toNat hn hc f1 g3 (by omega) (fun x hx=>by have:=g2 x hx;omega) H K hK
  rwa [Int.toNat_of_nonneg n0,Int.toNat_of_nonneg c0]at this
theorem zwQ {data:List Dat} {t:VT} {c:Int} (hf:zaU data t c=none):za8 data t c=none:=by simp[za8,hf]
theorem zMu (data:List Dat) (hk:za2 data) (t:VT) (ht:t.nodes≤1000) (c:Int) (H:zaa) (K:Kt) (hK:K (zb1 (za8 data t c)) H) :
  ACalls tP zpr [.sl (data.map Dat.cs) .none,.agg t.cs,.int .i64 c] H K:=by
 refine ACalls.out (zMs fun hs=>?_)
 obtain⟨f1,f2,f3⟩:=zdG hk
 obtain⟨k,n,ks⟩:=t
 simp[zAt,VT.cs,Nat.add_assoc]
 refine zmz data f1 f2 f3 (.mk k n ks) ht c _ _ ?_
 cases hf:zaU data (.mk k n ks) c with
 | none=>
  rw[zwQ hf]at hK
  simp[zb1]
  refine⟨⟨rfl,rfl⟩,?_⟩
  exact Out.tup (bs:=[.sl [] .none,.bool false]) hs hK ⟨zer,za4 rfl rfl,trivial⟩
 | some l=>
  obtain⟨bs,hlb,hl8,hpay,h200,k5,hsc,_⟩:=zp0 hk hf
  rw[hpay]at hK
  simp[zb1]
  refine hsc _ _ ?_
  simp[zeD]
  unfold zlT
  refine ALoop.own 10 za9 3 rfl ?_
  have hl1:(H++[AB.cells [AV.int IntKind.i64 k,AV.int IntKind.i64 n,AV.sl (VT.css ks) Tok.none]]).length=H.length+1:=by simp
  rw[hl1]
  show zlT (.sl (VT.css l) .none) (.sl [] (.own (H.length+1))) (.sl (zby bs) .none) (.int .i64 bs.length) (.int .i64 0) (H++[.cells [.int .i64 k,.int .i64 n,.sl (VT.css ks) .none]]++[.perm za9 3 0]) (Out H.length K)
  have hperm:∀ m,HSc (H++[.cells [.int .i64 k,.int .i64 n,.sl (VT.css ks) .none],.perm za9 3 m]):=fun m=>hs.append (by simp[AB.sc,AV.scA,AV.scB])
  refine zMq (Inv:=fun q t10 t28 H'=>∃ i:Nat,i≤bs.length∧q=bs.length-i∧t28=.int .i64 i∧t10=.sl (VT.css (pick (l.take i) (bs.take i))) (.own (H.length+1))∧H'=H++[.cells [.int .i64 k,.int .i64 n,.sl (VT.css ks) .none],.perm za9 3 (pick (l.take i) (bs.take i)).length]) bs.length ?_ ?_
  ·intro _;exact⟨0,by omega,by omega,rfl,by simp[pick,VT.css],by simp[pick]⟩
  ·rintro q t10 t28 H' ⟨i,hi,rfl,rfl,rfl,rfl⟩ hsc' hlen hsF Kb hKb
   by_cases hlt:i<bs.length
   ·have hps:=zwS hlb (by omega:i<l.length)
    have hpl:=zp1 (l.take i) (bs.take i)
    rw[List.length_take]at hpl
    have hnext:∀ J,zlS (.sl (VT.css l) .none) (.sl (VT.css (pick (l.take (i+1)) (bs.take (i+1)))) (.own (H.length+1))) (.sl (zby bs) .none) (.int .i64 bs.length) (.int .i64 i)
      (H++.cells [.int .i64 k,.int .i64 n,.sl (VT.css ks) .none]::.perm za9 3 (pick (l.take (i+1)) (bs.take (i+1))).length::J) (Out H.length K) Kb:=by
     intro J
     simp[zlS,zAu]
     rw[zau (by omega) (by omega)]
     refine hKb _ _ ⟨bs.length-(i+1),by omega,Back.at (J:=J) (H2:=H++[.cells [.int .i64 k,.int .i64 n,.sl (VT.css ks) .none],.perm za9 3 (pick (l.take (i+1)) (bs.take (i+1))).length]) (by simp) (by simp) (hperm _) ?_ ⟨_,_,rfl,i+1,by omega,rfl,by simp,rfl,rfl⟩⟩
     simp[zlR,AV.sc,AV.scV,AV.scA,AV.scB]
    simp[zsp,zeD,hlt,zg6]
    cases hbi:bs[i] with
    | true=>
     rw[hbi]at hps
     simp at hps
     simp
     have:=hnext []
     rw[hps]at this
     exact this
    | false=>
     rw[hbi]at hps
     simp only[Bool.false_eq_true,if_false]at hps
     simp[show i<l.length by omega]
     rw[zeh]
     simp[zax,zaY,zaM]
     have:=hnext []
     rw[hps]at this
     rw[show VT.css (pick (l.take i) (bs.take i)++[l[i]])=VT.css (pick (l.take i) (bs.take i))++[l[i].cs] by simp[VT.css_map],show (pick (l.take i) (bs.take i)++[l[i]]).length=(pick (l.take i) (bs.take i)).length+1 by simp]at this
     exact⟨⟨by omega,by omega⟩,this⟩
   ·obtain rfl:i=bs.length:=by omega
    rw[List.take_of_length_le (by omega),List.take_length]at *
    simp[zsp]
    refine⟨⟨rfl,rfl⟩,?_⟩
    exact Out.tup (bs:=[.sl (VT.css (pick l bs)) .none,.bool true]) hs hK ⟨slV,za4 rfl rfl,trivial⟩
def pos (v:Bool) (bs:List Bool) (i:Nat):List Nat:=(List.range i).filter fun j=>bs.getD j false == v
def zaN (l:List Nat):List (List AV):=l.map fun (n:Nat)=>[AV.int .i64 (Int.ofNat n)]
theorem zhY (v:Bool) (bs:List Bool) (i:Nat) (h:i<bs.length):pos v bs (i+1)=pos v bs i++(if bs[i] == v then [i] else []):=by
 unfold pos
 rw[List.range_succ,List.filter_append]
 congr 1
 simp[List.filter_cons,List.getD_eq_getElem?_getD,h]
theorem zem (v:Bool) (bs:List Bool) (i:Nat):(pos v bs i).length≤i:=by
 have:=List.length_filter_le (fun j=>bs.getD j false == v) (List.range i)
 simpa[pos]using this
theorem zd1 {v:Bool} {bs:List Bool} {i j:Nat} (h:j∈pos v bs i):j<i:=by
 simp[pos]at h
 exact h.1
theorem zdz {l:List VT} {bs:List Bool} (h:l.length=bs.length) (d:VT):∀ i,i≤l.length→pick (l.take i) (bs.take i)=(pos false bs i).map fun j=>l.getD j d
 | 0,_=>by simp[pick,pos]
 | i+1,hi=>by
  rw[zwS h (by omega),zhY false bs i (by omega),List.map_append,zdz h d i (by omega)]
  congr 1
  cases hb:bs[i]'(by omega) <;> simp[List.getD_eq_getElem?_getD,show i<l.length by omega]
theorem zcE (l:List Nat):(zaN l).length=l.length:=by simp[zaN]
theorem zjV {l:List Nat} {i:Nat} (h:i<(zaN l).length):(zaN l)[i]=[.int .i64 ((l[i]'(by simpa[zaN]using h):Nat):Int)]:=by simp[zaN]
theorem zjU (l m:List Nat):zaN (l++m)=zaN l++zaN m:=by simp[zaN]
theorem zzm (data:List Dat) (hk:za2 data) (k n:Int) (ks:List VT) (ht:(VT.mk k n ks).nodes≤1000) (c:Int) {l:List VT} {bs:List Bool} (hf:zaU data (.mk k n ks) c=some l)
  (hlb:l.length=bs.length) (hl8:l.length≤8) (hrec:∀ H K,K (.sl (zby bs) .none) H→ACalls tP zeQ [.sl (data.map Dat.cs) .none,.int .i64 n,.int .i64 c] H K) (H:zaa) (K:Kt)
  (hK:K (.tup [.sl (zaN (pos false bs bs.length)) .none,.sl (zaN (pos true bs bs.length)) .none,.bool true]) H) :
  ACalls tP zjl [.sl (data.map Dat.cs) .none,.agg (VT.mk k n ks).cs,.int .i64 c] H K:=by
 refine ACalls.out (zJK fun hs=>?_)
 obtain⟨f1,f2,f3⟩:=zdG hk
 simp[zzk,VT.cs,Nat.add_assoc]
 refine zlX data f1 f2 f3 (.mk k n ks) ht c _ _ ?_
 rw[hf]
 simp[zb1]
 refine hrec _ _ ?_
 simp[zeD]
 unfold zli
 refine ALoop.own 11 zbt 1 rfl ?_
 refine ALoop.own 12 zbt 1 rfl ?_
 have hl1:(H++[AB.cells [AV.int IntKind.i64 k,AV.int IntKind.i64 n,AV.sl (VT.css ks) Tok.none]]).length=H.length+1:=by simp
 have hl2:(H++[AB.cells [AV.int IntKind.i64 k,AV.int IntKind.i64 n,AV.sl (VT.css ks) Tok.none]]++[AB.perm zbt 1 0]).length=H.length+2:=by simp
 rw[hl1,hl2]
 show zli (.sl [] (.own (H.length+1))) (.sl [] (.own (H.length+2))) (.sl (zby bs) .none) (.int .i64 bs.length) (.int .i64 0) (H++[.cells [.int .i64 k,.int .i64 n,.sl (VT.css ks) .none]]++[.perm zbt 1 0]++[.perm zbt 1 0]) (Out H.length K)
 have hperm:∀ m m2,HSc (H++[.cells [.int .i64 k,.int .i64 n,.sl (VT.css ks) .none],.perm zbt 1 m,.perm zbt 1 m2]):=fun m m2=>hs.append (by simp[AB.sc,AV.scA,AV.scB])
 refine zJI (Inv:=fun q t11 t12 t30 H'=>∃ i:Nat,i≤bs.length∧q=bs.length-i∧t30=.int .i64 i∧t11=.sl (zaN (pos false bs i)) (.own (H.length+1))∧t12=.sl (zaN (pos true bs i)) (.own (H.length+2)) ∧
  H'=H++[.cells [.int .i64 k,.int .i64 n,.sl (VT.css ks) .none],.perm zbt 1 (pos false bs i).length,.perm zbt 1 (pos true bs i).length]) bs.length ?_ ?_
 ·intro _;exact⟨0,by omega,by omega,rfl,by simp[pos,zaN],by simp[pos,zaN],by simp[pos]⟩
 ·rintro q t11 t12 t30 H' ⟨i,hi,rfl,rfl,rfl,rfl,rfl⟩ hsc' hlen hsF Kb hKb
  by_cases hlt:i<bs.length
  ·have hp1:=zhY false bs i hlt
   have hp2:=zhY true bs i hlt
   have hn1:=zem false bs i
   have hn2:=zem true bs i
   have hnext:zlh (.sl (zaN (pos false bs (i+1))) (.own (H.length+1))) (.sl (zaN (pos true bs (i+1))) (.own (H.length+2))) (.sl (zby bs) .none) (.int .i64 bs.length) (.int .i64 i)
     (H++[.cells [.int .i64 k,.int .i64 n,.sl (VT.css ks) .none],.perm zbt 1 (pos false bs (i+1)).length,.perm zbt 1 (pos true bs (i+1)).length]) (Out H.length K) Kb:=by
    simp[zlh,zzl]
    rw[zau (by omega) (by omega)]
    refine hKb _ _ ⟨bs.length-(i+1),by omega,Back.at (J:=[]) (H2:=H++[.cells [.int .i64 k,.int .i64 n,.sl (VT.css ks) .none],.perm zbt 1 (pos false bs (i+1)).length,.perm zbt 1 (pos true bs (i+1)).length]) (by simp) (by simp) (hperm _ _) ?_ ⟨_,_,_,rfl,i+1,by omega,rfl,by simp,rfl,rfl,rfl⟩⟩
    simp[zlg,AV.sc,AV.scV,AV.scA,AV.scB]
   cases hbi:bs[i] with
   | true=>
    rw[hbi]at hp1 hp2
    simp at hp1 hp2
    rw[hp1,hp2]at hnext
    simp[zlf,zeD,hlt,zg6,hbi,zaB,zbf,zaF,AV.pd,zax,zaY,zaM,zcE]
    refine⟨⟨by omega,by omega⟩,?_⟩
    simpa[zjU,zaN]using hnext
   | false=>
    rw[hbi]at hp1 hp2
    simp at hp1 hp2
    rw[hp1,hp2]at hnext
    simp[zlf,zeD,hlt,zg6,hbi,zaB,zbf,zaF,AV.pd,zax,zaY,zaM,zcE]
    refine⟨⟨by omega,by omega⟩,?_⟩
    simpa[zjU,zaN]using hnext
  ·obtain rfl:i=bs.length:=by omega
   simp[zlf]
   refine⟨⟨rfl,rfl,rfl⟩,?_⟩
   exact Out.tup (bs:=[.sl (zaN (pos false bs bs.length)) .none,.sl (zaN (pos true bs bs.length)) .none,.bool true]) hs hK ⟨slV,slV,za4 rfl rfl,trivial⟩
end Go.Proofs.YtjkkonpjecoieaaGreat
namespace Go.Abs
open Go Go.RowKit
variable {P:Program} {B:Nat} {w:World} {G:Gh} {H:zaa}
theorem HRel.frz (h:HRel B w G H) {id:Nat} {cs:List AV} (hH:H[id]?=some (.cells cs)) :
  ∃ G',Ext B w G w G'∧HRel B w G' (H.set id .dead)∧∃ b,G.μ[id]?=some (.blk b)∧G'.L b=cs.length∧∃ (vs:Array Value) (e:TypeId),w.heap[b]?=some (.cells vs e (0,0))∧All2 (ARel w G) vs.toList cs:=by
 have hlt:id<G.μ.length:=by rw[h.len];exact (List.getElem?_eq_some_iff.1 hH).1
 obtain⟨gi,hgi⟩:∃ gi,G.μ[id]?=some gi:=⟨_,List.getElem?_eq_getElem hlt⟩
 have hok:=h.ok id _ _ hH hgi
 cases gi with
 | gap=>exact hok.elim
 | own v s n=>exact hok.elim
 | blk b=>
  obtain⟨hB,hL,vs,e,hw,hcs⟩:=hok
  have hl:vs.size=cs.length:=by simpa using hcs.length
  have he:Ext B w G w ⟨fun x=>if x=b then cs.length else G.L x,G.μ⟩:=
   ⟨Nat.le_refl _,Below.refl _ _,fun x=>by by_cases hx:x=b <;> simp[hx,hL],fun _ _ _=>rfl,fun _ gi h=>⟨gi,h,gi.le_refl⟩⟩
  refine⟨_,he,⟨by simp[h.len],?_,h.dist,fun x hx=>?_,h.lt,h.base⟩,b,hgi,by simp,vs,e,hw,hcs⟩
  ·intro id' ab gi h1 h2
   by_cases hid:id'=id
   ·subst hid
    rw[List.getElem?_set_self (List.getElem?_eq_some_iff.1 hH).1]at h1
    cases h1
    have h2:G.μ[id']?=some gi:=h2
    rw[hgi]at h2
    cases h2
    exact⟨vs,e,(0,0),hw,by simp[hl]⟩
   ·rw[List.getElem?_set_ne (fun h=>hid h.symm)]at h1
    refine (h.ok id' ab gi h1 h2).keep he (fun x hx=>⟨rfl,?_⟩)
    have:¬ x=b:=fun hxb=>hid (h.dist id' id gi _ b h2 hgi (by rw[hx,hxb]) rfl)
    simp[this]
  ·have:=h.lt id _ b hgi rfl
   have h3:¬ x=b:=by omega
   simp[h3,h.fresh x hx]
inductive FzA (id off len cap:Nat) (es:List (List AV)):AV→AV→Prop
 | refl (a:AV):FzA id off len cap es a a
 | ms:FzA id off len cap es (.ms id off len cap) (.sl es .none)
inductive FzT (id off len cap:Nat) (es:List (List AV)):AV→AV→Prop
 | one {a b:AV} (h:FzA id off len cap es a b):FzT id off len cap es a b
 | agg {asx bs:List AV} (h:All2 (FzA id off len cap es) asx bs):FzT id off len cap es (.agg asx) (.agg bs)
theorem FzA.rel {id off len cap size:Nat} {cs:List AV} {es:List (List AV)} (hfit:off+len*size≤cs.length)
  (hp:zaF ((cs.drop off).take (len*size))=some es.flatten) (hlen:es.length=len) (hsz:∀ c∈es,c.length=size) (hcap:len≤cap) {G':Gh} (hE:Ext B w G w G') {b:Nat} (hμ:G.μ[id]?=some (.blk b)) (hLb:G'.L b=cs.length)
  {vs0:Array Value} {e:TypeId} (hw:w.heap[b]?=some (.cells vs0 e (0,0))) (hcs:All2 (ARel w G) vs0.toList cs) {v:Value} {a b':AV} (hab:FzA id off len cap es a b') (hr:ARel w G v a):ARel w G' v b':=by
 cases hab with
 | refl a=>exact hE.arel hr
 | ms=>
  obtain⟨b2,hb2,rfl⟩:=hr
  rw[hμ]at hb2
  cases hb2
  show DRel w G'.L _ _
  subst hlen
  by_cases hne:es=[]
  ·subst hne;exact .slE _ _
  ·have hl:=hcs.length
   have hd:=zdK ((hcs.drop off).take (es.length*size)) hp
   refine DRel.of_flat_at (zs:=(vs0.toList.drop off).take (es.length*size)) hsz hne hcap (by rw[hLb];exact hfit) (hd.mono fun _ _=>hE.drel) ?_
   intro j u hj
   rw[List.getElem?_take]at hj
   split at hj
   ·simp only[World.cell?,hw]
    simpa using hj
   ·cases hj
theorem zog {R R':Value→AV→Prop} {S:AV→AV→Prop} (h:∀ v a b,S a b→R v a→R' v b) {vs:List Value} {asx bs:List AV} (hr:All2 R vs asx) (hs:All2 S asx bs):All2 R' vs bs:=
 All2.of_get (hr.length.trans hs.length) fun i x y hx hy=>by
  obtain⟨a,ha,hxa⟩:=All2.get' hr hx
  obtain⟨y',hy',hay⟩:=All2.get' hs ha
  rw[hy]at hy'
  cases hy'
  exact h _ _ _ hay hxa
theorem ACalls.frz {f:FuncId} {args args':List AV} {K:Kt} (id off len cap size:Nat) (cs:List AV) (es:List (List AV)) (hH:H[id]?=some (.cells cs)) (hfit:off+len*size≤cs.length)
  (hp:zaF ((cs.drop off).take (len*size))=some es.flatten) (hlen:es.length=len) (hsz:∀ c∈es,c.length=size) (hcap:len≤cap) (ha:All2 (FzT id off len cap es) args args')
  (h:ACalls P f args' (H.set id .dead) K):ACalls P f args H K:=by
 intro B w G vs hR hv
 obtain⟨G',hE,hR',b,hμ,hLb,vs0,e,hw,hcs⟩:=hR.frz hH
 have h1:∀ v a b,FzA id off len cap es a b→ARel w G v a→ARel w G' v b:=fun v a b' hab hr=>FzA.rel hfit hp hlen hsz hcap hE hμ hLb hw hcs hab hr
 have h2:∀ v a b,FzT id off len cap es a b→TRel w G v a→TRel w G' v b:=by
  intro v a b' hab hr
  cases hab with
  | one hab=>
   cases hab with
   | refl a=>exact hE.trel hr
   | ms=>exact TRel.of_v (VRel.of_a (h1 _ _ _ .ms hr))
  | agg hab=>
   obtain⟨us,hu,hr⟩:=hr
   exact⟨us,hu,zog h1 hr hab⟩
 refine (h B w G' vs hR' (zog h2 hv ha)).mono fun e w' ⟨v,r,H',G'',k1,k2,k3,k4,k5⟩=>⟨v,r,H',G'',k1,hE.trans k2,k3,k4,k5⟩
theorem AWp.frz {c:Code} {Q:AExit→List AV→zaa→Prop} {F:List AV} (id off len cap size:Nat) (cs:List AV) (es:List (List AV)) (id2:Nat) (cs2 cs2':List AV) (hH:H[id]?=some (.cells cs)) (hfit:off+len*size≤cs.length)
  (hp:zaF ((cs.drop off).take (len*size))=some es.flatten) (hlen:es.length=len) (hsz:∀ c∈es,c.length=size) (hcap:len≤cap) (hne:id≠id2) (hH2:H[id2]?=some (.cells cs2)) (ha:All2 (FzA id off len cap es) cs2 cs2')
  (h:AWp P c Q F ((H.set id .dead).set id2 (.cells cs2'))):AWp P c Q F H:=by
 intro B w G a hR hF hd
 obtain⟨G',hE,hR',b,hμ,hLb,vs0,e,hw,hcs⟩:=hR.frz hH
 have h1:∀ v a b,FzA id off len cap es a b→ARel w G v a→ARel w G' v b:=fun v a b' hab hr=>FzA.rel hfit hp hlen hsz hcap hE hμ hLb hw hcs hab hr
 have hlt2:id2<G.μ.length:=by rw[hR.len];exact (List.getElem?_eq_some_iff.1 hH2).1
 have hH2':(H.set id .dead)[id2]?=some (.cells cs2):=by rw[List.getElem?_set_ne hne];exact hH2
 have hR2:HRel B w G' ((H.set id .dead).set id2 (.cells cs2')):=by
  refine⟨by simp[hR'.len],?_,hR'.dist,hR'.fresh,hR'.lt,hR'.base⟩
  intro i ab gi k1 k2
  by_cases hi:i=id2
  ·subst hi
   rw[List.getElem?_set_self (List.getElem?_eq_some_iff.1 hH2').1]at k1
   cases k1
   have hok:=hR'.ok i _ _ hH2' k2
   have hgi:G.μ[i]?=some gi:=by
    obtain⟨gi0,hgi0⟩:∃ gi0,G.μ[i]?=some gi0:=⟨_,List.getElem?_eq_getElem hlt2⟩
    have hok0:=hR.ok i _ _ hH2 hgi0
    obtain⟨gi1,hg1,hle⟩:=hE.ids i gi0 hgi0
    rw[k2]at hg1
    cases hg1
    cases gi0 with
    | blk x=>cases gi with
     | blk y=>obtain rfl:x=y:=hle;exact hgi0
     | own v s n=>exact hle.elim
     | gap=>exact hle.elim
    | own v s n=>exact hok0.elim
    | gap=>exact hok0.elim
   have hok0:=hR.ok i _ _ hH2 hgi
   cases gi with
   | blk x=>
    obtain⟨k3,k4,vs,e',k5,k6⟩:=hok
    obtain⟨_,_,vs1,e1,k7,k8⟩:=hok0
    rw[k5]at k7
    cases k7
    exact⟨k3,k4,vs,e',k5,zog h1 k8 ha⟩
   | own v s n=>exact hok.elim
   | gap=>exact hok.elim
  ·rw[List.getElem?_set_ne (fun h=>hi h.symm)]at k1
   exact hR'.ok i ab gi k1 k2
 refine wp_mono (h B w G' a hR2 (hF.ext hE) hd) fun e a' w' hp=>?_
 obtain⟨F',H',G'',e',rfl,k1,k2,k3,k4,k5⟩:=hp
 exact⟨F',H',G'',e',rfl,hE.trans k1,k2,k3,k4,k5⟩
end Go.Abs
namespace Go.Abs
open Go Go.RowKit
variable {P:Program} {B:Nat} {w:World} {G:Gh} {H:zaa}
inductive OutW (H:zaa) (n:Nat):AV→AV→Prop
 | one {a b:AV} (h:OutV H n a b):OutW H n a b
 | rows (id e m:Nat) (cs:List AV) (rs:List (List (List AV))) (hid:n≤id) (hH:H[id]?=some (.vec e 1 m cs)) (hm:rs.length=m)
   (hall:All2 (OutV H n) cs (rs.map fun r=>.sl r .none)):OutW H n (.ov id m) (.sl (rs.map fun r=>[.sl r .none]) .none)
theorem OutW.vrel (hH:HRel B w G H) {n:Nat} {v:Value} {a b:AV} (h:OutW H n a b) (hr:TRel w G v a):VRel w (G.cut w n) v b:=by
 cases h with
 | one h=>exact h.vrel hH hr
 | rows id e m cs rs hid hHid hm hall=>
  obtain⟨⟨a,cap0,rfl,_⟩,v',s0,n',hμ,_,heq⟩:=hr
  obtain⟨rfl,rfl,⟨xs,hown,hcs⟩,_⟩:=hH.ok id _ _ hHid hμ
  obtain rfl:=heq rfl
  subst hm
  show DRel w (G.cut w n).L _ _
  by_cases hne:rs=[]
  ·subst hne;exact .slE _ _
  ·have hown2:=hown
   obtain⟨hl,hrow⟩:=hown2
   have hd:All2 (DRel w (G.cut w n).L) xs (rs.map fun r=>AV.sl r .none):=All2.of_get (hcs.length.trans hall.length) fun i x y hx hy=>by
    obtain⟨a,ha,hxa⟩:=All2.get' hcs hx
    obtain⟨y',hy',hay⟩:=All2.get' hall ha
    rw[hy]at hy'
    cases hy'
    obtain⟨r,hr,rfl⟩:∃ r,rs[i]?=some r∧AV.sl r .none=y:=by simpa using hy
    exact hay.vrel hH (TRel.of_v (VRel.of_a hxa))
   rcases hrow with ⟨h1,h2⟩ | ⟨g,cap,cur,h1,h2,h3,h4,h5,h6,h7⟩
   ·cases rs <;> simp_all
   ·simp at h1
    obtain⟨rfl,rfl⟩:=h1
    obtain⟨_,_,_,hcell⟩:=zdy hown
    have hfl:∀ l:List (List (List AV)),(l.map fun r=>[AV.sl r .none]).flatten=l.map fun r=>AV.sl r .none:=by
     intro l
     induction l with
     | nil=>rfl
     | cons r l ih=>simp[ih]
    have:=DRel.of_flat_at (w:=w) (L:=(G.cut w n).L) (g:=g) (off:=0) (size:=1) (cap:=cap0) (es:=rs.map fun r=>[AV.sl r .none]) (zs:=xs) (by simp) (by simpa using hne) (by simpa using h4) ?_ (by rw[hfl rs];exact hd) ?_
    ·simpa using this
    ·have:(G.cut w n).L g=cur.size:=by
      simp only[Gh.cut]
      rw[if_pos (cut_dropped.2 ⟨id,_,hid,hμ,rfl⟩),h3]
     rw[this,h6]
     simpa using h4
    ·intro j u hj
     rw[Nat.zero_add,hcell j (by rw[←hl];exact (List.getElem?_eq_some_iff.1 hj).1)]
     exact hj
inductive OutT2 (H:zaa) (n:Nat):AV→AV→Prop
 | one {a b:AV} (h:OutW H n a b):OutT2 H n a b
 | tup {asx bs:List AV} (h:All2 (OutW H n) asx bs):OutT2 H n (.tup asx) (.tup bs)
theorem zE5 (hH:HRel B w G H) {n:Nat} {asx bs:List AV} (h:All2 (OutW H n) asx bs) {vs:List Value} (hr:All2 (VRel w G) vs asx):All2 (VRel w (G.cut w n)) vs bs:=
 All2.of_get (hr.length.trans h.length) fun i x y hx hy=>by
  obtain⟨a,ha,hxa⟩:=All2.get' hr hx
  obtain⟨y',hy',hay⟩:=All2.get' h ha
  rw[hy]at hy'
  cases hy'
  exact hay.vrel hH (TRel.of_v hxa)
def zfY (n:Nat) (K:AV→zaa→Prop) (r:AV) (H':zaa):Prop:=∃ r2 H2 J,H'=H2++J∧n≤H2.length∧HSc H2∧OutT2 H' H2.length r r2∧K r2 H2
theorem ACalls.out2 {f:FuncId} {args:List AV} {K:AV→zaa→Prop} (h:ACalls P f args H (zfY H.length K)):ACalls P f args H K:=by
 intro B w G vs hH hv
 refine (h B w G vs hH hv).mono fun e w' ⟨v,r,H',G',h1,h2,h3,h4,h5⟩=>?_
 obtain⟨r2,H2,J,hJ,hn,hsc,ho,hk⟩:=h5
 subst hJ
 refine⟨v,r2,H2,G'.cut w' H2.length,h1,zoy h3 h2 (by rw[hH.len];exact hn),h3.cut hsc,?_,hk⟩
 cases ho with
 | one ho=>exact TRel.of_v (ho.vrel h3 h4)
 | tup ho=>
  obtain⟨us,hu,hr⟩:=h4
  exact⟨us,hu,zE5 h3 ho hr⟩
theorem Out.two {n:Nat} {K:AV→zaa→Prop} {r:AV} (h:Out n K r H):zfY n K r H:=by
 obtain⟨r2,H2,J,hJ,hn,hsc,ho,hk⟩:=h
 refine⟨r2,H2,J,hJ,hn,hsc,?_,hk⟩
 cases ho with
 | one h=>exact .one (.one h)
 | tup h=>exact .tup (All2.of_get h.length fun i x y hx hy=>by
   obtain⟨y',hy',hay⟩:=All2.get' h hx
   rw[hy]at hy'
   cases hy'
   exact .one hay)
end Go.Abs
namespace Go.Abs
open Go Go.RowKit Go.Lib
variable {P:Program} {B:Nat} {w:World}
end Go.Abs
namespace Go.Abs
open Go Go.RowKit Go.Lib
variable {P:Program} {B:Nat} {w:World} {G:Gh} {H:zaa}
theorem HRel.dead (h:HRel B w G H) {id e s n:Nat} (hH:H[id]?=some (.perm e s n)):HRel B w G (H.set id .dead):=by
 refine⟨by simp[h.len],?_,h.dist,h.fresh,h.lt,h.base⟩
 intro i ab gi h1 h2
 by_cases hi:i=id
 ·subst hi
  rw[List.getElem?_set_self (List.getElem?_eq_some_iff.1 hH).1]at h1
  cases h1
  have hok:=h.ok i _ _ hH h2
  cases gi with
  | blk b=>exact hok.elim
  | gap=>exact hok.elim
  | own v s' n'=>
   obtain⟨rfl,rfl,⟨xs,hl,⟨rfl,_⟩ | ⟨g,cap,cur,rfl,k1,k2,k3,k4,k5,k6⟩⟩,hL⟩:=hok
   ·intro b hb
    cases hb
   ·intro b hb
    simp[Value.ownBlock]at hb
    subst hb
    exact⟨cur,e,_,k2,by rw[hL g rfl,k5];exact Nat.mul_le_mul_right _ k3⟩
 ·rw[List.getElem?_set_ne (fun h=>hi h.symm)]at h1
  exact h.ok i ab gi h1 h2
theorem HRel.other (h:HRel B w G H) (o:Obj):Ext B w G (w.alloc o) G∧HRel B (w.alloc o) G H:=by
 have he:=Ext.alloc h o G.L (fun _ _=>rfl) []
 simp only[List.append_nil]at he
 refine⟨he,h.keep he rfl (fun id gi b h1 h2=>⟨zdE (h.lt id gi b h1 h2),rfl⟩) (fun b hb=>?_)⟩
 rw[zcI]at hb
 exact h.fresh b (by omega)
end Go.Abs
namespace Go.Abs
open Go Go.RowKit Go.Sort
variable {P:Program} {B:Nat} {w:World} {G:Gh} {H:zaa}
end Go.Abs
namespace Go.Abs
open Go Go.RowKit
variable {P:Program} {B:Nat} {w:World} {G:Gh} {H:zaa}
theorem HRel.newVec (h:HRel B w G H) (e size:Nat):Ext B w G w ⟨G.L,G.μ++[.own (.slice none 0 0) size 0]⟩∧HRel B w ⟨G.L,G.μ++[.own (.slice none 0 0) size 0]⟩ (H++[.vec e size 0 []]):=by
 obtain⟨hE,hH⟩:=h.newOwn e size
 refine⟨hE,by simpa using hH.len,fun id ab gi h1 h2=>?_,hH.dist,hH.fresh,hH.lt,hH.base⟩
 by_cases hlt:id<H.length
 ·rw[List.getElem?_append_left hlt]at h1
  exact hH.ok id ab gi (by rw[List.getElem?_append_left hlt];exact h1) h2
 ·have hlt2:=(List.getElem?_eq_some_iff.1 h2).1
  simp[h.len]at hlt2
  obtain rfl:id=H.length:=by omega
  simp at h1
  have h2:(G.μ++[GI.own (.slice none 0 0) size 0])[H.length]?=some gi:=h2
  rw[←h.len]at h2
  simp at h2
  subst h1 h2
  exact⟨rfl,rfl,⟨[],World.ownsRow_nil w B e size,trivial⟩,fun b hb=>by simp[Value.ownBlock]at hb⟩
end Go.Abs
namespace Go.Abs
open Go Go.RowKit
variable {P:Program} {B:Nat} {w:World} {G:Gh} {H:zaa}
theorem zpW (h:HRel B w G H) (e size:Nat):TRel w ⟨G.L,G.μ++[.own (.slice none 0 0) size 0]⟩ (.slice none 0 0) (.ov H.length 0):=by
 refine⟨⟨none,0,rfl,fun h=>absurd h (by omega),Nat.le_refl _⟩,.slice none 0 0,size,0,?_,Nat.le_refl _,fun _=>rfl⟩
 rw[←h.len]
 simp
theorem ALoop.vec {c:Code} {Q:AExit→List AV→zaa→Prop} {F:List AV} (i e size:Nat) (hi:F[i]?=some .snil)
  (h:ALoop P c Q (F.set i (.ov H.length 0)) (H++[.vec e size 0 []])):ALoop P c Q F H:=by
 intro B w G a hH hF hd
 obtain⟨hE,hH'⟩:=hH.newVec e size
 have hF':FRel w ⟨G.L,G.μ++[.own (.slice none 0 0) size 0]⟩ a.tmps (F.set i (.ov H.length 0)):=by
  unfold FRel
  obtain⟨v,h1,h2⟩:=All2.get hF hi
  have h2:v=.slice none 0 0:=h2
  subst h2
  have hset:a.tmps.toList=a.tmps.toList.set i (.slice none 0 0):=by
   apply List.ext_getElem?
   intro k
   by_cases hk:k=i
   ·subst hk;rw[List.getElem?_set_self (List.getElem?_eq_some_iff.1 h1).1];exact h1
   ·rw[List.getElem?_set_ne (fun h=>hk h.symm)]
  rw[hset]
  exact All2.set i (hF.ext hE) (zpW hH e size)
 refine wp_mono (h B w _ a hH' hF' hd) fun e a' w' hp=>?_
 obtain⟨F'',H'',G'',e'',rfl,k1,k2,k3,k4,k5⟩:=hp
 exact⟨F'',H'',G'',e'',rfl,hE.trans k1,k2,k3,k4,k5⟩
theorem ACalls.vecRes {f:FuncId} {args:List AV} {K:Kt} (e size:Nat) (h:ACalls P f args H fun r H'=>(r=.snil∧K (.ov H'.length 0) (H'++[.vec e size 0 []]))∨K r H'):ACalls P f args H K:=by
 intro B w G vs hH hv
 refine (h B w G vs hH hv).mono fun ex w' ⟨v,r,H',G',h1,h2,h3,h4,h5⟩=>?_
 rcases h5 with ⟨rfl,hk⟩ | hk
 ·have h4:v=.slice none 0 0:=h4
  subst h4
  obtain⟨hE,hH'⟩:=h3.newVec e size
  exact⟨_,_,_,_,h1,h2.trans hE,hH',zpW h3 e size,hk⟩
 ·exact⟨v,r,H',G',h1,h2,h3,h4,hk⟩
theorem ACalls.withSc {f:FuncId} {args:List AV} {K:Kt} (h:ACalls P f args H fun r H'=>HSc H'→K r H'):ACalls P f args H K:=by
 intro B w G vs hH hv
 exact (h B w G vs hH hv).mono fun ex w' ⟨v,r,H',G',h1,h2,h3,h4,h5⟩=>⟨v,r,H',G',h1,h2,h3,h4,h5 h3.sc⟩
theorem zyr {vs:List Value}:∀ {cs cs':List AV},All2 WkA cs cs'→∀ {vs:List Value},All2 (ARel w G) vs cs→All2 (ARel w G) vs cs'
 | [],[],_,_,hv=>hv
 | x::cs,x'::cs',hw,[],hv=>hv.elim
 | x::cs,x'::cs',hw,v::vs,hv=>⟨hw.1.arel hv.1,zyr (vs:=[]) hw.2 hv.2⟩
 | [],_::_,hw,_,_=>hw.elim
 | _::_,[],hw,_,_=>hw.elim
theorem ALoop.reCell {c:Code} {Q:AExit→List AV→zaa→Prop} {F:List AV} {id:Nat} {cs:List AV} (cs':List AV) (hid:H[id]?=some (.cells cs)) (hw:All2 WkA cs cs') (h:ALoop P c Q F (H.set id (.cells cs'))):ALoop P c Q F H:=by
 intro B w G a hH hF hd
 exact h B w G a (hH.reCell hid fun vs hv=>zyr (vs:=[]) hw hv) hF hd
theorem HRel.frzV (h:HRel B w G H) {id e size n:Nat} {cs:List AV} (hH:H[id]?=some (.vec e size n cs)) {es:List (List AV)} (hp:zaF cs=some es.flatten) (hlen:es.length=n) (hsz:∀ c∈es,c.length=size) :
  ∃ G',Ext B w G w G'∧HRel B w G' (H.set id .dead)∧∀ v,ARel w G v (.ov id n)→DRel w G'.L v (.sl es .none):=by
 have hlt:id<G.μ.length:=by rw[h.len];exact (List.getElem?_eq_some_iff.1 hH).1
 obtain⟨gi,hgi⟩:∃ gi,G.μ[id]?=some gi:=⟨_,List.getElem?_eq_getElem hlt⟩
 have hok:=h.ok id _ _ hH hgi
 cases gi with
 | gap=>exact hok.elim
 | blk b=>exact hok.elim
 | own v0 s0 n0=>
  obtain⟨rfl,rfl,⟨xs,hown,hcs⟩,hL0⟩:=hok
  have hown2:=hown
  obtain⟨hl,hrow⟩:=hown2
  rcases hrow with ⟨h1,h2⟩ | ⟨g,cap,cur,h1,hB,hw,hcap,hcm,hcz,htk⟩
  ·subst h1
   refine⟨G,Ext.refl _ _ _,⟨by simp[h.len],?_,h.dist,h.fresh,h.lt,h.base⟩,?_⟩
   ·intro id' ab gi k1 k2
    by_cases hid:id'=id
    ·subst hid
     rw[List.getElem?_set_self (List.getElem?_eq_some_iff.1 hH).1]at k1
     cases k1
     rw[hgi]at k2
     cases k2
     exact fun b hb=>by simp[Value.ownBlock]at hb
    ·rw[List.getElem?_set_ne (fun h=>hid h.symm)]at k1
     exact h.ok id' ab gi k1 k2
   ·intro v hv
    obtain⟨⟨a,cap0,rfl,_⟩,v',s',n',hμ,_,heq⟩:=hv
    have hes:es=[]:=List.eq_nil_of_length_eq_zero (by omega)
    subst hes
    subst hlen
    exact .slE _ _
  ·subst h1
   have hLg:G.L g=0:=hL0 g rfl
   have he:Ext B w G w ⟨fun x=>if x=g then cur.size else G.L x,G.μ⟩:=
    ⟨Nat.le_refl _,Below.refl _ _,fun x=>by by_cases hx:x=g <;> simp[hx,hLg],fun _ _ _=>rfl,fun _ gi h=>⟨gi,h,gi.le_refl⟩⟩
   refine⟨_,he,⟨by simp[h.len],?_,h.dist,fun x hx=>?_,h.lt,h.base⟩,?_⟩
   ·intro id' ab gi k1 k2
    by_cases hid:id'=id
    ·subst hid
     rw[List.getElem?_set_self (List.getElem?_eq_some_iff.1 hH).1]at k1
     cases k1
     have k2:G.μ[id']?=some gi:=k2
     rw[hgi]at k2
     cases k2
     intro b hb
     simp[Value.ownBlock]at hb
     subst hb
     exact⟨cur,e,_,hw,by simp⟩
    ·rw[List.getElem?_set_ne (fun h=>hid h.symm)]at k1
     refine (h.ok id' ab gi k1 k2).keep he (fun x hx=>⟨rfl,?_⟩)
     have:¬ x=g:=fun hxb=>hid (h.dist id' id gi _ g k2 hgi (by rw[hx,hxb]) rfl)
     simp[this]
   ·have:=h.lt id _ g hgi rfl
    have h3:¬ x=g:=by omega
    simp[h3,h.fresh x hx]
   ·intro v hv
    obtain⟨⟨a,cap0,rfl,_⟩,v',s',n',hμ,_,heq⟩:=hv
    rw[hgi]at hμ
    simp only[Option.some.injEq,GI.own.injEq]at hμ
    obtain⟨rfl,rfl,rfl⟩:=hμ
    have hvv:=heq rfl
    simp only[Value.slice.injEq,true_and]at hvv
    obtain⟨rfl,rfl⟩:=hvv
    subst hlen
    by_cases hes:es=[]
    ·subst hes;exact .slE _ _
    ·obtain⟨_,_,_,hcell⟩:=zdy hown
     refine DRel.of_flat_at (zs:=xs) hsz hes hcap ?_ ((zdK hcs hp).mono fun _ _=>he.drel) ?_
     ·simp only[if_true]
      rw[hcz,Nat.zero_add]
      exact Nat.mul_le_mul_right _ hcap
     ·intro j u hj
      rw[Nat.zero_add,hcell j (by rw[←hl];exact (List.getElem?_eq_some_iff.1 hj).1)]
      exact hj
theorem ACalls.frzV {f:FuncId} {x:AV} {K:Kt} (id e size n:Nat) (cs:List AV) (es:List (List AV)) (hH:H[id]?=some (.vec e size n cs)) (hp:zaF cs=some es.flatten) (hlen:es.length=n) (hsz:∀ c∈es,c.length=size)
  (h:ACalls P f [.agg [x,.sl es .none]] (H.set id .dead) K):ACalls P f [.agg [x,.ov id n]] H K:=by
 intro B w G vs hR hv
 obtain⟨G',hE,hR',hd⟩:=hR.frzV hH hp hlen hsz
 refine (h B w G' vs hR' ?_).mono fun e w' ⟨v,r,H',G'',k1,k2,k3,k4,k5⟩=>⟨v,r,H',G'',k1,hE.trans k2,k3,k4,k5⟩
 generalize vs.toList=l at *
 match l,hv with
 | [v],⟨⟨us,hu,h1⟩,_⟩=>
  refine⟨⟨us,hu,?_⟩,trivial⟩
  generalize us.toList=m at *
  match m,h1 with
  | [a,b],⟨h2,h3,_⟩=>exact⟨hE.arel h2,hd b h3,trivial⟩
end Go.Abs
