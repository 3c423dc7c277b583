import Derived.Test.YtkdmpbhbmmhijaaKNum
import Derived.Test.YtkdmpbhbmmhijaaProg
import Derived.KernelRfl
import Derived.Test.YtkdmpbhbmmhijaaKB4
set_option linter.unusedSimpArgs false
set_option linter.unusedVariables false
namespace Go.Proofs.Ytkdmpbhbmmhijaa
open Go Go.Abs
set_option maxRecDepth 100000
def zfC : Nat → List Bool
 | 200023=>rl false [0,2]
 | 169020=>rl false [0,1,2,1,65,1,10,1,106]
 | 100013=>rl false [0,1,2,1,183]
 | 156007=>rl false [0,1,2,1,2,2,179]
 | _=>[]
noncomputable def zfD : Code:=Try.f76.body.getD .skip
noncomputable def zra : List ResultVar:=Try.f76.results.toList
def zeQ (t0 t3 t175 : AV) (H : zaa) (K : Kt) : Prop:=
 zag t175
 (zae true 8 t3 H fun t182=>
 ACalls tP znO [t0,t182] H fun t183 H=>
 K t183 H)
 (zae true 8 t3 H fun t185=>
 ACalls tP znP [t0,t185] H fun t186 H=>
 K t186 H)
noncomputable def zMS : Code:=zan [1,1,1,0,1,0,1,1,1] zfD
def zMR (K : Kt) : AExit → List AV → zaa → Prop:=zao tP zfC [1,1,1,0,1,0,1,1,1] zfD (zau tP zra K)
def zyk (t0 t3 t69 t80 : AV) (H : zaa) (K : Kt) : Prop:=AWp tP zMS (zMR K) (t0 :: ux 2 (t3 :: ux 65 (t69 :: ux 10 (t80 :: ux 106 [])))) H
def zyl (t0 t3 t69 t80 : AV) (H : zaa) (K : Kt) : Prop:=
 zag t80
 (zae true 8 t3 H fun t82=>
 ACalls tP zcF [t82,(.int .i64 1),(.int .i64 0)] H fun t83 H=>
 zab t83 true H (fun K'=>K' t0 H) fun t85 H=>
 zab t83 true H (fun K'=>zaf 2 t3 (K' · H)) fun t86 H=>
 zab t83 true H (fun K'=>zae false 1 t86 H (K' · H)) fun t87 H=>
 zab t83 true H (fun K'=>zaf 5 t3 (K' · H)) fun t88 H=>
 zab t83 true H (fun K'=>zae true 3 t88 H (K' · H)) fun t89 H=>
 zab t83 true H (fun K'=>zav 3 [(.int .i64 0),(.int .i64 0),.snil] 1 [(0,t89)] (K' · H)) fun t90 H=>
 zab t83 true H (fun K'=>ACalls tP zco [t85,t87,t90] H K') fun t91 H=>
 zah t83 t91 (.bool false) fun t92=>
 K t92 H)
 (zad .eql false t69 (.int .i64 5) fun t94=>
 zag t94
 (zac H (fun K'=>zak true 8 t3 H (K' · H)) fun t95=>
 zaw H (fun H K'=>ACalls tP zcF [t95,(.int .i64 (-1)),(.int .i64 0)] H K') fun t96=>
 zac H (fun K'=>K' t96 H) fun t97=>
 zab t97 true H (fun K'=>zac H (fun K''=>zaf 2 t3 (K'' · H)) (K' · H)) fun t98 H=>
 zab t97 true H (fun K'=>zac H (fun K''=>zak false 1 t98 H (K'' · H)) (K' · H)) fun t99 H=>
 zab t97 true H (fun K'=>zac H (fun K''=>zaj 1 t99 (K'' · H)) (K' · H)) fun t100 H=>
 zab t97 true H (fun K'=>zac H (fun K''=>zad .geq false t100 (.int .i64 2) (K'' · H)) (K' · H)) fun t101 H=>
 zac H (fun K'=>zah t97 t101 (.bool false) (K' · H)) fun t102=>
 zac H (fun K'=>K' t102 H) fun t103=>
 zab t103 true H (fun K'=>zac H (fun K''=>zaf 2 t3 (K'' · H)) (K' · H)) fun t104 H=>
 zab t103 true H (fun K'=>zac H (fun K''=>zak false 1 t104 H (K'' · H)) (K' · H)) fun t105 H=>
 zab t103 true H (fun K'=>zac H (fun K''=>zaj 1 t105 (K'' · H)) (K' · H)) fun t106 H=>
 zab t103 true H (fun K'=>zac H (fun K''=>zad .leq false t106 (.int .i64 6) (K'' · H)) (K' · H)) fun t107 H=>
 zac H (fun K'=>zah t103 t107 (.bool false) (K' · H)) fun t108=>
 zac H (fun K'=>K' t108 H) fun t109=>
 zab t109 true H (fun K'=>zac H (fun K''=>zaf 5 t3 (K'' · H)) (K' · H)) fun t110 H=>
 zab t109 true H (fun K'=>zac H (fun K''=>zak true 3 t110 H (K'' · H)) (K' · H)) fun t111 H=>
 zab t109 true H (fun K'=>zac H (fun K''=>K'' t0 H) (K' · H)) fun t112 H=>
 zab t109 true H (fun K'=>zac H (fun K''=>zaf 2 t3 (K'' · H)) (K' · H)) fun t113 H=>
 zab t109 true H (fun K'=>zac H (fun K''=>zak false 1 t113 H (K'' · H)) (K' · H)) fun t114 H=>
 zab t109 true H (fun K'=>zaw H (fun H K''=>ACalls tP zee [t112,t114] H K'') (K' · H)) fun t115 H=>
 zab t109 true H (fun K'=>zaw H (fun H K''=>ACalls tP zed [(.int .i64 6),t115] H K'') (K' · H)) fun t116 H=>
 zab t109 true H (fun K'=>zaw H (fun H K''=>ACalls tP zbN [t111,t116] H K'') (K' · H)) fun t117 H=>
 zac H (fun K'=>zah t109 t117 (.bool false) (K' · H)) fun t118=>
 zac H (fun K'=>K' t118 H) fun t4=>
 K t4 H)
 (zad .eql false t69 (.int .i64 13) fun t120=>
 zag t120
 (zac H (fun K'=>zak true 8 t3 H (K' · H)) fun t121=>
 zbB .g true H (fun K'=>ACalls tP zcF [t121,(.int .i64 (-1)),(.int .i64 0)] H K') fun t122 H=>
 zac H (fun K'=>K' t122 H) fun t123=>
 zab t123 true H (fun K'=>zac H (fun K''=>zaf 2 t3 (K'' · H)) (K' · H)) fun t124 H=>
 zab t123 true H (fun K'=>zac H (fun K''=>zak false 1 t124 H (K'' · H)) (K' · H)) fun t125 H=>
 zab t123 true H (fun K'=>zac H (fun K''=>zaj 1 t125 (K'' · H)) (K' · H)) fun t126 H=>
 zab t123 true H (fun K'=>zac H (fun K''=>zad .geq false t126 (.int .i64 1) (K'' · H)) (K' · H)) fun t127 H=>
 zac H (fun K'=>zah t123 t127 (.bool false) (K' · H)) fun t128=>
 zac H (fun K'=>K' t128 H) fun t129=>
 zab t129 true H (fun K'=>zac H (fun K''=>K'' t0 H) (K' · H)) fun t130 H=>
 zab t129 true H (fun K'=>zac H (fun K''=>za9 t130 (K'' · H)) (K' · H)) fun t131 H=>
 zab t129 true H (fun K'=>zac H (fun K''=>zaf 0 t131 (K'' · H)) (K' · H)) fun t132 H=>
 zab t129 true H (fun K'=>zac H (fun K''=>zaf 2 t132 (K'' · H)) (K' · H)) fun t133 H=>
 zab t129 true H (fun K'=>zac H (fun K''=>zak false 1 t133 H (K'' · H)) (K' · H)) fun t134 H=>
 zab t129 true H (fun K'=>zac H (fun K''=>zaf 2 t3 (K'' · H)) (K' · H)) fun t135 H=>
 zab t129 true H (fun K'=>zac H (fun K''=>zak false 1 t135 H (K'' · H)) (K' · H)) fun t136 H=>
 zab t129 true H (fun K'=>zac H (fun K''=>zai 1 t136 (.int .i64 0) (K'' · H)) (K' · H)) fun t137 H=>
 zab t129 true H (fun K'=>zac H (fun K''=>zak false 1 t137 H (K'' · H)) (K' · H)) fun t138 H=>
 zab t129 true H (fun K'=>zac H (fun K''=>zai 3 t134 t138 (K'' · H)) (K' · H)) fun t139 H=>
 zab t129 true H (fun K'=>zac H (fun K''=>zak true 3 t139 H (K'' · H)) (K' · H)) fun t140 H=>
 zab t129 true H (fun K'=>zac H (fun K''=>K'' t0 H) (K' · H)) fun t141 H=>
 zab t129 true H (fun K'=>zac H (fun K''=>zaf 2 t3 (K'' · H)) (K' · H)) fun t142 H=>
 zab t129 true H (fun K'=>zac H (fun K''=>zak false 1 t142 H (K'' · H)) (K' · H)) fun t143 H=>
 zab t129 true H (fun K'=>zac H (fun K''=>za2 1 1 t143 (some (.int .i64 1)) none (K'' · H)) (K' · H)) fun t144 H=>
 zab t129 true H (fun K'=>zbB .g true H (fun K''=>ACalls tP zee [t141,t144] H K'') K') fun t145 H=>
 zab t129 true H (fun K'=>zac H (fun K''=>zaf 5 t3 (K'' · H)) (K' · H)) fun t146 H=>
 zab t129 true H (fun K'=>zac H (fun K''=>zak true 3 t146 H (K'' · H)) (K' · H)) fun t147 H=>
 zab t129 true H (fun K'=>zac H (fun K''=>zav 3 [(.int .i64 0),(.int .i64 0),.snil] 1 [(0,t147)] (K'' · H)) (K' · H)) fun t148 H=>
 zab t129 true H (fun K'=>zbB .g false H (fun K''=>zaC zaB 3 40 t145 t148 H K'') K') fun t149 H=>
 zab t129 true H (fun K'=>zbB .g true H (fun K''=>ACalls tP zed [(.int .i64 9),t149] H K'') K') fun t150 H=>
 zab t129 true H (fun K'=>zbB .g true H (fun K''=>ACalls tP zbN [t140,t150] H K'') K') fun t151 H=>
 zac H (fun K'=>zah t129 t151 (.bool false) (K' · H)) fun t152=>
 zac H (fun K'=>K' t152 H) fun t4=>
 K t4 H)
 (zad .eql false t69 (.int .i64 23) fun t154=>
 zag t154
 (zac H (fun K'=>zak true 8 t3 H (K' · H)) fun t155=>
 zaw H (fun H K'=>ACalls tP zcF [t155,(.int .i64 1),(.int .i64 0)] H K') fun t156=>
 zac H (fun K'=>K' t156 H) fun t157=>
 zab t157 true H (fun K'=>zac H (fun K''=>K'' t0 H) (K' · H)) fun t158 H=>
 zab t157 true H (fun K'=>zac H (fun K''=>zaf 2 t3 (K'' · H)) (K' · H)) fun t159 H=>
 zab t157 true H (fun K'=>zac H (fun K''=>zak false 1 t159 H (K'' · H)) (K' · H)) fun t160 H=>
 zab t157 true H (fun K'=>zaw H (fun H K''=>ACalls tP zcG [(.int .i64 1)] H K'') (K' · H)) fun t161 H=>
 zab t157 true H (fun K'=>zac H (fun K''=>zav 3 [(.int .i64 0),(.int .i64 0),.snil] 1 [(0,t161)] (K'' · H)) (K' · H)) fun t162 H=>
 zab t157 true H (fun K'=>zaw H (fun H K''=>ACalls tP zco [t158,t160,t162] H K'') (K' · H)) fun t163 H=>
 zac H (fun K'=>zah t157 t163 (.bool false) (K' · H)) fun t164=>
 zac H (fun K'=>K' t164 H) fun t165=>
 zab t165 true H (fun K'=>zac H (fun K''=>K'' t0 H) (K' · H)) fun t166 H=>
 zab t165 true H (fun K'=>zac H (fun K''=>za9 t166 (K'' · H)) (K' · H)) fun t167 H=>
 zab t165 true H (fun K'=>zac H (fun K''=>zaf 0 t167 (K'' · H)) (K' · H)) fun t168 H=>
 zab t165 true H (fun K'=>zac H (fun K''=>zaf 0 t168 (K'' · H)) (K' · H)) fun t169 H=>
 zab t165 true H (fun K'=>zac H (fun K''=>zak false 1 t169 H (K'' · H)) (K' · H)) fun t170 H=>
 zab t165 true H (fun K'=>zac H (fun K''=>zaf 5 t3 (K'' · H)) (K' · H)) fun t171 H=>
 zab t165 true H (fun K'=>zac H (fun K''=>zak true 3 t171 H (K'' · H)) (K' · H)) fun t172 H=>
 zab t165 true H (fun K'=>zaw H (fun H K''=>ACalls tP zfZ [t170,t172,(.int .i64 0)] H K'') (K' · H)) fun t173 H=>
 zac H (fun K'=>zah t165 t173 (.bool false) (K' · H)) fun t174=>
 zac H (fun K'=>K' t174 H) fun t4=>
 K t4 H)
 (zad .eql false t69 (.int .i64 7) fun t176=>
 zag t176
 (zeQ t0 t3 t176 H K)
 (zad .eql false t69 (.int .i64 24) fun t177=>
 zag t177
 (zeQ t0 t3 t177 H K)
 (zad .eql false t69 (.int .i64 8) fun t178=>
 zag t178
 (zeQ t0 t3 t178 H K)
 (zad .eql false t69 (.int .i64 9) fun t179=>
 zag t179
 (zeQ t0 t3 t179 H K)
 (zad .eql false t69 (.int .i64 10) fun t180=>
 zeQ t0 t3 t180 H K))))))))
noncomputable def zMP : Code:=zan [1,1] zfD
def zMO (K : Kt) : AExit → List AV → zaa → Prop:=zao tP zfC [1,1] zfD (zau tP zra K)
def zq8 (t0 t3 : AV) (H : zaa) (K : Kt) : Prop:=AWp tP zMP (zMO K) (t0 :: ux 2 (t3 :: ux 183 [])) H
def zyj (t0 t3 : AV) (H : zaa) (K : Kt) : Prop:=
 zaf 1 t3 fun t65=>
 zae false 1 t65 H fun t66=>
 zad .neq false t66 (.int .i64 0) fun t67=>
 zag t67
 (K (.bool false) H)
 (zaf 0 t3 fun t68=>
 zae false 1 t68 H fun t69=>
 zad .eql false t69 (.int .i64 1) fun t71=>
 zag t71
 (zac H (fun K'=>zak true 8 t3 H (K' · H)) fun t72=>
 zaw H (fun H K'=>ACalls tP zcF [t72,(.int .i64 0),(.int .i64 0)] H K') fun t73=>
 zac H (fun K'=>K' t73 H) fun t74=>
 zab t74 true H (fun K'=>zac H (fun K''=>zaf 5 t3 (K'' · H)) (K' · H)) fun t75 H=>
 zab t74 true H (fun K'=>zac H (fun K''=>zak true 3 t75 H (K'' · H)) (K' · H)) fun t76 H=>
 zab t74 true H (fun K'=>zaw H (fun H K''=>ACalls tP zcG [(.int .i64 3)] H K'') (K' · H)) fun t77 H=>
 zab t74 true H (fun K'=>zaw H (fun H K''=>ACalls tP zbN [t76,t77] H K'') (K' · H)) fun t78 H=>
 zac H (fun K'=>zah t74 t78 (.bool false) (K' · H)) fun t79=>
 zac H (fun K'=>K' t79 H) fun t4=>
 K t4 H)
 (zad .eql false t69 (.int .i64 4) fun t81=>
 zyk t0 t3 t69 t81 H K))
noncomputable def zMM : Code:=zan [1,0,1,0,1] zfD
def zML (K : Kt) : AExit → List AV → zaa → Prop:=zao tP zfC [1,0,1,0,1] zfD (zau tP zra K)
def zgv (t0 t3 t6 t7 : AV) (H : zaa) (K : Kt) : Prop:=AWp tP zMM (zML K) (t0 :: ux 2 (t3 :: ux 2 (t6 :: t7 :: ux 179 []))) H
def zyi (t0 t3 t6 t7 : AV) (H : zaa) (K : Kt) : Prop:=
 zag t7
 (zae true 8 t3 H fun t13=>
 ACalls tP znN [t0,t13] H fun t14 H=>
 K t14 H)
 (zad .eql false t6 (.int .i64 2) fun t16=>
 zag t16
 (zac H (fun K'=>zak true 8 t3 H (K' · H)) fun t17=>
 zaw H (fun H K'=>ACalls tP zcF [t17,(.int .i64 0),(.int .i64 0)] H K') fun t18=>
 zac H (fun K'=>K' t18 H) fun t19=>
 zab t19 true H (fun K'=>zac H (fun K''=>zaf 1 t3 (K'' · H)) (K' · H)) fun t20 H=>
 zab t19 true H (fun K'=>zac H (fun K''=>zak false 1 t20 H (K'' · H)) (K' · H)) fun t21 H=>
 zab t19 true H (fun K'=>zac H (fun K''=>zad .eql false t21 (.int .i64 0) (K'' · H)) (K' · H)) fun t22 H=>
 zab t19 true H (fun K'=>zac H (fun K''=>K'' t22 H) (K' · H)) fun t23 H=>
 zab t23 false H (fun K'=>zac H (fun K''=>zaf 1 t3 (K'' · H)) (K' · H)) fun t24 H=>
 zab t23 false H (fun K'=>zac H (fun K''=>zak false 1 t24 H (K'' · H)) (K' · H)) fun t25 H=>
 zab t23 false H (fun K'=>zac H (fun K''=>zad .eql false t25 (.int .i64 1) (K'' · H)) (K' · H)) fun t26 H=>
 zab t19 true H (fun K'=>zac H (fun K''=>zah t23 (.bool true) t26 (K'' · H)) (K' · H)) fun t27 H=>
 zac H (fun K'=>zah t19 t27 (.bool false) (K' · H)) fun t28=>
 zac H (fun K'=>K' t28 H) fun t29=>
 zab t29 true H (fun K'=>zac H (fun K''=>zaf 5 t3 (K'' · H)) (K' · H)) fun t30 H=>
 zab t29 true H (fun K'=>zac H (fun K''=>zak true 3 t30 H (K'' · H)) (K' · H)) fun t31 H=>
 zab t29 true H (fun K'=>zaw H (fun H K''=>ACalls tP zcG [(.int .i64 2)] H K'') (K' · H)) fun t32 H=>
 zab t29 true H (fun K'=>zaw H (fun H K''=>ACalls tP zbN [t31,t32] H K'') (K' · H)) fun t33 H=>
 zac H (fun K'=>zah t29 t33 (.bool false) (K' · H)) fun t34=>
 zac H (fun K'=>K' t34 H) fun t4=>
 K t4 H)
 (zad .eql false t6 (.int .i64 3) fun t36=>
 zag t36
 (zac H (fun K'=>zak true 8 t3 H (K' · H)) fun t37=>
 zaw H (fun H K'=>ACalls tP zcF [t37,(.int .i64 0),(.int .i64 0)] H K') fun t38=>
 zac H (fun K'=>K' t38 H) fun t39=>
 zab t39 true H (fun K'=>zac H (fun K''=>zaf 1 t3 (K'' · H)) (K' · H)) fun t40 H=>
 zab t39 true H (fun K'=>zac H (fun K''=>zak false 1 t40 H (K'' · H)) (K' · H)) fun t41 H=>
 zab t39 true H (fun K'=>zaw H (fun H K''=>ACalls tP ziU [t41,(.int .i64 1000000)] H K'') (K' · H)) fun t42 H=>
 zac H (fun K'=>zah t39 t42 (.bool false) (K' · H)) fun t43=>
 zac H (fun K'=>K' t43 H) fun t44=>
 zab t44 true H (fun K'=>zac H (fun K''=>zaf 5 t3 (K'' · H)) (K' · H)) fun t45 H=>
 zab t44 true H (fun K'=>zac H (fun K''=>zak true 3 t45 H (K'' · H)) (K' · H)) fun t46 H=>
 zab t44 true H (fun K'=>zaw H (fun H K''=>ACalls tP zcG [(.int .i64 1)] H K'') (K' · H)) fun t47 H=>
 zab t44 true H (fun K'=>zaw H (fun H K''=>ACalls tP zbN [t46,t47] H K'') (K' · H)) fun t48 H=>
 zac H (fun K'=>zah t44 t48 (.bool false) (K' · H)) fun t49=>
 zac H (fun K'=>K' t49 H) fun t4=>
 K t4 H)
 (zad .eql false t6 (.int .i64 22) fun t51=>
 zag t51
 (zac H (fun K'=>zak true 8 t3 H (K' · H)) fun t52=>
 zaw H (fun H K'=>ACalls tP zcF [t52,(.int .i64 0),(.int .i64 0)] H K') fun t53=>
 zac H (fun K'=>K' t53 H) fun t54=>
 zab t54 true H (fun K'=>zac H (fun K''=>zaf 1 t3 (K'' · H)) (K' · H)) fun t55 H=>
 zab t54 true H (fun K'=>zac H (fun K''=>zak false 1 t55 H (K'' · H)) (K' · H)) fun t56 H=>
 zab t54 true H (fun K'=>zaw H (fun H K''=>ACalls tP ziU [t56,(.int .i64 1000)] H K'') (K' · H)) fun t57 H=>
 zac H (fun K'=>zah t54 t57 (.bool false) (K' · H)) fun t58=>
 zac H (fun K'=>K' t58 H) fun t59=>
 zab t59 true H (fun K'=>zac H (fun K''=>zaf 5 t3 (K'' · H)) (K' · H)) fun t60 H=>
 zab t59 true H (fun K'=>zac H (fun K''=>zak true 3 t60 H (K'' · H)) (K' · H)) fun t61 H=>
 zab t59 true H (fun K'=>zaw H (fun H K''=>ACalls tP zcG [(.int .i64 3)] H K'') (K' · H)) fun t62 H=>
 zab t59 true H (fun K'=>zaw H (fun H K''=>ACalls tP zbN [t61,t62] H K'') (K' · H)) fun t63 H=>
 zac H (fun K'=>zah t59 t63 (.bool false) (K' · H)) fun t64=>
 zac H (fun K'=>K' t64 H) fun t4=>
 K t4 H)
 (zq8 t0 t3 H K))))
def zyh (t0 t1 : AV) (H : zaa) (K : Kt) : Prop:=
 zaF t1 H fun t3 H=>
 zaf 0 t3 fun t5=>
 zae false 1 t5 H fun t6=>
 zad .eql false t6 (.int .i64 6) fun t8=>
 zag t8
 (zgv t0 t3 t6 t8 H K)
 (zad .eql false t6 (.int .i64 11) fun t9=>
 zag t9
 (zgv t0 t3 t6 t9 H K)
 (zad .eql false t6 (.int .i64 12) fun t10=>
 zag t10
 (zgv t0 t3 t6 t10 H K)
 (zad .eql false t6 (.int .i64 14) fun t11=>
 zgv t0 t3 t6 t11 H K)))
theorem zMT {t0 t3 t69 t80 : AV} {H : zaa} {K : Kt} (h : HSc H → zyl t0 t3 t69 t80 H K) : zyk t0 t3 t69 t80 H K:=
 fun B w G a hH hF hd=>zbH (M:=zfC) _ _ _ _ (Eq.mpr (by kernel_rfl) (h hH.sc)) B w G a hH hF hd
theorem zMQ {t0 t3 : AV} {H : zaa} {K : Kt} (h : HSc H → zyj t0 t3 H K) : zq8 t0 t3 H K:=
 fun B w G a hH hF hd=>zbH (M:=zfC) _ _ _ _ (Eq.mpr (by kernel_rfl) (h hH.sc)) B w G a hH hF hd
theorem zMN {t0 t3 t6 t7 : AV} {H : zaa} {K : Kt} (h : HSc H → zyi t0 t3 t6 t7 H K) : zgv t0 t3 t6 t7 H K:=
 fun B w G a hH hF hd=>zbH (M:=zfC) _ _ _ _ (Eq.mpr (by kernel_rfl) (h hH.sc)) B w G a hH hF hd
theorem zMU {t0 t1 : AV} {H : zaa} {K : Kt} (h : HSc H → zyh t0 t1 H K) : ACalls tP znI [t0,t1] H K:=
 zax (M:=zfC) Try.func76 (c:=zfD) (by kernel_rfl) (fun hs=>Eq.mpr (by kernel_rfl) (h hs))
def zOe : Nat → List Bool
 | 200021=>rl false [0,2]
 | _=>[]
noncomputable def zOg : Code:=Try.f90.body.getD .skip
def zyM (t0 t1 : AV) (H : zaa) (K : Kt) : Prop:=
 zaF t1 H fun t3 H=>
 zae true 8 t3 H fun t8=>
 ACalls tP zcF [t8,(.int .i64 (-1)),(.int .i64 0)] H fun t9 H=>
 aUn .not t9 fun t10=>
 zab t10 false H (fun K'=>zaf 1 t3 (K' · H)) fun t12 H=>
 zab t10 false H (fun K'=>zae false 1 t12 H (K' · H)) fun t13 H=>
 zab t10 false H (fun K'=>zad .lss false t13 (.int .i64 0) (K' · H)) fun t14 H=>
 zah t10 (.bool true) t14 fun t15=>
 zag t15
 (K (.bool false) H)
 (zaf 0 t3 fun t16=>
 zae false 1 t16 H fun t17=>
 zad .eql false t17 (.int .i64 6) fun t19=>
 zag t19
 (zaf 5 t3 fun t20=>
 zaf 0 t20 fun t21=>
 zae false 1 t21 H fun t22=>
 zad .neq false t22 (.int .i64 5) fun t23=>
 zab t23 false H (fun K'=>zaf 1 t3 (K' · H)) fun t25 H=>
 zab t23 false H (fun K'=>zae false 1 t25 H (K' · H)) fun t26 H=>
 zab t23 false H (fun K'=>zad .geq false t26 (.int .i64 8) (K' · H)) fun t27 H=>
 zah t23 (.bool true) t27 fun t28=>
 zag t28
 (K (.bool false) H)
 (zac H (fun K'=>K' t0 H) fun t30=>
 zac H (fun K'=>za9 t30 (K' · H)) fun t31=>
 zac H (fun K'=>zaf 0 t31 (K' · H)) fun t32=>
 zac H (fun K'=>zaf 0 t32 (K' · H)) fun t33=>
 zac H (fun K'=>zak false 1 t33 H (K' · H)) fun t34=>
 zac H (fun K'=>zaf 5 t3 (K' · H)) fun t35=>
 zac H (fun K'=>zak true 3 t35 H (K' · H)) fun t36=>
 zac H (fun K'=>zaf 1 t3 (K' · H)) fun t37=>
 zac H (fun K'=>zak false 1 t37 H (K' · H)) fun t38=>
 zaw H (fun H K'=>ACalls tP zgX [t34,t36,t38] H K') fun t39=>
 zac H (fun K'=>K' t39 H) fun t29=>
 zac H (fun K'=>zbb t29 0 (K' · H)) fun t40=>
 zac H (fun K'=>zbb t29 1 (K' · H)) fun t41=>
 zac H (fun K'=>K' t40 H) fun t5=>
 zac H (fun K'=>K' t41 H) fun t6=>
 zab t6 true H (fun K'=>K' t0 H) fun t44 H=>
 zab t6 true H (fun K'=>zaf 2 t3 (K' · H)) fun t45 H=>
 zab t6 true H (fun K'=>zae false 1 t45 H (K' · H)) fun t46 H=>
 zab t6 true H (fun K'=>K' t5 H) fun t47 H=>
 zab t6 true H (fun K'=>ACalls tP zco [t44,t46,t47] H K') fun t48 H=>
 zah t6 t48 (.bool false) fun t49=>
 K t49 H))
 (zad .eql false t17 (.int .i64 14) fun t51=>
 zag t51
 (zac H (fun K'=>zaf 1 t3 (K' · H)) fun t52=>
 zac H (fun K'=>zak false 1 t52 H (K' · H)) fun t53=>
 zac H (fun K'=>zad .lss false t53 (.int .i64 1) (K' · H)) fun t54=>
 zac H (fun K'=>K' t54 H) fun t55=>
 zab t55 false H (fun K'=>zac H (fun K''=>zaf 1 t3 (K'' · H)) (K' · H)) fun t56 H=>
 zab t55 false H (fun K'=>zac H (fun K''=>zak false 1 t56 H (K'' · H)) (K' · H)) fun t57 H=>
 zab t55 false H (fun K'=>zac H (fun K''=>zad .gtr false t57 (.int .i64 8) (K'' · H)) (K' · H)) fun t58 H=>
 zac H (fun K'=>zah t55 (.bool true) t58 (K' · H)) fun t59=>
 zac H (fun K'=>K' t59 H) fun t60=>
 zab t60 false H (fun K'=>zac H (fun K''=>K'' t0 H) (K' · H)) fun t61 H=>
 zab t60 false H (fun K'=>zac H (fun K''=>zaf 2 t3 (K'' · H)) (K' · H)) fun t62 H=>
 zab t60 false H (fun K'=>zac H (fun K''=>zak false 1 t62 H (K'' · H)) (K' · H)) fun t63 H=>
 zab t60 false H (fun K'=>zaw H (fun H K''=>ACalls tP zcG [(.int .i64 1)] H K'') (K' · H)) fun t64 H=>
 zab t60 false H (fun K'=>zaw H (fun H K''=>ACalls tP zcG [(.int .i64 1)] H K'') (K' · H)) fun t65 H=>
 zab t60 false H (fun K'=>zac H (fun K''=>zav 3 [(.int .i64 0),(.int .i64 0),.snil] 2 [(0,t64),(1,t65)] (K'' · H)) (K' · H)) fun t66 H=>
 zab t60 false H (fun K'=>zaw H (fun H K''=>ACalls tP zco [t61,t63,t66] H K'') (K' · H)) fun t67 H=>
 zab t60 false H (fun K'=>zac H (fun K''=>aUn .not t67 (K'' · H)) (K' · H)) fun t68 H=>
 zac H (fun K'=>zah t60 (.bool true) t68 (K' · H)) fun t69=>
 zag t69
 (K (.bool false) H)
 (zaf 1 t3 fun t70=>
 zae false 1 t70 H fun t71=>
 zad .geq false t71 (.int .i64 6) fun t72=>
 zag t72
 (zac H (fun K'=>zaf 5 t3 (K' · H)) fun t73=>
 zac H (fun K'=>zak true 3 t73 H (K' · H)) fun t74=>
 zaw H (fun H K'=>ACalls tP zcG [(.int .i64 2)] H K') fun t75=>
 zaw H (fun H K'=>ACalls tP zbN [t74,t75] H K') fun t76=>
 zac H (fun K'=>K' t76 H) fun t4=>
 K t4 H)
 (zac H (fun K'=>zaf 5 t3 (K' · H)) fun t77=>
 zac H (fun K'=>zak true 3 t77 H (K' · H)) fun t78=>
 zaw H (fun H K'=>ACalls tP zcG [(.int .i64 1)] H K') fun t79=>
 zaw H (fun H K'=>ACalls tP zbN [t78,t79] H K') fun t80=>
 zac H (fun K'=>K' t80 H) fun t4=>
 K t4 H)))
 (zac H (fun K'=>zaf 1 t3 (K' · H)) fun t81=>
 zac H (fun K'=>zak false 1 t81 H (K' · H)) fun t82=>
 zac H (fun K'=>K' t0 H) fun t83=>
 zac H (fun K'=>za9 t83 (K' · H)) fun t84=>
 zac H (fun K'=>zaf 0 t84 (K' · H)) fun t85=>
 zac H (fun K'=>zaf 1 t85 (K' · H)) fun t86=>
 zac H (fun K'=>zak false 1 t86 H (K' · H)) fun t87=>
 zac H (fun K'=>zaj 1 t87 (K' · H)) fun t88=>
 zac H (fun K'=>zad .geq false t82 t88 (K' · H)) fun t89=>
 zag t89
 (K (.bool false) H)
 (zac H (fun K'=>K' t0 H) fun t90=>
 zac H (fun K'=>za9 t90 (K' · H)) fun t91=>
 zac H (fun K'=>zaf 0 t91 (K' · H)) fun t92=>
 zac H (fun K'=>zaf 1 t92 (K' · H)) fun t93=>
 zac H (fun K'=>zak false 1 t93 H (K' · H)) fun t94=>
 zac H (fun K'=>zaf 1 t3 (K' · H)) fun t95=>
 zac H (fun K'=>zak false 1 t95 H (K' · H)) fun t96=>
 zac H (fun K'=>zai 7 t94 t96 (K' · H)) fun t97=>
 zac H (fun K'=>zak true 7 t97 H (K' · H)) fun t98=>
 zaA [(.str []),.snil,.snil,(.int .i64 0),(.int .i64 0),.snil,(.int .i64 0)] H fun t7 H=>
 zar 7 t7 t98 H fun H=>
 zaf 0 t3 fun t99=>
 zae false 1 t99 H fun t100=>
 zad .eql false t100 (.int .i64 12) fun t101=>
 zag t101
 (zac H (fun K'=>zaf 0 t7 (K' · H)) fun t102=>
 zac H (fun K'=>zak false 1 t102 H (K' · H)) fun t103=>
 zac H (fun K'=>zad .neq false t103 (.str []) (K' · H)) fun t104=>
 zac H (fun K'=>K' t104 H) fun t105=>
 zab t105 true H (fun K'=>zac H (fun K''=>K'' t0 H) (K' · H)) fun t106 H=>
 zab t105 true H (fun K'=>zac H (fun K''=>zaf 2 t3 (K'' · H)) (K' · H)) fun t107 H=>
 zab t105 true H (fun K'=>zac H (fun K''=>zak false 1 t107 H (K'' · H)) (K' · H)) fun t108 H=>
 zab t105 true H (fun K'=>zac H (fun K''=>K'' t0 H) (K' · H)) fun t109 H=>
 zab t105 true H (fun K'=>zac H (fun K''=>zaf 1 t7 (K'' · H)) (K' · H)) fun t110 H=>
 zab t105 true H (fun K'=>zac H (fun K''=>zak false 1 t110 H (K'' · H)) (K' · H)) fun t111 H=>
 zab t105 true H (fun K'=>zaw H (fun H K''=>ACalls tP zee [t109,t111] H K'') (K' · H)) fun t112 H=>
 zab t105 true H (fun K'=>zaw H (fun H K''=>ACalls tP zco [t106,t108,t112] H K'') (K' · H)) fun t113 H=>
 zac H (fun K'=>zah t105 t113 (.bool false) (K' · H)) fun t114=>
 zac H (fun K'=>K' t114 H) fun t115=>
 zab t115 true H (fun K'=>zac H (fun K''=>zaf 5 t3 (K'' · H)) (K' · H)) fun t116 H=>
 zab t115 true H (fun K'=>zac H (fun K''=>zak true 3 t116 H (K'' · H)) (K' · H)) fun t117 H=>
 zab t115 true H (fun K'=>zac H (fun K''=>zaf 3 t7 (K'' · H)) (K' · H)) fun t118 H=>
 zab t115 true H (fun K'=>zac H (fun K''=>zak true 3 t118 H (K'' · H)) (K' · H)) fun t119 H=>
 zab t115 true H (fun K'=>zaw H (fun H K''=>ACalls tP zbN [t117,t119] H K'') (K' · H)) fun t120 H=>
 zac H (fun K'=>zah t115 t120 (.bool false) (K' · H)) fun t121=>
 zac H (fun K'=>K' t121 H) fun t4=>
 K t4 H)
 (zac H (fun K'=>K' t0 H) fun t122=>
 zac H (fun K'=>za9 t122 (K' · H)) fun t123=>
 zac H (fun K'=>zaf 4 t123 (K' · H)) fun t124=>
 zac H (fun K'=>zak false 1 t124 H (K' · H)) fun t125=>
 zac H (fun K'=>zaf 1 t3 (K' · H)) fun t126=>
 zac H (fun K'=>zak false 1 t126 H (K' · H)) fun t127=>
 zac H (fun K'=>zai 1 t125 t127 (K' · H)) fun t128=>
 zac H (fun K'=>zak false 1 t128 H (K' · H)) fun t129=>
 zac H (fun K'=>zad .add false t129 (.int .i64 1) (K' · H)) fun t130=>
 zac H (fun K'=>zai 1 t125 t127 (K' · H)) fun t131=>
 zar 1 t131 t130 H fun H=>
 zac H (fun K'=>zaf 0 t7 (K' · H)) fun t132=>
 zac H (fun K'=>zak false 1 t132 H (K' · H)) fun t133=>
 zac H (fun K'=>zad .eql false t133 (.str []) (K' · H)) fun t134=>
 zac H (fun K'=>K' t134 H) fun t135=>
 zab t135 true H (fun K'=>zac H (fun K''=>K'' t0 H) (K' · H)) fun t136 H=>
 zab t135 true H (fun K'=>zac H (fun K''=>zaf 2 t3 (K'' · H)) (K' · H)) fun t137 H=>
 zab t135 true H (fun K'=>zac H (fun K''=>zak false 1 t137 H (K'' · H)) (K' · H)) fun t138 H=>
 zab t135 true H (fun K'=>zac H (fun K''=>K'' t0 H) (K' · H)) fun t139 H=>
 zab t135 true H (fun K'=>zac H (fun K''=>zaf 2 t7 (K'' · H)) (K' · H)) fun t140 H=>
 zab t135 true H (fun K'=>zac H (fun K''=>zak false 1 t140 H (K'' · H)) (K' · H)) fun t141 H=>
 zab t135 true H (fun K'=>zbB .g true H (fun K''=>ACalls tP zee [t139,t141] H K'') K') fun t142 H=>
 zab t135 true H (fun K'=>zbB .g true H (fun K''=>ACalls tP zco [t136,t138,t142] H K'') K') fun t143 H=>
 zac H (fun K'=>zah t135 t143 (.bool false) (K' · H)) fun t144=>
 zac H (fun K'=>K' t144 H) fun t145=>
 zab t145 true H (fun K'=>zac H (fun K''=>zaf 5 t3 (K'' · H)) (K' · H)) fun t146 H=>
 zab t145 true H (fun K'=>zac H (fun K''=>zak true 3 t146 H (K'' · H)) (K' · H)) fun t147 H=>
 zab t145 true H (fun K'=>zac H (fun K''=>K'' t0 H) (K' · H)) fun t148 H=>
 zab t145 true H (fun K'=>zac H (fun K''=>zaf 1 t7 (K'' · H)) (K' · H)) fun t149 H=>
 zab t145 true H (fun K'=>zac H (fun K''=>zak false 1 t149 H (K'' · H)) (K' · H)) fun t150 H=>
 zab t145 true H (fun K'=>zbB .g true H (fun K''=>ACalls tP zee [t148,t150] H K'') K') fun t151 H=>
 zab t145 true H (fun K'=>zac H (fun K''=>zaf 3 t7 (K'' · H)) (K' · H)) fun t152 H=>
 zab t145 true H (fun K'=>zac H (fun K''=>zak true 3 t152 H (K'' · H)) (K' · H)) fun t153 H=>
 zab t145 true H (fun K'=>zac H (fun K''=>zav 3 [(.int .i64 0),(.int .i64 0),.snil] 1 [(0,t153)] (K'' · H)) (K' · H)) fun t154 H=>
 zab t145 true H (fun K'=>zbB .g false H (fun K''=>zaC zaB 3 40 t151 t154 H K'') K') fun t155 H=>
 zab t145 true H (fun K'=>zbB .g true H (fun K''=>ACalls tP zed [(.int .i64 9),t155] H K'') K') fun t156 H=>
 zab t145 true H (fun K'=>zbB .g true H (fun K''=>ACalls tP zbN [t147,t156] H K'') K') fun t157 H=>
 zac H (fun K'=>zah t145 t157 (.bool false) (K' · H)) fun t158=>
 zac H (fun K'=>K' t158 H) fun t4=>
 K t4 H)))))
theorem zOh {t0 t1 : AV} {H : zaa} {K : Kt} (h : HSc H → zyM t0 t1 H K) : ACalls tP znN [t0,t1] H K:=
 zax (M:=zOe) Try.func90 (c:=zOg) (by kernel_rfl) (fun hs=>Eq.mpr (by kernel_rfl) (h hs))
def zeS : Nat → List Bool
 | 19=>rl false [0,1,2,1,2,1,148,2,30]
 | 100013=>rl false [0,1,2,1,183]
 | 157011=>rl false [0,1,2,1,7,1,50,1,124]
 | _=>[]
noncomputable def zfG : Code:=Try.f97.body.getD .skip
noncomputable def zrI : List ResultVar:=Try.f97.results.toList
def zme (t0 t3 t6 t155 t156 : AV) : List AV:=t0 :: ux 2 (t3 :: ux 2 (t6 :: ux 148 (t155 :: t156 :: ux 30 [])))
def zOM : List Bool:=zeS 19
noncomputable def zOE : Code:=zan [1,1,1,1,1,0,1,0,0] zfG
def zOD (K : Kt) : AExit → List AV → zaa → Prop:=zao tP zeS [1,1,1,1,1,0,1,0] zfG (zau tP zrI K)
def zyW (t0 t3 t6 t155 t156 : AV) (H : zaa) (K : Kt) : Prop:=ALoop tP zOE (zOD K) (zme t0 t3 t6 t155 t156) H
def zrH (t0 t3 t6 t155 t156 : AV) (H : zaa) (K : Kt) (Kb19 : Lt) : Prop:=
 zad .lss false t156 t155 fun t157=>
 zag t157
 (zac H (fun K'=>K' t0 H) fun t160=>
 zac H (fun K'=>za9 t160 (K' · H)) fun t161=>
 zac H (fun K'=>zaf 0 t161 (K' · H)) fun t162=>
 zac H (fun K'=>zaf 0 t162 (K' · H)) fun t163=>
 zac H (fun K'=>zak false 1 t163 H (K' · H)) fun t164=>
 zac H (fun K'=>zak true 3 t6 H (K' · H)) fun t165=>
 zac H (fun K'=>K' t156 H) fun t166=>
 zaw H (fun H K'=>ACalls tP zgX [t164,t165,t166] H K') fun t167=>
 zac H (fun K'=>K' t167 H) fun t159=>
 zac H (fun K'=>zbb t159 0 (K' · H)) fun t168=>
 zac H (fun K'=>zbb t159 1 (K' · H)) fun t169=>
 zac H (fun K'=>K' t168 H) fun t8=>
 zac H (fun K'=>K' t169 H) fun t9=>
 aUn .not t9 fun t171=>
 zab t171 false H (fun K'=>K' t0 H) fun t173 H=>
 zab t171 false H (fun K'=>zaf 3 t3 (K' · H)) fun t174 H=>
 zab t171 false H (fun K'=>zae false 1 t174 H (K' · H)) fun t175 H=>
 zab t171 false H (fun K'=>K' t156 H) fun t176 H=>
 zab t171 false H (fun K'=>zai 1 t175 t176 (K' · H)) fun t177 H=>
 zab t171 false H (fun K'=>zae false 1 t177 H (K' · H)) fun t178 H=>
 zab t171 false H (fun K'=>K' t8 H) fun t179 H=>
 zab t171 false H (fun K'=>ACalls tP zco [t173,t178,t179] H K') fun t180 H=>
 zab t171 false H (fun K'=>aUn .not t180 (K' · H)) fun t181 H=>
 zah t171 (.bool true) t181 fun t182=>
 zag t182
 (K (.bool false) H)
 (zad .add false t156 (.int .i64 1) fun t183=>
 Kb19 (zme t0 t3 t6 t155 t183) H))
 (zae true 8 t3 H fun t185=>
 ACalls tP zdO [t0,t185,(.int .i64 0)] H fun t186 H=>
 K t186 H)
noncomputable def zOJ : Code:=zan [1,1] zfG
def zOI (K : Kt) : AExit → List AV → zaa → Prop:=zao tP zeS [1,1] zfG (zau tP zrI K)
def zyU (t0 t3 : AV) (H : zaa) (K : Kt) : Prop:=AWp tP zOJ (zOI K) (t0 :: ux 2 (t3 :: ux 183 [])) H
def zyV (t0 t3 : AV) (H : zaa) (K : Kt) : Prop:=
 zaf 2 t3 fun t118=>
 zae false 1 t118 H fun t119=>
 zaj 1 t119 fun t120=>
 zad .neq false t120 (.int .i64 1) fun t121=>
 zag t121
 (K (.bool false) H)
 (zac H (fun K'=>K' t0 H) fun t122=>
 zac H (fun K'=>za9 t122 (K' · H)) fun t123=>
 zac H (fun K'=>zaf 0 t123 (K' · H)) fun t124=>
 zac H (fun K'=>zaf 2 t124 (K' · H)) fun t125=>
 zac H (fun K'=>zak false 1 t125 H (K' · H)) fun t126=>
 zac H (fun K'=>zaf 2 t3 (K' · H)) fun t127=>
 zac H (fun K'=>zak false 1 t127 H (K' · H)) fun t128=>
 zac H (fun K'=>zai 1 t128 (.int .i64 0) (K' · H)) fun t129=>
 zac H (fun K'=>zak false 1 t129 H (K' · H)) fun t130=>
 zac H (fun K'=>zai 3 t126 t130 (K' · H)) fun t131=>
 zac H (fun K'=>zak true 3 t131 H (K' · H)) fun t132=>
 zaA [(.int .i64 0),(.int .i64 0),.snil] H fun t6 H=>
 zar 3 t6 t132 H fun H=>
 zac H (fun K'=>zaf 0 t6 (K' · H)) fun t133=>
 zac H (fun K'=>zak false 1 t133 H (K' · H)) fun t134=>
 zac H (fun K'=>zad .neq false t134 (.int .i64 5) (K' · H)) fun t135=>
 zac H (fun K'=>K' t135 H) fun t136=>
 zab t136 false H (fun K'=>zac H (fun K''=>zaf 4 t3 (K'' · H)) (K' · H)) fun t137 H=>
 zab t136 false H (fun K'=>zac H (fun K''=>zak false 1 t137 H (K'' · H)) (K' · H)) fun t138 H=>
 zab t136 false H (fun K'=>zac H (fun K''=>zaj 1 t138 (K'' · H)) (K' · H)) fun t139 H=>
 zab t136 false H (fun K'=>zac H (fun K''=>K'' t0 H) (K' · H)) fun t140 H=>
 zab t136 false H (fun K'=>zac H (fun K''=>za9 t140 (K'' · H)) (K' · H)) fun t141 H=>
 zab t136 false H (fun K'=>zac H (fun K''=>zaf 0 t141 (K'' · H)) (K' · H)) fun t142 H=>
 zab t136 false H (fun K'=>zac H (fun K''=>zaf 0 t142 (K'' · H)) (K' · H)) fun t143 H=>
 zab t136 false H (fun K'=>zac H (fun K''=>zak false 1 t143 H (K'' · H)) (K' · H)) fun t144 H=>
 zab t136 false H (fun K'=>zac H (fun K''=>zaf 1 t6 (K'' · H)) (K' · H)) fun t145 H=>
 zab t136 false H (fun K'=>zac H (fun K''=>zak false 1 t145 H (K'' · H)) (K' · H)) fun t146 H=>
 zab t136 false H (fun K'=>zac H (fun K''=>zai 3 t144 t146 (K'' · H)) (K' · H)) fun t147 H=>
 zab t136 false H (fun K'=>zac H (fun K''=>zaf 2 t147 (K'' · H)) (K' · H)) fun t148 H=>
 zab t136 false H (fun K'=>zac H (fun K''=>zak false 1 t148 H (K'' · H)) (K' · H)) fun t149 H=>
 zab t136 false H (fun K'=>zac H (fun K''=>zaj 1 t149 (K'' · H)) (K' · H)) fun t150 H=>
 zab t136 false H (fun K'=>zac H (fun K''=>zad .neq false t139 t150 (K'' · H)) (K' · H)) fun t151 H=>
 zac H (fun K'=>zah t136 (.bool true) t151 (K' · H)) fun t152=>
 zag t152
 (K (.bool false) H)
 (zaf 4 t3 fun t153=>
 zae false 1 t153 H fun t154=>
 zaj 1 t154 fun t155=>
 zyW t0 t3 t6 t155 (.int .i64 0) H K))
noncomputable def zOG : Code:=zan [1,0,1,0,1,1,1,1,1] zfG
def zOF (K : Kt) : AExit → List AV → zaa → Prop:=zao tP zeS [1,0,1,0,1,1,1,1,1] zfG (zau tP zrI K)
def zyS (t0 t3 t11 t62 : AV) (H : zaa) (K : Kt) : Prop:=AWp tP zOG (zOF K) (t0 :: ux 2 (t3 :: ux 7 (t11 :: ux 50 (t62 :: ux 124 [])))) H
def zyT (t0 t3 t11 t62 : AV) (H : zaa) (K : Kt) : Prop:=
 zag t62
 (zae true 8 t3 H fun t64=>
 ACalls tP zcF [t64,(.int .i64 1),(.int .i64 1)] H fun t65 H=>
 aUn .not t65 fun t66=>
 zag t66
 (K (.bool false) H)
 (zac H (fun K'=>K' t0 H) fun t67=>
 zac H (fun K'=>za9 t67 (K' · H)) fun t68=>
 zac H (fun K'=>zaf 0 t68 (K' · H)) fun t69=>
 zac H (fun K'=>zaf 2 t69 (K' · H)) fun t70=>
 zac H (fun K'=>zak false 1 t70 H (K' · H)) fun t71=>
 zac H (fun K'=>zaf 2 t3 (K' · H)) fun t72=>
 zac H (fun K'=>zak false 1 t72 H (K' · H)) fun t73=>
 zac H (fun K'=>zai 1 t73 (.int .i64 0) (K' · H)) fun t74=>
 zac H (fun K'=>zak false 1 t74 H (K' · H)) fun t75=>
 zac H (fun K'=>zai 3 t71 t75 (K' · H)) fun t76=>
 zac H (fun K'=>zak true 3 t76 H (K' · H)) fun t77=>
 zaA [(.int .i64 0),(.int .i64 0),.snil] H fun t5 H=>
 zar 3 t5 t77 H fun H=>
 zac H (fun K'=>zaf 0 t5 (K' · H)) fun t78=>
 zac H (fun K'=>zak false 1 t78 H (K' · H)) fun t79=>
 zac H (fun K'=>zad .eql false t79 (.int .i64 6) (K' · H)) fun t80=>
 zac H (fun K'=>K' t80 H) fun t81=>
 zab t81 true H (fun K'=>zac H (fun K''=>K'' t0 H) (K' · H)) fun t82 H=>
 zab t81 true H (fun K'=>zac H (fun K''=>zaf 3 t3 (K'' · H)) (K' · H)) fun t83 H=>
 zab t81 true H (fun K'=>zac H (fun K''=>zak false 1 t83 H (K'' · H)) (K' · H)) fun t84 H=>
 zab t81 true H (fun K'=>zac H (fun K''=>zai 1 t84 (.int .i64 0) (K'' · H)) (K' · H)) fun t85 H=>
 zab t81 true H (fun K'=>zac H (fun K''=>zak false 1 t85 H (K'' · H)) (K' · H)) fun t86 H=>
 zab t81 true H (fun K'=>zac H (fun K''=>zaf 2 t5 (K'' · H)) (K' · H)) fun t87 H=>
 zab t81 true H (fun K'=>zac H (fun K''=>zak false 1 t87 H (K'' · H)) (K' · H)) fun t88 H=>
 zab t81 true H (fun K'=>zaw H (fun H K''=>ACalls tP zco [t82,t86,t88] H K'') (K' · H)) fun t89 H=>
 zac H (fun K'=>zah t81 t89 (.bool false) (K' · H)) fun t90=>
 zac H (fun K'=>K' t90 H) fun t91=>
 zab t91 true H (fun K'=>zac H (fun K''=>K'' t0 H) (K' · H)) fun t92 H=>
 zab t91 true H (fun K'=>zac H (fun K''=>zak true 8 t3 H (K'' · H)) (K' · H)) fun t93 H=>
 zab t91 true H (fun K'=>zaw H (fun H K''=>ACalls tP zdO [t92,t93,(.int .i64 0)] H K'') (K' · H)) fun t94 H=>
 zac H (fun K'=>zah t91 t94 (.bool false) (K' · H)) fun t95=>
 zac H (fun K'=>K' t95 H) fun t4=>
 K t4 H))
 (zad .eql false t11 (.int .i64 9) fun t97=>
 zag t97
 (zac H (fun K'=>zak true 8 t3 H (K' · H)) fun t98=>
 zaw H (fun H K'=>ACalls tP zcF [t98,(.int .i64 1),(.int .i64 2)] H K') fun t99=>
 zac H (fun K'=>K' t99 H) fun t100=>
 zab t100 true H (fun K'=>zac H (fun K''=>zak true 8 t3 H (K'' · H)) (K' · H)) fun t101 H=>
 zab t100 true H (fun K'=>zac H (fun K''=>zav 1 [(.int .i64 0)] 2 [(0,(.int .i64 0)),(1,(.int .i64 0))] (K'' · H)) (K' · H)) fun t102 H=>
 zab t100 true H (fun K'=>zaw H (fun H K''=>ACalls tP zgY [t101,t102] H K'') (K' · H)) fun t103 H=>
 zac H (fun K'=>zah t100 t103 (.bool false) (K' · H)) fun t104=>
 zac H (fun K'=>K' t104 H) fun t105=>
 zab t105 true H (fun K'=>zac H (fun K''=>K'' t0 H) (K' · H)) fun t106 H=>
 zab t105 true H (fun K'=>zac H (fun K''=>zaf 2 t3 (K'' · H)) (K' · H)) fun t107 H=>
 zab t105 true H (fun K'=>zac H (fun K''=>zak false 1 t107 H (K'' · H)) (K' · H)) fun t108 H=>
 zab t105 true H (fun K'=>zaw H (fun H K''=>ACalls tP zcG [(.int .i64 2)] H K'') (K' · H)) fun t109 H=>
 zab t105 true H (fun K'=>zac H (fun K''=>zav 3 [(.int .i64 0),(.int .i64 0),.snil] 1 [(0,t109)] (K'' · H)) (K' · H)) fun t110 H=>
 zab t105 true H (fun K'=>zaw H (fun H K''=>ACalls tP zco [t106,t108,t110] H K'') (K' · H)) fun t111 H=>
 zac H (fun K'=>zah t105 t111 (.bool false) (K' · H)) fun t112=>
 zac H (fun K'=>K' t112 H) fun t113=>
 zab t113 true H (fun K'=>zac H (fun K''=>K'' t0 H) (K' · H)) fun t114 H=>
 zab t113 true H (fun K'=>zac H (fun K''=>zak true 8 t3 H (K'' · H)) (K' · H)) fun t115 H=>
 zab t113 true H (fun K'=>zaw H (fun H K''=>ACalls tP zdO [t114,t115,(.int .i64 0)] H K'') (K' · H)) fun t116 H=>
 zac H (fun K'=>zah t113 t116 (.bool false) (K' · H)) fun t117=>
 zac H (fun K'=>K' t117 H) fun t4=>
 K t4 H)
 (zyU t0 t3 H K))
def zmd (t0 t1 : AV) (H : zaa) (K : Kt) : Prop:=
 zaF t1 H fun t3 H=>
 zaf 0 t3 fun t10=>
 zae false 1 t10 H fun t11=>
 zad .eql false t11 (.int .i64 7) fun t13=>
 zag t13
 (zac H (fun K'=>zak true 8 t3 H (K' · H)) fun t14=>
 zaw H (fun H K'=>ACalls tP zcF [t14,(.int .i64 0),(.int .i64 2)] H K') fun t15=>
 zac H (fun K'=>K' t15 H) fun t16=>
 zab t16 true H (fun K'=>zac H (fun K''=>zak true 8 t3 H (K'' · H)) (K' · H)) fun t17 H=>
 zab t16 true H (fun K'=>zac H (fun K''=>zav 1 [(.int .i64 0)] 2 [(0,(.int .i64 0)),(1,(.int .i64 1))] (K'' · H)) (K' · H)) fun t18 H=>
 zab t16 true H (fun K'=>zaw H (fun H K''=>ACalls tP zgY [t17,t18] H K'') (K' · H)) fun t19 H=>
 zac H (fun K'=>zah t16 t19 (.bool false) (K' · H)) fun t20=>
 zac H (fun K'=>K' t20 H) fun t21=>
 zab t21 true H (fun K'=>zac H (fun K''=>K'' t0 H) (K' · H)) fun t22 H=>
 zab t21 true H (fun K'=>zac H (fun K''=>zaf 3 t3 (K'' · H)) (K' · H)) fun t23 H=>
 zab t21 true H (fun K'=>zac H (fun K''=>zak false 1 t23 H (K'' · H)) (K' · H)) fun t24 H=>
 zab t21 true H (fun K'=>zac H (fun K''=>zai 1 t24 (.int .i64 1) (K'' · H)) (K' · H)) fun t25 H=>
 zab t21 true H (fun K'=>zac H (fun K''=>zak false 1 t25 H (K'' · H)) (K' · H)) fun t26 H=>
 zab t21 true H (fun K'=>zac H (fun K''=>K'' t0 H) (K' · H)) fun t27 H=>
 zab t21 true H (fun K'=>zac H (fun K''=>zak true 8 t3 H (K'' · H)) (K' · H)) fun t28 H=>
 zab t21 true H (fun K'=>zaw H (fun H K''=>ACalls tP zix [t27,t28,(.int .i64 0)] H K'') (K' · H)) fun t29 H=>
 zab t21 true H (fun K'=>zac H (fun K''=>zav 3 [(.int .i64 0),(.int .i64 0),.snil] 1 [(0,t29)] (K'' · H)) (K' · H)) fun t30 H=>
 zab t21 true H (fun K'=>zaw H (fun H K''=>ACalls tP zco [t22,t26,t30] H K'') (K' · H)) fun t31 H=>
 zac H (fun K'=>zah t21 t31 (.bool false) (K' · H)) fun t32=>
 zac H (fun K'=>K' t32 H) fun t33=>
 zab t33 true H (fun K'=>zac H (fun K''=>K'' t0 H) (K' · H)) fun t34 H=>
 zab t33 true H (fun K'=>zac H (fun K''=>zak true 8 t3 H (K'' · H)) (K' · H)) fun t35 H=>
 zab t33 true H (fun K'=>zaw H (fun H K''=>ACalls tP zdO [t34,t35,(.int .i64 1)] H K'') (K' · H)) fun t36 H=>
 zac H (fun K'=>zah t33 t36 (.bool false) (K' · H)) fun t37=>
 zac H (fun K'=>K' t37 H) fun t4=>
 K t4 H)
 (zad .eql false t11 (.int .i64 24) fun t39=>
 zag t39
 (zac H (fun K'=>zak true 8 t3 H (K' · H)) fun t40=>
 zaw H (fun H K'=>ACalls tP zcF [t40,(.int .i64 0),(.int .i64 2)] H K') fun t41=>
 zac H (fun K'=>K' t41 H) fun t42=>
 zab t42 true H (fun K'=>zac H (fun K''=>zak true 8 t3 H (K'' · H)) (K' · H)) fun t43 H=>
 zab t42 true H (fun K'=>zac H (fun K''=>zav 1 [(.int .i64 0)] 2 [(0,(.int .i64 0)),(1,(.int .i64 1))] (K'' · H)) (K' · H)) fun t44 H=>
 zab t42 true H (fun K'=>zaw H (fun H K''=>ACalls tP zgY [t43,t44] H K'') (K' · H)) fun t45 H=>
 zac H (fun K'=>zah t42 t45 (.bool false) (K' · H)) fun t46=>
 zac H (fun K'=>K' t46 H) fun t47=>
 zab t47 true H (fun K'=>zac H (fun K''=>K'' t0 H) (K' · H)) fun t48 H=>
 zab t47 true H (fun K'=>zac H (fun K''=>zaf 3 t3 (K'' · H)) (K' · H)) fun t49 H=>
 zab t47 true H (fun K'=>zac H (fun K''=>zak false 1 t49 H (K'' · H)) (K' · H)) fun t50 H=>
 zab t47 true H (fun K'=>zac H (fun K''=>zai 1 t50 (.int .i64 1) (K'' · H)) (K' · H)) fun t51 H=>
 zab t47 true H (fun K'=>zac H (fun K''=>zak false 1 t51 H (K'' · H)) (K' · H)) fun t52 H=>
 zab t47 true H (fun K'=>zaw H (fun H K''=>ACalls tP zcG [(.int .i64 1)] H K'') (K' · H)) fun t53 H=>
 zab t47 true H (fun K'=>zac H (fun K''=>zav 3 [(.int .i64 0),(.int .i64 0),.snil] 1 [(0,t53)] (K'' · H)) (K' · H)) fun t54 H=>
 zab t47 true H (fun K'=>zaw H (fun H K''=>ACalls tP zco [t48,t52,t54] H K'') (K' · H)) fun t55 H=>
 zac H (fun K'=>zah t47 t55 (.bool false) (K' · H)) fun t56=>
 zac H (fun K'=>K' t56 H) fun t57=>
 zab t57 true H (fun K'=>zac H (fun K''=>K'' t0 H) (K' · H)) fun t58 H=>
 zab t57 true H (fun K'=>zac H (fun K''=>zak true 8 t3 H (K'' · H)) (K' · H)) fun t59 H=>
 zab t57 true H (fun K'=>zaw H (fun H K''=>ACalls tP zdO [t58,t59,(.int .i64 0)] H K'') (K' · H)) fun t60 H=>
 zac H (fun K'=>zah t57 t60 (.bool false) (K' · H)) fun t61=>
 zac H (fun K'=>K' t61 H) fun t4=>
 K t4 H)
 (zad .eql false t11 (.int .i64 8) fun t63=>
 zyS t0 t3 t11 t63 H K))
theorem zOL {t0 t3 t6 t155 t156 : AV} {H : zaa} {K : Kt} (Inv : Nat → AV → zaa → Prop) (n : Nat) (h0 : HSc H → Inv n t156 H)
  (round : Rd1 (fun t156=>zme t0 t3 t6 t155 t156) (fun t156=>fun H Kb19=>zrH t0 t3 t6 t155 t156 H K Kb19) H Inv) : zyW t0 t3 t6 t155 t156 H K:=
 lp1 (M:=zeS) zOM t156 (by kernel_rfl) Inv n h0 round
theorem zOK {t0 t3 : AV} {H : zaa} {K : Kt} (h : HSc H → zyV t0 t3 H K) : zyU t0 t3 H K:=
 fun B w G a hH hF hd=>zbH (M:=zeS) _ _ _ _ (Eq.mpr (by kernel_rfl) (h hH.sc)) B w G a hH hF hd
theorem zOH {t0 t3 t11 t62 : AV} {H : zaa} {K : Kt} (h : HSc H → zyT t0 t3 t11 t62 H K) : zyS t0 t3 t11 t62 H K:=
 fun B w G a hH hF hd=>zbH (M:=zeS) _ _ _ _ (Eq.mpr (by kernel_rfl) (h hH.sc)) B w G a hH hF hd
theorem zON {t0 t1 : AV} {H : zaa} {K : Kt} (h : HSc H → zmd t0 t1 H K) : ACalls tP znO [t0,t1] H K:=
 zax (M:=zeS) Try.func97 (c:=zfG) (by kernel_rfl) (fun hs=>Eq.mpr (by kernel_rfl) (h hs))
def zfH : Nat → List Bool
 | 180031=>rl false [0,1,2,1,2,3,2,1,85,1,46,1,30]
 | 168008=>rl false [0,1,2,1,2,4,69,1,95]
 | 100004=>rl false [0,1,2,1,171]
 | _=>[]
noncomputable def zfI : Code:=Try.f98.body.getD .skip
noncomputable def zrJ : List ResultVar:=Try.f98.results.toList
noncomputable def zOS : Code:=zan [1,1,1,1,1,1,1,0,1,0,1,1,1,1,1,1,1] zfI
def zOR (K : Kt) : AExit → List AV → zaa → Prop:=zao tP zfH [1,1,1,1,1,1,1,0,1,0,1,1,1,1,1,1,1] zfI (zau tP zrJ K)
def zy0 (t0 t3 t6 t7 t8 t11 t97 t144 : AV) (H : zaa) (K : Kt) : Prop:=AWp tP zOS (zOR K) (t0 :: ux 2 (t3 :: ux 2 (t6 :: t7 :: t8 :: ux 2 (t11 :: ux 85 (t97 :: ux 46 (t144 :: ux 30 [])))))) H
def zy1 (t0 t3 t6 t7 t8 t11 t97 t144 : AV) (H : zaa) (K : Kt) : Prop:=
 zag t144
 (zaf 5 t3 fun t146=>
 zae true 3 t146 H fun t147=>
 zae true 3 t6 H fun t148=>
 ACalls tP zbN [t147,t148] H fun t149 H=>
 K t149 H)
 (zad .eql false t97 (.int .i64 19) fun t151=>
 zag t151
 (zaf 5 t3 fun t152=>
 zae true 3 t152 H fun t153=>
 zae true 3 t11 H fun t154=>
 ACalls tP zbN [t153,t154] H fun t155 H=>
 K t155 H)
 (zad .eql false t97 (.int .i64 20) fun t157=>
 zag t157
 (zaf 5 t3 fun t158=>
 zae true 3 t158 H fun t159=>
 zae true 3 t8 H fun t160=>
 ACalls tP zbN [t159,t160] H fun t161 H=>
 K t161 H)
 (zaf 2 t3 fun t163=>
 zae false 1 t163 H fun t164=>
 zae true 3 t11 H fun t165=>
 zae true 3 t8 H fun t166=>
 zav 3 [(.int .i64 0),(.int .i64 0),.snil] 2 [(0,t165),(1,t166)] fun t167=>
 ACalls tP zco [t0,t164,t167] H fun t168 H=>
 zab t168 true H (fun K'=>zaf 5 t3 (K' · H)) fun t170 H=>
 zab t168 true H (fun K'=>zae true 3 t170 H (K' · H)) fun t171 H=>
 zab t168 true H (fun K'=>zae true 3 t7 H (K' · H)) fun t172 H=>
 zab t168 true H (fun K'=>ACalls tP zbN [t171,t172] H K') fun t173 H=>
 zah t168 t173 (.bool false) fun t174=>
 K t174 H)))
def zmf (t0 t3 t6 t7 t8 : AV) (H : zaa) (K : Kt) : Prop:=
 zac H (fun K'=>zak true 3 t8 H (K' · H)) fun t90=>
 zac H (fun K'=>zav 3 [(.int .i64 0),(.int .i64 0),.snil] 1 [(0,t90)] (K' · H)) fun t91=>
 zaw H (fun H K'=>ACalls tP zed [(.int .i64 7),t91] H K') fun t92=>
 zac H (fun K'=>zak true 3 t8 H (K' · H)) fun t93=>
 zac H (fun K'=>zav 3 [(.int .i64 0),(.int .i64 0),.snil] 1 [(0,t93)] (K' · H)) fun t94=>
 zaw H (fun H K'=>ACalls tP zed [(.int .i64 8),t94] H K') fun t95=>
 zaA [(.int .i64 0),(.int .i64 0),.snil] H fun t10 H=>
 zaA [(.int .i64 0),(.int .i64 0),.snil] H fun t11 H=>
 zar 3 t10 t92 H fun H=>
 zar 3 t11 t95 H fun H=>
 zaf 0 t3 fun t96=>
 zae false 1 t96 H fun t97=>
 zad .eql false t97 (.int .i64 15) fun t99=>
 zag t99
 (zaf 2 t3 fun t101=>
 zae false 1 t101 H fun t102=>
 zae true 3 t6 H fun t103=>
 zae true 3 t8 H fun t104=>
 zav 3 [(.int .i64 0),(.int .i64 0),.snil] 2 [(0,t103),(1,t104)] fun t105=>
 ACalls tP zco [t0,t102,t105] H fun t106 H=>
 zab t106 true H (fun K'=>zaf 5 t3 (K' · H)) fun t108 H=>
 zab t106 true H (fun K'=>zae true 3 t108 H (K' · H)) fun t109 H=>
 zab t106 true H (fun K'=>zae true 3 t10 H (K' · H)) fun t110 H=>
 zab t106 true H (fun K'=>ACalls tP zbN [t109,t110] H K') fun t111 H=>
 zah t106 t111 (.bool false) fun t112=>
 K t112 H)
 (zad .eql false t97 (.int .i64 16) fun t114=>
 zag t114
 (zaf 2 t3 fun t116=>
 zae false 1 t116 H fun t117=>
 zae true 3 t10 H fun t118=>
 zae true 3 t6 H fun t119=>
 zav 3 [(.int .i64 0),(.int .i64 0),.snil] 2 [(0,t118),(1,t119)] fun t120=>
 ACalls tP zco [t0,t117,t120] H fun t121 H=>
 zab t121 true H (fun K'=>zaf 5 t3 (K' · H)) fun t123 H=>
 zab t121 true H (fun K'=>zae true 3 t123 H (K' · H)) fun t124 H=>
 zab t121 true H (fun K'=>zae true 3 t8 H (K' · H)) fun t125 H=>
 zab t121 true H (fun K'=>ACalls tP zbN [t124,t125] H K') fun t126 H=>
 zah t121 t126 (.bool false) fun t127=>
 K t127 H)
 (zad .eql false t97 (.int .i64 17) fun t129=>
 zag t129
 (zaf 2 t3 fun t131=>
 zae false 1 t131 H fun t132=>
 zae true 3 t10 H fun t133=>
 zae true 3 t6 H fun t134=>
 zae true 3 t8 H fun t135=>
 zav 3 [(.int .i64 0),(.int .i64 0),.snil] 3 [(0,t133),(1,t134),(2,t135)] fun t136=>
 ACalls tP zco [t0,t132,t136] H fun t137 H=>
 zab t137 true H (fun K'=>zaf 5 t3 (K' · H)) fun t139 H=>
 zab t137 true H (fun K'=>zae true 3 t139 H (K' · H)) fun t140 H=>
 zab t137 true H (fun K'=>zae true 3 t7 H (K' · H)) fun t141 H=>
 zab t137 true H (fun K'=>ACalls tP zbN [t140,t141] H K') fun t142 H=>
 zah t137 t142 (.bool false) fun t143=>
 K t143 H)
 (zad .eql false t97 (.int .i64 18) fun t145=>
 zy0 t0 t3 t6 t7 t8 t11 t97 t145 H K)))
def zeT (t0 t3 t6 t7 t8 : AV) (H : zaa) (K : Kt) : Prop:=
 zmf t0 t3 t6 t7 t8 H K
noncomputable def zOV : Code:=zan [1,1,1,1,1,0,1,1,0,1,1,1,1,1] zfI
def zOU (K : Kt) : AExit → List AV → zaa → Prop:=zao tP zfH [1,1,1,1,1,0,1,1,0,1,1,1,1,1] zfI (zau tP zrJ K)
def zh1 (t0 t3 t6 t7 t8 t9 t79 : AV) (H : zaa) (K : Kt) : Prop:=AWp tP zOV (zOU K) (t0 :: ux 2 (t3 :: ux 2 (t6 :: t7 :: t8 :: t9 :: ux 69 (t79 :: ux 95 [])))) H
def zy2 (t0 t3 t6 t7 t8 t9 t79 : AV) (H : zaa) (K : Kt) : Prop:=
 zag t79
 (zaf 0 t9 fun t83=>
 zae false 1 t83 H fun t84=>
 zad .neq false t84 (.int .i64 7) fun t85=>
 zag t85
 (K (.bool false) H)
 (zaf 2 t9 fun t86=>
 zae false 1 t86 H fun t87=>
 zai 3 t87 (.int .i64 0) fun t88=>
 zae true 3 t88 H fun t89=>
 zar 3 t8 t89 H fun H=>
 zeT t0 t3 t6 t7 t8 H K))
 (zaf 0 t9 fun t56=>
 zae false 1 t56 H fun t57=>
 zad .neq false t57 (.int .i64 8) fun t58=>
 zag t58
 (K (.bool false) H)
 (zaf 2 t9 fun t59=>
 zae false 1 t59 H fun t60=>
 zai 3 t60 (.int .i64 0) fun t61=>
 zae true 3 t61 H fun t62=>
 zar 3 t8 t62 H fun H=>
 zeT t0 t3 t6 t7 t8 H K))
noncomputable def zOP : Code:=zan [1,1,1] zfI
def zOO (K : Kt) : AExit → List AV → zaa → Prop:=zao tP zfH [1,1,1] zfI (zau tP zrJ K)
def zyY (t0 t3 : AV) (H : zaa) (K : Kt) : Prop:=AWp tP zOP (zOO K) (t0 :: ux 2 (t3 :: ux 171 [])) H
def zyZ (t0 t3 : AV) (H : zaa) (K : Kt) : Prop:=
 ACalls tP zcG [(.int .i64 1)] H fun t41 H=>
 ACalls tP zcG [(.int .i64 3)] H fun t42 H=>
 zaA [(.int .i64 0),(.int .i64 0),.snil] H fun t6 H=>
 zaA [(.int .i64 0),(.int .i64 0),.snil] H fun t7 H=>
 zar 3 t6 t41 H fun H=>
 zar 3 t7 t42 H fun H=>
 zaA [(.int .i64 0),(.int .i64 0),.snil] H fun t8 H=>
 zac H (fun K'=>K' t0 H) fun t43=>
 zac H (fun K'=>za9 t43 (K' · H)) fun t44=>
 zac H (fun K'=>zaf 0 t44 (K' · H)) fun t45=>
 zac H (fun K'=>zaf 2 t45 (K' · H)) fun t46=>
 zac H (fun K'=>zak false 1 t46 H (K' · H)) fun t47=>
 zac H (fun K'=>zaf 2 t3 (K' · H)) fun t48=>
 zac H (fun K'=>zak false 1 t48 H (K' · H)) fun t49=>
 zac H (fun K'=>zai 1 t49 (.int .i64 0) (K' · H)) fun t50=>
 zac H (fun K'=>zak false 1 t50 H (K' · H)) fun t51=>
 zac H (fun K'=>zai 3 t47 t51 (K' · H)) fun t52=>
 zac H (fun K'=>zak true 3 t52 H (K' · H)) fun t53=>
 zaA [(.int .i64 0),(.int .i64 0),.snil] H fun t9 H=>
 zar 3 t9 t53 H fun H=>
 zaf 0 t3 fun t54=>
 zae false 1 t54 H fun t55=>
 zad .eql false t55 (.int .i64 15) fun t64=>
 zag t64
 (zac H (fun K'=>K' t0 H) fun t65=>
 zac H (fun K'=>za9 t65 (K' · H)) fun t66=>
 zac H (fun K'=>zaf 0 t66 (K' · H)) fun t67=>
 zac H (fun K'=>zaf 2 t67 (K' · H)) fun t68=>
 zac H (fun K'=>zak false 1 t68 H (K' · H)) fun t69=>
 zac H (fun K'=>zaf 2 t3 (K' · H)) fun t70=>
 zac H (fun K'=>zak false 1 t70 H (K' · H)) fun t71=>
 zac H (fun K'=>zai 1 t71 (.int .i64 1) (K' · H)) fun t72=>
 zac H (fun K'=>zak false 1 t72 H (K' · H)) fun t73=>
 zac H (fun K'=>zai 3 t69 t73 (K' · H)) fun t74=>
 zac H (fun K'=>zak true 3 t74 H (K' · H)) fun t75=>
 zar 3 t8 t75 H fun H=>
 zeT t0 t3 t6 t7 t8 H K)
 (zad .eql false t55 (.int .i64 19) fun t77=>
 zag t77
 (zae true 3 t9 H fun t78=>
 zar 3 t8 t78 H fun H=>
 zeT t0 t3 t6 t7 t8 H K)
 (zad .eql false t55 (.int .i64 16) fun t80=>
 zag t80
 (zh1 t0 t3 t6 t7 t8 t9 t80 H K)
 (zad .eql false t55 (.int .i64 17) fun t81=>
 zag t81
 (zh1 t0 t3 t6 t7 t8 t9 t81 H K)
 (zad .eql false t55 (.int .i64 18) fun t82=>
 zh1 t0 t3 t6 t7 t8 t9 t82 H K))))
def zyX (t0 t1 : AV) (H : zaa) (K : Kt) : Prop:=
 zaF t1 H fun t3 H=>
 zav 1 [(.int .i64 0)] 22 [(15,(.int .i64 2)),(16,(.int .i64 2)),(17,(.int .i64 3)),(18,(.int .i64 1)),(19,(.int .i64 1)),(20,(.int .i64 1)),(21,(.int .i64 2))] fun t12=>
 zac H (fun K'=>zaf 0 t3 (K' · H)) fun t13=>
 zac H (fun K'=>zak false 1 t13 H (K' · H)) fun t14=>
 zac H (fun K'=>zad .lss false t14 (.int .i64 0) (K' · H)) fun t15=>
 zac H (fun K'=>K' t15 H) fun t16=>
 zab t16 false H (fun K'=>zac H (fun K''=>zaf 0 t3 (K'' · H)) (K' · H)) fun t17 H=>
 zab t16 false H (fun K'=>zac H (fun K''=>zak false 1 t17 H (K'' · H)) (K' · H)) fun t18 H=>
 zab t16 false H (fun K'=>zac H (fun K''=>K'' t12 H) (K' · H)) fun t19 H=>
 zab t16 false H (fun K'=>zac H (fun K''=>zaj 1 t19 (K'' · H)) (K' · H)) fun t20 H=>
 zab t16 false H (fun K'=>zac H (fun K''=>zad .geq false t18 t20 (K'' · H)) (K' · H)) fun t21 H=>
 zac H (fun K'=>zah t16 (.bool true) t21 (K' · H)) fun t22=>
 zac H (fun K'=>K' t22 H) fun t23=>
 zab t23 false H (fun K'=>zac H (fun K''=>K'' t12 H) (K' · H)) fun t24 H=>
 zab t23 false H (fun K'=>zac H (fun K''=>zaf 0 t3 (K'' · H)) (K' · H)) fun t25 H=>
 zab t23 false H (fun K'=>zac H (fun K''=>zak false 1 t25 H (K'' · H)) (K' · H)) fun t26 H=>
 zab t23 false H (fun K'=>zac H (fun K''=>zai 1 t24 t26 (K'' · H)) (K' · H)) fun t27 H=>
 zab t23 false H (fun K'=>zac H (fun K''=>zak false 1 t27 H (K'' · H)) (K' · H)) fun t28 H=>
 zab t23 false H (fun K'=>zac H (fun K''=>zad .eql false t28 (.int .i64 0) (K'' · H)) (K' · H)) fun t29 H=>
 zac H (fun K'=>zah t23 (.bool true) t29 (K' · H)) fun t30=>
 zac H (fun K'=>K' t30 H) fun t31=>
 zab t31 false H (fun K'=>zac H (fun K''=>zak true 8 t3 H (K'' · H)) (K' · H)) fun t32 H=>
 zab t31 false H (fun K'=>zac H (fun K''=>K'' t12 H) (K' · H)) fun t33 H=>
 zab t31 false H (fun K'=>zac H (fun K''=>zaf 0 t3 (K'' · H)) (K' · H)) fun t34 H=>
 zab t31 false H (fun K'=>zac H (fun K''=>zak false 1 t34 H (K'' · H)) (K' · H)) fun t35 H=>
 zab t31 false H (fun K'=>zac H (fun K''=>zai 1 t33 t35 (K'' · H)) (K' · H)) fun t36 H=>
 zab t31 false H (fun K'=>zac H (fun K''=>zak false 1 t36 H (K'' · H)) (K' · H)) fun t37 H=>
 zab t31 false H (fun K'=>zaw H (fun H K''=>ACalls tP zcF [t32,t37,(.int .i64 0)] H K'') (K' · H)) fun t38 H=>
 zab t31 false H (fun K'=>zac H (fun K''=>aUn .not t38 (K'' · H)) (K' · H)) fun t39 H=>
 zac H (fun K'=>zah t31 (.bool true) t39 (K' · H)) fun t40=>
 zag t40
 (K (.bool false) H)
 (zyY t0 t3 H K)
theorem zOT {t0 t3 t6 t7 t8 t11 t97 t144 : AV} {H : zaa} {K : Kt} (h : HSc H → zy1 t0 t3 t6 t7 t8 t11 t97 t144 H K) : zy0 t0 t3 t6 t7 t8 t11 t97 t144 H K:=
 fun B w G a hH hF hd=>zbH (M:=zfH) _ _ _ _ (Eq.mpr (by kernel_rfl) (h hH.sc)) B w G a hH hF hd
theorem zOW {t0 t3 t6 t7 t8 t9 t79 : AV} {H : zaa} {K : Kt} (h : HSc H → zy2 t0 t3 t6 t7 t8 t9 t79 H K) : zh1 t0 t3 t6 t7 t8 t9 t79 H K:=
 fun B w G a hH hF hd=>zbH (M:=zfH) _ _ _ _ (Eq.mpr (by kernel_rfl) (h hH.sc)) B w G a hH hF hd
theorem zOQ {t0 t3 : AV} {H : zaa} {K : Kt} (h : HSc H → zyZ t0 t3 H K) : zyY t0 t3 H K:=
 fun B w G a hH hF hd=>zbH (M:=zfH) _ _ _ _ (Eq.mpr (by kernel_rfl) (h hH.sc)) B w G a hH hF hd
theorem zOX {t0 t1 : AV} {H : zaa} {K : Kt} (h : HSc H → zyX t0 t1 H K) : ACalls tP znP [t0,t1] H K:=
 zax (M:=zfH) Try.func98 (c:=zfI) (by kernel_rfl) (fun hs=>Eq.mpr (by kernel_rfl) (h hs))
end Go.Proofs.Ytkdmpbhbmmhijaa
namespace Go.Proofs.Ytkdmpbhbmmhijaa
open Go Go.Abs
set_option maxRecDepth 8000
def vty (c : Cor) (v : Int) : VT:=c.vars.getD v.toNat (.mk 0 0 [])
def zam (c : Cor) (l : List Int) : List VT:=l.map (vty c)
def inV (c : Cor) (l : List Int) : Prop:=∀ x ∈ l,0 ≤ x ∧ x < (c.vars.length : Int)
def ckB (c : Cor) (u : Nat) : AB:=.cells [.sl (c.data.map Dat.cs) .none,.sl (c.codes.map Cod.cs) .none,.sl (VT.css c.vars) .none,.sl (c.exprs.map CEx.cs) .none,.ms u 0 c.codes.length c.codes.length]
theorem zfl {c : Cor} {v : Nat} (h : v < c.vars.length) : vty c v = c.vars[v]:=by simp [vty,h]
theorem zox {c : Cor} (hc : zaP c) (v : Int) : (vty c v).nodes ≤ 250:=by
 obtain ⟨_,_,_,⟨_,k5⟩,_⟩:=hc
 unfold vty
 rw [List.getD_eq_getElem?_getD]
 by_cases h : v.toNat < c.vars.length
 ·rw [List.getElem?_eq_getElem h]; exact k5 _ (List.getElem_mem h)
 ·rw [List.getElem?_eq_none (by omega)]; simp [VT.nodes,VT.nodesL]
theorem zuM {c : Cor} {l : List Int} {i : Nat} (h : i < l.length) : VT.css (zam c (l.take (i + 1))) = VT.css (zam c (l.take i)) ++ [(vty c l[i]).cs]:=by
 rw [zam,zbX h,List.map_append,VT.css_map,VT.css_map,List.map_append]; rfl
theorem zos {c : Cor} {u kid : Nat} {H : zaa} (hk : H[kid]? = some (ckB c u)) {l : List Int} (hl : l.length ≤ 1000) (hr : inV c l) (K : AV → zaa → Prop) (hK : HSc H → K (zbr (VT.css (zam c l)) H.length) (H ++ zbu zaB 3 l.length)) :
  ACalls tP zee [.ptr kid 0,.sl (ints l) .none] H K:=by
 refine zOB fun hs=>?_
 have hkl:=zb0 hk
 simp [zyQ]
 refine zOz (Inv:=fun q t5 t10 H'=>∃ i : Nat,i ≤ l.length ∧ q = l.length - i ∧ t10 = .int .i64 i ∧ t5 = zbr (VT.css (zam c (l.take i))) H.length ∧ H' = H ++ zbu zaB 3 i) l.length ?_ ?_
 ·intro _; exact ⟨0,by omega,by omega,rfl,rfl,by simp [zbu]⟩
 ·rintro q t5 t10 H' ⟨i,hi,rfl,rfl,rfl,rfl⟩ hsc hlen hsF Kb hKb
  by_cases hlt : i < l.length
  ·have hrr:=hr _ (List.getElem_mem hlt)
   obtain ⟨e,he⟩ : ∃ e : Nat,l[i] = e:=⟨(l[i]).toNat,by omega⟩
   have hen : e < c.vars.length:=by omega
   have hg : (H ++ zbu zaB 3 i)[kid]? = some (ckB c u):=zaO hk
   have hts:=zuM (c:=c) hlt
   obtain ⟨x,y,z,hv,hx,hy,hz⟩:=vt3 c.vars[e]
   simp [zrF,hlt,ints,he,hg,ckB,hen,hv]
   rw [← hv,zbP]
   refine zh8 (H0:=H) (n:=i) (by simp [zam]; omega) rfl rfl (by simp) (by simp [zam]; omega) (by simp [zam]; omega) ?_
   rw [he,zfl hen] at hts
   rw [← hts]
   rw [zaq (by omega) (by omega)]
   refine hKb _ _ ⟨l.length - (i + 1),by omega,Back.here (by simp) ?_ ?_ ⟨_,_,rfl,i + 1,by omega,rfl,by simp,rfl,rfl⟩⟩
   ·exact hs.append (by simp [AB.sc,zbu])
   ·have : (zbr (VT.css (zam c (l.take (i + 1)))) H.length).scA (H.length + 1) = true:=zmv _ (.inr (by omega))
    have h2 : (zbr (VT.css (zam c (l.take (i + 1)))) H.length).sc (H.length + 1) = true:=by
     revert this; generalize VT.css (zam c (l.take (i + 1))) = es; cases es <;> simp [zbr,AV.sc,AV.scV,AV.scA]
    simp [zmc,AV.sc,AV.scV,AV.scA,AV.scB,zbu] at h2 ⊢
    exact ⟨by omega,h2⟩
  ·obtain rfl : i = l.length:=by omega
   rw [List.take_length]
   simpa [zrF] using hK hs
theorem zjd {c : Cor} {u kid : Nat} {H : zaa} (hk : H[kid]? = some (ckB c u)) {l : List Int} (hl : l.length ≤ 1000) (hr : inV c l) (K : AV → zaa → Prop) (hK : HSc H → K (.sl (VT.css (zam c l)) .none) H) :
  ACalls tP zee [.ptr kid 0,.sl (ints l) .none] H K:=by
 refine ACalls.out ?_
 exact zos hk hl hr _ fun hs=>Out.one hs (.atom (zmw _ _)) rfl rfl (hK hs)
theorem zaR (c : Cor) (l : List Int) : (zam c l).length = l.length:=by simp [zam]
theorem zfS {c : Cor} (hc : zaP c) {u kid : Nat} {H : zaa} (hk : H[kid]? = some (ckB c u)) {l : List Int} (hl : l.length ≤ 1000) (hr : inV c l) (ts : List VT) (K : AV → zaa → Prop) (hK : K (.bool (VT.sameL (zam c l) ts)) H) :
  ACalls tP zco [.ptr kid 0,.sl (ints l) .none,.sl (VT.css ts) .none] H K:=by
 refine ACalls.out (zOt fun hs=>?_)
 simp [zyO]
 refine zjd hk hl hr _ fun _=>?_
 refine zsT VT.same _ (fun _=>rfl) (zam c l) ts (fun a ha b H K hK=>?_) (by rw [zaR]; omega) _ _ ?_
 ·simp only [aCallV,zss,List.append_nil]
  have : a.nodes ≤ 250:=by
   obtain ⟨v,_,rfl⟩:=List.mem_map.1 ha
   exact zox hc v
  exact zlG _ _ _ (Nat.le_refl _) (by omega) _ _ hK
 ·rw [zmV]
  have h3 : Out H.length K (.bool (VT.sameL (zam c l) ts)) H:=Out.bool (H2:=H) (J:=[]) (by simp) (Nat.le_refl _) hs hK
  exact h3
def zaD (e : CEx) (v k : Int) : Bool:=(decide (v < 0) || (e.vars.length : Int) == v) && (e.kids.length : Int) == k
theorem zcV (e : CEx) (v k : Int) (H : zaa) (K : AV → zaa → Prop) (hK : K (.bool (zaD e v k)) H) : ACalls tP zcF [.agg e.cs,.int .i64 v,.int .i64 k] H K:=by
 refine ACalls.out (zOk fun hs=>?_)
 have hO : ∀ J,Out H.length K (.bool (zaD e v k)) (H ++ J):=fun J=>Out.bool rfl (Nat.le_refl _) hs hK
 unfold zaD at hO
 by_cases h1 : v < 0
 ·simp [zma,CEx.cs,h1] at hO ⊢; exact hO _
 ·cases h2 : ((e.vars.length : Int) == v) with
  | true=>
   simp [zma,CEx.cs,h1,h2] at hO ⊢; exact hO _
  | false=>
   simp [zma,CEx.cs,h1,h2] at hO ⊢; exact hO _
theorem zc9 (k : Int) (H : zaa) (K : AV → zaa → Prop) (hK : K (.agg (VT.mk k 0 []).cs) H) : ACalls tP zcG [.int .i64 k] H K:=by
 refine ACalls.out (zOn fun hs=>?_)
 simp [zyN,zaL,zbD]
 exact znY (ks:=[]) (id:=0) hs hK
theorem zm1 (k : Int) (ts : List VT) (H : zaa) (K : AV → zaa → Prop) (hK : K (.agg (VT.mk k 0 ts).cs) H) : ACalls tP zed [.int .i64 k,.sl (VT.css ts) .none] H K:=by
 refine ACalls.out (zOw fun hs=>?_)
 simp [zyP,zaL,zbD]
 exact Out.at rfl (Nat.le_refl _) hs (WkV.agg (ds:=[.int .i64 k,.int .i64 0,.sl (VT.css ts) .none]) ⟨.refl _,.refl _,.refl _,trivial⟩) rfl (by simp [AV.scV,AV.scA,AV.scB]) (by simpa [VT.cs] using hK)
theorem zuZ (n m : Int) (h0 : 0 ≤ m) (h1 : m ≤ 1000000) (H : zaa) (K : AV → zaa → Prop) (hK : K (.bool (decide (-m ≤ n) && decide (n ≤ m))) H) : ACalls tP ziU [.int .i64 n,.int .i64 m] H K:=by
 refine zOq fun hs=>?_
 have hw : IntKind.i64.wrap (-m) = -m:=zaq (by omega) (by omega)
 by_cases h : -m ≤ n
 ·simp [zrE,hw,h] at hK ⊢; exact hK
 ·simp [zrE,hw,h] at hK ⊢; exact hK
theorem zdM {c : Cor} (hc : zaP c) {u kid : Nat} {H : zaa} (hk : H[kid]? = some (ckB c u)) {l : List Int} (hl : l.length ≤ 1000) (hr : inV c l) (ts : List VT) {es : List (List AV)} {tok : Tok} (he : es = VT.css ts) (K : AV → zaa → Prop) (hK : K (.bool (VT.sameL (zam c l) ts)) H) :
  ACalls tP zco [.ptr kid 0,.sl (ints l) .none,.sl es tok] H K:=by
 subst he
 exact ACalls.wk (zfS hc hk hl hr ts K hK) ⟨.rfl',.rfl',.atom (.sl _ _),trivial⟩
theorem zs4 (k : Int) (ts : List VT) {es : List (List AV)} {tok : Tok} (he : es = VT.css ts) (H : zaa) (K : AV → zaa → Prop) (hK : K (.agg (VT.mk k 0 ts).cs) H) : ACalls tP zed [.int .i64 k,.sl es tok] H K:=by
 subst he
 exact ACalls.wk (zm1 k ts H K hK) ⟨.rfl',.atom (.sl _ _),trivial⟩
theorem zs3 (k : Int) (ts : List VT) {es : List (List AV)} {id : Nat} (he : es = VT.css ts) (H : zaa) (K : AV → zaa → Prop) (hK : K (.agg (VT.mk k 0 ts).cs) H) : ACalls tP zed [.int .i64 k,zbr es id] H K:=by
 subst he
 exact ACalls.wk (zm1 k ts H K hK) ⟨.rfl',.atom (zmw _ _),trivial⟩
theorem zd9 {v u : VT} {k : AV → Prop} : zav 3 [.int .i64 0,.int .i64 0,.snil] 2 [(0,.agg v.cs),(1,.agg u.cs)] k = k (.sl [v.cs,u.cs] .full):=by
 cases v; cases u
 exact propext Iff.rfl
theorem zzK {v u w : VT} {k : AV → Prop} : zav 3 [.int .i64 0,.int .i64 0,.snil] 3 [(0,.agg v.cs),(1,.agg u.cs),(2,.agg w.cs)] k = k (.sl [v.cs,u.cs,w.cs] .full):=by
 cases v; cases u; cases w
 exact propext Iff.rfl
theorem zmD {m n : Int} {k : AV → Prop} : zav 1 [.int .i64 0] 2 [(0,.int .i64 m),(1,.int .i64 n)] k = k (.sl (ints [m,n]) .full):=propext Iff.rfl
theorem ex3 (e : CEx) : ∃ x y z,e.ty.cs = [x,y,z] ∧ x.known = true ∧ y.known = true ∧ z.known = true ∧ e.cs = [.int .i64 e.op,.int .i64 e.num,.sl (ints e.vars) .none,.sl (rows e.binds) .none,.sl (ints e.kids) .none,x,y,z]:=by
 obtain ⟨x,y,z,hv,hx,hy,hz⟩:=vt3 e.ty
 exact ⟨x,y,z,hv,hx,hy,hz,by rw [CEx.cs,hv]⟩
def ety (c : Cor) (k : Int) : VT:=match c.exprs[k.toNat]? with | some e=>e.ty | none=>.mk 0 0 []
def inE (c : Cor) (l : List Int) : Prop:=∀ x ∈ l,0 ≤ x ∧ x < (c.exprs.length : Int)
theorem zmW {c : Cor} {k : Nat} (h : k < c.exprs.length) : ety c k = (c.exprs[k]).ty:=by simp [ety,h]
theorem zsU {c : Cor} (hc : zaP c) (k : Int) : (ety c k).nodes ≤ 250:=by
 obtain ⟨_,_,_,_,_,k7⟩:=hc
 unfold ety
 by_cases h : k.toNat < c.exprs.length
 ·rw [List.getElem?_eq_getElem h]; exact (k7 _ (List.getElem_mem h)).2.2.2.1
 ·rw [List.getElem?_eq_none (by omega)]; simp [VT.nodes,VT.nodesL]
theorem ztk {c : Cor} {u kid : Nat} {H : zaa} (hk : H[kid]? = some (ckB c u)) (e : CEx) (hr : inE c e.kids) (i : Nat) (hi : i < e.kids.length) (K : AV → zaa → Prop) (hK : K (.agg (ety c e.kids[i]).cs) H) :
  ACalls tP zix [.ptr kid 0,.agg e.cs,.int .i64 i] H K:=by
 refine ACalls.out (zEm fun hs=>?_)
 have hkl:=zb0 hk
 have hrr:=hr _ (List.getElem_mem hi)
 obtain ⟨k,hkk⟩ : ∃ k : Nat,e.kids[i] = k:=⟨(e.kids[i]).toNat,by omega⟩
 have hkn : k < c.exprs.length:=by omega
 rw [hkk,zmW hkn] at hK
 obtain ⟨x,y,z,hv,hx,hy,hz,hat⟩:=ex3 e
 obtain ⟨x',y',z',hv',hx',hy',hz',hat'⟩:=zdw hkn
 have hg : ∀ J,(H ++ J)[kid]? = some (ckB c u):=fun J=>zaO hk
 simp [zva,hat,hg,ckB,hi,hkk,hkn,hat',hx',hy',hz']
 rw [hv'] at hK
 refine Out.at rfl (Nat.le_refl _) hs (WkV.agg (ds:=[x',y',z']) ⟨.refl _,.refl _,.refl _,trivial⟩) rfl ?_ hK
 have:=VT.cs_scA (c.exprs[k]).ty H.length
 rw [hv'] at this
 simpa [AV.scV] using this
def zb3 (c : Cor) (t : VT) (l : List Int) : Bool:=l.all fun k=>(ety c k).same t
theorem znb {c : Cor} (hc : zaP c) {u kid : Nat} {H : zaa} (hk : H[kid]? = some (ckB c u)) (e : CEx) (hl : e.kids.length ≤ 1000) (hr : inE c e.kids) (f : Nat) (K : AV → zaa → Prop) (hK : K (.bool (zb3 c e.ty (e.kids.drop f))) H) :
  ACalls tP zdO [.ptr kid 0,.agg e.cs,.int .i64 f] H K:=by
 refine ACalls.out (zEr fun hs=>?_)
 have hkl:=zb0 hk
 obtain ⟨x,y,z,hv,hx,hy,hz,hat⟩:=ex3 e
 have hO : ∀ J,Out H.length K (.bool (zb3 c e.ty (e.kids.drop f))) (H ++ J):=fun J=>Out.bool rfl (Nat.le_refl _) hs hK
 simp [zvb,hat]
 refine zEp (Inv:=fun q t7 H'=>∃ i : Nat,q = e.kids.length - i ∧ t7 = .int .i64 i ∧ zb3 c e.ty (e.kids.drop i) = zb3 c e.ty (e.kids.drop f) ∧ H' = H ++ [.cells [.int .i64 e.op,.int .i64 e.num,.sl (ints e.vars) .none,.sl (rows e.binds) .none,.sl (ints e.kids) .none,x,y,z]]) (e.kids.length - f) ?_ ?_
 ·intro _; exact ⟨f,rfl,rfl,rfl,rfl⟩
 ·rintro q t7 H' ⟨i,rfl,rfl,ho,rfl⟩ hsc hlen hsF Kb hKb
  by_cases hlt : i < e.kids.length
  ·rw [List.drop_eq_getElem_cons hlt,zb3,List.all_cons,← zb3] at ho
   simp [zoF,hlt]
   rw [← hat,← hv]
   refine zay (.agg (ety c e.kids[i]).cs) (fun J=>ztk (zaO (zaO hk)) e hr i hlt _ ⟨rfl,rfl⟩) ?_
   refine zay (.bool ((ety c e.kids[i]).same e.ty)) (fun J=>zlG _ _ _ (Nat.le_refl _) (by have:=zsU hc e.kids[i]; omega) _ _ ⟨rfl,rfl⟩) ?_
   cases hsm : (ety c e.kids[i]).same e.ty with
   | false=>
    rw [hsm,Bool.false_and] at ho
    rw [← ho] at hO
    simp
    exact hO _
   | true=>
    rw [hsm,Bool.true_and] at ho
    simp
    rw [zaq (by omega) (by omega)]
    refine hKb _ _ ⟨e.kids.length - (i + 1),by omega,Back.here (by simp) (by rw [hat]; exact hsc) ?_ ⟨_,rfl,i + 1,rfl,by simp,ho,by rw [hat]⟩⟩
    simp [zjs,AV.sc,AV.scV,AV.scA,AV.scB]; omega
  ·have hd : e.kids.drop i = []:=List.drop_eq_nil_of_le (by omega)
   rw [hd] at ho
   rw [← ho] at hO
   simp [zoF,hlt]
   exact hO _
def zbW (l : List (List Int)) : List Int:=l.map fun r=>(r.length : Int)
theorem zzQ : zcO tP znl = true:=by kernel_rfl
theorem zmB (e : CEx) (hl : e.binds.length ≤ 1000) (ns : List Int) {tok : Tok} (H : zaa) (K : AV → zaa → Prop) (hK : K (.bool (zbW e.binds == ns)) H) : ACalls tP zgY [.agg e.cs,.sl (ints ns) tok] H K:=by
 refine ACalls.wk (args':=[.agg e.cs,.sl (ints ns) .none]) ?_ ⟨.rfl',.atom (.sl _ _),trivial⟩
 refine ACalls.out (zEj fun hs=>?_)
 obtain ⟨x,y,z,hv,hx,hy,hz,hat⟩:=ex3 e
 have hO : ∀ J,Out H.length K (.bool (zbW e.binds == ns)) (H ++ J):=fun J=>Out.bool rfl (Nat.le_refl _) hs hK
 simp [zu9,hat]
 refine ACalls.out (zF9 fun hs2=>?_)
 have hO2 : ∀ J,Out (H.length + 1) (Out H.length K) (.bool (zbW e.binds == ns)) (H ++ [.cells [.int .i64 e.op,.int .i64 e.num,.sl (ints e.vars) .none,.sl (rows e.binds) .none,.sl (ints e.kids) .none,x,y,z]] ++ J):=fun J=>Out.bool rfl (by simp) hs2 (hO _)
 by_cases hlen : e.binds.length = ns.length
 ·simp [zo7,hlen]
  refine zF7 (Inv:=fun q t17 H'=>∃ i : Nat,i ≤ e.binds.length ∧ q = e.binds.length - i ∧ t17 = .int .i64 i ∧ (zbW (e.binds.drop i) == ns.drop i) = (zbW e.binds == ns) ∧ H' = H ++ [.cells [.int .i64 e.op,.int .i64 e.num,.sl (ints e.vars) .none,.sl (rows e.binds) .none,.sl (ints e.kids) .none,x,y,z]]) e.binds.length ?_ ?_
  ·intro _; exact ⟨0,by omega,by omega,rfl,by simp,rfl⟩
  ·rintro q t17 H' ⟨i,hi,rfl,rfl,ho,rfl⟩ hsc hlen2 hsF Kb hKb
   by_cases hlt : i < e.binds.length
   ·have hlt' : i < ns.length:=by omega
    rw [List.drop_eq_getElem_cons hlt,List.drop_eq_getElem_cons hlt',zbW,List.map_cons,← zbW,List.cons_beq_cons] at ho
    simp [zo8,hlt,hlt',ints]
    simp only [aCallV,zzQ]
    refine zGd fun hs3=>?_
    simp [zvF]
    cases hb : ((e.binds[i].length : Int) == ns[i]) with
    | false=>
     rw [hb,Bool.false_and] at ho
     rw [← ho] at hO2
     simp
     simpa [ints] using hO2 []
    | true=>
     rw [hb,Bool.true_and] at ho
     simp
     rw [zaq (by omega) (by omega)]
     refine hKb _ _ ⟨e.binds.length - (i + 1),by omega,Back.here (by simp) hsc ?_ ⟨_,rfl,i + 1,by omega,rfl,by simp,ho,rfl⟩⟩
     simp [zjT,AV.sc,AV.scV,AV.scA,AV.scB]
   ·have hlt' : ¬ i < ns.length:=by omega
    obtain rfl : i = e.binds.length:=by omega
    rw [List.drop_length,hlen,List.drop_length] at ho
    rw [← ho] at hO2
    simp [zo8,hlt']
    simpa [zbW] using hO2 []
 ·have hl' : ((e.binds.length : Int) != ns.length) = true:=by simp; omega
  have hf : (zbW e.binds == ns) = false:=by
   rw [beq_eq_false_iff_ne]
   intro h
   exact hlen (by rw [← h]; simp [zbW])
  rw [hf] at hO2
  simp [zo7,hl']
  simpa using hO2 []
end Go.Proofs.Ytkdmpbhbmmhijaa
