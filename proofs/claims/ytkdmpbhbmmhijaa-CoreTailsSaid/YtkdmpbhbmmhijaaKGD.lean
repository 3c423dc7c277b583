/- The shallow forms of functions of the program, printed by a program (absgen.py) off the translation, each tied to the model by the kernel. -/
import Derived.Test.YtkdmpbhbmmhijaaKNum
import Derived.Test.YtkdmpbhbmmhijaaProg
import Derived.KernelRfl
namespace Go.Proofs.Ytkdmpbhbmmhijaa
open Go Go.Abs
set_option linter.unusedVariables false
set_option maxRecDepth 100000
def zq74_M : Nat → List Bool
 | 200023 => rl false [0,2]
 | 169020 => rl false [0,1,2,1,65,1,10,1,106]
 | 100013 => rl false [0,1,2,1,183]
 | 156007 => rl false [0,1,2,1,2,2,179]
 | _ => []
noncomputable def zq74_c : Code := Try.f76.body.getD .skip
noncomputable def zq74_r : List ResultVar := Try.f76.results.toList
def zq74_j4 (t0 t3 t175 : AV) (H : Heap) (K : Kt) : Prop :=
 aTest t175
 (aLoad true 8 t3 H fun t182 =>
 ACalls tP n_zq95 [t0, t182] H fun t183 H =>
 K t183 H)
 (aLoad true 8 t3 H fun t185 =>
 ACalls tP n_zq96 [t0, t185] H fun t186 H =>
 K t186 H)
noncomputable def zq74_j3_c : Code := codeAt [1, 1, 1, 0, 1, 0, 1, 1, 1] zq74_c
def zq74_j3_Q (K : Kt) : AExit → List AV → Heap → Prop := contAt tP zq74_M [1, 1, 1, 0, 1, 0, 1, 1, 1] zq74_c (retQ tP zq74_r K)
def zq74_j3 (t0 t3 t69 t80 : AV) (H : Heap) (K : Kt) : Prop := AWp tP zq74_j3_c (zq74_j3_Q K) (t0 :: ux 2 (t3 :: ux 65 (t69 :: ux 10 (t80 :: ux 106 [])))) H
def zq74_j3b (t0 t3 t69 t80 : AV) (H : Heap) (K : Kt) : Prop :=
 aTest t80
 (aLoad true 8 t3 H fun t82 =>
 ACalls tP n_zq89 [t82, (.int .i64 1), (.int .i64 0)] H fun t83 H =>
 aGuardJ t83 true H (fun k => k t0 H) fun t85 H =>
 aGuardJ t83 true H (fun k => aFld 2 t3 (k · H)) fun t86 H =>
 aGuardJ t83 true H (fun k => aLoad false 1 t86 H (k · H)) fun t87 H =>
 aGuardJ t83 true H (fun k => aFld 5 t3 (k · H)) fun t88 H =>
 aGuardJ t83 true H (fun k => aLoad true 3 t88 H (k · H)) fun t89 H =>
 aGuardJ t83 true H (fun k => aBuildS 3 [(.int .i64 0), (.int .i64 0), .snil] 1 [(0, t89)] (k · H)) fun t90 H =>
 aGuardJ t83 true H (fun k => ACalls tP n_zq92 [t85, t87, t90] H k) fun t91 H =>
 aPick t83 t91 (.bool false) fun t92 =>
 K t92 H)
 (aBin .eql false t69 (.int .i64 5) fun t94 =>
 aTest t94
 (aPure H (fun k => aLoad true 8 t3 H (k · H)) fun t95 =>
 aPureX H (fun H k => ACalls tP n_zq89 [t95, (.int .i64 (-1)), (.int .i64 0)] H k) fun t96 =>
 aPure H (fun k => k t96 H) fun t97 =>
 aGuardJ t97 true H (fun k => aPure H (fun l => aFld 2 t3 (l · H)) (k · H)) fun t98 H =>
 aGuardJ t97 true H (fun k => aPure H (fun l => aLoad false 1 t98 H (l · H)) (k · H)) fun t99 H =>
 aGuardJ t97 true H (fun k => aPure H (fun l => aLen 1 t99 (l · H)) (k · H)) fun t100 H =>
 aGuardJ t97 true H (fun k => aPure H (fun l => aBin .geq false t100 (.int .i64 2) (l · H)) (k · H)) fun t101 H =>
 aPure H (fun k => aPick t97 t101 (.bool false) (k · H)) fun t102 =>
 aPure H (fun k => k t102 H) fun t103 =>
 aGuardJ t103 true H (fun k => aPure H (fun l => aFld 2 t3 (l · H)) (k · H)) fun t104 H =>
 aGuardJ t103 true H (fun k => aPure H (fun l => aLoad false 1 t104 H (l · H)) (k · H)) fun t105 H =>
 aGuardJ t103 true H (fun k => aPure H (fun l => aLen 1 t105 (l · H)) (k · H)) fun t106 H =>
 aGuardJ t103 true H (fun k => aPure H (fun l => aBin .leq false t106 (.int .i64 6) (l · H)) (k · H)) fun t107 H =>
 aPure H (fun k => aPick t103 t107 (.bool false) (k · H)) fun t108 =>
 aPure H (fun k => k t108 H) fun t109 =>
 aGuardJ t109 true H (fun k => aPure H (fun l => aFld 5 t3 (l · H)) (k · H)) fun t110 H =>
 aGuardJ t109 true H (fun k => aPure H (fun l => aLoad true 3 t110 H (l · H)) (k · H)) fun t111 H =>
 aGuardJ t109 true H (fun k => aPure H (fun l => l t0 H) (k · H)) fun t112 H =>
 aGuardJ t109 true H (fun k => aPure H (fun l => aFld 2 t3 (l · H)) (k · H)) fun t113 H =>
 aGuardJ t109 true H (fun k => aPure H (fun l => aLoad false 1 t113 H (l · H)) (k · H)) fun t114 H =>
 aGuardJ t109 true H (fun k => aPureX H (fun H l => ACalls tP n_zq94 [t112, t114] H l) (k · H)) fun t115 H =>
 aGuardJ t109 true H (fun k => aPureX H (fun H l => ACalls tP n_zq93 [(.int .i64 6), t115] H l) (k · H)) fun t116 H =>
 aGuardJ t109 true H (fun k => aPureX H (fun H l => ACalls tP n_zq69 [t111, t116] H l) (k · H)) fun t117 H =>
 aPure H (fun k => aPick t109 t117 (.bool false) (k · H)) fun t118 =>
 aPure H (fun k => k t118 H) fun t4 =>
 K t4 H)
 (aBin .eql false t69 (.int .i64 13) fun t120 =>
 aTest t120
 (aPure H (fun k => aLoad true 8 t3 H (k · H)) fun t121 =>
 aDet .g true H (fun k => ACalls tP n_zq89 [t121, (.int .i64 (-1)), (.int .i64 0)] H k) fun t122 H =>
 aPure H (fun k => k t122 H) fun t123 =>
 aGuardJ t123 true H (fun k => aPure H (fun l => aFld 2 t3 (l · H)) (k · H)) fun t124 H =>
 aGuardJ t123 true H (fun k => aPure H (fun l => aLoad false 1 t124 H (l · H)) (k · H)) fun t125 H =>
 aGuardJ t123 true H (fun k => aPure H (fun l => aLen 1 t125 (l · H)) (k · H)) fun t126 H =>
 aGuardJ t123 true H (fun k => aPure H (fun l => aBin .geq false t126 (.int .i64 1) (l · H)) (k · H)) fun t127 H =>
 aPure H (fun k => aPick t123 t127 (.bool false) (k · H)) fun t128 =>
 aPure H (fun k => k t128 H) fun t129 =>
 aGuardJ t129 true H (fun k => aPure H (fun l => l t0 H) (k · H)) fun t130 H =>
 aGuardJ t129 true H (fun k => aPure H (fun l => aNil t130 (l · H)) (k · H)) fun t131 H =>
 aGuardJ t129 true H (fun k => aPure H (fun l => aFld 0 t131 (l · H)) (k · H)) fun t132 H =>
 aGuardJ t129 true H (fun k => aPure H (fun l => aFld 2 t132 (l · H)) (k · H)) fun t133 H =>
 aGuardJ t129 true H (fun k => aPure H (fun l => aLoad false 1 t133 H (l · H)) (k · H)) fun t134 H =>
 aGuardJ t129 true H (fun k => aPure H (fun l => aFld 2 t3 (l · H)) (k · H)) fun t135 H =>
 aGuardJ t129 true H (fun k => aPure H (fun l => aLoad false 1 t135 H (l · H)) (k · H)) fun t136 H =>
 aGuardJ t129 true H (fun k => aPure H (fun l => aIdxA 1 t136 (.int .i64 0) (l · H)) (k · H)) fun t137 H =>
 aGuardJ t129 true H (fun k => aPure H (fun l => aLoad false 1 t137 H (l · H)) (k · H)) fun t138 H =>
 aGuardJ t129 true H (fun k => aPure H (fun l => aIdxA 3 t134 t138 (l · H)) (k · H)) fun t139 H =>
 aGuardJ t129 true H (fun k => aPure H (fun l => aLoad true 3 t139 H (l · H)) (k · H)) fun t140 H =>
 aGuardJ t129 true H (fun k => aPure H (fun l => l t0 H) (k · H)) fun t141 H =>
 aGuardJ t129 true H (fun k => aPure H (fun l => aFld 2 t3 (l · H)) (k · H)) fun t142 H =>
 aGuardJ t129 true H (fun k => aPure H (fun l => aLoad false 1 t142 H (l · H)) (k · H)) fun t143 H =>
 aGuardJ t129 true H (fun k => aPure H (fun l => aSlice 1 1 t143 (some (.int .i64 1)) none (l · H)) (k · H)) fun t144 H =>
 aGuardJ t129 true H (fun k => aDet .g true H (fun l => ACalls tP n_zq94 [t141, t144] H l) k) fun t145 H =>
 aGuardJ t129 true H (fun k => aPure H (fun l => aFld 5 t3 (l · H)) (k · H)) fun t146 H =>
 aGuardJ t129 true H (fun k => aPure H (fun l => aLoad true 3 t146 H (l · H)) (k · H)) fun t147 H =>
 aGuardJ t129 true H (fun k => aPure H (fun l => aBuildS 3 [(.int .i64 0), (.int .i64 0), .snil] 1 [(0, t147)] (l · H)) (k · H)) fun t148 H =>
 aGuardJ t129 true H (fun k => aDet .g false H (fun l => aAppend e_api_Type 3 40 t145 t148 H l) k) fun t149 H =>
 aGuardJ t129 true H (fun k => aDet .g true H (fun l => ACalls tP n_zq93 [(.int .i64 9), t149] H l) k) fun t150 H =>
 aGuardJ t129 true H (fun k => aDet .g true H (fun l => ACalls tP n_zq69 [t140, t150] H l) k) fun t151 H =>
 aPure H (fun k => aPick t129 t151 (.bool false) (k · H)) fun t152 =>
 aPure H (fun k => k t152 H) fun t4 =>
 K t4 H)
 (aBin .eql false t69 (.int .i64 23) fun t154 =>
 aTest t154
 (aPure H (fun k => aLoad true 8 t3 H (k · H)) fun t155 =>
 aPureX H (fun H k => ACalls tP n_zq89 [t155, (.int .i64 1), (.int .i64 0)] H k) fun t156 =>
 aPure H (fun k => k t156 H) fun t157 =>
 aGuardJ t157 true H (fun k => aPure H (fun l => l t0 H) (k · H)) fun t158 H =>
 aGuardJ t157 true H (fun k => aPure H (fun l => aFld 2 t3 (l · H)) (k · H)) fun t159 H =>
 aGuardJ t157 true H (fun k => aPure H (fun l => aLoad false 1 t159 H (l · H)) (k · H)) fun t160 H =>
 aGuardJ t157 true H (fun k => aPureX H (fun H l => ACalls tP n_zq90 [(.int .i64 1)] H l) (k · H)) fun t161 H =>
 aGuardJ t157 true H (fun k => aPure H (fun l => aBuildS 3 [(.int .i64 0), (.int .i64 0), .snil] 1 [(0, t161)] (l · H)) (k · H)) fun t162 H =>
 aGuardJ t157 true H (fun k => aPureX H (fun H l => ACalls tP n_zq92 [t158, t160, t162] H l) (k · H)) fun t163 H =>
 aPure H (fun k => aPick t157 t163 (.bool false) (k · H)) fun t164 =>
 aPure H (fun k => k t164 H) fun t165 =>
 aGuardJ t165 true H (fun k => aPure H (fun l => l t0 H) (k · H)) fun t166 H =>
 aGuardJ t165 true H (fun k => aPure H (fun l => aNil t166 (l · H)) (k · H)) fun t167 H =>
 aGuardJ t165 true H (fun k => aPure H (fun l => aFld 0 t167 (l · H)) (k · H)) fun t168 H =>
 aGuardJ t165 true H (fun k => aPure H (fun l => aFld 0 t168 (l · H)) (k · H)) fun t169 H =>
 aGuardJ t165 true H (fun k => aPure H (fun l => aLoad false 1 t169 H (l · H)) (k · H)) fun t170 H =>
 aGuardJ t165 true H (fun k => aPure H (fun l => aFld 5 t3 (l · H)) (k · H)) fun t171 H =>
 aGuardJ t165 true H (fun k => aPure H (fun l => aLoad true 3 t171 H (l · H)) (k · H)) fun t172 H =>
 aGuardJ t165 true H (fun k => aPureX H (fun H l => ACalls tP n_zq68 [t170, t172, (.int .i64 0)] H l) (k · H)) fun t173 H =>
 aPure H (fun k => aPick t165 t173 (.bool false) (k · H)) fun t174 =>
 aPure H (fun k => k t174 H) fun t4 =>
 K t4 H)
 (aBin .eql false t69 (.int .i64 7) fun t176 =>
 aTest t176
 (zq74_j4 t0 t3 t176 H K)
 (aBin .eql false t69 (.int .i64 24) fun t177 =>
 aTest t177
 (zq74_j4 t0 t3 t177 H K)
 (aBin .eql false t69 (.int .i64 8) fun t178 =>
 aTest t178
 (zq74_j4 t0 t3 t178 H K)
 (aBin .eql false t69 (.int .i64 9) fun t179 =>
 aTest t179
 (zq74_j4 t0 t3 t179 H K)
 (aBin .eql false t69 (.int .i64 10) fun t180 =>
 zq74_j4 t0 t3 t180 H K))))))))
noncomputable def zq74_j2_c : Code := codeAt [1, 1] zq74_c
def zq74_j2_Q (K : Kt) : AExit → List AV → Heap → Prop := contAt tP zq74_M [1, 1] zq74_c (retQ tP zq74_r K)
def zq74_j2 (t0 t3 : AV) (H : Heap) (K : Kt) : Prop := AWp tP zq74_j2_c (zq74_j2_Q K) (t0 :: ux 2 (t3 :: ux 183 [])) H
def zq74_j2b (t0 t3 : AV) (H : Heap) (K : Kt) : Prop :=
 aFld 1 t3 fun t65 =>
 aLoad false 1 t65 H fun t66 =>
 aBin .neq false t66 (.int .i64 0) fun t67 =>
 aTest t67
 (K (.bool false) H)
 (aFld 0 t3 fun t68 =>
 aLoad false 1 t68 H fun t69 =>
 aBin .eql false t69 (.int .i64 1) fun t71 =>
 aTest t71
 (aPure H (fun k => aLoad true 8 t3 H (k · H)) fun t72 =>
 aPureX H (fun H k => ACalls tP n_zq89 [t72, (.int .i64 0), (.int .i64 0)] H k) fun t73 =>
 aPure H (fun k => k t73 H) fun t74 =>
 aGuardJ t74 true H (fun k => aPure H (fun l => aFld 5 t3 (l · H)) (k · H)) fun t75 H =>
 aGuardJ t74 true H (fun k => aPure H (fun l => aLoad true 3 t75 H (l · H)) (k · H)) fun t76 H =>
 aGuardJ t74 true H (fun k => aPureX H (fun H l => ACalls tP n_zq90 [(.int .i64 3)] H l) (k · H)) fun t77 H =>
 aGuardJ t74 true H (fun k => aPureX H (fun H l => ACalls tP n_zq69 [t76, t77] H l) (k · H)) fun t78 H =>
 aPure H (fun k => aPick t74 t78 (.bool false) (k · H)) fun t79 =>
 aPure H (fun k => k t79 H) fun t4 =>
 K t4 H)
 (aBin .eql false t69 (.int .i64 4) fun t81 =>
 zq74_j3 t0 t3 t69 t81 H K))
noncomputable def zq74_j1_c : Code := codeAt [1, 0, 1, 0, 1] zq74_c
def zq74_j1_Q (K : Kt) : AExit → List AV → Heap → Prop := contAt tP zq74_M [1, 0, 1, 0, 1] zq74_c (retQ tP zq74_r K)
def zq74_j1 (t0 t3 t6 t7 : AV) (H : Heap) (K : Kt) : Prop := AWp tP zq74_j1_c (zq74_j1_Q K) (t0 :: ux 2 (t3 :: ux 2 (t6 :: t7 :: ux 179 []))) H
def zq74_j1b (t0 t3 t6 t7 : AV) (H : Heap) (K : Kt) : Prop :=
 aTest t7
 (aLoad true 8 t3 H fun t13 =>
 ACalls tP n_zq88 [t0, t13] H fun t14 H =>
 K t14 H)
 (aBin .eql false t6 (.int .i64 2) fun t16 =>
 aTest t16
 (aPure H (fun k => aLoad true 8 t3 H (k · H)) fun t17 =>
 aPureX H (fun H k => ACalls tP n_zq89 [t17, (.int .i64 0), (.int .i64 0)] H k) fun t18 =>
 aPure H (fun k => k t18 H) fun t19 =>
 aGuardJ t19 true H (fun k => aPure H (fun l => aFld 1 t3 (l · H)) (k · H)) fun t20 H =>
 aGuardJ t19 true H (fun k => aPure H (fun l => aLoad false 1 t20 H (l · H)) (k · H)) fun t21 H =>
 aGuardJ t19 true H (fun k => aPure H (fun l => aBin .eql false t21 (.int .i64 0) (l · H)) (k · H)) fun t22 H =>
 aGuardJ t19 true H (fun k => aPure H (fun l => l t22 H) (k · H)) fun t23 H =>
 aGuardJ t23 false H (fun k => aPure H (fun l => aFld 1 t3 (l · H)) (k · H)) fun t24 H =>
 aGuardJ t23 false H (fun k => aPure H (fun l => aLoad false 1 t24 H (l · H)) (k · H)) fun t25 H =>
 aGuardJ t23 false H (fun k => aPure H (fun l => aBin .eql false t25 (.int .i64 1) (l · H)) (k · H)) fun t26 H =>
 aGuardJ t19 true H (fun k => aPure H (fun l => aPick t23 (.bool true) t26 (l · H)) (k · H)) fun t27 H =>
 aPure H (fun k => aPick t19 t27 (.bool false) (k · H)) fun t28 =>
 aPure H (fun k => k t28 H) fun t29 =>
 aGuardJ t29 true H (fun k => aPure H (fun l => aFld 5 t3 (l · H)) (k · H)) fun t30 H =>
 aGuardJ t29 true H (fun k => aPure H (fun l => aLoad true 3 t30 H (l · H)) (k · H)) fun t31 H =>
 aGuardJ t29 true H (fun k => aPureX H (fun H l => ACalls tP n_zq90 [(.int .i64 2)] H l) (k · H)) fun t32 H =>
 aGuardJ t29 true H (fun k => aPureX H (fun H l => ACalls tP n_zq69 [t31, t32] H l) (k · H)) fun t33 H =>
 aPure H (fun k => aPick t29 t33 (.bool false) (k · H)) fun t34 =>
 aPure H (fun k => k t34 H) fun t4 =>
 K t4 H)
 (aBin .eql false t6 (.int .i64 3) fun t36 =>
 aTest t36
 (aPure H (fun k => aLoad true 8 t3 H (k · H)) fun t37 =>
 aPureX H (fun H k => ACalls tP n_zq89 [t37, (.int .i64 0), (.int .i64 0)] H k) fun t38 =>
 aPure H (fun k => k t38 H) fun t39 =>
 aGuardJ t39 true H (fun k => aPure H (fun l => aFld 1 t3 (l · H)) (k · H)) fun t40 H =>
 aGuardJ t39 true H (fun k => aPure H (fun l => aLoad false 1 t40 H (l · H)) (k · H)) fun t41 H =>
 aGuardJ t39 true H (fun k => aPureX H (fun H l => ACalls tP n_zq91 [t41, (.int .i64 1000000)] H l) (k · H)) fun t42 H =>
 aPure H (fun k => aPick t39 t42 (.bool false) (k · H)) fun t43 =>
 aPure H (fun k => k t43 H) fun t44 =>
 aGuardJ t44 true H (fun k => aPure H (fun l => aFld 5 t3 (l · H)) (k · H)) fun t45 H =>
 aGuardJ t44 true H (fun k => aPure H (fun l => aLoad true 3 t45 H (l · H)) (k · H)) fun t46 H =>
 aGuardJ t44 true H (fun k => aPureX H (fun H l => ACalls tP n_zq90 [(.int .i64 1)] H l) (k · H)) fun t47 H =>
 aGuardJ t44 true H (fun k => aPureX H (fun H l => ACalls tP n_zq69 [t46, t47] H l) (k · H)) fun t48 H =>
 aPure H (fun k => aPick t44 t48 (.bool false) (k · H)) fun t49 =>
 aPure H (fun k => k t49 H) fun t4 =>
 K t4 H)
 (aBin .eql false t6 (.int .i64 22) fun t51 =>
 aTest t51
 (aPure H (fun k => aLoad true 8 t3 H (k · H)) fun t52 =>
 aPureX H (fun H k => ACalls tP n_zq89 [t52, (.int .i64 0), (.int .i64 0)] H k) fun t53 =>
 aPure H (fun k => k t53 H) fun t54 =>
 aGuardJ t54 true H (fun k => aPure H (fun l => aFld 1 t3 (l · H)) (k · H)) fun t55 H =>
 aGuardJ t54 true H (fun k => aPure H (fun l => aLoad false 1 t55 H (l · H)) (k · H)) fun t56 H =>
 aGuardJ t54 true H (fun k => aPureX H (fun H l => ACalls tP n_zq91 [t56, (.int .i64 1000)] H l) (k · H)) fun t57 H =>
 aPure H (fun k => aPick t54 t57 (.bool false) (k · H)) fun t58 =>
 aPure H (fun k => k t58 H) fun t59 =>
 aGuardJ t59 true H (fun k => aPure H (fun l => aFld 5 t3 (l · H)) (k · H)) fun t60 H =>
 aGuardJ t59 true H (fun k => aPure H (fun l => aLoad true 3 t60 H (l · H)) (k · H)) fun t61 H =>
 aGuardJ t59 true H (fun k => aPureX H (fun H l => ACalls tP n_zq90 [(.int .i64 3)] H l) (k · H)) fun t62 H =>
 aGuardJ t59 true H (fun k => aPureX H (fun H l => ACalls tP n_zq69 [t61, t62] H l) (k · H)) fun t63 H =>
 aPure H (fun k => aPick t59 t63 (.bool false) (k · H)) fun t64 =>
 aPure H (fun k => k t64 H) fun t4 =>
 K t4 H)
 (zq74_j2 t0 t3 H K))))
def zq74 (t0 t1 : AV) (H : Heap) (K : Kt) : Prop :=
 aBox t1 H fun t3 H =>
 aFld 0 t3 fun t5 =>
 aLoad false 1 t5 H fun t6 =>
 aBin .eql false t6 (.int .i64 6) fun t8 =>
 aTest t8
 (zq74_j1 t0 t3 t6 t8 H K)
 (aBin .eql false t6 (.int .i64 11) fun t9 =>
 aTest t9
 (zq74_j1 t0 t3 t6 t9 H K)
 (aBin .eql false t6 (.int .i64 12) fun t10 =>
 aTest t10
 (zq74_j1 t0 t3 t6 t10 H K)
 (aBin .eql false t6 (.int .i64 14) fun t11 =>
 zq74_j1 t0 t3 t6 t11 H K)))
theorem zq74_j3_eq (t0 t3 t69 t80 : AV) (H : Heap) (K : Kt) : awp tP zq74_M zq74_j3_c (zq74_j3_Q K) (t0 :: ux 2 (t3 :: ux 65 (t69 :: ux 10 (t80 :: ux 106 [])))) H = zq74_j3b t0 t3 t69 t80 H K := by kernel_rfl
theorem zq74_j3_ok {t0 t3 t69 t80 : AV} {H : Heap} {K : Kt} (h : HSc H → zq74_j3b t0 t3 t69 t80 H K) : zq74_j3 t0 t3 t69 t80 H K :=
 fun B w G a hH hF hd => awp_sound (M := zq74_M) _ _ _ _ ((zq74_j3_eq t0 t3 t69 t80 H K).mpr (h hH.sc)) B w G a hH hF hd
theorem zq74_j2_eq (t0 t3 : AV) (H : Heap) (K : Kt) : awp tP zq74_M zq74_j2_c (zq74_j2_Q K) (t0 :: ux 2 (t3 :: ux 183 [])) H = zq74_j2b t0 t3 H K := by kernel_rfl
theorem zq74_j2_ok {t0 t3 : AV} {H : Heap} {K : Kt} (h : HSc H → zq74_j2b t0 t3 H K) : zq74_j2 t0 t3 H K :=
 fun B w G a hH hF hd => awp_sound (M := zq74_M) _ _ _ _ ((zq74_j2_eq t0 t3 H K).mpr (h hH.sc)) B w G a hH hF hd
theorem zq74_j1_eq (t0 t3 t6 t7 : AV) (H : Heap) (K : Kt) : awp tP zq74_M zq74_j1_c (zq74_j1_Q K) (t0 :: ux 2 (t3 :: ux 2 (t6 :: t7 :: ux 179 []))) H = zq74_j1b t0 t3 t6 t7 H K := by kernel_rfl
theorem zq74_j1_ok {t0 t3 t6 t7 : AV} {H : Heap} {K : Kt} (h : HSc H → zq74_j1b t0 t3 t6 t7 H K) : zq74_j1 t0 t3 t6 t7 H K :=
 fun B w G a hH hF hd => awp_sound (M := zq74_M) _ _ _ _ ((zq74_j1_eq t0 t3 t6 t7 H K).mpr (h hH.sc)) B w G a hH hF hd
theorem zq74_eq (t0 t1 : AV) (H : Heap) (K : Kt) : awp tP zq74_M zq74_c (retQ tP zq74_r K) (t0 :: t1 :: List.replicate 185 .unk) H = zq74 t0 t1 H K := by kernel_rfl
theorem zq74_ok {t0 t1 : AV} {H : Heap} {K : Kt} (h : HSc H → zq74 t0 t1 H K) : ACalls tP n_zq74 [t0, t1] H K :=
 acalls_body (M := zq74_M) Try.func76 (c := zq74_c) (by kernel_rfl) (fun hs => (zq74_eq t0 t1 H K).mpr (h hs))
def zq88_M : Nat → List Bool
 | 200021 => rl false [0,2]
 | _ => []
noncomputable def zq88_c : Code := Try.f90.body.getD .skip
noncomputable def zq88_r : List ResultVar := Try.f90.results.toList
def zq88 (t0 t1 : AV) (H : Heap) (K : Kt) : Prop :=
 aBox t1 H fun t3 H =>
 aLoad true 8 t3 H fun t8 =>
 ACalls tP n_zq89 [t8, (.int .i64 (-1)), (.int .i64 0)] H fun t9 H =>
 aUn .not t9 fun t10 =>
 aGuardJ t10 false H (fun k => aFld 1 t3 (k · H)) fun t12 H =>
 aGuardJ t10 false H (fun k => aLoad false 1 t12 H (k · H)) fun t13 H =>
 aGuardJ t10 false H (fun k => aBin .lss false t13 (.int .i64 0) (k · H)) fun t14 H =>
 aPick t10 (.bool true) t14 fun t15 =>
 aTest t15
 (K (.bool false) H)
 (aFld 0 t3 fun t16 =>
 aLoad false 1 t16 H fun t17 =>
 aBin .eql false t17 (.int .i64 6) fun t19 =>
 aTest t19
 (aFld 5 t3 fun t20 =>
 aFld 0 t20 fun t21 =>
 aLoad false 1 t21 H fun t22 =>
 aBin .neq false t22 (.int .i64 5) fun t23 =>
 aGuardJ t23 false H (fun k => aFld 1 t3 (k · H)) fun t25 H =>
 aGuardJ t23 false H (fun k => aLoad false 1 t25 H (k · H)) fun t26 H =>
 aGuardJ t23 false H (fun k => aBin .geq false t26 (.int .i64 8) (k · H)) fun t27 H =>
 aPick t23 (.bool true) t27 fun t28 =>
 aTest t28
 (K (.bool false) H)
 (aPure H (fun k => k t0 H) fun t30 =>
 aPure H (fun k => aNil t30 (k · H)) fun t31 =>
 aPure H (fun k => aFld 0 t31 (k · H)) fun t32 =>
 aPure H (fun k => aFld 0 t32 (k · H)) fun t33 =>
 aPure H (fun k => aLoad false 1 t33 H (k · H)) fun t34 =>
 aPure H (fun k => aFld 5 t3 (k · H)) fun t35 =>
 aPure H (fun k => aLoad true 3 t35 H (k · H)) fun t36 =>
 aPure H (fun k => aFld 1 t3 (k · H)) fun t37 =>
 aPure H (fun k => aLoad false 1 t37 H (k · H)) fun t38 =>
 aPureX H (fun H k => ACalls tP n_zq103 [t34, t36, t38] H k) fun t39 =>
 aPure H (fun k => k t39 H) fun t29 =>
 aPure H (fun k => aExt t29 0 (k · H)) fun t40 =>
 aPure H (fun k => aExt t29 1 (k · H)) fun t41 =>
 aPure H (fun k => k t40 H) fun t5 =>
 aPure H (fun k => k t41 H) fun t6 =>
 aGuardJ t6 true H (fun k => k t0 H) fun t44 H =>
 aGuardJ t6 true H (fun k => aFld 2 t3 (k · H)) fun t45 H =>
 aGuardJ t6 true H (fun k => aLoad false 1 t45 H (k · H)) fun t46 H =>
 aGuardJ t6 true H (fun k => k t5 H) fun t47 H =>
 aGuardJ t6 true H (fun k => ACalls tP n_zq92 [t44, t46, t47] H k) fun t48 H =>
 aPick t6 t48 (.bool false) fun t49 =>
 K t49 H))
 (aBin .eql false t17 (.int .i64 14) fun t51 =>
 aTest t51
 (aPure H (fun k => aFld 1 t3 (k · H)) fun t52 =>
 aPure H (fun k => aLoad false 1 t52 H (k · H)) fun t53 =>
 aPure H (fun k => aBin .lss false t53 (.int .i64 1) (k · H)) fun t54 =>
 aPure H (fun k => k t54 H) fun t55 =>
 aGuardJ t55 false H (fun k => aPure H (fun l => aFld 1 t3 (l · H)) (k · H)) fun t56 H =>
 aGuardJ t55 false H (fun k => aPure H (fun l => aLoad false 1 t56 H (l · H)) (k · H)) fun t57 H =>
 aGuardJ t55 false H (fun k => aPure H (fun l => aBin .gtr false t57 (.int .i64 8) (l · H)) (k · H)) fun t58 H =>
 aPure H (fun k => aPick t55 (.bool true) t58 (k · H)) fun t59 =>
 aPure H (fun k => k t59 H) fun t60 =>
 aGuardJ t60 false H (fun k => aPure H (fun l => l t0 H) (k · H)) fun t61 H =>
 aGuardJ t60 false H (fun k => aPure H (fun l => aFld 2 t3 (l · H)) (k · H)) fun t62 H =>
 aGuardJ t60 false H (fun k => aPure H (fun l => aLoad false 1 t62 H (l · H)) (k · H)) fun t63 H =>
 aGuardJ t60 false H (fun k => aPureX H (fun H l => ACalls tP n_zq90 [(.int .i64 1)] H l) (k · H)) fun t64 H =>
 aGuardJ t60 false H (fun k => aPureX H (fun H l => ACalls tP n_zq90 [(.int .i64 1)] H l) (k · H)) fun t65 H =>
 aGuardJ t60 false H (fun k => aPure H (fun l => aBuildS 3 [(.int .i64 0), (.int .i64 0), .snil] 2 [(0, t64), (1, t65)] (l · H)) (k · H)) fun t66 H =>
 aGuardJ t60 false H (fun k => aPureX H (fun H l => ACalls tP n_zq92 [t61, t63, t66] H l) (k · H)) fun t67 H =>
 aGuardJ t60 false H (fun k => aPure H (fun l => aUn .not t67 (l · H)) (k · H)) fun t68 H =>
 aPure H (fun k => aPick t60 (.bool true) t68 (k · H)) fun t69 =>
 aTest t69
 (K (.bool false) H)
 (aFld 1 t3 fun t70 =>
 aLoad false 1 t70 H fun t71 =>
 aBin .geq false t71 (.int .i64 6) fun t72 =>
 aTest t72
 (aPure H (fun k => aFld 5 t3 (k · H)) fun t73 =>
 aPure H (fun k => aLoad true 3 t73 H (k · H)) fun t74 =>
 aPureX H (fun H k => ACalls tP n_zq90 [(.int .i64 2)] H k) fun t75 =>
 aPureX H (fun H k => ACalls tP n_zq69 [t74, t75] H k) fun t76 =>
 aPure H (fun k => k t76 H) fun t4 =>
 K t4 H)
 (aPure H (fun k => aFld 5 t3 (k · H)) fun t77 =>
 aPure H (fun k => aLoad true 3 t77 H (k · H)) fun t78 =>
 aPureX H (fun H k => ACalls tP n_zq90 [(.int .i64 1)] H k) fun t79 =>
 aPureX H (fun H k => ACalls tP n_zq69 [t78, t79] H k) fun t80 =>
 aPure H (fun k => k t80 H) fun t4 =>
 K t4 H)))
 (aPure H (fun k => aFld 1 t3 (k · H)) fun t81 =>
 aPure H (fun k => aLoad false 1 t81 H (k · H)) fun t82 =>
 aPure H (fun k => k t0 H) fun t83 =>
 aPure H (fun k => aNil t83 (k · H)) fun t84 =>
 aPure H (fun k => aFld 0 t84 (k · H)) fun t85 =>
 aPure H (fun k => aFld 1 t85 (k · H)) fun t86 =>
 aPure H (fun k => aLoad false 1 t86 H (k · H)) fun t87 =>
 aPure H (fun k => aLen 1 t87 (k · H)) fun t88 =>
 aPure H (fun k => aBin .geq false t82 t88 (k · H)) fun t89 =>
 aTest t89
 (K (.bool false) H)
 (aPure H (fun k => k t0 H) fun t90 =>
 aPure H (fun k => aNil t90 (k · H)) fun t91 =>
 aPure H (fun k => aFld 0 t91 (k · H)) fun t92 =>
 aPure H (fun k => aFld 1 t92 (k · H)) fun t93 =>
 aPure H (fun k => aLoad false 1 t93 H (k · H)) fun t94 =>
 aPure H (fun k => aFld 1 t3 (k · H)) fun t95 =>
 aPure H (fun k => aLoad false 1 t95 H (k · H)) fun t96 =>
 aPure H (fun k => aIdxA 7 t94 t96 (k · H)) fun t97 =>
 aPure H (fun k => aLoad true 7 t97 H (k · H)) fun t98 =>
 aNew [(.str []), .snil, .snil, (.int .i64 0), (.int .i64 0), .snil, (.int .i64 0)] H fun t7 H =>
 aStore 7 t7 t98 H fun H =>
 aFld 0 t3 fun t99 =>
 aLoad false 1 t99 H fun t100 =>
 aBin .eql false t100 (.int .i64 12) fun t101 =>
 aTest t101
 (aPure H (fun k => aFld 0 t7 (k · H)) fun t102 =>
 aPure H (fun k => aLoad false 1 t102 H (k · H)) fun t103 =>
 aPure H (fun k => aBin .neq false t103 (.str []) (k · H)) fun t104 =>
 aPure H (fun k => k t104 H) fun t105 =>
 aGuardJ t105 true H (fun k => aPure H (fun l => l t0 H) (k · H)) fun t106 H =>
 aGuardJ t105 true H (fun k => aPure H (fun l => aFld 2 t3 (l · H)) (k · H)) fun t107 H =>
 aGuardJ t105 true H (fun k => aPure H (fun l => aLoad false 1 t107 H (l · H)) (k · H)) fun t108 H =>
 aGuardJ t105 true H (fun k => aPure H (fun l => l t0 H) (k · H)) fun t109 H =>
 aGuardJ t105 true H (fun k => aPure H (fun l => aFld 1 t7 (l · H)) (k · H)) fun t110 H =>
 aGuardJ t105 true H (fun k => aPure H (fun l => aLoad false 1 t110 H (l · H)) (k · H)) fun t111 H =>
 aGuardJ t105 true H (fun k => aPureX H (fun H l => ACalls tP n_zq94 [t109, t111] H l) (k · H)) fun t112 H =>
 aGuardJ t105 true H (fun k => aPureX H (fun H l => ACalls tP n_zq92 [t106, t108, t112] H l) (k · H)) fun t113 H =>
 aPure H (fun k => aPick t105 t113 (.bool false) (k · H)) fun t114 =>
 aPure H (fun k => k t114 H) fun t115 =>
 aGuardJ t115 true H (fun k => aPure H (fun l => aFld 5 t3 (l · H)) (k · H)) fun t116 H =>
 aGuardJ t115 true H (fun k => aPure H (fun l => aLoad true 3 t116 H (l · H)) (k · H)) fun t117 H =>
 aGuardJ t115 true H (fun k => aPure H (fun l => aFld 3 t7 (l · H)) (k · H)) fun t118 H =>
 aGuardJ t115 true H (fun k => aPure H (fun l => aLoad true 3 t118 H (l · H)) (k · H)) fun t119 H =>
 aGuardJ t115 true H (fun k => aPureX H (fun H l => ACalls tP n_zq69 [t117, t119] H l) (k · H)) fun t120 H =>
 aPure H (fun k => aPick t115 t120 (.bool false) (k · H)) fun t121 =>
 aPure H (fun k => k t121 H) fun t4 =>
 K t4 H)
 (aPure H (fun k => k t0 H) fun t122 =>
 aPure H (fun k => aNil t122 (k · H)) fun t123 =>
 aPure H (fun k => aFld 4 t123 (k · H)) fun t124 =>
 aPure H (fun k => aLoad false 1 t124 H (k · H)) fun t125 =>
 aPure H (fun k => aFld 1 t3 (k · H)) fun t126 =>
 aPure H (fun k => aLoad false 1 t126 H (k · H)) fun t127 =>
 aPure H (fun k => aIdxA 1 t125 t127 (k · H)) fun t128 =>
 aPure H (fun k => aLoad false 1 t128 H (k · H)) fun t129 =>
 aPure H (fun k => aBin .add false t129 (.int .i64 1) (k · H)) fun t130 =>
 aPure H (fun k => aIdxA 1 t125 t127 (k · H)) fun t131 =>
 aStore 1 t131 t130 H fun H =>
 aPure H (fun k => aFld 0 t7 (k · H)) fun t132 =>
 aPure H (fun k => aLoad false 1 t132 H (k · H)) fun t133 =>
 aPure H (fun k => aBin .eql false t133 (.str []) (k · H)) fun t134 =>
 aPure H (fun k => k t134 H) fun t135 =>
 aGuardJ t135 true H (fun k => aPure H (fun l => l t0 H) (k · H)) fun t136 H =>
 aGuardJ t135 true H (fun k => aPure H (fun l => aFld 2 t3 (l · H)) (k · H)) fun t137 H =>
 aGuardJ t135 true H (fun k => aPure H (fun l => aLoad false 1 t137 H (l · H)) (k · H)) fun t138 H =>
 aGuardJ t135 true H (fun k => aPure H (fun l => l t0 H) (k · H)) fun t139 H =>
 aGuardJ t135 true H (fun k => aPure H (fun l => aFld 2 t7 (l · H)) (k · H)) fun t140 H =>
 aGuardJ t135 true H (fun k => aPure H (fun l => aLoad false 1 t140 H (l · H)) (k · H)) fun t141 H =>
 aGuardJ t135 true H (fun k => aDet .g true H (fun l => ACalls tP n_zq94 [t139, t141] H l) k) fun t142 H =>
 aGuardJ t135 true H (fun k => aDet .g true H (fun l => ACalls tP n_zq92 [t136, t138, t142] H l) k) fun t143 H =>
 aPure H (fun k => aPick t135 t143 (.bool false) (k · H)) fun t144 =>
 aPure H (fun k => k t144 H) fun t145 =>
 aGuardJ t145 true H (fun k => aPure H (fun l => aFld 5 t3 (l · H)) (k · H)) fun t146 H =>
 aGuardJ t145 true H (fun k => aPure H (fun l => aLoad true 3 t146 H (l · H)) (k · H)) fun t147 H =>
 aGuardJ t145 true H (fun k => aPure H (fun l => l t0 H) (k · H)) fun t148 H =>
 aGuardJ t145 true H (fun k => aPure H (fun l => aFld 1 t7 (l · H)) (k · H)) fun t149 H =>
 aGuardJ t145 true H (fun k => aPure H (fun l => aLoad false 1 t149 H (l · H)) (k · H)) fun t150 H =>
 aGuardJ t145 true H (fun k => aDet .g true H (fun l => ACalls tP n_zq94 [t148, t150] H l) k) fun t151 H =>
 aGuardJ t145 true H (fun k => aPure H (fun l => aFld 3 t7 (l · H)) (k · H)) fun t152 H =>
 aGuardJ t145 true H (fun k => aPure H (fun l => aLoad true 3 t152 H (l · H)) (k · H)) fun t153 H =>
 aGuardJ t145 true H (fun k => aPure H (fun l => aBuildS 3 [(.int .i64 0), (.int .i64 0), .snil] 1 [(0, t153)] (l · H)) (k · H)) fun t154 H =>
 aGuardJ t145 true H (fun k => aDet .g false H (fun l => aAppend e_api_Type 3 40 t151 t154 H l) k) fun t155 H =>
 aGuardJ t145 true H (fun k => aDet .g true H (fun l => ACalls tP n_zq93 [(.int .i64 9), t155] H l) k) fun t156 H =>
 aGuardJ t145 true H (fun k => aDet .g true H (fun l => ACalls tP n_zq69 [t147, t156] H l) k) fun t157 H =>
 aPure H (fun k => aPick t145 t157 (.bool false) (k · H)) fun t158 =>
 aPure H (fun k => k t158 H) fun t4 =>
 K t4 H)))))
theorem zq88_eq (t0 t1 : AV) (H : Heap) (K : Kt) : awp tP zq88_M zq88_c (retQ tP zq88_r K) (t0 :: t1 :: List.replicate 157 .unk) H = zq88 t0 t1 H K := by kernel_rfl
theorem zq88_ok {t0 t1 : AV} {H : Heap} {K : Kt} (h : HSc H → zq88 t0 t1 H K) : ACalls tP n_zq88 [t0, t1] H K :=
 acalls_body (M := zq88_M) Try.func90 (c := zq88_c) (by kernel_rfl) (fun hs => (zq88_eq t0 t1 H K).mpr (h hs))
def zq95_M : Nat → List Bool
 | 19 => rl false [0,1,2,1,2,1,148,2,30]
 | 100013 => rl false [0,1,2,1,183]
 | 157011 => rl false [0,1,2,1,7,1,50,1,124]
 | _ => []
noncomputable def zq95_c : Code := Try.f97.body.getD .skip
noncomputable def zq95_r : List ResultVar := Try.f97.results.toList
def zq95_fr19 (t0 t3 t6 t155 t156 : AV) : List AV := t0 :: ux 2 (t3 :: ux 2 (t6 :: ux 148 (t155 :: t156 :: ux 30 [])))
def zq95_m19 : List Bool := zq95_M 19
noncomputable def zq95_c19 : Code := codeAt [1, 1, 1, 1, 1, 0, 1, 0, 0] zq95_c
def zq95_Q19 (K : Kt) : AExit → List AV → Heap → Prop := contAt tP zq95_M [1, 1, 1, 1, 1, 0, 1, 0] zq95_c (retQ tP zq95_r K)
def zq95_l19 (t0 t3 t6 t155 t156 : AV) (H : Heap) (K : Kt) : Prop := ALoop tP zq95_c19 (zq95_Q19 K) (zq95_fr19 t0 t3 t6 t155 t156) H
def zq95_b19 (t0 t3 t6 t155 t156 : AV) (H : Heap) (K : Kt) (Kb19 : Lt) : Prop :=
 aBin .lss false t156 t155 fun t157 =>
 aTest t157
 (aPure H (fun k => k t0 H) fun t160 =>
 aPure H (fun k => aNil t160 (k · H)) fun t161 =>
 aPure H (fun k => aFld 0 t161 (k · H)) fun t162 =>
 aPure H (fun k => aFld 0 t162 (k · H)) fun t163 =>
 aPure H (fun k => aLoad false 1 t163 H (k · H)) fun t164 =>
 aPure H (fun k => aLoad true 3 t6 H (k · H)) fun t165 =>
 aPure H (fun k => k t156 H) fun t166 =>
 aPureX H (fun H k => ACalls tP n_zq103 [t164, t165, t166] H k) fun t167 =>
 aPure H (fun k => k t167 H) fun t159 =>
 aPure H (fun k => aExt t159 0 (k · H)) fun t168 =>
 aPure H (fun k => aExt t159 1 (k · H)) fun t169 =>
 aPure H (fun k => k t168 H) fun t8 =>
 aPure H (fun k => k t169 H) fun t9 =>
 aUn .not t9 fun t171 =>
 aGuardJ t171 false H (fun k => k t0 H) fun t173 H =>
 aGuardJ t171 false H (fun k => aFld 3 t3 (k · H)) fun t174 H =>
 aGuardJ t171 false H (fun k => aLoad false 1 t174 H (k · H)) fun t175 H =>
 aGuardJ t171 false H (fun k => k t156 H) fun t176 H =>
 aGuardJ t171 false H (fun k => aIdxA 1 t175 t176 (k · H)) fun t177 H =>
 aGuardJ t171 false H (fun k => aLoad false 1 t177 H (k · H)) fun t178 H =>
 aGuardJ t171 false H (fun k => k t8 H) fun t179 H =>
 aGuardJ t171 false H (fun k => ACalls tP n_zq92 [t173, t178, t179] H k) fun t180 H =>
 aGuardJ t171 false H (fun k => aUn .not t180 (k · H)) fun t181 H =>
 aPick t171 (.bool true) t181 fun t182 =>
 aTest t182
 (K (.bool false) H)
 (aBin .add false t156 (.int .i64 1) fun t183 =>
 Kb19 (zq95_fr19 t0 t3 t6 t155 t183) H))
 (aLoad true 8 t3 H fun t185 =>
 ACalls tP n_zq106 [t0, t185, (.int .i64 0)] H fun t186 H =>
 K t186 H)
noncomputable def zq95_j2_c : Code := codeAt [1, 1] zq95_c
def zq95_j2_Q (K : Kt) : AExit → List AV → Heap → Prop := contAt tP zq95_M [1, 1] zq95_c (retQ tP zq95_r K)
def zq95_j2 (t0 t3 : AV) (H : Heap) (K : Kt) : Prop := AWp tP zq95_j2_c (zq95_j2_Q K) (t0 :: ux 2 (t3 :: ux 183 [])) H
def zq95_j2b (t0 t3 : AV) (H : Heap) (K : Kt) : Prop :=
 aFld 2 t3 fun t118 =>
 aLoad false 1 t118 H fun t119 =>
 aLen 1 t119 fun t120 =>
 aBin .neq false t120 (.int .i64 1) fun t121 =>
 aTest t121
 (K (.bool false) H)
 (aPure H (fun k => k t0 H) fun t122 =>
 aPure H (fun k => aNil t122 (k · H)) fun t123 =>
 aPure H (fun k => aFld 0 t123 (k · H)) fun t124 =>
 aPure H (fun k => aFld 2 t124 (k · H)) fun t125 =>
 aPure H (fun k => aLoad false 1 t125 H (k · H)) fun t126 =>
 aPure H (fun k => aFld 2 t3 (k · H)) fun t127 =>
 aPure H (fun k => aLoad false 1 t127 H (k · H)) fun t128 =>
 aPure H (fun k => aIdxA 1 t128 (.int .i64 0) (k · H)) fun t129 =>
 aPure H (fun k => aLoad false 1 t129 H (k · H)) fun t130 =>
 aPure H (fun k => aIdxA 3 t126 t130 (k · H)) fun t131 =>
 aPure H (fun k => aLoad true 3 t131 H (k · H)) fun t132 =>
 aNew [(.int .i64 0), (.int .i64 0), .snil] H fun t6 H =>
 aStore 3 t6 t132 H fun H =>
 aPure H (fun k => aFld 0 t6 (k · H)) fun t133 =>
 aPure H (fun k => aLoad false 1 t133 H (k · H)) fun t134 =>
 aPure H (fun k => aBin .neq false t134 (.int .i64 5) (k · H)) fun t135 =>
 aPure H (fun k => k t135 H) fun t136 =>
 aGuardJ t136 false H (fun k => aPure H (fun l => aFld 4 t3 (l · H)) (k · H)) fun t137 H =>
 aGuardJ t136 false H (fun k => aPure H (fun l => aLoad false 1 t137 H (l · H)) (k · H)) fun t138 H =>
 aGuardJ t136 false H (fun k => aPure H (fun l => aLen 1 t138 (l · H)) (k · H)) fun t139 H =>
 aGuardJ t136 false H (fun k => aPure H (fun l => l t0 H) (k · H)) fun t140 H =>
 aGuardJ t136 false H (fun k => aPure H (fun l => aNil t140 (l · H)) (k · H)) fun t141 H =>
 aGuardJ t136 false H (fun k => aPure H (fun l => aFld 0 t141 (l · H)) (k · H)) fun t142 H =>
 aGuardJ t136 false H (fun k => aPure H (fun l => aFld 0 t142 (l · H)) (k · H)) fun t143 H =>
 aGuardJ t136 false H (fun k => aPure H (fun l => aLoad false 1 t143 H (l · H)) (k · H)) fun t144 H =>
 aGuardJ t136 false H (fun k => aPure H (fun l => aFld 1 t6 (l · H)) (k · H)) fun t145 H =>
 aGuardJ t136 false H (fun k => aPure H (fun l => aLoad false 1 t145 H (l · H)) (k · H)) fun t146 H =>
 aGuardJ t136 false H (fun k => aPure H (fun l => aIdxA 3 t144 t146 (l · H)) (k · H)) fun t147 H =>
 aGuardJ t136 false H (fun k => aPure H (fun l => aFld 2 t147 (l · H)) (k · H)) fun t148 H =>
 aGuardJ t136 false H (fun k => aPure H (fun l => aLoad false 1 t148 H (l · H)) (k · H)) fun t149 H =>
 aGuardJ t136 false H (fun k => aPure H (fun l => aLen 1 t149 (l · H)) (k · H)) fun t150 H =>
 aGuardJ t136 false H (fun k => aPure H (fun l => aBin .neq false t139 t150 (l · H)) (k · H)) fun t151 H =>
 aPure H (fun k => aPick t136 (.bool true) t151 (k · H)) fun t152 =>
 aTest t152
 (K (.bool false) H)
 (aFld 4 t3 fun t153 =>
 aLoad false 1 t153 H fun t154 =>
 aLen 1 t154 fun t155 =>
 zq95_l19 t0 t3 t6 t155 (.int .i64 0) H K))
noncomputable def zq95_j1_c : Code := codeAt [1, 0, 1, 0, 1, 1, 1, 1, 1] zq95_c
def zq95_j1_Q (K : Kt) : AExit → List AV → Heap → Prop := contAt tP zq95_M [1, 0, 1, 0, 1, 1, 1, 1, 1] zq95_c (retQ tP zq95_r K)
def zq95_j1 (t0 t3 t11 t62 : AV) (H : Heap) (K : Kt) : Prop := AWp tP zq95_j1_c (zq95_j1_Q K) (t0 :: ux 2 (t3 :: ux 7 (t11 :: ux 50 (t62 :: ux 124 [])))) H
def zq95_j1b (t0 t3 t11 t62 : AV) (H : Heap) (K : Kt) : Prop :=
 aTest t62
 (aLoad true 8 t3 H fun t64 =>
 ACalls tP n_zq89 [t64, (.int .i64 1), (.int .i64 1)] H fun t65 H =>
 aUn .not t65 fun t66 =>
 aTest t66
 (K (.bool false) H)
 (aPure H (fun k => k t0 H) fun t67 =>
 aPure H (fun k => aNil t67 (k · H)) fun t68 =>
 aPure H (fun k => aFld 0 t68 (k · H)) fun t69 =>
 aPure H (fun k => aFld 2 t69 (k · H)) fun t70 =>
 aPure H (fun k => aLoad false 1 t70 H (k · H)) fun t71 =>
 aPure H (fun k => aFld 2 t3 (k · H)) fun t72 =>
 aPure H (fun k => aLoad false 1 t72 H (k · H)) fun t73 =>
 aPure H (fun k => aIdxA 1 t73 (.int .i64 0) (k · H)) fun t74 =>
 aPure H (fun k => aLoad false 1 t74 H (k · H)) fun t75 =>
 aPure H (fun k => aIdxA 3 t71 t75 (k · H)) fun t76 =>
 aPure H (fun k => aLoad true 3 t76 H (k · H)) fun t77 =>
 aNew [(.int .i64 0), (.int .i64 0), .snil] H fun t5 H =>
 aStore 3 t5 t77 H fun H =>
 aPure H (fun k => aFld 0 t5 (k · H)) fun t78 =>
 aPure H (fun k => aLoad false 1 t78 H (k · H)) fun t79 =>
 aPure H (fun k => aBin .eql false t79 (.int .i64 6) (k · H)) fun t80 =>
 aPure H (fun k => k t80 H) fun t81 =>
 aGuardJ t81 true H (fun k => aPure H (fun l => l t0 H) (k · H)) fun t82 H =>
 aGuardJ t81 true H (fun k => aPure H (fun l => aFld 3 t3 (l · H)) (k · H)) fun t83 H =>
 aGuardJ t81 true H (fun k => aPure H (fun l => aLoad false 1 t83 H (l · H)) (k · H)) fun t84 H =>
 aGuardJ t81 true H (fun k => aPure H (fun l => aIdxA 1 t84 (.int .i64 0) (l · H)) (k · H)) fun t85 H =>
 aGuardJ t81 true H (fun k => aPure H (fun l => aLoad false 1 t85 H (l · H)) (k · H)) fun t86 H =>
 aGuardJ t81 true H (fun k => aPure H (fun l => aFld 2 t5 (l · H)) (k · H)) fun t87 H =>
 aGuardJ t81 true H (fun k => aPure H (fun l => aLoad false 1 t87 H (l · H)) (k · H)) fun t88 H =>
 aGuardJ t81 true H (fun k => aPureX H (fun H l => ACalls tP n_zq92 [t82, t86, t88] H l) (k · H)) fun t89 H =>
 aPure H (fun k => aPick t81 t89 (.bool false) (k · H)) fun t90 =>
 aPure H (fun k => k t90 H) fun t91 =>
 aGuardJ t91 true H (fun k => aPure H (fun l => l t0 H) (k · H)) fun t92 H =>
 aGuardJ t91 true H (fun k => aPure H (fun l => aLoad true 8 t3 H (l · H)) (k · H)) fun t93 H =>
 aGuardJ t91 true H (fun k => aPureX H (fun H l => ACalls tP n_zq106 [t92, t93, (.int .i64 0)] H l) (k · H)) fun t94 H =>
 aPure H (fun k => aPick t91 t94 (.bool false) (k · H)) fun t95 =>
 aPure H (fun k => k t95 H) fun t4 =>
 K t4 H))
 (aBin .eql false t11 (.int .i64 9) fun t97 =>
 aTest t97
 (aPure H (fun k => aLoad true 8 t3 H (k · H)) fun t98 =>
 aPureX H (fun H k => ACalls tP n_zq89 [t98, (.int .i64 1), (.int .i64 2)] H k) fun t99 =>
 aPure H (fun k => k t99 H) fun t100 =>
 aGuardJ t100 true H (fun k => aPure H (fun l => aLoad true 8 t3 H (l · H)) (k · H)) fun t101 H =>
 aGuardJ t100 true H (fun k => aPure H (fun l => aBuildS 1 [(.int .i64 0)] 2 [(0, (.int .i64 0)), (1, (.int .i64 0))] (l · H)) (k · H)) fun t102 H =>
 aGuardJ t100 true H (fun k => aPureX H (fun H l => ACalls tP n_zq104 [t101, t102] H l) (k · H)) fun t103 H =>
 aPure H (fun k => aPick t100 t103 (.bool false) (k · H)) fun t104 =>
 aPure H (fun k => k t104 H) fun t105 =>
 aGuardJ t105 true H (fun k => aPure H (fun l => l t0 H) (k · H)) fun t106 H =>
 aGuardJ t105 true H (fun k => aPure H (fun l => aFld 2 t3 (l · H)) (k · H)) fun t107 H =>
 aGuardJ t105 true H (fun k => aPure H (fun l => aLoad false 1 t107 H (l · H)) (k · H)) fun t108 H =>
 aGuardJ t105 true H (fun k => aPureX H (fun H l => ACalls tP n_zq90 [(.int .i64 2)] H l) (k · H)) fun t109 H =>
 aGuardJ t105 true H (fun k => aPure H (fun l => aBuildS 3 [(.int .i64 0), (.int .i64 0), .snil] 1 [(0, t109)] (l · H)) (k · H)) fun t110 H =>
 aGuardJ t105 true H (fun k => aPureX H (fun H l => ACalls tP n_zq92 [t106, t108, t110] H l) (k · H)) fun t111 H =>
 aPure H (fun k => aPick t105 t111 (.bool false) (k · H)) fun t112 =>
 aPure H (fun k => k t112 H) fun t113 =>
 aGuardJ t113 true H (fun k => aPure H (fun l => l t0 H) (k · H)) fun t114 H =>
 aGuardJ t113 true H (fun k => aPure H (fun l => aLoad true 8 t3 H (l · H)) (k · H)) fun t115 H =>
 aGuardJ t113 true H (fun k => aPureX H (fun H l => ACalls tP n_zq106 [t114, t115, (.int .i64 0)] H l) (k · H)) fun t116 H =>
 aPure H (fun k => aPick t113 t116 (.bool false) (k · H)) fun t117 =>
 aPure H (fun k => k t117 H) fun t4 =>
 K t4 H)
 (zq95_j2 t0 t3 H K))
def zq95 (t0 t1 : AV) (H : Heap) (K : Kt) : Prop :=
 aBox t1 H fun t3 H =>
 aFld 0 t3 fun t10 =>
 aLoad false 1 t10 H fun t11 =>
 aBin .eql false t11 (.int .i64 7) fun t13 =>
 aTest t13
 (aPure H (fun k => aLoad true 8 t3 H (k · H)) fun t14 =>
 aPureX H (fun H k => ACalls tP n_zq89 [t14, (.int .i64 0), (.int .i64 2)] H k) fun t15 =>
 aPure H (fun k => k t15 H) fun t16 =>
 aGuardJ t16 true H (fun k => aPure H (fun l => aLoad true 8 t3 H (l · H)) (k · H)) fun t17 H =>
 aGuardJ t16 true H (fun k => aPure H (fun l => aBuildS 1 [(.int .i64 0)] 2 [(0, (.int .i64 0)), (1, (.int .i64 1))] (l · H)) (k · H)) fun t18 H =>
 aGuardJ t16 true H (fun k => aPureX H (fun H l => ACalls tP n_zq104 [t17, t18] H l) (k · H)) fun t19 H =>
 aPure H (fun k => aPick t16 t19 (.bool false) (k · H)) fun t20 =>
 aPure H (fun k => k t20 H) fun t21 =>
 aGuardJ t21 true H (fun k => aPure H (fun l => l t0 H) (k · H)) fun t22 H =>
 aGuardJ t21 true H (fun k => aPure H (fun l => aFld 3 t3 (l · H)) (k · H)) fun t23 H =>
 aGuardJ t21 true H (fun k => aPure H (fun l => aLoad false 1 t23 H (l · H)) (k · H)) fun t24 H =>
 aGuardJ t21 true H (fun k => aPure H (fun l => aIdxA 1 t24 (.int .i64 1) (l · H)) (k · H)) fun t25 H =>
 aGuardJ t21 true H (fun k => aPure H (fun l => aLoad false 1 t25 H (l · H)) (k · H)) fun t26 H =>
 aGuardJ t21 true H (fun k => aPure H (fun l => l t0 H) (k · H)) fun t27 H =>
 aGuardJ t21 true H (fun k => aPure H (fun l => aLoad true 8 t3 H (l · H)) (k · H)) fun t28 H =>
 aGuardJ t21 true H (fun k => aPureX H (fun H l => ACalls tP n_zq105 [t27, t28, (.int .i64 0)] H l) (k · H)) fun t29 H =>
 aGuardJ t21 true H (fun k => aPure H (fun l => aBuildS 3 [(.int .i64 0), (.int .i64 0), .snil] 1 [(0, t29)] (l · H)) (k · H)) fun t30 H =>
 aGuardJ t21 true H (fun k => aPureX H (fun H l => ACalls tP n_zq92 [t22, t26, t30] H l) (k · H)) fun t31 H =>
 aPure H (fun k => aPick t21 t31 (.bool false) (k · H)) fun t32 =>
 aPure H (fun k => k t32 H) fun t33 =>
 aGuardJ t33 true H (fun k => aPure H (fun l => l t0 H) (k · H)) fun t34 H =>
 aGuardJ t33 true H (fun k => aPure H (fun l => aLoad true 8 t3 H (l · H)) (k · H)) fun t35 H =>
 aGuardJ t33 true H (fun k => aPureX H (fun H l => ACalls tP n_zq106 [t34, t35, (.int .i64 1)] H l) (k · H)) fun t36 H =>
 aPure H (fun k => aPick t33 t36 (.bool false) (k · H)) fun t37 =>
 aPure H (fun k => k t37 H) fun t4 =>
 K t4 H)
 (aBin .eql false t11 (.int .i64 24) fun t39 =>
 aTest t39
 (aPure H (fun k => aLoad true 8 t3 H (k · H)) fun t40 =>
 aPureX H (fun H k => ACalls tP n_zq89 [t40, (.int .i64 0), (.int .i64 2)] H k) fun t41 =>
 aPure H (fun k => k t41 H) fun t42 =>
 aGuardJ t42 true H (fun k => aPure H (fun l => aLoad true 8 t3 H (l · H)) (k · H)) fun t43 H =>
 aGuardJ t42 true H (fun k => aPure H (fun l => aBuildS 1 [(.int .i64 0)] 2 [(0, (.int .i64 0)), (1, (.int .i64 1))] (l · H)) (k · H)) fun t44 H =>
 aGuardJ t42 true H (fun k => aPureX H (fun H l => ACalls tP n_zq104 [t43, t44] H l) (k · H)) fun t45 H =>
 aPure H (fun k => aPick t42 t45 (.bool false) (k · H)) fun t46 =>
 aPure H (fun k => k t46 H) fun t47 =>
 aGuardJ t47 true H (fun k => aPure H (fun l => l t0 H) (k · H)) fun t48 H =>
 aGuardJ t47 true H (fun k => aPure H (fun l => aFld 3 t3 (l · H)) (k · H)) fun t49 H =>
 aGuardJ t47 true H (fun k => aPure H (fun l => aLoad false 1 t49 H (l · H)) (k · H)) fun t50 H =>
 aGuardJ t47 true H (fun k => aPure H (fun l => aIdxA 1 t50 (.int .i64 1) (l · H)) (k · H)) fun t51 H =>
 aGuardJ t47 true H (fun k => aPure H (fun l => aLoad false 1 t51 H (l · H)) (k · H)) fun t52 H =>
 aGuardJ t47 true H (fun k => aPureX H (fun H l => ACalls tP n_zq90 [(.int .i64 1)] H l) (k · H)) fun t53 H =>
 aGuardJ t47 true H (fun k => aPure H (fun l => aBuildS 3 [(.int .i64 0), (.int .i64 0), .snil] 1 [(0, t53)] (l · H)) (k · H)) fun t54 H =>
 aGuardJ t47 true H (fun k => aPureX H (fun H l => ACalls tP n_zq92 [t48, t52, t54] H l) (k · H)) fun t55 H =>
 aPure H (fun k => aPick t47 t55 (.bool false) (k · H)) fun t56 =>
 aPure H (fun k => k t56 H) fun t57 =>
 aGuardJ t57 true H (fun k => aPure H (fun l => l t0 H) (k · H)) fun t58 H =>
 aGuardJ t57 true H (fun k => aPure H (fun l => aLoad true 8 t3 H (l · H)) (k · H)) fun t59 H =>
 aGuardJ t57 true H (fun k => aPureX H (fun H l => ACalls tP n_zq106 [t58, t59, (.int .i64 0)] H l) (k · H)) fun t60 H =>
 aPure H (fun k => aPick t57 t60 (.bool false) (k · H)) fun t61 =>
 aPure H (fun k => k t61 H) fun t4 =>
 K t4 H)
 (aBin .eql false t11 (.int .i64 8) fun t63 =>
 zq95_j1 t0 t3 t11 t63 H K))
theorem zq95_b19_eq (t0 t3 t6 t155 t156 : AV) (H : Heap) (K : Kt) (Kb19 : Lt) : awp tP zq95_M zq95_c19 (roundQ zq95_m19 Kb19 (zq95_Q19 K)) (zq95_fr19 t0 t3 t6 t155 t156) H = zq95_b19 t0 t3 t6 t155 t156 H K Kb19 := by kernel_rfl
theorem zq95_loop19 {t0 t3 t6 t155 t156 : AV} {H : Heap} {K : Kt} (Inv : Nat → AV → Heap → Prop) (n : Nat) (h0 : HSc H → Inv n t156 H)
   (round : ∀ n t156 H', Inv n t156 H' → HSc H' → H.length ≤ H'.length → (zq95_fr19 t0 t3 t6 t155 t156).all (AV.sc H'.length) = true → ∀ Kb19 : Lt, (∀ F'' H'', (∃ n', n' < n ∧ Back H.length (fun F2 H2 => ∃ t156, F2 = zq95_fr19 t0 t3 t6 t155 t156 ∧ Inv n' t156 H2) F'' H'') → Kb19 F'' H'') → zq95_b19 t0 t3 t6 t155 t156 H' K Kb19) : zq95_l19 t0 t3 t6 t155 t156 H K :=
 aloop (M := zq95_M) zq95_m19 (fun n F H => ∃ t156, F = zq95_fr19 t0 t3 t6 t155 t156 ∧ Inv n t156 H) n (fun hs _ => ⟨t156, rfl, h0 hs⟩) (fun n F H' ⟨t156, hF, hI⟩ h1 h2 h3 => by subst hF; rw [zq95_b19_eq]; exact round n t156 H' hI h1 h2 h3 _ (fun _ _ h => h))
theorem zq95_j2_eq (t0 t3 : AV) (H : Heap) (K : Kt) : awp tP zq95_M zq95_j2_c (zq95_j2_Q K) (t0 :: ux 2 (t3 :: ux 183 [])) H = zq95_j2b t0 t3 H K := by kernel_rfl
theorem zq95_j2_ok {t0 t3 : AV} {H : Heap} {K : Kt} (h : HSc H → zq95_j2b t0 t3 H K) : zq95_j2 t0 t3 H K :=
 fun B w G a hH hF hd => awp_sound (M := zq95_M) _ _ _ _ ((zq95_j2_eq t0 t3 H K).mpr (h hH.sc)) B w G a hH hF hd
theorem zq95_j1_eq (t0 t3 t11 t62 : AV) (H : Heap) (K : Kt) : awp tP zq95_M zq95_j1_c (zq95_j1_Q K) (t0 :: ux 2 (t3 :: ux 7 (t11 :: ux 50 (t62 :: ux 124 [])))) H = zq95_j1b t0 t3 t11 t62 H K := by kernel_rfl
theorem zq95_j1_ok {t0 t3 t11 t62 : AV} {H : Heap} {K : Kt} (h : HSc H → zq95_j1b t0 t3 t11 t62 H K) : zq95_j1 t0 t3 t11 t62 H K :=
 fun B w G a hH hF hd => awp_sound (M := zq95_M) _ _ _ _ ((zq95_j1_eq t0 t3 t11 t62 H K).mpr (h hH.sc)) B w G a hH hF hd
theorem zq95_eq (t0 t1 : AV) (H : Heap) (K : Kt) : awp tP zq95_M zq95_c (retQ tP zq95_r K) (t0 :: t1 :: List.replicate 185 .unk) H = zq95 t0 t1 H K := by kernel_rfl
theorem zq95_ok {t0 t1 : AV} {H : Heap} {K : Kt} (h : HSc H → zq95 t0 t1 H K) : ACalls tP n_zq95 [t0, t1] H K :=
 acalls_body (M := zq95_M) Try.func97 (c := zq95_c) (by kernel_rfl) (fun hs => (zq95_eq t0 t1 H K).mpr (h hs))
def zq96_M : Nat → List Bool
 | 180031 => rl false [0,1,2,1,2,3,2,1,85,1,46,1,30]
 | 168008 => rl false [0,1,2,1,2,4,69,1,95]
 | 100004 => rl false [0,1,2,1,171]
 | _ => []
noncomputable def zq96_c : Code := Try.f98.body.getD .skip
noncomputable def zq96_r : List ResultVar := Try.f98.results.toList
noncomputable def zq96_j4_c : Code := codeAt [1, 1, 1, 1, 1, 1, 1, 0, 1, 0, 1, 1, 1, 1, 1, 1, 1] zq96_c
def zq96_j4_Q (K : Kt) : AExit → List AV → Heap → Prop := contAt tP zq96_M [1, 1, 1, 1, 1, 1, 1, 0, 1, 0, 1, 1, 1, 1, 1, 1, 1] zq96_c (retQ tP zq96_r K)
def zq96_j4 (t0 t3 t6 t7 t8 t11 t97 t144 : AV) (H : Heap) (K : Kt) : Prop := AWp tP zq96_j4_c (zq96_j4_Q K) (t0 :: ux 2 (t3 :: ux 2 (t6 :: t7 :: t8 :: ux 2 (t11 :: ux 85 (t97 :: ux 46 (t144 :: ux 30 [])))))) H
def zq96_j4b (t0 t3 t6 t7 t8 t11 t97 t144 : AV) (H : Heap) (K : Kt) : Prop :=
 aTest t144
 (aFld 5 t3 fun t146 =>
 aLoad true 3 t146 H fun t147 =>
 aLoad true 3 t6 H fun t148 =>
 ACalls tP n_zq69 [t147, t148] H fun t149 H =>
 K t149 H)
 (aBin .eql false t97 (.int .i64 19) fun t151 =>
 aTest t151
 (aFld 5 t3 fun t152 =>
 aLoad true 3 t152 H fun t153 =>
 aLoad true 3 t11 H fun t154 =>
 ACalls tP n_zq69 [t153, t154] H fun t155 H =>
 K t155 H)
 (aBin .eql false t97 (.int .i64 20) fun t157 =>
 aTest t157
 (aFld 5 t3 fun t158 =>
 aLoad true 3 t158 H fun t159 =>
 aLoad true 3 t8 H fun t160 =>
 ACalls tP n_zq69 [t159, t160] H fun t161 H =>
 K t161 H)
 (aFld 2 t3 fun t163 =>
 aLoad false 1 t163 H fun t164 =>
 aLoad true 3 t11 H fun t165 =>
 aLoad true 3 t8 H fun t166 =>
 aBuildS 3 [(.int .i64 0), (.int .i64 0), .snil] 2 [(0, t165), (1, t166)] fun t167 =>
 ACalls tP n_zq92 [t0, t164, t167] H fun t168 H =>
 aGuardJ t168 true H (fun k => aFld 5 t3 (k · H)) fun t170 H =>
 aGuardJ t168 true H (fun k => aLoad true 3 t170 H (k · H)) fun t171 H =>
 aGuardJ t168 true H (fun k => aLoad true 3 t7 H (k · H)) fun t172 H =>
 aGuardJ t168 true H (fun k => ACalls tP n_zq69 [t171, t172] H k) fun t173 H =>
 aPick t168 t173 (.bool false) fun t174 =>
 K t174 H)))
def zq96_j3 (t0 t3 t6 t7 t8 : AV) (H : Heap) (K : Kt) : Prop :=
 aPure H (fun k => aLoad true 3 t8 H (k · H)) fun t90 =>
 aPure H (fun k => aBuildS 3 [(.int .i64 0), (.int .i64 0), .snil] 1 [(0, t90)] (k · H)) fun t91 =>
 aPureX H (fun H k => ACalls tP n_zq93 [(.int .i64 7), t91] H k) fun t92 =>
 aPure H (fun k => aLoad true 3 t8 H (k · H)) fun t93 =>
 aPure H (fun k => aBuildS 3 [(.int .i64 0), (.int .i64 0), .snil] 1 [(0, t93)] (k · H)) fun t94 =>
 aPureX H (fun H k => ACalls tP n_zq93 [(.int .i64 8), t94] H k) fun t95 =>
 aNew [(.int .i64 0), (.int .i64 0), .snil] H fun t10 H =>
 aNew [(.int .i64 0), (.int .i64 0), .snil] H fun t11 H =>
 aStore 3 t10 t92 H fun H =>
 aStore 3 t11 t95 H fun H =>
 aFld 0 t3 fun t96 =>
 aLoad false 1 t96 H fun t97 =>
 aBin .eql false t97 (.int .i64 15) fun t99 =>
 aTest t99
 (aFld 2 t3 fun t101 =>
 aLoad false 1 t101 H fun t102 =>
 aLoad true 3 t6 H fun t103 =>
 aLoad true 3 t8 H fun t104 =>
 aBuildS 3 [(.int .i64 0), (.int .i64 0), .snil] 2 [(0, t103), (1, t104)] fun t105 =>
 ACalls tP n_zq92 [t0, t102, t105] H fun t106 H =>
 aGuardJ t106 true H (fun k => aFld 5 t3 (k · H)) fun t108 H =>
 aGuardJ t106 true H (fun k => aLoad true 3 t108 H (k · H)) fun t109 H =>
 aGuardJ t106 true H (fun k => aLoad true 3 t10 H (k · H)) fun t110 H =>
 aGuardJ t106 true H (fun k => ACalls tP n_zq69 [t109, t110] H k) fun t111 H =>
 aPick t106 t111 (.bool false) fun t112 =>
 K t112 H)
 (aBin .eql false t97 (.int .i64 16) fun t114 =>
 aTest t114
 (aFld 2 t3 fun t116 =>
 aLoad false 1 t116 H fun t117 =>
 aLoad true 3 t10 H fun t118 =>
 aLoad true 3 t6 H fun t119 =>
 aBuildS 3 [(.int .i64 0), (.int .i64 0), .snil] 2 [(0, t118), (1, t119)] fun t120 =>
 ACalls tP n_zq92 [t0, t117, t120] H fun t121 H =>
 aGuardJ t121 true H (fun k => aFld 5 t3 (k · H)) fun t123 H =>
 aGuardJ t121 true H (fun k => aLoad true 3 t123 H (k · H)) fun t124 H =>
 aGuardJ t121 true H (fun k => aLoad true 3 t8 H (k · H)) fun t125 H =>
 aGuardJ t121 true H (fun k => ACalls tP n_zq69 [t124, t125] H k) fun t126 H =>
 aPick t121 t126 (.bool false) fun t127 =>
 K t127 H)
 (aBin .eql false t97 (.int .i64 17) fun t129 =>
 aTest t129
 (aFld 2 t3 fun t131 =>
 aLoad false 1 t131 H fun t132 =>
 aLoad true 3 t10 H fun t133 =>
 aLoad true 3 t6 H fun t134 =>
 aLoad true 3 t8 H fun t135 =>
 aBuildS 3 [(.int .i64 0), (.int .i64 0), .snil] 3 [(0, t133), (1, t134), (2, t135)] fun t136 =>
 ACalls tP n_zq92 [t0, t132, t136] H fun t137 H =>
 aGuardJ t137 true H (fun k => aFld 5 t3 (k · H)) fun t139 H =>
 aGuardJ t137 true H (fun k => aLoad true 3 t139 H (k · H)) fun t140 H =>
 aGuardJ t137 true H (fun k => aLoad true 3 t7 H (k · H)) fun t141 H =>
 aGuardJ t137 true H (fun k => ACalls tP n_zq69 [t140, t141] H k) fun t142 H =>
 aPick t137 t142 (.bool false) fun t143 =>
 K t143 H)
 (aBin .eql false t97 (.int .i64 18) fun t145 =>
 zq96_j4 t0 t3 t6 t7 t8 t11 t97 t145 H K)))
def zq96_j2 (t0 t3 t6 t7 t8 : AV) (H : Heap) (K : Kt) : Prop :=
 zq96_j3 t0 t3 t6 t7 t8 H K
noncomputable def zq96_j5_c : Code := codeAt [1, 1, 1, 1, 1, 0, 1, 1, 0, 1, 1, 1, 1, 1] zq96_c
def zq96_j5_Q (K : Kt) : AExit → List AV → Heap → Prop := contAt tP zq96_M [1, 1, 1, 1, 1, 0, 1, 1, 0, 1, 1, 1, 1, 1] zq96_c (retQ tP zq96_r K)
def zq96_j5 (t0 t3 t6 t7 t8 t9 t79 : AV) (H : Heap) (K : Kt) : Prop := AWp tP zq96_j5_c (zq96_j5_Q K) (t0 :: ux 2 (t3 :: ux 2 (t6 :: t7 :: t8 :: t9 :: ux 69 (t79 :: ux 95 [])))) H
def zq96_j5b (t0 t3 t6 t7 t8 t9 t79 : AV) (H : Heap) (K : Kt) : Prop :=
 aTest t79
 (aFld 0 t9 fun t83 =>
 aLoad false 1 t83 H fun t84 =>
 aBin .neq false t84 (.int .i64 7) fun t85 =>
 aTest t85
 (K (.bool false) H)
 (aFld 2 t9 fun t86 =>
 aLoad false 1 t86 H fun t87 =>
 aIdxA 3 t87 (.int .i64 0) fun t88 =>
 aLoad true 3 t88 H fun t89 =>
 aStore 3 t8 t89 H fun H =>
 zq96_j2 t0 t3 t6 t7 t8 H K))
 (aFld 0 t9 fun t56 =>
 aLoad false 1 t56 H fun t57 =>
 aBin .neq false t57 (.int .i64 8) fun t58 =>
 aTest t58
 (K (.bool false) H)
 (aFld 2 t9 fun t59 =>
 aLoad false 1 t59 H fun t60 =>
 aIdxA 3 t60 (.int .i64 0) fun t61 =>
 aLoad true 3 t61 H fun t62 =>
 aStore 3 t8 t62 H fun H =>
 zq96_j2 t0 t3 t6 t7 t8 H K))
noncomputable def zq96_j1_c : Code := codeAt [1, 1, 1] zq96_c
def zq96_j1_Q (K : Kt) : AExit → List AV → Heap → Prop := contAt tP zq96_M [1, 1, 1] zq96_c (retQ tP zq96_r K)
def zq96_j1 (t0 t3 : AV) (H : Heap) (K : Kt) : Prop := AWp tP zq96_j1_c (zq96_j1_Q K) (t0 :: ux 2 (t3 :: ux 171 [])) H
def zq96_j1b (t0 t3 : AV) (H : Heap) (K : Kt) : Prop :=
 ACalls tP n_zq90 [(.int .i64 1)] H fun t41 H =>
 ACalls tP n_zq90 [(.int .i64 3)] H fun t42 H =>
 aNew [(.int .i64 0), (.int .i64 0), .snil] H fun t6 H =>
 aNew [(.int .i64 0), (.int .i64 0), .snil] H fun t7 H =>
 aStore 3 t6 t41 H fun H =>
 aStore 3 t7 t42 H fun H =>
 aNew [(.int .i64 0), (.int .i64 0), .snil] H fun t8 H =>
 aPure H (fun k => k t0 H) fun t43 =>
 aPure H (fun k => aNil t43 (k · H)) fun t44 =>
 aPure H (fun k => aFld 0 t44 (k · H)) fun t45 =>
 aPure H (fun k => aFld 2 t45 (k · H)) fun t46 =>
 aPure H (fun k => aLoad false 1 t46 H (k · H)) fun t47 =>
 aPure H (fun k => aFld 2 t3 (k · H)) fun t48 =>
 aPure H (fun k => aLoad false 1 t48 H (k · H)) fun t49 =>
 aPure H (fun k => aIdxA 1 t49 (.int .i64 0) (k · H)) fun t50 =>
 aPure H (fun k => aLoad false 1 t50 H (k · H)) fun t51 =>
 aPure H (fun k => aIdxA 3 t47 t51 (k · H)) fun t52 =>
 aPure H (fun k => aLoad true 3 t52 H (k · H)) fun t53 =>
 aNew [(.int .i64 0), (.int .i64 0), .snil] H fun t9 H =>
 aStore 3 t9 t53 H fun H =>
 aFld 0 t3 fun t54 =>
 aLoad false 1 t54 H fun t55 =>
 aBin .eql false t55 (.int .i64 15) fun t64 =>
 aTest t64
 (aPure H (fun k => k t0 H) fun t65 =>
 aPure H (fun k => aNil t65 (k · H)) fun t66 =>
 aPure H (fun k => aFld 0 t66 (k · H)) fun t67 =>
 aPure H (fun k => aFld 2 t67 (k · H)) fun t68 =>
 aPure H (fun k => aLoad false 1 t68 H (k · H)) fun t69 =>
 aPure H (fun k => aFld 2 t3 (k · H)) fun t70 =>
 aPure H (fun k => aLoad false 1 t70 H (k · H)) fun t71 =>
 aPure H (fun k => aIdxA 1 t71 (.int .i64 1) (k · H)) fun t72 =>
 aPure H (fun k => aLoad false 1 t72 H (k · H)) fun t73 =>
 aPure H (fun k => aIdxA 3 t69 t73 (k · H)) fun t74 =>
 aPure H (fun k => aLoad true 3 t74 H (k · H)) fun t75 =>
 aStore 3 t8 t75 H fun H =>
 zq96_j2 t0 t3 t6 t7 t8 H K)
 (aBin .eql false t55 (.int .i64 19) fun t77 =>
 aTest t77
 (aLoad true 3 t9 H fun t78 =>
 aStore 3 t8 t78 H fun H =>
 zq96_j2 t0 t3 t6 t7 t8 H K)
 (aBin .eql false t55 (.int .i64 16) fun t80 =>
 aTest t80
 (zq96_j5 t0 t3 t6 t7 t8 t9 t80 H K)
 (aBin .eql false t55 (.int .i64 17) fun t81 =>
 aTest t81
 (zq96_j5 t0 t3 t6 t7 t8 t9 t81 H K)
 (aBin .eql false t55 (.int .i64 18) fun t82 =>
 zq96_j5 t0 t3 t6 t7 t8 t9 t82 H K))))
def zq96 (t0 t1 : AV) (H : Heap) (K : Kt) : Prop :=
 aBox t1 H fun t3 H =>
 aBuildS 1 [(.int .i64 0)] 22 [(15, (.int .i64 2)), (16, (.int .i64 2)), (17, (.int .i64 3)), (18, (.int .i64 1)), (19, (.int .i64 1)), (20, (.int .i64 1)), (21, (.int .i64 2))] fun t12 =>
 aPure H (fun k => aFld 0 t3 (k · H)) fun t13 =>
 aPure H (fun k => aLoad false 1 t13 H (k · H)) fun t14 =>
 aPure H (fun k => aBin .lss false t14 (.int .i64 0) (k · H)) fun t15 =>
 aPure H (fun k => k t15 H) fun t16 =>
 aGuardJ t16 false H (fun k => aPure H (fun l => aFld 0 t3 (l · H)) (k · H)) fun t17 H =>
 aGuardJ t16 false H (fun k => aPure H (fun l => aLoad false 1 t17 H (l · H)) (k · H)) fun t18 H =>
 aGuardJ t16 false H (fun k => aPure H (fun l => l t12 H) (k · H)) fun t19 H =>
 aGuardJ t16 false H (fun k => aPure H (fun l => aLen 1 t19 (l · H)) (k · H)) fun t20 H =>
 aGuardJ t16 false H (fun k => aPure H (fun l => aBin .geq false t18 t20 (l · H)) (k · H)) fun t21 H =>
 aPure H (fun k => aPick t16 (.bool true) t21 (k · H)) fun t22 =>
 aPure H (fun k => k t22 H) fun t23 =>
 aGuardJ t23 false H (fun k => aPure H (fun l => l t12 H) (k · H)) fun t24 H =>
 aGuardJ t23 false H (fun k => aPure H (fun l => aFld 0 t3 (l · H)) (k · H)) fun t25 H =>
 aGuardJ t23 false H (fun k => aPure H (fun l => aLoad false 1 t25 H (l · H)) (k · H)) fun t26 H =>
 aGuardJ t23 false H (fun k => aPure H (fun l => aIdxA 1 t24 t26 (l · H)) (k · H)) fun t27 H =>
 aGuardJ t23 false H (fun k => aPure H (fun l => aLoad false 1 t27 H (l · H)) (k · H)) fun t28 H =>
 aGuardJ t23 false H (fun k => aPure H (fun l => aBin .eql false t28 (.int .i64 0) (l · H)) (k · H)) fun t29 H =>
 aPure H (fun k => aPick t23 (.bool true) t29 (k · H)) fun t30 =>
 aPure H (fun k => k t30 H) fun t31 =>
 aGuardJ t31 false H (fun k => aPure H (fun l => aLoad true 8 t3 H (l · H)) (k · H)) fun t32 H =>
 aGuardJ t31 false H (fun k => aPure H (fun l => l t12 H) (k · H)) fun t33 H =>
 aGuardJ t31 false H (fun k => aPure H (fun l => aFld 0 t3 (l · H)) (k · H)) fun t34 H =>
 aGuardJ t31 false H (fun k => aPure H (fun l => aLoad false 1 t34 H (l · H)) (k · H)) fun t35 H =>
 aGuardJ t31 false H (fun k => aPure H (fun l => aIdxA 1 t33 t35 (l · H)) (k · H)) fun t36 H =>
 aGuardJ t31 false H (fun k => aPure H (fun l => aLoad false 1 t36 H (l · H)) (k · H)) fun t37 H =>
 aGuardJ t31 false H (fun k => aPureX H (fun H l => ACalls tP n_zq89 [t32, t37, (.int .i64 0)] H l) (k · H)) fun t38 H =>
 aGuardJ t31 false H (fun k => aPure H (fun l => aUn .not t38 (l · H)) (k · H)) fun t39 H =>
 aPure H (fun k => aPick t31 (.bool true) t39 (k · H)) fun t40 =>
 aTest t40
 (K (.bool false) H)
 (zq96_j1 t0 t3 H K)
theorem zq96_j4_eq (t0 t3 t6 t7 t8 t11 t97 t144 : AV) (H : Heap) (K : Kt) : awp tP zq96_M zq96_j4_c (zq96_j4_Q K) (t0 :: ux 2 (t3 :: ux 2 (t6 :: t7 :: t8 :: ux 2 (t11 :: ux 85 (t97 :: ux 46 (t144 :: ux 30 [])))))) H = zq96_j4b t0 t3 t6 t7 t8 t11 t97 t144 H K := by kernel_rfl
theorem zq96_j4_ok {t0 t3 t6 t7 t8 t11 t97 t144 : AV} {H : Heap} {K : Kt} (h : HSc H → zq96_j4b t0 t3 t6 t7 t8 t11 t97 t144 H K) : zq96_j4 t0 t3 t6 t7 t8 t11 t97 t144 H K :=
 fun B w G a hH hF hd => awp_sound (M := zq96_M) _ _ _ _ ((zq96_j4_eq t0 t3 t6 t7 t8 t11 t97 t144 H K).mpr (h hH.sc)) B w G a hH hF hd
theorem zq96_j5_eq (t0 t3 t6 t7 t8 t9 t79 : AV) (H : Heap) (K : Kt) : awp tP zq96_M zq96_j5_c (zq96_j5_Q K) (t0 :: ux 2 (t3 :: ux 2 (t6 :: t7 :: t8 :: t9 :: ux 69 (t79 :: ux 95 [])))) H = zq96_j5b t0 t3 t6 t7 t8 t9 t79 H K := by kernel_rfl
theorem zq96_j5_ok {t0 t3 t6 t7 t8 t9 t79 : AV} {H : Heap} {K : Kt} (h : HSc H → zq96_j5b t0 t3 t6 t7 t8 t9 t79 H K) : zq96_j5 t0 t3 t6 t7 t8 t9 t79 H K :=
 fun B w G a hH hF hd => awp_sound (M := zq96_M) _ _ _ _ ((zq96_j5_eq t0 t3 t6 t7 t8 t9 t79 H K).mpr (h hH.sc)) B w G a hH hF hd
theorem zq96_j1_eq (t0 t3 : AV) (H : Heap) (K : Kt) : awp tP zq96_M zq96_j1_c (zq96_j1_Q K) (t0 :: ux 2 (t3 :: ux 171 [])) H = zq96_j1b t0 t3 H K := by kernel_rfl
theorem zq96_j1_ok {t0 t3 : AV} {H : Heap} {K : Kt} (h : HSc H → zq96_j1b t0 t3 H K) : zq96_j1 t0 t3 H K :=
 fun B w G a hH hF hd => awp_sound (M := zq96_M) _ _ _ _ ((zq96_j1_eq t0 t3 H K).mpr (h hH.sc)) B w G a hH hF hd
theorem zq96_eq (t0 t1 : AV) (H : Heap) (K : Kt) : awp tP zq96_M zq96_c (retQ tP zq96_r K) (t0 :: t1 :: List.replicate 173 .unk) H = zq96 t0 t1 H K := by kernel_rfl
theorem zq96_ok {t0 t1 : AV} {H : Heap} {K : Kt} (h : HSc H → zq96 t0 t1 H K) : ACalls tP n_zq96 [t0, t1] H K :=
 acalls_body (M := zq96_M) Try.func98 (c := zq96_c) (by kernel_rfl) (fun hs => (zq96_eq t0 t1 H K).mpr (h hs))
end Go.Proofs.Ytkdmpbhbmmhijaa
