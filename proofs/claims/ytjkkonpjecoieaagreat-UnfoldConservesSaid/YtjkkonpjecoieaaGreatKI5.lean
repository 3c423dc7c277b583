import Derived.Test.YtjkkonpjecoieaaGreatKNum
import Derived.Test.YtjkkonpjecoieaaGreatProg
import Derived.KernelRfl
import Derived.Test.YtjkkonpjecoieaaGreatKGN1
import Derived.Test.YtjkkonpjecoieaaGreatKV1
import Derived.Test.YtjkkonpjecoieaaGreatKUA
import Derived.Test.YtjkkonpjecoieaaGreatKN6
set_option linter.unusedSimpArgs false
set_option linter.unusedVariables false
namespace Go.Proofs.YtjkkonpjecoieaaGreat
open Go Go.Abs
set_option maxRecDepth 100000
def zke : Nat → List Bool
 | 5 => rl false [1,2,2,1,24]
 | _ => []
noncomputable def zpM : Code := Tryz.f41.body.getD .skip
noncomputable def zJi : List ResultVar := Tryz.f41.results.toList
def zkf (t1 t2 t5 : AV) : List AV := ux 1 (t1 :: t2 :: ux 2 (t5 :: ux 24 []))
def zJg : List Bool := zke 5
noncomputable def zJe : Code := zar [1, 1, 1, 0, 1, 0, 0] zpM
def zJd (K : Kt) : AExit → List AV → zaa → Prop := zat tP zke [1, 1, 1, 0, 1, 0] zpM (zay tP zJi K)
def zxp (t1 t2 t5 : AV) (H : zaa) (K : Kt) : Prop := ALoop tP zJe (zJd K) (zkf t1 t2 t5) H
def zpL (t1 t2 t5 : AV) (H : zaa) (K : Kt) (Kb5 : Lt) : Prop :=
 zaf 2 t2 fun t16 =>
 zad false 1 t16 H fun t17 =>
 zah 1 t17 fun t18 =>
 zac .lss false t5 t18 fun t19 =>
 zag t19
 (zaf 2 t2 fun t22 =>
 zad false 1 t22 H fun t23 =>
 zaj 3 t23 t5 fun t25 =>
 zad true 3 t25 H fun t26 =>
 ACalls tP zhW [t26, t1] H fun t28 H =>
 aUn .not t28 fun t29 =>
 zag t29
 (K (.bool false) H)
 (zac .add false t5 (.int .i64 1) fun t21 =>
 Kb5 (zkf t1 t2 t21) H))
 (K (.bool true) H)
def zxo (t0 t1 : AV) (H : zaa) (K : Kt) : Prop :=
 zap t0 H fun t2 H =>
 za4 t1 fun t7 =>
 zad false 1 t7 H fun t8 =>
 zac .sub false t8 (.int .i64 1) fun t9 =>
 za4 t1 fun t10 =>
 zak 1 t10 t9 H fun H =>
 za4 t1 fun t12 =>
 zad false 1 t12 H fun t13 =>
 zac .lss false t13 (.int .i64 0) fun t14 =>
 zag t14
 (K (.bool false) H)
 (zxp t1 t2 (.int .i64 0) H K)
theorem zJf {t1 t2 t5 : AV} {H : zaa} {K : Kt} (Inv : Nat → AV → zaa → Prop) (n : Nat) (h0 : HSc H → Inv n t5 H)
  (round : Rd1 (fun t5 => zkf t1 t2 t5) (fun t5 => fun H Kb5 => zpL t1 t2 t5 H K Kb5) H Inv) : zxp t1 t2 t5 H K :=
 lp1 (M := zke) zJg t5 (by kernel_rfl) Inv n h0 round
theorem zJh {t0 t1 : AV} {H : zaa} {K : Kt} (h : HSc H → zxo t0 t1 H K) : ACalls tP zhW [t0, t1] H K :=
 zam (M := zke) Tryz.func41 (c := zpM) (by kernel_rfl) (fun hs => Eq.mpr (by kernel_rfl) (h hs))
def zkg : Nat → List Bool
 | 21 => rl false [0,1,3,2,1,1,2,1,174]
 | _ => []
noncomputable def zpO : Code := Tryz.f42.body.getD .skip
noncomputable def zJp : List ResultVar := Tryz.f42.results.toList
def zkh (t0 t4 t5 t7 t10 : AV) : List AV := t0 :: ux 3 (t4 :: t5 :: ux 1 (t7 :: ux 2 (t10 :: ux 174 [])))
def zJn : List Bool := zkg 21
noncomputable def zJl : Code := zar [1, 1, 0, 1, 0, 1, 1, 1, 1, 1, 1, 1, 1, 1, 1, 1, 0, 1, 0, 1, 0, 0] zpO
def zJk (K : Kt) : AExit → List AV → zaa → Prop := zat tP zkg [1, 1, 0, 1, 0, 1, 1, 1, 1, 1, 1, 1, 1, 1, 1, 1, 0, 1, 0, 1, 0] zpO (zay tP zJp K)
def zpP (t0 t4 t5 t7 t10 : AV) (H : zaa) (K : Kt) : Prop := ALoop tP zJl (zJk K) (zkh t0 t4 t5 t7 t10) H
def zpN (t0 t4 t5 t7 t10 : AV) (H : zaa) (K : Kt) (Kb21 : Lt) : Prop :=
 zac .lss false t10 t7 fun t153 =>
 zag t153
 (zae H (fun K' => K' t0 H) fun t156 =>
 zae H (fun K' => zaf 2 t4 (K' · H)) fun t157 =>
 zae H (fun K' => zal false 1 t157 H (K' · H)) fun t158 =>
 zae H (fun K' => K' t10 H) fun t159 =>
 zae H (fun K' => zaj 3 t158 t159 (K' · H)) fun t160 =>
 zae H (fun K' => zal true 3 t160 H (K' · H)) fun t161 =>
 zae H (fun K' => zaf 2 t5 (K' · H)) fun t162 =>
 zae H (fun K' => zal false 1 t162 H (K' · H)) fun t163 =>
 zae H (fun K' => zaj 3 t163 (.int .i64 0) (K' · H)) fun t164 =>
 zae H (fun K' => zal true 3 t164 H (K' · H)) fun t165 =>
 zaE H (fun H K' => ACalls tP zgm [t156, t161, t165] H K') fun t166 =>
 zae H (fun K' => aUn .not t166 (K' · H)) fun t167 =>
 zag t167
 (K (.bool false) H)
 (zac .add false t10 (.int .i64 1) fun t155 =>
 Kb21 (zkh t0 t4 t5 t7 t155) H))
 (K (.bool true) H)
def zgV (t0 t4 t5 t7 t117 : AV) (H : zaa) (K : Kt) : Prop :=
 zag t117
 (zaf 0 t5 fun t120 =>
 zad false 1 t120 H fun t121 =>
 zac .eql false t121 (.int .i64 7) fun t122 =>
 zab t122 true H (fun K' => zaf 0 t4 (K' · H)) fun t124 H =>
 zab t122 true H (fun K' => zad false 1 t124 H (K' · H)) fun t125 H =>
 zab t122 true H (fun K' => zac .neq false t125 (.int .i64 6) (K' · H)) fun t126 H =>
 zab t122 true H (fun K' => K' t126 H) fun t127 H =>
 zab t127 false H (fun K' => K' t7 H) fun t128 H =>
 zab t127 false H (fun K' => zac .gtr false t128 (.int .i64 4096) (K' · H)) fun t129 H =>
 zab t122 true H (fun K' => zai t127 (.bool true) t129 (K' · H)) fun t130 H =>
 zai t122 t130 (.bool false) fun t131 =>
 zab t131 false H (fun K' => zaf 0 t5 (K' · H)) fun t133 H =>
 zab t131 false H (fun K' => zad false 1 t133 H (K' · H)) fun t134 H =>
 zab t131 false H (fun K' => zac .eql false t134 (.int .i64 8) (K' · H)) fun t135 H =>
 zab t131 false H (fun K' => K' t135 H) fun t136 H =>
 zab t136 true H (fun K' => zaf 0 t4 (K' · H)) fun t137 H =>
 zab t136 true H (fun K' => zad false 1 t137 H (K' · H)) fun t138 H =>
 zab t136 true H (fun K' => zac .neq false t138 (.int .i64 7) (K' · H)) fun t139 H =>
 zab t136 true H (fun K' => K' t139 H) fun t140 H =>
 zab t140 false H (fun K' => K' t7 H) fun t141 H =>
 zab t140 false H (fun K' => zac .neq false t141 (.int .i64 1) (K' · H)) fun t142 H =>
 zab t136 true H (fun K' => zai t140 (.bool true) t142 (K' · H)) fun t143 H =>
 zab t131 false H (fun K' => zai t136 t143 (.bool false) (K' · H)) fun t144 H =>
 zai t131 (.bool true) t144 fun t145 =>
 zab t145 false H (fun K' => zaf 1 t4 (K' · H)) fun t147 H =>
 zab t145 false H (fun K' => zad false 1 t147 H (K' · H)) fun t148 H =>
 zab t145 false H (fun K' => zac .neq false t148 (.int .i64 0) (K' · H)) fun t149 H =>
 zai t145 (.bool true) t149 fun t150 =>
 zag t150
 (K (.bool false) H)
 (zpP t0 t4 t5 t7 (.int .i64 0) H K))
 (zaf 0 t4 fun t168 =>
 zad false 1 t168 H fun t169 =>
 zac .eql false t169 (.int .i64 8) fun t170 =>
 zab t170 true H (fun K' => zaf 1 t4 (K' · H)) fun t172 H =>
 zab t170 true H (fun K' => zad false 1 t172 H (K' · H)) fun t173 H =>
 zab t170 true H (fun K' => zac .geq false t173 (.int .i64 0) (K' · H)) fun t174 H =>
 zai t170 t174 (.bool false) fun t175 =>
 zab t175 true H (fun K' => zaf 1 t4 (K' · H)) fun t177 H =>
 zab t175 true H (fun K' => zad false 1 t177 H (K' · H)) fun t178 H =>
 zab t175 true H (fun K' => zac .lss false t178 (.int .i64 64) (K' · H)) fun t179 H =>
 zai t175 t179 (.bool false) fun t180 =>
 zab t180 true H (fun K' => K' t7 H) fun t182 H =>
 zab t180 true H (fun K' => zac .eql false t182 (.int .i64 0) (K' · H)) fun t183 H =>
 zai t180 t183 (.bool false) fun t184 =>
 K t184 H)
def zdK (t0 t1 t2 : AV) (H : zaa) (K : Kt) : Prop :=
 zap t1 H fun t4 H =>
 zap t2 H fun t5 H =>
 zaf 2 t4 fun t11 =>
 zad false 1 t11 H fun t12 =>
 zah 1 t12 fun t13 =>
 zaf 0 t5 fun t14 =>
 zad false 1 t14 H fun t15 =>
 zac .eql false t15 (.int .i64 3) fun t17 =>
 zag t17
 (zaf 0 t4 fun t18 =>
 zad false 1 t18 H fun t19 =>
 zac .eql false t19 (.int .i64 1) fun t20 =>
 zab t20 true H (fun K' => zaf 1 t4 (K' · H)) fun t22 H =>
 zab t20 true H (fun K' => zad false 1 t22 H (K' · H)) fun t23 H =>
 zab t20 true H (fun K' => zac .eql false t23 (.int .i64 0) (K' · H)) fun t24 H =>
 zai t20 t24 (.bool false) fun t25 =>
 zab t25 true H (fun K' => K' t13 H) fun t27 H =>
 zab t25 true H (fun K' => zac .eql false t27 (.int .i64 0) (K' · H)) fun t28 H =>
 zai t25 t28 (.bool false) fun t29 =>
 K t29 H)
 (zac .eql false t15 (.int .i64 2) fun t31 =>
 zag t31
 (zaf 0 t4 fun t32 =>
 zad false 1 t32 H fun t33 =>
 zac .eql false t33 (.int .i64 2) fun t34 =>
 zab t34 true H (fun K' => zaf 1 t4 (K' · H)) fun t36 H =>
 zab t34 true H (fun K' => zad false 1 t36 H (K' · H)) fun t37 H =>
 zab t34 true H (fun K' => zac .eql false t37 (.int .i64 0) (K' · H)) fun t38 H =>
 zab t34 true H (fun K' => K' t38 H) fun t39 H =>
 zab t39 false H (fun K' => zaf 1 t4 (K' · H)) fun t40 H =>
 zab t39 false H (fun K' => zad false 1 t40 H (K' · H)) fun t41 H =>
 zab t39 false H (fun K' => zac .eql false t41 (.int .i64 1) (K' · H)) fun t42 H =>
 zab t34 true H (fun K' => zai t39 (.bool true) t42 (K' · H)) fun t43 H =>
 zai t34 t43 (.bool false) fun t44 =>
 zab t44 true H (fun K' => K' t13 H) fun t46 H =>
 zab t44 true H (fun K' => zac .eql false t46 (.int .i64 0) (K' · H)) fun t47 H =>
 zai t44 t47 (.bool false) fun t48 =>
 K t48 H)
 (zac .eql false t15 (.int .i64 1) fun t50 =>
 zag t50
 (zaf 0 t4 fun t51 =>
 zad false 1 t51 H fun t52 =>
 zac .eql false t52 (.int .i64 3) fun t53 =>
 zab t53 true H (fun K' => zaf 1 t4 (K' · H)) fun t55 H =>
 zab t53 true H (fun K' => zad false 1 t55 H (K' · H)) fun t56 H =>
 zab t53 true H (fun K' => zac .geq false t56 (.int .i64 (-1099511627776)) (K' · H)) fun t57 H =>
 zai t53 t57 (.bool false) fun t58 =>
 zab t58 true H (fun K' => zaf 1 t4 (K' · H)) fun t60 H =>
 zab t58 true H (fun K' => zad false 1 t60 H (K' · H)) fun t61 H =>
 zab t58 true H (fun K' => zac .leq false t61 (.int .i64 1099511627776) (K' · H)) fun t62 H =>
 zai t58 t62 (.bool false) fun t63 =>
 zab t63 true H (fun K' => K' t13 H) fun t65 H =>
 zab t63 true H (fun K' => zac .eql false t65 (.int .i64 0) (K' · H)) fun t66 H =>
 zai t63 t66 (.bool false) fun t67 =>
 K t67 H)
 (zac .eql false t15 (.int .i64 6) fun t69 =>
 zag t69
 (zaf 0 t4 fun t70 =>
 zad false 1 t70 H fun t71 =>
 zac .eql false t71 (.int .i64 4) fun t72 =>
 zab t72 true H (fun K' => zaf 1 t4 (K' · H)) fun t74 H =>
 zab t72 true H (fun K' => zad false 1 t74 H (K' · H)) fun t75 H =>
 zab t72 true H (fun K' => zac .eql false t75 (.int .i64 0) (K' · H)) fun t76 H =>
 zai t72 t76 (.bool false) fun t77 =>
 zab t77 true H (fun K' => K' t0 H) fun t79 H =>
 zab t77 true H (fun K' => zaf 2 t4 (K' · H)) fun t80 H =>
 zab t77 true H (fun K' => zad false 1 t80 H (K' · H)) fun t81 H =>
 zab t77 true H (fun K' => zaf 2 t5 (K' · H)) fun t82 H =>
 zab t77 true H (fun K' => zad false 1 t82 H (K' · H)) fun t83 H =>
 zab t77 true H (fun K' => ACalls tP zh8 [t79, t81, t83] H K') fun t84 H =>
 zai t77 t84 (.bool false) fun t85 =>
 K t85 H)
 (zac .eql false t15 (.int .i64 5) fun t87 =>
 zag t87
 (zaf 0 t4 fun t88 =>
 zad false 1 t88 H fun t89 =>
 zac .neq false t89 (.int .i64 5) fun t90 =>
 zab t90 false H (fun K' => zaf 1 t4 (K' · H)) fun t92 H =>
 zab t90 false H (fun K' => zad false 1 t92 H (K' · H)) fun t93 H =>
 zab t90 false H (fun K' => zac .lss false t93 (.int .i64 0) (K' · H)) fun t94 H =>
 zai t90 (.bool true) t94 fun t95 =>
 zab t95 false H (fun K' => zaf 1 t4 (K' · H)) fun t97 H =>
 zab t95 false H (fun K' => zad false 1 t97 H (K' · H)) fun t98 H =>
 zab t95 false H (fun K' => zac .geq false t98 (.int .i64 8) (K' · H)) fun t99 H =>
 zai t95 (.bool true) t99 fun t100 =>
 zag t100
 (K (.bool false) H)
 (zad true 3 t5 H fun t103 =>
 zaf 1 t4 fun t104 =>
 zad false 1 t104 H fun t105 =>
 ACalls tP ze8 [t0, t103, t105] H fun t106 H =>
 zav t106 0 fun t107 =>
 zav t106 1 fun t108 =>
 zab t108 true H (fun K' => K' t0 H) fun t111 H =>
 zab t108 true H (fun K' => zaf 2 t4 (K' · H)) fun t112 H =>
 zab t108 true H (fun K' => zad false 1 t112 H (K' · H)) fun t113 H =>
 zab t108 true H (fun K' => K' t107 H) fun t114 H =>
 zab t108 true H (fun K' => ACalls tP zh8 [t111, t113, t114] H K') fun t115 H =>
 zai t108 t115 (.bool false) fun t116 =>
 K t116 H))
 (zac .eql false t15 (.int .i64 7) fun t118 =>
 zag t118
 (zgV t0 t4 t5 t13 t118 H K)
 (zac .eql false t15 (.int .i64 8) fun t119 =>
 zgV t0 t4 t5 t13 t119 H K))))))
theorem zJm {t0 t4 t5 t7 t10 : AV} {H : zaa} {K : Kt} (Inv : Nat → AV → zaa → Prop) (n : Nat) (h0 : HSc H → Inv n t10 H)
  (round : Rd1 (fun t10 => zkh t0 t4 t5 t7 t10) (fun t10 => fun H Kb21 => zpN t0 t4 t5 t7 t10 H K Kb21) H Inv) : zpP t0 t4 t5 t7 t10 H K :=
 lp1 (M := zkg) zJn t10 (by kernel_rfl) Inv n h0 round
theorem zJo {t0 t1 t2 : AV} {H : zaa} {K : Kt} (h : HSc H → zdK t0 t1 t2 H K) : ACalls tP zgm [t0, t1, t2] H K :=
 zam (M := zkg) Tryz.func42 (c := zpO) (by kernel_rfl) (fun hs => Eq.mpr (by kernel_rfl) (h hs))
def zll : Nat → List Bool
 | 4 => rl false [0,3,4,1,22]
 | _ => []
noncomputable def zqQ : Code := Tryz.f86.body.getD .skip
noncomputable def zMy : List ResultVar := Tryz.f86.results.toList
def zlm (t0 t1 t2 t7 : AV) : List AV := t0 :: t1 :: t2 :: ux 4 (t7 :: ux 22 [])
def zMw : List Bool := zll 4
noncomputable def zMu : Code := zar [1, 1, 0, 1, 0, 0] zqQ
def zMt (K : Kt) : AExit → List AV → zaa → Prop := zat tP zll [1, 1, 0, 1, 0] zqQ (zay tP zMy K)
def zyu (t0 t1 t2 t7 : AV) (H : zaa) (K : Kt) : Prop := ALoop tP zMu (zMt K) (zlm t0 t1 t2 t7) H
def zqP (t0 t1 t2 t7 : AV) (H : zaa) (K : Kt) (Kb4 : Lt) : Prop :=
 zah 1 t1 fun t15 =>
 zac .lss false t7 t15 fun t16 =>
 zag t16
 (zae H (fun K' => K' t0 H) fun t19 =>
 zae H (fun K' => K' t1 H) fun t20 =>
 zae H (fun K' => K' t7 H) fun t21 =>
 zae H (fun K' => zaj 3 t20 t21 (K' · H)) fun t22 =>
 zae H (fun K' => zal true 3 t22 H (K' · H)) fun t23 =>
 zae H (fun K' => K' t2 H) fun t24 =>
 zae H (fun K' => K' t7 H) fun t25 =>
 zae H (fun K' => zaj 3 t24 t25 (K' · H)) fun t26 =>
 zae H (fun K' => zal true 3 t26 H (K' · H)) fun t27 =>
 zaE H (fun H K' => ACalls tP zgm [t19, t23, t27] H K') fun t28 =>
 zae H (fun K' => aUn .not t28 (K' · H)) fun t29 =>
 zag t29
 (K (.bool false) H)
 (zac .add false t7 (.int .i64 1) fun t18 =>
 Kb4 (zlm t0 t1 t2 t18) H))
 (K (.bool true) H)
def zqO (t0 t1 t2 : AV) (H : zaa) (K : Kt) : Prop :=
 zah 1 t1 fun t9 =>
 zah 1 t2 fun t11 =>
 zac .neq false t9 t11 fun t12 =>
 zag t12
 (K (.bool false) H)
 (zyu t0 t1 t2 (.int .i64 0) H K)
theorem zMv {t0 t1 t2 t7 : AV} {H : zaa} {K : Kt} (Inv : Nat → AV → zaa → Prop) (n : Nat) (h0 : HSc H → Inv n t7 H)
  (round : Rd1 (fun t7 => zlm t0 t1 t2 t7) (fun t7 => fun H Kb4 => zqP t0 t1 t2 t7 H K Kb4) H Inv) : zyu t0 t1 t2 t7 H K :=
 lp1 (M := zll) zMw t7 (by kernel_rfl) Inv n h0 round
theorem zMx {t0 t1 t2 : AV} {H : zaa} {K : Kt} (h : HSc H → zqO t0 t1 t2 H K) : ACalls tP zh8 [t0, t1, t2] H K :=
 zam (M := zll) Tryz.func86 (c := zqQ) (by kernel_rfl) (fun hs => Eq.mpr (by kernel_rfl) (h hs))
def zj7 : Nat → List Bool
 | 5 => rl false [1,2,2,1,24]
 | _ => []
noncomputable def zpD : Code := Tryz.f38.body.getD .skip
noncomputable def zI0 : List ResultVar := Tryz.f38.results.toList
def zj8 (t1 t2 t5 : AV) : List AV := ux 1 (t1 :: t2 :: ux 2 (t5 :: ux 24 []))
def zIY : List Bool := zj7 5
noncomputable def zIW : Code := zar [1, 1, 1, 0, 1, 0, 0] zpD
def zIV (K : Kt) : AExit → List AV → zaa → Prop := zat tP zj7 [1, 1, 1, 0, 1, 0] zpD (zay tP zI0 K)
def zxe (t1 t2 t5 : AV) (H : zaa) (K : Kt) : Prop := ALoop tP zIW (zIV K) (zj8 t1 t2 t5) H
def zpC (t1 t2 t5 : AV) (H : zaa) (K : Kt) (Kb5 : Lt) : Prop :=
 zaf 2 t2 fun t16 =>
 zad false 1 t16 H fun t17 =>
 zah 1 t17 fun t18 =>
 zac .lss false t5 t18 fun t19 =>
 zag t19
 (zaf 2 t2 fun t22 =>
 zad false 1 t22 H fun t23 =>
 zaj 3 t23 t5 fun t25 =>
 zad true 3 t25 H fun t26 =>
 ACalls tP zhU [t26, t1] H fun t28 H =>
 aUn .not t28 fun t29 =>
 zag t29
 (K (.bool false) H)
 (zac .add false t5 (.int .i64 1) fun t21 =>
 Kb5 (zj8 t1 t2 t21) H))
 (K (.bool true) H)
def zxd (t0 t1 : AV) (H : zaa) (K : Kt) : Prop :=
 zap t0 H fun t2 H =>
 za4 t1 fun t7 =>
 zad false 1 t7 H fun t8 =>
 zac .sub false t8 (.int .i64 1) fun t9 =>
 za4 t1 fun t10 =>
 zak 1 t10 t9 H fun H =>
 za4 t1 fun t12 =>
 zad false 1 t12 H fun t13 =>
 zac .lss false t13 (.int .i64 0) fun t14 =>
 zag t14
 (K (.bool false) H)
 (zxe t1 t2 (.int .i64 0) H K)
theorem zIX {t1 t2 t5 : AV} {H : zaa} {K : Kt} (Inv : Nat → AV → zaa → Prop) (n : Nat) (h0 : HSc H → Inv n t5 H)
  (round : Rd1 (fun t5 => zj8 t1 t2 t5) (fun t5 => fun H Kb5 => zpC t1 t2 t5 H K Kb5) H Inv) : zxe t1 t2 t5 H K :=
 lp1 (M := zj7) zIY t5 (by kernel_rfl) Inv n h0 round
theorem zIZ {t0 t1 : AV} {H : zaa} {K : Kt} (h : HSc H → zxd t0 t1 H K) : ACalls tP zhU [t0, t1] H K :=
 zam (M := zj7) Tryz.func38 (c := zpD) (by kernel_rfl) (fun hs => Eq.mpr (by kernel_rfl) (h hs))
end Go.Proofs.YtjkkonpjecoieaaGreat

namespace Go.Proofs.YtjkkonpjecoieaaGreat
open Go Go.Abs
set_option maxRecDepth 8000
def d4 (data : List Dat) : AV := .agg [.sl (data.map Dat.cs) .none, .snil, .snil, .snil]
section
variable {H : zaa} {K : Kt} (data : List Dat)
theorem zCn (hK : K (.bool true) H) : ACalls tP zmC [d4 data] H K := by
 refine ACalls.out (zEP fun hs => ?_)
 simp [zvw, d4]
 refine ⟨rfl, ACalls.wk (args' := [.sl (VT.css []) .none, .fn zsS [.ptr H.length 0]]) ?_ ⟨.atom .snil, .atom (.refl _), trivial⟩⟩
 refine zl0 [] (by simp) _ _ _ (by simp [AV.sc, AV.scV, AV.scA, AV.scB]) (fun _ H' => H' = H ++ [.cells [.sl (data.map Dat.cs) .none, .snil, .snil, .snil]]) rfl (fun i h => by simp at h) ?_
 rintro H' rfl
 simp
 exact Out.bool rfl (Nat.le_refl _) hs hK
theorem zzz (hK : K (.bool true) H) : ACalls tP zmD [d4 data] H K := by
 refine ACalls.out (zEU fun hs => ?_)
 simp [zvx, d4]
 refine zES (Inv := fun _ _ t H' => t = .int .i64 0 ∧ H' = _) 0 (fun _ => ⟨rfl, rfl⟩) ?_
 rintro q t4 t H' ⟨rfl, rfl⟩ _ _ _ Kb hKb
 simp [zvy]
 exact Out.bool rfl (Nat.le_refl _) hs hK
theorem zCe (hK : K (.bool true) H) : ACalls tP zmE [d4 data] H K := by
 refine ACalls.out (zE5 fun hs => ?_)
 simp [zvB, d4, zbe]
 refine ⟨⟨rfl, rfl⟩, zE3 (Inv := fun _ t H' => t = .int .i64 0 ∧ H' = _) 0 (fun _ => ⟨rfl, rfl⟩) ?_⟩
 rintro q t H' ⟨rfl, rfl⟩ _ _ _ Kb hKb
 simp [zvE]
 refine zE2 (Inv := fun _ t H' => t = .int .i64 0 ∧ H' = _) 0 (fun _ => ⟨rfl, rfl⟩) ?_
 rintro q t H' ⟨rfl, rfl⟩ _ _ _ Kb2 hKb2
 simp [zvD, Nat.add_assoc]
 exact Out.bool rfl (Nat.le_refl _) hs hK
theorem zzj (hK : K (.bool true) H) : ACalls tP zmF [d4 data] H K := by
 refine ACalls.out (zFt fun hs => ?_)
 simp [zvR, d4, zbe]
 refine ⟨⟨rfl, rfl⟩, zFr (Inv := fun _ t H' => t = .int .i64 0 ∧ H' = _) 0 (fun _ => ⟨rfl, rfl⟩) ?_⟩
 rintro q t H' ⟨rfl, rfl⟩ _ _ _ Kb hKb
 simp [zvU]
 refine zFq (Inv := fun _ t H' => t = .int .i64 0 ∧ H' = _) 0 (fun _ => ⟨rfl, rfl⟩) ?_
 rintro q t H' ⟨rfl, rfl⟩ _ _ _ Kb2 hKb2
 simp [zvT, Nat.add_assoc]
 exact Out.bool rfl (Nat.le_refl _) hs hK
theorem zBh (hK : K (.bool true) H) : ACalls tP zmG [d4 data] H K := by
 refine ACalls.out (zFy fun hs => ?_)
 simp [zv0, d4, zbe]
 refine ⟨rfl, ⟨rfl, rfl, rfl, rfl⟩, zFw (Inv := fun _ t H' => t = .int .i64 0 ∧ H' = _) 0 (fun _ => ⟨rfl, rfl⟩) ?_⟩
 rintro q t H' ⟨rfl, rfl⟩ _ _ _ Kb hKb
 simp [zv1]
 exact Out.bool rfl (Nat.le_refl _) hs hK
theorem zzQ (hK : K (.bool true) H) : ACalls tP zmH [d4 data] H K := by
 refine ACalls.out (zFI fun hs => ?_)
 simp [zv3, d4, zbe, zaC, za6]
 refine zFE (Inv := fun _ t H' => t = .int .i64 0 ∧ H' = _) 0 (fun _ => ⟨rfl, rfl⟩) ?_
 rintro q t H' ⟨rfl, rfl⟩ _ _ _ Kb hKb
 simp [zv4]
 refine zFF (Inv := fun _ t H' => t = .int .i64 0 ∧ H' = _) 0 (fun _ => ⟨rfl, rfl⟩) ?_
 rintro q t H' ⟨rfl, rfl⟩ _ _ _ Kb2 hKb2
 simp [zv5]
 exact Out.bool rfl (Nat.le_refl _) hs hK
theorem zDb (hB : zlI data) (hl : data.length ≤ 1000000) (hK : K (.bool (zbf data)) H) : ACalls tP zmu [d4 data] H K := by
 refine ACalls.out (zDc fun hs => ?_)
 simp [zu1, d4]
 refine zEM data hB hl _ _ ?_
 cases hd : zbf data with
 | false =>
  rw [hd] at hK
  simp
  exact Out.bool rfl (Nat.le_refl _) hs hK
 | true =>
  rw [hd] at hK
  simp
  refine zCn data ?_
  simp
  refine zzz data ?_
  simp
  refine zCe data ?_
  simp
  refine zzj data ?_
  simp
  refine zBh data ?_
  simp
  refine zzQ data ?_
  exact Out.bool rfl (Nat.le_refl _) hs hK
def zbi (data : List Dat) (t : VT) : Bool := zbf data && zaO data 0 t
end
end Go.Proofs.YtjkkonpjecoieaaGreat
namespace Go.Proofs.YtjkkonpjecoieaaGreat
open Go Go.Abs
set_option maxRecDepth 8000
theorem zz3 (x : List VT) (hl : x.length ≤ 1000000000) (fv : AV) (H : zaa) (K : AV → zaa → Prop) (hfv : fv.sc H.length = true) (Inv : Nat → zaa → Prop) (h0 : Inv 0 H)
  (step : ∀ (i : Nat) (h : i < x.length) (H' : zaa), H.length ≤ H'.length → Inv i H' → aCallV tP fv [.agg (x[i]).cs] H' fun r H'' => (r = .bool false ∧ Inv (i + 1) H'') ∨ (r = .bool true ∧ K (.int .i64 i) H''))
  (fin : ∀ H', Inv x.length H' → K (.int .i64 (-1)) H') : ACalls tP zmI [.sl (VT.css x) .none, fv] H K := by
 refine zFY fun hs => ?_
 simp [zwd]
 refine zFW (Inv := fun q t8 H' => ∃ i : Nat, i ≤ x.length ∧ q = x.length - i ∧ t8 = .int .i64 i ∧ H.length ≤ H'.length ∧ Inv i H') x.length ?_ ?_
 ·intro _; exact ⟨0, by omega, by omega, rfl, Nat.le_refl _, h0⟩
 ·rintro q t8 H' ⟨i, hi, rfl, rfl, hle, hI⟩ hsc hlen hsF Kb hKb
  by_cases hlt : i < x.length
  ·simp [zoS, hlt]
   refine (step i hlt H' hle hI).mono' fun r H'' hsc' hle' hr => ?_
   rcases hr with ⟨rfl, hI'⟩ | ⟨rfl, hk⟩
   ·simp
    rw [zas (by omega) (by omega)]
    refine hKb _ _ ⟨x.length - (i + 1), by omega, Back.here (by omega) hsc' ?_ ⟨_, rfl, i + 1, by omega, rfl, by simp, by omega, hI'⟩⟩
    simp [zjt, AV.sc, AV.scV, AV.scA, AV.scB]
    exact zb9 (by omega) hfv
   ·simpa using hk
  ·obtain rfl : i = x.length := by omega
   simp [zoS]
   exact fin H' hI
theorem zzE (x : List VT) (hl : x.length ≤ 1000000000) (fv : AV) (H : zaa) (K : AV → zaa → Prop) (hfv : fv.sc H.length = true) (Inv : Nat → zaa → Prop) (h0 : Inv 0 H)
  (step : ∀ (i : Nat) (h : i < x.length) (H' : zaa), H.length ≤ H'.length → Inv i H' → aCallV tP fv [.agg (x[i]).cs] H' fun r H'' => (r = .bool false ∧ Inv (i + 1) H'') ∨ (r = .bool true ∧ K (.bool true) H''))
  (fin : ∀ H', Inv x.length H' → K (.bool false) H') : ACalls tP zmv [.sl (VT.css x) .none, fv] H K := by
 refine zDm fun hs => ?_
 unfold zu5
 refine zz3 x hl fv H _ hfv Inv h0 (fun i h H' hle hI => (step i h H' hle hI).mono' fun r H'' _ _ hr => ?_) (fun H' hI => ?_)
 ·rcases hr with hr | ⟨h1, h2⟩
  ·exact .inl hr
  ·refine .inr ⟨h1, ?_⟩
   have : decide ((0 : Int) ≤ i) = true := by simp
   simpa using h2
 ·simpa using fin H' hI
theorem zzP (f : VT → VT → Bool) (fv : AV) (x y : List VT) (H : zaa) (hsc : fv.sc H.length = true) (hf : ∀ (i : Nat) (h1 : i < x.length) (h2 : i < y.length), x.length = y.length → ∀ (J : zaa) (K : AV → zaa → Prop), K (.bool (f x[i] y[i])) (H ++ J) → aCallV tP fv [.agg (x[i]).cs, .agg (y[i]).cs] (H ++ J) K)
  (hl : x.length ≤ 1000000000) (K : AV → zaa → Prop) (hK : K (.bool (zbR f x y)) H) : ACalls tP zmJ [.sl (VT.css x) .none, .sl (VT.css y) .none, fv] H K := by
 refine ACalls.out (zF4 fun hs => ?_)
 have hO : ∀ J, Out H.length K (.bool (zbR f x y)) (H ++ J) := fun J => Out.bool rfl (Nat.le_refl _) hs hK
 by_cases hlen : x.length = y.length
 ·simp [zoU, hlen]
  refine zF2 (Inv := fun q t17 H' => ∃ i : Nat, i ≤ x.length ∧ q = x.length - i ∧ t17 = .int .i64 i ∧ zbR f (x.drop i) (y.drop i) = zbR f x y ∧ H = H') x.length ?_ ?_
  ·intro _; exact ⟨0, by omega, by omega, rfl, by simp, rfl⟩
  ·rintro q t17 H' ⟨i, hi, rfl, rfl, ho, rfl⟩ hsc4 hlen2 hsF Kb hKb
   by_cases hlt : i < x.length
   ·have hlt' : i < y.length := by omega
    have hltI : (i : Int) < y.length := by omega
    rw [List.drop_eq_getElem_cons hlt, List.drop_eq_getElem_cons hlt', zbR] at ho
    obtain ⟨x1, x2, x3, hvx, hx1, hx2, hx3⟩ := zaM x[i]
    obtain ⟨y1, y2, y3, hvy, hy1, hy2, hy3⟩ := zaM y[i]
    simp [zoV, hlt, hlt', hvx, hx1, hx2, hx3, hvy, hy1, hy2, hy3]
    rw [← hvx, ← hvy]
    refine hf i hlt hlt' hlen _ _ ?_
    cases hb : f x[i] y[i] with
    | false =>
     rw [hb, Bool.false_and] at ho
     rw [← ho] at hO
     simp
     exact hO _
    | true =>
     rw [hb, Bool.true_and] at ho
     simp
     rw [zas (by omega) (by omega)]
     refine hKb _ _ ⟨x.length - (i + 1), by omega, Back.same (by simp) hs ?_ ⟨_, rfl, i + 1, by omega, rfl, by simp, ho, rfl⟩⟩
     simp [zjv, AV.sc, AV.scV, AV.scA, AV.scB]
     exact hsc
   ·have hlt' : ¬ i < y.length := by omega
    obtain rfl : i = x.length := by omega
    rw [List.drop_length, hlen, List.drop_length, zbR] at ho
    rw [← ho] at hO
    simp [zoV, hlt']
    simpa using hO []
 ·have hl' : ((x.length : Int) != y.length) = true := by simp; omega
  rw [zhm hlen] at hO
  simp [zoU, hl']
  simpa using hO []
theorem zI1 : ∀ (m : Nat) (v : VT), v.nodes ≤ m → ∀ (left : Int), left ≤ 1000000 → -1 ≤ left → ∀ (H : zaa) (id : Nat), H[id]? = some (.cells [.int .i64 left]) → ∀ (K : AV → zaa → Prop),
  ((v.nodes : Int) ≤ left → K (.bool true) (H.set id (.cells [.int .i64 (left - v.nodes)]))) → (¬ (v.nodes : Int) ≤ left → ∀ l', K (.bool false) (H.set id (.cells [.int .i64 l']))) →
  ACalls tP zhU [.agg v.cs, .ptr id 0] H K := by
 intro m
 induction m with
 | zero => intro v h; have := v.nodes_pos; omega
 | succ m ih =>
  intro v hv left hl1 hl0 H id hid K hK hF
  obtain ⟨k, n, ks⟩ := v
  have hlt := zcF hid
  have hnn : (VT.mk k n ks).nodes = VT.nodesL ks + 1 := by simp [VT.nodes]
  refine ACalls.out (zIZ fun hs => ?_)
  have hget : (H ++ [AB.cells [.int .i64 k, .int .i64 n, .sl (VT.css ks) .none]])[id]? = some (.cells [.int .i64 left]) := zbB hid
  have bad : (¬ ((VT.mk k n ks).nodes : Int) ≤ left) → ∀ l' H', H' = H.set id (.cells [.int .i64 l']) ++ [.cells [.int .i64 k, .int .i64 n, .sl (VT.css ks) .none]] → Out H.length K (.bool false) H' := by
   intro h l' H' he
   exact Out.bool he (by simp) (hs.set rfl) (hF h l')
  simp [zxd, VT.cs, hget, AV.known]
  rw [zas (by omega) (by omega), zb5 _ hid, zbB (zbN _ hid)]
  by_cases h0 : left - 1 < 0
  ·simp [h0]
   exact bad (by omega) _ _ rfl
  ·simp [h0]
   refine zIX (Inv := fun q t5 H' => ∃ i : Nat, i ≤ ks.length ∧ q = ks.length - i ∧ t5 = .int .i64 i ∧ ((VT.nodesL (ks.take i) : Int) + 1 ≤ left) ∧ H' = H.set id (.cells [.int .i64 (left - 1 - VT.nodesL (ks.take i))]) ++ [.cells [.int .i64 k, .int .i64 n, .sl (VT.css ks) .none]]) ks.length ?_ ?_
   ·intro _; exact ⟨0, by omega, by omega, rfl, by simp [VT.nodesL]; omega, by simp [VT.nodesL]⟩
   ·rintro q t5 H' ⟨i, hi, rfl, rfl, hb, rfl⟩ hsc hlen hsF Kb hKb
    by_cases hil : i < ks.length
    ·have hki := VT.kid_lt (k := k) (n := n) hil
     have h1 := VT.nodesL_take hil
     have h2 := VT.nodesL_take_le ks (i + 1)
     have hll := VT.len_le (ks.take i)
     simp only [List.length_take] at hll
     have hge : (H.set id (.cells [.int .i64 (left - 1 - VT.nodesL (ks.take i))]) ++ [AB.cells [.int .i64 k, .int .i64 n, .sl (VT.css ks) .none]])[id]? = some (.cells [.int .i64 (left - 1 - VT.nodesL (ks.take i))]) := zbB (zbN _ hid)
     simp [zpC, hil]
     refine ih ks[i] (by omega) (left - 1 - VT.nodesL (ks.take i)) (by omega) (by omega) _ id hge _ ?_ ?_
     ·intro hle
      rw [zb5 _ (zbN _ hid), List.set_set]
      simp
      rw [zas (by omega) (by omega)]
      refine hKb _ _ ⟨ks.length - (i + 1), by omega, Back.here (by simp) ((hs.set rfl).snoc rfl) ?_ ⟨_, rfl, i + 1, by omega, rfl, by simp, by omega, ?_⟩⟩
      ·simp [zj8, AV.sc, AV.scV, AV.scA, AV.scB]; omega
      ·rw [h1]; congr 5; omega
     ·intro hle l'
      rw [zb5 _ (zbN _ hid), List.set_set]
      simp
      exact bad (by omega) _ _ rfl
    ·obtain rfl : i = ks.length := by omega
     rw [List.take_length] at hb ⊢
     simp [zpC]
     refine Out.bool rfl (by simp) (hs.set rfl) ?_
     have := hK (by omega)
     rw [hnn] at this
     rw [show left - 1 - (VT.nodesL ks : Int) = left - ((VT.nodesL ks + 1 : Nat) : Int) by omega]
     exact this
theorem zJj : ∀ (m : Nat) (v : VT), v.nodes ≤ m → ∀ (left : Int), left ≤ 1000000 → -1 ≤ left → ∀ (H : zaa) (id : Nat), H[id]? = some (.cells [.int .i64 left]) → ∀ (K : AV → zaa → Prop),
  ((v.nodes : Int) ≤ left → K (.bool true) (H.set id (.cells [.int .i64 (left - v.nodes)]))) → (¬ (v.nodes : Int) ≤ left → ∀ l', K (.bool false) (H.set id (.cells [.int .i64 l']))) →
  ACalls tP zhW [.agg v.cs, .ptr id 0] H K := by
 intro m
 induction m with
 | zero => intro v h; have := v.nodes_pos; omega
 | succ m ih =>
  intro v hv left hl1 hl0 H id hid K hK hF
  obtain ⟨k, n, ks⟩ := v
  have hlt := zcF hid
  have hnn : (VT.mk k n ks).nodes = VT.nodesL ks + 1 := by simp [VT.nodes]
  refine ACalls.out (zJh fun hs => ?_)
  have hget : (H ++ [AB.cells [.int .i64 k, .int .i64 n, .sl (VT.css ks) .none]])[id]? = some (.cells [.int .i64 left]) := zbB hid
  have bad : (¬ ((VT.mk k n ks).nodes : Int) ≤ left) → ∀ l' H', H' = H.set id (.cells [.int .i64 l']) ++ [.cells [.int .i64 k, .int .i64 n, .sl (VT.css ks) .none]] → Out H.length K (.bool false) H' := by
   intro h l' H' he
   exact Out.bool he (by simp) (hs.set rfl) (hF h l')
  simp [zxo, VT.cs, hget, AV.known]
  rw [zas (by omega) (by omega), zb5 _ hid, zbB (zbN _ hid)]
  by_cases h0 : left - 1 < 0
  ·simp [h0]
   exact bad (by omega) _ _ rfl
  ·simp [h0]
   refine zJf (Inv := fun q t5 H' => ∃ i : Nat, i ≤ ks.length ∧ q = ks.length - i ∧ t5 = .int .i64 i ∧ ((VT.nodesL (ks.take i) : Int) + 1 ≤ left) ∧ H' = H.set id (.cells [.int .i64 (left - 1 - VT.nodesL (ks.take i))]) ++ [.cells [.int .i64 k, .int .i64 n, .sl (VT.css ks) .none]]) ks.length ?_ ?_
   ·intro _; exact ⟨0, by omega, by omega, rfl, by simp [VT.nodesL]; omega, by simp [VT.nodesL]⟩
   ·rintro q t5 H' ⟨i, hi, rfl, rfl, hb, rfl⟩ hsc hlen hsF Kb hKb
    by_cases hil : i < ks.length
    ·have hki := VT.kid_lt (k := k) (n := n) hil
     have h1 := VT.nodesL_take hil
     have h2 := VT.nodesL_take_le ks (i + 1)
     have hll := VT.len_le (ks.take i)
     simp only [List.length_take] at hll
     have hge : (H.set id (.cells [.int .i64 (left - 1 - VT.nodesL (ks.take i))]) ++ [AB.cells [.int .i64 k, .int .i64 n, .sl (VT.css ks) .none]])[id]? = some (.cells [.int .i64 (left - 1 - VT.nodesL (ks.take i))]) := zbB (zbN _ hid)
     simp [zpL, hil]
     refine ih ks[i] (by omega) (left - 1 - VT.nodesL (ks.take i)) (by omega) (by omega) _ id hge _ ?_ ?_
     ·intro hle
      rw [zb5 _ (zbN _ hid), List.set_set]
      simp
      rw [zas (by omega) (by omega)]
      refine hKb _ _ ⟨ks.length - (i + 1), by omega, Back.here (by simp) ((hs.set rfl).snoc rfl) ?_ ⟨_, rfl, i + 1, by omega, rfl, by simp, by omega, ?_⟩⟩
      ·simp [zkf, AV.sc, AV.scV, AV.scA, AV.scB]; omega
      ·rw [h1]; congr 5; omega
     ·intro hle l'
      rw [zb5 _ (zbN _ hid), List.set_set]
      simp
      exact bad (by omega) _ _ rfl
    ·obtain rfl : i = ks.length := by omega
     rw [List.take_length] at hb ⊢
     simp [zpL]
     refine Out.bool rfl (by simp) (hs.set rfl) ?_
     have := hK (by omega)
     rw [hnn] at this
     rw [show left - 1 - (VT.nodesL ks : Int) = left - ((VT.nodesL ks + 1 : Nat) : Int) by omega]
     exact this
theorem zDj (v : VT) (H : zaa) (K : AV → zaa → Prop) (hK : ∀ b, (b = true → v.nodes ≤ 400) → K (.bool b) H) : ACalls tP zms [.agg v.cs] H K := by
 refine ACalls.out (zDi fun hs => ?_)
 simp [zuZ, AV.known]
 refine zI1 _ v (Nat.le_refl _) 400 (by omega) (by omega) _ (H.length + 1) (by simp) _ ?_ ?_
 ·intro h
  exact Out.bool (J := [_, _]) (by simp; exact ⟨rfl, rfl⟩) (Nat.le_refl _) hs (hK true fun _ => by omega)
 ·intro h l'
  exact Out.bool (J := [_, _]) (by simp; exact ⟨rfl, rfl⟩) (Nat.le_refl _) hs (hK false fun h => by cases h)
theorem zhr (data : List Dat) : ∀ vs ts : List VT, zbv data vs ts = zbR (zau data) vs ts
 | [], [] => by simp [zbv, zbR]
 | [], _ :: _ => by simp [zbv, zbR]
 | _ :: _, [] => by simp [zbv, zbR]
 | v :: vs, t :: ts => by simp [zbv, zbR, zhr data vs ts]
theorem zzn : zdh tP zmK = true := by kernel_rfl
theorem zzm : zdh tP zmw = true := by kernel_rfl
theorem zux {data : List Dat} {k n : Int} {ks : List VT} (h : zaQ data 0 (.mk k n ks) = true) : (k = 1 ∧ ks = []) ∨ (k = 2 ∧ ks = []) ∨ (k = 3 ∧ ks = []) ∨ k = 5 ∨ (k = 6 ∧ 2 ≤ ks.length) ∨ (k = 7 ∧ ks.length = 1) ∨ (k = 8 ∧ ks.length = 1) ∨ (k = 9 ∧ 1 ≤ ks.length) := by
 rw [zaQ, Bool.and_eq_true] at h
 have h := h.1
 unfold za0 at h
 by_cases h1 : k = 1
 ·subst h1; simp at h; simp [h.2]
 by_cases h2 : k = 2
 ·subst h2; simp at h; simp [h.2]
 by_cases h3 : k = 3
 ·subst h3; simp at h; simp [h.2]
 by_cases h4 : k = 4
 ·subst h4; simp at h; omega
 by_cases h5 : k = 5
 ·subst h5; simp
 by_cases h6 : k = 6
 ·subst h6; simp at h; simp; omega
 by_cases h7 : k = 7
 ·subst h7; simp at h; simp; omega
 by_cases h8 : k = 8
 ·subst h8; simp at h; simp; omega
 by_cases h9 : k = 9
 ·subst h9; simp at h; simp; omega
 simp [h1, h2, h3, h4, h5, h6, h7, h8, h9] at h
structure DOk (data : List Dat) : Prop where
 ok : zbf data = true
 k : za8 data
theorem zc4 {data : List Dat} (h : za8 data) : data.length ≤ 1000000 ∧ (∀ d ∈ data, ∀ c ∈ d.cons, c.args.length ≤ 1000 ∧ ∀ x ∈ c.args, x.nodes ≤ 1000) ∧ ∀ d ∈ data, d.cons.length ≤ 1000000 := by
 obtain ⟨h1, h2⟩ := h
 refine ⟨by omega, fun D hD c hc => ?_, fun D hD => ?_⟩
 ·obtain ⟨_, h3, h4⟩ := h2 D hD
  obtain ⟨_, h5, h6⟩ := h4 c hc
  exact ⟨by omega, fun x hx => by have := h6 x hx; omega⟩
 ·obtain ⟨_, h3, h4⟩ := h2 D hD
  omega
section
variable {data : List Dat} (hD : DOk data)
def zlG (data : List Dat) (v : VT) : Prop := ∀ (t : VT), zaO data 0 t = true → ∀ (H : zaa) (K : AV → zaa → Prop), K (.bool (zau data v t)) H → ACalls tP zh3 [.sl (data.map Dat.cs) .none, .agg v.cs, .agg t.cs] H K
theorem zn6 (vs ts : List VT) (hl : vs.length ≤ 1000000) (hv : ∀ v ∈ vs, zlG data v) (ht : ∀ t ∈ ts, zaO data 0 t = true) (H : zaa) (K : AV → zaa → Prop) (hK : K (.bool (zbv data vs ts)) H) :
  ACalls tP zge [.sl (data.map Dat.cs) .none, .sl (VT.css vs) .none, .sl (VT.css ts) .none] H K := by
 refine ACalls.out (zDp fun hs => ?_)
 simp [zu6]
 refine ⟨rfl, zzP (zau data) _ vs ts _ (by simp [AV.sc, AV.scV, AV.scA, AV.scB]) ?_ (by omega) _ ?_⟩
 ·intro i h1 h2 hle J K' hK'
  simp [aCallV, zzn]
  refine ACalls.out (zF8 fun hs1 => ?_)
  obtain ⟨x, y, z, hvx, hx, hy, hz⟩ := zaM vs[i]
  obtain ⟨x2, y2, z2, hvx2, hx2, hy2, hz2⟩ := zaM ts[i]
  simp [zwg, hvx, hvx2]
  rw [← hvx, ← hvx2]
  refine hv _ (List.getElem_mem h1) _ (ht _ (List.getElem_mem h2)) _ _ ?_
  refine Out.bool (H2 := H ++ [.cells [.sl (data.map Dat.cs) .none]] ++ J) (J := [.cells (vs[i]).cs, .cells (ts[i]).cs]) (by simp) (by simp) (by simpa using hs1) (by simpa using hK')
 ·rw [← zhr]
  exact Out.bool rfl (Nat.le_refl _) hs hK
theorem i0 (n : Nat) : ((n : Int) == 0) = (n == 0) := by
 rw [Bool.eq_iff_iff]; simp
theorem zsq {ks : List VT} (h : 0 < ks.length) : ks.getD 0 (.mk 0 0 []) = ks[0] := by simp [List.getD_eq_getElem?_getD, h]
theorem zst {data : List Dat} {t : VT} {vs : List VT} {i : Nat} (h : i < vs.length) : zci data (vs.drop i) t = (zau data vs[i] t && zci data (vs.drop (i + 1)) t) := by rw [List.drop_eq_getElem_cons h, zci]
include hD in
theorem zRe : ∀ (m : Nat) (v : VT), v.nodes ≤ m → v.nodes ≤ 1000000 → zlG data v := by
 intro m
 induction m with
 | zero => intro v h; have := v.nodes_pos; omega
 | succ m ih =>
  intro v hm hb t ht H K hK
  obtain ⟨vk, vn, vks⟩ := v
  obtain ⟨k, n, ks⟩ := t
  refine ACalls.out (zLQ fun hs => ?_)
  have hO : ∀ b J, zau data (.mk vk vn vks) (.mk k n ks) = b → Out H.length K (.bool b) (H ++ J) := fun b J h => Out.bool rfl (Nat.le_refl _) hs (h ▸ hK)
  have hll := VT.len_le vks
  have hnn : (VT.mk vk vn vks).nodes = VT.nodesL vks + 1 := by simp [VT.nodes]
  have hkids : ∀ x ∈ vks, zlG data x := fun x hx => ih x (by have := zeu (k := vk) (n := vn) x hx; omega) (by have := ze7 (k := vk) (n := vn) x hx; omega)
  have htk := znP ht
  have hto : zaQ data 0 (.mk k n ks) = true := by rw [zaO, Bool.and_eq_true] at ht; exact ht.2
  have htn : (VT.mk k n ks).nodes ≤ 200 := by rw [zaO, Bool.and_eq_true] at ht; exact of_decide_eq_true ht.1
  obtain ⟨f1, f2, f3⟩ := zc4 hD.k
  rcases zux hto with ⟨rfl, rfl⟩ | ⟨rfl, rfl⟩ | ⟨rfl, rfl⟩ | rfl | ⟨rfl, hk⟩ | ⟨rfl, hk⟩ | ⟨rfl, hk⟩ | ⟨rfl, hk⟩
  ·simp [zdL, VT.cs, Nat.add_assoc]
   cases h1 : (vk == 3) <;> simp
   ·exact hO _ _ (by simp [zau, h1])
   by_cases h2 : -1099511627776 ≤ vn <;> simp [h2]
   ·by_cases h3 : vn ≤ 1099511627776 <;> simp [h3]
    ·exact hO _ _ (by simp [zau, h1, h2, h3, i0])
    ·exact hO _ _ (by simp [zau, h1, h2, h3])
   ·exact hO _ _ (by simp [zau, h1, h2])
  ·simp [zdL, VT.cs, Nat.add_assoc]
   cases h1 : (vk == 2) <;> simp
   ·exact hO _ _ (by simp [zau, h1])
   cases h2 : (vn == 0) <;> simp [Nat.add_assoc]
   ·cases h3 : (vn == 1) <;> simp
    ·exact hO _ _ (by simp [zau, h1, h2, h3])
    ·exact hO _ _ (by simp [zau, h1, h2, h3, i0])
   ·exact hO _ _ (by simp [zau, h1, h2, i0])
  ·simp [zdL, VT.cs, Nat.add_assoc]
   cases h1 : (vk == 1) <;> simp
   ·exact hO _ _ (by simp [zau, h1])
   cases h2 : (vn == 0) <;> simp [Nat.add_assoc]
   ·exact hO _ _ (by simp [zau, h1, h2])
   ·exact hO _ _ (by simp [zau, h1, h2, i0])
  ·-- a data type
   simp [zdL, VT.cs, Nat.add_assoc]
   cases h1 : (vk == 5) with
   | false =>
    have : (vk != 5) = true := by simp [bne, h1]
    simp [this]
    exact hO _ _ (by simp [zau, h1])
   | true =>
   have h1' : (vk != 5) = false := by simp [bne, h1]
   by_cases h2 : vn < 0
   ·simp [h1', h2]
    exact hO _ _ (by simp [zau, h1]; omega)
   by_cases h3 : 8 ≤ vn
   ·simp [h1', h2, h3]
    exact hO _ _ (by simp [zau, h1]; omega)
   simp [h1', h2, h3, Nat.add_assoc]
   have e : ∀ o, zaR data (.mk 5 n ks) vn = o → zau data (.mk vk vn vks) (.mk 5 n ks) = zdY data vks o := fun o ho => by
    have q1 : 0 ≤ vn := by omega
    have q2 : vn < 8 := by omega
    simp [zau, h1, q1, q2, ho]
   have hcs : (VT.mk 5 n ks).cs = [.int .i64 5, .int .i64 n, .sl (VT.css ks) .none] := rfl
   rw [← hcs]
   refine zkm data f1 f2 f3 (.mk 5 n ks) (by omega) vn _ _ ?_
   cases hf : zaR data (.mk 5 n ks) vn with
   | none =>
    simp [zbL]
    exact hO _ _ (by rw [e _ hf, zhq])
   | some l =>
    simp [zbL, hcs]
    refine zn6 vks l (by omega) hkids (zfZ hD.ok hto hf) _ _ ?_
    exact hO _ _ (by rw [e _ hf, zf3])
  ·simp [zdL, VT.cs, Nat.add_assoc]
   cases h1 : (vk == 4) <;> simp
   ·exact hO _ _ (by simp [zau, h1])
   cases h2 : (vn == 0) <;> simp [Nat.add_assoc]
   ·exact hO _ _ (by simp [zau, h1, h2])
   refine zn6 vks ks (by omega) hkids htk _ _ ?_
   exact hO _ _ (by simp [zau, h1, h2])
  ·-- an array
   simp [zdL, VT.cs, Nat.add_assoc]
   cases h1 : (vk == 6) <;> simp
   ·exact hO _ _ (by simp [zau, h1])
   cases h2 : (vn == 0) <;> simp [Nat.add_assoc]
   ·exact hO _ _ (by simp [zau, h1, h2])
   by_cases h3 : vks.length ≤ 4096
   case neg =>
    have h3' : ¬ (vks.length : Int) ≤ 4096 := by omega
    simp [h3, h3']
    exact hO _ _ (by simp [zau, h1, h2, h3])
   have h3' : (vks.length : Int) ≤ 4096 := by omega
   simp [h3, h3']
   refine ⟨⟨rfl, rfl⟩, ?_⟩
   have hk0 : 0 < ks.length := by omega
   have e : zau data (.mk vk vn vks) (.mk 7 n ks) = zci data vks ks[0] := by
    have := zsq hk0
    simp [zau, h1, h2, h3, this, hk0]
   refine zzE vks (by omega) _ _ _ (by simp [AV.sc, AV.scV, AV.scA, AV.scB]) (fun i H' => H' = H ++ [.cells [.sl (data.map Dat.cs) .none], .cells [.int .i64 vk, .int .i64 vn, .sl (VT.css vks) .none], .cells [.int .i64 7, .int .i64 n, .sl (VT.css ks) .none]] ∧ zci data (vks.drop i) ks[0] = zci data vks ks[0]) ⟨rfl, by simp⟩ ?_ ?_
   ·rintro i hi H' hle ⟨rfl, ho⟩
    rw [zst hi] at ho
    simp [aCallV, zzm]
    refine ACalls.out (zDs fun hs1 => ?_)
    obtain ⟨x, y, z, hvx, hx, hy, hz⟩ := zaM vks[i]
    obtain ⟨x2, y2, z2, hvx2, hx2, hy2, hz2⟩ := zaM ks[0]
    simp [zu7, hvx, hk0, hvx2, Nat.add_assoc]
    rw [← hvx, ← hvx2]
    refine zaF (.bool (zau data vks[i] ks[0])) (fun J => hkids _ (List.getElem_mem hi) ks[0] (htk _ (List.getElem_mem hk0)) _ _ ⟨rfl, rfl⟩) ?_
    simp
    cases hb : zau data vks[i] ks[0] with
    | true =>
     rw [hb, Bool.true_and] at ho
     exact Out.bool (H2 := H ++ [.cells [.sl (data.map Dat.cs) .none], .cells [.int .i64 vk, .int .i64 vn, .sl (VT.css vks) .none], .cells [.int .i64 7, .int .i64 n, .sl (VT.css ks) .none]]) (J := [_]) (by simp; rfl) (by simp) hs1 (.inl ⟨rfl, rfl, ho⟩)
    | false =>
     rw [hb, Bool.false_and] at ho
     refine Out.bool (H2 := H ++ [.cells [.sl (data.map Dat.cs) .none], .cells [.int .i64 vk, .int .i64 vn, .sl (VT.css vks) .none], .cells [.int .i64 7, .int .i64 n, .sl (VT.css ks) .none]]) (J := [_]) (by simp; rfl) (by simp) hs1 (.inr ⟨rfl, ?_⟩)
     exact hO _ _ (by rw [e, ← ho])
   ·rintro H' ⟨rfl, ho⟩
    rw [List.drop_length, zci] at ho
    simp
    exact hO _ _ (by rw [e, ← ho])
  ·simp [zdL, VT.cs, Nat.add_assoc]
   cases h1 : (vk == 7) <;> simp
   ·exact hO _ _ (by simp [zau, h1])
   cases h2 : (vn == 0) <;> simp [Nat.add_assoc]
   ·exact hO _ _ (by simp [zau, h1, h2])
   refine zn6 vks ks (by omega) hkids htk _ _ ?_
   exact hO _ _ (by simp [zau, h1, h2])
  ·simp [zdL, VT.cs, Nat.add_assoc]
   cases h1 : (vk == 8) <;> simp
   ·exact hO _ _ (by simp [zau, h1])
   by_cases h2 : 0 ≤ vn <;> simp [h2]
   ·by_cases h3 : vn < 64 <;> simp [h3]
    ·exact hO _ _ (by simp [zau, h1, h2, h3, i0])
    ·exact hO _ _ (by simp [zau, h1, h2, h3])
   ·exact hO _ _ (by simp [zau, h1, h2])
end
theorem ztg : ∀ (a : List VT) (b : List Bool) (x : VT) (y : Bool), a.length = b.length → pick (a ++ [x]) (b ++ [y]) = pick a b ++ (if y then [] else [x])
 | [], [], x, y, _ => by cases y <;> rfl
 | [], _ :: _, _, _, h => by cases h
 | _ :: _, [], _, _, h => by cases h
 | c :: a, d :: b, x, y, h => by
  have := ztg a b x y (by simpa using h)
  cases d <;> simp [pick, this]
theorem zth {l : List VT} {bs : List Bool} {i : Nat} (h : l.length = bs.length) (hi : i < l.length) : pick (l.take (i + 1)) (bs.take (i + 1)) = pick (l.take i) (bs.take i) ++ (if bs[i]'(by omega) then [] else [l[i]]) := by
 rw [List.take_succ_eq_append_getElem hi, List.take_succ_eq_append_getElem (by omega : i < bs.length)]
 exact ztg _ _ _ _ (by simp; omega)
theorem ztf : ∀ (a : List VT) (b : List Bool), (pick a b).length ≤ a.length
 | [], b => by simp [pick]
 | _ :: _, [] => by simp [pick]
 | c :: a, d :: b => by
  have := ztf a b
  cases d <;> simp [pick] <;> omega
theorem zfN {l : List Bool} {i : Nat} (h : i < (zbj l).length) : (zbj l)[i] = [.bool (l[i]'(by simpa [zbj] using h))] := by simp [zbj]
theorem zdT (l : List Bool) : (zbj l).length = l.length := by simp [zbj]
theorem zni {data : List Dat} {k n : Int} {ks : List VT} {c : Int} {l : List VT} (hk : za8 data) (hf : zaR data (.mk k n ks) c = some l) :
  ∃ bs, l.length = bs.length ∧ l.length ≤ 8 ∧ zbn data (.mk k n ks) c = some (pick l bs) ∧ (∀ x ∈ l, x.nodes ≤ 200) ∧ k = 5 ∧
   (∀ H K, K (.sl (zbj bs) .none) H → ACalls tP zdz [.sl (data.map Dat.cs) .none, .int .i64 n, .int .i64 c] H K) ∧
   (∀ H K, K (.sl (zbj bs) .none) H → ACalls tP zd5 [.sl (data.map Dat.cs) .none, .int .i64 n, .int .i64 c] H K) := by
 obtain ⟨k5, n0, c0, hn, hc, hv, rfl, h200⟩ := ze3 hf
 obtain ⟨f1, f2, f3⟩ := zc4 hk
 have hd := List.getElem_mem hn
 have hcm := List.getElem_mem hc
 obtain ⟨g1, g2⟩ := f2 _ hd _ hcm
 have g3 := f3 _ hd
 have h8 := ((hk.2 _ hd).2.2 _ hcm).2.1
 refine ⟨zbE n.toNat data[n.toNat] (data[n.toNat]).cons[c.toNat], by simp [zbE], by simpa using h8, ?_, h200, k5, fun H K hK => ?_, fun H K hK => ?_⟩
 ·simp [zbn, hf, zbd, hn, hc, List.getD_eq_getElem?_getD, VT.num]
 ·have := zqC data n.toNat c.toNat hn hc f1 g3 (by omega) (fun x hx => by have := g2 x hx; omega) H K (by simpa [zbj, zbE, Function.comp_def] using hK)
  rwa [Int.toNat_of_nonneg n0, Int.toNat_of_nonneg c0] at this
 ·have := zn9 data n.toNat c.toNat hn hc f1 g3 (by omega) (fun x hx => by have := g2 x hx; omega) H K hK
  rwa [Int.toNat_of_nonneg n0, Int.toNat_of_nonneg c0] at this
theorem zte {data : List Dat} {t : VT} {c : Int} (hf : zaR data t c = none) : zbn data t c = none := by simp [zbn, hf]
theorem zGP (data : List Dat) (hk : za8 data) (t : VT) (ht : t.nodes ≤ 1000) (c : Int) (H : zaa) (K : Kt) (hK : K (zbL (zbn data t c)) H) :
  ACalls tP zmM [.sl (data.map Dat.cs) .none, .agg t.cs, .int .i64 c] H K := by
 refine ACalls.out (zGN fun hs => ?_)
 obtain ⟨f1, f2, f3⟩ := zc4 hk
 obtain ⟨k, n, ks⟩ := t
 simp [zwr, VT.cs, Nat.add_assoc]
 refine zkm data f1 f2 f3 (.mk k n ks) ht c _ _ ?_
 cases hf : zaR data (.mk k n ks) c with
 | none =>
  rw [zte hf] at hK
  simp [zbL]
  refine ⟨⟨rfl, rfl⟩, ?_⟩
  exact Out.tup (bs := [.sl [] .none, .bool false]) hs hK ⟨zea, zaZ rfl rfl, trivial⟩
 | some l =>
  obtain ⟨bs, hlb, hl8, hpay, h200, k5, hsc, _⟩ := zni hk hf
  rw [hpay] at hK
  simp [zbL]
  refine hsc _ _ ?_
  simp [zdT]
  unfold zjJ
  refine ALoop.own 10 zaX 3 rfl ?_
  have hl1 : (H ++ [AB.cells [AV.int IntKind.i64 k, AV.int IntKind.i64 n, AV.sl (VT.css ks) Tok.none]]).length = H.length + 1 := by simp
  rw [hl1]
  show zjJ (.sl (VT.css l) .none) (.sl [] (.own (H.length + 1))) (.sl (zbj bs) .none) (.int .i64 bs.length) (.int .i64 0) (H ++ [.cells [.int .i64 k, .int .i64 n, .sl (VT.css ks) .none]] ++ [.perm zaX 3 0]) (Out H.length K)
  have hperm : ∀ m, HSc (H ++ [.cells [.int .i64 k, .int .i64 n, .sl (VT.css ks) .none], .perm zaX 3 m]) := fun m => hs.append (by simp [AB.sc, AV.scA, AV.scB])
  refine zGL (Inv := fun q t10 t28 H' => ∃ i : Nat, i ≤ bs.length ∧ q = bs.length - i ∧ t28 = .int .i64 i ∧ t10 = .sl (VT.css (pick (l.take i) (bs.take i))) (.own (H.length + 1)) ∧ H' = H ++ [.cells [.int .i64 k, .int .i64 n, .sl (VT.css ks) .none], .perm zaX 3 (pick (l.take i) (bs.take i)).length]) bs.length ?_ ?_
  ·intro _; exact ⟨0, by omega, by omega, rfl, by simp [pick, VT.css], by simp [pick]⟩
  ·rintro q t10 t28 H' ⟨i, hi, rfl, rfl, rfl, rfl⟩ hsc' hlen hsF Kb hKb
   by_cases hlt : i < bs.length
   ·have hps := zth hlb (by omega : i < l.length)
    have hpl := ztf (l.take i) (bs.take i)
    rw [List.length_take] at hpl
    have hnext : ∀ J, zjI (.sl (VT.css l) .none) (.sl (VT.css (pick (l.take (i + 1)) (bs.take (i + 1)))) (.own (H.length + 1))) (.sl (zbj bs) .none) (.int .i64 bs.length) (.int .i64 i)
      (H ++ .cells [.int .i64 k, .int .i64 n, .sl (VT.css ks) .none] :: .perm zaX 3 (pick (l.take (i + 1)) (bs.take (i + 1))).length :: J) (Out H.length K) Kb := by
     intro J
     simp [zjI, zws]
     rw [zas (by omega) (by omega)]
     refine hKb _ _ ⟨bs.length - (i + 1), by omega, Back.at (J := J) (H2 := H ++ [.cells [.int .i64 k, .int .i64 n, .sl (VT.css ks) .none], .perm zaX 3 (pick (l.take (i + 1)) (bs.take (i + 1))).length]) (by simp) (by simp) (hperm _) ?_ ⟨_, _, rfl, i + 1, by omega, rfl, by simp, rfl, rfl⟩⟩
     simp [zjH, AV.sc, AV.scV, AV.scA, AV.scB]
    simp [zo6, zdT, hlt, zfN]
    cases hbi : bs[i] with
    | true =>
     rw [hbi] at hps
     simp at hps
     simp
     have := hnext []
     rw [hps] at this
     exact this
    | false =>
     rw [hbi] at hps
     simp only [Bool.false_eq_true, if_false] at hps
     simp [show i < l.length by omega]
     rw [zdv]
     simp [zax, zaW, zaN]
     have := hnext []
     rw [hps] at this
     rw [show VT.css (pick (l.take i) (bs.take i) ++ [l[i]]) = VT.css (pick (l.take i) (bs.take i)) ++ [l[i].cs] by simp [VT.css_map], show (pick (l.take i) (bs.take i) ++ [l[i]]).length = (pick (l.take i) (bs.take i)).length + 1 by simp] at this
     exact ⟨⟨by omega, by omega⟩, this⟩
   ·obtain rfl : i = bs.length := by omega
    rw [List.take_of_length_le (by omega), List.take_length] at *
    simp [zo6]
    refine ⟨⟨rfl, rfl⟩, ?_⟩
    exact Out.tup (bs := [.sl (VT.css (pick l bs)) .none, .bool true]) hs hK ⟨slV, zaZ rfl rfl, trivial⟩
def pos (v : Bool) (bs : List Bool) (i : Nat) : List Nat := (List.range i).filter fun j => bs.getD j false == v
def zaG (l : List Nat) : List (List AV) := l.map fun (n : Nat) => [AV.int .i64 (Int.ofNat n)]
theorem zgy (v : Bool) (bs : List Bool) (i : Nat) (h : i < bs.length) : pos v bs (i + 1) = pos v bs i ++ (if bs[i] == v then [i] else []) := by
 unfold pos
 rw [List.range_succ, List.filter_append]
 congr 1
 simp [List.filter_cons, List.getD_eq_getElem?_getD, h]
theorem zdB (v : Bool) (bs : List Bool) (i : Nat) : (pos v bs i).length ≤ i := by
 have := List.length_filter_le (fun j => bs.getD j false == v) (List.range i)
 simpa [pos] using this
theorem zdk {v : Bool} {bs : List Bool} {i j : Nat} (h : j ∈ pos v bs i) : j < i := by
 simp [pos] at h
 exact h.1
theorem zdj {l : List VT} {bs : List Bool} (h : l.length = bs.length) (d : VT) : ∀ i, i ≤ l.length → pick (l.take i) (bs.take i) = (pos false bs i).map fun j => l.getD j d
 | 0, _ => by simp [pick, pos]
 | i + 1, hi => by
  rw [zth h (by omega), zgy false bs i (by omega), List.map_append, zdj h d i (by omega)]
  congr 1
  cases hb : bs[i]'(by omega) <;> simp [List.getD_eq_getElem?_getD, show i < l.length by omega]
theorem zcf (l : List Nat) : (zaG l).length = l.length := by simp [zaG]
theorem zig {l : List Nat} {i : Nat} (h : i < (zaG l).length) : (zaG l)[i] = [.int .i64 ((l[i]'(by simpa [zaG] using h) : Nat) : Int)] := by simp [zaG]
theorem zif (l m : List Nat) : zaG (l ++ m) = zaG l ++ zaG m := by simp [zaG]
theorem zvm (data : List Dat) (hk : za8 data) (k n : Int) (ks : List VT) (ht : (VT.mk k n ks).nodes ≤ 1000) (c : Int) {l : List VT} {bs : List Bool} (hf : zaR data (.mk k n ks) c = some l)
  (hlb : l.length = bs.length) (hl8 : l.length ≤ 8) (hrec : ∀ H K, K (.sl (zbj bs) .none) H → ACalls tP zd5 [.sl (data.map Dat.cs) .none, .int .i64 n, .int .i64 c] H K) (H : zaa) (K : Kt)
  (hK : K (.tup [.sl (zaG (pos false bs bs.length)) .none, .sl (zaG (pos true bs bs.length)) .none, .bool true]) H) :
  ACalls tP zhH [.sl (data.map Dat.cs) .none, .agg (VT.mk k n ks).cs, .int .i64 c] H K := by
 refine ACalls.out (zEp fun hs => ?_)
 obtain ⟨f1, f2, f3⟩ := zc4 hk
 simp [zvk, VT.cs, Nat.add_assoc]
 refine zjN data f1 f2 f3 (.mk k n ks) ht c _ _ ?_
 rw [hf]
 simp [zbL]
 refine hrec _ _ ?_
 simp [zdT]
 unfold zje
 refine ALoop.own 11 zbg 1 rfl ?_
 refine ALoop.own 12 zbg 1 rfl ?_
 have hl1 : (H ++ [AB.cells [AV.int IntKind.i64 k, AV.int IntKind.i64 n, AV.sl (VT.css ks) Tok.none]]).length = H.length + 1 := by simp
 have hl2 : (H ++ [AB.cells [AV.int IntKind.i64 k, AV.int IntKind.i64 n, AV.sl (VT.css ks) Tok.none]] ++ [AB.perm zbg 1 0]).length = H.length + 2 := by simp
 rw [hl1, hl2]
 show zje (.sl [] (.own (H.length + 1))) (.sl [] (.own (H.length + 2))) (.sl (zbj bs) .none) (.int .i64 bs.length) (.int .i64 0) (H ++ [.cells [.int .i64 k, .int .i64 n, .sl (VT.css ks) .none]] ++ [.perm zbg 1 0] ++ [.perm zbg 1 0]) (Out H.length K)
 have hperm : ∀ m m2, HSc (H ++ [.cells [.int .i64 k, .int .i64 n, .sl (VT.css ks) .none], .perm zbg 1 m, .perm zbg 1 m2]) := fun m m2 => hs.append (by simp [AB.sc, AV.scA, AV.scB])
 refine zEn (Inv := fun q t11 t12 t30 H' => ∃ i : Nat, i ≤ bs.length ∧ q = bs.length - i ∧ t30 = .int .i64 i ∧ t11 = .sl (zaG (pos false bs i)) (.own (H.length + 1)) ∧ t12 = .sl (zaG (pos true bs i)) (.own (H.length + 2)) ∧
  H' = H ++ [.cells [.int .i64 k, .int .i64 n, .sl (VT.css ks) .none], .perm zbg 1 (pos false bs i).length, .perm zbg 1 (pos true bs i).length]) bs.length ?_ ?_
 ·intro _; exact ⟨0, by omega, by omega, rfl, by simp [pos, zaG], by simp [pos, zaG], by simp [pos]⟩
 ·rintro q t11 t12 t30 H' ⟨i, hi, rfl, rfl, rfl, rfl, rfl⟩ hsc' hlen hsF Kb hKb
  by_cases hlt : i < bs.length
  ·have hp1 := zgy false bs i hlt
   have hp2 := zgy true bs i hlt
   have hn1 := zdB false bs i
   have hn2 := zdB true bs i
   have hnext : zjd (.sl (zaG (pos false bs (i + 1))) (.own (H.length + 1))) (.sl (zaG (pos true bs (i + 1))) (.own (H.length + 2))) (.sl (zbj bs) .none) (.int .i64 bs.length) (.int .i64 i)
     (H ++ [.cells [.int .i64 k, .int .i64 n, .sl (VT.css ks) .none], .perm zbg 1 (pos false bs (i + 1)).length, .perm zbg 1 (pos true bs (i + 1)).length]) (Out H.length K) Kb := by
    simp [zjd, zvl]
    rw [zas (by omega) (by omega)]
    refine hKb _ _ ⟨bs.length - (i + 1), by omega, Back.at (J := []) (H2 := H ++ [.cells [.int .i64 k, .int .i64 n, .sl (VT.css ks) .none], .perm zbg 1 (pos false bs (i + 1)).length, .perm zbg 1 (pos true bs (i + 1)).length]) (by simp) (by simp) (hperm _ _) ?_ ⟨_, _, _, rfl, i + 1, by omega, rfl, by simp, rfl, rfl, rfl⟩⟩
    simp [zjc, AV.sc, AV.scV, AV.scA, AV.scB]
   cases hbi : bs[i] with
   | true =>
    rw [hbi] at hp1 hp2
    simp at hp1 hp2
    rw [hp1, hp2] at hnext
    simp [zjb, zdT, hlt, zfN, hbi, zaz, zbq, zaD, AV.pd, zax, zaW, zaN, zcf]
    refine ⟨⟨by omega, by omega⟩, ?_⟩
    simpa [zif, zaG] using hnext
   | false =>
    rw [hbi] at hp1 hp2
    simp at hp1 hp2
    rw [hp1, hp2] at hnext
    simp [zjb, zdT, hlt, zfN, hbi, zaz, zbq, zaD, AV.pd, zax, zaW, zaN, zcf]
    refine ⟨⟨by omega, by omega⟩, ?_⟩
    simpa [zif, zaG] using hnext
  ·obtain rfl : i = bs.length := by omega
   simp [zjb]
   refine ⟨⟨rfl, rfl, rfl⟩, ?_⟩
   exact Out.tup (bs := [.sl (zaG (pos false bs bs.length)) .none, .sl (zaG (pos true bs bs.length)) .none, .bool true]) hs hK ⟨slV, slV, zaZ rfl rfl, trivial⟩
def zaV (r : List IT) : List AV := (IT.css r).flatten
theorem zdD (x : IT) (r : List IT) : zaV (x :: r) = x.cs ++ zaV r := by simp [zaV, IT.css_map]
theorem zdn : ∀ r : List IT, (zaV r).length = r.length * 2
 | [] => rfl
 | x :: r => by rw [zdD, List.length_append, IT.cs_len, zdn r, List.length_cons]; omega
theorem znq (r : List IT) : (zaV r).all AV.known = true := by
 induction r with
 | nil => rfl
 | cons x r ih => rw [zdD, List.all_append, ih]; simp
theorem ztE (n : Nat) (r : List IT) : (zaV r).all (AV.scA n) = true := by
 induction r with
 | nil => rfl
 | cons x r ih => rw [zdD, List.all_append, ih]; simp
theorem zgB : ∀ (r : List IT) (p : Nat) (x : IT), p < r.length → (zaV r).take (p * 2) ++ x.cs ++ (zaV r).drop (p * 2 + 2) = zaV (r.set p x)
 | [], p, x, h => by simp at h
 | y :: r, 0, x, h => by
  rw [zdD, List.set_cons_zero, zdD]
  obtain ⟨a, b, hy, _, _⟩ := zc3 y
  simp [hy]
 | y :: r, p + 1, x, h => by
  have ih := zgB r p x (by simpa using h)
  rw [zdD, List.set_cons_succ, zdD, ← ih]
  obtain ⟨a, b, hy, _, _⟩ := zc3 y
  rw [show (p + 1) * 2 = p * 2 + 2 by omega, hy]
  simp
def CellR (H : zaa) (lo id : Nat) (c : AV) (r : List IT) : Prop :=
 (r = [] ∧ c = .sl [] .none) ∨ (r ≠ [] ∧ ∃ b, c = .ov b r.length ∧ lo ≤ b ∧ b ≠ id ∧ H[b]? = some (.vec zbK 2 r.length (zaV r)))
def RowsH (H : zaa) (lo id : Nat) (rows : List (List IT)) : Prop :=
 lo ≤ id ∧ ∃ cs, H[id]? = some (.vec zbJ 1 rows.length cs) ∧ All2 (CellR H lo id) cs rows
theorem CellR.keep {H H' : zaa} {lo id lo' id' : Nat} {c : AV} {r : List IT} (h : CellR H lo id c r) (hlo : lo' ≤ lo) (hid : ∀ b, lo ≤ b → b ≠ id → b < H.length → b ≠ id' ∧ H'[b]? = H[b]?) : CellR H' lo' id' c r := by
 rcases h with h | ⟨h0, b, rfl, h1, h2, h3⟩
 ·exact .inl h
 ·have := hid b h1 h2 (List.getElem?_eq_some_iff.1 h3).1
  exact .inr ⟨h0, b, rfl, by omega, this.1, by rw [this.2]; exact h3⟩
theorem CellR.sc {H : zaa} {lo id : Nat} {c : AV} {r : List IT} (h : CellR H lo id c r) : c.scA H.length = true ∧ c.known = true := by
 rcases h with ⟨_, rfl⟩ | ⟨h0, b, rfl, h1, h2, h3⟩
 ·exact ⟨rfl, rfl⟩
 ·have := (List.getElem?_eq_some_iff.1 h3).1
  exact ⟨by simpa [AV.scA, AV.scB] using this, rfl⟩
theorem zfQ {H : zaa} {lo id : Nat} : ∀ {cs : List AV} {rows : List (List IT)}, All2 (CellR H lo id) cs rows → cs.all (AV.scA H.length) = true ∧ cs.all AV.known = true
 | [], [], _ => ⟨rfl, rfl⟩
 | c :: cs, r :: rows, h => by
  obtain ⟨h1, h2⟩ := zfQ h.2
  obtain ⟨h3, h4⟩ := h.1.sc
  simp only [List.all_cons, h1, h2, h3, h4, Bool.and_self, and_self]
theorem zl1 (ps : List Nat) (row l : List IT) : (zba row ps l).length ≤ (l.length + 1) ^ ps.length := by
 rw [zfV, List.length_map]
 exact ztN _ _
theorem zzG (row l : List IT) (p : Nat) (ps : List Nat) : zba row (p :: ps) l = (List.range (l.length + 1)).flatMap fun n => zba (row.set p (.mk 0 (l.take n))) ps (l.drop n) := rfl
def upR (row l : List IT) (p : Nat) (ps : List Nat) (i : Nat) : List (List IT) := (List.range i).flatMap fun n => zba (row.set p (.mk 0 (l.take n))) ps (l.drop n)
theorem ziF (row l : List IT) (p : Nat) (ps : List Nat) (i : Nat) : upR row l p ps (i + 1) = upR row l p ps i ++ zba (row.set p (.mk 0 (l.take i))) ps (l.drop i) := by
 simp [upR, List.range_succ]
theorem zCi (row l : List IT) (p : Nat) (ps : List Nat) (i : Nat) : (upR row l p ps i).length ≤ i * (l.length + 1) ^ ps.length := by
 refine Nat.le_trans (zmc (N := (l.length + 1) ^ ps.length) _ _ fun n _ => ?_) (by simp)
 exact Nat.le_trans (zl1 _ _ _) (Nat.pow_le_pow_left (by simp) _)
theorem zio {H X : zaa} {i : Nat} {b : AB} (h : H <+: X) (hi : H.length ≤ i) : H <+: X.set i b := by
 obtain ⟨J, rfl⟩ := h
 rw [List.set_append_right _ _ hi]
 exact ⟨_, rfl⟩
theorem zgz {H X : zaa} {i : Nat} (h : H <+: X) (hi : i < H.length) : X[i]? = H[i]? := by
 obtain ⟨J, rfl⟩ := h
 exact List.getElem?_append_left hi
theorem RowA.pre {H X : zaa} {a : AV} {n : Nat} {ds : List AV} (h : RowA H a n ds) (hp : H <+: X) : RowA X a n ds := by
 obtain ⟨J, rfl⟩ := hp
 exact h.app
theorem zrk {e s b id id2 n m e2 : Nat} {cs cs2 : List AV} {H : zaa} {K : Kt} (h1 : H[id]? = some (.vec e s n cs)) (h2 : H[id2]? = some (.vec e2 s m cs2)) (hk : cs2.all AV.known = true) (hl : cs2.length = m * s) (hb1 : (n + m) * b ≤ 140737488355328) (hb2 : n + m ≤ 9223372036854775807)
  (h : K (.ov id (n + m)) (H.set id (.vec e s (n + m) (cs ++ cs2)))) : zax e s b (.ov id n) (.ov id2 m) H K := by
 simp only [zax, zcd, h1, h2, and_self, true_and]
 exact ⟨⟨hk, hl, hb1, hb2⟩, h⟩
theorem zpZ : ∀ (ps : List Nat) (H : zaa) (a : AV) (row els : List IT) (K : Kt), RowA H a row.length (zaV row) → (∀ p ∈ ps, p < row.length) → row.length ≤ 1000 → els.length ≤ 1000 → ps.length ≤ 1000 → (els.length + 1) ^ ps.length ≤ 100000000 →
  (∀ id H', H <+: H' → HSc H' → RowsH H' H.length id (zba row ps els) → K (.ov id (zba row ps els).length) H') →
  ACalls tP zeA [a, .sl (zaG ps) .none, .sl (IT.css els) .none] H K
 | [], H, a, row, els, K, hr, hps, hrl, hel, hpl, hb, hK => by
  refine ACalls.vecRes zbJ 1 (ACalls.withSc ?_)
  refine zxB fun hs => ?_
  cases els with
  | cons x els =>
   simp [zks, zaG]
   intro _
   left
   have := hK H.length (H ++ [.vec zbJ 1 0 []]) ⟨_, rfl⟩ (hs.append (by simp [AB.sc])) ⟨Nat.le_refl _, [], by simp [zba], by simp [zba]; trivial⟩
   simpa [zba] using this
  | nil =>
   simp [zks, zaG, IT.css]
   refine zt0 hr (by omega) _ (fun h0 => ?_) (fun h0 => ?_)
   ·have hrow : row = [] := by cases row <;> simp_all
    subst hrow
    simp [zeW, AV.oneK]
    intro hsc
    have := hK H.length (H ++ [.vec zbJ 1 1 [.sl [] .none]]) ⟨_, rfl⟩ hsc ⟨Nat.le_refl _, [.sl [] .none], by simp [zba], ⟨.inl ⟨rfl, rfl⟩, trivial⟩⟩
    simpa [zba] using this
   ·simp [zeW, AV.oneK]
    intro hsc
    have hne : row ≠ [] := by rintro rfl; simp at h0
    have := hK (H.length + 1) (H ++ [.vec zbK 2 row.length (zaV row), .vec zbJ 1 1 [.ov H.length row.length]]) ⟨_, rfl⟩ (by simpa using hsc) ⟨by omega, [.ov H.length row.length], by simp [zba],
     ⟨.inr ⟨hne, H.length, rfl, Nat.le_refl _, by omega, by simp⟩, trivial⟩⟩
    simpa [zba] using this
 | p :: ps, H, a, row, els, K, hr, hps, hrl, hel, hpl, hb, hK => by
  refine zxB fun hs => ?_
  have hp := hps p (by simp)
  have hpow : (els.length + 1) ^ (ps.length + 1) = (els.length + 1) ^ ps.length * (els.length + 1) := Nat.pow_succ _ _
  have hb1 : (els.length + 1) ^ ps.length * (els.length + 1) ≤ 100000000 := by rw [← hpow]; simpa using hb
  have hb2 : (els.length + 1) ^ ps.length ≤ 100000000 := Nat.le_trans (Nat.le_mul_of_pos_right _ (by omega)) hb1
  have hnl : ((ps.length + 1 : Nat) : Int) ≠ 0 := by omega
  have hn0 : ((zaG (p :: ps)).length == 0) = false := by simp [zaG]
  simp [zks, zcf]
  rw [zas (by omega) (by omega)]
  unfold zkv
  refine ALoop.vec 7 zbJ 1 rfl ?_
  show zkv a (.sl (zaG (p :: ps)) .none) (.sl (IT.css els) .none) (.ov H.length 0) (.int .i64 ((els.length : Int) + 1)) (.int .i64 0) (H ++ [.vec zbJ 1 0 []]) K
  refine zJV (Inv := fun q t7 t22 H' => ∃ i : Nat, i ≤ els.length + 1 ∧ q = els.length + 1 - i ∧ t22 = .int .i64 i ∧ t7 = .ov H.length (upR row els p ps i).length ∧ H <+: H' ∧ RowsH H' H.length H.length (upR row els p ps i)) (els.length + 1) ?_ ?_
  ·intro _; exact ⟨0, by omega, by omega, rfl, by simp [upR], ⟨_, rfl⟩, Nat.le_refl _, [], by simp [upR], by simp [upR]; trivial⟩
  ·rintro q t7 t22 H' ⟨i, hi, rfl, rfl, rfl, hpre, hlo, cs, hcs, hcells⟩ hsc hlen hsF Kb hKb
   by_cases hlt : i < els.length + 1
   ·have hHl : H.length < H'.length := (List.getElem?_eq_some_iff.1 hcs).1
    have hlt' : ((i : Int) < (els.length : Int) + 1) := by omega
    simp [zpV, hlt']
    refine zt0 (hr.pre hpre) (by omega) _ (fun h0 => by omega) (fun h0 => ?_)
    have hn0 : 0 < row.length := by omega
    have hti : (i : Int) ≤ els.length := by omega
    simp [zaG, zaC, za6]
    refine ⟨⟨by omega, by simp [IT.css_map]⟩, hp, by rw [zdn]; omega, ?_⟩
    have htk : List.take i (IT.css els) = IT.css (els.take i) := by rw [IT.css_map, IT.css_map, List.map_take]
    have hset := zgB row p (.mk 0 (els.take i)) hp
    rw [htk]
    simp only [IT.cs, List.append_assoc, List.cons_append, List.nil_append] at hset
    rw [hset]
    have hda : IT.css (els.drop i) = List.drop i (IT.css els) := by rw [IT.css_map, IT.css_map, List.map_drop]
    have hcall : ACalls tP zeA [.ov H'.length row.length, .sl (zaG ps) .none, .sl (IT.css (els.drop i)) .none] (H' ++ [.vec zbK 2 row.length (zaV (row.set p (.mk 0 (els.take i))))]) (fun t43 H2 => zax zbJ 1 24 (.ov H.length (upR row els p ps i).length) t43 H2 fun t44 H3 => t44 = .ov H.length (upR row els p ps (i + 1)).length ∧ H <+: H3 ∧ HSc H3 ∧ RowsH H3 H.length H.length (upR row els p ps (i + 1))) := by
     refine zpZ ps _ _ (row.set p (.mk 0 (els.take i))) (els.drop i) _ ⟨by rw [zdn], znq _, .inr ⟨by simpa using hn0, H'.length, zbK, by simp, by simp⟩⟩ (fun q hq => by simpa using hps q (by simp [hq])) (by simpa using hrl) (by simp; omega) (by simp at hpl; omega)
      (Nat.le_trans (Nat.pow_le_pow_left (by simp) _) hb2) ?_
     rintro id H2 hp2 hsc2 ⟨hlo2, cs2, hcs2, hcells2⟩
     have hH1 : H' <+: H2 := List.IsPrefix.trans ⟨_, rfl⟩ hp2
     have hget : H2[H.length]? = some (.vec zbJ 1 (upR row els p ps i).length cs) := by rw [zgz hH1 hHl]; exact hcs
     have hlt2 := (List.getElem?_eq_some_iff.1 hcs2).1
     have hne : id ≠ H.length := by simp at hlo2; omega
     have hm1 := zCi row els p ps (i + 1)
     rw [ziF, List.length_append] at hm1
     have hm2 : (i + 1) * (els.length + 1) ^ ps.length ≤ 100000000 := Nat.le_trans (Nat.mul_le_mul_right _ (by omega : i + 1 ≤ els.length + 1)) (by rw [Nat.mul_comm]; exact hb1)
     have hl2 := hcells2.length
     have hk2 := zfQ hcells2
     have hx1 : All2 (CellR H2 H.length H.length) cs (upR row els p ps i) := hcells.mono fun c r hc => hc.keep (Nat.le_refl _) fun b _ hb hb2 => ⟨hb, zgz hH1 hb2⟩
     have hlg := (List.getElem?_eq_some_iff.1 hget).1
     refine zrk hget hcs2 hk2.2 (by rw [hl2]; simp) (by omega) (by omega) ?_
     refine ⟨by rw [ziF, List.length_append], zio (List.IsPrefix.trans hpre hH1) (Nat.le_refl _), hsc2.set ?_, Nat.le_refl _, cs ++ cs2, ?_, ?_⟩
     ·simp only [AB.sc, List.all_append, hk2.1, (zfQ hx1).1, Bool.and_self]
     ·rw [List.getElem?_set_self hlg, ziF, List.length_append]
     ·rw [ziF]
      have hkp : ∀ b, b < H2.length → b ≠ H.length → (H2.set H.length (.vec zbJ 1 ((upR row els p ps i).length + (zba (row.set p (.mk 0 (els.take i))) ps (els.drop i)).length) (cs ++ cs2)))[b]? = H2[b]? := fun b _ hb => List.getElem?_set_ne (fun h => hb h.symm)
      refine (hx1.mono fun c r hc => hc.keep (Nat.le_refl _) fun b _ hb hb2 => ⟨hb, hkp b hb2 hb⟩).append (hcells2.mono fun c r hc => hc.keep (by simp; omega) fun b hb1 hb hb2 => ?_)
      have : b ≠ H.length := by simp at hb1; omega
      exact ⟨this, hkp b hb2 this⟩
    have hasc : ∀ n, H.length ≤ n → a.sc n = true := fun n hn => by
     obtain ⟨_, _, h⟩ := hr
     rcases h with ⟨id, rfl, h⟩ | ⟨_, id, e, rfl, h⟩
     ·have := (List.getElem?_eq_some_iff.1 h).1
      simp [AV.sc, AV.scV, AV.scA, AV.scB]; omega
     ·have := (List.getElem?_eq_some_iff.1 h).1
      simp [AV.sc, AV.scV, AV.scA, AV.scB]; omega
    have hfin : ∀ H3, H <+: H3 → HSc H3 → RowsH H3 H.length H.length (upR row els p ps (i + 1)) → zpX a (.sl (zaG (p :: ps)) .none) (.sl (IT.css els) .none) (.ov H.length (upR row els p ps (i + 1)).length) (.int .i64 ((els.length : Int) + 1)) (.int .i64 i) H3 K Kb := by
     intro H3 g1 g2 g3
     have hl3 := (List.getElem?_eq_some_iff.1 g3.2.choose_spec.1).1
     simp [zpX]
     rw [zas (by omega) (by omega)]
     refine hKb _ _ ⟨els.length + 1 - (i + 1), by omega, Back.at (J := []) (H2 := H3) (by simp) (by simp; omega) g2 ?_ ⟨_, _, rfl, i + 1, by omega, rfl, by simp, rfl, g1, g3⟩⟩
     simp [zku, AV.sc, AV.scV, AV.scA, AV.scB, hl3]
     exact hasc _ (by omega)
    refine zA5 zJY ?_
    rw [zJX]
    have hl1 : List.take ps.length (List.map (fun n : Nat => [AV.int .i64 (n : Int)]) ps) = zaG ps := by rw [List.take_of_length_le (by simp)]; rfl
    have hl2 : List.take els.length (IT.css els) = IT.css els := List.take_of_length_le (by simp)
    simp [hl1, hl2, ← hda]
    refine ⟨⟨by omega, by simp [IT.css_map]⟩, ?_⟩
    refine ACalls.monoZ hcall fun t43 H2 h => zrj (fun t44 H3 h3 => ?_) h
    obtain ⟨rfl, h1, h2, h3⟩ := h3
    exact zJU fun _ => hfin _ h1 h2 h3
   ·obtain rfl : i = els.length + 1 := by omega
    have hlt' : ¬ ((els.length : Int) + 1 < (els.length : Int) + 1) := by omega
    simp [zpV]
    exact hK H.length H' hpre hsc ⟨Nat.le_refl _, cs, hcs, hcells⟩
theorem zyJ (data : List Dat) (hk : za8 data) (t : VT) (ht : t.nodes ≤ 1000) (c : Int) (H : zaa) (K : Kt) (hK : K (zbL (zbn data t c)) H) :
  ACalls tP zie [.sl (data.map Dat.cs) .none, .agg t.cs, .int .i64 c] H K := by
 refine ACalls.out (zNz fun hs => ?_)
 obtain ⟨f1, f2, f3⟩ := zc4 hk
 obtain ⟨k, n, ks⟩ := t
 simp [zyI, VT.cs, Nat.add_assoc]
 refine zjN data f1 f2 f3 (.mk k n ks) ht c _ _ ?_
 cases hf : zaR data (.mk k n ks) c with
 | none =>
  rw [zte hf] at hK
  simp [zbL]
  refine ⟨⟨rfl, rfl⟩, ?_⟩
  exact Out.tup (bs := [.sl [] .none, .bool false]) hs hK ⟨zea, zaZ rfl rfl, trivial⟩
 | some l =>
  obtain ⟨bs, hlb, hl8, hpay, h200, k5, _, hrec⟩ := zni hk hf
  rw [hpay] at hK
  simp [zbL]
  refine zvm data hk k n ks ht c hf hlb hl8 hrec _ _ ?_
  simp [zcf]
  unfold zlE
  refine ALoop.own 13 zaX 3 rfl ?_
  have hl1 : (H ++ [AB.cells [AV.int IntKind.i64 k, AV.int IntKind.i64 n, AV.sl (VT.css ks) Tok.none]]).length = H.length + 1 := by simp
  rw [hl1]
  have hpp := zdj hlb (.mk 0 0 []) l.length (Nat.le_refl _)
  rw [List.take_length, hlb, List.take_length] at hpp
  rw [hpp] at hK
  have hpt : ∀ j ∈ pos false bs bs.length, j < l.length := fun j hj => by have := zdk hj; omega
  have hp8 := zdB false bs bs.length
  generalize pos false bs bs.length = P at *
  show zlE (.sl (VT.css l) .none) (.sl [] (.own (H.length + 1))) (.sl (zaG P) .none) (.int .i64 P.length) (.int .i64 0) (H ++ [.cells [.int .i64 k, .int .i64 n, .sl (VT.css ks) .none]] ++ [.perm zaX 3 0]) (Out H.length K)
  have hperm : ∀ m, HSc (H ++ [.cells [.int .i64 k, .int .i64 n, .sl (VT.css ks) .none], .perm zaX 3 m]) := fun m => hs.append (by simp [AB.sc, AV.scA, AV.scB])
  refine zNx (Inv := fun q t13 t35 H' => ∃ i : Nat, i ≤ P.length ∧ q = P.length - i ∧ t35 = .int .i64 i ∧ t13 = .sl (VT.css ((P.take i).map fun j => l.getD j (.mk 0 0 []))) (.own (H.length + 1)) ∧ H' = H ++ [.cells [.int .i64 k, .int .i64 n, .sl (VT.css ks) .none], .perm zaX 3 i]) P.length ?_ ?_
  ·intro _; exact ⟨0, by omega, by omega, rfl, by simp [VT.css], by simp⟩
  ·rintro q t13 t35 H' ⟨i, hi, rfl, rfl, rfl, rfl⟩ hsc' hlen hsF Kb hKb
   by_cases hlt : i < P.length
   ·have hj := hpt _ (List.getElem_mem hlt)
    simp [zq7, zcf, zig, hlt, hj]
    rw [zdv]
    simp [zax, zaW, zaN, Nat.min_eq_left hi]
    refine ⟨⟨by omega, by omega⟩, ?_⟩
    rw [zas (by omega) (by omega)]
    have hst : VT.css (List.take i (List.map (fun j => l[j]?.getD (VT.mk 0 0 [])) P)) ++ [(l[P[i]]'hj).cs] = VT.css ((P.take (i + 1)).map fun j => l.getD j (.mk 0 0 [])) := by
     rw [List.take_succ_eq_append_getElem hlt, VT.css_map, VT.css_map, List.map_append, List.map_append, List.map_take]
     simp [List.getD_eq_getElem?_getD, hj]
    rw [hst]
    refine hKb _ _ ⟨P.length - (i + 1), by omega, Back.at (J := []) (H2 := H ++ [.cells [.int .i64 k, .int .i64 n, .sl (VT.css ks) .none], .perm zaX 3 (i + 1)]) (by simp) (by simp) (hperm _) ?_ ⟨_, _, rfl, i + 1, by omega, rfl, by simp, rfl, rfl⟩⟩
    simp [zlD, AV.sc, AV.scV, AV.scA, AV.scB]
   ·obtain rfl : i = P.length := by omega
    rw [List.take_length] at *
    simp [zq7, zcf]
    refine ⟨⟨rfl, rfl⟩, ?_⟩
    exact Out.tup (bs := [.sl (VT.css (P.map fun j => l.getD j (.mk 0 0 []))) .none, .bool true]) hs hK ⟨slV, zaZ rfl rfl, trivial⟩
end Go.Proofs.YtjkkonpjecoieaaGreat
