import Derived.Test.YtjkkonpjecoieaaGreatKNum
import Derived.Test.YtjkkonpjecoieaaGreatProg
import Derived.KernelRfl
import Derived.Test.YtjkkonpjecoieaaGreatKGA
set_option linter.unusedSimpArgs false
set_option linter.unusedVariables false
namespace Go.Proofs.YtjkkonpjecoieaaGreat
open Go Go.Abs
set_option maxRecDepth 100000
def zAb (_ : Nat) : List Bool := []
noncomputable def zAc : Code := Tryz.f13.body.getD .skip
def zsh (t0 : AV) (H : zaa) (K : Kt) : Prop :=
 zap t0 H fun t1 H =>
 zau [(.int .i64 0)] H fun t3 H =>
 zak 1 t3 (.int .i64 400) H fun H =>
 zad true 3 t1 H fun t4 =>
 ACalls tP zgU [t4, t3] H fun t5 H =>
 K t5 H
theorem zAd {t0 : AV} {H : zaa} {K : Kt} (h : HSc H → zsh t0 H K) : ACalls tP zkL [t0] H K :=
 zam (M := zAb) Tryz.func13 (c := zAc) (by kernel_rfl) (fun hs => Eq.mpr (by kernel_rfl) (h hs))
def zFM (_ : Nat) : List Bool := []
noncomputable def zFN : Code := Tryz.f32.body.getD .skip
def zuv (t0 t1 t2 : AV) (H : zaa) (K : Kt) : Prop :=
 zap t1 H fun t4 H =>
 zap t2 H fun t5 H =>
 zau [(.int .i64 0)] H fun t7 H =>
 zak 1 t7 (.int .i64 5000) H fun H =>
 zad true 3 t5 H fun t9 =>
 ACalls tP zlu [t0, t9] H fun t10 H =>
 zab t10 true H (fun K' => zad true 3 t4 H (K' · H)) fun t12 H =>
 zab t10 true H (fun K' => ACalls tP zg2 [t12, t7] H K') fun t13 H =>
 zai t10 t13 (.bool false) fun t14 =>
 zab t14 true H (fun K' => K' t0 H) fun t16 H =>
 zab t14 true H (fun K' => zad true 3 t4 H (K' · H)) fun t17 H =>
 zab t14 true H (fun K' => zad true 3 t5 H (K' · H)) fun t18 H =>
 zab t14 true H (fun K' => ACalls tP zfE [t16, t17, t18] H K') fun t19 H =>
 zai t14 t19 (.bool false) fun t20 =>
 K t20 H
theorem zFO {t0 t1 t2 : AV} {H : zaa} {K : Kt} (h : HSc H → zuv t0 t1 t2 H K) : ACalls tP zgT [t0, t1, t2] H K :=
 zam (M := zFM) Tryz.func32 (c := zFN) (by kernel_rfl) (fun hs => Eq.mpr (by kernel_rfl) (h hs))
def zA3 (_ : Nat) : List Bool := []
noncomputable def zA4 : Code := Tryz.f15.body.getD .skip
def zsE (t0 t1 t2 : AV) (H : zaa) (K : Kt) : Prop :=
 zap t1 H fun t4 H =>
 zap t2 H fun t5 H =>
 zau [(.int .i64 0)] H fun t7 H =>
 zak 1 t7 (.int .i64 5000) H fun H =>
 ACalls tP zgV [t0] H fun t9 H =>
 zab t9 true H (fun K' => K' t0 H) fun t11 H =>
 zab t9 true H (fun K' => zad true 3 t5 H (K' · H)) fun t12 H =>
 zab t9 true H (fun K' => ACalls tP zfz [t11, t12, (.int .i64 0)] H K') fun t13 H =>
 zai t9 t13 (.bool false) fun t14 =>
 zab t14 true H (fun K' => zad true 3 t4 H (K' · H)) fun t16 H =>
 zab t14 true H (fun K' => ACalls tP zgW [t16, t7] H K') fun t17 H =>
 zai t14 t17 (.bool false) fun t18 =>
 zab t18 true H (fun K' => K' t0 H) fun t20 H =>
 zab t18 true H (fun K' => zad true 3 t4 H (K' · H)) fun t21 H =>
 zab t18 true H (fun K' => zad true 3 t5 H (K' · H)) fun t22 H =>
 zab t18 true H (fun K' => ACalls tP zfA [t20, t21, t22] H K') fun t23 H =>
 zai t18 t23 (.bool false) fun t24 =>
 K t24 H
theorem zA5 {t0 t1 t2 : AV} {H : zaa} {K : Kt} (h : HSc H → zsE t0 t1 t2 H K) : ACalls tP zgD [t0, t1, t2] H K :=
 zam (M := zA3) Tryz.func15 (c := zA4) (by kernel_rfl) (fun hs => Eq.mpr (by kernel_rfl) (h hs))
def zH1 (_ : Nat) : List Bool := []
noncomputable def zH2 : Code := Tryz.f75.body.getD .skip
def zvc (t0 t1 : AV) (H : zaa) (K : Kt) : Prop :=
 zap t1 H fun t3 H =>
 zav [.snil, .snil, .snil, .snil] [(0, 1), (1, 1), (2, 1), (3, 1)] [(0, t0)] fun t6 =>
 ACalls tP zgy [t6] H fun t7 H =>
 zab t7 true H (fun K' => K' t0 H) fun t9 H =>
 zab t7 true H (fun K' => zad true 3 t3 H (K' · H)) fun t10 H =>
 zab t7 true H (fun K' => ACalls tP zex [t9, t10, (.int .i64 0)] H K') fun t11 H =>
 zai t7 t11 (.bool false) fun t12 =>
 K t12 H
theorem zH3 {t0 t1 : AV} {H : zaa} {K : Kt} (h : HSc H → zvc t0 t1 H K) : ACalls tP zlu [t0, t1] H K :=
 zam (M := zH1) Tryz.func75 (c := zH2) (by kernel_rfl) (fun hs => Eq.mpr (by kernel_rfl) (h hs))
def zH5 (_ : Nat) : List Bool := []
noncomputable def zH6 : Code := Tryz.f76.body.getD .skip
def zvd (t0 t1 : AV) (H : zaa) (K : Kt) : Prop :=
 zap t0 H fun t2 H =>
 zap t1 H fun t3 H =>
 zad false 1 t3 H fun t5 =>
 zaU t5 fun t6 =>
 zad false 1 t6 H fun t7 =>
 zac .sub false t7 (.int .i64 1) fun t8 =>
 zaU t5 fun t9 =>
 zak 1 t9 t8 H fun H =>
 zad false 1 t3 H fun t10 =>
 zaU t10 fun t11 =>
 zad false 1 t11 H fun t12 =>
 zac .lss false t12 (.int .i64 0) fun t13 =>
 zag t13
 (K (.bool false) H)
 (zaf 2 t2 fun t14 =>
 zad false 1 t14 H fun t15 =>
 zbM zkN [t3] fun t16 =>
 ACalls tP zgA [t15, t16] H fun t17 H =>
 aUn .not t17 fun t18 =>
 K t18 H)
theorem zH7 {t0 t1 : AV} {H : zaa} {K : Kt} (h : HSc H → zvd t0 t1 H K) : ACalls tP zg2 [t0, t1] H K :=
 zam (M := zH5) Tryz.func76 (c := zH6) (by kernel_rfl) (fun hs => Eq.mpr (by kernel_rfl) (h hs))
def zAi (_ : Nat) : List Bool := []
noncomputable def zAj : Code := Tryz.f123.body.getD .skip
def zsv (t0 t1 : AV) (H : zaa) (K : Kt) : Prop :=
 zap t0 H fun t2 H =>
 zad true 3 t2 H fun t4 =>
 zad false 1 t1 H fun t5 =>
 ACalls tP zg2 [t4, t5] H fun t6 H =>
 aUn .not t6 fun t7 =>
 K t7 H
theorem zAk {t0 t1 : AV} {H : zaa} {K : Kt} (h : HSc H → zsv t0 t1 H K) : ACalls tP zkN [t0, t1] H K :=
 zam (M := zAi) Tryz.func123 (c := zAj) (by kernel_rfl) (fun hs => Eq.mpr (by kernel_rfl) (h hs))
def zAf (_ : Nat) : List Bool := []
noncomputable def zAg : Code := Tryz.f122.body.getD .skip
def zsu (t0 t1 : AV) (H : zaa) (K : Kt) : Prop :=
 ACalls tP zkZ [t0, t1] H fun t7 H =>
 zac .geq false t7 (.int .i64 0) fun t8 =>
 K t8 H
theorem zAh {t0 t1 : AV} {H : zaa} {K : Kt} (h : HSc H → zsu t0 t1 H K) : ACalls tP zgA [t0, t1] H K :=
 zam (M := zAf) Tryz.func122 (c := zAg) (by kernel_rfl) (fun hs => Eq.mpr (by kernel_rfl) (h hs))
def zii : Nat → List Bool
 | 2 => rl false [0,2,5,2,10]
 | _ => []
noncomputable def zmS : Code := Tryz.f166.body.getD .skip
noncomputable def zCD : List ResultVar := Tryz.f166.results.toList
def zij (t0 t1 t7 t8 : AV) : List AV := t0 :: t1 :: ux 5 (t7 :: t8 :: ux 10 [])
def zCB : List Bool := zii 2
noncomputable def zCz : Code := zar [1, 0, 1, 0, 0] zmS
def zCy (K : Kt) : AExit → List AV → zaa → Prop := zas tP zii [1, 0, 1, 0] zmS (zaw tP zCD K)
def ztt (t0 t1 t7 t8 : AV) (H : zaa) (K : Kt) : Prop := ALoop tP zCz (zCy K) (zij t0 t1 t7 t8) H
def zmR (t0 t1 t7 t8 : AV) (H : zaa) (K : Kt) (Kb2 : Lt) : Prop :=
 zac .lss false t8 t7 fun t9 =>
 zag t9
 (zaj 3 t0 t8 fun t14 =>
 zad true 3 t14 H fun t15 =>
 aCallV tP t1 [t15] H fun t16 H =>
 zag t16
 (K t8 H)
 (zac .add false t8 (.int .i64 1) fun t18 =>
 Kb2 (zij t0 t1 t7 t18) H))
 (K (.int .i64 (-1)) H)
def zts (t0 t1 : AV) (H : zaa) (K : Kt) : Prop :=
 zah 1 t0 fun t7 =>
 ztt t0 t1 t7 (.int .i64 0) H K
theorem zCA {t0 t1 t7 t8 : AV} {H : zaa} {K : Kt} (Inv : Nat → AV → zaa → Prop) (n : Nat) (h0 : HSc H → Inv n t8 H)
  (round : Rd1 (fun t8 => zij t0 t1 t7 t8) (fun t8 => fun H Kb2 => zmR t0 t1 t7 t8 H K Kb2) H Inv) : ztt t0 t1 t7 t8 H K :=
 lp1 (M := zii) zCB t8 (by kernel_rfl) Inv n h0 round
theorem zCC {t0 t1 : AV} {H : zaa} {K : Kt} (h : HSc H → zts t0 t1 H K) : ACalls tP zkZ [t0, t1] H K :=
 zam (M := zii) Tryz.func166 (c := zmS) (by kernel_rfl) (fun hs => Eq.mpr (by kernel_rfl) (h hs))
def zH9 (_ : Nat) : List Bool := []
noncomputable def zIa : Code := Tryz.f77.body.getD .skip
def zdj (t0 t1 t2 : AV) (H : zaa) (K : Kt) : Prop :=
 zap t0 H fun t3 H =>
 zap t1 H fun t4 H =>
 zap t2 H fun t5 H =>
 zaf 0 t5 fun t9 =>
 zad false 1 t9 H fun t10 =>
 zac .eql false t10 (.int .i64 1) fun t12 =>
 zag t12
 (zaf 0 t4 fun t13 =>
 zad false 1 t13 H fun t14 =>
 zac .eql false t14 (.int .i64 3) fun t15 =>
 zab t15 true H (fun K' => zaf 1 t4 (K' · H)) fun t17 H =>
 zab t15 true H (fun K' => zad false 1 t17 H (K' · H)) fun t18 H =>
 zab t15 true H (fun K' => zac .leq false (.int .i64 (-1099511627776)) t18 (K' · H)) fun t19 H =>
 zai t15 t19 (.bool false) fun t20 =>
 zab t20 true H (fun K' => zaf 1 t4 (K' · H)) fun t22 H =>
 zab t20 true H (fun K' => zad false 1 t22 H (K' · H)) fun t23 H =>
 zab t20 true H (fun K' => zac .leq false t23 (.int .i64 1099511627776) (K' · H)) fun t24 H =>
 zai t20 t24 (.bool false) fun t25 =>
 zab t25 true H (fun K' => zaf 2 t4 (K' · H)) fun t27 H =>
 zab t25 true H (fun K' => zad false 1 t27 H (K' · H)) fun t28 H =>
 zab t25 true H (fun K' => zah 1 t28 (K' · H)) fun t29 H =>
 zab t25 true H (fun K' => zac .eql false t29 (.int .i64 0) (K' · H)) fun t30 H =>
 zai t25 t30 (.bool false) fun t31 =>
 K t31 H)
 (zac .eql false t10 (.int .i64 2) fun t33 =>
 zag t33
 (zaf 0 t4 fun t34 =>
 zad false 1 t34 H fun t35 =>
 zac .eql false t35 (.int .i64 2) fun t36 =>
 zab t36 true H (fun K' => zaf 1 t4 (K' · H)) fun t38 H =>
 zab t36 true H (fun K' => zad false 1 t38 H (K' · H)) fun t39 H =>
 zab t36 true H (fun K' => zac .eql false t39 (.int .i64 0) (K' · H)) fun t40 H =>
 zab t36 true H (fun K' => K' t40 H) fun t41 H =>
 zab t41 false H (fun K' => zaf 1 t4 (K' · H)) fun t42 H =>
 zab t41 false H (fun K' => zad false 1 t42 H (K' · H)) fun t43 H =>
 zab t41 false H (fun K' => zac .eql false t43 (.int .i64 1) (K' · H)) fun t44 H =>
 zab t36 true H (fun K' => zai t41 (.bool true) t44 (K' · H)) fun t45 H =>
 zai t36 t45 (.bool false) fun t46 =>
 zab t46 true H (fun K' => zaf 2 t4 (K' · H)) fun t48 H =>
 zab t46 true H (fun K' => zad false 1 t48 H (K' · H)) fun t49 H =>
 zab t46 true H (fun K' => zah 1 t49 (K' · H)) fun t50 H =>
 zab t46 true H (fun K' => zac .eql false t50 (.int .i64 0) (K' · H)) fun t51 H =>
 zai t46 t51 (.bool false) fun t52 =>
 K t52 H)
 (zac .eql false t10 (.int .i64 3) fun t54 =>
 zag t54
 (zaf 0 t4 fun t55 =>
 zad false 1 t55 H fun t56 =>
 zac .eql false t56 (.int .i64 1) fun t57 =>
 zab t57 true H (fun K' => zaf 1 t4 (K' · H)) fun t59 H =>
 zab t57 true H (fun K' => zad false 1 t59 H (K' · H)) fun t60 H =>
 zab t57 true H (fun K' => zac .eql false t60 (.int .i64 0) (K' · H)) fun t61 H =>
 zai t57 t61 (.bool false) fun t62 =>
 zab t62 true H (fun K' => zaf 2 t4 (K' · H)) fun t64 H =>
 zab t62 true H (fun K' => zad false 1 t64 H (K' · H)) fun t65 H =>
 zab t62 true H (fun K' => zah 1 t65 (K' · H)) fun t66 H =>
 zab t62 true H (fun K' => zac .eql false t66 (.int .i64 0) (K' · H)) fun t67 H =>
 zai t62 t67 (.bool false) fun t68 =>
 K t68 H)
 (zac .eql false t10 (.int .i64 6) fun t70 =>
 zag t70
 (zaf 0 t4 fun t71 =>
 zad false 1 t71 H fun t72 =>
 zac .eql false t72 (.int .i64 4) fun t73 =>
 zab t73 true H (fun K' => zaf 1 t4 (K' · H)) fun t75 H =>
 zab t73 true H (fun K' => zad false 1 t75 H (K' · H)) fun t76 H =>
 zab t73 true H (fun K' => zac .eql false t76 (.int .i64 0) (K' · H)) fun t77 H =>
 zai t73 t77 (.bool false) fun t78 =>
 zab t78 true H (fun K' => zad false 1 t3 H (K' · H)) fun t80 H =>
 zab t78 true H (fun K' => zaf 2 t4 (K' · H)) fun t81 H =>
 zab t78 true H (fun K' => zad false 1 t81 H (K' · H)) fun t82 H =>
 zab t78 true H (fun K' => zaf 2 t5 (K' · H)) fun t83 H =>
 zab t78 true H (fun K' => zad false 1 t83 H (K' · H)) fun t84 H =>
 zab t78 true H (fun K' => ACalls tP zft [t80, t82, t84] H K') fun t85 H =>
 zai t78 t85 (.bool false) fun t86 =>
 K t86 H)
 (zac .eql false t10 (.int .i64 5) fun t88 =>
 zag t88
 (zaf 0 t4 fun t89 =>
 zad false 1 t89 H fun t90 =>
 zac .neq false t90 (.int .i64 5) fun t91 =>
 zab t91 false H (fun K' => zaf 1 t4 (K' · H)) fun t93 H =>
 zab t91 false H (fun K' => zad false 1 t93 H (K' · H)) fun t94 H =>
 zab t91 false H (fun K' => zac .lss false t94 (.int .i64 0) (K' · H)) fun t95 H =>
 zai t91 (.bool true) t95 fun t96 =>
 zab t96 false H (fun K' => zaf 1 t4 (K' · H)) fun t98 H =>
 zab t96 false H (fun K' => zad false 1 t98 H (K' · H)) fun t99 H =>
 zab t96 false H (fun K' => zac .geq false t99 (.int .i64 8) (K' · H)) fun t100 H =>
 zai t96 (.bool true) t100 fun t101 =>
 zag t101
 (K (.bool false) H)
 (zad false 1 t3 H fun t103 =>
 zad true 3 t5 H fun t104 =>
 zaf 1 t4 fun t105 =>
 zad false 1 t105 H fun t106 =>
 ACalls tP zgX [t103, t104, t106] H fun t107 H =>
 zax t107 0 fun t108 =>
 zax t107 1 fun t109 =>
 zab t109 true H (fun K' => zad false 1 t3 H (K' · H)) fun t112 H =>
 zab t109 true H (fun K' => zaf 2 t4 (K' · H)) fun t113 H =>
 zab t109 true H (fun K' => zad false 1 t113 H (K' · H)) fun t114 H =>
 zab t109 true H (fun K' => K' t108 H) fun t115 H =>
 zab t109 true H (fun K' => ACalls tP zft [t112, t114, t115] H K') fun t116 H =>
 zai t109 t116 (.bool false) fun t117 =>
 K t117 H))
 (zac .eql false t10 (.int .i64 7) fun t119 =>
 zag t119
 (zaf 0 t4 fun t120 =>
 zad false 1 t120 H fun t121 =>
 zac .eql false t121 (.int .i64 6) fun t122 =>
 zab t122 true H (fun K' => zaf 1 t4 (K' · H)) fun t124 H =>
 zab t122 true H (fun K' => zad false 1 t124 H (K' · H)) fun t125 H =>
 zab t122 true H (fun K' => zac .eql false t125 (.int .i64 0) (K' · H)) fun t126 H =>
 zai t122 t126 (.bool false) fun t127 =>
 zab t127 true H (fun K' => zaf 2 t4 (K' · H)) fun t129 H =>
 zab t127 true H (fun K' => zad false 1 t129 H (K' · H)) fun t130 H =>
 zab t127 true H (fun K' => zah 1 t130 (K' · H)) fun t131 H =>
 zab t127 true H (fun K' => zac .leq false t131 (.int .i64 4096) (K' · H)) fun t132 H =>
 zai t127 t132 (.bool false) fun t133 =>
 zab t133 true H (fun K' => zaf 2 t4 (K' · H)) fun t135 H =>
 zab t133 true H (fun K' => zad false 1 t135 H (K' · H)) fun t136 H =>
 zab t133 true H (fun K' => zbM zkO [t3, t5] (K' · H)) fun t137 H =>
 zab t133 true H (fun K' => ACalls tP zgA [t136, t137] H K') fun t138 H =>
 zab t133 true H (fun K' => aUn .not t138 (K' · H)) fun t139 H =>
 zai t133 t139 (.bool false) fun t140 =>
 K t140 H)
 (zac .eql false t10 (.int .i64 8) fun t142 =>
 zag t142
 (zaf 0 t4 fun t143 =>
 zad false 1 t143 H fun t144 =>
 zac .eql false t144 (.int .i64 7) fun t145 =>
 zab t145 true H (fun K' => zaf 1 t4 (K' · H)) fun t147 H =>
 zab t145 true H (fun K' => zad false 1 t147 H (K' · H)) fun t148 H =>
 zab t145 true H (fun K' => zac .eql false t148 (.int .i64 0) (K' · H)) fun t149 H =>
 zai t145 t149 (.bool false) fun t150 =>
 zab t150 true H (fun K' => zad false 1 t3 H (K' · H)) fun t152 H =>
 zab t150 true H (fun K' => zaf 2 t4 (K' · H)) fun t153 H =>
 zab t150 true H (fun K' => zad false 1 t153 H (K' · H)) fun t154 H =>
 zab t150 true H (fun K' => zaf 2 t5 (K' · H)) fun t155 H =>
 zab t150 true H (fun K' => zad false 1 t155 H (K' · H)) fun t156 H =>
 zab t150 true H (fun K' => ACalls tP zft [t152, t154, t156] H K') fun t157 H =>
 zai t150 t157 (.bool false) fun t158 =>
 K t158 H)
 (zac .eql false t10 (.int .i64 9) fun t160 =>
 zag t160
 (zaf 0 t4 fun t161 =>
 zad false 1 t161 H fun t162 =>
 zac .eql false t162 (.int .i64 8) fun t163 =>
 zab t163 true H (fun K' => zaf 1 t4 (K' · H)) fun t165 H =>
 zab t163 true H (fun K' => zad false 1 t165 H (K' · H)) fun t166 H =>
 zab t163 true H (fun K' => zac .leq false (.int .i64 0) t166 (K' · H)) fun t167 H =>
 zai t163 t167 (.bool false) fun t168 =>
 zab t168 true H (fun K' => zaf 1 t4 (K' · H)) fun t170 H =>
 zab t168 true H (fun K' => zad false 1 t170 H (K' · H)) fun t171 H =>
 zab t168 true H (fun K' => zac .lss false t171 (.int .i64 64) (K' · H)) fun t172 H =>
 zai t168 t172 (.bool false) fun t173 =>
 zab t173 true H (fun K' => zaf 2 t4 (K' · H)) fun t175 H =>
 zab t173 true H (fun K' => zad false 1 t175 H (K' · H)) fun t176 H =>
 zab t173 true H (fun K' => zah 1 t176 (K' · H)) fun t177 H =>
 zab t173 true H (fun K' => zac .eql false t177 (.int .i64 0) (K' · H)) fun t178 H =>
 zai t173 t178 (.bool false) fun t179 =>
 K t179 H)
 (K (.bool false) H))))))))
theorem zIb {t0 t1 t2 : AV} {H : zaa} {K : Kt} (h : HSc H → zdj t0 t1 t2 H K) : ACalls tP zfE [t0, t1, t2] H K :=
 zam (M := zH9) Tryz.func77 (c := zIa) (by kernel_rfl) (fun hs => Eq.mpr (by kernel_rfl) (h hs))
def zAl (_ : Nat) : List Bool := []
noncomputable def zAm : Code := Tryz.f124.body.getD .skip
def zsw (t0 t1 t2 : AV) (H : zaa) (K : Kt) : Prop :=
 zap t0 H fun t3 H =>
 zbM zk1 [t3] fun t9 =>
 ACalls tP zk0 [t1, t2, t9] H fun t10 H =>
 K t10 H
theorem zAn {t0 t1 t2 : AV} {H : zaa} {K : Kt} (h : HSc H → zsw t0 t1 t2 H K) : ACalls tP zft [t0, t1, t2] H K :=
 zam (M := zAl) Tryz.func124 (c := zAm) (by kernel_rfl) (fun hs => Eq.mpr (by kernel_rfl) (h hs))
def zAo (_ : Nat) : List Bool := []
noncomputable def zAp : Code := Tryz.f125.body.getD .skip
def zsx (t0 t1 t2 : AV) (H : zaa) (K : Kt) : Prop :=
 zap t0 H fun t3 H =>
 zae H (fun K' => zan false 1 t1 H (K' · H)) fun t5 =>
 zae H (fun K' => zan true 3 t3 H (K' · H)) fun t6 =>
 zae H (fun K' => zaf 2 t2 (K' · H)) fun t7 =>
 zae H (fun K' => zan false 1 t7 H (K' · H)) fun t8 =>
 zae H (fun K' => zaj 3 t8 (.int .i64 0) (K' · H)) fun t9 =>
 zae H (fun K' => zan true 3 t9 H (K' · H)) fun t10 =>
 za6 H (fun H K' => ACalls tP zfE [t5, t6, t10] H K') fun t11 =>
 zae H (fun K' => aUn .not t11 (K' · H)) fun t12 =>
 zae H (fun K' => K' t12 H) fun t4 =>
 K t4 H
theorem zAq {t0 t1 t2 : AV} {H : zaa} {K : Kt} (h : HSc H → zsx t0 t1 t2 H K) : ACalls tP zkO [t0, t1, t2] H K :=
 zam (M := zAo) Tryz.func125 (c := zAp) (by kernel_rfl) (fun hs => Eq.mpr (by kernel_rfl) (h hs))
def zik : Nat → List Bool
 | 4 => rl false [1,2,12,3,14]
 | _ => []
noncomputable def zmV : Code := Tryz.f167.body.getD .skip
noncomputable def zCJ : List ResultVar := Tryz.f167.results.toList
def zil (t1 t2 t15 t16 t17 : AV) : List AV := ux 1 (t1 :: t2 :: ux 12 (t15 :: t16 :: t17 :: ux 14 []))
def zCH : List Bool := zik 4
noncomputable def zCF : Code := zar [1, 1, 0, 1, 0, 0] zmV
def zCE (K : Kt) : AExit → List AV → zaa → Prop := zas tP zik [1, 1, 0, 1, 0] zmV (zaw tP zCJ K)
def ztu (t1 t2 t15 t16 t17 : AV) (H : zaa) (K : Kt) : Prop := ALoop tP zCF (zCE K) (zil t1 t2 t15 t16 t17) H
def zmU (t1 t2 t15 t16 t17 : AV) (H : zaa) (K : Kt) (Kb4 : Lt) : Prop :=
 zac .lss false t17 t16 fun t18 =>
 zag t18
 (zaj 3 t15 t17 fun t20 =>
 zad true 3 t20 H fun t21 =>
 zau [(.int .i64 0), (.int .i64 0), .snil] H fun t8 H =>
 zak 3 t8 t21 H fun H =>
 zaj 3 t1 t17 fun t24 =>
 zad true 3 t24 H fun t25 =>
 zau [(.int .i64 0), (.int .i64 0), .snil] H fun t9 H =>
 zak 3 t9 t25 H fun H =>
 zad true 3 t8 H fun t27 =>
 zad true 3 t9 H fun t28 =>
 aCallV tP t2 [t27, t28] H fun t29 H =>
 aUn .not t29 fun t30 =>
 zag t30
 (K (.bool false) H)
 (zac .add false t17 (.int .i64 1) fun t31 =>
 Kb4 (zil t1 t2 t15 t16 t31) H))
 (K (.bool true) H)
def zmT (t0 t1 t2 : AV) (H : zaa) (K : Kt) : Prop :=
 zah 1 t0 fun t11 =>
 zah 1 t1 fun t13 =>
 zac .neq false t11 t13 fun t14 =>
 zag t14
 (K (.bool false) H)
 (zah 1 t0 fun t16 =>
 ztu t1 t2 t0 t16 (.int .i64 0) H K)
theorem zCG {t1 t2 t15 t16 t17 : AV} {H : zaa} {K : Kt} (Inv : Nat → AV → zaa → Prop) (n : Nat) (h0 : HSc H → Inv n t17 H)
  (round : Rd1 (fun t17 => zil t1 t2 t15 t16 t17) (fun t17 => fun H Kb4 => zmU t1 t2 t15 t16 t17 H K Kb4) H Inv) : ztu t1 t2 t15 t16 t17 H K :=
 lp1 (M := zik) zCH t17 (by kernel_rfl) Inv n h0 round
theorem zCI {t0 t1 t2 : AV} {H : zaa} {K : Kt} (h : HSc H → zmT t0 t1 t2 H K) : ACalls tP zk0 [t0, t1, t2] H K :=
 zam (M := zik) Tryz.func167 (c := zmV) (by kernel_rfl) (fun hs => Eq.mpr (by kernel_rfl) (h hs))
def zCK (_ : Nat) : List Bool := []
noncomputable def zCL : Code := Tryz.f168.body.getD .skip
def ztv (t0 t1 t2 : AV) (H : zaa) (K : Kt) : Prop :=
 zap t0 H fun t3 H =>
 zap t1 H fun t4 H =>
 zad false 1 t2 H fun t6 =>
 zad true 3 t3 H fun t7 =>
 zad true 3 t4 H fun t8 =>
 ACalls tP zfE [t6, t7, t8] H fun t9 H =>
 K t9 H
theorem zCM {t0 t1 t2 : AV} {H : zaa} {K : Kt} (h : HSc H → ztv t0 t1 t2 H K) : ACalls tP zk1 [t0, t1, t2] H K :=
 zam (M := zCK) Tryz.func168 (c := zCL) (by kernel_rfl) (fun hs => Eq.mpr (by kernel_rfl) (h hs))
def zja : Nat → List Bool
 | 5 => rl false [1,2,2,1,24]
 | _ => []
noncomputable def znT : Code := Tryz.f41.body.getD .skip
noncomputable def zGu : List ResultVar := Tryz.f41.results.toList
def zjb (t1 t2 t5 : AV) : List AV := ux 1 (t1 :: t2 :: ux 2 (t5 :: ux 24 []))
def zGs : List Bool := zja 5
noncomputable def zGq : Code := zar [1, 1, 1, 0, 1, 0, 0] znT
def zGp (K : Kt) : AExit → List AV → zaa → Prop := zas tP zja [1, 1, 1, 0, 1, 0] znT (zaw tP zGu K)
def zuN (t1 t2 t5 : AV) (H : zaa) (K : Kt) : Prop := ALoop tP zGq (zGp K) (zjb t1 t2 t5) H
def znS (t1 t2 t5 : AV) (H : zaa) (K : Kt) (Kb5 : Lt) : Prop :=
 zaf 2 t2 fun t16 =>
 zad false 1 t16 H fun t17 =>
 zah 1 t17 fun t18 =>
 zac .lss false t5 t18 fun t19 =>
 zag t19
 (zaf 2 t2 fun t22 =>
 zad false 1 t22 H fun t23 =>
 zaj 3 t23 t5 fun t25 =>
 zad true 3 t25 H fun t26 =>
 ACalls tP zgW [t26, t1] H fun t28 H =>
 aUn .not t28 fun t29 =>
 zag t29
 (K (.bool false) H)
 (zac .add false t5 (.int .i64 1) fun t21 =>
 Kb5 (zjb t1 t2 t21) H))
 (K (.bool true) H)
def zuM (t0 t1 : AV) (H : zaa) (K : Kt) : Prop :=
 zap t0 H fun t2 H =>
 zaU t1 fun t7 =>
 zad false 1 t7 H fun t8 =>
 zac .sub false t8 (.int .i64 1) fun t9 =>
 zaU t1 fun t10 =>
 zak 1 t10 t9 H fun H =>
 zaU t1 fun t12 =>
 zad false 1 t12 H fun t13 =>
 zac .lss false t13 (.int .i64 0) fun t14 =>
 zag t14
 (K (.bool false) H)
 (zuN t1 t2 (.int .i64 0) H K)
theorem zGr {t1 t2 t5 : AV} {H : zaa} {K : Kt} (Inv : Nat → AV → zaa → Prop) (n : Nat) (h0 : HSc H → Inv n t5 H)
  (round : Rd1 (fun t5 => zjb t1 t2 t5) (fun t5 => fun H Kb5 => znS t1 t2 t5 H K Kb5) H Inv) : zuN t1 t2 t5 H K :=
 lp1 (M := zja) zGs t5 (by kernel_rfl) Inv n h0 round
theorem zGt {t0 t1 : AV} {H : zaa} {K : Kt} (h : HSc H → zuM t0 t1 H K) : ACalls tP zgW [t0, t1] H K :=
 zam (M := zja) Tryz.func41 (c := znT) (by kernel_rfl) (fun hs => Eq.mpr (by kernel_rfl) (h hs))
def zjc : Nat → List Bool
 | 21 => rl false [0,1,3,2,1,1,2,1,174]
 | _ => []
noncomputable def znV : Code := Tryz.f42.body.getD .skip
noncomputable def zGB : List ResultVar := Tryz.f42.results.toList
def zjd (t0 t4 t5 t7 t10 : AV) : List AV := t0 :: ux 3 (t4 :: t5 :: ux 1 (t7 :: ux 2 (t10 :: ux 174 [])))
def zGz : List Bool := zjc 21
noncomputable def zGx : Code := zar [1, 1, 0, 1, 0, 1, 1, 1, 1, 1, 1, 1, 1, 1, 1, 1, 0, 1, 0, 1, 0, 0] znV
def zGw (K : Kt) : AExit → List AV → zaa → Prop := zas tP zjc [1, 1, 0, 1, 0, 1, 1, 1, 1, 1, 1, 1, 1, 1, 1, 1, 0, 1, 0, 1, 0] znV (zaw tP zGB K)
def znW (t0 t4 t5 t7 t10 : AV) (H : zaa) (K : Kt) : Prop := ALoop tP zGx (zGw K) (zjd t0 t4 t5 t7 t10) H
def znU (t0 t4 t5 t7 t10 : AV) (H : zaa) (K : Kt) (Kb21 : Lt) : Prop :=
 zac .lss false t10 t7 fun t153 =>
 zag t153
 (zae H (fun K' => K' t0 H) fun t156 =>
 zae H (fun K' => zaf 2 t4 (K' · H)) fun t157 =>
 zae H (fun K' => zan false 1 t157 H (K' · H)) fun t158 =>
 zae H (fun K' => K' t10 H) fun t159 =>
 zae H (fun K' => zaj 3 t158 t159 (K' · H)) fun t160 =>
 zae H (fun K' => zan true 3 t160 H (K' · H)) fun t161 =>
 zae H (fun K' => zaf 2 t5 (K' · H)) fun t162 =>
 zae H (fun K' => zan false 1 t162 H (K' · H)) fun t163 =>
 zae H (fun K' => zaj 3 t163 (.int .i64 0) (K' · H)) fun t164 =>
 zae H (fun K' => zan true 3 t164 H (K' · H)) fun t165 =>
 za6 H (fun H K' => ACalls tP zfA [t156, t161, t165] H K') fun t166 =>
 zae H (fun K' => aUn .not t166 (K' · H)) fun t167 =>
 zag t167
 (K (.bool false) H)
 (zac .add false t10 (.int .i64 1) fun t155 =>
 Kb21 (zjd t0 t4 t5 t7 t155) H))
 (K (.bool true) H)
def zf0 (t0 t4 t5 t7 t117 : AV) (H : zaa) (K : Kt) : Prop :=
 zag t117
 (zaf 0 t5 fun t120 =>
 zad false 1 t120 H fun t121 =>
 zac .eql false t121 (.int .i64 7) fun t122 =>
 zab t122 true H (fun K' => zaf 0 t4 (K' · H)) fun t124 H =>
 zab t122 true H (fun K' => zad false 1 t124 H (K' · H)) fun t125 H =>
 zab t122 true H (fun K' => zac .neq false t125 (.int .i64 6) (K' · H)) fun t126 H =>
 zab t122 true H (fun K' => K' t126 H) fun t127 H =>
 zab t127 false H (fun K' => K' t7 H) fun t128 H =>
 zab t127 false H (fun K' => zac .gtr false t128 (.int .i64 4096) (K' · H)) fun t129 H =>
 zab t122 true H (fun K' => zai t127 (.bool true) t129 (K' · H)) fun t130 H =>
 zai t122 t130 (.bool false) fun t131 =>
 zab t131 false H (fun K' => zaf 0 t5 (K' · H)) fun t133 H =>
 zab t131 false H (fun K' => zad false 1 t133 H (K' · H)) fun t134 H =>
 zab t131 false H (fun K' => zac .eql false t134 (.int .i64 8) (K' · H)) fun t135 H =>
 zab t131 false H (fun K' => K' t135 H) fun t136 H =>
 zab t136 true H (fun K' => zaf 0 t4 (K' · H)) fun t137 H =>
 zab t136 true H (fun K' => zad false 1 t137 H (K' · H)) fun t138 H =>
 zab t136 true H (fun K' => zac .neq false t138 (.int .i64 7) (K' · H)) fun t139 H =>
 zab t136 true H (fun K' => K' t139 H) fun t140 H =>
 zab t140 false H (fun K' => K' t7 H) fun t141 H =>
 zab t140 false H (fun K' => zac .neq false t141 (.int .i64 1) (K' · H)) fun t142 H =>
 zab t136 true H (fun K' => zai t140 (.bool true) t142 (K' · H)) fun t143 H =>
 zab t131 false H (fun K' => zai t136 t143 (.bool false) (K' · H)) fun t144 H =>
 zai t131 (.bool true) t144 fun t145 =>
 zab t145 false H (fun K' => zaf 1 t4 (K' · H)) fun t147 H =>
 zab t145 false H (fun K' => zad false 1 t147 H (K' · H)) fun t148 H =>
 zab t145 false H (fun K' => zac .neq false t148 (.int .i64 0) (K' · H)) fun t149 H =>
 zai t145 (.bool true) t149 fun t150 =>
 zag t150
 (K (.bool false) H)
 (znW t0 t4 t5 t7 (.int .i64 0) H K))
 (zaf 0 t4 fun t168 =>
 zad false 1 t168 H fun t169 =>
 zac .eql false t169 (.int .i64 8) fun t170 =>
 zab t170 true H (fun K' => zaf 1 t4 (K' · H)) fun t172 H =>
 zab t170 true H (fun K' => zad false 1 t172 H (K' · H)) fun t173 H =>
 zab t170 true H (fun K' => zac .geq false t173 (.int .i64 0) (K' · H)) fun t174 H =>
 zai t170 t174 (.bool false) fun t175 =>
 zab t175 true H (fun K' => zaf 1 t4 (K' · H)) fun t177 H =>
 zab t175 true H (fun K' => zad false 1 t177 H (K' · H)) fun t178 H =>
 zab t175 true H (fun K' => zac .lss false t178 (.int .i64 64) (K' · H)) fun t179 H =>
 zai t175 t179 (.bool false) fun t180 =>
 zab t180 true H (fun K' => K' t7 H) fun t182 H =>
 zab t180 true H (fun K' => zac .eql false t182 (.int .i64 0) (K' · H)) fun t183 H =>
 zai t180 t183 (.bool false) fun t184 =>
 K t184 H)
def zdi (t0 t1 t2 : AV) (H : zaa) (K : Kt) : Prop :=
 zap t1 H fun t4 H =>
 zap t2 H fun t5 H =>
 zaf 2 t4 fun t11 =>
 zad false 1 t11 H fun t12 =>
 zah 1 t12 fun t13 =>
 zaf 0 t5 fun t14 =>
 zad false 1 t14 H fun t15 =>
 zac .eql false t15 (.int .i64 3) fun t17 =>
 zag t17
 (zaf 0 t4 fun t18 =>
 zad false 1 t18 H fun t19 =>
 zac .eql false t19 (.int .i64 1) fun t20 =>
 zab t20 true H (fun K' => zaf 1 t4 (K' · H)) fun t22 H =>
 zab t20 true H (fun K' => zad false 1 t22 H (K' · H)) fun t23 H =>
 zab t20 true H (fun K' => zac .eql false t23 (.int .i64 0) (K' · H)) fun t24 H =>
 zai t20 t24 (.bool false) fun t25 =>
 zab t25 true H (fun K' => K' t13 H) fun t27 H =>
 zab t25 true H (fun K' => zac .eql false t27 (.int .i64 0) (K' · H)) fun t28 H =>
 zai t25 t28 (.bool false) fun t29 =>
 K t29 H)
 (zac .eql false t15 (.int .i64 2) fun t31 =>
 zag t31
 (zaf 0 t4 fun t32 =>
 zad false 1 t32 H fun t33 =>
 zac .eql false t33 (.int .i64 2) fun t34 =>
 zab t34 true H (fun K' => zaf 1 t4 (K' · H)) fun t36 H =>
 zab t34 true H (fun K' => zad false 1 t36 H (K' · H)) fun t37 H =>
 zab t34 true H (fun K' => zac .eql false t37 (.int .i64 0) (K' · H)) fun t38 H =>
 zab t34 true H (fun K' => K' t38 H) fun t39 H =>
 zab t39 false H (fun K' => zaf 1 t4 (K' · H)) fun t40 H =>
 zab t39 false H (fun K' => zad false 1 t40 H (K' · H)) fun t41 H =>
 zab t39 false H (fun K' => zac .eql false t41 (.int .i64 1) (K' · H)) fun t42 H =>
 zab t34 true H (fun K' => zai t39 (.bool true) t42 (K' · H)) fun t43 H =>
 zai t34 t43 (.bool false) fun t44 =>
 zab t44 true H (fun K' => K' t13 H) fun t46 H =>
 zab t44 true H (fun K' => zac .eql false t46 (.int .i64 0) (K' · H)) fun t47 H =>
 zai t44 t47 (.bool false) fun t48 =>
 K t48 H)
 (zac .eql false t15 (.int .i64 1) fun t50 =>
 zag t50
 (zaf 0 t4 fun t51 =>
 zad false 1 t51 H fun t52 =>
 zac .eql false t52 (.int .i64 3) fun t53 =>
 zab t53 true H (fun K' => zaf 1 t4 (K' · H)) fun t55 H =>
 zab t53 true H (fun K' => zad false 1 t55 H (K' · H)) fun t56 H =>
 zab t53 true H (fun K' => zac .geq false t56 (.int .i64 (-1099511627776)) (K' · H)) fun t57 H =>
 zai t53 t57 (.bool false) fun t58 =>
 zab t58 true H (fun K' => zaf 1 t4 (K' · H)) fun t60 H =>
 zab t58 true H (fun K' => zad false 1 t60 H (K' · H)) fun t61 H =>
 zab t58 true H (fun K' => zac .leq false t61 (.int .i64 1099511627776) (K' · H)) fun t62 H =>
 zai t58 t62 (.bool false) fun t63 =>
 zab t63 true H (fun K' => K' t13 H) fun t65 H =>
 zab t63 true H (fun K' => zac .eql false t65 (.int .i64 0) (K' · H)) fun t66 H =>
 zai t63 t66 (.bool false) fun t67 =>
 K t67 H)
 (zac .eql false t15 (.int .i64 6) fun t69 =>
 zag t69
 (zaf 0 t4 fun t70 =>
 zad false 1 t70 H fun t71 =>
 zac .eql false t71 (.int .i64 4) fun t72 =>
 zab t72 true H (fun K' => zaf 1 t4 (K' · H)) fun t74 H =>
 zab t72 true H (fun K' => zad false 1 t74 H (K' · H)) fun t75 H =>
 zab t72 true H (fun K' => zac .eql false t75 (.int .i64 0) (K' · H)) fun t76 H =>
 zai t72 t76 (.bool false) fun t77 =>
 zab t77 true H (fun K' => K' t0 H) fun t79 H =>
 zab t77 true H (fun K' => zaf 2 t4 (K' · H)) fun t80 H =>
 zab t77 true H (fun K' => zad false 1 t80 H (K' · H)) fun t81 H =>
 zab t77 true H (fun K' => zaf 2 t5 (K' · H)) fun t82 H =>
 zab t77 true H (fun K' => zad false 1 t82 H (K' · H)) fun t83 H =>
 zab t77 true H (fun K' => ACalls tP zg6 [t79, t81, t83] H K') fun t84 H =>
 zai t77 t84 (.bool false) fun t85 =>
 K t85 H)
 (zac .eql false t15 (.int .i64 5) fun t87 =>
 zag t87
 (zaf 0 t4 fun t88 =>
 zad false 1 t88 H fun t89 =>
 zac .neq false t89 (.int .i64 5) fun t90 =>
 zab t90 false H (fun K' => zaf 1 t4 (K' · H)) fun t92 H =>
 zab t90 false H (fun K' => zad false 1 t92 H (K' · H)) fun t93 H =>
 zab t90 false H (fun K' => zac .lss false t93 (.int .i64 0) (K' · H)) fun t94 H =>
 zai t90 (.bool true) t94 fun t95 =>
 zab t95 false H (fun K' => zaf 1 t4 (K' · H)) fun t97 H =>
 zab t95 false H (fun K' => zad false 1 t97 H (K' · H)) fun t98 H =>
 zab t95 false H (fun K' => zac .geq false t98 (.int .i64 8) (K' · H)) fun t99 H =>
 zai t95 (.bool true) t99 fun t100 =>
 zag t100
 (K (.bool false) H)
 (zad true 3 t5 H fun t103 =>
 zaf 1 t4 fun t104 =>
 zad false 1 t104 H fun t105 =>
 ACalls tP zk3 [t0, t103, t105] H fun t106 H =>
 zax t106 0 fun t107 =>
 zax t106 1 fun t108 =>
 zab t108 true H (fun K' => K' t0 H) fun t111 H =>
 zab t108 true H (fun K' => zaf 2 t4 (K' · H)) fun t112 H =>
 zab t108 true H (fun K' => zad false 1 t112 H (K' · H)) fun t113 H =>
 zab t108 true H (fun K' => K' t107 H) fun t114 H =>
 zab t108 true H (fun K' => ACalls tP zg6 [t111, t113, t114] H K') fun t115 H =>
 zai t108 t115 (.bool false) fun t116 =>
 K t116 H))
 (zac .eql false t15 (.int .i64 7) fun t118 =>
 zag t118
 (zf0 t0 t4 t5 t13 t118 H K)
 (zac .eql false t15 (.int .i64 8) fun t119 =>
 zf0 t0 t4 t5 t13 t119 H K))))))
theorem zGy {t0 t4 t5 t7 t10 : AV} {H : zaa} {K : Kt} (Inv : Nat → AV → zaa → Prop) (n : Nat) (h0 : HSc H → Inv n t10 H)
  (round : Rd1 (fun t10 => zjd t0 t4 t5 t7 t10) (fun t10 => fun H Kb21 => znU t0 t4 t5 t7 t10 H K Kb21) H Inv) : znW t0 t4 t5 t7 t10 H K :=
 lp1 (M := zjc) zGz t10 (by kernel_rfl) Inv n h0 round
theorem zGA {t0 t1 t2 : AV} {H : zaa} {K : Kt} (h : HSc H → zdi t0 t1 t2 H K) : ACalls tP zfA [t0, t1, t2] H K :=
 zam (M := zjc) Tryz.func42 (c := znV) (by kernel_rfl) (fun hs => Eq.mpr (by kernel_rfl) (h hs))
def zjT : Nat → List Bool
 | 4 => rl false [0,3,4,1,22]
 | _ => []
noncomputable def zoI : Code := Tryz.f86.body.getD .skip
noncomputable def zJe : List ResultVar := Tryz.f86.results.toList
def zjU (t0 t1 t2 t7 : AV) : List AV := t0 :: t1 :: t2 :: ux 4 (t7 :: ux 22 [])
def zJc : List Bool := zjT 4
noncomputable def zJa : Code := zar [1, 1, 0, 1, 0, 0] zoI
def zI9 (K : Kt) : AExit → List AV → zaa → Prop := zas tP zjT [1, 1, 0, 1, 0] zoI (zaw tP zJe K)
def zvB (t0 t1 t2 t7 : AV) (H : zaa) (K : Kt) : Prop := ALoop tP zJa (zI9 K) (zjU t0 t1 t2 t7) H
def zoH (t0 t1 t2 t7 : AV) (H : zaa) (K : Kt) (Kb4 : Lt) : Prop :=
 zah 1 t1 fun t15 =>
 zac .lss false t7 t15 fun t16 =>
 zag t16
 (zae H (fun K' => K' t0 H) fun t19 =>
 zae H (fun K' => K' t1 H) fun t20 =>
 zae H (fun K' => K' t7 H) fun t21 =>
 zae H (fun K' => zaj 3 t20 t21 (K' · H)) fun t22 =>
 zae H (fun K' => zan true 3 t22 H (K' · H)) fun t23 =>
 zae H (fun K' => K' t2 H) fun t24 =>
 zae H (fun K' => K' t7 H) fun t25 =>
 zae H (fun K' => zaj 3 t24 t25 (K' · H)) fun t26 =>
 zae H (fun K' => zan true 3 t26 H (K' · H)) fun t27 =>
 za6 H (fun H K' => ACalls tP zfA [t19, t23, t27] H K') fun t28 =>
 zae H (fun K' => aUn .not t28 (K' · H)) fun t29 =>
 zag t29
 (K (.bool false) H)
 (zac .add false t7 (.int .i64 1) fun t18 =>
 Kb4 (zjU t0 t1 t2 t18) H))
 (K (.bool true) H)
def zoG (t0 t1 t2 : AV) (H : zaa) (K : Kt) : Prop :=
 zah 1 t1 fun t9 =>
 zah 1 t2 fun t11 =>
 zac .neq false t9 t11 fun t12 =>
 zag t12
 (K (.bool false) H)
 (zvB t0 t1 t2 (.int .i64 0) H K)
theorem zJb {t0 t1 t2 t7 : AV} {H : zaa} {K : Kt} (Inv : Nat → AV → zaa → Prop) (n : Nat) (h0 : HSc H → Inv n t7 H)
  (round : Rd1 (fun t7 => zjU t0 t1 t2 t7) (fun t7 => fun H Kb4 => zoH t0 t1 t2 t7 H K Kb4) H Inv) : zvB t0 t1 t2 t7 H K :=
 lp1 (M := zjT) zJc t7 (by kernel_rfl) Inv n h0 round
theorem zJd {t0 t1 t2 : AV} {H : zaa} {K : Kt} (h : HSc H → zoG t0 t1 t2 H K) : ACalls tP zg6 [t0, t1, t2] H K :=
 zam (M := zjT) Tryz.func86 (c := zoI) (by kernel_rfl) (fun hs => Eq.mpr (by kernel_rfl) (h hs))
def zi3 : Nat → List Bool
 | 5 => rl false [1,2,2,1,24]
 | _ => []
noncomputable def znK : Code := Tryz.f38.body.getD .skip
noncomputable def zGc : List ResultVar := Tryz.f38.results.toList
def zi4 (t1 t2 t5 : AV) : List AV := ux 1 (t1 :: t2 :: ux 2 (t5 :: ux 24 []))
def zGa : List Bool := zi3 5
noncomputable def zF8 : Code := zar [1, 1, 1, 0, 1, 0, 0] znK
def zF7 (K : Kt) : AExit → List AV → zaa → Prop := zas tP zi3 [1, 1, 1, 0, 1, 0] znK (zaw tP zGc K)
def zuC (t1 t2 t5 : AV) (H : zaa) (K : Kt) : Prop := ALoop tP zF8 (zF7 K) (zi4 t1 t2 t5) H
def znJ (t1 t2 t5 : AV) (H : zaa) (K : Kt) (Kb5 : Lt) : Prop :=
 zaf 2 t2 fun t16 =>
 zad false 1 t16 H fun t17 =>
 zah 1 t17 fun t18 =>
 zac .lss false t5 t18 fun t19 =>
 zag t19
 (zaf 2 t2 fun t22 =>
 zad false 1 t22 H fun t23 =>
 zaj 3 t23 t5 fun t25 =>
 zad true 3 t25 H fun t26 =>
 ACalls tP zgU [t26, t1] H fun t28 H =>
 aUn .not t28 fun t29 =>
 zag t29
 (K (.bool false) H)
 (zac .add false t5 (.int .i64 1) fun t21 =>
 Kb5 (zi4 t1 t2 t21) H))
 (K (.bool true) H)
def zuB (t0 t1 : AV) (H : zaa) (K : Kt) : Prop :=
 zap t0 H fun t2 H =>
 zaU t1 fun t7 =>
 zad false 1 t7 H fun t8 =>
 zac .sub false t8 (.int .i64 1) fun t9 =>
 zaU t1 fun t10 =>
 zak 1 t10 t9 H fun H =>
 zaU t1 fun t12 =>
 zad false 1 t12 H fun t13 =>
 zac .lss false t13 (.int .i64 0) fun t14 =>
 zag t14
 (K (.bool false) H)
 (zuC t1 t2 (.int .i64 0) H K)
theorem zF9 {t1 t2 t5 : AV} {H : zaa} {K : Kt} (Inv : Nat → AV → zaa → Prop) (n : Nat) (h0 : HSc H → Inv n t5 H)
  (round : Rd1 (fun t5 => zi4 t1 t2 t5) (fun t5 => fun H Kb5 => znJ t1 t2 t5 H K Kb5) H Inv) : zuC t1 t2 t5 H K :=
 lp1 (M := zi3) zGa t5 (by kernel_rfl) Inv n h0 round
theorem zGb {t0 t1 : AV} {H : zaa} {K : Kt} (h : HSc H → zuB t0 t1 H K) : ACalls tP zgU [t0, t1] H K :=
 zam (M := zi3) Tryz.func38 (c := znK) (by kernel_rfl) (fun hs => Eq.mpr (by kernel_rfl) (h hs))
end Go.Proofs.YtjkkonpjecoieaaGreat

namespace Go.Proofs.YtjkkonpjecoieaaGreat
open Go Go.Abs
set_option maxRecDepth 8000
def d4 (data : List Dat) : AV := .agg [.sl (data.map Dat.cs) .none, .snil, .snil, .snil]
section
variable {H : zaa} {K : Kt} (data : List Dat)
theorem zy6 (hK : K (.bool true) H) : ACalls tP zkT [d4 data] H K := by
 refine ACalls.out (zBH fun hs => ?_)
 simp [zsS, d4]
 refine ⟨rfl, ACalls.wk (args' := [.sl (VT.css []) .none, .fn zqn [.ptr H.length 0]]) ?_ ⟨.atom .snil, .atom (.refl _), trivial⟩⟩
 refine zkk [] (by simp) _ _ _ (by simp [AV.sc, AV.scV, AV.scA, AV.scB]) (fun _ H' => H' = H ++ [.cells [.sl (data.map Dat.cs) .none, .snil, .snil, .snil]]) rfl (fun i h => by simp at h) ?_
 rintro H' rfl
 simp
 exact Out.bool rfl (Nat.le_refl _) hs hK
theorem zwB (hK : K (.bool true) H) : ACalls tP zkU [d4 data] H K := by
 refine ACalls.out (zBM fun hs => ?_)
 simp [zsT, d4]
 refine zBK (Inv := fun _ _ t H' => t = .int .i64 0 ∧ H' = _) 0 (fun _ => ⟨rfl, rfl⟩) ?_
 rintro q t4 t H' ⟨rfl, rfl⟩ _ _ _ Kb hKb
 simp [zsU]
 exact Out.bool rfl (Nat.le_refl _) hs hK
theorem zyY (hK : K (.bool true) H) : ACalls tP zkV [d4 data] H K := by
 refine ACalls.out (zBX fun hs => ?_)
 simp [zsX, d4, zba]
 refine ⟨⟨rfl, rfl⟩, zBV (Inv := fun _ t H' => t = .int .i64 0 ∧ H' = _) 0 (fun _ => ⟨rfl, rfl⟩) ?_⟩
 rintro q t H' ⟨rfl, rfl⟩ _ _ _ Kb hKb
 simp [zs0]
 refine zBU (Inv := fun _ t H' => t = .int .i64 0 ∧ H' = _) 0 (fun _ => ⟨rfl, rfl⟩) ?_
 rintro q t H' ⟨rfl, rfl⟩ _ _ _ Kb2 hKb2
 simp [zsZ, Nat.add_assoc]
 exact Out.bool rfl (Nat.le_refl _) hs hK
theorem zwh (hK : K (.bool true) H) : ACalls tP zkW [d4 data] H K := by
 refine ACalls.out (zB7 fun hs => ?_)
 simp [zs6, d4, zba]
 refine ⟨⟨rfl, rfl⟩, zB5 (Inv := fun _ t H' => t = .int .i64 0 ∧ H' = _) 0 (fun _ => ⟨rfl, rfl⟩) ?_⟩
 rintro q t H' ⟨rfl, rfl⟩ _ _ _ Kb hKb
 simp [zs9]
 refine zB4 (Inv := fun _ t H' => t = .int .i64 0 ∧ H' = _) 0 (fun _ => ⟨rfl, rfl⟩) ?_
 rintro q t H' ⟨rfl, rfl⟩ _ _ _ Kb2 hKb2
 simp [zs8, Nat.add_assoc]
 exact Out.bool rfl (Nat.le_refl _) hs hK
theorem zx7 (hK : K (.bool true) H) : ACalls tP zkX [d4 data] H K := by
 refine ACalls.out (zCc fun hs => ?_)
 simp [ztf, d4, zba]
 refine ⟨rfl, ⟨rfl, rfl, rfl, rfl⟩, zCa (Inv := fun _ t H' => t = .int .i64 0 ∧ H' = _) 0 (fun _ => ⟨rfl, rfl⟩) ?_⟩
 rintro q t H' ⟨rfl, rfl⟩ _ _ _ Kb hKb
 simp [ztg]
 exact Out.bool rfl (Nat.le_refl _) hs hK
theorem zwR (hK : K (.bool true) H) : ACalls tP zkY [d4 data] H K := by
 refine ACalls.out (zCm fun hs => ?_)
 simp [zti, d4, zba, zav, zaO]
 refine zCi (Inv := fun _ t H' => t = .int .i64 0 ∧ H' = _) 0 (fun _ => ⟨rfl, rfl⟩) ?_
 rintro q t H' ⟨rfl, rfl⟩ _ _ _ Kb hKb
 simp [ztj]
 refine zCj (Inv := fun _ t H' => t = .int .i64 0 ∧ H' = _) 0 (fun _ => ⟨rfl, rfl⟩) ?_
 rintro q t H' ⟨rfl, rfl⟩ _ _ _ Kb2 hKb2
 simp [ztk]
 exact Out.bool rfl (Nat.le_refl _) hs hK
theorem zsr (hB : zf8 data) (hl : data.length ≤ 1000000) (hK : K (.bool (za4 data)) H) : ACalls tP zgy [d4 data] H K := by
 refine ACalls.out (zz7 fun hs => ?_)
 simp [zsq, d4]
 refine zBE data hB hl _ _ ?_
 cases hd : za4 data with
 | false =>
  rw [hd] at hK
  simp
  exact Out.bool rfl (Nat.le_refl _) hs hK
 | true =>
  rw [hd] at hK
  simp
  refine zy6 data ?_
  simp
  refine zwB data ?_
  simp
  refine zyY data ?_
  simp
  refine zwh data ?_
  simp
  refine zx7 data ?_
  simp
  refine zwR data ?_
  exact Out.bool rfl (Nat.le_refl _) hs hK
def zbf (data : List Dat) (t : VT) : Bool := za4 data && zaH data 0 t
theorem zH4 (hB : zf8 data) (hl : data.length ≤ 1000000) (t : VT) (ht : t.nodes ≤ 1000000) (hK : K (.bool (zbf data t)) H) : ACalls tP zlu [.sl (data.map Dat.cs) .none, .agg t.cs] H K := by
 refine ACalls.out (zH3 fun hs => ?_)
 obtain ⟨a, b, c, hv, ha, hb, hc⟩ := zaE t
 simp [zvc, zav, zaO, hv]
 refine zsr data hB hl ?_
 unfold zbf at hK
 cases hd : za4 data with
 | false =>
  rw [hd] at hK
  simp
  exact Out.bool rfl (Nat.le_refl _) hs hK
 | true =>
  rw [hd, Bool.true_and] at hK
  simp
  rw [← hv]
  refine zmd data 0 t (by omega) _ _ ?_
  exact Out.bool rfl (Nat.le_refl _) hs hK
end
end Go.Proofs.YtjkkonpjecoieaaGreat
namespace Go.Proofs.YtjkkonpjecoieaaGreat
open Go Go.Abs
set_option maxRecDepth 8000
theorem zw3 (x : List VT) (hl : x.length ≤ 1000000000) (fv : AV) (H : zaa) (K : AV → zaa → Prop) (hfv : fv.sc H.length = true) (Inv : Nat → zaa → Prop) (h0 : Inv 0 H)
  (step : ∀ (i : Nat) (h : i < x.length) (H' : zaa), H.length ≤ H'.length → Inv i H' → aCallV tP fv [.agg (x[i]).cs] H' fun r H'' => (r = .bool false ∧ Inv (i + 1) H'') ∨ (r = .bool true ∧ K (.int .i64 i) H''))
  (fin : ∀ H', Inv x.length H' → K (.int .i64 (-1)) H') : ACalls tP zkZ [.sl (VT.css x) .none, fv] H K := by
 refine zCC fun hs => ?_
 simp [zts]
 refine zCA (Inv := fun q t8 H' => ∃ i : Nat, i ≤ x.length ∧ q = x.length - i ∧ t8 = .int .i64 i ∧ H.length ≤ H'.length ∧ Inv i H') x.length ?_ ?_
 ·intro _; exact ⟨0, by omega, by omega, rfl, Nat.le_refl _, h0⟩
 ·rintro q t8 H' ⟨i, hi, rfl, rfl, hle, hI⟩ hsc hlen hsF Kb hKb
  by_cases hlt : i < x.length
  ·simp [zmR, hlt]
   refine (step i hlt H' hle hI).mono' fun r H'' hsc' hle' hr => ?_
   rcases hr with ⟨rfl, hI'⟩ | ⟨rfl, hk⟩
   ·simp
    rw [zaq (by omega) (by omega)]
    refine hKb _ _ ⟨x.length - (i + 1), by omega, Back.here (by omega) hsc' ?_ ⟨_, rfl, i + 1, by omega, rfl, by simp, by omega, hI'⟩⟩
    simp [zij, AV.sc, AV.scV, AV.scA, AV.scB]
    exact zb4 (by omega) hfv
   ·simpa using hk
  ·obtain rfl : i = x.length := by omega
   simp [zmR]
   exact fin H' hI
theorem zpx (x : List VT) (hl : x.length ≤ 1000000000) (fv : AV) (H : zaa) (K : AV → zaa → Prop) (hfv : fv.sc H.length = true) (Inv : Nat → zaa → Prop) (h0 : Inv 0 H)
  (step : ∀ (i : Nat) (h : i < x.length) (H' : zaa), H.length ≤ H'.length → Inv i H' → aCallV tP fv [.agg (x[i]).cs] H' fun r H'' => (r = .bool false ∧ Inv (i + 1) H'') ∨ (r = .bool true ∧ K (.bool true) H''))
  (fin : ∀ H', Inv x.length H' → K (.bool false) H') : ACalls tP zgA [.sl (VT.css x) .none, fv] H K := by
 refine zAh fun hs => ?_
 unfold zsu
 refine zw3 x hl fv H _ hfv Inv h0 (fun i h H' hle hI => (step i h H' hle hI).mono' fun r H'' _ _ hr => ?_) (fun H' hI => ?_)
 ·rcases hr with hr | ⟨h1, h2⟩
  ·exact .inl hr
  ·refine .inr ⟨h1, ?_⟩
   have : decide ((0 : Int) ≤ i) = true := by simp
   simpa using h2
 ·simpa using fin H' hI
theorem zwQ (f : VT → VT → Bool) (fv : AV) (x y : List VT) (H : zaa) (hsc : fv.sc H.length = true) (hf : ∀ (i : Nat) (h1 : i < x.length) (h2 : i < y.length), x.length = y.length → ∀ (J : zaa) (K : AV → zaa → Prop), K (.bool (f x[i] y[i])) (H ++ J) → aCallV tP fv [.agg (x[i]).cs, .agg (y[i]).cs] (H ++ J) K)
  (hl : x.length ≤ 1000000000) (K : AV → zaa → Prop) (hK : K (.bool (zbB f x y)) H) : ACalls tP zk0 [.sl (VT.css x) .none, .sl (VT.css y) .none, fv] H K := by
 refine ACalls.out (zCI fun hs => ?_)
 have hO : ∀ J, Out H.length K (.bool (zbB f x y)) (H ++ J) := fun J => Out.bool rfl (Nat.le_refl _) hs hK
 by_cases hlen : x.length = y.length
 ·simp [zmT, hlen]
  refine zCG (Inv := fun q t17 H' => ∃ i : Nat, i ≤ x.length ∧ q = x.length - i ∧ t17 = .int .i64 i ∧ zbB f (x.drop i) (y.drop i) = zbB f x y ∧ H = H') x.length ?_ ?_
  ·intro _; exact ⟨0, by omega, by omega, rfl, by simp, rfl⟩
  ·rintro q t17 H' ⟨i, hi, rfl, rfl, ho, rfl⟩ hsc4 hlen2 hsF Kb hKb
   by_cases hlt : i < x.length
   ·have hlt' : i < y.length := by omega
    have hltI : (i : Int) < y.length := by omega
    rw [List.drop_eq_getElem_cons hlt, List.drop_eq_getElem_cons hlt', zbB] at ho
    obtain ⟨x1, x2, x3, hvx, hx1, hx2, hx3⟩ := zaE x[i]
    obtain ⟨y1, y2, y3, hvy, hy1, hy2, hy3⟩ := zaE y[i]
    simp [zmU, hlt, hlt', hvx, hx1, hx2, hx3, hvy, hy1, hy2, hy3]
    rw [← hvx, ← hvy]
    refine hf i hlt hlt' hlen _ _ ?_
    cases hb : f x[i] y[i] with
    | false =>
     rw [hb, Bool.false_and] at ho
     rw [← ho] at hO
     simp
     exact hO _
    | true =>
     rw [hb, Bool.true_and] at ho
     simp
     rw [zaq (by omega) (by omega)]
     refine hKb _ _ ⟨x.length - (i + 1), by omega, Back.same (by simp) hs ?_ ⟨_, rfl, i + 1, by omega, rfl, by simp, ho, rfl⟩⟩
     simp [zil, AV.sc, AV.scV, AV.scA, AV.scB]
     exact hsc
   ·have hlt' : ¬ i < y.length := by omega
    obtain rfl : i = x.length := by omega
    rw [List.drop_length, hlen, List.drop_length, zbB] at ho
    rw [← ho] at hO
    simp [zmU, hlt']
    simpa using hO []
 ·have hl' : ((x.length : Int) != y.length) = true := by simp; omega
  rw [zgj hlen] at hO
  simp [zmT, hl']
  simpa using hO []
theorem zGd : ∀ (m : Nat) (v : VT), v.nodes ≤ m → ∀ (left : Int), left ≤ 1000000 → -1 ≤ left → ∀ (H : zaa) (id : Nat), H[id]? = some (.cells [.int .i64 left]) → ∀ (K : AV → zaa → Prop),
  ((v.nodes : Int) ≤ left → K (.bool true) (H.set id (.cells [.int .i64 (left - v.nodes)]))) → (¬ (v.nodes : Int) ≤ left → ∀ l', K (.bool false) (H.set id (.cells [.int .i64 l']))) →
  ACalls tP zgU [.agg v.cs, .ptr id 0] H K := by
 intro m
 induction m with
 | zero => intro v h; have := v.nodes_pos; omega
 | succ m ih =>
  intro v hv left hl1 hl0 H id hid K hK hF
  obtain ⟨k, n, ks⟩ := v
  have hlt := zbH hid
  have hnn : (VT.mk k n ks).nodes = VT.nodesL ks + 1 := by simp [VT.nodes]
  refine ACalls.out (zGb fun hs => ?_)
  have hget : (H ++ [AB.cells [.int .i64 k, .int .i64 n, .sl (VT.css ks) .none]])[id]? = some (.cells [.int .i64 left]) := zbd hid
  have bad : (¬ ((VT.mk k n ks).nodes : Int) ≤ left) → ∀ l' H', H' = H.set id (.cells [.int .i64 l']) ++ [.cells [.int .i64 k, .int .i64 n, .sl (VT.css ks) .none]] → Out H.length K (.bool false) H' := by
   intro h l' H' he
   exact Out.bool he (by simp) (hs.set rfl) (hF h l')
  simp [zuB, VT.cs, hget, AV.known]
  rw [zaq (by omega) (by omega), zb8 _ hid, zbd (zbK _ hid)]
  by_cases h0 : left - 1 < 0
  ·simp [h0]
   exact bad (by omega) _ _ rfl
  ·simp [h0]
   refine zF9 (Inv := fun q t5 H' => ∃ i : Nat, i ≤ ks.length ∧ q = ks.length - i ∧ t5 = .int .i64 i ∧ ((VT.nodesL (ks.take i) : Int) + 1 ≤ left) ∧ H' = H.set id (.cells [.int .i64 (left - 1 - VT.nodesL (ks.take i))]) ++ [.cells [.int .i64 k, .int .i64 n, .sl (VT.css ks) .none]]) ks.length ?_ ?_
   ·intro _; exact ⟨0, by omega, by omega, rfl, by simp [VT.nodesL]; omega, by simp [VT.nodesL]⟩
   ·rintro q t5 H' ⟨i, hi, rfl, rfl, hb, rfl⟩ hsc hlen hsF Kb hKb
    by_cases hil : i < ks.length
    ·have hki := VT.kid_lt (k := k) (n := n) hil
     have h1 := VT.nodesL_take hil
     have h2 := VT.nodesL_take_le ks (i + 1)
     have hll := VT.len_le (ks.take i)
     simp only [List.length_take] at hll
     have hge : (H.set id (.cells [.int .i64 (left - 1 - VT.nodesL (ks.take i))]) ++ [AB.cells [.int .i64 k, .int .i64 n, .sl (VT.css ks) .none]])[id]? = some (.cells [.int .i64 (left - 1 - VT.nodesL (ks.take i))]) := zbd (zbK _ hid)
     simp [znJ, hil]
     refine ih ks[i] (by omega) (left - 1 - VT.nodesL (ks.take i)) (by omega) (by omega) _ id hge _ ?_ ?_
     ·intro hle
      rw [zb8 _ (zbK _ hid), List.set_set]
      simp
      rw [zaq (by omega) (by omega)]
      refine hKb _ _ ⟨ks.length - (i + 1), by omega, Back.here (by simp) ((hs.set rfl).snoc rfl) ?_ ⟨_, rfl, i + 1, by omega, rfl, by simp, by omega, ?_⟩⟩
      ·simp [zi4, AV.sc, AV.scV, AV.scA, AV.scB]; omega
      ·rw [h1]; congr 5; omega
     ·intro hle l'
      rw [zb8 _ (zbK _ hid), List.set_set]
      simp
      exact bad (by omega) _ _ rfl
    ·obtain rfl : i = ks.length := by omega
     rw [List.take_length] at hb ⊢
     simp [znJ]
     refine Out.bool rfl (by simp) (hs.set rfl) ?_
     have := hK (by omega)
     rw [hnn] at this
     rw [show left - 1 - (VT.nodesL ks : Int) = left - ((VT.nodesL ks + 1 : Nat) : Int) by omega]
     exact this
theorem zGv : ∀ (m : Nat) (v : VT), v.nodes ≤ m → ∀ (left : Int), left ≤ 1000000 → -1 ≤ left → ∀ (H : zaa) (id : Nat), H[id]? = some (.cells [.int .i64 left]) → ∀ (K : AV → zaa → Prop),
  ((v.nodes : Int) ≤ left → K (.bool true) (H.set id (.cells [.int .i64 (left - v.nodes)]))) → (¬ (v.nodes : Int) ≤ left → ∀ l', K (.bool false) (H.set id (.cells [.int .i64 l']))) →
  ACalls tP zgW [.agg v.cs, .ptr id 0] H K := by
 intro m
 induction m with
 | zero => intro v h; have := v.nodes_pos; omega
 | succ m ih =>
  intro v hv left hl1 hl0 H id hid K hK hF
  obtain ⟨k, n, ks⟩ := v
  have hlt := zbH hid
  have hnn : (VT.mk k n ks).nodes = VT.nodesL ks + 1 := by simp [VT.nodes]
  refine ACalls.out (zGt fun hs => ?_)
  have hget : (H ++ [AB.cells [.int .i64 k, .int .i64 n, .sl (VT.css ks) .none]])[id]? = some (.cells [.int .i64 left]) := zbd hid
  have bad : (¬ ((VT.mk k n ks).nodes : Int) ≤ left) → ∀ l' H', H' = H.set id (.cells [.int .i64 l']) ++ [.cells [.int .i64 k, .int .i64 n, .sl (VT.css ks) .none]] → Out H.length K (.bool false) H' := by
   intro h l' H' he
   exact Out.bool he (by simp) (hs.set rfl) (hF h l')
  simp [zuM, VT.cs, hget, AV.known]
  rw [zaq (by omega) (by omega), zb8 _ hid, zbd (zbK _ hid)]
  by_cases h0 : left - 1 < 0
  ·simp [h0]
   exact bad (by omega) _ _ rfl
  ·simp [h0]
   refine zGr (Inv := fun q t5 H' => ∃ i : Nat, i ≤ ks.length ∧ q = ks.length - i ∧ t5 = .int .i64 i ∧ ((VT.nodesL (ks.take i) : Int) + 1 ≤ left) ∧ H' = H.set id (.cells [.int .i64 (left - 1 - VT.nodesL (ks.take i))]) ++ [.cells [.int .i64 k, .int .i64 n, .sl (VT.css ks) .none]]) ks.length ?_ ?_
   ·intro _; exact ⟨0, by omega, by omega, rfl, by simp [VT.nodesL]; omega, by simp [VT.nodesL]⟩
   ·rintro q t5 H' ⟨i, hi, rfl, rfl, hb, rfl⟩ hsc hlen hsF Kb hKb
    by_cases hil : i < ks.length
    ·have hki := VT.kid_lt (k := k) (n := n) hil
     have h1 := VT.nodesL_take hil
     have h2 := VT.nodesL_take_le ks (i + 1)
     have hll := VT.len_le (ks.take i)
     simp only [List.length_take] at hll
     have hge : (H.set id (.cells [.int .i64 (left - 1 - VT.nodesL (ks.take i))]) ++ [AB.cells [.int .i64 k, .int .i64 n, .sl (VT.css ks) .none]])[id]? = some (.cells [.int .i64 (left - 1 - VT.nodesL (ks.take i))]) := zbd (zbK _ hid)
     simp [znS, hil]
     refine ih ks[i] (by omega) (left - 1 - VT.nodesL (ks.take i)) (by omega) (by omega) _ id hge _ ?_ ?_
     ·intro hle
      rw [zb8 _ (zbK _ hid), List.set_set]
      simp
      rw [zaq (by omega) (by omega)]
      refine hKb _ _ ⟨ks.length - (i + 1), by omega, Back.here (by simp) ((hs.set rfl).snoc rfl) ?_ ⟨_, rfl, i + 1, by omega, rfl, by simp, by omega, ?_⟩⟩
      ·simp [zjb, AV.sc, AV.scV, AV.scA, AV.scB]; omega
      ·rw [h1]; congr 5; omega
     ·intro hle l'
      rw [zb8 _ (zbK _ hid), List.set_set]
      simp
      exact bad (by omega) _ _ rfl
    ·obtain rfl : i = ks.length := by omega
     rw [List.take_length] at hb ⊢
     simp [znS]
     refine Out.bool rfl (by simp) (hs.set rfl) ?_
     have := hK (by omega)
     rw [hnn] at this
     rw [show left - 1 - (VT.nodesL ks : Int) = left - ((VT.nodesL ks + 1 : Nat) : Int) by omega]
     exact this
theorem zAe (v : VT) (H : zaa) (K : AV → zaa → Prop) (hK : ∀ b, (b = true → v.nodes ≤ 400) → K (.bool b) H) : ACalls tP zkL [.agg v.cs] H K := by
 refine ACalls.out (zAd fun hs => ?_)
 simp [zsh, AV.known]
 refine zGd _ v (Nat.le_refl _) 400 (by omega) (by omega) _ (H.length + 1) (by simp) _ ?_ ?_
 ·intro h
  exact Out.bool (J := [_, _]) (by simp; exact ⟨rfl, rfl⟩) (Nat.le_refl _) hs (hK true fun _ => by omega)
 ·intro h l'
  exact Out.bool (J := [_, _]) (by simp; exact ⟨rfl, rfl⟩) (Nat.le_refl _) hs (hK false fun h => by cases h)
theorem zwn : zcC tP zkN = true := by kernel_rfl
theorem zH8 : ∀ (m : Nat) (v : VT), v.nodes ≤ m → ∀ (left : Int), (v.nodes : Int) ≤ left → left ≤ 1000000 → ∀ (H : zaa) (id : Nat), H[id]? = some (.cells [.int .i64 left]) → ∀ (K : AV → zaa → Prop),
  K (.bool true) (H.set id (.cells [.int .i64 (left - v.nodes)])) → ACalls tP zg2 [.agg v.cs, .ptr id 0] H K := by
 intro m
 induction m with
 | zero => intro v h; have := v.nodes_pos; omega
 | succ m ih =>
  intro v hv left hl0 hl1 H id hid K hK
  obtain ⟨k, n, ks⟩ := v
  have hlt := zbH hid
  have hnn : (VT.mk k n ks).nodes = VT.nodesL ks + 1 := by simp [VT.nodes]
  have hll := VT.len_le ks
  refine ACalls.out (zH7 fun hs => ?_)
  have hget : (H ++ [AB.cells [.int .i64 k, .int .i64 n, .sl (VT.css ks) .none], .cells [.ptr id 0]])[id]? = some (.cells [.int .i64 left]) := zbd hid
  have hset : ∀ (J : zaa) (x : AB), (H ++ J).set id x = H.set id x ++ J := fun J x => zb8 x hid
  have hg : ∀ (l : zaa) (x : AB) (j : Nat), (H.set id x ++ l)[H.length + j]? = l[j]? := fun l x j => by
   have := zpV (H.set id x) l j
   rwa [List.length_set] at this
  have hgi : ∀ (l : zaa) (x : AB), (H.set id x ++ l)[id]? = some x := fun l x => zbd (zbK x hid)
  have hl0' : ¬ left - 1 < 0 := by omega
  simp [zvd, VT.cs, hget, AV.known, hset, hg, hgi]
  rw [zaq (by omega) (by omega)]
  simp [hl0']
  refine ⟨rfl, ?_⟩
  refine zpx ks (by omega) _ _ _ (by simp [AV.sc, AV.scV, AV.scA, AV.scB]) (fun i H' => H' = H.set id (.cells [.int .i64 (left - 1 - VT.nodesL (ks.take i))]) ++ [.cells [.int .i64 k, .int .i64 n, .sl (VT.css ks) .none], .cells [.ptr id 0]]) (by simp [VT.nodesL]) ?_ ?_
  ·rintro i hi H' hle rfl
   have hki := VT.kid_lt (k := k) (n := n) hi
   have h1 := VT.nodesL_take hi
   have h2 := VT.nodesL_take_le ks (i + 1)
   simp [aCallV, zwn]
   refine ACalls.out (zAk fun hs1 => ?_)
   obtain ⟨x, y, z, hvx, hx, hy, hz⟩ := zaE ks[i]
   simp [zsv, hvx, hg]
   rw [← hvx]
   refine ih ks[i] (by omega) (left - 1 - VT.nodesL (ks.take i)) (by omega) (by omega) _ id (hgi _ _) _ ?_
   rw [zb8 _ (zbK _ hid), List.set_set]
   simp
   refine Out.bool (H2 := H.set id (.cells [.int .i64 (left - 1 - VT.nodesL (ks.take (i + 1)))]) ++ [.cells [.int .i64 k, .int .i64 n, .sl (VT.css ks) .none], .cells [.ptr id 0]]) (J := [.cells (ks[i]).cs]) ?_ (by simp) ?_ (.inl ⟨rfl, rfl⟩)
   ·have e : left - 1 - (VT.nodesL (ks.take i) : Int) - (ks[i]).nodes = left - 1 - VT.nodesL (ks.take (i + 1)) := by omega
    rw [e]
    simp
   ·exact (hs.set rfl).append (by simp [AB.sc]; omega)
  ·rintro H' rfl
   simp
   refine Out.bool rfl (by simp) (hs.set rfl) ?_
   rw [hnn] at hK
   have e : left - 1 - (VT.nodesL ks : Int) = left - ((VT.nodesL ks + 1 : Nat) : Int) := by omega
   rw [e]
   exact hK
theorem zgk (data : List Dat) : ∀ vs ts : List VT, zbs data vs ts = zbB (zat data) vs ts
 | [], [] => by simp [zbs, zbB]
 | [], _ :: _ => by simp [zbs, zbB]
 | _ :: _, [] => by simp [zbs, zbB]
 | v :: vs, t :: ts => by simp [zbs, zbB, zgk data vs ts]
theorem zwp : zcC tP zk1 = true := by kernel_rfl
theorem zwo : zcC tP zkO = true := by kernel_rfl
theorem zrQ {data : List Dat} {k n : Int} {ks : List VT} (h : zaJ data 0 (.mk k n ks) = true) : (k = 1 ∧ ks = []) ∨ (k = 2 ∧ ks = []) ∨ (k = 3 ∧ ks = []) ∨ k = 5 ∨ (k = 6 ∧ 2 ≤ ks.length) ∨ (k = 7 ∧ ks.length = 1) ∨ (k = 8 ∧ ks.length = 1) ∨ (k = 9 ∧ 1 ≤ ks.length) := by
 rw [zaJ, Bool.and_eq_true] at h
 have h := h.1
 unfold zaR at h
 by_cases h1 : k = 1
 ·subst h1; simp at h; simp [h.2]
 by_cases h2 : k = 2
 ·subst h2; simp at h; simp [h.2]
 by_cases h3 : k = 3
 ·subst h3; simp at h; simp [h.2]
 by_cases h4 : k = 4
 ·subst h4; simp at h; omega
 by_cases h5 : k = 5
 ·subst h5; simp
 by_cases h6 : k = 6
 ·subst h6; simp at h; simp; omega
 by_cases h7 : k = 7
 ·subst h7; simp at h; simp; omega
 by_cases h8 : k = 8
 ·subst h8; simp at h; simp; omega
 by_cases h9 : k = 9
 ·subst h9; simp at h; simp; omega
 simp [h1, h2, h3, h4, h5, h6, h7, h8, h9] at h
structure DOk (data : List Dat) : Prop where
 ok : za4 data = true
 k : zbp data
theorem zeq {data : List Dat} (h : zbp data) : data.length ≤ 1000000 ∧ (∀ d ∈ data, ∀ c ∈ d.cons, c.args.length ≤ 1000 ∧ ∀ x ∈ c.args, x.nodes ≤ 1000) ∧ ∀ d ∈ data, d.cons.length ≤ 1000000 := by
 obtain ⟨h1, h2⟩ := h
 refine ⟨by omega, fun D hD c hc => ?_, fun D hD => ?_⟩
 ·obtain ⟨_, h3, h4⟩ := h2 D hD
  obtain ⟨_, h5, h6⟩ := h4 c hc
  exact ⟨by omega, fun x hx => by have := h6 x hx; omega⟩
 ·obtain ⟨_, h3, h4⟩ := h2 D hD
  omega
section
variable {data : List Dat} (hD : DOk data)
def zj3 (data : List Dat) (v : VT) : Prop := ∀ (t : VT), zaH data 0 t = true → ∀ (H : zaa) (K : AV → zaa → Prop), K (.bool (zat data v t)) H → ACalls tP zfE [.sl (data.map Dat.cs) .none, .agg v.cs, .agg t.cs] H K
theorem zme (vs ts : List VT) (hl : vs.length ≤ 1000000) (hv : ∀ v ∈ vs, zj3 data v) (ht : ∀ t ∈ ts, zaH data 0 t = true) (H : zaa) (K : AV → zaa → Prop) (hK : K (.bool (zbs data vs ts)) H) :
  ACalls tP zft [.sl (data.map Dat.cs) .none, .sl (VT.css vs) .none, .sl (VT.css ts) .none] H K := by
 refine ACalls.out (zAn fun hs => ?_)
 simp [zsw]
 refine ⟨rfl, zwQ (zat data) _ vs ts _ (by simp [AV.sc, AV.scV, AV.scA, AV.scB]) ?_ (by omega) _ ?_⟩
 ·intro i h1 h2 hle J K' hK'
  simp [aCallV, zwp]
  refine ACalls.out (zCM fun hs1 => ?_)
  obtain ⟨x, y, z, hvx, hx, hy, hz⟩ := zaE vs[i]
  obtain ⟨x2, y2, z2, hvx2, hx2, hy2, hz2⟩ := zaE ts[i]
  simp [ztv, hvx, hvx2]
  rw [← hvx, ← hvx2]
  refine hv _ (List.getElem_mem h1) _ (ht _ (List.getElem_mem h2)) _ _ ?_
  refine Out.bool (H2 := H ++ [.cells [.sl (data.map Dat.cs) .none]] ++ J) (J := [.cells (vs[i]).cs, .cells (ts[i]).cs]) (by simp) (by simp) (by simpa using hs1) (by simpa using hK')
 ·rw [← zgk]
  exact Out.bool rfl (Nat.le_refl _) hs hK
theorem i0 (n : Nat) : ((n : Int) == 0) = (n == 0) := by
 rw [Bool.eq_iff_iff]; simp
theorem zpU {ks : List VT} (h : 0 < ks.length) : ks.getD 0 (.mk 0 0 []) = ks[0] := by simp [List.getD_eq_getElem?_getD, h]
theorem zpY {data : List Dat} {t : VT} {vs : List VT} {i : Nat} (h : i < vs.length) : zcc data (vs.drop i) t = (zat data vs[i] t && zcc data (vs.drop (i + 1)) t) := by rw [List.drop_eq_getElem_cons h, zcc]
include hD in
theorem zIc : ∀ (m : Nat) (v : VT), v.nodes ≤ m → v.nodes ≤ 1000000 → zj3 data v := by
 intro m
 induction m with
 | zero => intro v h; have := v.nodes_pos; omega
 | succ m ih =>
  intro v hm hb t ht H K hK
  obtain ⟨vk, vn, vks⟩ := v
  obtain ⟨k, n, ks⟩ := t
  refine ACalls.out (zIb fun hs => ?_)
  have hO : ∀ b J, zat data (.mk vk vn vks) (.mk k n ks) = b → Out H.length K (.bool b) (H ++ J) := fun b J h => Out.bool rfl (Nat.le_refl _) hs (h ▸ hK)
  have hll := VT.len_le vks
  have hnn : (VT.mk vk vn vks).nodes = VT.nodesL vks + 1 := by simp [VT.nodes]
  have hkids : ∀ x ∈ vks, zj3 data x := fun x hx => ih x (by have := zfm (k := vk) (n := vn) x hx; omega) (by have := zer (k := vk) (n := vn) x hx; omega)
  have htk := zrP ht
  have hto : zaJ data 0 (.mk k n ks) = true := by rw [zaH, Bool.and_eq_true] at ht; exact ht.2
  have htn : (VT.mk k n ks).nodes ≤ 200 := by rw [zaH, Bool.and_eq_true] at ht; exact of_decide_eq_true ht.1
  obtain ⟨f1, f2, f3⟩ := zeq hD.k
  rcases zrQ hto with ⟨rfl, rfl⟩ | ⟨rfl, rfl⟩ | ⟨rfl, rfl⟩ | rfl | ⟨rfl, hk⟩ | ⟨rfl, hk⟩ | ⟨rfl, hk⟩ | ⟨rfl, hk⟩
  ·simp [zdj, VT.cs, Nat.add_assoc]
   cases h1 : (vk == 3) <;> simp
   ·exact hO _ _ (by simp [zat, h1])
   by_cases h2 : -1099511627776 ≤ vn <;> simp [h2]
   ·by_cases h3 : vn ≤ 1099511627776 <;> simp [h3]
    ·exact hO _ _ (by simp [zat, h1, h2, h3, i0])
    ·exact hO _ _ (by simp [zat, h1, h2, h3])
   ·exact hO _ _ (by simp [zat, h1, h2])
  ·simp [zdj, VT.cs, Nat.add_assoc]
   cases h1 : (vk == 2) <;> simp
   ·exact hO _ _ (by simp [zat, h1])
   cases h2 : (vn == 0) <;> simp [Nat.add_assoc]
   ·cases h3 : (vn == 1) <;> simp
    ·exact hO _ _ (by simp [zat, h1, h2, h3])
    ·exact hO _ _ (by simp [zat, h1, h2, h3, i0])
   ·exact hO _ _ (by simp [zat, h1, h2, i0])
  ·simp [zdj, VT.cs, Nat.add_assoc]
   cases h1 : (vk == 1) <;> simp
   ·exact hO _ _ (by simp [zat, h1])
   cases h2 : (vn == 0) <;> simp [Nat.add_assoc]
   ·exact hO _ _ (by simp [zat, h1, h2])
   ·exact hO _ _ (by simp [zat, h1, h2, i0])
  ·-- a data type
   simp [zdj, VT.cs, Nat.add_assoc]
   cases h1 : (vk == 5) with
   | false =>
    have : (vk != 5) = true := by simp [bne, h1]
    simp [this]
    exact hO _ _ (by simp [zat, h1])
   | true =>
   have h1' : (vk != 5) = false := by simp [bne, h1]
   by_cases h2 : vn < 0
   ·simp [h1', h2]
    exact hO _ _ (by simp [zat, h1]; omega)
   by_cases h3 : 8 ≤ vn
   ·simp [h1', h2, h3]
    exact hO _ _ (by simp [zat, h1]; omega)
   simp [h1', h2, h3, Nat.add_assoc]
   have e : ∀ o, za7 data (.mk 5 n ks) vn = o → zat data (.mk vk vn vks) (.mk 5 n ks) = zdu data vks o := fun o ho => by
    have q1 : 0 ≤ vn := by omega
    have q2 : vn < 8 := by omega
    simp [zat, h1, q1, q2, ho]
   have hcs : (VT.mk 5 n ks).cs = [.int .i64 5, .int .i64 n, .sl (VT.css ks) .none] := rfl
   rw [← hcs]
   refine zuS data f1 f2 f3 (.mk 5 n ks) (by omega) vn _ _ ?_
   cases hf : za7 data (.mk 5 n ks) vn with
   | none =>
    simp [zcL]
    exact hO _ _ (by rw [e _ hf, zkw])
   | some l =>
    simp [zcL, hcs]
    refine zme vks l (by omega) hkids (zpL hD.ok hto hf) _ _ ?_
    exact hO _ _ (by rw [e _ hf, zkx])
  ·simp [zdj, VT.cs, Nat.add_assoc]
   cases h1 : (vk == 4) <;> simp
   ·exact hO _ _ (by simp [zat, h1])
   cases h2 : (vn == 0) <;> simp [Nat.add_assoc]
   ·exact hO _ _ (by simp [zat, h1, h2])
   refine zme vks ks (by omega) hkids htk _ _ ?_
   exact hO _ _ (by simp [zat, h1, h2])
  ·-- an array
   simp [zdj, VT.cs, Nat.add_assoc]
   cases h1 : (vk == 6) <;> simp
   ·exact hO _ _ (by simp [zat, h1])
   cases h2 : (vn == 0) <;> simp [Nat.add_assoc]
   ·exact hO _ _ (by simp [zat, h1, h2])
   by_cases h3 : vks.length ≤ 4096
   case neg =>
    have h3' : ¬ (vks.length : Int) ≤ 4096 := by omega
    simp [h3, h3']
    exact hO _ _ (by simp [zat, h1, h2, h3])
   have h3' : (vks.length : Int) ≤ 4096 := by omega
   simp [h3, h3']
   refine ⟨⟨rfl, rfl⟩, ?_⟩
   have hk0 : 0 < ks.length := by omega
   have e : zat data (.mk vk vn vks) (.mk 7 n ks) = zcc data vks ks[0] := by
    have := zpU hk0
    simp [zat, h1, h2, h3, this, hk0]
   refine zpx vks (by omega) _ _ _ (by simp [AV.sc, AV.scV, AV.scA, AV.scB]) (fun i H' => H' = H ++ [.cells [.sl (data.map Dat.cs) .none], .cells [.int .i64 vk, .int .i64 vn, .sl (VT.css vks) .none], .cells [.int .i64 7, .int .i64 n, .sl (VT.css ks) .none]] ∧ zcc data (vks.drop i) ks[0] = zcc data vks ks[0]) ⟨rfl, by simp⟩ ?_ ?_
   ·rintro i hi H' hle ⟨rfl, ho⟩
    rw [zpY hi] at ho
    simp [aCallV, zwo]
    refine ACalls.out (zAq fun hs1 => ?_)
    obtain ⟨x, y, z, hvx, hx, hy, hz⟩ := zaE vks[i]
    obtain ⟨x2, y2, z2, hvx2, hx2, hy2, hz2⟩ := zaE ks[0]
    simp [zsx, hvx, hk0, hvx2, Nat.add_assoc]
    rw [← hvx, ← hvx2]
    refine zbq (.bool (zat data vks[i] ks[0])) (fun J => hkids _ (List.getElem_mem hi) ks[0] (htk _ (List.getElem_mem hk0)) _ _ ⟨rfl, rfl⟩) ?_
    simp
    cases hb : zat data vks[i] ks[0] with
    | true =>
     rw [hb, Bool.true_and] at ho
     exact Out.bool (H2 := H ++ [.cells [.sl (data.map Dat.cs) .none], .cells [.int .i64 vk, .int .i64 vn, .sl (VT.css vks) .none], .cells [.int .i64 7, .int .i64 n, .sl (VT.css ks) .none]]) (J := [_]) (by simp; rfl) (by simp) hs1 (.inl ⟨rfl, rfl, ho⟩)
    | false =>
     rw [hb, Bool.false_and] at ho
     refine Out.bool (H2 := H ++ [.cells [.sl (data.map Dat.cs) .none], .cells [.int .i64 vk, .int .i64 vn, .sl (VT.css vks) .none], .cells [.int .i64 7, .int .i64 n, .sl (VT.css ks) .none]]) (J := [_]) (by simp; rfl) (by simp) hs1 (.inr ⟨rfl, ?_⟩)
     exact hO _ _ (by rw [e, ← ho])
   ·rintro H' ⟨rfl, ho⟩
    rw [List.drop_length, zcc] at ho
    simp
    exact hO _ _ (by rw [e, ← ho])
  ·simp [zdj, VT.cs, Nat.add_assoc]
   cases h1 : (vk == 7) <;> simp
   ·exact hO _ _ (by simp [zat, h1])
   cases h2 : (vn == 0) <;> simp [Nat.add_assoc]
   ·exact hO _ _ (by simp [zat, h1, h2])
   refine zme vks ks (by omega) hkids htk _ _ ?_
   exact hO _ _ (by simp [zat, h1, h2])
  ·simp [zdj, VT.cs, Nat.add_assoc]
   cases h1 : (vk == 8) <;> simp
   ·exact hO _ _ (by simp [zat, h1])
   by_cases h2 : 0 ≤ vn <;> simp [h2]
   ·by_cases h3 : vn < 64 <;> simp [h3]
    ·exact hO _ _ (by simp [zat, h1, h2, h3, i0])
    ·exact hO _ _ (by simp [zat, h1, h2, h3])
   ·exact hO _ _ (by simp [zat, h1, h2])
end
section
variable {data : List Dat} (hD : DOk data)
def zj2 (data : List Dat) (v : VT) : Prop := ∀ (t : VT), zaH data 0 t = true → ∀ (H : zaa) (K : AV → zaa → Prop), K (.bool (zat data v t)) H → ACalls tP zfA [.sl (data.map Dat.cs) .none, .agg v.cs, .agg t.cs] H K
theorem zwP {f : VT → VT → Bool} {x y : List VT} {i : Nat} (h : i < x.length) (h' : i < y.length) : zbB f (x.drop i) (y.drop i) = (f x[i] y[i] && zbB f (x.drop (i + 1)) (y.drop (i + 1))) := by
 rw [List.drop_eq_getElem_cons h, List.drop_eq_getElem_cons h', zbB]
theorem zvC (vs ts : List VT) (hl : vs.length ≤ 1000000) (hv : ∀ v ∈ vs, zj2 data v) (ht : ∀ t ∈ ts, zaH data 0 t = true) (H : zaa) (K : AV → zaa → Prop) (hK : K (.bool (zbs data vs ts)) H) :
  ACalls tP zg6 [.sl (data.map Dat.cs) .none, .sl (VT.css vs) .none, .sl (VT.css ts) .none] H K := by
 refine ACalls.out (zJd fun hs => ?_)
 rw [zgk] at hK
 have hO : ∀ b, zbB (zat data) vs ts = b → Out H.length K (.bool b) H := fun b h => by
  have := Out.bool (J := []) rfl (Nat.le_refl _) hs (h ▸ hK)
  simpa using this
 by_cases hlen : vs.length = ts.length
 case neg =>
  have hl' : ((vs.length : Int) != ts.length) = true := by simp; omega
  simp [zoG, hl']
  exact hO _ (zgj hlen)
 simp [zoG, hlen]
 refine zJb (Inv := fun q t H' => ∃ i : Nat, i ≤ vs.length ∧ q = vs.length - i ∧ t = .int .i64 i ∧ zbB (zat data) (vs.drop i) (ts.drop i) = zbB (zat data) vs ts ∧ H = H') vs.length ?_ ?_
 ·intro _; exact ⟨0, by omega, by omega, rfl, by simp, rfl⟩
 rintro q t H' ⟨i, hi, rfl, rfl, ho, rfl⟩ hsc hle hsF Kb hKb
 by_cases hlt : i < vs.length
 ·have hlt' : i < ts.length := by omega
  have hlt2 : (i : Int) < ts.length := by omega
  rw [zwP hlt hlt'] at ho
  obtain ⟨x, y, z, hvx, hx, hy, hz⟩ := zaE vs[i]
  obtain ⟨x2, y2, z2, hvx2, hx2, hy2, hz2⟩ := zaE ts[i]
  simp [zoH, hlt, hlt', hlt2, hvx, hvx2]
  rw [← hvx, ← hvx2]
  refine zbq (.bool (zat data vs[i] ts[i])) (fun J => hv _ (List.getElem_mem hlt) _ (ht _ (List.getElem_mem hlt')) _ _ ⟨rfl, rfl⟩) ?_
  cases hb : zat data vs[i] ts[i] with
  | false =>
   rw [hb, Bool.false_and] at ho
   simp
   exact hO _ ho.symm
  | true =>
   rw [hb, Bool.true_and] at ho
   simp
   rw [zaq (by omega) (by omega)]
   refine hKb _ _ ⟨vs.length - (i + 1), by omega, Back.here (Nat.le_refl _) hs ?_ ⟨_, rfl, i + 1, by omega, rfl, by simp, ho, rfl⟩⟩
   simp [zjU, AV.sc, AV.scV, AV.scA, AV.scB]
 ·obtain rfl : i = vs.length := by omega
  rw [List.drop_length, hlen, List.drop_length, zbB] at ho
  simp [zoH, hlen]
  exact hO _ ho.symm
theorem zw1 {data : List Dat} {vks ks : List VT} (h1 : vks.length = 1) (h2 : ks.length = 1) : zbs data vks ks = zcc data vks (ks[0]'(by omega)) := by
 match vks, ks, h1, h2 with
 | [v], [k], _, _ => simp [zbs, zcc]
include hD in
theorem zGC : ∀ (m : Nat) (v : VT), v.nodes ≤ m → v.nodes ≤ 1000000 → zj2 data v := by
 intro m
 induction m with
 | zero => intro v h; have := v.nodes_pos; omega
 | succ m ih =>
  intro v hm hb t ht H K hK
  obtain ⟨vk, vn, vks⟩ := v
  obtain ⟨k, n, ks⟩ := t
  refine ACalls.out (zGA fun hs => ?_)
  have hO : ∀ b J, zat data (.mk vk vn vks) (.mk k n ks) = b → Out H.length K (.bool b) (H ++ J) := fun b J h => Out.bool rfl (Nat.le_refl _) hs (h ▸ hK)
  have hll := VT.len_le vks
  have hnn : (VT.mk vk vn vks).nodes = VT.nodesL vks + 1 := by simp [VT.nodes]
  have hkids : ∀ x ∈ vks, zj2 data x := fun x hx => ih x (by have := zfm (k := vk) (n := vn) x hx; omega) (by have := zer (k := vk) (n := vn) x hx; omega)
  have htk := zrP ht
  have hto : zaJ data 0 (.mk k n ks) = true := by rw [zaH, Bool.and_eq_true] at ht; exact ht.2
  have htn : (VT.mk k n ks).nodes ≤ 200 := by rw [zaH, Bool.and_eq_true] at ht; exact of_decide_eq_true ht.1
  obtain ⟨f1, f2, f3⟩ := zeq hD.k
  have loop : ∀ (hk : ks.length = 1) , zat data (.mk vk vn vks) (.mk k n ks) = zcc data vks (ks[0]'(by omega)) →
    znW (.sl (data.map Dat.cs) .none) (.ptr H.length 0) (.ptr (H.length + 1) 0) (.int .i64 vks.length) (.int .i64 0) (H ++ [.cells [.int .i64 vk, .int .i64 vn, .sl (VT.css vks) .none], .cells [.int .i64 k, .int .i64 n, .sl (VT.css ks) .none]]) (Out H.length K) := by
   intro hk e
   have hk0 : 0 < ks.length := by omega
   refine zGy (Inv := fun q t10 H' => ∃ i : Nat, i ≤ vks.length ∧ q = vks.length - i ∧ t10 = .int .i64 i ∧ zcc data (vks.drop i) ks[0] = zcc data vks ks[0] ∧ H' = H ++ [.cells [.int .i64 vk, .int .i64 vn, .sl (VT.css vks) .none], .cells [.int .i64 k, .int .i64 n, .sl (VT.css ks) .none]]) vks.length ?_ ?_
   ·intro _; exact ⟨0, by omega, by omega, rfl, by simp, rfl⟩
   rintro q t10 H' ⟨i, hi, rfl, rfl, ho, rfl⟩ hsc hle hsF Kb hKb
   by_cases hlt : i < vks.length
   ·rw [zpY hlt] at ho
    obtain ⟨x, y, z, hvx, hx, hy, hz⟩ := zaE vks[i]
    obtain ⟨x2, y2, z2, hvx2, hx2, hy2, hz2⟩ := zaE ks[0]
    simp [znU, hlt, hvx, hk0, hvx2]
    rw [← hvx, ← hvx2]
    refine zbq (.bool (zat data vks[i] ks[0])) (fun J => hkids _ (List.getElem_mem hlt) ks[0] (htk _ (List.getElem_mem hk0)) _ _ ⟨rfl, rfl⟩) ?_
    cases hb2 : zat data vks[i] ks[0] with
    | false =>
     rw [hb2, Bool.false_and] at ho
     simp
     exact hO _ _ (e.trans ho.symm)
    | true =>
     rw [hb2, Bool.true_and] at ho
     simp
     rw [zaq (by omega) (by omega)]
     refine hKb _ _ ⟨vks.length - (i + 1), by omega, Back.here (by simp) hsc ?_ ⟨_, rfl, i + 1, by omega, rfl, by simp, ho, rfl⟩⟩
     simp [zjd, AV.sc, AV.scV, AV.scA, AV.scB]
   ·obtain rfl : i = vks.length := by omega
    rw [List.drop_length, zcc] at ho
    simp [znU]
    exact hO _ _ (e.trans ho.symm)
  rcases zrQ hto with ⟨rfl, rfl⟩ | ⟨rfl, rfl⟩ | ⟨rfl, rfl⟩ | rfl | ⟨rfl, hk⟩ | ⟨rfl, hk⟩ | ⟨rfl, hk⟩ | ⟨rfl, hk⟩
  ·simp [zdi, VT.cs, Nat.add_assoc]
   cases h1 : (vk == 3) <;> simp
   ·exact hO _ _ (by simp [zat, h1])
   by_cases h2 : -1099511627776 ≤ vn <;> simp [h2]
   ·by_cases h3 : vn ≤ 1099511627776 <;> simp [h3]
    ·exact hO _ _ (by simp [zat, h1, h2, h3, i0])
    ·exact hO _ _ (by simp [zat, h1, h2, h3])
   ·exact hO _ _ (by simp [zat, h1, h2])
  ·simp [zdi, VT.cs, Nat.add_assoc]
   cases h1 : (vk == 2) <;> simp
   ·exact hO _ _ (by simp [zat, h1])
   cases h2 : (vn == 0) <;> simp
   ·cases h3 : (vn == 1) <;> simp
    ·exact hO _ _ (by simp [zat, h1, h2, h3])
    ·exact hO _ _ (by simp [zat, h1, h2, h3, i0])
   ·exact hO _ _ (by simp [zat, h1, h2, i0])
  ·simp [zdi, VT.cs, Nat.add_assoc]
   cases h1 : (vk == 1) <;> simp
   ·exact hO _ _ (by simp [zat, h1])
   cases h2 : (vn == 0) <;> simp
   ·exact hO _ _ (by simp [zat, h1, h2])
   ·exact hO _ _ (by simp [zat, h1, h2, i0])
  ·-- a data type
   simp [zdi, VT.cs, Nat.add_assoc]
   cases h1 : (vk == 5) with
   | false =>
    have : (vk != 5) = true := by simp [bne, h1]
    simp [this]
    exact hO _ _ (by simp [zat, h1])
   | true =>
   have h1' : (vk != 5) = false := by simp [bne, h1]
   by_cases h2 : vn < 0
   ·simp [h1', h2]
    exact hO _ _ (by simp [zat, h1]; omega)
   by_cases h3 : 8 ≤ vn
   ·simp [h1', h2, h3]
    exact hO _ _ (by simp [zat, h1]; omega)
   simp [h1', h2, h3, Nat.add_assoc]
   have e : ∀ o, za7 data (.mk 5 n ks) vn = o → zat data (.mk vk vn vks) (.mk 5 n ks) = zdu data vks o := fun o ho => by
    have q1 : 0 ≤ vn := by omega
    have q2 : vn < 8 := by omega
    simp [zat, h1, q1, q2, ho]
   have hcs : (VT.mk 5 n ks).cs = [.int .i64 5, .int .i64 n, .sl (VT.css ks) .none] := rfl
   rw [← hcs]
   refine zDD data f1 f2 f3 (.mk 5 n ks) (by omega) vn _ _ ?_
   cases hf : za7 data (.mk 5 n ks) vn with
   | none =>
    simp [zcL]
    exact hO _ _ (by rw [e _ hf, zkw])
   | some l =>
    simp [zcL, hcs]
    refine zvC vks l (by omega) hkids (zpL hD.ok hto hf) _ _ ?_
    exact hO _ _ (by rw [e _ hf, zkx])
  ·simp [zdi, VT.cs, Nat.add_assoc]
   cases h1 : (vk == 4) <;> simp
   ·exact hO _ _ (by simp [zat, h1])
   cases h2 : (vn == 0) <;> simp
   ·exact hO _ _ (by simp [zat, h1, h2])
   refine zvC vks ks (by omega) hkids htk _ _ ?_
   exact hO _ _ (by simp [zat, h1, h2])
  ·-- an array
   simp [zdi, zf0, VT.cs, Nat.add_assoc]
   have hk0 : 0 < ks.length := by omega
   cases h1 : (vk == 6) with
   | false =>
    have : (vk != 6) = true := by simp [bne, h1]
    simp [this]
    exact hO _ _ (by simp [zat, h1])
   | true =>
   have h1' : (vk != 6) = false := by simp [bne, h1]
   by_cases h3 : vks.length ≤ 4096
   case neg =>
    have h3' : (4096 : Int) < vks.length := by omega
    simp [h1', h3']
    exact hO _ _ (by simp [zat, h1, h3])
   have h3' : ¬ (4096 : Int) < vks.length := by omega
   cases h2 : (vn == 0) with
   | false =>
    have : (vn != 0) = true := by simp [bne, h2]
    simp [h1', h3', this]
    exact hO _ _ (by simp [zat, h1, h2])
   | true =>
   have h2' : (vn != 0) = false := by simp [bne, h2]
   simp [h1', h3', h2']
   exact loop hk (by have := zpU hk0; simp [zat, h1, h2, h3, this, hk0])
  ·simp [zdi, zf0, VT.cs, Nat.add_assoc]
   have hk0 : 0 < ks.length := by omega
   cases h1 : (vk == 7) with
   | false =>
    have : (vk != 7) = true := by simp [bne, h1]
    simp [this]
    exact hO _ _ (by simp [zat, h1])
   | true =>
   have h1' : (vk != 7) = false := by simp [bne, h1]
   by_cases h3 : vks.length = 1
   case neg =>
    have h3' : ((vks.length : Int) != 1) = true := by simp; omega
    simp [h1', h3']
    refine hO _ _ ?_
    have : zbs data vks ks = false := by rw [zgk]; exact zgj (by omega)
    simp [zat, h1, this]
   have h3' : ((vks.length : Int) != 1) = false := by simp; omega
   cases h2 : (vn == 0) with
   | false =>
    have : (vn != 0) = true := by simp [bne, h2]
    simp [h1', h3', this]
    exact hO _ _ (by simp [zat, h1, h2])
   | true =>
   have h2' : (vn != 0) = false := by simp [bne, h2]
   simp [h1', h3', h2']
   exact loop hk (by rw [← zw1 h3 hk]; simp [zat, h1, h2])
  ·simp [zdi, zf0, VT.cs, Nat.add_assoc]
   cases h1 : (vk == 8) <;> simp
   ·exact hO _ _ (by simp [zat, h1])
   by_cases h2 : 0 ≤ vn <;> simp [h2]
   ·by_cases h3 : vn < 64 <;> simp [h3]
    ·exact hO _ _ (by simp [zat, h1, h2, h3, i0])
    ·exact hO _ _ (by simp [zat, h1, h2, h3])
   ·exact hO _ _ (by simp [zat, h1, h2])
end
def zbN (data : List Dat) (v t : VT) : Bool := zbf data t && zat data v t
theorem zp8 {data : List Dat} (h : zbp data) : zf8 data := fun D hD => by
 obtain ⟨_, h2⟩ := h
 obtain ⟨_, h3, h4⟩ := h2 D hD
 refine ⟨by omega, fun c hc => ?_⟩
 obtain ⟨_, h5, h6⟩ := h4 c hc
 exact ⟨by omega, fun x hx => by have := h6 x hx; omega⟩
theorem zuw (data : List Dat) (hk : zbp data) (v t : VT) (hv : v.nodes ≤ 5000) (ht : t.nodes ≤ 1000000) (H : zaa) (K : Kt) (hK : K (.bool (zbN data v t)) H) :
  ACalls tP zgT [.sl (data.map Dat.cs) .none, .agg v.cs, .agg t.cs] H K := by
 refine ACalls.out (zFO fun hs => ?_)
 have hO : ∀ b J, zbN data v t = b → Out H.length K (.bool b) (H ++ J) := fun b J h => Out.bool rfl (Nat.le_refl _) hs (h ▸ hK)
 obtain ⟨x, y, z, hvx, hx, hy, hz⟩ := zaE v
 obtain ⟨x2, y2, z2, hvx2, hx2, hy2, hz2⟩ := zaE t
 simp [zuv, hvx, hvx2, Nat.add_assoc]
 rw [← hvx, ← hvx2]
 refine zH4 data (zp8 hk) (by have := hk.1; omega) t ht ?_
 cases hf : zbf data t with
 | false =>
  simp
  exact hO _ _ (by simp [zbN, hf])
 | true =>
  have hf' := hf
  rw [zbf, Bool.and_eq_true] at hf'
  simp [Nat.add_assoc]
  refine zH8 _ v (Nat.le_refl _) 5000 (by omega) (by omega) _ (H.length + 2) (by simp) _ ?_
  simp [Nat.add_assoc]
  refine zIc ⟨hf'.1, hk⟩ _ v (Nat.le_refl _) (by omega) t hf'.2 _ _ ?_
  exact hO _ _ (by simp [zbN, hf])
end Go.Proofs.YtjkkonpjecoieaaGreat
